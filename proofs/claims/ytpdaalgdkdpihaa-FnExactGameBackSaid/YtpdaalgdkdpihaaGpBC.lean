/- A move of a game taken back, as the spec takes it. -/
import Derived.Test.YtpdaalgdkdpihaaGpBB
set_option linter.unusedSimpArgs false
set_option linter.unusedVariables false
set_option maxRecDepth 100000
namespace Go.Lg
open Go.Proofs

theorem frz_take {H : Heap} {id g n : Nat} {lim : Option Nat} {xs : List Int} (h : look H id g = some ⟨g, 1, cl (eI .i64) xs⟩) (hn : n ≤ xs.length) : frzC H (.own id g 0 n lim) = some (.f (fints (xs.take n))) := by
  have := (OwnI.o id g lim (xs.take n) (xs.drop n) (by rw [List.take_append_drop]; exact h)).frzC
  rwa [List.length_take, Nat.min_eq_left hn] at this
theorem sGameBack_run (q : Gam) (hx : smG q) : Reads Try.prog 30 [aG q] (.tup [aG (gameBack q), bool (gameBackB q)]) := by
  refine Reads.iced ?_
  refine RunCall.cw (c := _) Try.func30 rfl (n := 33) Try.ntmps30 (rs := [.cell 2 34, .tmp 3]) rfl ?_
  simp only [List.length_cons, List.length_nil, Nat.reduceAdd, Nat.reduceSub, List.replicate, List.cons_append, List.nil_append]
  simp (maxSteps := 1000000) (disch := omega) only [go_sem, Nat.reduceAdd, Nat.reduceMul, Nat.reduceSub, Nat.reduceEqDiff, Nat.reduceLeDiff]
  intro g1 g2
  first | refine OpS.rd (sGameValid_run q hx) (⟨_, Try.func41, rfl, rfl⟩ : Enters Try.prog 41) rfl rfl rfl rfl ?_ | refine Loud.rd (sGameValid_run q hx) (⟨_, Try.func41, rfl, rfl⟩ : Enters Try.prog 41) rfl rfl rfl rfl ?_
  simp (maxSteps := 1000000) (disch := omega) only [go_sem, Nat.reduceAdd, Nat.reduceMul, Nat.reduceSub, Nat.reduceEqDiff, Nat.reduceLeDiff]
  (first | with_reducible refine condK_dec (fun h => ?_) (fun h => ?_) | with_reducible refine condK_ndec (fun h => ?_) (fun h => ?_) | with_reducible refine condK_nb (fun h => ?_) (fun h => ?_) | refine condK_b (fun h => ?_) (fun h => ?_))
  · simp (maxSteps := 1000000) (disch := omega) only [go_sem, Nat.reduceAdd, Nat.reduceMul, Nat.reduceSub, Nat.reduceEqDiff, Nat.reduceLeDiff]
    obtain ⟨h1, h2, h3, h4, h5, h6⟩ := gameValid_facts h
    refine OpS.mkC (l25Copy_own q hx) (⟨_, Try.func60, rfl, rfl⟩ : Enters Try.prog 60) rfl rfl rfl ?_
    intro c3 c4 H1 S3 S4 k3 k4 n3 m3 m4
    simp (maxSteps := 1000000) (disch := omega) only [go_sem, Nat.reduceAdd, Nat.reduceMul, Nat.reduceSub, Nat.reduceEqDiff, Nat.reduceLeDiff]
    intro g3
    simp (maxSteps := 1000000) (disch := omega) only [go_sem, Nat.reduceAdd, Nat.reduceMul, Nat.reduceSub, Nat.reduceEqDiff, Nat.reduceLeDiff, look_last, set_last]
    simp only [List.length_cons, List.length_nil, List.cons_append, List.nil_append] at k3 k4 m3 m4
    obtain ⟨HA, hHA⟩ : ∃ HA : Heap, HA = some ⟨g1, 1, cG q⟩ :: some ⟨g2, 5, [.f (.int .i64 0), .f .nil, .f .nil, .f .nil, .f .nil]⟩ :: (H1 ++ [some ⟨g3, 5, [.f (.int .i64 q.task.size), .f (fints q.task.given), .f (fsl eR q.task.rules), c3, c4]⟩]) := ⟨_, rfl⟩
    have mv : ∀ k, 2 ≤ k ∧ k < 2 + H1.length → ∀ X1 X2 : Option Blk, HA[k]? = (X1 :: X2 :: H1)[k]? := fun k hk X1 X2 => by
      rw [hHA, cons2 hk.1, cons2 hk.1, List.getElem?_append_left (by omega)]
    have e3 := k3.same (H' := HA) fun k hk => mv k (by have := m3 k hk; omega) _ _
    have e4 := k4.same (H' := HA) fun k hk => mv k (by have := m4 k hk; omega) _ _
    have b0 : look HA 0 g1 = some ⟨g1, 1, cG q⟩ := by rw [hHA]; simp only [go_sem]
    have b1 : look HA 1 g2 = some ⟨g2, 5, [.f (.int .i64 0), .f .nil, .f .nil, .f .nil, .f .nil]⟩ := by rw [hHA]; simp only [go_sem]
    have b2 : look HA (H1.length + 1 + 1) g3 = some ⟨g3, 5, [.f (.int .i64 q.task.size), .f (fints q.task.given), .f (fsl eR q.task.rules), c3, c4]⟩ := by rw [hHA]; simp only [go_sem]; exact look_last
    have hlA : HA.length = H1.length + 3 := by rw [hHA]; simp
    rw [← hHA]
    clear hHA k3 k4
    by_cases hm : q.moves = []
    · have r1 : gameBack q = q := by simp [gameBack, h, hm]
      have r2 : gameBackB q = false := by simp [gameBackB, hm]
      have fin : ∀ {X : Option Blk}, lessQ (HA.set 1 X) (iceQ (.tup [aG (gameBack q), bool (gameBackB q)])) (.tup [.agg [.f (.int .i64 q.task.size), .f (fints q.task.given), .f (fsl eR q.task.rules), c3, c4], .c (.f (.bool false))]) := fun {X} =>
        have hX : ∀ k, 2 ≤ k → (HA.set 1 X)[k]? = HA[k]? := fun k hk => by rw [List.getElem?_set_ne (by omega)]
        ice_fin r1 r2 (e3.same fun k hk => hX k (by have := m3 k hk; omega)).frzC (e4.same fun k hk => hX k (by have := m4 k hk; omega)).frzC
      rcases e4.inv0 hm with rfl | ⟨id4, g4, rfl, l4⟩
      · simp (maxSteps := 1000000) (disch := omega) only [go_sem, Nat.reduceAdd, Nat.reduceMul, Nat.reduceSub, Nat.reduceEqDiff, Nat.reduceLeDiff, lt_yes, lt_no, b2]
        rw [b1]
        simp (maxSteps := 1000000) (disch := omega) only [go_sem, Nat.reduceAdd, Nat.reduceMul, Nat.reduceSub, Nat.reduceEqDiff, Nat.reduceLeDiff]
        rw [look_set_eq (by omega)]
        simp (maxSteps := 1000000) (disch := omega) only [go_sem, Nat.reduceAdd, Nat.reduceMul, Nat.reduceSub, Nat.reduceEqDiff, Nat.reduceLeDiff]
        exact fin
      · simp (maxSteps := 1000000) (disch := omega) only [go_sem, Nat.reduceAdd, Nat.reduceMul, Nat.reduceSub, Nat.reduceEqDiff, Nat.reduceLeDiff, lt_yes, lt_no, b2, l4]
        rw [b1]
        simp (maxSteps := 1000000) (disch := omega) only [go_sem, Nat.reduceAdd, Nat.reduceMul, Nat.reduceSub, Nat.reduceEqDiff, Nat.reduceLeDiff]
        rw [look_set_eq (by omega)]
        simp (maxSteps := 1000000) (disch := omega) only [go_sem, Nat.reduceAdd, Nat.reduceMul, Nat.reduceSub, Nat.reduceEqDiff, Nat.reduceLeDiff]
        exact fin
    obtain ⟨hl0, hl1⟩ := last_move h4 hm
    obtain ⟨mi, hmi⟩ : ∃ mi : Nat, nth q.moves ((q.moves.length : Int) - 1) = mi := ⟨(nth q.moves ((q.moves.length : Int) - 1)).toNat, by omega⟩
    have r1 : gameBack q = ⟨q.task, q.put.set mi 0, q.moves.take (q.moves.length - 1)⟩ := by simp [gameBack, h, hm, hmi]
    have r2 : gameBackB q = true := by simp [gameBackB, h, hm]
    have hne : q.put ≠ [] := by intro h0; rw [h0] at hl1; simp at hl1; omega
    have hmp : 0 < q.moves.length := List.length_pos_iff.2 hm
    obtain ⟨id3, g4, rfl, rfl, l3⟩ := e3.inv hne
    obtain ⟨id4, g5, rfl, rfl, l4⟩ := e4.inv hm
    have hi3 := m3 id3 (by simp)
    have hi4 := m4 id4 (by simp)
    have hni : id3 ≠ id4 := fun he => n3 id3 (by simp) (by simp [he])
    have hml : mi < q.put.length := by omega
    have hix : ∀ zs : List Int, 0 < zs.length → ((zs.length : Int) - 1).toNat = zs.length - 1 := fun zs hz => by omega
    simp (maxSteps := 1000000) (disch := omega) only [go_sem, Nat.reduceAdd, Nat.reduceMul, Nat.reduceSub, Nat.reduceEqDiff, Nat.reduceLeDiff, lt_yes, lt_no, b2, l4]
    refine drawP_lM [0, 1, 2, 3, 4, 5, 6] [] none [7, 8] [] [0, 1, 0, 4, 0, 28, 60, 127, 255] foll (by kernel_rfl) ?_
    simp (maxSteps := 1000000) (disch := omega) only [go_sem, Nat.reduceAdd, Nat.reduceMul, Nat.reduceSub, Nat.reduceEqDiff, Nat.reduceLeDiff, b2, l3, l4, hmi]
    rw [Int.toNat_natCast]
    have hlt3 : id3 < HA.length := by omega
    obtain ⟨HB, hHB⟩ : ∃ HB : Heap, HB = HA.set id3 (some ⟨g4, 1, cl (eI .i64) (q.put.set mi 0)⟩) := ⟨_, rfl⟩
    have hB : ∀ k, k ≠ id3 → HB[k]? = HA[k]? := fun k hk => by rw [hHB, List.getElem?_set_ne (Ne.symm hk)]
    have hlB : HB.length = H1.length + 3 := by rw [hHB, List.length_set, hlA]
    have l5 : look HB id4 g5 = some ⟨g5, 1, cl (eI .i64) q.moves⟩ := by unfold look; rw [hB _ (Ne.symm hni)]; exact l4
    have l6 : look HB id3 g4 = some ⟨g4, 1, cl (eI .i64) (q.put.set mi 0)⟩ := by rw [hHB]; exact look_of (b := ⟨g4, 1, cl (eI .i64) (q.put.set mi 0)⟩) (by rw [List.getElem?_set_self hlt3])
    have b3 : look HB 1 g2 = some ⟨g2, 5, [.f (.int .i64 0), .f .nil, .f .nil, .f .nil, .f .nil]⟩ := by unfold look; rw [hB 1 (by omega)]; exact b1
    have b4 : look HB (H1.length + 1 + 1) g3 = some ⟨g3, 5, [.f (.int .i64 q.task.size), .f (fints q.task.given), .f (fsl eR q.task.rules), .own id3 g4 0 q.put.length none, .own id4 g5 0 q.moves.length none]⟩ := by unfold look; rw [hB _ (by omega)]; exact b2
    rw [← hHB]
    clear hHB e3 e4 b1 b2 l3 l4
    simp (maxSteps := 1000000) (disch := omega) only [go_sem, Nat.reduceAdd, Nat.reduceMul, Nat.reduceSub, Nat.reduceEqDiff, Nat.reduceLeDiff, b4, l5]
    rw [hix _ hmp, sliceV_ownT ti22 rfl ti3 rfl l5 rfl (by simp only [cl_length]; omega)]
    simp (maxSteps := 1000000) (disch := omega) only [go_sem, Nat.reduceAdd, Nat.reduceMul, Nat.reduceSub, Nat.reduceEqDiff, Nat.reduceLeDiff, b4]
    rw [look_set_eq (by omega)]
    simp (maxSteps := 1000000) (disch := omega) only [go_sem, Nat.reduceAdd, Nat.reduceMul, Nat.reduceSub, Nat.reduceEqDiff, Nat.reduceLeDiff]
    rw [look_set_ne (by omega), b3]
    simp (maxSteps := 1000000) (disch := omega) only [go_sem, Nat.reduceAdd, Nat.reduceMul, Nat.reduceSub, Nat.reduceEqDiff, Nat.reduceLeDiff]
    rw [look_set_eq (by rw [List.length_set]; omega)]
    simp (maxSteps := 1000000) (disch := omega) only [go_sem, Nat.reduceAdd, Nat.reduceMul, Nat.reduceSub, Nat.reduceEqDiff, Nat.reduceLeDiff]
    have hD : ∀ {X Y : Option Blk} {k g : Nat}, 2 ≤ k ∧ k < 2 + H1.length → look ((HB.set (H1.length + 1 + 1) X).set 1 Y) k g = look HB k g := fun hk => by
      rw [look_set_ne (by omega), look_set_ne (by omega)]
    refine ice_fin (q := ⟨q.task, q.put.set mi 0, q.moves.take (q.moves.length - 1)⟩) r1 r2 ?_ (frz_take (by rw [hD (by omega)]; exact l5) (by omega))
    have := frz_take (lim := none) (n := (q.put.set mi 0).length) (by rw [hD (X := some ⟨g3, 5, [.f (.int .i64 q.task.size), .f (fints q.task.given), .f (fsl eR q.task.rules), .own id3 g4 0 q.put.length none, .own id4 g5 0 (q.moves.length - 1) none]⟩) (Y := some ⟨g2, 5, [.f (.int .i64 q.task.size), .f (fints q.task.given), .f (fsl eR q.task.rules), .own id3 g4 0 q.put.length none, .own id4 g5 0 (q.moves.length - 1) none]⟩) (k := id3) (g := g4) (by omega)]; exact l6) (Nat.le_refl _)
    rwa [List.take_length, List.length_set] at this
  · simp (maxSteps := 1000000) (disch := omega) only [go_sem, Nat.reduceAdd, Nat.reduceMul, Nat.reduceSub, Nat.reduceEqDiff, Nat.reduceLeDiff]
    refine ice_fin0 ?_ ?_
    · simp [gameBack, h]
    · simp [gameBackB, h]
end Go.Lg
