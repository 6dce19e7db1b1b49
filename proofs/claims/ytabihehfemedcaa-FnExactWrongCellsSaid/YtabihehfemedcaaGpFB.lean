/- Forced values, counts and wrong cells, as the spec tells them. -/
import Derived.Test.YtabihehfemedcaaGpFA
set_option linter.unusedSimpArgs false
set_option linter.unusedVariables false
set_option maxRecDepth 100000
namespace Go.Lg
open Go.Proofs

theorem allS_full {p : Puz} {most : Nat} : ∀ s ∈ allS p most, GrdN s p.size.toNat ∧ ∀ k : Nat, k < p.given.length → 0 < nth s k := by
  intro s hs
  unfold allS at hs
  split at hs
  · rename_i h
    obtain ⟨hp, hz⟩ := PuzN.of h.1
    have hg := GrdN.of hp.hn (xs := p.given) (by rw [hz]; exact puzzleValid_grid' h.1)
    obtain ⟨q1, q2, _⟩ := sols_full p _ _ (Nat.le_refl _) hg (fun k hk => absurd hk (by omega)) s (List.mem_of_mem_take hs)
    exact ⟨q1, fun k hk => q2 k (by rw [← hg.len]; exact hk)⟩
  · simp at hs
theorem allS_len (p : Puz) (most : Nat) : (allS p most).length ≤ most := by
  unfold allS
  split
  · rw [List.length_take]; omega
  · simp
theorem allS_cell {p : Puz} (hv : puzzleValid p = true) {most : Nat} {s : List Int} (hs : s ∈ allS p most) : s.length = p.given.length := by
  obtain ⟨hp, hz⟩ := PuzN.of hv
  rw [(allS_full s hs).1.len, hp.len]
theorem forcedL_cons (g : List Int) (L : List (List Int)) (c : Int) : forcedL (g :: L) c = if ∀ h ∈ L, nth h c = nth g c then nth g c else 0 := rfl
theorem sForcedValue_run (p : Puz) (c : Int) (hx : smP p) : Reads Try.prog 30 [aP p, int c] (int (forcedV p c)) := by
  have hgl := hx.1
  have hle := allS_len p 600
  refine RunCall.cw (c := _) Try.func30 rfl (n := 50) Try.ntmps30 (rs := [.tmp 4]) rfl ?_
  simp only [List.length_cons, List.length_nil, Nat.reduceAdd, Nat.reduceSub, List.replicate, List.cons_append, List.nil_append]
  simp (maxSteps := 1000000) (disch := omega) only [go_sem, Nat.reduceAdd, Nat.reduceMul, Nat.reduceSub, Nat.reduceEqDiff, Nat.reduceLeDiff]
  intro g
  first | refine OpS.rd (sPuzzleValid_run p hx) (⟨_, Try.func52, rfl, rfl⟩ : Enters Try.prog 52) rfl rfl rfl rfl ?_ | refine Loud.rd (sPuzzleValid_run p hx) (⟨_, Try.func52, rfl, rfl⟩ : Enters Try.prog 52) rfl rfl rfl rfl ?_
  simp (maxSteps := 1000000) (disch := omega) only [go_sem, Nat.reduceAdd, Nat.reduceMul, Nat.reduceSub, Nat.reduceEqDiff, Nat.reduceLeDiff]
  (first | with_reducible refine guardK_dec (fun h1 => ?_) (fun h1 => ?_) <;> simp (maxSteps := 1000000) (disch := omega) only [go_sem, Nat.reduceAdd, Nat.reduceMul, Nat.reduceSub, Nat.reduceEqDiff, Nat.reduceLeDiff, h1] | with_reducible refine guardK_ndec (fun h1 => ?_) (fun h1 => ?_) <;> simp (maxSteps := 1000000) (disch := omega) only [go_sem, Nat.reduceAdd, Nat.reduceMul, Nat.reduceSub, Nat.reduceEqDiff, Nat.reduceLeDiff, h1] | with_reducible refine guardK_nb (fun h1 => ?_) (fun h1 => ?_) <;> simp (maxSteps := 1000000) (disch := omega) only [go_sem, Nat.reduceAdd, Nat.reduceMul, Nat.reduceSub, Nat.reduceEqDiff, Nat.reduceLeDiff, h1] | with_reducible refine guardK_split (fun h1 => ?_) (fun h1 => ?_) <;> simp (maxSteps := 1000000) (disch := omega) only [go_sem, Nat.reduceAdd, Nat.reduceMul, Nat.reduceSub, Nat.reduceEqDiff, Nat.reduceLeDiff, h1] | with_reducible refine guardQ_dec (fun h1 => ?_) (fun h1 => ?_) <;> simp (maxSteps := 1000000) (disch := omega) only [go_sem, Nat.reduceAdd, Nat.reduceMul, Nat.reduceSub, Nat.reduceEqDiff, Nat.reduceLeDiff, h1] | with_reducible refine guardL_dec (fun h1 => ?_) (fun h1 => ?_) <;> simp (maxSteps := 1000000) (disch := omega) only [go_sem, Nat.reduceAdd, Nat.reduceMul, Nat.reduceSub, Nat.reduceEqDiff, Nat.reduceLeDiff, h1] | with_reducible refine guardQ_ndec (fun h1 => ?_) (fun h1 => ?_) <;> simp (maxSteps := 1000000) (disch := omega) only [go_sem, Nat.reduceAdd, Nat.reduceMul, Nat.reduceSub, Nat.reduceEqDiff, Nat.reduceLeDiff, h1] | with_reducible refine guardL_ndec (fun h1 => ?_) (fun h1 => ?_) <;> simp (maxSteps := 1000000) (disch := omega) only [go_sem, Nat.reduceAdd, Nat.reduceMul, Nat.reduceSub, Nat.reduceEqDiff, Nat.reduceLeDiff, h1] | with_reducible refine guardQ_nb (fun h1 => ?_) (fun h1 => ?_) <;> simp (maxSteps := 1000000) (disch := omega) only [go_sem, Nat.reduceAdd, Nat.reduceMul, Nat.reduceSub, Nat.reduceEqDiff, Nat.reduceLeDiff, h1] | with_reducible refine guardL_nb (fun h1 => ?_) (fun h1 => ?_) <;> simp (maxSteps := 1000000) (disch := omega) only [go_sem, Nat.reduceAdd, Nat.reduceMul, Nat.reduceSub, Nat.reduceEqDiff, Nat.reduceLeDiff, h1] | with_reducible refine guardQ_split (fun h1 => ?_) (fun h1 => ?_) <;> simp (maxSteps := 1000000) (disch := omega) only [go_sem, Nat.reduceAdd, Nat.reduceMul, Nat.reduceSub, Nat.reduceEqDiff, Nat.reduceLeDiff, h1] | with_reducible refine guardL_split (fun h1 => ?_) (fun h1 => ?_) <;> simp (maxSteps := 1000000) (disch := omega) only [go_sem, Nat.reduceAdd, Nat.reduceMul, Nat.reduceSub, Nat.reduceEqDiff, Nat.reduceLeDiff, h1])
  rotate_left
  · unfold forcedV
    rw [if_neg (fun h => by rw [h.1] at h1; cases h1)]
  first | refine OpS.rd (l1In_run _ _ _) (⟨_, Try.func66, rfl, rfl⟩ : Enters Try.prog 66) rfl rfl rfl rfl ?_ | refine Loud.rd (l1In_run _ _ _) (⟨_, Try.func66, rfl, rfl⟩ : Enters Try.prog 66) rfl rfl rfl rfl ?_
  simp (maxSteps := 1000000) (disch := omega) only [go_sem, Nat.reduceAdd, Nat.reduceMul, Nat.reduceSub, Nat.reduceEqDiff, Nat.reduceLeDiff]
  (first | with_reducible refine condK_dec (fun h2 => ?_) (fun h2 => ?_) | with_reducible refine condK_ndec (fun h2 => ?_) (fun h2 => ?_) | with_reducible refine condK_nb (fun h2 => ?_) (fun h2 => ?_) | refine condK_b (fun h2 => ?_) (fun h2 => ?_))
  rotate_left
  · simp (maxSteps := 1000000) (disch := omega) only [go_sem, Nat.reduceAdd, Nat.reduceMul, Nat.reduceSub, Nat.reduceEqDiff, Nat.reduceLeDiff]
    unfold forcedV
    rw [if_neg (by omega)]
  simp (maxSteps := 1000000) (disch := omega) only [go_sem, Nat.reduceAdd, Nat.reduceMul, Nat.reduceSub, Nat.reduceEqDiff, Nat.reduceLeDiff]
  first | refine OpS.mk (l5All_run p 600 (by omega) hx) (⟨_, Try.func81, rfl, rfl⟩ : Enters Try.prog 81) rfl rfl rfl rfl rfl ?_ | refine Loud.mk (l5All_run p 600 (by omega) hx) (⟨_, Try.func81, rfl, rfl⟩ : Enters Try.prog 81) rfl rfl rfl rfl rfl ?_
  simp (maxSteps := 1000000) (disch := omega) only [go_sem, Nat.reduceAdd, Nat.reduceMul, Nat.reduceSub, Nat.reduceEqDiff, Nat.reduceLeDiff]
  have hcell := fun s hs => allS_cell (most := 600) (s := s) h1 hs
  have hV : forcedV p c = forcedL (allS p 600) c := by unfold forcedV; rw [if_pos ⟨h1, by omega⟩]
  rw [hV]
  generalize allS p 600 = L at hle hcell
  refine loop_rule (fun k : Nat => L.length - k) (fun k => 1 ≤ k ∧ (k ≤ L.length ∨ k = 1) ∧ ∀ j : Nat, 1 ≤ j → j < k → nth (nth L j) c = nth (nth L 0) c) (fun k => [.a, .k, .a, .a, .a, .k, .p (int k), .a, .a, .a, .a, .a, .a, .a, .a, .a, .a, .a, .a, .a, .a, .a, .a, .a, .a, .a, .a, .a, .a, .a, .a, .a, .a, .a, .a, .a, .a, .a, .a, .a, .a, .a, .a, .a, .a, .a, .a, .a, .a, .a]) (fun _ => []) 1 ⟨Nat.le_refl _, .inr rfl, fun j h1 h2 => by omega⟩ (by simp (maxSteps := 1000000) (disch := omega) only [go_sem, Nat.reduceAdd, Nat.reduceMul, Nat.reduceSub, Nat.reduceEqDiff, Nat.reduceLeDiff]; rfl) (hle_nil _) ?_
  rintro k ⟨hk1, hk2, hall⟩
  have hmem : ∀ j : Nat, j < L.length → (nth L j).length = p.given.length := fun j hj => hcell _ (nth_mem hj)
  simp (maxSteps := 1000000) (disch := omega) only [go_sem, Nat.reduceAdd, Nat.reduceMul, Nat.reduceSub, Nat.reduceEqDiff, Nat.reduceLeDiff]
  (first | with_reducible refine condK_dec (fun c1 => ?_) (fun c1 => ?_) | with_reducible refine condK_ndec (fun c1 => ?_) (fun c1 => ?_) | with_reducible refine condK_nb (fun c1 => ?_) (fun c1 => ?_) | refine condK_b (fun c1 => ?_) (fun c1 => ?_))
  · have c1 : k < L.length := by omega
    have e1 := hmem k c1
    have e0 : (nth L (0 : Int)).length = p.given.length := hmem 0 (by omega)
    simp (maxSteps := 1000000) (disch := omega) only [go_sem, Nat.reduceAdd, Nat.reduceMul, Nat.reduceSub, Nat.reduceEqDiff, Nat.reduceLeDiff]
    refine drawP_q foll (by kernel_rfl) ?_
    simp (maxSteps := 1000000) (disch := omega) only [go_sem, Nat.reduceBEq, Bool.true_or, Nat.reduceAdd, Nat.reduceMul, Nat.reduceSub, Nat.reduceEqDiff, Nat.reduceLeDiff]
    (first | with_reducible refine condK_dec (fun c2 => ?_) (fun c2 => ?_) | with_reducible refine condK_ndec (fun c2 => ?_) (fun c2 => ?_) | with_reducible refine condK_nb (fun c2 => ?_) (fun c2 => ?_) | refine condK_b (fun c2 => ?_) (fun c2 => ?_))
    · simp (maxSteps := 1000000) (disch := omega) only [go_sem, Nat.reduceAdd, Nat.reduceMul, Nat.reduceSub, Nat.reduceEqDiff, Nat.reduceLeDiff]
      refine ⟨k + 1, ⟨⟨by omega, by omega, fun j h1 h2 => ?_⟩, by omega⟩, by push_cast; omega, hle_nil _⟩
      by_cases hjk : j = k
      · rw [hjk]; exact c2
      · exact hall j h1 (by omega)
    · simp (maxSteps := 1000000) (disch := omega) only [go_sem, Nat.reduceAdd, Nat.reduceMul, Nat.reduceSub, Nat.reduceEqDiff, Nat.reduceLeDiff]
      cases L with
      | nil => simp at c1
      | cons s L =>
        rw [forcedL_cons, if_neg]
        intro h
        refine c2 (h _ ?_)
        obtain ⟨j, rfl⟩ : ∃ j, k = j + 1 := ⟨k - 1, by omega⟩
        have := nth_eq (xs := s :: L) (e := ((j + 1 : Nat) : Int)) (by simp only [List.length_cons] at c1 ⊢; omega)
        rw [this]
        simp only [Int.toNat_natCast, List.getElem_cons_succ]
        exact List.getElem_mem _
  · simp (maxSteps := 1000000) (disch := omega) only [go_sem, Nat.reduceAdd, Nat.reduceMul, Nat.reduceSub, Nat.reduceEqDiff, Nat.reduceLeDiff]
    (first | with_reducible refine condK_dec (fun c3 => ?_) (fun c3 => ?_) | with_reducible refine condK_ndec (fun c3 => ?_) (fun c3 => ?_) | with_reducible refine condK_nb (fun c3 => ?_) (fun c3 => ?_) | refine condK_b (fun c3 => ?_) (fun c3 => ?_))
    · simp (maxSteps := 1000000) (disch := omega) only [go_sem, Nat.reduceAdd, Nat.reduceMul, Nat.reduceSub, Nat.reduceEqDiff, Nat.reduceLeDiff]
      have : L = [] := List.eq_nil_of_length_eq_zero (by omega)
      subst this
      rfl
    · have e0 : (nth L (0 : Int)).length = p.given.length := hmem 0 (by omega)
      simp (maxSteps := 1000000) (disch := omega) only [go_sem, Nat.reduceAdd, Nat.reduceMul, Nat.reduceSub, Nat.reduceEqDiff, Nat.reduceLeDiff]
      cases L with
      | nil => simp at c3
      | cons s L =>
        rw [forcedL_cons, if_pos]
        · rfl
        · intro h hh
          obtain ⟨j, hj, rfl⟩ := List.mem_iff_getElem.1 hh
          simp only [List.length_cons] at c1 hk2
          have := hall (j + 1) (by omega) (by omega)
          rw [nth_eq (xs := s :: L) (e := ((j + 1 : Nat) : Int)) (by simp only [List.length_cons]; omega)] at this
          simp only [Int.toNat_natCast, List.getElem_cons_succ] at this
          exact this
attribute [-go_sem] appendM
/-- What is given, with the first values of a grid. -/
def withT (a b : List Int) (k : Nat) : List Int := (withL a b).take k ++ a.drop k
theorem withT_0 (a b : List Int) : withT a b 0 = a := by simp [withT]
theorem withT_len {a b : List Int} {k : Nat} : (withT a b k).length = a.length := by simp [withT, withL_len]; omega
theorem withT_all {a b : List Int} {k : Nat} (h : a.length ≤ k) : withT a b k = withL a b := by
  unfold withT
  rw [List.take_of_length_le (by rw [withL_len]; exact h), List.drop_of_length_le h, List.append_nil]
theorem withT_pos {a b : List Int} {k : Nat} (h : k < a.length) (h0 : 0 < nth b k) : (withT a b k).set k (nth b k) = withT a b (k + 1) := by
  have e : (withL a b).take (k + 1) = (withL a b).take k ++ [nth b k] := by rw [take_succ_nth (by rw [withL_len]; exact h), withL_nth h, if_pos h0]
  unfold withT
  rw [e, List.set_append_right _ _ (by rw [List.length_take, withL_len]; omega), List.length_take, withL_len, Nat.min_eq_left (by omega), Nat.sub_self, List.drop_eq_getElem_cons h, List.set_cons_zero, List.append_assoc]
  rfl
theorem withT_neg {a b : List Int} {k : Nat} (h : k < a.length) (h0 : ¬ 0 < nth b k) : withT a b (k + 1) = withT a b k := by
  have e : (withL a b).take (k + 1) = (withL a b).take k ++ [nth a k] := by rw [take_succ_nth (by rw [withL_len]; exact h), withL_nth h, if_neg h0]
  unfold withT
  rw [e, List.append_assoc]
  congr 1
  rw [List.drop_eq_getElem_cons h, nth_eq (by omega)]
  simp
theorem l23With_run (p : Puz) (xs : List Int) (hx : p.given.length ≤ 2 ^ 40) (hl : p.given.length ≤ xs.length) (h0 : 0 < p.given.length) : Reads Try.prog 86 [aP p, ints xs] (aP (withP p xs)) := by
  refine Reads.iced ?_
  refine RunCall.cw (c := _) Try.func86 rfl (n := 35) Try.ntmps86 (rs := [.cell 4 37]) rfl ?_
  simp only [List.length_cons, List.length_nil, Nat.reduceAdd, Nat.reduceSub, List.replicate, List.cons_append, List.nil_append]
  simp (maxSteps := 1000000) (disch := omega) only [go_sem, Nat.reduceAdd, Nat.reduceMul, Nat.reduceSub, Nat.reduceEqDiff, Nat.reduceLeDiff]
  intro g0 g1 g2
  refine appendM_copyF (HI := [_, _]) (sliceOf_of' ti23 rfl ti3) ⟨rfl, rfl, rfl⟩ ⟨h0, hx⟩ ?_
  intro g3
  simp (maxSteps := 1000000) (disch := omega) only [go_sem, Nat.reduceAdd, Nat.reduceMul, Nat.reduceSub, Nat.reduceEqDiff, Nat.reduceLeDiff]
  refine loop_rule (fun k : Nat => p.given.length - k) (fun k => k ≤ p.given.length) (fun k => [.a, .k, .k, .a, .k, .k, .p (int k), .a, .a, .a, .a, .a, .a, .a, .a, .a, .a, .a, .a, .a, .a, .a, .a, .a, .a, .a, .a, .a, .a, .a, .a, .a, .a, .a, .a]) (fun k => [some ⟨g0, 1, cP p⟩, some ⟨g1, 3, [CV.f (FV.int IntKind.i64 0), CV.f FV.nil, CV.f FV.nil]⟩, some ⟨g3, 1, cl (eI .i64) (withT p.given xs k)⟩]) 0 (Nat.zero_le _) (by simp (maxSteps := 1000000) (disch := omega) only [go_sem, Nat.reduceAdd, Nat.reduceMul, Nat.reduceSub, Nat.reduceEqDiff, Nat.reduceLeDiff]; rfl) (by rw [withT_0]; exact HLe.refl _) ?_
  intro k hk
  have hwl := withT_len (a := p.given) (b := xs) (k := k)
  simp (maxSteps := 1000000) (disch := omega) only [go_sem, Nat.reduceAdd, Nat.reduceMul, Nat.reduceSub, Nat.reduceEqDiff, Nat.reduceLeDiff]
  (first | with_reducible refine condK_dec (fun c1 => ?_) (fun c1 => ?_) | with_reducible refine condK_ndec (fun c1 => ?_) (fun c1 => ?_) | with_reducible refine condK_nb (fun c1 => ?_) (fun c1 => ?_) | refine condK_b (fun c1 => ?_) (fun c1 => ?_))
  · have c1 : k < p.given.length := by omega
    simp (maxSteps := 1000000) (disch := omega) only [go_sem, Nat.reduceAdd, Nat.reduceMul, Nat.reduceSub, Nat.reduceEqDiff, Nat.reduceLeDiff]
    (first | with_reducible refine condK_dec (fun c2 => ?_) (fun c2 => ?_) | with_reducible refine condK_ndec (fun c2 => ?_) (fun c2 => ?_) | with_reducible refine condK_nb (fun c2 => ?_) (fun c2 => ?_) | refine condK_b (fun c2 => ?_) (fun c2 => ?_))
    · simp (maxSteps := 1000000) (disch := omega) only [go_sem, Nat.reduceAdd, Nat.reduceMul, Nat.reduceSub, Nat.reduceEqDiff, Nat.reduceLeDiff]
      rw [Int.toNat_natCast, withT_pos c1 c2]
      exact ⟨k + 1, ⟨by omega, by omega⟩, by push_cast; omega, HLe.refl _⟩
    · simp (maxSteps := 1000000) (disch := omega) only [go_sem, Nat.reduceAdd, Nat.reduceMul, Nat.reduceSub, Nat.reduceEqDiff, Nat.reduceLeDiff]
      refine ⟨k + 1, ⟨by omega, by omega⟩, by push_cast; omega, ?_⟩
      rw [withT_neg c1 c2]
      exact HLe.refl _
  · simp (maxSteps := 1000000) (disch := omega) only [go_sem, Nat.reduceAdd, Nat.reduceMul, Nat.reduceSub, Nat.reduceEqDiff, Nat.reduceLeDiff]
    rw [withT_all (by omega)]
    have hown : OwnI [some ⟨g0, 1, cP p⟩, some ⟨g1, 3, [CV.f (FV.int IntKind.i64 p.size), CV.own 2 g3 0 p.given.length none, CV.f (fsl eR p.rules)]⟩, some ⟨g3, 1, cl (eI .i64) (withL p.given xs)⟩] (.own 2 g3 0 p.given.length none) (withL p.given xs) [2] := by
      have := OwnI.o (H := [some ⟨g0, 1, cP p⟩, some ⟨g1, 3, [CV.f (FV.int IntKind.i64 p.size), CV.own 2 g3 0 p.given.length none, CV.f (fsl eR p.rules)]⟩, some ⟨g3, 1, cl (eI .i64) (withL p.given xs)⟩]) 2 g3 none (withL p.given xs) [] (by rw [List.append_nil]; simp only [go_sem])
      rwa [withL_len] at this
    refine lessQ_ice ?_
    have hf := hown.frzC
    show (([_, _, _] : List CV).mapM (Lg.frzC _)).map AV.agg = _
    simp only [List.mapM_cons, List.mapM_nil, hf, Option.bind_eq_bind, Option.pure_def]
    rfl
end Go.Lg
