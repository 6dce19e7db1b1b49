/- GpEH, GpFD, GpM, GpFF, cut to what is needed. -/
import Derived.Test.YtcopagjhklcokaaQbd5
import Derived.Test.YtcopagjhklcokaaQbc5
import Derived.Test.YtcopagjhklcokaaQbd1
import Derived.Test.YtcopagjhklcokaaQbd0
import Derived.Test.YtcopagjhklcokaaQbb5
import Derived.Test.YtcopagjhklcokaaQbb3
set_option linter.unusedSimpArgs false
set_option linter.unusedVariables false
set_option maxRecDepth 100000
namespace Go.Lg
open Go.Proofs
attribute [-go_sem] appendM lwF_cons
theorem solutions_run {p : Puz} {n : Nat} (hp : PuzN p n) (hv : puzzleValid p = true) (most : Nat) (hmo : 1 ≤ most ∧ most ≤ 600) (H : Heap) (xs : List Int) (hg : GrdN xs n) (hext : Ext p xs) (pid pg mid mg : Nat) (S : List Nat) (hml : look H mid mg = some ⟨mg, 1, [.f (.int .i64 most)]⟩) (hmp : mid ≠ pid) (hmS : mid ∉ S) (hout : OutL H pid pg [] S) (hSl : ∀ k ∈ S, k < H.length) :
    RunCall Try.prog 109 [aP p, ints xs, .c (.fn 110 [(pid, pg), (mid, mg)])] H (fun v H' => v = .tup [] ∧ ∃ S', OutL H' pid pg (if fitsL p xs n = true then (sols p n (n * n) xs).take most else []) S') := by
  have hn := hp.hn
  have hz := hp.size
  have hxl := hg.len
  have hsq : 4 ≤ n * n ∧ n * n ≤ 16 := by rcases hn with rfl | rfl | rfl <;> omega
  have hplt : pid < H.length := by
    obtain ⟨⟨oid, og, cs, o1, _⟩, _⟩ := hout
    exact (List.getElem?_eq_some_iff.1 (look_some o1).1).1
  refine RunCall.cw (c := _) Try.func109 rfl (n := 20) Try.ntmps109 (rs := []) rfl ?_
  simp only [List.length_cons, List.length_nil, Nat.reduceAdd, Nat.reduceSub, List.replicate, List.cons_append, List.nil_append]
  simp (maxSteps := 1000000) (disch := omega) only [go_sem, Nat.reduceAdd, Nat.reduceMul, Nat.reduceSub, Nat.reduceEqDiff, Nat.reduceLeDiff]
  intro g0 g1
  refine OpS.mkDQ (Clone_q xs (by omega) (fun h => by rw [h] at hxl; simp at hxl; omega)) (⟨_, Try.func106, rfl, rfl⟩ : Enters Try.prog 106) rfl rfl rfl ?_
  intro g2
  obtain ⟨HA, hHA⟩ : ∃ HA : Heap, HA = H ++ [some ⟨g0, 1, cP p⟩] ++ [some ⟨g1, 1, [CV.fn 110 [(pid, pg), (mid, mg)]]⟩] ++ [some ⟨g2, 1, cl (eI .i64) xs⟩] := ⟨_, rfl⟩
  have hAl : HA.length = H.length + 3 := by rw [hHA]; simp
  have hAg : ∀ k, k < H.length → HA[k]? = H[k]? := fun k hk => by rw [hHA, List.append_assoc, List.append_assoc, List.getElem?_append_left hk]
  have a0 : look HA H.length g0 = some ⟨g0, 1, cP p⟩ := by rw [hHA]; exact look_appL (look_appL look_last)
  have a1 : look HA (H.length + 1) g1 = some ⟨g1, 1, [CV.fn 110 [(pid, pg), (mid, mg)]]⟩ := by
    rw [hHA]
    refine look_appL ?_
    have := look_last (H := H ++ [some ⟨g0, 1, cP p⟩]) (g := g1) (sz := 1) (cs := [CV.fn 110 [(pid, pg), (mid, mg)]])
    rwa [List.length_append, List.length_singleton] at this
  have a2 : look HA (H.length + 1 + 1) g2 = some ⟨g2, 1, cl (eI .i64) xs⟩ := by
    rw [hHA]
    have := look_last (H := H ++ [some ⟨g0, 1, cP p⟩] ++ [some ⟨g1, 1, [CV.fn 110 [(pid, pg), (mid, mg)]]⟩]) (g := g2) (sz := 1) (cs := cl (eI .i64) xs)
    rwa [List.length_append, List.length_append, List.length_singleton, List.length_singleton] at this
  show vwK _ _ _ _ _ _ (.c (.own (H ++ [some ⟨g0, 1, cP p⟩] ++ [some ⟨g1, 1, [CV.fn 110 [(pid, pg), (mid, mg)]]⟩] : Heap).length g2 0 xs.length none)) (H ++ [some ⟨g0, 1, cP p⟩] ++ [some ⟨g1, 1, [CV.fn 110 [(pid, pg), (mid, mg)]]⟩] ++ [some ⟨g2, 1, cl (eI .i64) xs⟩] : Heap)
  rw [← hHA]
  clear hHA
  simp (maxSteps := 1000000) (disch := omega) only [go_sem, Nat.reduceAdd, Nat.reduceMul, Nat.reduceSub, Nat.reduceEqDiff, Nat.reduceLeDiff, look_last, set_last]
  intro g3
  obtain ⟨HB, hHB⟩ : ∃ HB : Heap, HB = HA ++ [some ⟨g3, 1, [CV.own (H.length + 1 + 1) g2 0 xs.length none]⟩] := ⟨_, rfl⟩
  have hBl : HB.length = HA.length + 1 := by rw [hHB]; simp
  have b0 : look HB H.length g0 = some ⟨g0, 1, cP p⟩ := by rw [hHB]; exact look_appL a0
  have b1 : look HB (H.length + 1) g1 = some ⟨g1, 1, [CV.fn 110 [(pid, pg), (mid, mg)]]⟩ := by rw [hHB]; exact look_appL a1
  have b2 : look HB (H.length + 1 + 1) g2 = some ⟨g2, 1, cl (eI .i64) xs⟩ := by rw [hHB]; exact look_appL a2
  have b3 : look HB HA.length g3 = some ⟨g3, 1, [CV.own (H.length + 1 + 1) g2 0 xs.length none]⟩ := by rw [hHB]; exact look_last
  have hBg : ∀ k, k < H.length → HB[k]? = H[k]? := fun k hk => by rw [hHB, List.getElem?_append_left (by omega)]; exact hAg k hk
  rw [← hHB]
  clear hHB
  have hown : OwnI HB (.own (H.length + 1 + 1) g2 0 xs.length none) xs [H.length + 1 + 1] := OwnI.o (H := HB) (H.length + 1 + 1) g2 none xs [] (by rw [List.append_nil]; exact b2)
  simp (maxSteps := 1000000) (disch := omega) only [go_sem, Nat.reduceAdd, Nat.reduceMul, Nat.reduceSub, Nat.reduceEqDiff, Nat.reduceLeDiff, b0, b3]
  refine OpS.rdD (PuzzleFits_run hp hv xs hg) (⟨_, Try.func82, rfl, rfl⟩ : Enters Try.prog 82) rfl rfl (snap_two rfl hown.snap) rfl ?_
  simp (maxSteps := 1000000) (disch := omega) only [go_sem, Nat.reduceAdd, Nat.reduceMul, Nat.reduceSub, Nat.reduceEqDiff, Nat.reduceLeDiff]
  (first | with_reducible refine condK_dec (fun c1 => ?_) (fun c1 => ?_) | with_reducible refine condK_ndec (fun c1 => ?_) (fun c1 => ?_) | with_reducible refine condK_nb (fun c1 => ?_) (fun c1 => ?_) | refine condK_b (fun c1 => ?_) (fun c1 => ?_))
  rotate_left
  · simp (maxSteps := 1000000) (disch := omega) only [go_sem, Nat.reduceAdd, Nat.reduceMul, Nat.reduceSub, Nat.reduceEqDiff, Nat.reduceLeDiff]
    exact ⟨HB, HLe.refl _, rfl, S, by rw [if_neg (by rw [c1]; simp)]; exact hout.same fun k hk => hBg k (by rcases hk with rfl | hk; exact hplt; exact hSl k hk)⟩
  simp (maxSteps := 1000000) (disch := omega) only [go_sem, Nat.reduceAdd, Nat.reduceMul, Nat.reduceSub, Nat.reduceEqDiff, Nat.reduceLeDiff, b0, look_last, set_last]
  rw [hz]
  intro g4
  obtain ⟨HC, hHC⟩ : ∃ HC : Heap, HC = HB ++ [some ⟨g4, 1, [CV.f (FV.int .i64 n)]⟩] := ⟨_, rfl⟩
  have hCl : HC.length = HB.length + 1 := by rw [hHC]; simp
  have lC : ∀ g sz cs, look (HC ++ [some ⟨g, sz, cs⟩]) (HB.length + 1) g = some ⟨g, sz, cs⟩ := fun g sz cs => by rw [← hCl]; exact look_last
  have sC : ∀ x y, (HC ++ [x]).set (HB.length + 1) y = HC ++ [y] := fun x y => by rw [← hCl]; exact set_last
  have hC0 : ∀ {k g : Nat} {b : Blk}, look HB k g = some b → look HC k g = some b := fun h => by rw [hHC]; exact look_appL h
  have c4 : look HC HB.length g4 = some ⟨g4, 1, [CV.f (FV.int .i64 n)]⟩ := by rw [hHC]; exact look_last
  have hCg : ∀ k, k < H.length → HC[k]? = H[k]? := fun k hk => by rw [hHC, List.getElem?_append_left (by omega)]; exact hBg k hk
  rw [← hHC]
  clear hHC
  intro g5
  simp (maxSteps := 1000000) (disch := omega) only [go_sem, Nat.reduceAdd, Nat.reduceMul, Nat.reduceSub, Nat.reduceEqDiff, Nat.reduceLeDiff, lC, sC, List.mapM_cons, List.mapM_nil, capOf, Option.bind_eq_bind, Option.pure_def, Option.bind_some]
  refine ⟨rfl, ?_⟩
  obtain ⟨HD, hHD⟩ : ∃ HD : Heap, HD = HC ++ [some ⟨g5, 1, [CV.fn 142 [(HA.length, g3), (H.length + 1, g1), (HB.length + 1, g5), (HB.length, g4), (H.length, g0)]]⟩] := ⟨_, rfl⟩
  have d5 : look HD (HB.length + 1) g5 = some ⟨g5, 1, [CV.fn 142 [(HA.length, g3), (H.length + 1, g1), (HB.length + 1, g5), (HB.length, g4), (H.length, g0)]]⟩ := by rw [hHD]; exact lC _ _ _
  have hD0 : ∀ {k g : Nat} {b : Blk}, look HC k g = some b → look HD k g = some b := fun h => by rw [hHD]; exact look_appL h
  have hDg : ∀ k, k < H.length → HD[k]? = H[k]? := fun k hk => by rw [hHD, List.getElem?_append_left (by omega)]; exact hCg k hk
  have hDl : HD.length = HC.length + 1 := by rw [hHD]; simp
  rw [← hHD]
  clear hHD
  have hmlt := (List.getElem?_eq_some_iff.1 (look_some hml).1).1
  have hT : TryH 110 142 p n most ⟨HA.length, g3, H.length + 1, g1, HB.length + 1, g5, HB.length, g4, H.length, g0, mid, mg, pid, pg, H.length + 1 + 1, g2⟩ HD :=
    ⟨by have := hD0 (hC0 b3); rw [hxl] at this; exact this, hD0 (hC0 b1), d5, hD0 c4, hD0 (hC0 b0), by unfold look; rw [hDg mid hmlt]; exact hml⟩
  have hrun := try_run hp most hmo.2 _ (by
      intro k hk
      simp only [Cap.ids, List.mem_cons, List.not_mem_nil, or_false] at hk ⊢
      rcases hk with rfl | rfl | rfl | rfl | rfl | rfl <;> omega) (by show H.length + 1 + 1 ≠ pid; omega) (n * n) HD xs [] S (Nat.le_refl _) hg c1 hext hT (by
      intro k hk hS
      have := hSl k hS
      simp only [Cap.ids, List.mem_cons, List.not_mem_nil, or_false] at hk
      rcases hk with rfl | rfl | rfl | rfl | rfl | rfl
      · omega
      · omega
      · omega
      · omega
      · omega
      · exact hmS hS) (hD0 (hC0 b2)) (fun h => by have := hSl _ h; simp only at this; omega) (by simp; omega) (hout.same fun k hk => hDg k (by rcases hk with rfl | hk; exact hplt; exact hSl k hk)) (fun k hk => by have := hSl k hk; omega)
  rw [Nat.sub_self] at hrun
  refine OpS.runFn hrun (⟨_, Try.func142, rfl, rfl⟩ : Enters Try.prog 142) rfl (target_all (caps := [(HA.length, g3), (H.length + 1, g1), (HB.length + 1, g5), (HB.length, g4), (H.length, g0)]) (by simp [hT.g, hT.t, hT.y, hT.z, hT.b])) rfl ?_
  rintro _ H2 ⟨l, hl, rfl, S2, ys, o2, _⟩
  simp (maxSteps := 1000000) (disch := omega) only [go_sem, Nat.reduceAdd, Nat.reduceMul, Nat.reduceSub, Nat.reduceEqDiff, Nat.reduceLeDiff]
  rw [List.nil_append, List.length_nil, Nat.sub_zero] at hl
  exact ⟨H2, HLe.refl _, rfl, S2, by rw [if_pos c1, ← hl]; exact o2⟩
theorem firstSolutions_run {p : Puz} {n : Nat} (hp : PuzN p n) (hv : puzzleValid p = true) (most : Nat) (hmo : 1 ≤ most ∧ most ≤ 600) (xs : List Int) (hg : GrdN xs n) (hext : Ext p xs) :
    Reads Try.prog 67 [aP p, ints xs, int most] (rsl eL (if fitsL p xs n = true then (sols p n (n * n) xs).take most else [])) := by
  refine Reads.iced ?_
  refine RunCall.cw (c := _) Try.func67 rfl (n := 14) Try.ntmps67 (rs := [.tmp 6]) rfl ?_
  simp only [List.length_cons, List.length_nil, Nat.reduceAdd, Nat.reduceSub, List.replicate, List.cons_append, List.nil_append]
  simp (maxSteps := 1000000) (disch := omega) only [go_sem, Nat.reduceAdd, Nat.reduceMul, Nat.reduceSub, Nat.reduceEqDiff, Nat.reduceLeDiff, List.mapM_cons, List.mapM_nil, capOf, Option.bind_eq_bind, Option.pure_def, Option.bind_some]
  intro g0 g1 g2 g3
  refine ⟨rfl, ?_⟩
  have hr := solutions_run hp hv most hmo [some ⟨g0, 1, cP p⟩, some ⟨g1, 1, [.f (.int .i64 most)]⟩, some ⟨g2, 1, []⟩, some ⟨g3, 1, [CV.own 2 g2 0 0 none]⟩] xs hg hext 3 g3 1 g1 [2] (by simp only [go_sem]) (by omega) (by simp)
    ⟨⟨2, g2, [], by simp only [go_sem], by simp only [go_sem], by simp, rfl, fun i hi => by simp at hi⟩, by simp⟩ (by simp)
  refine OpS.run hr (⟨_, Try.func109, rfl, rfl⟩ : Enters Try.prog 109) rfl rfl ?_
  rintro _ H2 ⟨rfl, S2, o2⟩
  generalize (if fitsL p xs n = true then (sols p n (n * n) xs).take most else []) = R at o2
  obtain ⟨oid, og, k1, k2⟩ := o2.frz
  simp (maxSteps := 1000000) (disch := omega) only [go_sem, Nat.reduceAdd, Nat.reduceMul, Nat.reduceSub, Nat.reduceEqDiff, Nat.reduceLeDiff, k1]
  exact lessQ_ice (by simp only [frzA, frz1, k2, Option.map_some])
end Go.Lg

set_option linter.unusedSimpArgs false
set_option linter.unusedVariables false
set_option maxRecDepth 100000
namespace Go.Lg
open Go.Proofs
theorem ext_given (p : Puz) : Ext p p.given := fun k h => by omega
theorem allS_first {p : Puz} (hv : puzzleValid p = true) (most : Nat) : (if fitsL p p.given p.size.toNat = true then (sols p p.size.toNat (p.size.toNat * p.size.toNat) p.given).take most else []) = allS p most := by
  unfold allS
  by_cases h : fitsL p p.given p.size.toNat = true
  · rw [if_pos h, if_pos ⟨hv, h⟩]
  · rw [if_neg h, if_neg (fun h' => h h'.2)]
theorem first_all {p : Puz} (hv : puzzleValid p = true) (most : Nat) (hmo : 1 ≤ most ∧ most ≤ 600) : Reads Try.prog 67 [aP p, ints p.given, int most] (rsl eL (allS p most)) := by
  obtain ⟨hp, hz⟩ := PuzN.of hv
  have hg := GrdN.of hp.hn (xs := p.given) (by rw [hz]; exact puzzleValid_grid' hv)
  have := firstSolutions_run hp hv most hmo p.given hg (ext_given p)
  rwa [allS_first hv] at this
end Go.Lg

set_option linter.unusedSimpArgs false
set_option linter.unusedVariables false
set_option maxRecDepth 100000
namespace Go.Lg
open Go.Proofs
def RO.setV (o : RO) (k : Int) : RO := { o with r := { o.r with val := k } }
end Go.Lg

set_option linter.unusedSimpArgs false
set_option linter.unusedVariables false
set_option maxRecDepth 100000
namespace Go.Lg
open Go.Proofs
def countV (p : Puz) (most : Int) : Int := if puzzleValid p = true ∧ 1 ≤ most ∧ most ≤ 600 then (allS p most.toNat).length else -1
def firstV (p : Puz) : List Int := nth (allS p 1) 0
theorem allS_no {p : Puz} (h : ¬ puzzleValid p = true) (most : Nat) : allS p most = [] := by unfold allS; rw [if_neg (fun h' => h h'.1)]
theorem CountSolutions_run (p : Puz) (most : Int) (hx : smP p) : Reads Try.prog 19 [aP p, int most] (int (countV p most)) := by
  refine RunCall.cw (c := _) Try.func19 rfl (n := 22) Try.ntmps19 (rs := [.tmp 4]) rfl ?_
  simp only [List.length_cons, List.length_nil, Nat.reduceAdd, Nat.reduceSub, List.replicate, List.cons_append, List.nil_append]
  simp (maxSteps := 1000000) (disch := omega) only [go_sem, Nat.reduceAdd, Nat.reduceMul, Nat.reduceSub, Nat.reduceEqDiff, Nat.reduceLeDiff]
  intro g
  first | refine OpS.rd (PuzzleValid_run p hx) (⟨_, Try.func66, rfl, rfl⟩ : Enters Try.prog 66) rfl rfl rfl rfl ?_ | refine Loud.rd (PuzzleValid_run p hx) (⟨_, Try.func66, rfl, rfl⟩ : Enters Try.prog 66) rfl rfl rfl rfl ?_
  simp (maxSteps := 1000000) (disch := omega) only [go_sem, Nat.reduceAdd, Nat.reduceMul, Nat.reduceSub, Nat.reduceEqDiff, Nat.reduceLeDiff]
  (first | with_reducible refine guardK_dec (fun h1 => ?_) (fun h1 => ?_) <;> simp (maxSteps := 1000000) (disch := omega) only [go_sem, Nat.reduceAdd, Nat.reduceMul, Nat.reduceSub, Nat.reduceEqDiff, Nat.reduceLeDiff, h1] | with_reducible refine guardK_ndec (fun h1 => ?_) (fun h1 => ?_) <;> simp (maxSteps := 1000000) (disch := omega) only [go_sem, Nat.reduceAdd, Nat.reduceMul, Nat.reduceSub, Nat.reduceEqDiff, Nat.reduceLeDiff, h1] | with_reducible refine guardK_nb (fun h1 => ?_) (fun h1 => ?_) <;> simp (maxSteps := 1000000) (disch := omega) only [go_sem, Nat.reduceAdd, Nat.reduceMul, Nat.reduceSub, Nat.reduceEqDiff, Nat.reduceLeDiff, h1] | with_reducible refine guardK_split (fun h1 => ?_) (fun h1 => ?_) <;> simp (maxSteps := 1000000) (disch := omega) only [go_sem, Nat.reduceAdd, Nat.reduceMul, Nat.reduceSub, Nat.reduceEqDiff, Nat.reduceLeDiff, h1] | with_reducible refine guardQ_dec (fun h1 => ?_) (fun h1 => ?_) <;> simp (maxSteps := 1000000) (disch := omega) only [go_sem, Nat.reduceAdd, Nat.reduceMul, Nat.reduceSub, Nat.reduceEqDiff, Nat.reduceLeDiff, h1] | with_reducible refine guardL_dec (fun h1 => ?_) (fun h1 => ?_) <;> simp (maxSteps := 1000000) (disch := omega) only [go_sem, Nat.reduceAdd, Nat.reduceMul, Nat.reduceSub, Nat.reduceEqDiff, Nat.reduceLeDiff, h1] | with_reducible refine guardQ_ndec (fun h1 => ?_) (fun h1 => ?_) <;> simp (maxSteps := 1000000) (disch := omega) only [go_sem, Nat.reduceAdd, Nat.reduceMul, Nat.reduceSub, Nat.reduceEqDiff, Nat.reduceLeDiff, h1] | with_reducible refine guardL_ndec (fun h1 => ?_) (fun h1 => ?_) <;> simp (maxSteps := 1000000) (disch := omega) only [go_sem, Nat.reduceAdd, Nat.reduceMul, Nat.reduceSub, Nat.reduceEqDiff, Nat.reduceLeDiff, h1] | with_reducible refine guardQ_nb (fun h1 => ?_) (fun h1 => ?_) <;> simp (maxSteps := 1000000) (disch := omega) only [go_sem, Nat.reduceAdd, Nat.reduceMul, Nat.reduceSub, Nat.reduceEqDiff, Nat.reduceLeDiff, h1] | with_reducible refine guardL_nb (fun h1 => ?_) (fun h1 => ?_) <;> simp (maxSteps := 1000000) (disch := omega) only [go_sem, Nat.reduceAdd, Nat.reduceMul, Nat.reduceSub, Nat.reduceEqDiff, Nat.reduceLeDiff, h1] | with_reducible refine guardQ_split (fun h1 => ?_) (fun h1 => ?_) <;> simp (maxSteps := 1000000) (disch := omega) only [go_sem, Nat.reduceAdd, Nat.reduceMul, Nat.reduceSub, Nat.reduceEqDiff, Nat.reduceLeDiff, h1] | with_reducible refine guardL_split (fun h1 => ?_) (fun h1 => ?_) <;> simp (maxSteps := 1000000) (disch := omega) only [go_sem, Nat.reduceAdd, Nat.reduceMul, Nat.reduceSub, Nat.reduceEqDiff, Nat.reduceLeDiff, h1])
  rotate_left
  · unfold countV
    rw [if_neg (fun h => by rw [h.1] at h1; cases h1)]
  (first | with_reducible refine guardK_dec (fun h2 => ?_) (fun h2 => ?_) <;> simp (maxSteps := 1000000) (disch := omega) only [go_sem, Nat.reduceAdd, Nat.reduceMul, Nat.reduceSub, Nat.reduceEqDiff, Nat.reduceLeDiff, h2] | with_reducible refine guardK_ndec (fun h2 => ?_) (fun h2 => ?_) <;> simp (maxSteps := 1000000) (disch := omega) only [go_sem, Nat.reduceAdd, Nat.reduceMul, Nat.reduceSub, Nat.reduceEqDiff, Nat.reduceLeDiff, h2] | with_reducible refine guardK_nb (fun h2 => ?_) (fun h2 => ?_) <;> simp (maxSteps := 1000000) (disch := omega) only [go_sem, Nat.reduceAdd, Nat.reduceMul, Nat.reduceSub, Nat.reduceEqDiff, Nat.reduceLeDiff, h2] | with_reducible refine guardK_split (fun h2 => ?_) (fun h2 => ?_) <;> simp (maxSteps := 1000000) (disch := omega) only [go_sem, Nat.reduceAdd, Nat.reduceMul, Nat.reduceSub, Nat.reduceEqDiff, Nat.reduceLeDiff, h2] | with_reducible refine guardQ_dec (fun h2 => ?_) (fun h2 => ?_) <;> simp (maxSteps := 1000000) (disch := omega) only [go_sem, Nat.reduceAdd, Nat.reduceMul, Nat.reduceSub, Nat.reduceEqDiff, Nat.reduceLeDiff, h2] | with_reducible refine guardL_dec (fun h2 => ?_) (fun h2 => ?_) <;> simp (maxSteps := 1000000) (disch := omega) only [go_sem, Nat.reduceAdd, Nat.reduceMul, Nat.reduceSub, Nat.reduceEqDiff, Nat.reduceLeDiff, h2] | with_reducible refine guardQ_ndec (fun h2 => ?_) (fun h2 => ?_) <;> simp (maxSteps := 1000000) (disch := omega) only [go_sem, Nat.reduceAdd, Nat.reduceMul, Nat.reduceSub, Nat.reduceEqDiff, Nat.reduceLeDiff, h2] | with_reducible refine guardL_ndec (fun h2 => ?_) (fun h2 => ?_) <;> simp (maxSteps := 1000000) (disch := omega) only [go_sem, Nat.reduceAdd, Nat.reduceMul, Nat.reduceSub, Nat.reduceEqDiff, Nat.reduceLeDiff, h2] | with_reducible refine guardQ_nb (fun h2 => ?_) (fun h2 => ?_) <;> simp (maxSteps := 1000000) (disch := omega) only [go_sem, Nat.reduceAdd, Nat.reduceMul, Nat.reduceSub, Nat.reduceEqDiff, Nat.reduceLeDiff, h2] | with_reducible refine guardL_nb (fun h2 => ?_) (fun h2 => ?_) <;> simp (maxSteps := 1000000) (disch := omega) only [go_sem, Nat.reduceAdd, Nat.reduceMul, Nat.reduceSub, Nat.reduceEqDiff, Nat.reduceLeDiff, h2] | with_reducible refine guardQ_split (fun h2 => ?_) (fun h2 => ?_) <;> simp (maxSteps := 1000000) (disch := omega) only [go_sem, Nat.reduceAdd, Nat.reduceMul, Nat.reduceSub, Nat.reduceEqDiff, Nat.reduceLeDiff, h2] | with_reducible refine guardL_split (fun h2 => ?_) (fun h2 => ?_) <;> simp (maxSteps := 1000000) (disch := omega) only [go_sem, Nat.reduceAdd, Nat.reduceMul, Nat.reduceSub, Nat.reduceEqDiff, Nat.reduceLeDiff, h2])
  · unfold countV
    rw [if_neg (by omega)]
  (first | with_reducible refine condK_dec (fun h3 => ?_) (fun h3 => ?_) | with_reducible refine condK_ndec (fun h3 => ?_) (fun h3 => ?_) | with_reducible refine condK_nb (fun h3 => ?_) (fun h3 => ?_) | refine condK_b (fun h3 => ?_) (fun h3 => ?_))
  · simp (maxSteps := 1000000) (disch := omega) only [go_sem, Nat.reduceAdd, Nat.reduceMul, Nat.reduceSub, Nat.reduceEqDiff, Nat.reduceLeDiff]
    unfold countV
    rw [if_neg (by omega)]
  obtain ⟨k, rfl⟩ : ∃ k : Nat, most = k := ⟨most.toNat, by omega⟩
  simp (maxSteps := 1000000) (disch := omega) only [go_sem, Nat.reduceAdd, Nat.reduceMul, Nat.reduceSub, Nat.reduceEqDiff, Nat.reduceLeDiff]
  first | refine OpS.mk (first_all h1 k (by omega)) (⟨_, Try.func67, rfl, rfl⟩ : Enters Try.prog 67) rfl rfl rfl rfl rfl ?_ | refine Loud.mk (first_all h1 k (by omega)) (⟨_, Try.func67, rfl, rfl⟩ : Enters Try.prog 67) rfl rfl rfl rfl rfl ?_
  simp (maxSteps := 1000000) (disch := omega) only [go_sem, Nat.reduceAdd, Nat.reduceMul, Nat.reduceSub, Nat.reduceEqDiff, Nat.reduceLeDiff]
  unfold countV
  rw [if_pos ⟨h1, by omega, by omega⟩, Int.toNat_natCast]
theorem onlyOne_run (p : Puz) (hx : smP p) : Reads Try.prog 60 [aP p] (bool (decide (countV p 2 = 1))) := by
  refine RunCall.cw (c := _) Try.func60 rfl (n := 6) Try.ntmps60 (rs := [.tmp 2]) rfl ?_
  simp only [List.length_cons, List.length_nil, Nat.reduceAdd, Nat.reduceSub, List.replicate, List.cons_append, List.nil_append]
  simp (maxSteps := 1000000) (disch := omega) only [go_sem, Nat.reduceAdd, Nat.reduceMul, Nat.reduceSub, Nat.reduceEqDiff, Nat.reduceLeDiff]
  intro g
  first | refine OpS.rd (CountSolutions_run p 2 hx) (⟨_, Try.func19, rfl, rfl⟩ : Enters Try.prog 19) rfl rfl rfl rfl ?_ | refine Loud.rd (CountSolutions_run p 2 hx) (⟨_, Try.func19, rfl, rfl⟩ : Enters Try.prog 19) rfl rfl rfl rfl ?_
  simp (maxSteps := 1000000) (disch := omega) only [go_sem, Nat.reduceAdd, Nat.reduceMul, Nat.reduceSub, Nat.reduceEqDiff, Nat.reduceLeDiff]
theorem SolveFirst_run (p : Puz) (hx : smP p) : Reads Try.prog 20 [aP p] (.tup [ints (firstV p), bool (decide (0 < (allS p 1).length))]) := by
  refine Reads.iced ?_
  refine RunCall.cw (c := _) Try.func20 rfl (n := 18) Try.ntmps20 (rs := [.tmp 2, .tmp 3]) rfl ?_
  simp only [List.length_cons, List.length_nil, Nat.reduceAdd, Nat.reduceSub, List.replicate, List.cons_append, List.nil_append]
  simp (maxSteps := 1000000) (disch := omega) only [go_sem, Nat.reduceAdd, Nat.reduceMul, Nat.reduceSub, Nat.reduceEqDiff, Nat.reduceLeDiff]
  intro g
  first | refine OpS.rd (PuzzleValid_run p hx) (⟨_, Try.func66, rfl, rfl⟩ : Enters Try.prog 66) rfl rfl rfl rfl ?_ | refine Loud.rd (PuzzleValid_run p hx) (⟨_, Try.func66, rfl, rfl⟩ : Enters Try.prog 66) rfl rfl rfl rfl ?_
  simp (maxSteps := 1000000) (disch := omega) only [go_sem, Nat.reduceAdd, Nat.reduceMul, Nat.reduceSub, Nat.reduceEqDiff, Nat.reduceLeDiff]
  (first | with_reducible refine condK_dec (fun h1 => ?_) (fun h1 => ?_) | with_reducible refine condK_ndec (fun h1 => ?_) (fun h1 => ?_) | with_reducible refine condK_nb (fun h1 => ?_) (fun h1 => ?_) | refine condK_b (fun h1 => ?_) (fun h1 => ?_))
  rotate_left
  · simp (maxSteps := 1000000) (disch := omega) only [go_sem, Nat.reduceAdd, Nat.reduceMul, Nat.reduceSub, Nat.reduceEqDiff, Nat.reduceLeDiff]
    unfold firstV
    rw [allS_no (by rw [h1]; simp)]
    exact lessQ_ice rfl
  simp (maxSteps := 1000000) (disch := omega) only [go_sem, Nat.reduceAdd, Nat.reduceMul, Nat.reduceSub, Nat.reduceEqDiff, Nat.reduceLeDiff]
  first | refine OpS.mk (first_all h1 1 (by omega)) (⟨_, Try.func67, rfl, rfl⟩ : Enters Try.prog 67) rfl rfl rfl rfl rfl ?_ | refine Loud.mk (first_all h1 1 (by omega)) (⟨_, Try.func67, rfl, rfl⟩ : Enters Try.prog 67) rfl rfl rfl rfl rfl ?_
  simp (maxSteps := 1000000) (disch := omega) only [go_sem, Nat.reduceAdd, Nat.reduceMul, Nat.reduceSub, Nat.reduceEqDiff, Nat.reduceLeDiff]
  (first | with_reducible refine condK_dec (fun h2 => ?_) (fun h2 => ?_) | with_reducible refine condK_ndec (fun h2 => ?_) (fun h2 => ?_) | with_reducible refine condK_nb (fun h2 => ?_) (fun h2 => ?_) | refine condK_b (fun h2 => ?_) (fun h2 => ?_))
  · simp (maxSteps := 1000000) (disch := omega) only [go_sem, Nat.reduceAdd, Nat.reduceMul, Nat.reduceSub, Nat.reduceEqDiff, Nat.reduceLeDiff]
    have h2 : allS p 1 = [] := List.eq_nil_of_length_eq_zero (by omega)
    unfold firstV
    rw [h2]
    exact lessQ_ice rfl
  · simp (maxSteps := 1000000) (disch := omega) only [go_sem, Nat.reduceAdd, Nat.reduceMul, Nat.reduceSub, Nat.reduceEqDiff, Nat.reduceLeDiff]
    unfold firstV
    rw [decide_eq_true (by omega)]
    exact lessQ_ice rfl
theorem one_facts {p : Puz} (h : countV p 2 = 1) : puzzleValid p = true ∧ ∃ s, allS p 2 = [s] ∧ firstV p = s ∧ s.length = p.given.length := by
  unfold countV at h
  by_cases hv : puzzleValid p = true
  · rw [if_pos ⟨hv, by omega, by omega⟩] at h
    have h : (allS p 2).length = 1 := by have : ((2 : Int)).toNat = 2 := rfl; rw [this] at h; omega
    obtain ⟨s, hs⟩ := List.length_eq_one_iff.1 h
    refine ⟨hv, s, hs, ?_, allS_cell hv (most := 2) (by rw [hs]; simp)⟩
    have e : allS p 1 = [s] := by
      have e2 : allS p 1 = (allS p 2).take 1 := by
        unfold allS
        split
        · rw [List.take_take]; rfl
        · rfl
      rw [e2, hs]; rfl
    unfold firstV
    rw [e]; rfl
  · rw [if_neg (fun h' => hv h'.1)] at h
    omega
end Go.Lg
