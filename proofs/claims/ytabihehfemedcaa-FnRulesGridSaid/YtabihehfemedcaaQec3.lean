/- GpKF, cut to what is needed. -/
import Derived.Test.YtabihehfemedcaaQec2
set_option linter.unusedSimpArgs false
set_option linter.unusedVariables false
set_option maxRecDepth 100000
namespace Go.Lg
open Go.Proofs
attribute [-go_sem] appendM lwF_cons
def viewQ (H : Heap) (id g : Nat) (B : Int) (Z : Int → Prop) : KV := fun v H' => ∃ cid cg off n zs z, v = .tup [.c (.own cid cg off n none), int z] ∧ look H' cid cg = some ⟨cg, 1, cl (eI .i64) zs⟩ ∧ off + n ≤ zs.length ∧ n ≤ 16 ∧ H.length ≤ cid ∧ Z z ∧ RdAt H' id g B ∧ H.length ≤ H'.length ∧ ∀ k, k < H.length → k ≠ id → H'[k]? = H[k]?
def viewF (H : Heap) (id g : Nat) (B : Int) (Z : Int → Prop) : KV := fun v H' => (∃ xs z, v = .tup [ints xs, int z] ∧ xs.length ≤ 16 ∧ Z z) ∧ RdAt H' id g B ∧ Frm H H' [id]
theorem frm_tail {H H' : Heap} {id : Nat} (h7 : H.length ≤ H'.length) (h8 : ∀ k, k < H.length → k ≠ id → H'[k]? = H[k]?) : Frm H (H'.take H.length) [id] := by
  refine ⟨by simp; omega, fun i hi => ?_⟩
  by_cases hi' : i < H.length
  · rw [List.getElem?_take_of_lt hi', h8 i hi' (by simpa using hi)]
  · rw [List.getElem?_take_eq_none (by omega), List.getElem?_eq_none (by omega)]
theorem RunCall.view {P : Program} {f : FuncId} {args : List AV} {H : Heap} {id g : Nat} {B : Int} {Z : Int → Prop} (hlt : id < H.length) (h : RunCall P f args H (viewQ H id g B Z)) : RunCall P f args H (viewF H id g B Z) :=
  RunCall.iceS h fun v H' ⟨cid, cg, off, n, zs, z, e, h1, h2, h3, h4, h5, h6, h7, h8⟩ => by
    subst e
    exact ⟨tailS H.length, H'.take H.length, .tup [ints ((zs.drop off).take n), int z], iceH_take _ _, iceA_two (.c _ _ (iceC_f (frzS_view h1 (by simp [tailS]; omega) h2 5))) (.s _), ⟨_, z, rfl, by simp; omega, h5⟩, h6.take hlt, frm_tail h7 h8⟩
theorem l20Grid_frz (H : Heap) (id g : Nat) (B n : Int) (hr : RdAt H id g B) (hB : B ≤ 2 ^ 38) (hn9 : n ≤ 100) : RunCall Try.prog 62 [.c (.ptr id g 0), int n] H (viewF H id g (B + 100) fun _ => True) :=
  RunCall.view hr.lt ((l20Grid_run H id g B n hr hB hn9).weaker fun v H' ⟨c, z, xs, h1, h2, h3, h4, h5, h6, cid, cg, off, k, zs, e1, e2, e3, e4, e5⟩ => by
    subst e1
    subst e5
    have : k ≤ 16 := by simp at h3; omega
    exact ⟨H', HLe.refl _, cid, cg, off, k, zs, z, h1, e2, e3, this, e4, trivial, h4, h5, h6⟩)
theorem l20Solved_frz {n : Nat} (hn : n = 2 ∨ n = 3 ∨ n = 4) (H : Heap) (id g : Nat) (B : Int) (hr : RdAt H id g B) (hB : B ≤ 2 ^ 39) : RunCall Try.prog 60 [.c (.ptr id g 0), int n] H (fun v H' => (∃ xs, v = ints xs ∧ xs.length ≤ 16) ∧ RdAt H' id g (B + 2) ∧ Frm H H' [id]) :=
  RunCall.iceS (l20Solved_run hn H id g B hr hB) fun v H' ⟨cid, cg, e, ⟨zs, h1, h2⟩, h3, h4, h5, h6, h7⟩ => by
    subst e
    have hsq : n * n ≤ 16 := by rcases hn with rfl | rfl | rfl <;> omega
    exact ⟨tailS H.length, H'.take H.length, ints ((zs.drop 0).take (n * n)), iceH_take _ _, .o _ _ (.c _ _ (iceC_f (frzS_view h1 (by simp [tailS]; omega) (by omega) 5))), ⟨_, rfl, by simp; omega⟩, h3.take hr.lt, frm_tail h6 h7⟩
theorem okM_one {H H' : Heap} (h : H.length = 1) : okM [true] H H' := by
  have := okM_rep H H'
  rwa [h] at this
def dThree (lo hi : Int) : AV → Prop := fun v => ∃ (xs : List Int) (z m : Int), v = .tup [ints xs, int z, int m] ∧ xs.length ≤ 16 ∧ lo ≤ m ∧ m ≤ hi
theorem DrawLessRules_run (code : List Int) (hb : ∀ x ∈ code, 0 ≤ x ∧ x ≤ 255) (hl : code.length ≤ 2 ^ 40) : RunCall Try.prog 22 [rsl (eI .u8) code] [] (fun v _ => dThree (-1) 21 v) := by
  refine RunCall.cw (c := _) Try.func22 rfl (n := 34) Try.ntmps22 (rs := [.tmp 2, .tmp 3, .tmp 4]) rfl ?_
  simp only [List.length_cons, List.length_nil, Nat.reduceAdd, Nat.reduceSub, List.replicate, List.cons_append, List.nil_append]
  simp (maxSteps := 1000000) (disch := omega) only [go_sem, Nat.reduceAdd, Nat.reduceMul, Nat.reduceSub, Nat.reduceEqDiff, Nat.reduceLeDiff]
  refine OpS.run (l20Open_run code hb hl) (⟨_, Try.func58, rfl, rfl⟩ : Enters Try.prog 58) rfl rfl ?_
  rintro _ H1 ⟨g, rfl, r1, hl1⟩
  simp (maxSteps := 1000000) (disch := omega) only [go_sem, Nat.reduceAdd, Nat.reduceMul, Nat.reduceSub, Nat.reduceEqDiff, Nat.reduceLeDiff]
  refine OpS.run (l20Size_run H1 0 g 0 0 r1 (by omega) (by omega)) (⟨_, Try.func59, rfl, rfl⟩ : Enters Try.prog 59) rfl rfl ?_
  rintro _ H2 ⟨⟨sz, rfl, _, _, hsz⟩, r2, f2⟩
  have hsz := hsz (by omega)
  obtain ⟨m, rfl⟩ : ∃ m : Nat, sz = m := ⟨sz.toNat, by omega⟩
  have hm : m = 2 ∨ m = 3 ∨ m = 4 := by omega
  have hl2 : H2.length = 1 := by rw [f2.1, hl1]
  simp (maxSteps := 1000000) (disch := omega) only [go_sem, Nat.reduceAdd, Nat.reduceMul, Nat.reduceSub, Nat.reduceEqDiff, Nat.reduceLeDiff]
  refine OpS.run (l20Solved_frz hm H2 0 g _ r2 (by omega)) (⟨_, Try.func60, rfl, rfl⟩ : Enters Try.prog 60) rfl rfl ?_
  rintro _ H3 ⟨⟨xs, rfl, hx⟩, r3, f3⟩
  have hl3 : H3.length = 1 := by rw [f3.1, hl2]
  simp (maxSteps := 1000000) (disch := omega) only [go_sem, Nat.reduceAdd, Nat.reduceMul, Nat.reduceSub, Nat.reduceEqDiff, Nat.reduceLeDiff]
  refine OpS.run (odd_run H3 0 g _ 9 r3 (by omega) (by omega)) (⟨_, Try.func61, rfl, rfl⟩ : Enters Try.prog 61) rfl rfl ?_
  rintro _ H4 ⟨⟨b, rfl, hb⟩, r4, f4⟩
  have hl4 : H4.length = 1 := by rw [f4.1, hl3]
  simp (maxSteps := 1000000) (disch := omega) only [go_sem, Nat.reduceAdd, Nat.reduceMul, Nat.reduceSub, Nat.reduceEqDiff, Nat.reduceLeDiff]
  (first | with_reducible refine condK_dec (fun h1 => ?_) (fun h1 => ?_) | with_reducible refine condK_ndec (fun h1 => ?_) (fun h1 => ?_) | with_reducible refine condK_nb (fun h1 => ?_) (fun h1 => ?_) | refine condK_b (fun h1 => ?_) (fun h1 => ?_))
  · simp (maxSteps := 1000000) (disch := omega) only [go_sem, Nat.reduceAdd, Nat.reduceMul, Nat.reduceSub, Nat.reduceEqDiff, Nat.reduceLeDiff]
    refine OpS.run (l20Grid_frz H4 0 g _ 3 r4 (by omega) (by omega)) (⟨_, Try.func62, rfl, rfl⟩ : Enters Try.prog 62) rfl rfl ?_
    rintro _ H5 ⟨⟨ys, z, rfl, hy, _⟩, r5, f5⟩
    have hl5 : H5.length = 1 := by rw [f5.1, hl4]
    simp (maxSteps := 1000000) (disch := omega) only [go_sem, Nat.reduceAdd, Nat.reduceMul, Nat.reduceSub, Nat.reduceEqDiff, Nat.reduceLeDiff]
    refine drawP_lM [0, 1, 2, 5, 6, 3, 4, 7, 8, 9, 10, 11, 12, 13] [5, 4] none [14] [true] [0, 0, 0, 4, 12, 0, 0, 76, 236, 492, 1020, 2044, 205, 4303, 16383] foll (by kernel_rfl) ?_
    iterate 3 (rw [lwF_cons]; simp (maxSteps := 1000000) (disch := omega) only [go_sem, Nat.reduceAdd, Nat.reduceMul, Nat.reduceSub, Nat.reduceEqDiff, Nat.reduceLeDiff])
    rw [lwF_cons]
    simp only [List.getElem?_toArray, List.getElem?_cons_succ, List.getElem?_cons_zero, lwO_some, reduceCtorEq, if_false, lwOne_op, isVal, Bool.false_eq_true, List.contains_cons, List.contains_nil, BEq.rfl, Bool.true_or, Bool.or_true, if_true]
    refine softW_parts (n := 7) (xs := fl (eI .i64) [0, 0, 0, 1, 1, 2, 3]) rfl (by decide) (sliceOf_of' ti23 rfl ti3) rfl ⟨rfl, rfl⟩ rfl ⟨rfl, by decide⟩ ?_
    change lwS _ _ _ _ _ _ _ _ _ _ _ (rsl (eI .i64) [0, 0, 0, 1, 1, 2, 3])
    have hall : ∀ t ∈ [(0 : Int), 0, 0, 1, 1, 2, 3], 0 ≤ t ∧ t < 4 := by decide
    generalize hL : [(0 : Int), 0, 0, 1, 1, 2, 3] = L at hall ⊢
    have hl7 : L.length = 7 := by rw [← hL]; rfl
    clear hL
    rw [lwS_ap, lwF_cons]
    simp (maxSteps := 1000000) (disch := omega) only [go_sem, Nat.reduceAdd, Nat.reduceMul, Nat.reduceSub, Nat.reduceEqDiff, Nat.reduceLeDiff]
    rw [lwF_cons]
    simp (maxSteps := 1000000) (disch := omega) only [go_sem, Nat.reduceAdd, Nat.reduceMul, Nat.reduceSub, Nat.reduceEqDiff, Nat.reduceLeDiff]
    refine Loud.run (pick_run _ 0 g _ 10 r5 (by omega)) (⟨_, Try.func63, rfl, rfl⟩ : Enters Try.prog 63) rfl rfl ?_
    rintro _ H6 ⟨⟨y, rfl, y0, y1⟩, r6, f6⟩
    have y1 := y1 (by omega)
    have hl6 : H6.length = 1 := by rw [f6.1]; exact hl5
    refine ⟨okM_one hl5, ?_⟩
    rw [lwF_cons]
    simp only [List.getElem?_toArray, List.getElem?_cons_succ, List.getElem?_cons_zero, lwO_some, reduceCtorEq, if_false, lwOne_op, isVal, Bool.false_eq_true, List.contains_cons, List.contains_nil, BEq.rfl, Bool.true_or, Bool.or_true, if_true]
    refine softW_parts (n := 4) (xs := fl (eI .i64) [y, 20, -1, 21]) rfl (by decide) (sliceOf_of' ti23 rfl ti3) rfl ⟨rfl, rfl⟩ rfl ⟨rfl, by decide⟩ ?_
    change lwS _ _ _ _ _ _ _ _ _ _ _ (rsl (eI .i64) [y, 20, -1, 21])
    have hal2 : ∀ t ∈ [y, 20, -1, 21], -1 ≤ t ∧ t ≤ 21 := fun t ht => by
      simp only [List.mem_cons, List.not_mem_nil, or_false] at ht
      omega
    generalize hM : [y, 20, -1, 21] = M at hal2 ⊢
    have hl4 : M.length = 4 := by rw [← hM]; rfl
    clear hM
    rw [lwS_ap, lwF_cons]
    simp (maxSteps := 1000000) (disch := omega) only [go_sem, Nat.reduceAdd, Nat.reduceMul, Nat.reduceSub, Nat.reduceEqDiff, Nat.reduceLeDiff]
    refine Loud.run (pick_run _ 0 g _ 7 r6 (by omega)) (⟨_, Try.func63, rfl, rfl⟩ : Enters Try.prog 63) rfl rfl ?_
    rintro _ H7 ⟨⟨e, rfl, e0, e1⟩, r7, f7⟩
    have e1 := e1 (by omega)
    refine ⟨okM_one hl6, ?_⟩
    obtain ⟨en, rfl⟩ : ∃ en : Nat, e = en := ⟨e.toNat, by omega⟩
    have hv := hall _ (nth_mem (xs := L) (i := en) (by omega))
    generalize hvv : nth L en = v at hv
    obtain ⟨vn, rfl⟩ : ∃ vn : Nat, v = vn := ⟨v.toNat, by omega⟩
    have hw := hal2 _ (nth_mem (xs := M) (i := vn) (by omega))
    rw [lwF_cons]
    simp (maxSteps := 1000000) (disch := omega) only [go_sem, Nat.reduceAdd, Nat.reduceMul, Nat.reduceSub, Nat.reduceEqDiff, Nat.reduceLeDiff]
    rw [lwF_cons]
    simp (maxSteps := 1000000) (disch := omega) only [go_sem, Nat.reduceAdd, Nat.reduceMul, Nat.reduceSub, Nat.reduceEqDiff, Nat.reduceLeDiff, hvv]
    rw [lwF_cons]
    simp (maxSteps := 1000000) (disch := omega) only [go_sem, Nat.reduceAdd, Nat.reduceMul, Nat.reduceSub, Nat.reduceEqDiff, Nat.reduceLeDiff]
    rw [lwF_cons]
    simp (maxSteps := 1000000) (disch := omega) only [go_sem, Nat.reduceAdd, Nat.reduceMul, Nat.reduceSub, Nat.reduceEqDiff, Nat.reduceLeDiff]
    rw [lwF_cons]
    simp (maxSteps := 1000000) (disch := omega) only [go_sem, Nat.reduceAdd, Nat.reduceMul, Nat.reduceSub, Nat.reduceEqDiff, Nat.reduceLeDiff]
    rw [lwF_cons]
    simp (maxSteps := 1000000) (disch := omega) only [go_sem, Nat.reduceAdd, Nat.reduceMul, Nat.reduceSub, Nat.reduceEqDiff, Nat.reduceLeDiff]
    exact ⟨_, HLe.refl _, ys, _, _, rfl, by omega, hw.1, hw.2⟩
  · simp (maxSteps := 1000000) (disch := omega) only [go_sem, Nat.reduceAdd, Nat.reduceMul, Nat.reduceSub, Nat.reduceEqDiff, Nat.reduceLeDiff]
    refine drawP_lM [0, 1, 2, 5, 6, 3, 4, 7, 8, 9, 10, 11, 12, 13] [5, 4] none [14] [true] [0, 0, 0, 4, 12, 0, 0, 76, 236, 492, 1020, 2044, 205, 4303, 16383] foll (by kernel_rfl) ?_
    iterate 3 (rw [lwF_cons]; simp (maxSteps := 1000000) (disch := omega) only [go_sem, Nat.reduceAdd, Nat.reduceMul, Nat.reduceSub, Nat.reduceEqDiff, Nat.reduceLeDiff])
    rw [lwF_cons]
    simp only [List.getElem?_toArray, List.getElem?_cons_succ, List.getElem?_cons_zero, lwO_some, reduceCtorEq, if_false, lwOne_op, isVal, Bool.false_eq_true, List.contains_cons, List.contains_nil, BEq.rfl, Bool.true_or, Bool.or_true, if_true]
    refine softW_parts (n := 7) (xs := fl (eI .i64) [0, 0, 0, 1, 1, 2, 3]) rfl (by decide) (sliceOf_of' ti23 rfl ti3) rfl ⟨rfl, rfl⟩ rfl ⟨rfl, by decide⟩ ?_
    change lwS _ _ _ _ _ _ _ _ _ _ _ (rsl (eI .i64) [0, 0, 0, 1, 1, 2, 3])
    have hall : ∀ t ∈ [(0 : Int), 0, 0, 1, 1, 2, 3], 0 ≤ t ∧ t < 4 := by decide
    generalize hL : [(0 : Int), 0, 0, 1, 1, 2, 3] = L at hall ⊢
    have hl7 : L.length = 7 := by rw [← hL]; rfl
    clear hL
    rw [lwS_ap, lwF_cons]
    simp (maxSteps := 1000000) (disch := omega) only [go_sem, Nat.reduceAdd, Nat.reduceMul, Nat.reduceSub, Nat.reduceEqDiff, Nat.reduceLeDiff]
    rw [lwF_cons]
    simp (maxSteps := 1000000) (disch := omega) only [go_sem, Nat.reduceAdd, Nat.reduceMul, Nat.reduceSub, Nat.reduceEqDiff, Nat.reduceLeDiff]
    refine Loud.run (pick_run _ 0 g _ 10 r4 (by omega)) (⟨_, Try.func63, rfl, rfl⟩ : Enters Try.prog 63) rfl rfl ?_
    rintro _ H6 ⟨⟨y, rfl, y0, y1⟩, r6, f6⟩
    have y1 := y1 (by omega)
    have hl6 : H6.length = 1 := by rw [f6.1]; exact hl4
    refine ⟨okM_one hl4, ?_⟩
    rw [lwF_cons]
    simp only [List.getElem?_toArray, List.getElem?_cons_succ, List.getElem?_cons_zero, lwO_some, reduceCtorEq, if_false, lwOne_op, isVal, Bool.false_eq_true, List.contains_cons, List.contains_nil, BEq.rfl, Bool.true_or, Bool.or_true, if_true]
    refine softW_parts (n := 4) (xs := fl (eI .i64) [y, 20, -1, 21]) rfl (by decide) (sliceOf_of' ti23 rfl ti3) rfl ⟨rfl, rfl⟩ rfl ⟨rfl, by decide⟩ ?_
    change lwS _ _ _ _ _ _ _ _ _ _ _ (rsl (eI .i64) [y, 20, -1, 21])
    have hal2 : ∀ t ∈ [y, 20, -1, 21], -1 ≤ t ∧ t ≤ 21 := fun t ht => by
      simp only [List.mem_cons, List.not_mem_nil, or_false] at ht
      omega
    generalize hM : [y, 20, -1, 21] = M at hal2 ⊢
    have hl4 : M.length = 4 := by rw [← hM]; rfl
    clear hM
    rw [lwS_ap, lwF_cons]
    simp (maxSteps := 1000000) (disch := omega) only [go_sem, Nat.reduceAdd, Nat.reduceMul, Nat.reduceSub, Nat.reduceEqDiff, Nat.reduceLeDiff]
    refine Loud.run (pick_run _ 0 g _ 7 r6 (by omega)) (⟨_, Try.func63, rfl, rfl⟩ : Enters Try.prog 63) rfl rfl ?_
    rintro _ H7 ⟨⟨e, rfl, e0, e1⟩, r7, f7⟩
    have e1 := e1 (by omega)
    refine ⟨okM_one hl6, ?_⟩
    obtain ⟨en, rfl⟩ : ∃ en : Nat, e = en := ⟨e.toNat, by omega⟩
    have hv := hall _ (nth_mem (xs := L) (i := en) (by omega))
    generalize hvv : nth L en = v at hv
    obtain ⟨vn, rfl⟩ : ∃ vn : Nat, v = vn := ⟨v.toNat, by omega⟩
    have hw := hal2 _ (nth_mem (xs := M) (i := vn) (by omega))
    rw [lwF_cons]
    simp (maxSteps := 1000000) (disch := omega) only [go_sem, Nat.reduceAdd, Nat.reduceMul, Nat.reduceSub, Nat.reduceEqDiff, Nat.reduceLeDiff]
    rw [lwF_cons]
    simp (maxSteps := 1000000) (disch := omega) only [go_sem, Nat.reduceAdd, Nat.reduceMul, Nat.reduceSub, Nat.reduceEqDiff, Nat.reduceLeDiff, hvv]
    rw [lwF_cons]
    simp (maxSteps := 1000000) (disch := omega) only [go_sem, Nat.reduceAdd, Nat.reduceMul, Nat.reduceSub, Nat.reduceEqDiff, Nat.reduceLeDiff]
    rw [lwF_cons]
    simp (maxSteps := 1000000) (disch := omega) only [go_sem, Nat.reduceAdd, Nat.reduceMul, Nat.reduceSub, Nat.reduceEqDiff, Nat.reduceLeDiff]
    rw [lwF_cons]
    simp (maxSteps := 1000000) (disch := omega) only [go_sem, Nat.reduceAdd, Nat.reduceMul, Nat.reduceSub, Nat.reduceEqDiff, Nat.reduceLeDiff]
    rw [lwF_cons]
    simp (maxSteps := 1000000) (disch := omega) only [go_sem, Nat.reduceAdd, Nat.reduceMul, Nat.reduceSub, Nat.reduceEqDiff, Nat.reduceLeDiff]
    exact ⟨_, HLe.refl _, xs, _, _, rfl, by omega, hw.1, hw.2⟩
theorem DrawApartRules_run (code : List Int) (hb : ∀ x ∈ code, 0 ≤ x ∧ x ≤ 255) (hl : code.length ≤ 2 ^ 40) : RunCall Try.prog 15 [rsl (eI .u8) code] [] (fun v _ => dThree (-1) 4 v) := by
  refine RunCall.cw (c := _) Try.func15 rfl (n := 27) Try.ntmps15 (rs := [.tmp 2, .tmp 3, .tmp 4]) rfl ?_
  simp only [List.length_cons, List.length_nil, Nat.reduceAdd, Nat.reduceSub, List.replicate, List.cons_append, List.nil_append]
  simp (maxSteps := 1000000) (disch := omega) only [go_sem, Nat.reduceAdd, Nat.reduceMul, Nat.reduceSub, Nat.reduceEqDiff, Nat.reduceLeDiff]
  refine OpS.run (l20Open_run code hb hl) (⟨_, Try.func58, rfl, rfl⟩ : Enters Try.prog 58) rfl rfl ?_
  rintro _ H1 ⟨g, rfl, r1, hl1⟩
  simp (maxSteps := 1000000) (disch := omega) only [go_sem, Nat.reduceAdd, Nat.reduceMul, Nat.reduceSub, Nat.reduceEqDiff, Nat.reduceLeDiff]
  refine OpS.run (l20Size_run H1 0 g 0 0 r1 (by omega) (by omega)) (⟨_, Try.func59, rfl, rfl⟩ : Enters Try.prog 59) rfl rfl ?_
  rintro _ H2 ⟨⟨sz, rfl, _, _, hsz⟩, r2, f2⟩
  have hsz := hsz (by omega)
  obtain ⟨m, rfl⟩ : ∃ m : Nat, sz = m := ⟨sz.toNat, by omega⟩
  have hm : m = 2 ∨ m = 3 ∨ m = 4 := by omega
  have hl2 : H2.length = 1 := by rw [f2.1, hl1]
  simp (maxSteps := 1000000) (disch := omega) only [go_sem, Nat.reduceAdd, Nat.reduceMul, Nat.reduceSub, Nat.reduceEqDiff, Nat.reduceLeDiff]
  refine OpS.run (l20Solved_frz hm H2 0 g _ r2 (by omega)) (⟨_, Try.func60, rfl, rfl⟩ : Enters Try.prog 60) rfl rfl ?_
  rintro _ H3 ⟨⟨xs, rfl, hx⟩, r3, f3⟩
  have hl3 : H3.length = 1 := by rw [f3.1, hl2]
  simp (maxSteps := 1000000) (disch := omega) only [go_sem, Nat.reduceAdd, Nat.reduceMul, Nat.reduceSub, Nat.reduceEqDiff, Nat.reduceLeDiff]
  refine OpS.run (odd_run H3 0 g _ 9 r3 (by omega) (by omega)) (⟨_, Try.func61, rfl, rfl⟩ : Enters Try.prog 61) rfl rfl ?_
  rintro _ H4 ⟨⟨b, rfl, hb⟩, r4, f4⟩
  have hl4 : H4.length = 1 := by rw [f4.1, hl3]
  simp (maxSteps := 1000000) (disch := omega) only [go_sem, Nat.reduceAdd, Nat.reduceMul, Nat.reduceSub, Nat.reduceEqDiff, Nat.reduceLeDiff]
  (first | with_reducible refine condK_dec (fun h1 => ?_) (fun h1 => ?_) | with_reducible refine condK_ndec (fun h1 => ?_) (fun h1 => ?_) | with_reducible refine condK_nb (fun h1 => ?_) (fun h1 => ?_) | refine condK_b (fun h1 => ?_) (fun h1 => ?_))
  · simp (maxSteps := 1000000) (disch := omega) only [go_sem, Nat.reduceAdd, Nat.reduceMul, Nat.reduceSub, Nat.reduceEqDiff, Nat.reduceLeDiff]
    refine OpS.run (l20Grid_frz H4 0 g _ 3 r4 (by omega) (by omega)) (⟨_, Try.func62, rfl, rfl⟩ : Enters Try.prog 62) rfl rfl ?_
    rintro _ H5 ⟨⟨ys, z, rfl, hy, _⟩, r5, f5⟩
    simp (maxSteps := 1000000) (disch := omega) only [go_sem, Nat.reduceAdd, Nat.reduceMul, Nat.reduceSub, Nat.reduceEqDiff, Nat.reduceLeDiff]
    refine OpS.run (pick_run _ 0 g _ 6 r5 (by omega)) (⟨_, Try.func63, rfl, rfl⟩ : Enters Try.prog 63) rfl rfl ?_
    rintro _ H6 ⟨⟨y, rfl, y0, y1⟩, r6, f6⟩
    have y1 := y1 (by omega)
    simp (maxSteps := 1000000) (disch := omega) only [go_sem, Nat.reduceAdd, Nat.reduceMul, Nat.reduceSub, Nat.reduceEqDiff, Nat.reduceLeDiff]
    exact ⟨_, HLe.refl _, ys, z, _, rfl, hy, by omega, by omega⟩
  · simp (maxSteps := 1000000) (disch := omega) only [go_sem, Nat.reduceAdd, Nat.reduceMul, Nat.reduceSub, Nat.reduceEqDiff, Nat.reduceLeDiff]
    refine OpS.run (pick_run _ 0 g _ 6 r4 (by omega)) (⟨_, Try.func63, rfl, rfl⟩ : Enters Try.prog 63) rfl rfl ?_
    rintro _ H6 ⟨⟨y, rfl, y0, y1⟩, r6, f6⟩
    have y1 := y1 (by omega)
    simp (maxSteps := 1000000) (disch := omega) only [go_sem, Nat.reduceAdd, Nat.reduceMul, Nat.reduceSub, Nat.reduceEqDiff, Nat.reduceLeDiff]
    exact ⟨_, HLe.refl _, xs, _, _, rfl, hx, by omega, by omega⟩
structure RgI (H HI : Heap) (id g : Nat) (B : Int) (J gg k : Nat) : Prop where
  ex : ∃ zs : List Int, look HI J gg = some ⟨gg, 1, cl (eI .i64) zs⟩ ∧ zs.length = k
  rd : RdAt HI id g B
  lt : id < H.length
  j : H.length ≤ J
  l : H.length ≤ HI.length
  frm : ∀ k, k < H.length → k ≠ id → HI[k]? = H[k]?
theorem RgI.mono {H HI : Heap} {id g J gg k : Nat} {B B' : Int} (h : RgI H HI id g B J gg k) (hb : B ≤ B') : RgI H HI id g B' J gg k := ⟨h.ex, h.rd.mono hb, h.lt, h.j, h.l, h.frm⟩
theorem RgI.pick {H HI H2 : Heap} {id g J gg k : Nat} {B B' : Int} (h : RgI H HI id g B J gg k) (hr : RdAt H2 id g B') (hf : Frm HI H2 [id]) : RgI H H2 id g B' J gg k := by
  obtain ⟨⟨zs, h1, h2⟩, _, h3, h4, h5, h6⟩ := h
  refine ⟨⟨zs, by rw [hf.look (by simp; omega)]; exact h1, h2⟩, hr, h3, h4, by rw [hf.1]; exact h5, fun k hk hne => ?_⟩
  rw [hf.2 k (by simp; exact hne), h6 k hk hne]
theorem RgI.app {H HI X : Heap} {id g J gg k : Nat} {B : Int} (h : RgI H HI id g B J gg k) : RgI H (HI ++ X) id g B J gg k := by
  obtain ⟨⟨zs, h1, h2⟩, h3, h4, h5, h6, h7⟩ := h
  refine ⟨⟨zs, look_appL h1, h2⟩, h3.app, h4, h5, by rw [List.length_append]; omega, fun k hk hne => ?_⟩
  rw [List.getElem?_append_left (by omega), h7 k hk hne]
theorem RgI.put {H HI : Heap} {id g J gg k : Nat} {B : Int} (h : RgI H HI id g B J gg k) {g' k' : Nat} {zs : List Int} (hz : zs.length = k') : RgI H (HI.set J (some ⟨g', 1, cl (eI .i64) zs⟩)) id g B J g' k' := by
  obtain ⟨⟨_, h1, _⟩, h2, h3, h4, h5, h6⟩ := h
  have hlt : J < HI.length := (List.getElem?_eq_some_iff.1 (look_some h1).1).1
  refine ⟨⟨zs, look_set_eq' hlt, hz⟩, h2.same (by rw [List.getElem?_set_ne (by omega)]), h3, h4, by simpa using h5, fun k hk hne => ?_⟩
  rw [List.getElem?_set_ne (by omega), h6 k hk hne]
theorem RgI.view {H HI : Heap} {id g J gg k : Nat} {B B' z : Int} (h : RgI H HI id g B J gg k) (hb : B ≤ B') (hz : -1 ≤ z ∧ z ≤ 5) (off n : Nat) (ho : off + n ≤ k) (hk : k ≤ 16) : viewQ H id g B' (fun z => -1 ≤ z ∧ z ≤ 5) (.tup [.c (.own J gg off n none), int z]) HI := by
  obtain ⟨⟨zs, h1, h2⟩, h3, h4, h5, h6, h7⟩ := h
  exact ⟨J, gg, off, n, zs, z, rfl, h1, by omega, by omega, h5, hz, h3.mono hb, h6, h7⟩
theorem BoxRegions_own : RunCall Try.prog 106 [] [] (ownQ (eI .i64) 1 boxL) := by
  refine RunCall.cw (c := _) Try.func106 rfl (n := 19) Try.ntmps106 (rs := [.tmp 0]) rfl ?_
  simp only [List.length_cons, List.length_nil, Nat.reduceAdd, Nat.reduceSub, List.replicate, List.cons_append, List.nil_append]
  simp (maxSteps := 1000000) (disch := omega) only [go_sem, Nat.reduceAdd, Nat.reduceMul, Nat.reduceSub, Nat.reduceEqDiff, Nat.reduceLeDiff]
  intro g
  refine loop_rule2 (fun (k g : Nat) => 16 - k) (fun k g => k ≤ 16) (fun k g => [.a, .p (.c (.own 0 g 0 k none)), .p (int k), .a, .a, .a, .a, .a, .a, .a, .a, .a, .a, .a, .a, .a, .a, .a, .a]) (fun k g => [some ⟨g, 1, cl (eI .i64) (boxL.take k)⟩]) 0 g (Nat.zero_le _) (by simp (maxSteps := 1000000) (disch := omega) only [go_sem, Nat.reduceAdd, Nat.reduceMul, Nat.reduceSub, Nat.reduceEqDiff, Nat.reduceLeDiff]; rfl) (HLe.refl _) ?_
  intro k g hk
  have hbl := boxL_len
  simp (maxSteps := 1000000) (disch := omega) only [go_sem, Nat.reduceAdd, Nat.reduceMul, Nat.reduceSub, Nat.reduceEqDiff, Nat.reduceLeDiff]
  (first | with_reducible refine condK_dec (fun c1 => ?_) (fun c1 => ?_) | with_reducible refine condK_ndec (fun c1 => ?_) (fun c1 => ?_) | with_reducible refine condK_nb (fun c1 => ?_) (fun c1 => ?_) | refine condK_b (fun c1 => ?_) (fun c1 => ?_))
  · have c1 : k < 16 := by omega
    have e1 : (k : Int).tdiv 8 = (k : Int) / 8 := tdiv_nn (by omega)
    have e2 : (k : Int).tmod 4 = (k : Int) % 4 := tmod_nn (by omega)
    have e3 : ((k : Int) % 4).tdiv 2 = (k : Int) % 4 / 2 := tdiv_nn (by omega)
    simp (maxSteps := 1000000) (disch := omega) only [go_sem, Nat.reduceAdd, Nat.reduceMul, Nat.reduceSub, Nat.reduceEqDiff, Nat.reduceLeDiff, e1, e2, e3]
    intro g1
    refine appendM_own (E := eI .i64) (xs := boxL.take k) (ys := [(k : Int) / 8 * 2 + (k : Int) % 4 / 2]) (sliceOf_of' ti23 rfl ti3) ⟨rfl, rfl, by decide, by decide⟩ (by rw [List.length_take]; omega) look_zero ⟨by rw [List.length_take]; omega, by simp⟩ (elems_own (E := eI .i64) (xs := [(k : Int) / 8 * 2 + (k : Int) % 4 / 2]) (look_of (b := ⟨g1, 1, cl (eI .i64) [(k : Int) / 8 * 2 + (k : Int) % 4 / 2]⟩) rfl)) ?_
    intro g3
    simp (maxSteps := 1000000) (disch := omega) only [go_sem, Nat.reduceAdd, Nat.reduceMul, Nat.reduceSub, Nat.reduceEqDiff, Nat.reduceLeDiff]
    refine ⟨k + 1, g3, ⟨by omega, by omega⟩, ⟨⟨rfl, rfl⟩, by push_cast; omega⟩, hle_eq ?_ (hle_nil _)⟩
    rw [take_succ_nth (by omega), boxL_nth c1]
  · have hke : k = 16 := by omega
    subst hke
    simp (maxSteps := 1000000) (disch := omega) only [go_sem, Nat.reduceAdd, Nat.reduceMul, Nat.reduceSub, Nat.reduceEqDiff, Nat.reduceLeDiff]
    rw [List.take_of_length_le (by omega)]
    exact lessQ_own (E := eI .i64) (n := 1) (xs := boxL) (HLe.refl _)
set_option maxHeartbeats 4000000 in
theorem l20Regions_run (H : Heap) (id g : Nat) (B n : Int) (hr : RdAt H id g B) (hB : B ≤ 2 ^ 37) (hn9 : n ≤ 100) : RunCall Try.prog 74 [.c (.ptr id g 0), int n] H (viewF H id g (B + 100) fun z => -1 ≤ z ∧ z ≤ 5) := by
  have hlt := hr.lt
  refine RunCall.view hlt ?_
  refine RunCall.cw (c := _) Try.func74 rfl (n := 80) Try.ntmps74 (rs := [.tmp 4, .tmp 5]) rfl ?_
  simp only [List.length_cons, List.length_nil, Nat.reduceAdd, Nat.reduceSub, List.replicate, List.cons_append, List.nil_append]
  simp (maxSteps := 1000000) (disch := omega) only [go_sem, Nat.reduceAdd, Nat.reduceMul, Nat.reduceSub, Nat.reduceEqDiff, Nat.reduceLeDiff]
  refine OpS.run (l20Size_run H id g B 0 hr (by omega) (by omega)) (⟨_, Try.func59, rfl, rfl⟩ : Enters Try.prog 59) rfl rfl ?_
  rintro _ H1 ⟨⟨sz, rfl, _, _, hsz⟩, r1, f1⟩
  have hsz := hsz (by omega)
  obtain ⟨m, rfl⟩ : ∃ m : Nat, sz = m := ⟨sz.toNat, by omega⟩
  have hm : m = 2 ∨ m = 3 ∨ m = 4 := by omega
  have hsq : 4 ≤ m * m ∧ m * m ≤ 16 := by rcases hm with rfl | rfl | rfl <;> omega
  simp (maxSteps := 1000000) (disch := omega) only [go_sem, Nat.reduceAdd, Nat.reduceMul, Nat.reduceSub, Nat.reduceEqDiff, Nat.reduceLeDiff, look_off, look_off0, set_off, set_off0, List.append_assoc, List.cons_append, List.nil_append, List.length_append]
  intro g0
  have q0 : RgI H (H1 ++ [some ⟨g0, 1, []⟩]) id g (B + 2) H1.length g0 0 := ⟨⟨[], look_last, rfl⟩, r1.app, hlt, by rw [f1.1]; exact Nat.le_refl _, by rw [List.length_append, f1.1]; omega, fun k hk hne => by rw [List.getElem?_append_left (by rw [f1.1]; exact hk), f1.2 k (by simpa using hne)]⟩
  refine loop_rule2 (fun (k : Nat) (b : Nat × Heap) => m * m - k) (fun k b => k ≤ m * m ∧ RgI H b.2 id g (B + 2 + 3 * k) H1.length b.1 k) (fun k b => [.k, .k, .a, .a, .a, .a, .k, .p (.c (.own H1.length b.1 0 k none)), .p (int k), .a, .a, .a, .a, .a, .a, .a, .a, .a, .a, .a, .a, .a, .a, .a, .a, .a, .a, .a, .a, .a, .a, .a, .a, .a, .a, .a, .a, .a, .a, .a, .a, .a, .a, .a, .a, .a, .a, .a, .a, .a, .a, .a, .a, .a, .a, .a, .a, .a, .a, .a, .a, .a, .a, .a, .a, .a, .a, .a, .a, .a, .a, .a, .a, .a, .a, .a, .a, .a, .a, .a]) (fun _ b => b.2) 0 (g0, _) ⟨Nat.zero_le _, q0.mono (by omega)⟩ (by simp (maxSteps := 1000000) (disch := omega) only [go_sem, Nat.reduceAdd, Nat.reduceMul, Nat.reduceSub, Nat.reduceEqDiff, Nat.reduceLeDiff]; first | rfl | exact ⟨rfl, rfl⟩) (HLe.refl _) ?_
  rintro k ⟨gg, HI⟩ ⟨hk, q⟩
  simp only at q ⊢
  have ht2 : (k : Int).tdiv (m : Int) = ((k / m : Nat) : Int) := rfl
  have hkd : k / m ≤ k := Nat.div_le_self _ _
  generalize k / m = d at ht2 hkd
  simp (maxSteps := 1000000) (disch := omega) only [go_sem, Nat.reduceAdd, Nat.reduceMul, Nat.reduceSub, Nat.reduceEqDiff, Nat.reduceLeDiff, ht2]
  (first | with_reducible refine condK_dec (fun h1 => ?_) (fun h1 => ?_) | with_reducible refine condK_ndec (fun h1 => ?_) (fun h1 => ?_) | with_reducible refine condK_nb (fun h1 => ?_) (fun h1 => ?_) | refine condK_b (fun h1 => ?_) (fun h1 => ?_))
  · have h1 : k < m * m := by omega
    simp (maxSteps := 1000000) (disch := omega) only [go_sem, Nat.reduceAdd, Nat.reduceMul, Nat.reduceSub, Nat.reduceEqDiff, Nat.reduceLeDiff, ht2]
    (first | with_reducible refine guardK_dec (fun h2 => ?_) (fun h2 => ?_) <;> simp (maxSteps := 1000000) (disch := omega) only [go_sem, Nat.reduceAdd, Nat.reduceMul, Nat.reduceSub, Nat.reduceEqDiff, Nat.reduceLeDiff, h2] | with_reducible refine guardK_ndec (fun h2 => ?_) (fun h2 => ?_) <;> simp (maxSteps := 1000000) (disch := omega) only [go_sem, Nat.reduceAdd, Nat.reduceMul, Nat.reduceSub, Nat.reduceEqDiff, Nat.reduceLeDiff, h2] | with_reducible refine guardK_nb (fun h2 => ?_) (fun h2 => ?_) <;> simp (maxSteps := 1000000) (disch := omega) only [go_sem, Nat.reduceAdd, Nat.reduceMul, Nat.reduceSub, Nat.reduceEqDiff, Nat.reduceLeDiff, h2] | with_reducible refine guardK_split (fun h2 => ?_) (fun h2 => ?_) <;> simp (maxSteps := 1000000) (disch := omega) only [go_sem, Nat.reduceAdd, Nat.reduceMul, Nat.reduceSub, Nat.reduceEqDiff, Nat.reduceLeDiff, h2] | with_reducible refine guardQ_dec (fun h2 => ?_) (fun h2 => ?_) <;> simp (maxSteps := 1000000) (disch := omega) only [go_sem, Nat.reduceAdd, Nat.reduceMul, Nat.reduceSub, Nat.reduceEqDiff, Nat.reduceLeDiff, h2] | with_reducible refine guardL_dec (fun h2 => ?_) (fun h2 => ?_) <;> simp (maxSteps := 1000000) (disch := omega) only [go_sem, Nat.reduceAdd, Nat.reduceMul, Nat.reduceSub, Nat.reduceEqDiff, Nat.reduceLeDiff, h2] | with_reducible refine guardQ_ndec (fun h2 => ?_) (fun h2 => ?_) <;> simp (maxSteps := 1000000) (disch := omega) only [go_sem, Nat.reduceAdd, Nat.reduceMul, Nat.reduceSub, Nat.reduceEqDiff, Nat.reduceLeDiff, h2] | with_reducible refine guardL_ndec (fun h2 => ?_) (fun h2 => ?_) <;> simp (maxSteps := 1000000) (disch := omega) only [go_sem, Nat.reduceAdd, Nat.reduceMul, Nat.reduceSub, Nat.reduceEqDiff, Nat.reduceLeDiff, h2] | with_reducible refine guardQ_nb (fun h2 => ?_) (fun h2 => ?_) <;> simp (maxSteps := 1000000) (disch := omega) only [go_sem, Nat.reduceAdd, Nat.reduceMul, Nat.reduceSub, Nat.reduceEqDiff, Nat.reduceLeDiff, h2] | with_reducible refine guardL_nb (fun h2 => ?_) (fun h2 => ?_) <;> simp (maxSteps := 1000000) (disch := omega) only [go_sem, Nat.reduceAdd, Nat.reduceMul, Nat.reduceSub, Nat.reduceEqDiff, Nat.reduceLeDiff, h2] | with_reducible refine guardQ_split (fun h2 => ?_) (fun h2 => ?_) <;> simp (maxSteps := 1000000) (disch := omega) only [go_sem, Nat.reduceAdd, Nat.reduceMul, Nat.reduceSub, Nat.reduceEqDiff, Nat.reduceLeDiff, h2] | with_reducible refine guardL_split (fun h2 => ?_) (fun h2 => ?_) <;> simp (maxSteps := 1000000) (disch := omega) only [go_sem, Nat.reduceAdd, Nat.reduceMul, Nat.reduceSub, Nat.reduceEqDiff, Nat.reduceLeDiff, h2])
    · refine OpS.run (pick_run _ id g _ 4 q.rd (by omega)) (⟨_, Try.func63, rfl, rfl⟩ : Enters Try.prog 63) rfl rfl ?_
      rintro _ H3 ⟨⟨y, rfl, y0, y1⟩, r3, f3⟩
      have q3 := q.pick r3 f3
      simp (maxSteps := 1000000) (disch := omega) only [go_sem, Nat.reduceAdd, Nat.reduceMul, Nat.reduceSub, Nat.reduceEqDiff, Nat.reduceLeDiff]
      (first | with_reducible refine condK_dec (fun h3 => ?_) (fun h3 => ?_) | with_reducible refine condK_ndec (fun h3 => ?_) (fun h3 => ?_) | with_reducible refine condK_nb (fun h3 => ?_) (fun h3 => ?_) | refine condK_b (fun h3 => ?_) (fun h3 => ?_))
      · obtain ⟨zs, hz1, hz2⟩ := q3.ex
        simp (maxSteps := 1000000) (disch := omega) only [go_sem, Nat.reduceAdd, Nat.reduceMul, Nat.reduceSub, Nat.reduceEqDiff, Nat.reduceLeDiff, hz1]
        generalize nth zs ((k : Int) - 1) = vv
        refine OpS.run (pick_run _ id g _ 6 q3.rd (by omega)) (⟨_, Try.func63, rfl, rfl⟩ : Enters Try.prog 63) rfl rfl ?_
        rintro _ HK ⟨⟨y, rfl, y0, y1⟩, rK, fK⟩
        have qK := q3.pick rK fK
        simp (maxSteps := 1000000) (disch := omega) only [go_sem, Nat.reduceAdd, Nat.reduceMul, Nat.reduceSub, Nat.reduceEqDiff, Nat.reduceLeDiff]
        (first | with_reducible refine condK_dec (fun hc => ?_) (fun hc => ?_) | with_reducible refine condK_ndec (fun hc => ?_) (fun hc => ?_) | with_reducible refine condK_nb (fun hc => ?_) (fun hc => ?_) | refine condK_b (fun hc => ?_) (fun hc => ?_))
        · simp (maxSteps := 1000000) (disch := omega) only [go_sem, Nat.reduceAdd, Nat.reduceMul, Nat.reduceSub, Nat.reduceEqDiff, Nat.reduceLeDiff]
          refine OpS.run (pick_run _ id g _ m qK.rd (by omega)) (⟨_, Try.func63, rfl, rfl⟩ : Enters Try.prog 63) rfl rfl ?_
          rintro _ HL ⟨⟨w, rfl, w0, w1⟩, rL, fL⟩
          have qL := qK.pick rL fL
          simp (maxSteps := 1000000) (disch := omega) only [go_sem, Nat.reduceAdd, Nat.reduceMul, Nat.reduceSub, Nat.reduceEqDiff, Nat.reduceLeDiff, look_off, look_off0, set_off, set_off0, List.append_assoc, List.cons_append, List.nil_append, List.length_append]
          intro gs
          obtain ⟨zs, hz1, hz2⟩ := qL.ex
          refine appendM_own (E := eI .i64) (xs := zs) (ys := [w]) (sliceOf_of' ti23 rfl ti3) ⟨rfl, rfl, by decide, by decide⟩ hz2 (look_appL hz1) ⟨by omega, by simp⟩ (elems_own (E := eI .i64) (xs := [w]) look_last) ?_
          intro ge
          simp (maxSteps := 1000000) (disch := omega) only [go_sem, Nat.reduceAdd, Nat.reduceMul, Nat.reduceSub, Nat.reduceEqDiff, Nat.reduceLeDiff]
          exact ⟨k + 1, (ge, _), ⟨⟨by omega, (qL.app.put (by simp; omega)).mono (by push_cast; omega)⟩, by omega⟩, ⟨⟨rfl, rfl⟩, by push_cast; omega⟩, HLe.refl _⟩
        · skip
          simp (maxSteps := 1000000) (disch := omega) only [go_sem, Nat.reduceAdd, Nat.reduceMul, Nat.reduceSub, Nat.reduceEqDiff, Nat.reduceLeDiff, look_off, look_off0, set_off, set_off0, List.append_assoc, List.cons_append, List.nil_append, List.length_append]
          intro gs
          obtain ⟨zs, hz1, hz2⟩ := qK.ex
          refine appendM_own (E := eI .i64) (xs := zs) (ys := [vv]) (sliceOf_of' ti23 rfl ti3) ⟨rfl, rfl, by decide, by decide⟩ hz2 (look_appL hz1) ⟨by omega, by simp⟩ (elems_own (E := eI .i64) (xs := [vv]) look_last) ?_
          intro ge
          simp (maxSteps := 1000000) (disch := omega) only [go_sem, Nat.reduceAdd, Nat.reduceMul, Nat.reduceSub, Nat.reduceEqDiff, Nat.reduceLeDiff]
          exact ⟨k + 1, (ge, _), ⟨⟨by omega, (qK.app.put (by simp; omega)).mono (by push_cast; omega)⟩, by omega⟩, ⟨⟨rfl, rfl⟩, by push_cast; omega⟩, HLe.refl _⟩
      · simp (maxSteps := 1000000) (disch := omega) only [go_sem, Nat.reduceAdd, Nat.reduceMul, Nat.reduceSub, Nat.reduceEqDiff, Nat.reduceLeDiff]
        refine OpS.run (pick_run _ id g _ 6 q3.rd (by omega)) (⟨_, Try.func63, rfl, rfl⟩ : Enters Try.prog 63) rfl rfl ?_
        rintro _ HK ⟨⟨y, rfl, y0, y1⟩, rK, fK⟩
        have qK := q3.pick rK fK
        simp (maxSteps := 1000000) (disch := omega) only [go_sem, Nat.reduceAdd, Nat.reduceMul, Nat.reduceSub, Nat.reduceEqDiff, Nat.reduceLeDiff]
        (first | with_reducible refine condK_dec (fun hc => ?_) (fun hc => ?_) | with_reducible refine condK_ndec (fun hc => ?_) (fun hc => ?_) | with_reducible refine condK_nb (fun hc => ?_) (fun hc => ?_) | refine condK_b (fun hc => ?_) (fun hc => ?_))
        · simp (maxSteps := 1000000) (disch := omega) only [go_sem, Nat.reduceAdd, Nat.reduceMul, Nat.reduceSub, Nat.reduceEqDiff, Nat.reduceLeDiff]
          refine OpS.run (pick_run _ id g _ m qK.rd (by omega)) (⟨_, Try.func63, rfl, rfl⟩ : Enters Try.prog 63) rfl rfl ?_
          rintro _ HL ⟨⟨w, rfl, w0, w1⟩, rL, fL⟩
          have qL := qK.pick rL fL
          simp (maxSteps := 1000000) (disch := omega) only [go_sem, Nat.reduceAdd, Nat.reduceMul, Nat.reduceSub, Nat.reduceEqDiff, Nat.reduceLeDiff, look_off, look_off0, set_off, set_off0, List.append_assoc, List.cons_append, List.nil_append, List.length_append]
          intro gs
          obtain ⟨zs, hz1, hz2⟩ := qL.ex
          refine appendM_own (E := eI .i64) (xs := zs) (ys := [w]) (sliceOf_of' ti23 rfl ti3) ⟨rfl, rfl, by decide, by decide⟩ hz2 (look_appL hz1) ⟨by omega, by simp⟩ (elems_own (E := eI .i64) (xs := [w]) look_last) ?_
          intro ge
          simp (maxSteps := 1000000) (disch := omega) only [go_sem, Nat.reduceAdd, Nat.reduceMul, Nat.reduceSub, Nat.reduceEqDiff, Nat.reduceLeDiff]
          exact ⟨k + 1, (ge, _), ⟨⟨by omega, (qL.app.put (by simp; omega)).mono (by push_cast; omega)⟩, by omega⟩, ⟨⟨rfl, rfl⟩, by push_cast; omega⟩, HLe.refl _⟩
        · skip
          simp (maxSteps := 1000000) (disch := omega) only [go_sem, Nat.reduceAdd, Nat.reduceMul, Nat.reduceSub, Nat.reduceEqDiff, Nat.reduceLeDiff, look_off, look_off0, set_off, set_off0, List.append_assoc, List.cons_append, List.nil_append, List.length_append]
          intro gs
          obtain ⟨zs, hz1, hz2⟩ := qK.ex
          refine appendM_own (E := eI .i64) (xs := zs) (ys := [(d : Int)]) (sliceOf_of' ti23 rfl ti3) ⟨rfl, rfl, by decide, by decide⟩ hz2 (look_appL hz1) ⟨by omega, by simp⟩ (elems_own (E := eI .i64) (xs := [(d : Int)]) look_last) ?_
          intro ge
          simp (maxSteps := 1000000) (disch := omega) only [go_sem, Nat.reduceAdd, Nat.reduceMul, Nat.reduceSub, Nat.reduceEqDiff, Nat.reduceLeDiff]
          exact ⟨k + 1, (ge, _), ⟨⟨by omega, (qK.app.put (by simp; omega)).mono (by push_cast; omega)⟩, by omega⟩, ⟨⟨rfl, rfl⟩, by push_cast; omega⟩, HLe.refl _⟩
    · skip
      refine OpS.run (pick_run _ id g _ 6 q.rd (by omega)) (⟨_, Try.func63, rfl, rfl⟩ : Enters Try.prog 63) rfl rfl ?_
      rintro _ HK ⟨⟨y, rfl, y0, y1⟩, rK, fK⟩
      have qK := q.pick rK fK
      simp (maxSteps := 1000000) (disch := omega) only [go_sem, Nat.reduceAdd, Nat.reduceMul, Nat.reduceSub, Nat.reduceEqDiff, Nat.reduceLeDiff]
      (first | with_reducible refine condK_dec (fun hc => ?_) (fun hc => ?_) | with_reducible refine condK_ndec (fun hc => ?_) (fun hc => ?_) | with_reducible refine condK_nb (fun hc => ?_) (fun hc => ?_) | refine condK_b (fun hc => ?_) (fun hc => ?_))
      · simp (maxSteps := 1000000) (disch := omega) only [go_sem, Nat.reduceAdd, Nat.reduceMul, Nat.reduceSub, Nat.reduceEqDiff, Nat.reduceLeDiff]
        refine OpS.run (pick_run _ id g _ m qK.rd (by omega)) (⟨_, Try.func63, rfl, rfl⟩ : Enters Try.prog 63) rfl rfl ?_
        rintro _ HL ⟨⟨w, rfl, w0, w1⟩, rL, fL⟩
        have qL := qK.pick rL fL
        simp (maxSteps := 1000000) (disch := omega) only [go_sem, Nat.reduceAdd, Nat.reduceMul, Nat.reduceSub, Nat.reduceEqDiff, Nat.reduceLeDiff, look_off, look_off0, set_off, set_off0, List.append_assoc, List.cons_append, List.nil_append, List.length_append]
        intro gs
        obtain ⟨zs, hz1, hz2⟩ := qL.ex
        refine appendM_own (E := eI .i64) (xs := zs) (ys := [w]) (sliceOf_of' ti23 rfl ti3) ⟨rfl, rfl, by decide, by decide⟩ hz2 (look_appL hz1) ⟨by omega, by simp⟩ (elems_own (E := eI .i64) (xs := [w]) look_last) ?_
        intro ge
        simp (maxSteps := 1000000) (disch := omega) only [go_sem, Nat.reduceAdd, Nat.reduceMul, Nat.reduceSub, Nat.reduceEqDiff, Nat.reduceLeDiff]
        exact ⟨k + 1, (ge, _), ⟨⟨by omega, (qL.app.put (by simp; omega)).mono (by push_cast; omega)⟩, by omega⟩, ⟨⟨rfl, rfl⟩, by push_cast; omega⟩, HLe.refl _⟩
      · skip
        simp (maxSteps := 1000000) (disch := omega) only [go_sem, Nat.reduceAdd, Nat.reduceMul, Nat.reduceSub, Nat.reduceEqDiff, Nat.reduceLeDiff, look_off, look_off0, set_off, set_off0, List.append_assoc, List.cons_append, List.nil_append, List.length_append]
        intro gs
        obtain ⟨zs, hz1, hz2⟩ := qK.ex
        refine appendM_own (E := eI .i64) (xs := zs) (ys := [(d : Int)]) (sliceOf_of' ti23 rfl ti3) ⟨rfl, rfl, by decide, by decide⟩ hz2 (look_appL hz1) ⟨by omega, by simp⟩ (elems_own (E := eI .i64) (xs := [(d : Int)]) look_last) ?_
        intro ge
        simp (maxSteps := 1000000) (disch := omega) only [go_sem, Nat.reduceAdd, Nat.reduceMul, Nat.reduceSub, Nat.reduceEqDiff, Nat.reduceLeDiff]
        exact ⟨k + 1, (ge, _), ⟨⟨by omega, (qK.app.put (by simp; omega)).mono (by push_cast; omega)⟩, by omega⟩, ⟨⟨rfl, rfl⟩, by push_cast; omega⟩, HLe.refl _⟩
  · have hke : k = m * m := by omega
    subst hke
    obtain ⟨B', hB'⟩ : ∃ B' : Int, B + 2 + 3 * ((m * m : Nat) : Int) ≤ B' ∧ B' ≤ B + 50 := ⟨B + 50, by omega, by omega⟩
    have q := q.mono hB'.1
    replace hB' := hB'.2
    obtain ⟨N, hN⟩ : ∃ N, N = m * m := ⟨_, rfl⟩
    rw [← hN] at q hsq hk h1 ⊢
    simp (maxSteps := 1000000) (disch := omega) only [go_sem, Nat.reduceAdd, Nat.reduceMul, Nat.reduceSub, Nat.reduceEqDiff, Nat.reduceLeDiff]
    by_cases h4 : (m : Int) = 4
    · rw [decide_eq_true h4]
      have hN16 : N = 16 := by rw [hN, show m = 4 by omega]
      simp (maxSteps := 1000000) (disch := omega) only [go_sem, Nat.reduceAdd, Nat.reduceMul, Nat.reduceSub, Nat.reduceEqDiff, Nat.reduceLeDiff]
      refine OpS.run (pick_run _ id g _ 3 q.rd (by omega)) (⟨_, Try.func63, rfl, rfl⟩ : Enters Try.prog 63) rfl rfl ?_
      rintro _ H3 ⟨⟨y, rfl, y0, y1⟩, r3, f3⟩
      have q3 := q.pick r3 f3
      simp (maxSteps := 1000000) (disch := omega) only [go_sem, Nat.reduceAdd, Nat.reduceMul, Nat.reduceSub, Nat.reduceEqDiff, Nat.reduceLeDiff]
      (first | with_reducible refine condK_dec (fun h5 => ?_) (fun h5 => ?_) | with_reducible refine condK_ndec (fun h5 => ?_) (fun h5 => ?_) | with_reducible refine condK_nb (fun h5 => ?_) (fun h5 => ?_) | refine condK_b (fun h5 => ?_) (fun h5 => ?_))
      · simp (maxSteps := 1000000) (disch := omega) only [go_sem, Nat.reduceAdd, Nat.reduceMul, Nat.reduceSub, Nat.reduceEqDiff, Nat.reduceLeDiff]
        refine OpS.mkQ BoxRegions_own (⟨_, Try.func106, rfl, rfl⟩ : Enters Try.prog 106) rfl rfl rfl ?_
        rintro _ _ ⟨gb, rfl, rfl⟩
        refine ⟨rfl, ?_⟩
        have q4 : RgI H (H3 ++ [some ⟨gb, 1, cl (eI .i64) boxL⟩]) id g (B' + 1) H3.length gb N := ⟨⟨boxL, look_last, by rw [hN16]; exact boxL_len⟩, q3.rd.app, hlt, q3.l, by rw [List.length_append]; have := q3.l; omega, fun k hk hne => by rw [List.getElem?_append_left (by have := q3.l; omega), q3.frm k hk hne]⟩
        rw [boxL_len, ← hN16]
        simp (maxSteps := 1000000) (disch := omega) only [go_sem, Nat.reduceAdd, Nat.reduceMul, Nat.reduceSub, Nat.reduceEqDiff, Nat.reduceLeDiff]
        rw [Nat.zero_add]
        refine OpS.run (odd_run _ id g _ n q4.rd (by omega) (by omega)) (⟨_, Try.func61, rfl, rfl⟩ : Enters Try.prog 61) rfl rfl ?_
        rintro _ H8 ⟨⟨b, rfl, hb⟩, r8, f8⟩
        have q8 := q4.pick r8 f8
        simp (maxSteps := 1000000) (disch := omega) only [go_sem, Nat.reduceAdd, Nat.reduceMul, Nat.reduceSub, Nat.reduceEqDiff, Nat.reduceLeDiff]
        (first | with_reducible refine condK_dec (fun c1 => ?_) (fun c1 => ?_) | with_reducible refine condK_ndec (fun c1 => ?_) (fun c1 => ?_) | with_reducible refine condK_nb (fun c1 => ?_) (fun c1 => ?_) | refine condK_b (fun c1 => ?_) (fun c1 => ?_))
        · simp (maxSteps := 1000000) (disch := omega) only [go_sem, Nat.reduceAdd, Nat.reduceMul, Nat.reduceSub, Nat.reduceEqDiff, Nat.reduceLeDiff]
          refine OpS.run (pick_run _ id g _ 3 q8.rd (by omega)) (⟨_, Try.func63, rfl, rfl⟩ : Enters Try.prog 63) rfl rfl ?_
          rintro _ H9 ⟨⟨y, rfl, y0, y1⟩, r9, f9⟩
          have q9 := q8.pick r9 f9
          simp (maxSteps := 1000000) (disch := omega) only [go_sem, Nat.reduceAdd, Nat.reduceMul, Nat.reduceSub, Nat.reduceEqDiff, Nat.reduceLeDiff]
          (first | with_reducible refine condK_dec (fun c2 => ?_) (fun c2 => ?_) | with_reducible refine condK_ndec (fun c2 => ?_) (fun c2 => ?_) | with_reducible refine condK_nb (fun c2 => ?_) (fun c2 => ?_) | refine condK_b (fun c2 => ?_) (fun c2 => ?_))
          · obtain ⟨zs, hz1, hz2⟩ := q9.ex
            simp (maxSteps := 1000000) (disch := omega) only [go_sem, Nat.reduceAdd, Nat.reduceMul, Nat.reduceSub, Nat.reduceEqDiff, Nat.reduceLeDiff, hz1]
            refine OpS.run (pick_run _ id g _ _ q9.rd (by omega)) (⟨_, Try.func63, rfl, rfl⟩ : Enters Try.prog 63) rfl rfl ?_
            rintro _ HA ⟨⟨y, rfl, y0, y1⟩, rA, fA⟩
            have y1 := y1 (by omega)
            obtain ⟨yn, rfl⟩ : ∃ yn : Nat, y = yn := ⟨y.toNat, by omega⟩
            have qA := q9.pick rA fA
            simp (maxSteps := 1000000) (disch := omega) only [go_sem, Nat.reduceAdd, Nat.reduceMul, Nat.reduceSub, Nat.reduceEqDiff, Nat.reduceLeDiff]
            intro gb
            have qA' := qA.app (X := [some ⟨gb, 1, [.f (.int .i64 (-1)), .f (.int .i64 (m : Int))]⟩])
            refine OpS.run (pick_run _ id g _ 2 qA'.rd (by omega)) (⟨_, Try.func63, rfl, rfl⟩ : Enters Try.prog 63) rfl rfl ?_
            rintro _ HB ⟨⟨y2, rfl, y20, y21⟩, rB, fB⟩
            have y21 := y21 (by omega)
            have qB := qA'.pick rB fB
            have hbl := fB.last qA.rd.lt
            obtain ⟨zs, hz1, hz2⟩ := qB.ex
            obtain rfl | rfl : y2 = 0 ∨ y2 = 1 := by omega
            all_goals
              simp (maxSteps := 1000000) (disch := omega) only [go_sem, Nat.reduceAdd, Nat.reduceMul, Nat.reduceSub, Nat.reduceEqDiff, Nat.reduceLeDiff, hbl, Int.reduceToNat, hz1]
              rw [Int.toNat_natCast]
              exact ⟨_, HLe.refl _, (qB.put (k' := N) (by rw [List.length_set]; exact hz2)).view (by omega) (by omega) 0 N (by omega) (by omega)⟩
          · simp (maxSteps := 1000000) (disch := omega) only [go_sem, Nat.reduceAdd, Nat.reduceMul, Nat.reduceSub, Nat.reduceEqDiff, Nat.reduceLeDiff]
            (first | with_reducible refine condK_dec (fun c3 => ?_) (fun c3 => ?_) | with_reducible refine condK_ndec (fun c3 => ?_) (fun c3 => ?_) | with_reducible refine condK_nb (fun c3 => ?_) (fun c3 => ?_) | refine condK_b (fun c3 => ?_) (fun c3 => ?_))
            · obtain ⟨zs, hz1, hz2⟩ := q9.ex
              simp (maxSteps := 1000000) (disch := omega) only [go_sem, Nat.reduceAdd, Nat.reduceMul, Nat.reduceSub, Nat.reduceEqDiff, Nat.reduceLeDiff, hz1]
              have hsl : sliceV Try.prog H9 23 (.c (.own H3.length gb 0 N none)) (some 1) none none = some (.c (.own H3.length gb 1 (N - 1) none)) := by
                simp only [sliceV, ti23, ti3, hz1, Option.getD_none, Option.getD_some]
                rw [if_pos ⟨by omega, by omega, by rw [cl_length]; omega, by simp, trivial, by omega, by omega⟩]
              simp (maxSteps := 1000000) (disch := omega) only [go_sem, Nat.reduceAdd, Nat.reduceMul, Nat.reduceSub, Nat.reduceEqDiff, Nat.reduceLeDiff, Int.reduceToNat, hsl]
              exact ⟨_, HLe.refl _, q9.view (by omega) (by omega) 1 (N - 1) (by omega) (by omega)⟩
            · simp (maxSteps := 1000000) (disch := omega) only [go_sem, Nat.reduceAdd, Nat.reduceMul, Nat.reduceSub, Nat.reduceEqDiff, Nat.reduceLeDiff]
              refine OpS.run (l20Size_run _ id g _ 1 q9.rd (by omega) (by omega)) (⟨_, Try.func59, rfl, rfl⟩ : Enters Try.prog 59) rfl rfl ?_
              rintro _ HA ⟨⟨sz, rfl, s1, s2, _⟩, rA, fA⟩
              have qA := q9.pick rA fA
              simp (maxSteps := 1000000) (disch := omega) only [go_sem, Nat.reduceAdd, Nat.reduceMul, Nat.reduceSub, Nat.reduceEqDiff, Nat.reduceLeDiff]
              exact ⟨_, HLe.refl _, qA.view (by omega) ⟨s1, s2⟩ 0 N (by omega) (by omega)⟩
        · simp (maxSteps := 1000000) (disch := omega) only [go_sem, Nat.reduceAdd, Nat.reduceMul, Nat.reduceSub, Nat.reduceEqDiff, Nat.reduceLeDiff]
          exact ⟨_, HLe.refl _, q8.view (by omega) (by omega) 0 N (by omega) (by omega)⟩
      · simp (maxSteps := 1000000) (disch := omega) only [go_sem, Nat.reduceAdd, Nat.reduceMul, Nat.reduceSub, Nat.reduceEqDiff, Nat.reduceLeDiff]
        refine OpS.run (odd_run _ id g _ n q3.rd (by omega) (by omega)) (⟨_, Try.func61, rfl, rfl⟩ : Enters Try.prog 61) rfl rfl ?_
        rintro _ H8 ⟨⟨b, rfl, hb⟩, r8, f8⟩
        have q8 := q3.pick r8 f8
        simp (maxSteps := 1000000) (disch := omega) only [go_sem, Nat.reduceAdd, Nat.reduceMul, Nat.reduceSub, Nat.reduceEqDiff, Nat.reduceLeDiff]
        (first | with_reducible refine condK_dec (fun c1 => ?_) (fun c1 => ?_) | with_reducible refine condK_ndec (fun c1 => ?_) (fun c1 => ?_) | with_reducible refine condK_nb (fun c1 => ?_) (fun c1 => ?_) | refine condK_b (fun c1 => ?_) (fun c1 => ?_))
        · simp (maxSteps := 1000000) (disch := omega) only [go_sem, Nat.reduceAdd, Nat.reduceMul, Nat.reduceSub, Nat.reduceEqDiff, Nat.reduceLeDiff]
          refine OpS.run (pick_run _ id g _ 3 q8.rd (by omega)) (⟨_, Try.func63, rfl, rfl⟩ : Enters Try.prog 63) rfl rfl ?_
          rintro _ H9 ⟨⟨y, rfl, y0, y1⟩, r9, f9⟩
          have q9 := q8.pick r9 f9
          simp (maxSteps := 1000000) (disch := omega) only [go_sem, Nat.reduceAdd, Nat.reduceMul, Nat.reduceSub, Nat.reduceEqDiff, Nat.reduceLeDiff]
          (first | with_reducible refine condK_dec (fun c2 => ?_) (fun c2 => ?_) | with_reducible refine condK_ndec (fun c2 => ?_) (fun c2 => ?_) | with_reducible refine condK_nb (fun c2 => ?_) (fun c2 => ?_) | refine condK_b (fun c2 => ?_) (fun c2 => ?_))
          · obtain ⟨zs, hz1, hz2⟩ := q9.ex
            simp (maxSteps := 1000000) (disch := omega) only [go_sem, Nat.reduceAdd, Nat.reduceMul, Nat.reduceSub, Nat.reduceEqDiff, Nat.reduceLeDiff, hz1]
            refine OpS.run (pick_run _ id g _ _ q9.rd (by omega)) (⟨_, Try.func63, rfl, rfl⟩ : Enters Try.prog 63) rfl rfl ?_
            rintro _ HA ⟨⟨y, rfl, y0, y1⟩, rA, fA⟩
            have y1 := y1 (by omega)
            obtain ⟨yn, rfl⟩ : ∃ yn : Nat, y = yn := ⟨y.toNat, by omega⟩
            have qA := q9.pick rA fA
            simp (maxSteps := 1000000) (disch := omega) only [go_sem, Nat.reduceAdd, Nat.reduceMul, Nat.reduceSub, Nat.reduceEqDiff, Nat.reduceLeDiff]
            intro gb
            have qA' := qA.app (X := [some ⟨gb, 1, [.f (.int .i64 (-1)), .f (.int .i64 (m : Int))]⟩])
            refine OpS.run (pick_run _ id g _ 2 qA'.rd (by omega)) (⟨_, Try.func63, rfl, rfl⟩ : Enters Try.prog 63) rfl rfl ?_
            rintro _ HB ⟨⟨y2, rfl, y20, y21⟩, rB, fB⟩
            have y21 := y21 (by omega)
            have qB := qA'.pick rB fB
            have hbl := fB.last qA.rd.lt
            obtain ⟨zs, hz1, hz2⟩ := qB.ex
            obtain rfl | rfl : y2 = 0 ∨ y2 = 1 := by omega
            all_goals
              simp (maxSteps := 1000000) (disch := omega) only [go_sem, Nat.reduceAdd, Nat.reduceMul, Nat.reduceSub, Nat.reduceEqDiff, Nat.reduceLeDiff, hbl, Int.reduceToNat, hz1]
              rw [Int.toNat_natCast]
              exact ⟨_, HLe.refl _, (qB.put (k' := N) (by rw [List.length_set]; exact hz2)).view (by omega) (by omega) 0 N (by omega) (by omega)⟩
          · simp (maxSteps := 1000000) (disch := omega) only [go_sem, Nat.reduceAdd, Nat.reduceMul, Nat.reduceSub, Nat.reduceEqDiff, Nat.reduceLeDiff]
            (first | with_reducible refine condK_dec (fun c3 => ?_) (fun c3 => ?_) | with_reducible refine condK_ndec (fun c3 => ?_) (fun c3 => ?_) | with_reducible refine condK_nb (fun c3 => ?_) (fun c3 => ?_) | refine condK_b (fun c3 => ?_) (fun c3 => ?_))
            · obtain ⟨zs, hz1, hz2⟩ := q9.ex
              simp (maxSteps := 1000000) (disch := omega) only [go_sem, Nat.reduceAdd, Nat.reduceMul, Nat.reduceSub, Nat.reduceEqDiff, Nat.reduceLeDiff, hz1]
              have hsl : sliceV Try.prog H9 23 (.c (.own H1.length gg 0 N none)) (some 1) none none = some (.c (.own H1.length gg 1 (N - 1) none)) := by
                simp only [sliceV, ti23, ti3, hz1, Option.getD_none, Option.getD_some]
                rw [if_pos ⟨by omega, by omega, by rw [cl_length]; omega, by simp, trivial, by omega, by omega⟩]
              simp (maxSteps := 1000000) (disch := omega) only [go_sem, Nat.reduceAdd, Nat.reduceMul, Nat.reduceSub, Nat.reduceEqDiff, Nat.reduceLeDiff, Int.reduceToNat, hsl]
              exact ⟨_, HLe.refl _, q9.view (by omega) (by omega) 1 (N - 1) (by omega) (by omega)⟩
            · simp (maxSteps := 1000000) (disch := omega) only [go_sem, Nat.reduceAdd, Nat.reduceMul, Nat.reduceSub, Nat.reduceEqDiff, Nat.reduceLeDiff]
              refine OpS.run (l20Size_run _ id g _ 1 q9.rd (by omega) (by omega)) (⟨_, Try.func59, rfl, rfl⟩ : Enters Try.prog 59) rfl rfl ?_
              rintro _ HA ⟨⟨sz, rfl, s1, s2, _⟩, rA, fA⟩
              have qA := q9.pick rA fA
              simp (maxSteps := 1000000) (disch := omega) only [go_sem, Nat.reduceAdd, Nat.reduceMul, Nat.reduceSub, Nat.reduceEqDiff, Nat.reduceLeDiff]
              exact ⟨_, HLe.refl _, qA.view (by omega) ⟨s1, s2⟩ 0 N (by omega) (by omega)⟩
        · simp (maxSteps := 1000000) (disch := omega) only [go_sem, Nat.reduceAdd, Nat.reduceMul, Nat.reduceSub, Nat.reduceEqDiff, Nat.reduceLeDiff]
          exact ⟨_, HLe.refl _, q8.view (by omega) (by omega) 0 N (by omega) (by omega)⟩
    · rw [decide_eq_false h4]
      simp (maxSteps := 1000000) (disch := omega) only [go_sem, Nat.reduceAdd, Nat.reduceMul, Nat.reduceSub, Nat.reduceEqDiff, Nat.reduceLeDiff]
      refine OpS.run (odd_run _ id g _ n q.rd (by omega) (by omega)) (⟨_, Try.func61, rfl, rfl⟩ : Enters Try.prog 61) rfl rfl ?_
      rintro _ H8 ⟨⟨b, rfl, hb⟩, r8, f8⟩
      have q8 := q.pick r8 f8
      simp (maxSteps := 1000000) (disch := omega) only [go_sem, Nat.reduceAdd, Nat.reduceMul, Nat.reduceSub, Nat.reduceEqDiff, Nat.reduceLeDiff]
      (first | with_reducible refine condK_dec (fun c1 => ?_) (fun c1 => ?_) | with_reducible refine condK_ndec (fun c1 => ?_) (fun c1 => ?_) | with_reducible refine condK_nb (fun c1 => ?_) (fun c1 => ?_) | refine condK_b (fun c1 => ?_) (fun c1 => ?_))
      · simp (maxSteps := 1000000) (disch := omega) only [go_sem, Nat.reduceAdd, Nat.reduceMul, Nat.reduceSub, Nat.reduceEqDiff, Nat.reduceLeDiff]
        refine OpS.run (pick_run _ id g _ 3 q8.rd (by omega)) (⟨_, Try.func63, rfl, rfl⟩ : Enters Try.prog 63) rfl rfl ?_
        rintro _ H9 ⟨⟨y, rfl, y0, y1⟩, r9, f9⟩
        have q9 := q8.pick r9 f9
        simp (maxSteps := 1000000) (disch := omega) only [go_sem, Nat.reduceAdd, Nat.reduceMul, Nat.reduceSub, Nat.reduceEqDiff, Nat.reduceLeDiff]
        (first | with_reducible refine condK_dec (fun c2 => ?_) (fun c2 => ?_) | with_reducible refine condK_ndec (fun c2 => ?_) (fun c2 => ?_) | with_reducible refine condK_nb (fun c2 => ?_) (fun c2 => ?_) | refine condK_b (fun c2 => ?_) (fun c2 => ?_))
        · obtain ⟨zs, hz1, hz2⟩ := q9.ex
          simp (maxSteps := 1000000) (disch := omega) only [go_sem, Nat.reduceAdd, Nat.reduceMul, Nat.reduceSub, Nat.reduceEqDiff, Nat.reduceLeDiff, hz1]
          refine OpS.run (pick_run _ id g _ _ q9.rd (by omega)) (⟨_, Try.func63, rfl, rfl⟩ : Enters Try.prog 63) rfl rfl ?_
          rintro _ HA ⟨⟨y, rfl, y0, y1⟩, rA, fA⟩
          have y1 := y1 (by omega)
          obtain ⟨yn, rfl⟩ : ∃ yn : Nat, y = yn := ⟨y.toNat, by omega⟩
          have qA := q9.pick rA fA
          simp (maxSteps := 1000000) (disch := omega) only [go_sem, Nat.reduceAdd, Nat.reduceMul, Nat.reduceSub, Nat.reduceEqDiff, Nat.reduceLeDiff]
          intro gb
          have qA' := qA.app (X := [some ⟨gb, 1, [.f (.int .i64 (-1)), .f (.int .i64 (m : Int))]⟩])
          refine OpS.run (pick_run _ id g _ 2 qA'.rd (by omega)) (⟨_, Try.func63, rfl, rfl⟩ : Enters Try.prog 63) rfl rfl ?_
          rintro _ HB ⟨⟨y2, rfl, y20, y21⟩, rB, fB⟩
          have y21 := y21 (by omega)
          have qB := qA'.pick rB fB
          have hbl := fB.last qA.rd.lt
          obtain ⟨zs, hz1, hz2⟩ := qB.ex
          obtain rfl | rfl : y2 = 0 ∨ y2 = 1 := by omega
          all_goals
            simp (maxSteps := 1000000) (disch := omega) only [go_sem, Nat.reduceAdd, Nat.reduceMul, Nat.reduceSub, Nat.reduceEqDiff, Nat.reduceLeDiff, hbl, Int.reduceToNat, hz1]
            rw [Int.toNat_natCast]
            exact ⟨_, HLe.refl _, (qB.put (k' := N) (by rw [List.length_set]; exact hz2)).view (by omega) (by omega) 0 N (by omega) (by omega)⟩
        · simp (maxSteps := 1000000) (disch := omega) only [go_sem, Nat.reduceAdd, Nat.reduceMul, Nat.reduceSub, Nat.reduceEqDiff, Nat.reduceLeDiff]
          (first | with_reducible refine condK_dec (fun c3 => ?_) (fun c3 => ?_) | with_reducible refine condK_ndec (fun c3 => ?_) (fun c3 => ?_) | with_reducible refine condK_nb (fun c3 => ?_) (fun c3 => ?_) | refine condK_b (fun c3 => ?_) (fun c3 => ?_))
          · obtain ⟨zs, hz1, hz2⟩ := q9.ex
            simp (maxSteps := 1000000) (disch := omega) only [go_sem, Nat.reduceAdd, Nat.reduceMul, Nat.reduceSub, Nat.reduceEqDiff, Nat.reduceLeDiff, hz1]
            have hsl : sliceV Try.prog H9 23 (.c (.own H1.length gg 0 N none)) (some 1) none none = some (.c (.own H1.length gg 1 (N - 1) none)) := by
              simp only [sliceV, ti23, ti3, hz1, Option.getD_none, Option.getD_some]
              rw [if_pos ⟨by omega, by omega, by rw [cl_length]; omega, by simp, trivial, by omega, by omega⟩]
            simp (maxSteps := 1000000) (disch := omega) only [go_sem, Nat.reduceAdd, Nat.reduceMul, Nat.reduceSub, Nat.reduceEqDiff, Nat.reduceLeDiff, Int.reduceToNat, hsl]
            exact ⟨_, HLe.refl _, q9.view (by omega) (by omega) 1 (N - 1) (by omega) (by omega)⟩
          · simp (maxSteps := 1000000) (disch := omega) only [go_sem, Nat.reduceAdd, Nat.reduceMul, Nat.reduceSub, Nat.reduceEqDiff, Nat.reduceLeDiff]
            refine OpS.run (l20Size_run _ id g _ 1 q9.rd (by omega) (by omega)) (⟨_, Try.func59, rfl, rfl⟩ : Enters Try.prog 59) rfl rfl ?_
            rintro _ HA ⟨⟨sz, rfl, s1, s2, _⟩, rA, fA⟩
            have qA := q9.pick rA fA
            simp (maxSteps := 1000000) (disch := omega) only [go_sem, Nat.reduceAdd, Nat.reduceMul, Nat.reduceSub, Nat.reduceEqDiff, Nat.reduceLeDiff]
            exact ⟨_, HLe.refl _, qA.view (by omega) ⟨s1, s2⟩ 0 N (by omega) (by omega)⟩
      · simp (maxSteps := 1000000) (disch := omega) only [go_sem, Nat.reduceAdd, Nat.reduceMul, Nat.reduceSub, Nat.reduceEqDiff, Nat.reduceLeDiff]
        exact ⟨_, HLe.refl _, q8.view (by omega) (by omega) 0 N (by omega) (by omega)⟩
end Go.Lg
