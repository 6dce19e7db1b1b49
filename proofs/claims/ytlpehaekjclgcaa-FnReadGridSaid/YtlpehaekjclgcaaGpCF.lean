/- The laws of grids: their texts can be read, their rows make them. -/
import Derived.Test.YtlpehaekjclgcaaGpCE
import Derived.Test.YtlpehaekjclgcaaGpE
import Derived.Test.YtlpehaekjclgcaaGpB
set_option linter.unusedSimpArgs false
set_option linter.unusedVariables false
set_option maxRecDepth 100000
namespace Go.Lg
open Go.Proofs

def drawnQ : AV → Prop := fun v => ∃ xs z, v = .tup [ints xs, int z] ∧ xs.length ≤ 16
theorem wf_u8 {xs : List Int} (h : ∀ x ∈ xs, (Lit.int .u8 x).wf = true) : ∀ x ∈ xs, 0 ≤ x ∧ x ≤ 255 := fun x hx => by
  have := h x hx
  simp [Lit.wf] at this
  have e1 : IntKind.u8.min = 0 := by decide
  have e2 : IntKind.u8.max = 255 := by decide
  omega
theorem DrawGridRows_run (code : List Int) (hb : ∀ x ∈ code, 0 ≤ x ∧ x ≤ 255) (hl : code.length ≤ 2 ^ 40) : RunCall Try.prog 25 [rsl (eI .u8) code] [] (fun v _ => drawnQ v) := by
  refine RunCall.freeze (Q' := fun v H' => ∃ c z xs, v = .tup [.c c, int z] ∧ frzC H' c = some (.f (fints xs)) ∧ xs.length ≤ 16) ?_ ?_
  rotate_left
  · rintro v H' ⟨c, z, xs, rfl, h1, h2⟩
    have e : ∀ x, frzC H' (.f (.int .i64 x)) = some (.f (.int .i64 x)) := fun x => rfl
    exact ⟨.tup [ints xs, int z], by simp only [frzA, List.mapM_cons, List.mapM_nil, frz1, h1, e, Option.pure_def, Option.bind_eq_bind, Option.bind_some, Option.map_some], xs, z, rfl, h2⟩
  refine RunCall.cw (c := _) Try.func25 rfl (n := 9) Try.ntmps25 (rs := [.tmp 2, .tmp 3]) rfl ?_
  simp only [List.length_cons, List.length_nil, Nat.reduceAdd, Nat.reduceSub, List.replicate, List.cons_append, List.nil_append]
  simp (maxSteps := 1000000) (disch := omega) only [go_sem, Nat.reduceAdd, Nat.reduceMul, Nat.reduceSub, Nat.reduceEqDiff, Nat.reduceLeDiff]
  refine OpS.run (l20Open_run code hb hl) (⟨_, Try.func51, rfl, rfl⟩ : Enters Try.prog 51) rfl rfl ?_
  rintro _ H1 ⟨g, rfl, r1, hl1⟩
  simp (maxSteps := 1000000) (disch := omega) only [go_sem, Nat.reduceAdd, Nat.reduceMul, Nat.reduceSub, Nat.reduceEqDiff, Nat.reduceLeDiff]
  refine OpS.run (l20Grid_run H1 0 g 0 9 r1 (by omega) (by omega)) (⟨_, Try.func50, rfl, rfl⟩ : Enters Try.prog 50) rfl rfl ?_
  rintro _ H2 ⟨c, z, xs, rfl, h1, h2, _⟩
  simp (maxSteps := 1000000) (disch := omega) only [go_sem, Nat.reduceAdd, Nat.reduceMul, Nat.reduceSub, Nat.reduceEqDiff, Nat.reduceLeDiff]
  exact ⟨_, HLe.refl _, c, z, xs, rfl, h1, h2⟩
theorem DrawGridText_run (code : List Int) (hb : ∀ x ∈ code, 0 ≤ x ∧ x ≤ 255) (hl : code.length ≤ 2 ^ 40) : RunCall Try.prog 27 [rsl (eI .u8) code] [] (fun v _ => drawnQ v) := by
  refine RunCall.freeze (Q' := fun v H' => ∃ c z xs, v = .tup [.c c, int z] ∧ frzC H' c = some (.f (fints xs)) ∧ xs.length ≤ 16) ?_ ?_
  rotate_left
  · rintro v H' ⟨c, z, xs, rfl, h1, h2⟩
    have e : ∀ x, frzC H' (.f (.int .i64 x)) = some (.f (.int .i64 x)) := fun x => rfl
    exact ⟨.tup [ints xs, int z], by simp only [frzA, List.mapM_cons, List.mapM_nil, frz1, h1, e, Option.pure_def, Option.bind_eq_bind, Option.bind_some, Option.map_some], xs, z, rfl, h2⟩
  refine RunCall.cw (c := _) Try.func27 rfl (n := 9) Try.ntmps27 (rs := [.tmp 2, .tmp 3]) rfl ?_
  simp only [List.length_cons, List.length_nil, Nat.reduceAdd, Nat.reduceSub, List.replicate, List.cons_append, List.nil_append]
  simp (maxSteps := 1000000) (disch := omega) only [go_sem, Nat.reduceAdd, Nat.reduceMul, Nat.reduceSub, Nat.reduceEqDiff, Nat.reduceLeDiff]
  refine OpS.run (l20Open_run code hb hl) (⟨_, Try.func51, rfl, rfl⟩ : Enters Try.prog 51) rfl rfl ?_
  rintro _ H1 ⟨g, rfl, r1, hl1⟩
  simp (maxSteps := 1000000) (disch := omega) only [go_sem, Nat.reduceAdd, Nat.reduceMul, Nat.reduceSub, Nat.reduceEqDiff, Nat.reduceLeDiff]
  refine OpS.run (l20Grid_run H1 0 g 0 6 r1 (by omega) (by omega)) (⟨_, Try.func50, rfl, rfl⟩ : Enters Try.prog 50) rfl rfl ?_
  rintro _ H2 ⟨c, z, xs, rfl, h1, h2, _⟩
  simp (maxSteps := 1000000) (disch := omega) only [go_sem, Nat.reduceAdd, Nat.reduceMul, Nat.reduceSub, Nat.reduceEqDiff, Nat.reduceLeDiff]
  exact ⟨_, HLe.refl _, c, z, xs, rfl, h1, h2⟩
theorem alive_run : Reads Try.prog 26 [] (bool true) := by
  refine RunCall.cw (c := _) Try.func26 rfl (n := 4) Try.ntmps26 (rs := [.tmp 0]) rfl ?_
  simp only [List.length_cons, List.length_nil, Nat.reduceAdd, Nat.reduceSub, List.replicate, List.cons_append, List.nil_append]
  simp (maxSteps := 1000000) (disch := omega) only [go_sem, Nat.reduceAdd, Nat.reduceMul, Nat.reduceSub, Nat.reduceEqDiff, Nat.reduceLeDiff]
  intro g
  have hown : OwnI [some ⟨g, 1, [.f (.int .i64 1), .f (.int .i64 0), .f (.int .i64 0), .f (.int .i64 2)]⟩] (.own 0 g 0 4 none) [1, 0, 0, 2] [0] := OwnI.o 0 g none [1, 0, 0, 2] [] (by rw [look_zero]; rfl)
  refine OpS.rdD (GridFilled_run [1, 0, 0, 2] 2 (by simp)) (⟨_, Try.func52, rfl, rfl⟩ : Enters Try.prog 52) rfl rfl (snap_two hown.snap snapD_int) rfl ?_
  have e : gridFilled [1, 0, 0, 2] 2 = 2 := by decide
  rw [e]
  simp (maxSteps := 1000000) (disch := omega) only [go_sem, Nat.reduceAdd, Nat.reduceMul, Nat.reduceSub, Nat.reduceEqDiff, Nat.reduceLeDiff]
theorem sameInts_run (xs ys : List Int) (hx : xs.length ≤ 2 ^ 40) : Reads Try.prog 29 [ints xs, ints ys] (bool (decide (xs = ys))) := by
  refine RunCall.cw (c := _) Try.func29 rfl (n := 26) Try.ntmps29 (rs := [.tmp 4]) rfl ?_
  simp only [List.length_cons, List.length_nil, Nat.reduceAdd, Nat.reduceSub, List.replicate, List.cons_append, List.nil_append]
  simp (maxSteps := 1000000) (disch := omega) only [go_sem, Nat.reduceAdd, Nat.reduceMul, Nat.reduceSub, Nat.reduceEqDiff, Nat.reduceLeDiff]
  refine condK_split (fun h => ?_) (fun h => ?_) <;> simp (maxSteps := 1000000) (disch := omega) only [go_sem, Nat.reduceAdd, Nat.reduceMul, Nat.reduceSub, Nat.reduceEqDiff, Nat.reduceLeDiff]
  · simp at h
    symm; simp; intro h2; exact h (by rw [h2])
  have hl : xs.length = ys.length := by simp at h; omega
  refine loop_rule (fun i : Nat => xs.length - i) (fun i => i ≤ xs.length ∧ ∀ j : Nat, j < i → nth xs j = nth ys j) (fun i => [.k, .k, .a, .a, .a, .p (int i), .a, .a, .a, .a, .a, .a, .a, .a, .a, .a, .a, .a, .a, .a, .a, .a, .a, .a, .a, .a]) (fun i => []) 0
    ⟨Nat.zero_le _, fun j hj => absurd hj (Nat.not_lt_zero _)⟩ (by simp (maxSteps := 1000000) (disch := omega) only [go_sem, Nat.reduceAdd, Nat.reduceMul, Nat.reduceSub, Nat.reduceEqDiff, Nat.reduceLeDiff]; rfl) (hle_nil _) ?_
  rintro i ⟨hi, hall⟩
  simp (maxSteps := 1000000) (disch := omega) only [go_sem, Nat.reduceAdd, Nat.reduceMul, Nat.reduceSub, Nat.reduceEqDiff, Nat.reduceLeDiff]
  refine condK_split (fun h => ?_) (fun h => ?_)
  · have h : i < xs.length := by simpa using h
    simp (maxSteps := 1000000) (disch := omega) only [go_sem, Nat.reduceAdd, Nat.reduceMul, Nat.reduceSub, Nat.reduceEqDiff, Nat.reduceLeDiff]
    refine drawP_q foll (by kernel_rfl) ?_
    simp (maxSteps := 1000000) (disch := omega) only [go_sem, Nat.reduceBEq, Bool.true_or, Nat.reduceAdd, Nat.reduceMul, Nat.reduceSub, Nat.reduceEqDiff, Nat.reduceLeDiff]
    refine condK_split (fun h => ?_) (fun h => ?_) <;> simp (maxSteps := 1000000) (disch := omega) only [go_sem, Nat.reduceAdd, Nat.reduceMul, Nat.reduceSub, Nat.reduceEqDiff, Nat.reduceLeDiff]
    · simp at h
      symm; simp; intro h2; exact h (by rw [h2])
    simp at h
    refine ⟨i + 1, ⟨⟨by omega, fun j hj => ?_⟩, by omega⟩, by omega, hle_nil _⟩
    rcases Nat.lt_succ_iff_lt_or_eq.1 hj with hj | rfl
    · exact hall j hj
    · exact h
  have h : ¬ i < xs.length := by simpa using h
  simp (maxSteps := 1000000) (disch := omega) only [go_sem, Nat.reduceAdd, Nat.reduceMul, Nat.reduceSub, Nat.reduceEqDiff, Nat.reduceLeDiff]
  have := ext_nth hl fun j hj => hall j (by omega)
  simp [this]
theorem ReadGrid_rd (s : List UInt8) (hx : s.length ≤ 2 ^ 40) : Reads Try.prog 17 [txt s] (.tup [ints (rdGrid s).1, int (rdGrid s).2.1, bool (rdGrid s).2.2]) := by
  refine Reads.ice (ReadGrid_run s hx) ?_
  rintro r H ⟨hno, hyes⟩
  cases hv : (rdGrid s).2.2 with
  | false =>
    obtain ⟨rfl, rfl⟩ := hno hv
    have : rdGrid s = ([], 0, false) := by unfold rdGrid at hv ⊢; split <;> simp_all
    rw [this]
    rfl
  | true =>
    obtain ⟨g, rfl, rfl⟩ := hyes hv
    have h1 := (OwnI.o (H := [some ⟨g, 1, cl (eI .i64) (rdGrid s).1⟩]) 0 g none (rdGrid s).1 [] (by rw [look_zero, List.append_nil])).frzC
    have e : ∀ x, frzC [some ⟨g, 1, cl (eI .i64) (rdGrid s).1⟩] (.f (.int .i64 x)) = some (.f (.int .i64 x)) := fun x => rfl
    have e2 : ∀ x, frzC [some ⟨g, 1, cl (eI .i64) (rdGrid s).1⟩] (.f (.bool x)) = some (.f (.bool x)) := fun x => rfl
    simp only [frzA, List.mapM_cons, List.mapM_nil, frz1, h1, e, e2, Option.pure_def, Option.bind_eq_bind, Option.bind_some, Option.map_some]
theorem GridRows_rd (xs : List Int) (n : Int) (hx : xs.length ≤ 2 ^ 40) : Reads Try.prog 21 [ints xs, int n] (rsl eS (gridRows xs n)) := by
  cases hv : gridValid xs n with
  | false =>
    refine Reads.ice (GridRows_run xs n hx) ?_
    rintro r H ⟨hno, _⟩
    obtain ⟨rfl, rfl⟩ := hno hv
    have : gridRows xs n = [] := by simp [gridRows, hv]
    rw [this]
    rfl
  | true => exact Reads.own ((GridRows_run xs n hx).mono fun r H ⟨_, h⟩ => h hv)
theorem text_len {xs : List Int} {n : Int} (h : gridValid xs n = true) : (gridText xs n).length = xs.length + 2 := by simp [gridText, h]
theorem u8_toNat {v : Int} (h : 0 ≤ v ∧ v ≤ 255) : ((u8 v).toNat : Int) = v := by
  unfold u8
  rw [UInt8.toNat_ofNat']
  omega
theorem inv_ch {v : Int} (h : 0 ≤ v ∧ v ≤ 4) : invC ((chOf v).toNat : Int) = v := by
  unfold chOf
  rw [u8_toNat (by unfold chI; split <;> omega)]
  unfold chI invC
  split <;> split <;> omega
theorem rd_text {xs : List Int} {n : Int} (h : gridValid xs n = true) : rdGrid (gridText xs n) = (xs, n, true) := by
  have hb := gridValid_bound h
  have e : gridText xs n = u8 (48 + n) :: 58 :: xs.map chOf := by simp [gridText, h]
  have e1 : cellsIn (gridText xs n) = xs := by
    rw [e]
    simp only [cellsIn, List.drop_succ_cons, List.drop_zero, List.map_map]
    refine List.ext_getElem (by simp) fun i h1 h2 => ?_
    simp only [List.getElem_map, Function.comp_apply]
    have := hb.2.2.2.2 i h2
    rw [nth_eq (by omega)] at this
    simp only [Int.toNat_natCast] at this
    exact inv_ch (by omega)
  have e2 : chr (gridText xs n) 0 - 48 = n := by
    rw [e]
    have : chr (u8 (48 + n) :: 58 :: xs.map chOf) 0 = ((u8 (48 + n)).toNat : Int) := rfl
    rw [this, u8_toNat (by omega)]
    omega
  unfold rdGrid
  rw [e1, e2, if_pos ⟨by rw [text_len h]; omega, rfl⟩]
theorem row_len {xs : List Int} {n : Int} (h : gridValid xs n = true) {i : Nat} (hi : i < (gridRows xs n).length) : ((nth (gridRows xs n) i).length : Int) = n := by
  have hb := gridValid_bound h
  rw [gridRows_length h] at hi
  rw [gridRows_nth h hi]
  have rb := row_bounds (n := n) (r := i) ⟨hb.1, hb.2.1⟩ (by omega)
  simp only [rowOf, List.length_map, sub, List.length_take, List.length_drop]
  omega
theorem rows_take {xs : List Int} {n : Int} (h : gridValid xs n = true) : ∀ i : Nat, i ≤ n.toNat → ((gridRows xs n).take i).flatten = (xs.take ((i : Int) * n).toNat).map chOf
  | 0, _ => by simp
  | i + 1, hi => by
    have hb := gridValid_bound h
    have hl := gridRows_length h
    have rb := row_bounds (n := n) (r := i) ⟨hb.1, hb.2.1⟩ (by omega)
    rw [take_succ_nth (by omega), List.flatten_append, rows_take h i (by omega), gridRows_nth h (by omega)]
    have e : (((i + 1 : Nat) : Int) * n).toNat = ((i : Int) * n).toNat + n.toNat := by
      have : ((i + 1 : Nat) : Int) * n = (i : Int) * n + n := by push_cast; exact rb.2.1
      omega
    rw [e, List.take_add, List.map_append]
    simp only [List.flatten_cons, List.flatten_nil, List.append_nil, rowOf, sub]
    congr 3
    omega
theorem rows_flat {xs : List Int} {n : Int} (h : gridValid xs n = true) : (gridRows xs n).flatten = xs.map chOf := by
  have hb := gridValid_bound h
  have := rows_take h n.toNat (Nat.le_refl _)
  rw [← gridRows_length h, List.take_length, gridRows_length h] at this
  rw [this, List.take_of_length_le]
  have : ((n.toNat : Int)) = n := by omega
  rw [this]
  omega
theorem law_FnGridText (code : List Int) (hl : code.length ≤ 9223372036854775807) (hw : ∀ x ∈ code, (Lit.int .u8 x).wf = true) : Reads Try.prog 7 [rsl (eI .u8) code] (bool true) := by
  refine RunCall.cw (c := _) Try.func7 rfl (n := 59) Try.ntmps7 (rs := [.tmp 2]) rfl ?_
  simp only [List.length_cons, List.length_nil, Nat.reduceAdd, Nat.reduceSub, List.replicate, List.cons_append, List.nil_append]
  simp (maxSteps := 1000000) (disch := omega) only [go_sem, Nat.reduceAdd, Nat.reduceMul, Nat.reduceSub, Nat.reduceEqDiff, Nat.reduceLeDiff]
  (first | with_reducible refine condK_dec (fun h1 => ?_) (fun h1 => ?_) | with_reducible refine condK_ndec (fun h1 => ?_) (fun h1 => ?_) | with_reducible refine condK_nb (fun h1 => ?_) (fun h1 => ?_) | refine condK_b (fun h1 => ?_) (fun h1 => ?_))
  · simp (maxSteps := 1000000) (disch := omega) only [go_sem, Nat.reduceAdd, Nat.reduceMul, Nat.reduceSub, Nat.reduceEqDiff, Nat.reduceLeDiff]
  simp (maxSteps := 1000000) (disch := omega) only [go_sem, Nat.reduceAdd, Nat.reduceMul, Nat.reduceSub, Nat.reduceEqDiff, Nat.reduceLeDiff]
  refine OpS.mkF (DrawGridText_run code (wf_u8 hw) (by omega)) (⟨_, Try.func27, rfl, rfl⟩ : Enters Try.prog 27) rfl rfl rfl ?_
  rintro _ ⟨xs, z, rfl, hx⟩
  refine ⟨rfl, rfl, ?_⟩
  simp (maxSteps := 1000000) (disch := omega) only [go_sem, Nat.reduceAdd, Nat.reduceMul, Nat.reduceSub, Nat.reduceEqDiff, Nat.reduceLeDiff]
  first | refine OpS.mk (GridText_run xs z (by omega)) (⟨_, Try.func14, rfl, rfl⟩ : Enters Try.prog 14) rfl rfl rfl rfl rfl ?_ | refine Loud.mk (GridText_run xs z (by omega)) (⟨_, Try.func14, rfl, rfl⟩ : Enters Try.prog 14) rfl rfl rfl rfl rfl ?_
  simp (maxSteps := 1000000) (disch := omega) only [go_sem, Nat.reduceAdd, Nat.reduceMul, Nat.reduceSub, Nat.reduceEqDiff, Nat.reduceLeDiff]
  first | refine OpS.mk (sGridText_run xs z (by omega)) (⟨_, Try.func12, rfl, rfl⟩ : Enters Try.prog 12) rfl rfl rfl rfl rfl ?_ | refine Loud.mk (sGridText_run xs z (by omega)) (⟨_, Try.func12, rfl, rfl⟩ : Enters Try.prog 12) rfl rfl rfl rfl rfl ?_
  simp (maxSteps := 1000000) (disch := omega) only [go_sem, Nat.reduceAdd, Nat.reduceMul, Nat.reduceSub, Nat.reduceEqDiff, Nat.reduceLeDiff]
  first | refine OpS.rd (sGridValid_run xs z (by omega)) (⟨_, Try.func28, rfl, rfl⟩ : Enters Try.prog 28) rfl rfl rfl rfl ?_ | refine Loud.rd (sGridValid_run xs z (by omega)) (⟨_, Try.func28, rfl, rfl⟩ : Enters Try.prog 28) rfl rfl rfl rfl ?_
  simp (maxSteps := 1000000) (disch := omega) only [go_sem, Nat.reduceAdd, Nat.reduceMul, Nat.reduceSub, Nat.reduceEqDiff, Nat.reduceLeDiff]
  (first | with_reducible refine condK_dec (fun hv => ?_) (fun hv => ?_) | with_reducible refine condK_ndec (fun hv => ?_) (fun hv => ?_) | with_reducible refine condK_nb (fun hv => ?_) (fun hv => ?_) | refine condK_b (fun hv => ?_) (fun hv => ?_))
  · have hrd := ReadGrid_rd (gridText xs z) (by rw [text_len hv]; omega)
    rw [rd_text hv] at hrd
    have hln := text_len hv
    simp (maxSteps := 1000000) (disch := omega) only [go_sem, Nat.reduceAdd, Nat.reduceMul, Nat.reduceSub, Nat.reduceEqDiff, Nat.reduceLeDiff]
    first | refine OpS.mk (hrd) (⟨_, Try.func17, rfl, rfl⟩ : Enters Try.prog 17) rfl rfl rfl rfl rfl ?_ | refine Loud.mk (hrd) (⟨_, Try.func17, rfl, rfl⟩ : Enters Try.prog 17) rfl rfl rfl rfl rfl ?_
    simp (maxSteps := 1000000) (disch := omega) only [go_sem, Nat.reduceAdd, Nat.reduceMul, Nat.reduceSub, Nat.reduceEqDiff, Nat.reduceLeDiff]
    first | refine OpS.rd (sameInts_run xs xs (by omega)) (⟨_, Try.func29, rfl, rfl⟩ : Enters Try.prog 29) rfl rfl rfl rfl ?_ | refine Loud.rd (sameInts_run xs xs (by omega)) (⟨_, Try.func29, rfl, rfl⟩ : Enters Try.prog 29) rfl rfl rfl rfl ?_
    simp (maxSteps := 1000000) (disch := omega) only [go_sem, Nat.reduceAdd, Nat.reduceMul, Nat.reduceSub, Nat.reduceEqDiff, Nat.reduceLeDiff]
    omega
  · have e : gridText xs z = [] := by simp [gridText, hv]
    simp only [e]
    simp (maxSteps := 1000000) (disch := omega) only [go_sem, Nat.reduceAdd, Nat.reduceMul, Nat.reduceSub, Nat.reduceEqDiff, Nat.reduceLeDiff]
    first | refine OpS.rd (alive_run) (⟨_, Try.func26, rfl, rfl⟩ : Enters Try.prog 26) rfl rfl rfl rfl ?_ | refine Loud.rd (alive_run) (⟨_, Try.func26, rfl, rfl⟩ : Enters Try.prog 26) rfl rfl rfl rfl ?_
    simp (maxSteps := 1000000) (disch := omega) only [go_sem, Nat.reduceAdd, Nat.reduceMul, Nat.reduceSub, Nat.reduceEqDiff, Nat.reduceLeDiff]
theorem law_FnGridRows (code : List Int) (hl : code.length ≤ 9223372036854775807) (hw : ∀ x ∈ code, (Lit.int .u8 x).wf = true) : Reads Try.prog 6 [rsl (eI .u8) code] (bool true) := by
  refine RunCall.cw (c := _) Try.func6 rfl (n := 81) Try.ntmps6 (rs := [.tmp 2]) rfl ?_
  simp only [List.length_cons, List.length_nil, Nat.reduceAdd, Nat.reduceSub, List.replicate, List.cons_append, List.nil_append]
  simp (maxSteps := 1000000) (disch := omega) only [go_sem, Nat.reduceAdd, Nat.reduceMul, Nat.reduceSub, Nat.reduceEqDiff, Nat.reduceLeDiff]
  (first | with_reducible refine condK_dec (fun h1 => ?_) (fun h1 => ?_) | with_reducible refine condK_ndec (fun h1 => ?_) (fun h1 => ?_) | with_reducible refine condK_nb (fun h1 => ?_) (fun h1 => ?_) | refine condK_b (fun h1 => ?_) (fun h1 => ?_))
  · simp (maxSteps := 1000000) (disch := omega) only [go_sem, Nat.reduceAdd, Nat.reduceMul, Nat.reduceSub, Nat.reduceEqDiff, Nat.reduceLeDiff]
  simp (maxSteps := 1000000) (disch := omega) only [go_sem, Nat.reduceAdd, Nat.reduceMul, Nat.reduceSub, Nat.reduceEqDiff, Nat.reduceLeDiff]
  refine OpS.mkF (DrawGridRows_run code (wf_u8 hw) (by omega)) (⟨_, Try.func25, rfl, rfl⟩ : Enters Try.prog 25) rfl rfl rfl ?_
  rintro _ ⟨xs, z, rfl, hx⟩
  refine ⟨rfl, rfl, ?_⟩
  simp (maxSteps := 1000000) (disch := omega) only [go_sem, Nat.reduceAdd, Nat.reduceMul, Nat.reduceSub, Nat.reduceEqDiff, Nat.reduceLeDiff]
  first | refine OpS.mk (GridRows_rd xs z (by omega)) (⟨_, Try.func21, rfl, rfl⟩ : Enters Try.prog 21) rfl rfl rfl rfl rfl ?_ | refine Loud.mk (GridRows_rd xs z (by omega)) (⟨_, Try.func21, rfl, rfl⟩ : Enters Try.prog 21) rfl rfl rfl rfl rfl ?_
  simp (maxSteps := 1000000) (disch := omega) only [go_sem, Nat.reduceAdd, Nat.reduceMul, Nat.reduceSub, Nat.reduceEqDiff, Nat.reduceLeDiff]
  first | refine OpS.mk (sGridRows_run xs z (by omega)) (⟨_, Try.func20, rfl, rfl⟩ : Enters Try.prog 20) rfl rfl rfl rfl rfl ?_ | refine Loud.mk (sGridRows_run xs z (by omega)) (⟨_, Try.func20, rfl, rfl⟩ : Enters Try.prog 20) rfl rfl rfl rfl rfl ?_
  simp (maxSteps := 1000000) (disch := omega) only [go_sem, Nat.reduceAdd, Nat.reduceMul, Nat.reduceSub, Nat.reduceEqDiff, Nat.reduceLeDiff]
  (first | with_reducible refine condK_dec (fun hr => ?_) (fun hr => ?_) | with_reducible refine condK_ndec (fun hr => ?_) (fun hr => ?_) | with_reducible refine condK_nb (fun hr => ?_) (fun hr => ?_) | refine condK_b (fun hr => ?_) (fun hr => ?_))
  · simp (maxSteps := 1000000) (disch := omega) only [go_sem, Nat.reduceAdd, Nat.reduceMul, Nat.reduceSub, Nat.reduceEqDiff, Nat.reduceLeDiff]
    first | refine OpS.rd (alive_run) (⟨_, Try.func26, rfl, rfl⟩ : Enters Try.prog 26) rfl rfl rfl rfl ?_ | refine Loud.rd (alive_run) (⟨_, Try.func26, rfl, rfl⟩ : Enters Try.prog 26) rfl rfl rfl rfl ?_
    simp (maxSteps := 1000000) (disch := omega) only [go_sem, Nat.reduceAdd, Nat.reduceMul, Nat.reduceSub, Nat.reduceEqDiff, Nat.reduceLeDiff]
  cases hv : gridValid xs z with
  | false => exfalso; exact hr (by simp [gridRows, hv])
  | true =>
    have hb := gridValid_bound hv
    have hlr := gridRows_length hv
    simp (maxSteps := 1000000) (disch := omega) only [go_sem, Nat.reduceAdd, Nat.reduceMul, Nat.reduceSub, Nat.reduceEqDiff, Nat.reduceLeDiff]
    refine loop_rule (fun i : Nat => (gridRows xs z).length - i) (fun i => i ≤ (gridRows xs z).length) (fun i => [.a, .a, .a, .k, .k, .k, .k, .p (txt ((gridRows xs z).take i).flatten), .p (int i), .a, .a, .a, .a, .a, .a, .a, .a, .a, .a, .a, .a, .a, .a, .a, .a, .a, .a, .a, .a, .a, .a, .a, .a, .a, .a, .a, .a, .a, .a, .a, .a, .a, .a, .a, .a, .a, .a, .a, .a, .a, .a, .a, .a, .a, .a, .a, .a, .a, .a, .a, .a, .a, .a, .a, .a, .a, .a, .a, .a, .a, .a, .a, .a, .a, .a, .a, .a, .a, .a, .a, .a]) (fun _ => []) 0 (Nat.zero_le _) (by simp (maxSteps := 1000000) (disch := omega) only [go_sem, Nat.reduceAdd, Nat.reduceMul, Nat.reduceSub, Nat.reduceEqDiff, Nat.reduceLeDiff]; exact ⟨rfl, rfl⟩) (hle_nil _) ?_
    intro i hi
    simp (maxSteps := 1000000) (disch := omega) only [go_sem, Nat.reduceAdd, Nat.reduceMul, Nat.reduceSub, Nat.reduceEqDiff, Nat.reduceLeDiff]
    (first | with_reducible refine condK_dec (fun h2 => ?_) (fun h2 => ?_) | with_reducible refine condK_ndec (fun h2 => ?_) (fun h2 => ?_) | with_reducible refine condK_nb (fun h2 => ?_) (fun h2 => ?_) | refine condK_b (fun h2 => ?_) (fun h2 => ?_))
    · have h2 : i < (gridRows xs z).length := by omega
      simp (maxSteps := 1000000) (disch := omega) only [go_sem, Nat.reduceAdd, Nat.reduceMul, Nat.reduceSub, Nat.reduceEqDiff, Nat.reduceLeDiff]
      refine drawP_q foll (by kernel_rfl) ?_
      simp (maxSteps := 1000000) (disch := omega) only [go_sem, Nat.reduceBEq, Bool.true_or, Nat.reduceAdd, Nat.reduceMul, Nat.reduceSub, Nat.reduceEqDiff, Nat.reduceLeDiff]
      have hrl := row_len hv h2
      have hfl1 : ((gridRows xs z).take i).flatten.length ≤ 16 := by
        rw [rows_take hv i (by omega)]
        simp
        omega
      (first | with_reducible refine condK_dec (fun h3 => ?_) (fun h3 => ?_) | with_reducible refine condK_ndec (fun h3 => ?_) (fun h3 => ?_) | with_reducible refine condK_nb (fun h3 => ?_) (fun h3 => ?_) | refine condK_b (fun h3 => ?_) (fun h3 => ?_))
      rotate_left
      · exfalso; omega
      simp (maxSteps := 1000000) (disch := omega) only [go_sem, Nat.reduceAdd, Nat.reduceMul, Nat.reduceSub, Nat.reduceEqDiff, Nat.reduceLeDiff]
      refine ⟨i + 1, ⟨by omega, by omega⟩, ⟨?_, by push_cast; omega⟩, hle_nil _⟩
      rw [take_succ_nth h2, List.flatten_append]
      simp
    · have hin : i = (gridRows xs z).length := by omega
      have hfl := rows_flat hv
      simp (maxSteps := 1000000) (disch := omega) only [go_sem, Nat.reduceAdd, Nat.reduceMul, Nat.reduceSub, Nat.reduceEqDiff, Nat.reduceLeDiff]
      rw [hin, List.take_length, hfl]
      first | refine OpS.mk (GridText_run xs z (by omega)) (⟨_, Try.func14, rfl, rfl⟩ : Enters Try.prog 14) rfl rfl rfl rfl rfl ?_ | refine Loud.mk (GridText_run xs z (by omega)) (⟨_, Try.func14, rfl, rfl⟩ : Enters Try.prog 14) rfl rfl rfl rfl rfl ?_
      simp (maxSteps := 1000000) (disch := omega) only [go_sem, Nat.reduceAdd, Nat.reduceMul, Nat.reduceSub, Nat.reduceEqDiff, Nat.reduceLeDiff]
      have hln := text_len hv
      (first | with_reducible refine guardK_dec (fun h4 => ?_) (fun h4 => ?_) <;> simp (maxSteps := 1000000) (disch := omega) only [go_sem, Nat.reduceAdd, Nat.reduceMul, Nat.reduceSub, Nat.reduceEqDiff, Nat.reduceLeDiff, h4] | with_reducible refine guardK_ndec (fun h4 => ?_) (fun h4 => ?_) <;> simp (maxSteps := 1000000) (disch := omega) only [go_sem, Nat.reduceAdd, Nat.reduceMul, Nat.reduceSub, Nat.reduceEqDiff, Nat.reduceLeDiff, h4] | with_reducible refine guardK_nb (fun h4 => ?_) (fun h4 => ?_) <;> simp (maxSteps := 1000000) (disch := omega) only [go_sem, Nat.reduceAdd, Nat.reduceMul, Nat.reduceSub, Nat.reduceEqDiff, Nat.reduceLeDiff, h4] | with_reducible refine guardK_split (fun h4 => ?_) (fun h4 => ?_) <;> simp (maxSteps := 1000000) (disch := omega) only [go_sem, Nat.reduceAdd, Nat.reduceMul, Nat.reduceSub, Nat.reduceEqDiff, Nat.reduceLeDiff, h4] | with_reducible refine guardQ_dec (fun h4 => ?_) (fun h4 => ?_) <;> simp (maxSteps := 1000000) (disch := omega) only [go_sem, Nat.reduceAdd, Nat.reduceMul, Nat.reduceSub, Nat.reduceEqDiff, Nat.reduceLeDiff, h4] | with_reducible refine guardL_dec (fun h4 => ?_) (fun h4 => ?_) <;> simp (maxSteps := 1000000) (disch := omega) only [go_sem, Nat.reduceAdd, Nat.reduceMul, Nat.reduceSub, Nat.reduceEqDiff, Nat.reduceLeDiff, h4] | with_reducible refine guardQ_ndec (fun h4 => ?_) (fun h4 => ?_) <;> simp (maxSteps := 1000000) (disch := omega) only [go_sem, Nat.reduceAdd, Nat.reduceMul, Nat.reduceSub, Nat.reduceEqDiff, Nat.reduceLeDiff, h4] | with_reducible refine guardL_ndec (fun h4 => ?_) (fun h4 => ?_) <;> simp (maxSteps := 1000000) (disch := omega) only [go_sem, Nat.reduceAdd, Nat.reduceMul, Nat.reduceSub, Nat.reduceEqDiff, Nat.reduceLeDiff, h4] | with_reducible refine guardQ_nb (fun h4 => ?_) (fun h4 => ?_) <;> simp (maxSteps := 1000000) (disch := omega) only [go_sem, Nat.reduceAdd, Nat.reduceMul, Nat.reduceSub, Nat.reduceEqDiff, Nat.reduceLeDiff, h4] | with_reducible refine guardL_nb (fun h4 => ?_) (fun h4 => ?_) <;> simp (maxSteps := 1000000) (disch := omega) only [go_sem, Nat.reduceAdd, Nat.reduceMul, Nat.reduceSub, Nat.reduceEqDiff, Nat.reduceLeDiff, h4] | with_reducible refine guardQ_split (fun h4 => ?_) (fun h4 => ?_) <;> simp (maxSteps := 1000000) (disch := omega) only [go_sem, Nat.reduceAdd, Nat.reduceMul, Nat.reduceSub, Nat.reduceEqDiff, Nat.reduceLeDiff, h4] | with_reducible refine guardL_split (fun h4 => ?_) (fun h4 => ?_) <;> simp (maxSteps := 1000000) (disch := omega) only [go_sem, Nat.reduceAdd, Nat.reduceMul, Nat.reduceSub, Nat.reduceEqDiff, Nat.reduceLeDiff, h4])
      · (first | with_reducible refine guardK_dec (fun h5 => ?_) (fun h5 => ?_) <;> simp (maxSteps := 1000000) (disch := omega) only [go_sem, Nat.reduceAdd, Nat.reduceMul, Nat.reduceSub, Nat.reduceEqDiff, Nat.reduceLeDiff, h5] | with_reducible refine guardK_ndec (fun h5 => ?_) (fun h5 => ?_) <;> simp (maxSteps := 1000000) (disch := omega) only [go_sem, Nat.reduceAdd, Nat.reduceMul, Nat.reduceSub, Nat.reduceEqDiff, Nat.reduceLeDiff, h5] | with_reducible refine guardK_nb (fun h5 => ?_) (fun h5 => ?_) <;> simp (maxSteps := 1000000) (disch := omega) only [go_sem, Nat.reduceAdd, Nat.reduceMul, Nat.reduceSub, Nat.reduceEqDiff, Nat.reduceLeDiff, h5] | with_reducible refine guardK_split (fun h5 => ?_) (fun h5 => ?_) <;> simp (maxSteps := 1000000) (disch := omega) only [go_sem, Nat.reduceAdd, Nat.reduceMul, Nat.reduceSub, Nat.reduceEqDiff, Nat.reduceLeDiff, h5] | with_reducible refine guardQ_dec (fun h5 => ?_) (fun h5 => ?_) <;> simp (maxSteps := 1000000) (disch := omega) only [go_sem, Nat.reduceAdd, Nat.reduceMul, Nat.reduceSub, Nat.reduceEqDiff, Nat.reduceLeDiff, h5] | with_reducible refine guardL_dec (fun h5 => ?_) (fun h5 => ?_) <;> simp (maxSteps := 1000000) (disch := omega) only [go_sem, Nat.reduceAdd, Nat.reduceMul, Nat.reduceSub, Nat.reduceEqDiff, Nat.reduceLeDiff, h5] | with_reducible refine guardQ_ndec (fun h5 => ?_) (fun h5 => ?_) <;> simp (maxSteps := 1000000) (disch := omega) only [go_sem, Nat.reduceAdd, Nat.reduceMul, Nat.reduceSub, Nat.reduceEqDiff, Nat.reduceLeDiff, h5] | with_reducible refine guardL_ndec (fun h5 => ?_) (fun h5 => ?_) <;> simp (maxSteps := 1000000) (disch := omega) only [go_sem, Nat.reduceAdd, Nat.reduceMul, Nat.reduceSub, Nat.reduceEqDiff, Nat.reduceLeDiff, h5] | with_reducible refine guardQ_nb (fun h5 => ?_) (fun h5 => ?_) <;> simp (maxSteps := 1000000) (disch := omega) only [go_sem, Nat.reduceAdd, Nat.reduceMul, Nat.reduceSub, Nat.reduceEqDiff, Nat.reduceLeDiff, h5] | with_reducible refine guardL_nb (fun h5 => ?_) (fun h5 => ?_) <;> simp (maxSteps := 1000000) (disch := omega) only [go_sem, Nat.reduceAdd, Nat.reduceMul, Nat.reduceSub, Nat.reduceEqDiff, Nat.reduceLeDiff, h5] | with_reducible refine guardQ_split (fun h5 => ?_) (fun h5 => ?_) <;> simp (maxSteps := 1000000) (disch := omega) only [go_sem, Nat.reduceAdd, Nat.reduceMul, Nat.reduceSub, Nat.reduceEqDiff, Nat.reduceLeDiff, h5] | with_reducible refine guardL_split (fun h5 => ?_) (fun h5 => ?_) <;> simp (maxSteps := 1000000) (disch := omega) only [go_sem, Nat.reduceAdd, Nat.reduceMul, Nat.reduceSub, Nat.reduceEqDiff, Nat.reduceLeDiff, h5])
        · omega
        · exfalso
          refine h5 ?_
          have e : gridText xs z = u8 (48 + z) :: 58 :: xs.map chOf := by simp [gridText, hv]
          rw [e]
          simp only [sub, List.length_cons, List.length_map]
          rw [show ((2 : Int)).toNat = 2 from rfl]
          simp only [List.drop_succ_cons, List.drop_zero]
          exact List.take_of_length_le (by simp; omega)
      · exfalso; omega
end Go.Lg
