/- The rows of a grid, and their law. -/
import Derived.Test.YtlpehaekjclgcaaGpD
set_option linter.unusedSimpArgs false
set_option linter.unusedVariables false
set_option maxRecDepth 100000
namespace Go.Lg
open Go.Proofs

def rowOf (xs : List Int) (n : Int) (r : Nat) : List UInt8 := (sub xs ((r : Int) * n) (((r : Int) + 1) * n)).map chOf
def gridRows (xs : List Int) (n : Int) : List (List UInt8) := if gridValid xs n then (List.range n.toNat).map (rowOf xs n) else []
theorem gridRows_length {xs : List Int} {n : Int} (h : gridValid xs n = true) : (gridRows xs n).length = n.toNat := by simp [gridRows, h]
theorem gridRows_nth {xs : List Int} {n : Int} (h : gridValid xs n = true) {r : Nat} (hr : r < n.toNat) : nth (gridRows xs n) r = rowOf xs n r := by
  rw [nth_eq (by rw [gridRows_length h]; omega)]
  simp [gridRows, h]
theorem row_bounds {n : Int} {r : Nat} (hn : 2 ≤ n ∧ n ≤ 4) (hr : (r : Int) < n) : 0 ≤ (r : Int) * n ∧ ((r : Int) + 1) * n = (r : Int) * n + n ∧ (r : Int) * n + n ≤ n * n ∧ n * n ≤ 16 ∧ 4 ≤ n * n := by
  have e : ((r : Int) + 1) * n = (r : Int) * n + n := by rw [Int.add_mul, Int.one_mul]
  have h3 : ((r : Int) + 1) * n ≤ n * n := Int.mul_le_mul_of_nonneg_right (by omega) (by omega)
  have h1 : 0 ≤ (r : Int) * n := Int.mul_nonneg (by omega) (by omega)
  have : n * n ≤ 16 ∧ 4 ≤ n * n := by
    have : n = 2 ∨ n = 3 ∨ n = 4 := by omega
    rcases this with rfl | rfl | rfl <;> decide
  exact ⟨h1, e, by omega, this.1, this.2⟩

theorem GridRows_run (xs : List Int) (n : Int) (hx : xs.length ≤ 2 ^ 40) : RunCall Try.prog 21 [ints xs, int n] [] (ownOrQ (gridValid xs n) eS 1 (gridRows xs n)) := by
  refine RunCall.nz ?_
  refine RunCall.cw (c := _) Try.func21 rfl (n := 31) Try.ntmps21 (rs := [.tmp 4]) rfl ?_
  simp only [List.length_cons, List.length_nil, Nat.reduceAdd, Nat.reduceSub, List.replicate, List.cons_append, List.nil_append]
  simp (maxSteps := 1000000) (disch := omega) only [go_sem, Nat.reduceAdd, Nat.reduceMul, Nat.reduceSub, Nat.reduceEqDiff, Nat.reduceLeDiff]
  refine OpS.rd (GridValid_run xs n (by omega)) (⟨_, Try.func46, rfl, rfl⟩ : Enters Try.prog 46) rfl rfl rfl rfl ?_
  simp (maxSteps := 1000000) (disch := omega) only [go_sem, Nat.reduceAdd, Nat.reduceMul, Nat.reduceSub, Nat.reduceEqDiff, Nat.reduceLeDiff]
  refine condK_split (fun h => ?_) (fun h => ?_)
  · simp (maxSteps := 1000000) (disch := omega) only [go_sem, Nat.reduceAdd, Nat.reduceMul, Nat.reduceSub, Nat.reduceEqDiff, Nat.reduceLeDiff]
    exact ownOr_no (by simpa using h)
  have h : gridValid xs n = true := by simpa using h
  obtain ⟨h1, h2, h3, h4, h5⟩ := gridValid_bound h
  have hl := gridRows_length h
  simp (maxSteps := 1000000) (disch := omega) only [go_sem, Nat.reduceAdd, Nat.reduceMul, Nat.reduceSub, Nat.reduceEqDiff, Nat.reduceLeDiff]
  intro g
  refine loop_rule2 (fun (r g : Nat) => n.toNat - r) (fun r g => r ≤ n.toNat) (fun r g => [.k, .k, .a, .a, .a, .p (.c (.own 0 g 0 r none)), .a, .a, .a, .a, .a, .a, .k, .p (int r), .a, .a, .a, .a, .a, .a, .a, .a, .a, .a, .a, .a, .a, .a, .a, .a, .a]) (fun r g => [some ⟨g, 1, cl eS ((gridRows xs n).take r)⟩]) 0 g
    (Nat.zero_le _) (by simp (maxSteps := 1000000) (disch := omega) only [go_sem, Nat.reduceAdd, Nat.reduceMul, Nat.reduceSub, Nat.reduceEqDiff, Nat.reduceLeDiff]; rfl) (HLe.refl _) ?_
  intro r g hr
  simp (maxSteps := 1000000) (disch := omega) only [go_sem, Nat.reduceAdd, Nat.reduceMul, Nat.reduceSub, Nat.reduceEqDiff, Nat.reduceLeDiff]
  refine condK_split (fun h6 => ?_) (fun h6 => ?_)
  · have h6 : (r : Int) < n := by simpa using h6
    obtain ⟨b1, b2, b3, b4, b5⟩ := row_bounds ⟨h1, h2⟩ h6
    simp (maxSteps := 1000000) (disch := omega) only [go_sem, Nat.reduceAdd, Nat.reduceMul, Nat.reduceSub, Nat.reduceEqDiff, Nat.reduceLeDiff]
    have hsub := sub_length (xs := xs) (a := (r : Int) * n) (b := ((r : Int) + 1) * n) (by omega)
    refine OpS.rd (cellsText_run (sub xs ((r : Int) * n) (((r : Int) + 1) * n)) (by omega) fun j hj => ?_) (⟨_, Try.func47, rfl, rfl⟩ : Enters Try.prog 47) rfl rfl rfl rfl ?_
    · rw [nth_sub (by omega) (by omega)]
      have := h5 ((r : Int) * n + j).toNat (by omega)
      rw [show ((((r : Int) * n + j).toNat : Nat) : Int) = (r : Int) * n + j by omega] at this
      omega
    simp (maxSteps := 1000000) (disch := omega) only [go_sem, Nat.reduceAdd, Nat.reduceMul, Nat.reduceSub, Nat.reduceEqDiff, Nat.reduceLeDiff]
    intro g1 g2
    exact ⟨r + 1, g2, ⟨by omega, by omega⟩, ⟨⟨rfl, rfl⟩, by push_cast; rfl⟩, hle_eq (by rw [take_succ_nth (by omega), gridRows_nth h (by omega)]; rfl) (hle_nil _)⟩
  have h6 : r = (gridRows xs n).length := by have : ¬ (r : Int) < n := by simpa using h6
                                             omega
  subst h6
  rw [List.take_length]
  simp (maxSteps := 1000000) (disch := omega) only [go_sem, Nat.reduceAdd, Nat.reduceMul, Nat.reduceSub, Nat.reduceEqDiff, Nat.reduceLeDiff]
  exact ownOr_yes h (HLe.refl _)
theorem sGridRows_run (xs : List Int) (n : Int) (hx : xs.length ≤ 2 ^ 40) : Reads Try.prog 20 [ints xs, int n] (rsl eS (gridRows xs n)) := by
  refine Reads.own (n := 1) ?_
  refine RunCall.cw (c := _) Try.func20 rfl (n := 29) Try.ntmps20 (rs := [.tmp 4]) rfl ?_
  simp only [List.length_cons, List.length_nil, Nat.reduceAdd, Nat.reduceSub, List.replicate, List.cons_append, List.nil_append]
  simp (maxSteps := 1000000) (disch := omega) only [go_sem, Nat.reduceAdd, Nat.reduceMul, Nat.reduceSub, Nat.reduceEqDiff, Nat.reduceLeDiff]
  intro g
  refine OpS.rd (sGridText_run xs n hx) (⟨_, Try.func12, rfl, rfl⟩ : Enters Try.prog 12) rfl rfl rfl rfl ?_
  simp (maxSteps := 1000000) (disch := omega) only [go_sem, Nat.reduceAdd, Nat.reduceMul, Nat.reduceSub, Nat.reduceEqDiff, Nat.reduceLeDiff]
  cases h : gridValid xs n with
  | false =>
    have e1 : gridText xs n = [] := by simp [gridText, h]
    have e2 : gridRows xs n = [] := by simp [gridRows, h]
    rw [e1, e2]
    refine loop_rule (fun _ : Unit => 0) (fun _ => True) (fun _ => [.a, .k, .a, .a, .a, .p (.c (.own 0 g 0 0 none)), .k, .p (int 2), .a, .a, .a, .a, .a, .a, .a, .a, .a, .a, .a, .a, .a, .a, .a, .a, .a, .a, .a, .a, .a]) (fun _ => [some ⟨g, 1, cl eS []⟩]) () trivial (by simp (maxSteps := 1000000) (disch := omega) only [go_sem, Nat.reduceAdd, Nat.reduceMul, Nat.reduceSub, Nat.reduceEqDiff, Nat.reduceLeDiff]) (HLe.refl _) ?_
    intro _ _
    simp (maxSteps := 1000000) (disch := omega) only [go_sem, lt_no, lt_yes, le_no, le_yes, eq_no, eq_yes, Nat.reduceAdd, Nat.reduceMul, Nat.reduceSub, Nat.reduceEqDiff, Nat.reduceLeDiff]
    exact lessQ_own (HLe.refl _)
  | true =>
    obtain ⟨h1, h2, h3, h4, h5⟩ := gridValid_bound h
    have hl := gridRows_length h
    have ht := gridText_length h
    refine loop_rule2 (fun (r g : Nat) => n.toNat - r) (fun r g => r ≤ n.toNat) (fun r g => [.a, .k, .a, .a, .a, .p (.c (.own 0 g 0 r none)), .k, .p (int (2 + r * n)), .a, .a, .a, .a, .a, .a, .a, .a, .a, .a, .a, .a, .a, .a, .a, .a, .a, .a, .a, .a, .a]) (fun r g => [some ⟨g, 1, cl eS ((gridRows xs n).take r)⟩]) 0 g
      (Nat.zero_le _) (by simp (maxSteps := 1000000) (disch := omega) only [go_sem, Nat.reduceAdd, Nat.reduceMul, Nat.reduceSub, Nat.reduceEqDiff, Nat.reduceLeDiff]; simp) (HLe.refl _) ?_
    intro r g hr
    have b0 := row_bounds (n := n) (r := r)
    simp (maxSteps := 1000000) (disch := omega) only [go_sem, Nat.reduceAdd, Nat.reduceMul, Nat.reduceSub, Nat.reduceEqDiff, Nat.reduceLeDiff]
    by_cases h6 : (r : Int) < n
    · obtain ⟨b1, b2, b3, b4, b5⟩ := b0 ⟨h1, h2⟩ h6
      simp (maxSteps := 1000000) (disch := omega) only [go_sem, lt_no, lt_yes, le_no, le_yes, eq_no, eq_yes, Nat.reduceAdd, Nat.reduceMul, Nat.reduceSub, Nat.reduceEqDiff, Nat.reduceLeDiff]
      intro g1 g2
      refine ⟨r + 1, g2, ⟨by omega, by omega⟩, ⟨⟨rfl, rfl⟩, by push_cast; omega⟩, hle_eq ?_ (hle_nil _)⟩
      rw [take_succ_nth (by omega), gridRows_nth h (by omega)]
      congr 2
      simp only [List.cons.injEq, and_true]
      have e : gridText xs n = u8 (48 + n) :: 58 :: xs.map chOf := by simp [gridText, h]
      rw [e]
      simp only [sub, rowOf, List.map_take, List.map_drop]
      rw [show (2 + (r : Int) * n).toNat = ((r : Int) * n).toNat + 1 + 1 by omega, List.drop_succ_cons, List.drop_succ_cons]
      congr 1
      omega
    have h7 : r = (gridRows xs n).length := by omega
    have h8 : (r : Int) * n = n * n := by rw [show (r : Int) = n by omega]
    simp (maxSteps := 1000000) (disch := omega) only [go_sem, lt_no, lt_yes, le_no, le_yes, eq_no, eq_yes, Nat.reduceAdd, Nat.reduceMul, Nat.reduceSub, Nat.reduceEqDiff, Nat.reduceLeDiff]
    subst h7
    rw [List.take_length]
    exact lessQ_own (HLe.refl _)
end Go.Lg
