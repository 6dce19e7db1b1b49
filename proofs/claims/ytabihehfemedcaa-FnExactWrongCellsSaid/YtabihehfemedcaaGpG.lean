/- How many cells of a grid are filled. -/
import Derived.Test.YtabihehfemedcaaLgT
import Derived.Test.YtabihehfemedcaaLgPc
set_option linter.unusedSimpArgs false
set_option linter.unusedVariables false
set_option maxRecDepth 100000
namespace Go.Lg
open Go.Proofs

theorem countP_take {α : Type} [Inhabited α] {xs : List α} {f : α → Bool} {i : Nat} (h : i < xs.length) : (xs.take (i + 1)).countP f = (xs.take i).countP f + if f (nth xs i) then 1 else 0 := by
  rw [take_succ_nth h, List.countP_append]; simp [List.countP_cons]
theorem countP_le {α : Type} (xs : List α) (f : α → Bool) (i : Nat) : (xs.take i).countP f ≤ xs.length := by
  have := List.countP_le_length (p := f) (l := xs.take i)
  simp at this; omega
def gridFilled (xs : List Int) (n : Int) : Int := if gridValid xs n then (xs.countP fun v => decide (0 < v) : Nat) else -1
theorem GridFilled_run (xs : List Int) (n : Int) (hx : xs.length ≤ 2 ^ 40) : Reads Try.prog 70 [ints xs, int n] (int (gridFilled xs n)) := by
  refine RunCall.cw (c := _) Try.func70 rfl (n := 24) Try.ntmps70 (rs := [.tmp 4]) rfl ?_
  simp only [List.length_cons, List.length_nil, Nat.reduceAdd, Nat.reduceSub, List.replicate, List.cons_append, List.nil_append]
  simp (maxSteps := 1000000) (disch := omega) only [go_sem, Nat.reduceAdd, Nat.reduceMul, Nat.reduceSub, Nat.reduceEqDiff, Nat.reduceLeDiff]
  first | refine OpS.rd (GridValid_run xs n (by omega)) (⟨_, Try.func87, rfl, rfl⟩ : Enters Try.prog 87) rfl rfl rfl rfl ?_ | refine Loud.rd (GridValid_run xs n (by omega)) (⟨_, Try.func87, rfl, rfl⟩ : Enters Try.prog 87) rfl rfl rfl rfl ?_
  simp (maxSteps := 1000000) (disch := omega) only [go_sem, Nat.reduceAdd, Nat.reduceMul, Nat.reduceSub, Nat.reduceEqDiff, Nat.reduceLeDiff]
  (first | with_reducible refine condK_dec (fun hv => ?_) (fun hv => ?_) | with_reducible refine condK_ndec (fun hv => ?_) (fun hv => ?_) | with_reducible refine condK_nb (fun hv => ?_) (fun hv => ?_) | refine condK_b (fun hv => ?_) (fun hv => ?_))
  rotate_left
  · simp (maxSteps := 1000000) (disch := omega) only [go_sem, Nat.reduceAdd, Nat.reduceMul, Nat.reduceSub, Nat.reduceEqDiff, Nat.reduceLeDiff]
    simp [gridFilled, hv]
  simp (maxSteps := 1000000) (disch := omega) only [go_sem, Nat.reduceAdd, Nat.reduceMul, Nat.reduceSub, Nat.reduceEqDiff, Nat.reduceLeDiff]
  refine loop_rule (fun i : Nat => xs.length - i) (fun i => i ≤ xs.length) (fun i => [.a, .a, .a, .a, .a, .p (int ((xs.take i).countP fun v => decide (0 < v) : Nat)), .a, .a, .a, .a, .a, .a, .k, .k, .p (int i), .a, .a, .a, .a, .a, .a, .a, .a, .a]) (fun _ => []) 0
    (Nat.zero_le _) (by simp (maxSteps := 1000000) (disch := omega) only [go_sem, Nat.reduceAdd, Nat.reduceMul, Nat.reduceSub, Nat.reduceEqDiff, Nat.reduceLeDiff]; simp) (hle_nil _) ?_
  intro i hi
  have hb := countP_le xs (fun v => decide (0 < v)) i
  simp (maxSteps := 1000000) (disch := omega) only [go_sem, Nat.reduceAdd, Nat.reduceMul, Nat.reduceSub, Nat.reduceEqDiff, Nat.reduceLeDiff]
  (first | with_reducible refine condK_dec (fun h => ?_) (fun h => ?_) | with_reducible refine condK_ndec (fun h => ?_) (fun h => ?_) | with_reducible refine condK_nb (fun h => ?_) (fun h => ?_) | refine condK_b (fun h => ?_) (fun h => ?_))
  · have h : i < xs.length := by omega
    have hc := countP_take (f := fun v => decide (0 < v)) h
    simp (maxSteps := 1000000) (disch := omega) only [go_sem, Nat.reduceAdd, Nat.reduceMul, Nat.reduceSub, Nat.reduceEqDiff, Nat.reduceLeDiff]
    (first | with_reducible refine condK_dec (fun h2 => ?_) (fun h2 => ?_) | with_reducible refine condK_ndec (fun h2 => ?_) (fun h2 => ?_) | with_reducible refine condK_nb (fun h2 => ?_) (fun h2 => ?_) | refine condK_b (fun h2 => ?_) (fun h2 => ?_))
    · simp (maxSteps := 1000000) (disch := omega) only [go_sem, Nat.reduceAdd, Nat.reduceMul, Nat.reduceSub, Nat.reduceEqDiff, Nat.reduceLeDiff]
      refine ⟨i + 1, ⟨h, by omega⟩, ⟨?_, by omega⟩, hle_nil _⟩
      rw [hc]; simp [h2]
    · simp (maxSteps := 1000000) (disch := omega) only [go_sem, Nat.reduceAdd, Nat.reduceMul, Nat.reduceSub, Nat.reduceEqDiff, Nat.reduceLeDiff]
      refine ⟨i + 1, ⟨h, by omega⟩, ⟨?_, by omega⟩, hle_nil _⟩
      rw [hc]; simp [h2]
  · simp (maxSteps := 1000000) (disch := omega) only [go_sem, Nat.reduceAdd, Nat.reduceMul, Nat.reduceSub, Nat.reduceEqDiff, Nat.reduceLeDiff]
    rw [List.take_of_length_le (by omega)]
    simp only [gridFilled, hv, if_true]
end Go.Lg
