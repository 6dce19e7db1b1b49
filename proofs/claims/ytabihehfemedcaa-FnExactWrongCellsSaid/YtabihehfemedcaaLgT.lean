import Derived.Test.YtabihehfemedcaaLgTy
set_option linter.unusedSimpArgs false
set_option linter.unusedVariables false
set_option maxRecDepth 100000
namespace Go.Lg
open Go.Proofs

theorem sizeOk_run (n : Int) : Reads Try.prog 103 [int n] (bool (decide (2 ≤ n ∧ n ≤ 4))) := by
  refine RunCall.cw (c := _) Try.func103 rfl (n := 9) Try.ntmps103 (rs := [.tmp 2]) rfl ?_
  simp only [List.length_cons, List.length_nil, Nat.reduceAdd, Nat.reduceSub, List.replicate, List.cons_append, List.nil_append]
  simp (maxSteps := 1000000) (disch := omega) only [go_sem, Nat.reduceAdd, Nat.reduceMul, Nat.reduceSub, Nat.reduceEqDiff, Nat.reduceLeDiff]
  refine guardK_split (fun h => ?_) (fun h => ?_) <;> simp (maxSteps := 1000000) (disch := omega) only [go_sem, Nat.reduceAdd, Nat.reduceMul, Nat.reduceSub, Nat.reduceEqDiff, Nat.reduceLeDiff, h] <;> simp at h <;> simp [h]
  omega

def gridValid (xs : List Int) (n : Int) : Bool := decide (2 ≤ n ∧ n ≤ 4 ∧ (xs.length : Int) = n * n ∧ ∀ j, j < xs.length → 0 ≤ nth xs j ∧ nth xs j ≤ n)

theorem GridValid_run (xs : List Int) (n : Int) (hx : xs.length ≤ 2 ^ 44) : Reads Try.prog 87 [ints xs, int n] (bool (gridValid xs n)) := by
  refine RunCall.cw (c := _) Try.func87 rfl (n := 32) Try.ntmps87 (rs := [.tmp 4]) rfl ?_
  simp only [List.length_cons, List.length_nil, Nat.reduceAdd, Nat.reduceSub, List.replicate, List.cons_append, List.nil_append]
  simp (maxSteps := 1000000) (disch := omega) only [go_sem, Nat.reduceAdd, Nat.reduceMul, Nat.reduceSub, Nat.reduceEqDiff, Nat.reduceLeDiff]
  refine OpS.rd (sizeOk_run n) (⟨_, Try.func103, rfl, rfl⟩ : Enters Try.prog 103) rfl rfl rfl rfl ?_
  simp (maxSteps := 1000000) (disch := omega) only [go_sem, Nat.reduceAdd, Nat.reduceMul, Nat.reduceSub, Nat.reduceEqDiff, Nat.reduceLeDiff]
  refine guardK_split (fun h => ?_) (fun h => ?_) <;> simp (maxSteps := 1000000) (disch := omega) only [go_sem, Nat.reduceAdd, Nat.reduceMul, Nat.reduceSub, Nat.reduceEqDiff, Nat.reduceLeDiff, h]
  · simp at h
    simp [gridValid]; omega
  have hn : 2 ≤ n ∧ n ≤ 4 := by simpa using h
  have hw : 4 ≤ n * n ∧ n * n ≤ 16 := by
    have : n = 2 ∨ n = 3 ∨ n = 4 := by omega
    rcases this with rfl | rfl | rfl <;> decide
  simp (maxSteps := 1000000) (disch := omega) only [go_sem, Nat.reduceAdd, Nat.reduceMul, Nat.reduceSub, Nat.reduceEqDiff, Nat.reduceLeDiff]
  refine condK_split (fun h2 => ?_) (fun h2 => ?_) <;> simp (maxSteps := 1000000) (disch := omega) only [go_sem, Nat.reduceAdd, Nat.reduceMul, Nat.reduceSub, Nat.reduceEqDiff, Nat.reduceLeDiff]
  · simp at h2
    simp [gridValid, h2]
  have hl : (xs.length : Int) = n * n := by simpa using h2
  refine loop_rule (fun i : Nat => xs.length - i) (fun i => i ≤ xs.length ∧ ∀ j, j < i → 0 ≤ nth xs j ∧ nth xs j ≤ n)
    (fun i => [.a, .k, .a, .a, .a, .a, .a, .a, .a, .a, .a, .a, .a, .a, .a, .a, .a, .a, .k, .k, .p (int i), .a, .a, .a, .a, .a, .a, .a, .a, .a, .a, .a]) (fun _ => []) 0 ⟨Nat.zero_le _, fun j hj => absurd hj (Nat.not_lt_zero _)⟩ (by simp (maxSteps := 1000000) (disch := omega) only [go_sem, Nat.reduceAdd, Nat.reduceMul, Nat.reduceSub, Nat.reduceEqDiff, Nat.reduceLeDiff]; rfl) (hle_nil _) ?_
  rintro i ⟨hi, hall⟩
  simp (maxSteps := 1000000) (disch := omega) only [go_sem, Nat.reduceAdd, Nat.reduceMul, Nat.reduceSub, Nat.reduceEqDiff, Nat.reduceLeDiff]
  refine condK_split (fun h3 => ?_) (fun h3 => ?_)
  · have h3 : i < xs.length := by simpa using h3
    simp (maxSteps := 1000000) (disch := omega) only [go_sem, Nat.reduceAdd, Nat.reduceMul, Nat.reduceSub, Nat.reduceEqDiff, Nat.reduceLeDiff]
    refine guardK_split (fun h4 => ?_) (fun h4 => ?_) <;> simp (maxSteps := 1000000) (disch := omega) only [go_sem, Nat.reduceAdd, Nat.reduceMul, Nat.reduceSub, Nat.reduceEqDiff, Nat.reduceLeDiff, h4]
    · simp at h4
      symm; simp [gridValid]; intro _ _ _; exact ⟨i, h3, fun h => by omega⟩
    refine condK_split (fun h5 => ?_) (fun h5 => ?_) <;> simp (maxSteps := 1000000) (disch := omega) only [go_sem, Nat.reduceAdd, Nat.reduceMul, Nat.reduceSub, Nat.reduceEqDiff, Nat.reduceLeDiff]
    · simp at h5
      symm; simp [gridValid]; intro _ _ _; exact ⟨i, h3, fun h => by omega⟩
    simp at h4 h5
    refine ⟨i + 1, ⟨⟨h3, fun j hj => ?_⟩, by omega⟩, by omega, hle_nil _⟩
    rcases Nat.lt_succ_iff_lt_or_eq.1 hj with h | rfl
    · exact hall j h
    · exact ⟨h4, h5⟩
  simp (maxSteps := 1000000) (disch := omega) only [go_sem, Nat.reduceAdd, Nat.reduceMul, Nat.reduceSub, Nat.reduceEqDiff, Nat.reduceLeDiff]
  simp at h3
  symm; simp [gridValid]
  exact ⟨hn.1, hn.2, hl, fun j hj => hall j (by omega)⟩
end Go.Lg
