import Derived.Test.YtabihehfemedcaaLgT
set_option linter.unusedSimpArgs false
set_option linter.unusedVariables false
set_option maxRecDepth 100000
namespace Go.Lg
open Go.Proofs

theorem toIntS_own (xs : List Int) (hx : xs.length ≤ 2 ^ 40) : RunCall Try.prog 35 [ints xs] [] (ownQ (eI .i64) 1 xs) := by
  refine RunCall.cw (c := _) Try.func35 rfl (n := 22) Try.ntmps35 (rs := [.tmp 2]) rfl ?_
  simp only [List.length_cons, List.length_nil, Nat.reduceAdd, Nat.reduceSub, List.replicate, List.cons_append, List.nil_append]
  simp (maxSteps := 1000000) (disch := omega) only [go_sem, Nat.reduceAdd, Nat.reduceMul, Nat.reduceSub, Nat.reduceEqDiff, Nat.reduceLeDiff]
  intro g
  refine loop_rule2 (fun (i : Nat) (ys : List Int) => xs.length - i) (fun i ys => i ≤ xs.length ∧ ys.length = xs.length ∧ ∀ j : Nat, j < i → nth ys j = nth xs j) (fun i _ => [.k, .a, .a, .k, .p (int i), .a, .a, .a, .a, .a, .a, .a, .a, .a, .a, .a, .a, .a, .a, .a, .a, .a]) (fun _ ys => [some ⟨g, 1, cl (eI .i64) ys⟩]) 0 (List.replicate xs.length 0)
    ⟨Nat.zero_le _, List.length_replicate, fun j hj => absurd hj (Nat.not_lt_zero _)⟩ (by simp (maxSteps := 1000000) (disch := omega) only [go_sem, Nat.reduceAdd, Nat.reduceMul, Nat.reduceSub, Nat.reduceEqDiff, Nat.reduceLeDiff]; rfl) (HLe.refl _) ?_
  rintro i ys ⟨hi, hl, hall⟩
  simp (maxSteps := 1000000) (disch := omega) only [go_sem, Nat.reduceAdd, Nat.reduceMul, Nat.reduceSub, Nat.reduceEqDiff, Nat.reduceLeDiff]
  refine condK_split (fun h => ?_) (fun h => ?_)
  · have h : i < xs.length := by simpa using h
    simp (maxSteps := 1000000) (disch := omega) only [go_sem, Nat.reduceAdd, Nat.reduceMul, Nat.reduceSub, Nat.reduceEqDiff, Nat.reduceLeDiff]
    refine ⟨i + 1, ys.set i (nth xs i), ⟨⟨h, by simp [hl], fun j hj => ?_⟩, by omega⟩, by simp, HLe.refl _⟩
    rw [nth_set _ _ _ _ (by omega) (by omega)]
    split
    · simp_all
    · exact hall j (by omega)
  have h : ¬ i < xs.length := by simpa using h
  simp (maxSteps := 1000000) (disch := omega) only [go_sem, Nat.reduceAdd, Nat.reduceMul, Nat.reduceSub, Nat.reduceEqDiff, Nat.reduceLeDiff]
  have := ext_nth hl fun j hj => hall j (by omega)
  subst this
  exact lessQ_own (HLe.refl _)
theorem toIntS_run (xs : List Int) (hx : xs.length ≤ 2 ^ 40) : Reads Try.prog 35 [ints xs] (ints xs) := Reads.own (toIntS_own xs hx)
theorem eqIntS_run (xs ys : List Int) (hx : xs.length ≤ 2 ^ 40) : Reads Try.prog 37 [ints xs, ints ys] (bool (decide (xs = ys))) := by
  refine RunCall.cw (c := _) Try.func37 rfl (n := 26) Try.ntmps37 (rs := [.tmp 4]) rfl ?_
  simp only [List.length_cons, List.length_nil, Nat.reduceAdd, Nat.reduceSub, List.replicate, List.cons_append, List.nil_append]
  simp (maxSteps := 1000000) (disch := omega) only [go_sem, Nat.reduceAdd, Nat.reduceMul, Nat.reduceSub, Nat.reduceEqDiff, Nat.reduceLeDiff]
  refine condK_split (fun h => ?_) (fun h => ?_) <;> simp (maxSteps := 1000000) (disch := omega) only [go_sem, Nat.reduceAdd, Nat.reduceMul, Nat.reduceSub, Nat.reduceEqDiff, Nat.reduceLeDiff]
  · simp at h
    symm; simp; intro h2; exact h (by rw [h2])
  have hl : xs.length = ys.length := by simp at h; omega
  refine loop_rule (fun i : Nat => xs.length - i) (fun i => i ≤ xs.length ∧ ∀ j : Nat, j < i → nth xs j = nth ys j) (fun i => [.k, .k, .a, .a, .a, .p (int i), .a, .a, .a, .a, .a, .a, .a, .a, .a, .a, .a, .a, .a, .a, .a, .a, .a, .a, .a, .a]) (fun i => []) 0
    ⟨Nat.zero_le _, fun j hj => absurd hj (Nat.not_lt_zero _)⟩ (by simp (maxSteps := 1000000) (disch := omega) only [go_sem, Nat.reduceAdd, Nat.reduceMul, Nat.reduceSub, Nat.reduceEqDiff, Nat.reduceLeDiff]; rfl) (hle_nil _) ?_
  rintro i ⟨hi, hall⟩
  simp (maxSteps := 1000000) (disch := omega) only [go_sem, Nat.reduceAdd, Nat.reduceMul, Nat.reduceSub, Nat.reduceEqDiff, Nat.reduceLeDiff]
  refine condK_split (fun h => ?_) (fun h => ?_)
  · have h : i < xs.length := by simpa using h
    simp (maxSteps := 1000000) (disch := omega) only [go_sem, Nat.reduceAdd, Nat.reduceMul, Nat.reduceSub, Nat.reduceEqDiff, Nat.reduceLeDiff]
    refine drawP_q foll (by kernel_rfl) ?_
    simp (maxSteps := 1000000) (disch := omega) only [go_sem, Nat.reduceBEq, Bool.true_or, Nat.reduceAdd, Nat.reduceMul, Nat.reduceSub, Nat.reduceEqDiff, Nat.reduceLeDiff]
    refine condK_split (fun h => ?_) (fun h => ?_) <;> simp (maxSteps := 1000000) (disch := omega) only [go_sem, Nat.reduceAdd, Nat.reduceMul, Nat.reduceSub, Nat.reduceEqDiff, Nat.reduceLeDiff]
    · simp at h
      symm; simp; intro h2; exact h (by rw [h2])
    simp at h
    refine ⟨i + 1, ⟨⟨by omega, fun j hj => ?_⟩, by omega⟩, by omega, hle_nil _⟩
    rcases Nat.lt_succ_iff_lt_or_eq.1 hj with hj | rfl
    · exact hall j hj
    · exact h
  have h : ¬ i < xs.length := by simpa using h
  simp (maxSteps := 1000000) (disch := omega) only [go_sem, Nat.reduceAdd, Nat.reduceMul, Nat.reduceSub, Nat.reduceEqDiff, Nat.reduceLeDiff]
  have := ext_nth hl fun j hj => hall j (by omega)
  simp [this]
def chI (v : Int) : Int := if v = 0 then 46 else 48 + v
def chOf (v : Int) : UInt8 := u8 (chI v)
end Go.Lg
