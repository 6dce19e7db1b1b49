/- Valid puzzles and proofs: the program's and the reference's. -/
import Derived.Test.YtabihehfemedcaaGpI
set_option linter.unusedSimpArgs false
set_option linter.unusedVariables false
set_option maxRecDepth 100000
namespace Go.Lg
open Go.Proofs

/-! ### puzzles -/
def puzzleValid (p : Puz) : Bool := gridValid p.given p.size && (decide (p.rules.length ≤ 20) && p.rules.all fun r => ruleValid r p.size)
theorem PuzzleValid_run (p : Puz) (hx : smP p) : Reads Try.prog 83 [aP p] (bool (puzzleValid p)) := by
  obtain ⟨hx1, hx2, hx3⟩ := hx
  refine RunCall.cw (c := _) Try.func83 rfl (n := 30) Try.ntmps83 (rs := [.tmp 2]) rfl ?_
  simp only [List.length_cons, List.length_nil, Nat.reduceAdd, Nat.reduceSub, List.replicate, List.cons_append, List.nil_append]
  simp (maxSteps := 1000000) (disch := omega) only [go_sem, Nat.reduceAdd, Nat.reduceMul, Nat.reduceSub, Nat.reduceEqDiff, Nat.reduceLeDiff]
  intro g
  first | refine OpS.rd (GridValid_run p.given p.size (by omega)) (⟨_, Try.func87, rfl, rfl⟩ : Enters Try.prog 87) rfl rfl rfl rfl ?_ | refine Loud.rd (GridValid_run p.given p.size (by omega)) (⟨_, Try.func87, rfl, rfl⟩ : Enters Try.prog 87) rfl rfl rfl rfl ?_
  simp (maxSteps := 1000000) (disch := omega) only [go_sem, Nat.reduceAdd, Nat.reduceMul, Nat.reduceSub, Nat.reduceEqDiff, Nat.reduceLeDiff]
  (first | with_reducible refine guardK_dec (fun hv => ?_) (fun hv => ?_) <;> simp (maxSteps := 1000000) (disch := omega) only [go_sem, Nat.reduceAdd, Nat.reduceMul, Nat.reduceSub, Nat.reduceEqDiff, Nat.reduceLeDiff, hv] | with_reducible refine guardK_ndec (fun hv => ?_) (fun hv => ?_) <;> simp (maxSteps := 1000000) (disch := omega) only [go_sem, Nat.reduceAdd, Nat.reduceMul, Nat.reduceSub, Nat.reduceEqDiff, Nat.reduceLeDiff, hv] | with_reducible refine guardK_nb (fun hv => ?_) (fun hv => ?_) <;> simp (maxSteps := 1000000) (disch := omega) only [go_sem, Nat.reduceAdd, Nat.reduceMul, Nat.reduceSub, Nat.reduceEqDiff, Nat.reduceLeDiff, hv] | with_reducible refine guardK_split (fun hv => ?_) (fun hv => ?_) <;> simp (maxSteps := 1000000) (disch := omega) only [go_sem, Nat.reduceAdd, Nat.reduceMul, Nat.reduceSub, Nat.reduceEqDiff, Nat.reduceLeDiff, hv] | with_reducible refine guardQ_dec (fun hv => ?_) (fun hv => ?_) <;> simp (maxSteps := 1000000) (disch := omega) only [go_sem, Nat.reduceAdd, Nat.reduceMul, Nat.reduceSub, Nat.reduceEqDiff, Nat.reduceLeDiff, hv] | with_reducible refine guardL_dec (fun hv => ?_) (fun hv => ?_) <;> simp (maxSteps := 1000000) (disch := omega) only [go_sem, Nat.reduceAdd, Nat.reduceMul, Nat.reduceSub, Nat.reduceEqDiff, Nat.reduceLeDiff, hv] | with_reducible refine guardQ_ndec (fun hv => ?_) (fun hv => ?_) <;> simp (maxSteps := 1000000) (disch := omega) only [go_sem, Nat.reduceAdd, Nat.reduceMul, Nat.reduceSub, Nat.reduceEqDiff, Nat.reduceLeDiff, hv] | with_reducible refine guardL_ndec (fun hv => ?_) (fun hv => ?_) <;> simp (maxSteps := 1000000) (disch := omega) only [go_sem, Nat.reduceAdd, Nat.reduceMul, Nat.reduceSub, Nat.reduceEqDiff, Nat.reduceLeDiff, hv] | with_reducible refine guardQ_nb (fun hv => ?_) (fun hv => ?_) <;> simp (maxSteps := 1000000) (disch := omega) only [go_sem, Nat.reduceAdd, Nat.reduceMul, Nat.reduceSub, Nat.reduceEqDiff, Nat.reduceLeDiff, hv] | with_reducible refine guardL_nb (fun hv => ?_) (fun hv => ?_) <;> simp (maxSteps := 1000000) (disch := omega) only [go_sem, Nat.reduceAdd, Nat.reduceMul, Nat.reduceSub, Nat.reduceEqDiff, Nat.reduceLeDiff, hv] | with_reducible refine guardQ_split (fun hv => ?_) (fun hv => ?_) <;> simp (maxSteps := 1000000) (disch := omega) only [go_sem, Nat.reduceAdd, Nat.reduceMul, Nat.reduceSub, Nat.reduceEqDiff, Nat.reduceLeDiff, hv] | with_reducible refine guardL_split (fun hv => ?_) (fun hv => ?_) <;> simp (maxSteps := 1000000) (disch := omega) only [go_sem, Nat.reduceAdd, Nat.reduceMul, Nat.reduceSub, Nat.reduceEqDiff, Nat.reduceLeDiff, hv])
  rotate_left
  · simp [puzzleValid, hv]
  (first | with_reducible refine condK_dec (fun h20 => ?_) (fun h20 => ?_) | with_reducible refine condK_ndec (fun h20 => ?_) (fun h20 => ?_) | with_reducible refine condK_nb (fun h20 => ?_) (fun h20 => ?_) | refine condK_b (fun h20 => ?_) (fun h20 => ?_))
  · simp (maxSteps := 1000000) (disch := omega) only [go_sem, Nat.reduceAdd, Nat.reduceMul, Nat.reduceSub, Nat.reduceEqDiff, Nat.reduceLeDiff]
    symm; simp only [puzzleValid, hv, Bool.true_and, Bool.and_eq_false_iff, decide_eq_false_iff_not]; exact .inl (by omega)
  simp (maxSteps := 1000000) (disch := omega) only [go_sem, Nat.reduceAdd, Nat.reduceMul, Nat.reduceSub, Nat.reduceEqDiff, Nat.reduceLeDiff]
  refine loop_rule (fun i : Nat => p.rules.length - i) (fun i => i ≤ p.rules.length ∧ ∀ j : Nat, j < i → ruleValid (nth p.rules j) p.size = true) (fun i => [.a, .k, .a, .a, .a, .a, .a, .a, .a, .a, .a, .a, .a, .a, .a, .a, .a, .a, .k, .k, .p (int i), .a, .a, .a, .a, .a, .a, .a, .a, .a]) (fun _ => [some ⟨g, 1, cP p⟩]) 0
    ⟨Nat.zero_le _, fun j hj => absurd hj (Nat.not_lt_zero _)⟩ (by simp (maxSteps := 1000000) (disch := omega) only [go_sem, Nat.reduceAdd, Nat.reduceMul, Nat.reduceSub, Nat.reduceEqDiff, Nat.reduceLeDiff]; rfl) (HLe.refl _) ?_
  rintro i ⟨hi, hall⟩
  simp (maxSteps := 1000000) (disch := omega) only [go_sem, Nat.reduceAdd, Nat.reduceMul, Nat.reduceSub, Nat.reduceEqDiff, Nat.reduceLeDiff]
  (first | with_reducible refine condK_dec (fun h => ?_) (fun h => ?_) | with_reducible refine condK_ndec (fun h => ?_) (fun h => ?_) | with_reducible refine condK_nb (fun h => ?_) (fun h => ?_) | refine condK_b (fun h => ?_) (fun h => ?_))
  · have h : i < p.rules.length := by omega
    simp (maxSteps := 1000000) (disch := omega) only [go_sem, Nat.reduceAdd, Nat.reduceMul, Nat.reduceSub, Nat.reduceEqDiff, Nat.reduceLeDiff]
    intro g2
    first | refine OpS.rd (RuleValid_run (nth p.rules i) p.size (hx3 _ (nth_mem h))) (⟨_, Try.func71, rfl, rfl⟩ : Enters Try.prog 71) rfl rfl rfl rfl ?_ | refine Loud.rd (RuleValid_run (nth p.rules i) p.size (hx3 _ (nth_mem h))) (⟨_, Try.func71, rfl, rfl⟩ : Enters Try.prog 71) rfl rfl rfl rfl ?_
    simp (maxSteps := 1000000) (disch := omega) only [go_sem, Nat.reduceAdd, Nat.reduceMul, Nat.reduceSub, Nat.reduceEqDiff, Nat.reduceLeDiff]
    (first | with_reducible refine condK_dec (fun h2 => ?_) (fun h2 => ?_) | with_reducible refine condK_ndec (fun h2 => ?_) (fun h2 => ?_) | with_reducible refine condK_nb (fun h2 => ?_) (fun h2 => ?_) | refine condK_b (fun h2 => ?_) (fun h2 => ?_))
    · simp (maxSteps := 1000000) (disch := omega) only [go_sem, Nat.reduceAdd, Nat.reduceMul, Nat.reduceSub, Nat.reduceEqDiff, Nat.reduceLeDiff]
      exact ⟨i + 1, ⟨⟨h, all_step hall h2⟩, by omega⟩, by omega, hle_self _ _ _ (hle_nil _)⟩
    · simp (maxSteps := 1000000) (disch := omega) only [go_sem, Nat.reduceAdd, Nat.reduceMul, Nat.reduceSub, Nat.reduceEqDiff, Nat.reduceLeDiff]
      symm; simp only [puzzleValid, Bool.and_eq_false_iff]; exact .inr (.inr (all_no h h2))
  · simp (maxSteps := 1000000) (disch := omega) only [go_sem, Nat.reduceAdd, Nat.reduceMul, Nat.reduceSub, Nat.reduceEqDiff, Nat.reduceLeDiff]
    symm; simp only [puzzleValid, Bool.and_eq_true, decide_eq_true_eq]
    exact ⟨hv, by omega, all_nth.2 fun j hj => hall j (by omega)⟩
theorem sPuzzleValid_run (p : Puz) (hx : smP p) : Reads Try.prog 52 [aP p] (bool (puzzleValid p)) := by
  obtain ⟨hx1, hx2, hx3⟩ := hx
  refine RunCall.cw (c := _) Try.func52 rfl (n := 31) Try.ntmps52 (rs := [.tmp 2]) rfl ?_
  simp only [List.length_cons, List.length_nil, Nat.reduceAdd, Nat.reduceSub, List.replicate, List.cons_append, List.nil_append]
  simp (maxSteps := 1000000) (disch := omega) only [go_sem, Nat.reduceAdd, Nat.reduceMul, Nat.reduceSub, Nat.reduceEqDiff, Nat.reduceLeDiff]
  intro g
  refine loop_rule (fun i : Nat => p.rules.length - i) (fun i => i ≤ p.rules.length ∧ ∀ j : Nat, j < i → ruleValid (nth p.rules j) p.size = true) (fun i => [.a, .k, .a, .p (int i), .a, .a, .a, .a, .a, .a, .a, .a, .a, .a, .a, .a, .a, .a, .a, .a, .a, .a, .a, .a, .a, .a, .a, .a, .a, .a, .a]) (fun _ => [some ⟨g, 1, cP p⟩]) 0
    ⟨Nat.zero_le _, fun j hj => absurd hj (Nat.not_lt_zero _)⟩ (by simp (maxSteps := 1000000) (disch := omega) only [go_sem, Nat.reduceAdd, Nat.reduceMul, Nat.reduceSub, Nat.reduceEqDiff, Nat.reduceLeDiff]; rfl) (HLe.refl _) ?_
  rintro i ⟨hi, hall⟩
  simp (maxSteps := 1000000) (disch := omega) only [go_sem, Nat.reduceAdd, Nat.reduceMul, Nat.reduceSub, Nat.reduceEqDiff, Nat.reduceLeDiff]
  (first | with_reducible refine condK_dec (fun h => ?_) (fun h => ?_) | with_reducible refine condK_ndec (fun h => ?_) (fun h => ?_) | with_reducible refine condK_nb (fun h => ?_) (fun h => ?_) | refine condK_b (fun h => ?_) (fun h => ?_))
  · have h : i < p.rules.length := by omega
    simp (maxSteps := 1000000) (disch := omega) only [go_sem, Nat.reduceAdd, Nat.reduceMul, Nat.reduceSub, Nat.reduceEqDiff, Nat.reduceLeDiff]
    refine drawP_q foll (by kernel_rfl) ?_
    simp (maxSteps := 1000000) (disch := omega) only [go_sem, Nat.reduceBEq, Bool.true_or, Nat.reduceAdd, Nat.reduceMul, Nat.reduceSub, Nat.reduceEqDiff, Nat.reduceLeDiff]
    refine quietW.rd (sRuleValid_run (nth p.rules i) p.size (hx3 _ (nth_mem h))) (⟨_, Try.func97, rfl, rfl⟩ : Enters Try.prog 97) rfl rfl rfl rfl ?_
    simp (maxSteps := 1000000) (disch := omega) only [go_sem, Nat.reduceAdd, Nat.reduceMul, Nat.reduceSub, Nat.reduceEqDiff, Nat.reduceLeDiff]
    (first | with_reducible refine condK_dec (fun h2 => ?_) (fun h2 => ?_) | with_reducible refine condK_ndec (fun h2 => ?_) (fun h2 => ?_) | with_reducible refine condK_nb (fun h2 => ?_) (fun h2 => ?_) | refine condK_b (fun h2 => ?_) (fun h2 => ?_))
    · simp (maxSteps := 1000000) (disch := omega) only [go_sem, Nat.reduceAdd, Nat.reduceMul, Nat.reduceSub, Nat.reduceEqDiff, Nat.reduceLeDiff]
      exact ⟨i + 1, ⟨⟨h, all_step hall h2⟩, by omega⟩, by omega, HLe.refl _⟩
    · simp (maxSteps := 1000000) (disch := omega) only [go_sem, Nat.reduceAdd, Nat.reduceMul, Nat.reduceSub, Nat.reduceEqDiff, Nat.reduceLeDiff]
      symm; simp only [puzzleValid, Bool.and_eq_false_iff]; exact .inr (.inr (all_no h h2))
  · simp (maxSteps := 1000000) (disch := omega) only [go_sem, Nat.reduceAdd, Nat.reduceMul, Nat.reduceSub, Nat.reduceEqDiff, Nat.reduceLeDiff]
    have ha : (p.rules.all fun r => ruleValid r p.size) = true := all_nth.2 fun j hj => hall j (by omega)
    first | refine OpS.rd (sGridValid_run p.given p.size (by omega)) (⟨_, Try.func53, rfl, rfl⟩ : Enters Try.prog 53) rfl rfl rfl rfl ?_ | refine Loud.rd (sGridValid_run p.given p.size (by omega)) (⟨_, Try.func53, rfl, rfl⟩ : Enters Try.prog 53) rfl rfl rfl rfl ?_
    simp (maxSteps := 1000000) (disch := omega) only [go_sem, Nat.reduceAdd, Nat.reduceMul, Nat.reduceSub, Nat.reduceEqDiff, Nat.reduceLeDiff]
    (first | with_reducible refine guardK_dec (fun hv => ?_) (fun hv => ?_) <;> simp (maxSteps := 1000000) (disch := omega) only [go_sem, Nat.reduceAdd, Nat.reduceMul, Nat.reduceSub, Nat.reduceEqDiff, Nat.reduceLeDiff, hv] | with_reducible refine guardK_ndec (fun hv => ?_) (fun hv => ?_) <;> simp (maxSteps := 1000000) (disch := omega) only [go_sem, Nat.reduceAdd, Nat.reduceMul, Nat.reduceSub, Nat.reduceEqDiff, Nat.reduceLeDiff, hv] | with_reducible refine guardK_nb (fun hv => ?_) (fun hv => ?_) <;> simp (maxSteps := 1000000) (disch := omega) only [go_sem, Nat.reduceAdd, Nat.reduceMul, Nat.reduceSub, Nat.reduceEqDiff, Nat.reduceLeDiff, hv] | with_reducible refine guardK_split (fun hv => ?_) (fun hv => ?_) <;> simp (maxSteps := 1000000) (disch := omega) only [go_sem, Nat.reduceAdd, Nat.reduceMul, Nat.reduceSub, Nat.reduceEqDiff, Nat.reduceLeDiff, hv] | with_reducible refine guardQ_dec (fun hv => ?_) (fun hv => ?_) <;> simp (maxSteps := 1000000) (disch := omega) only [go_sem, Nat.reduceAdd, Nat.reduceMul, Nat.reduceSub, Nat.reduceEqDiff, Nat.reduceLeDiff, hv] | with_reducible refine guardL_dec (fun hv => ?_) (fun hv => ?_) <;> simp (maxSteps := 1000000) (disch := omega) only [go_sem, Nat.reduceAdd, Nat.reduceMul, Nat.reduceSub, Nat.reduceEqDiff, Nat.reduceLeDiff, hv] | with_reducible refine guardQ_ndec (fun hv => ?_) (fun hv => ?_) <;> simp (maxSteps := 1000000) (disch := omega) only [go_sem, Nat.reduceAdd, Nat.reduceMul, Nat.reduceSub, Nat.reduceEqDiff, Nat.reduceLeDiff, hv] | with_reducible refine guardL_ndec (fun hv => ?_) (fun hv => ?_) <;> simp (maxSteps := 1000000) (disch := omega) only [go_sem, Nat.reduceAdd, Nat.reduceMul, Nat.reduceSub, Nat.reduceEqDiff, Nat.reduceLeDiff, hv] | with_reducible refine guardQ_nb (fun hv => ?_) (fun hv => ?_) <;> simp (maxSteps := 1000000) (disch := omega) only [go_sem, Nat.reduceAdd, Nat.reduceMul, Nat.reduceSub, Nat.reduceEqDiff, Nat.reduceLeDiff, hv] | with_reducible refine guardL_nb (fun hv => ?_) (fun hv => ?_) <;> simp (maxSteps := 1000000) (disch := omega) only [go_sem, Nat.reduceAdd, Nat.reduceMul, Nat.reduceSub, Nat.reduceEqDiff, Nat.reduceLeDiff, hv] | with_reducible refine guardQ_split (fun hv => ?_) (fun hv => ?_) <;> simp (maxSteps := 1000000) (disch := omega) only [go_sem, Nat.reduceAdd, Nat.reduceMul, Nat.reduceSub, Nat.reduceEqDiff, Nat.reduceLeDiff, hv] | with_reducible refine guardL_split (fun hv => ?_) (fun hv => ?_) <;> simp (maxSteps := 1000000) (disch := omega) only [go_sem, Nat.reduceAdd, Nat.reduceMul, Nat.reduceSub, Nat.reduceEqDiff, Nat.reduceLeDiff, hv])
    · simp only [puzzleValid, hv, ha, Bool.true_and, Bool.and_true, decide_eq_decide]; omega
    · simp [puzzleValid, hv]

/-! ### proofs -/
def brnOk (m : Nat) (b : Brn) : Bool := decide ((b.tech = 0 ∨ 1 ≤ b.tech ∧ b.tech ≤ 4 ∧ b.cell = 0) ∧ 0 ≤ b.cell ∧ b.cell < m)
def proofValid (p : Puz) (pf : List Brn) : Bool := puzzleValid p && (decide (pf.length ≤ 200) && pf.all (brnOk p.given.length))
theorem brn_no {p : Puz} {pf : List Brn} {i : Nat} (hi : i < pf.length) (h : ¬ (((nth pf i).tech = 0 ∨ 1 ≤ (nth pf i).tech ∧ (nth pf i).tech ≤ 4 ∧ (nth pf i).cell = 0) ∧ 0 ≤ (nth pf i).cell ∧ (nth pf i).cell < p.given.length)) : proofValid p pf = false := by
  simp only [proofValid, Bool.and_eq_false_iff]
  exact .inr (.inr (all_no hi (by simp only [brnOk, decide_eq_false_iff_not]; exact h)))
def proofTries (p : Puz) (pf : List Brn) : Int := if proofValid p pf then (pf.countP fun b => decide (b.tech = 0) : Nat) else -1
end Go.Lg
