/- What fits a puzzle, as the spec tells. -/
import Derived.Test.YtabihehfemedcaaGpDE
import Derived.Test.YtabihehfemedcaaGpI2
set_option linter.unusedSimpArgs false
set_option linter.unusedVariables false
set_option maxRecDepth 100000
namespace Go.Lg
open Go.Proofs

/-- A valid puzzle of a size. -/
structure PuzN (p : Puz) (n : Nat) : Prop where
  hn : n = 2 ∨ n = 3 ∨ n = 4
  size : p.size = n
  len : p.given.length = n * n
  rl : p.rules.length ≤ 40
  rv : ∀ r ∈ p.rules, ruleValid r n = true
theorem PuzN.of {p : Puz} (h : puzzleValid p = true) : PuzN p p.size.toNat ∧ ((p.size.toNat : Nat) : Int) = p.size := by
  simp only [puzzleValid, Bool.and_eq_true, decide_eq_true_eq, List.all_eq_true] at h
  obtain ⟨h1, h2, h3⟩ := h
  have hb := gridValid_bound h1
  have hs : ((p.size.toNat : Nat) : Int) = p.size := by omega
  have hn : p.size.toNat = 2 ∨ p.size.toNat = 3 ∨ p.size.toNat = 4 := by omega
  refine ⟨⟨hn, hs.symm, ?_, by omega, fun r hr => by rw [hs]; exact h3 r hr⟩, hs⟩
  have := hb.2.2.1
  rw [← hs] at this
  exact_mod_cast this
/-- A grid of a size. -/
structure GrdN (xs : List Int) (n : Nat) : Prop where
  len : xs.length = n * n
  val : ∀ k : Nat, k < xs.length → 0 ≤ nth xs k ∧ nth xs k ≤ n
theorem GrdN.valid {xs : List Int} {n : Nat} (hn : n = 2 ∨ n = 3 ∨ n = 4) (h : GrdN xs n) : gridValid xs n = true := by
  simp only [gridValid, decide_eq_true_eq]
  refine ⟨by omega, by omega, by rw [h.len]; push_cast; rfl, h.val⟩
theorem GrdN.of {xs : List Int} {n : Nat} (hn : n = 2 ∨ n = 3 ∨ n = 4) (h : gridValid xs n = true) : GrdN xs n := by
  have hb := gridValid_bound h
  exact ⟨by have := hb.2.2.1; rcases hn with rfl | rfl | rfl <;> omega, hb.2.2.2.2⟩
theorem l5Fits_run {p : Puz} {n : Nat} (hp : PuzN p n) (xs : List Int) (hg : GrdN xs n) : Reads Try.prog 113 [aP p, ints xs] (bool (fitsL p xs n)) := by
  have hn := hp.hn
  have hz := hp.size
  have hgl := hp.len
  have hxl := hg.len
  have hrl := hp.rl
  have hsq : n * n ≤ 16 := by rcases hn with rfl | rfl | rfl <;> omega
  have hgv := hg.valid hn
  refine RunCall.cw (c := _) Try.func113 rfl (n := 60) Try.ntmps113 (rs := [.tmp 4]) rfl ?_
  simp only [List.length_cons, List.length_nil, Nat.reduceAdd, Nat.reduceSub, List.replicate, List.cons_append, List.nil_append]
  simp (maxSteps := 1000000) (disch := omega) only [go_sem, Nat.reduceAdd, Nat.reduceMul, Nat.reduceSub, Nat.reduceEqDiff, Nat.reduceLeDiff]
  intro g
  refine loop_rule (fun k : Nat => xs.length - k) (fun k => k ≤ xs.length ∧ ∀ j : Nat, j < k → ¬ (0 < nth p.given j ∧ 0 < nth xs j ∧ nth xs j ≠ nth p.given j)) (fun k => [.a, .k, .k, .a, .a, .p (int k), .a, .a, .a, .a, .a, .a, .a, .a, .a, .a, .a, .a, .a, .a, .a, .a, .a, .a, .a, .a, .a, .a, .a, .a, .a, .a, .a, .a, .a, .a, .a, .a, .a, .a, .a, .a, .a, .a, .a, .a, .a, .a, .a, .a, .a, .a, .a, .a, .a, .a, .a, .a, .a, .a]) (fun _ => [some ⟨g, 1, cP p⟩]) 0 ⟨Nat.zero_le _, fun j hj => absurd hj (Nat.not_lt_zero _)⟩ (by simp (maxSteps := 1000000) (disch := omega) only [go_sem, Nat.reduceAdd, Nat.reduceMul, Nat.reduceSub, Nat.reduceEqDiff, Nat.reduceLeDiff]; rfl) (HLe.refl _) ?_
  rintro k ⟨hk, hno⟩
  simp (maxSteps := 1000000) (disch := omega) only [go_sem, Nat.reduceAdd, Nat.reduceMul, Nat.reduceSub, Nat.reduceEqDiff, Nat.reduceLeDiff]
  (first | with_reducible refine condK_dec (fun h1 => ?_) (fun h1 => ?_) | with_reducible refine condK_ndec (fun h1 => ?_) (fun h1 => ?_) | with_reducible refine condK_nb (fun h1 => ?_) (fun h1 => ?_) | refine condK_b (fun h1 => ?_) (fun h1 => ?_))
  · have h1 : k < xs.length := by omega
    have hbad : (0 < nth p.given k ∧ 0 < nth xs k ∧ nth xs k ≠ nth p.given k) → false = fitsL p xs n := fun hb => by
      have : clear p xs = false := by
        simp only [clear, decide_eq_false_iff_not]
        exact fun h => h k h1 hb
      simp [fitsL, this]
    simp (maxSteps := 1000000) (disch := omega) only [go_sem, Nat.reduceAdd, Nat.reduceMul, Nat.reduceSub, Nat.reduceEqDiff, Nat.reduceLeDiff]
    have hgo : ¬ (0 < nth p.given k ∧ 0 < nth xs k ∧ nth xs k ≠ nth p.given k) → ∀ j : Nat, j < k + 1 → ¬ (0 < nth p.given j ∧ 0 < nth xs j ∧ nth xs j ≠ nth p.given j) := fun h j hj => by
      by_cases hjk : j = k
      · rw [hjk]; exact h
      · exact hno j (by omega)
    by_cases a : 0 < nth p.given k
    · by_cases b : 0 < nth xs k
      · by_cases c : nth xs k = nth p.given k
        · refine drawP_q foll (by kernel_rfl) ?_
          simp (maxSteps := 1000000) (disch := omega) only [go_sem, Nat.reduceAdd, Nat.reduceMul, Nat.reduceSub, Nat.reduceEqDiff, Nat.reduceLeDiff, lt_yes, lt_no, eq_yes, eq_no]
          exact ⟨k + 1, ⟨⟨by omega, hgo fun h => h.2.2 c⟩, by omega⟩, by push_cast; omega, HLe.refl _⟩
        · refine drawP_q foll (by kernel_rfl) ?_
          simp (maxSteps := 1000000) (disch := omega) only [go_sem, Nat.reduceAdd, Nat.reduceMul, Nat.reduceSub, Nat.reduceEqDiff, Nat.reduceLeDiff, lt_yes, lt_no, eq_yes, eq_no]
          exact hbad ⟨a, b, c⟩
      · refine drawP_q foll (by kernel_rfl) ?_
        simp (maxSteps := 1000000) (disch := omega) only [go_sem, Nat.reduceAdd, Nat.reduceMul, Nat.reduceSub, Nat.reduceEqDiff, Nat.reduceLeDiff, lt_yes, lt_no, eq_yes, eq_no]
        exact ⟨k + 1, ⟨⟨by omega, hgo fun h => b h.2.1⟩, by omega⟩, by push_cast; omega, HLe.refl _⟩
    · refine drawP_q foll (by kernel_rfl) ?_
      simp (maxSteps := 1000000) (disch := omega) only [go_sem, Nat.reduceAdd, Nat.reduceMul, Nat.reduceSub, Nat.reduceEqDiff, Nat.reduceLeDiff, lt_yes, lt_no, eq_yes, eq_no]
      exact ⟨k + 1, ⟨⟨by omega, hgo fun h => a h.1⟩, by omega⟩, by push_cast; omega, HLe.refl _⟩
  · have hcl : clear p xs = true := by
      simp only [clear, decide_eq_true_eq]
      exact fun j hj => hno j (by omega)
    simp (maxSteps := 1000000) (disch := omega) only [go_sem, Nat.reduceAdd, Nat.reduceMul, Nat.reduceSub, Nat.reduceEqDiff, Nat.reduceLeDiff]
    refine loop_rule (fun k : Nat => p.rules.length - k) (fun k => k ≤ p.rules.length ∧ ∀ j : Nat, j < k → canHold (nth p.rules j) xs n = true) (fun k => [.a, .k, .k, .a, .a, .a, .p (int k), .a, .a, .a, .a, .a, .a, .a, .a, .a, .a, .a, .a, .a, .a, .a, .a, .a, .a, .a, .a, .a, .a, .a, .a, .a, .a, .a, .a, .a, .a, .a, .a, .a, .a, .a, .a, .a, .a, .a, .a, .a, .a, .a, .a, .a, .a, .a, .a, .a, .a, .a, .a, .a]) (fun _ => [some ⟨g, 1, cP p⟩]) 0 ⟨Nat.zero_le _, fun j hj => absurd hj (Nat.not_lt_zero _)⟩ (by simp (maxSteps := 1000000) (disch := omega) only [go_sem, Nat.reduceAdd, Nat.reduceMul, Nat.reduceSub, Nat.reduceEqDiff, Nat.reduceLeDiff]; rfl) (HLe.refl _) ?_
    rintro i ⟨hi, hyes⟩
    simp (maxSteps := 1000000) (disch := omega) only [go_sem, Nat.reduceAdd, Nat.reduceMul, Nat.reduceSub, Nat.reduceEqDiff, Nat.reduceLeDiff]
    (first | with_reducible refine condK_dec (fun h2 => ?_) (fun h2 => ?_) | with_reducible refine condK_ndec (fun h2 => ?_) (fun h2 => ?_) | with_reducible refine condK_nb (fun h2 => ?_) (fun h2 => ?_) | refine condK_b (fun h2 => ?_) (fun h2 => ?_))
    · have h2 : i < p.rules.length := by omega
      have hmem : nth p.rules i ∈ p.rules := nth_mem h2
      simp (maxSteps := 1000000) (disch := omega) only [go_sem, Nat.reduceAdd, Nat.reduceMul, Nat.reduceSub, Nat.reduceEqDiff, Nat.reduceLeDiff]
      refine drawP_lM [0, 1, 2, 3, 4, 5, 6, 7] [] none [8, 9] [] [0, 1, 0, 7, 15, 0, 0, 64, 255, 511] foll (by kernel_rfl) ?_
      simp (maxSteps := 1000000) (disch := omega) only [go_sem, Nat.reduceBEq, Bool.true_or, Nat.reduceAdd, Nat.reduceMul, Nat.reduceSub, Nat.reduceEqDiff, Nat.reduceLeDiff]
      have hrp := sRulePossible_run hn (nth p.rules i) xs (hp.rv _ hmem) hgv
      rw [← hz] at hrp
      first | refine OpS.rd (hrp) (⟨_, Try.func128, rfl, rfl⟩ : Enters Try.prog 128) rfl rfl rfl rfl ?_ | refine Loud.rd (hrp) (⟨_, Try.func128, rfl, rfl⟩ : Enters Try.prog 128) rfl rfl rfl rfl ?_
      simp (maxSteps := 1000000) (disch := omega) only [go_sem, Nat.reduceAdd, Nat.reduceMul, Nat.reduceSub, Nat.reduceEqDiff, Nat.reduceLeDiff]
      (first | with_reducible refine condK_dec (fun h3 => ?_) (fun h3 => ?_) | with_reducible refine condK_ndec (fun h3 => ?_) (fun h3 => ?_) | with_reducible refine condK_nb (fun h3 => ?_) (fun h3 => ?_) | refine condK_b (fun h3 => ?_) (fun h3 => ?_))
      · simp (maxSteps := 1000000) (disch := omega) only [go_sem, Nat.reduceAdd, Nat.reduceMul, Nat.reduceSub, Nat.reduceEqDiff, Nat.reduceLeDiff]
        refine ⟨i + 1, ⟨⟨by omega, fun j hj => ?_⟩, by omega⟩, by push_cast; omega, HLe.refl _⟩
        by_cases hji : j = i
        · rw [hji]; exact h3
        · exact hyes j (by omega)
      · simp (maxSteps := 1000000) (disch := omega) only [go_sem, Nat.reduceAdd, Nat.reduceMul, Nat.reduceSub, Nat.reduceEqDiff, Nat.reduceLeDiff]
        have : p.rules.all (fun r => canHold r xs n) = false := by
          rw [List.all_eq_false]
          exact ⟨_, hmem, by rw [h3]; simp⟩
        simp [fitsL, this]
    · have hall : p.rules.all (fun r => canHold r xs n) = true := by
        rw [List.all_eq_true]
        intro r hr
        obtain ⟨j, hj, rfl⟩ := List.mem_iff_getElem.1 hr
        have := hyes j (by omega)
        rwa [nth_eq (by omega)] at this
      simp (maxSteps := 1000000) (disch := omega) only [go_sem, Nat.reduceAdd, Nat.reduceMul, Nat.reduceSub, Nat.reduceEqDiff, Nat.reduceLeDiff]
      have hcr := l2Clash_run hn xs hxl (fun k hk => by have := hg.val k hk; omega)
      rw [← hz] at hcr
      first | refine OpS.rd (hcr) (⟨_, Try.func102, rfl, rfl⟩ : Enters Try.prog 102) rfl rfl rfl rfl ?_ | refine Loud.rd (hcr) (⟨_, Try.func102, rfl, rfl⟩ : Enters Try.prog 102) rfl rfl rfl rfl ?_
      simp (maxSteps := 1000000) (disch := omega) only [go_sem, Nat.reduceAdd, Nat.reduceMul, Nat.reduceSub, Nat.reduceEqDiff, Nat.reduceLeDiff]
      simp [fitsL, hcl, hall]
end Go.Lg
