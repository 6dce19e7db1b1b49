/- GpEE, cut to what is needed. -/
import Derived.Test.YtcopagjhklcokaaRfc3
open Nat(reduceAdd reduceMul reduceSub reduceEqDiff reduceLeDiff)
set_option linter.unusedSimpArgs false
set_option linter.unusedVariables false
set_option maxRecDepth 100000
namespace Go.Lg
open Go.Proofs
theorem PuzN.sm {p : Puz} {n : Nat} (hp : PuzN p n) : smP p := by
  have hsq : n * n ≤ 16 := by rcases hp.hn with rfl | rfl | rfl <;> omega
  have := hp.len
  have := hp.rl
  refine ⟨by omega, by omega, fun r hr => ?_⟩
  have := (ruleValid_facts (hp.rv r hr)).1
  omega
theorem PuzzleFits_run {p : Puz} {n : Nat} (hp : PuzN p n) (hv : puzzleValid p = true) (xs : List Int) (hg : GrdN xs n) : Reads Try.prog 82 [aP p, ints xs] (bool (fitsL p xs n)) := by
  have hn := hp.hn
  have hz := hp.size
  have hgl := hp.len
  have hxl := hg.len
  have hrl := hp.rl
  have hsq : n * n ≤ 16 := by rcases hn with rfl | rfl | rfl <;> omega
  refine RunCall.cw (c := _) Try.func82 rfl (n := 60) Try.ntmps82 (rs := [.tmp 4]) rfl ?_
  simp only [List.length_cons, List.length_nil, Nat.reduceAdd, Nat.reduceSub, List.replicate, List.cons_append, List.nil_append]
  simp(maxSteps:=999999)(disch:=omega)only[go_sem,reduceAdd,reduceMul,reduceSub,reduceEqDiff,reduceLeDiff]
  intro g
  first | refine OpS.rd (PuzzleValid_run p hp.sm) (⟨_, Try.func66, rfl, rfl⟩ : Enters Try.prog 66) rfl rfl rfl rfl ?_ | refine Loud.rd (PuzzleValid_run p hp.sm) (⟨_, Try.func66, rfl, rfl⟩ : Enters Try.prog 66) rfl rfl rfl rfl ?_
  simp(maxSteps:=999999)(disch:=omega)only[go_sem,reduceAdd,reduceMul,reduceSub,reduceEqDiff,reduceLeDiff]
  ((first | with_reducible refine guardK_dec ?_ ?_ | with_reducible refine guardK_ndec ?_ ?_ | with_reducible refine guardK_nb ?_ ?_ | with_reducible refine guardK_split ?_ ?_ | with_reducible refine guardQ_dec ?_ ?_ | with_reducible refine guardL_dec ?_ ?_ | with_reducible refine guardQ_ndec ?_ ?_ | with_reducible refine guardL_ndec ?_ ?_ | with_reducible refine guardQ_nb ?_ ?_ | with_reducible refine guardL_nb ?_ ?_ | with_reducible refine guardQ_split ?_ ?_ | with_reducible refine guardL_split ?_ ?_) <;> intro c1 <;> simp(maxSteps:=999999)(disch:=omega)only[go_sem,reduceAdd,reduceMul,reduceSub,reduceEqDiff,reduceLeDiff, c1])
  rotate_left
  · exfalso; rw [hv] at c1; cases c1
  have hsf := SquareFits_run hn xs hg
  rw [← hz] at hsf
  first | refine OpS.rd (hsf) (⟨_, Try.func122, rfl, rfl⟩ : Enters Try.prog 122) rfl rfl rfl rfl ?_ | refine Loud.rd (hsf) (⟨_, Try.func122, rfl, rfl⟩ : Enters Try.prog 122) rfl rfl rfl rfl ?_
  simp(maxSteps:=999999)(disch:=omega)only[go_sem,reduceAdd,reduceMul,reduceSub,reduceEqDiff,reduceLeDiff]
  ((first | with_reducible refine condK_dec ?_ ?_ | with_reducible refine condK_ndec ?_ ?_ | with_reducible refine condK_nb ?_ ?_ | refine condK_b ?_ ?_) <;> intro c2)
  rotate_left
  · have c2 : clash xs n = true := by simpa using c2
    simp(maxSteps:=999999)(disch:=omega)only[go_sem,reduceAdd,reduceMul,reduceSub,reduceEqDiff,reduceLeDiff]
    simp [fitsL, c2]
  have c2 : clash xs n = false := by simpa using c2
  simp(maxSteps:=999999)(disch:=omega)only[go_sem,reduceAdd,reduceMul,reduceSub,reduceEqDiff,reduceLeDiff]
  refine loop_rule (fun k : Nat => xs.length - k) (fun k => k ≤ xs.length ∧ ∀ j : Nat, j < k → ¬ (0 < nth p.given j ∧ 0 < nth xs j ∧ nth xs j ≠ nth p.given j)) (fun k => [.a, .k, .k, .a, .a, .a, .a, .a, .a, .a, .a, .a, .a, .a, .a, .a, .a, .a, .a, .k, .k, .p (int k), .a, .a, .a, .a, .a, .a, .a, .a, .a, .a, .a, .a, .a, .a, .a, .a, .a, .a, .a, .a, .a, .a, .a, .a, .a, .a, .a, .a, .a, .a, .a, .a, .a, .a, .a, .a, .a, .a]) (fun _ => [some ⟨g, 1, cP p⟩]) 0 ⟨Nat.zero_le _, fun j hj => absurd hj (Nat.not_lt_zero _)⟩ (by simp(maxSteps:=999999)(disch:=omega)only[go_sem,reduceAdd,reduceMul,reduceSub,reduceEqDiff,reduceLeDiff]; rfl) (HLe.refl _) ?_
  rintro k ⟨hk, hno⟩
  simp(maxSteps:=999999)(disch:=omega)only[go_sem,reduceAdd,reduceMul,reduceSub,reduceEqDiff,reduceLeDiff]
  ((first | with_reducible refine condK_dec ?_ ?_ | with_reducible refine condK_ndec ?_ ?_ | with_reducible refine condK_nb ?_ ?_ | refine condK_b ?_ ?_) <;> intro h1)
  · have h1 : k < xs.length := by omega
    have hgo : ¬ (0 < nth p.given k ∧ 0 < nth xs k ∧ nth xs k ≠ nth p.given k) → ∀ j : Nat, j < k + 1 → ¬ (0 < nth p.given j ∧ 0 < nth xs j ∧ nth xs j ≠ nth p.given j) := fun h j hj => by
      by_cases hjk : j = k
      · rw [hjk]; exact h
      · exact hno j (by omega)
    simp(maxSteps:=999999)(disch:=omega)only[go_sem,reduceAdd,reduceMul,reduceSub,reduceEqDiff,reduceLeDiff]
    ((first | with_reducible refine guardK_dec ?_ ?_ | with_reducible refine guardK_ndec ?_ ?_ | with_reducible refine guardK_nb ?_ ?_ | with_reducible refine guardK_split ?_ ?_ | with_reducible refine guardQ_dec ?_ ?_ | with_reducible refine guardL_dec ?_ ?_ | with_reducible refine guardQ_ndec ?_ ?_ | with_reducible refine guardL_ndec ?_ ?_ | with_reducible refine guardQ_nb ?_ ?_ | with_reducible refine guardL_nb ?_ ?_ | with_reducible refine guardQ_split ?_ ?_ | with_reducible refine guardL_split ?_ ?_) <;> intro d1 <;> simp(maxSteps:=999999)(disch:=omega)only[go_sem,reduceAdd,reduceMul,reduceSub,reduceEqDiff,reduceLeDiff, d1])
    · ((first | with_reducible refine guardK_dec ?_ ?_ | with_reducible refine guardK_ndec ?_ ?_ | with_reducible refine guardK_nb ?_ ?_ | with_reducible refine guardK_split ?_ ?_ | with_reducible refine guardQ_dec ?_ ?_ | with_reducible refine guardL_dec ?_ ?_ | with_reducible refine guardQ_ndec ?_ ?_ | with_reducible refine guardL_ndec ?_ ?_ | with_reducible refine guardQ_nb ?_ ?_ | with_reducible refine guardL_nb ?_ ?_ | with_reducible refine guardQ_split ?_ ?_ | with_reducible refine guardL_split ?_ ?_) <;> intro d2 <;> simp(maxSteps:=999999)(disch:=omega)only[go_sem,reduceAdd,reduceMul,reduceSub,reduceEqDiff,reduceLeDiff, d2])
      · ((first | with_reducible refine condK_dec ?_ ?_ | with_reducible refine condK_ndec ?_ ?_ | with_reducible refine condK_nb ?_ ?_ | refine condK_b ?_ ?_) <;> intro d3)
        · simp(maxSteps:=999999)(disch:=omega)only[go_sem,reduceAdd,reduceMul,reduceSub,reduceEqDiff,reduceLeDiff]
          exact ⟨k + 1, ⟨⟨by omega, hgo fun h => h.2.2 d3⟩, by omega⟩, by push_cast; omega, HLe.refl _⟩
        · simp(maxSteps:=999999)(disch:=omega)only[go_sem,reduceAdd,reduceMul,reduceSub,reduceEqDiff,reduceLeDiff]
          have : clear p xs = false := by
            simp only [clear, decide_eq_false_iff_not]
            exact fun h => h k h1 ⟨d2, d1, d3⟩
          simp [fitsL, this]
      · exact ⟨k + 1, ⟨⟨by omega, hgo fun h => d2 h.1⟩, by omega⟩, by push_cast; omega, HLe.refl _⟩
    · exact ⟨k + 1, ⟨⟨by omega, hgo fun h => d1 h.2.1⟩, by omega⟩, by push_cast; omega, HLe.refl _⟩
  · have hcl : clear p xs = true := by
      simp only [clear, decide_eq_true_eq]
      exact fun j hj => hno j (by omega)
    simp(maxSteps:=999999)(disch:=omega)only[go_sem,reduceAdd,reduceMul,reduceSub,reduceEqDiff,reduceLeDiff]
    refine loop_rule (fun k : Nat => p.rules.length - k) (fun k => k ≤ p.rules.length ∧ ∀ j : Nat, j < k → canHold (nth p.rules j) xs n = true) (fun k => [.a, .k, .k, .a, .a, .a, .a, .a, .a, .a, .a, .a, .a, .a, .a, .a, .a, .a, .a, .a, .a, .a, .a, .a, .a, .a, .a, .a, .a, .a, .a, .a, .a, .a, .a, .a, .a, .a, .a, .a, .a, .a, .a, .a, .a, .a, .a, .k, .k, .p (int k), .a, .a, .a, .a, .a, .a, .a, .a, .a, .a]) (fun _ => [some ⟨g, 1, cP p⟩]) 0 ⟨Nat.zero_le _, fun j hj => absurd hj (Nat.not_lt_zero _)⟩ (by simp(maxSteps:=999999)(disch:=omega)only[go_sem,reduceAdd,reduceMul,reduceSub,reduceEqDiff,reduceLeDiff]; rfl) (HLe.refl _) ?_
    rintro i ⟨hi, hyes⟩
    simp(maxSteps:=999999)(disch:=omega)only[go_sem,reduceAdd,reduceMul,reduceSub,reduceEqDiff,reduceLeDiff]
    ((first | with_reducible refine condK_dec ?_ ?_ | with_reducible refine condK_ndec ?_ ?_ | with_reducible refine condK_nb ?_ ?_ | refine condK_b ?_ ?_) <;> intro h2)
    · have h2 : i < p.rules.length := by omega
      have hmem : nth p.rules i ∈ p.rules := nth_mem h2
      simp(maxSteps:=999999)(disch:=omega)only[go_sem,reduceAdd,reduceMul,reduceSub,reduceEqDiff,reduceLeDiff]
      intro g2
      have hch := canHold_run hn (nth p.rules i) xs (hp.rv _ hmem) hg
      rw [← hz] at hch
      first | refine OpS.rd (hch) (⟨_, Try.func123, rfl, rfl⟩ : Enters Try.prog 123) rfl rfl rfl rfl ?_ | refine Loud.rd (hch) (⟨_, Try.func123, rfl, rfl⟩ : Enters Try.prog 123) rfl rfl rfl rfl ?_
      simp(maxSteps:=999999)(disch:=omega)only[go_sem,reduceAdd,reduceMul,reduceSub,reduceEqDiff,reduceLeDiff]
      ((first | with_reducible refine condK_dec ?_ ?_ | with_reducible refine condK_ndec ?_ ?_ | with_reducible refine condK_nb ?_ ?_ | refine condK_b ?_ ?_) <;> intro h3)
      · simp(maxSteps:=999999)(disch:=omega)only[go_sem,reduceAdd,reduceMul,reduceSub,reduceEqDiff,reduceLeDiff]
        refine ⟨i + 1, ⟨⟨by omega, fun j hj => ?_⟩, by omega⟩, by push_cast; omega, HLe.app _ _⟩
        by_cases hji : j = i
        · rw [hji]; exact h3
        · exact hyes j (by omega)
      · simp(maxSteps:=999999)(disch:=omega)only[go_sem,reduceAdd,reduceMul,reduceSub,reduceEqDiff,reduceLeDiff]
        have : p.rules.all (fun r => canHold r xs n) = false := by
          rw [List.all_eq_false]
          exact ⟨_, hmem, by rw [h3]; simp⟩
        simp [fitsL, this]
    · have hall : p.rules.all (fun r => canHold r xs n) = true := by
        rw [List.all_eq_true]
        intro r hr
        obtain ⟨j, hj, rfl⟩ := List.mem_iff_getElem.1 hr
        have := hyes j (by omega)
        rwa [nth_eq (by omega)] at this
      simp(maxSteps:=999999)(disch:=omega)only[go_sem,reduceAdd,reduceMul,reduceSub,reduceEqDiff,reduceLeDiff]
      simp [fitsL, hcl, hall, c2]
end Go.Lg
