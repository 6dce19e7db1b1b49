/- GpI2, GpDF, GpDG, cut to what is needed. -/
import Derived.Test.YtfkhojmllokgoaaDoorZab5
import Derived.Test.YtfkhojmllokgoaaDoorZac3
open Nat renaming reduceAdd → zA, reduceMul → zM, reduceSub → zS, reduceEqDiff → zE, reduceLeDiff → zL
set_option linter.unusedSimpArgs false
set_option linter.unusedVariables false
set_option maxRecDepth 100000
namespace Go.Lg
open Go.Proofs
def puzzleValid (p : Puz) : Bool := gridValid p.given p.size && (decide (p.rules.length ≤ 20) && p.rules.all fun r => ruleValid r p.size)
theorem PuzzleValid_run (p : Puz) (hx : smP p) : Reads Tryd.prog 42 [aP p] (bool (puzzleValid p)) := by
  obtain ⟨hx1, hx2, hx3⟩ := hx
  refine RunCall.cw (c := _) Tryd.func42 rfl (n := 30) Tryd.ntmps42 (rs := [.tmp 2]) rfl ?_
  simp only[List.length_cons,List.length_nil,zA,zS,List.replicate,List.cons_append,List.nil_append]
  simp(maxSteps:=999999)(disch:=omega)only[go_sem,zA,zM,zS,zE,zL]
  intro g
  first | refine OpS.rd (GridValid_run p.given p.size (by omega)) (⟨_, Tryd.func53, rfl, rfl⟩ : Enters Tryd.prog 53) rfl rfl rfl rfl ?_ | refine Loud.rd (GridValid_run p.given p.size (by omega)) (⟨_, Tryd.func53, rfl, rfl⟩ : Enters Tryd.prog 53) rfl rfl rfl rfl ?_
  simp(maxSteps:=999999)(disch:=omega)only[go_sem,zA,zM,zS,zE,zL]
  ((with_reducible first|refine guardK_dec ?_ ?_|refine guardK_ndec ?_ ?_|refine guardK_nb ?_ ?_|refine guardK_split ?_ ?_|refine guardQ_dec ?_ ?_|refine guardL_dec ?_ ?_|refine guardQ_ndec ?_ ?_|refine guardL_ndec ?_ ?_|refine guardQ_nb ?_ ?_|refine guardL_nb ?_ ?_|refine guardQ_split ?_ ?_|refine guardL_split ?_ ?_) <;> intro hv <;> simp(maxSteps:=999999)(disch:=omega)only[go_sem,zA,zM,zS,zE,zL, hv])
  rotate_left
  · simp [puzzleValid, hv]
  ((first|(with_reducible first|refine condK_dec ?_ ?_|refine condK_ndec ?_ ?_|refine condK_nb ?_ ?_)|refine condK_b ?_ ?_) <;> intro h20)
  · simp(maxSteps:=999999)(disch:=omega)only[go_sem,zA,zM,zS,zE,zL]
    symm; simp only [puzzleValid, hv, Bool.true_and, Bool.and_eq_false_iff, decide_eq_false_iff_not]; exact .inl (by omega)
  simp(maxSteps:=999999)(disch:=omega)only[go_sem,zA,zM,zS,zE,zL]
  refine loop_rule (fun i : Nat => p.rules.length - i) (fun i => i ≤ p.rules.length ∧ ∀ j : Nat, j < i → ruleValid (nth p.rules j) p.size = true) (fun i => [.a, .k, .a, .a, .a, .a, .a, .a, .a, .a, .a, .a, .a, .a, .a, .a, .a, .a, .k, .k, .p (int i), .a, .a, .a, .a, .a, .a, .a, .a, .a]) (fun _ => [some ⟨g, 1, cP p⟩]) 0
    ⟨Nat.zero_le _, fun j hj => absurd hj (Nat.not_lt_zero _)⟩ (by simp(maxSteps:=999999)(disch:=omega)only[go_sem,zA,zM,zS,zE,zL]; rfl) (HLe.refl _) ?_
  rintro i ⟨hi, hall⟩
  simp(maxSteps:=999999)(disch:=omega)only[go_sem,zA,zM,zS,zE,zL]
  ((first|(with_reducible first|refine condK_dec ?_ ?_|refine condK_ndec ?_ ?_|refine condK_nb ?_ ?_)|refine condK_b ?_ ?_) <;> intro h)
  · have h : i < p.rules.length := by omega
    simp(maxSteps:=999999)(disch:=omega)only[go_sem,zA,zM,zS,zE,zL]
    intro g2
    first | refine OpS.rd (RuleValid_run (nth p.rules i) p.size (hx3 _ (nth_mem h))) (⟨_, Tryd.func37, rfl, rfl⟩ : Enters Tryd.prog 37) rfl rfl rfl rfl ?_ | refine Loud.rd (RuleValid_run (nth p.rules i) p.size (hx3 _ (nth_mem h))) (⟨_, Tryd.func37, rfl, rfl⟩ : Enters Tryd.prog 37) rfl rfl rfl rfl ?_
    simp(maxSteps:=999999)(disch:=omega)only[go_sem,zA,zM,zS,zE,zL]
    ((first|(with_reducible first|refine condK_dec ?_ ?_|refine condK_ndec ?_ ?_|refine condK_nb ?_ ?_)|refine condK_b ?_ ?_) <;> intro h2)
    · simp(maxSteps:=999999)(disch:=omega)only[go_sem,zA,zM,zS,zE,zL]
      exact ⟨i + 1, ⟨⟨h, all_step hall h2⟩, by omega⟩, by omega, hle_self _ _ _ (hle_nil _)⟩
    · simp(maxSteps:=999999)(disch:=omega)only[go_sem,zA,zM,zS,zE,zL]
      symm; simp only [puzzleValid, Bool.and_eq_false_iff]; exact .inr (.inr (all_no h h2))
  · simp(maxSteps:=999999)(disch:=omega)only[go_sem,zA,zM,zS,zE,zL]
    symm; simp only [puzzleValid, Bool.and_eq_true, decide_eq_true_eq]
    exact ⟨hv, by omega, all_nth.2 fun j hj => hall j (by omega)⟩
theorem sPuzzleValid_run (p : Puz) (hx : smP p) : Reads Tryd.prog 25 [aP p] (bool (puzzleValid p)) := by
  obtain ⟨hx1, hx2, hx3⟩ := hx
  refine RunCall.cw (c := _) Tryd.func25 rfl (n := 31) Tryd.ntmps25 (rs := [.tmp 2]) rfl ?_
  simp only[List.length_cons,List.length_nil,zA,zS,List.replicate,List.cons_append,List.nil_append]
  simp(maxSteps:=999999)(disch:=omega)only[go_sem,zA,zM,zS,zE,zL]
  intro g
  refine loop_rule (fun i : Nat => p.rules.length - i) (fun i => i ≤ p.rules.length ∧ ∀ j : Nat, j < i → ruleValid (nth p.rules j) p.size = true) (fun i => [.a, .k, .a, .p (int i), .a, .a, .a, .a, .a, .a, .a, .a, .a, .a, .a, .a, .a, .a, .a, .a, .a, .a, .a, .a, .a, .a, .a, .a, .a, .a, .a]) (fun _ => [some ⟨g, 1, cP p⟩]) 0
    ⟨Nat.zero_le _, fun j hj => absurd hj (Nat.not_lt_zero _)⟩ (by simp(maxSteps:=999999)(disch:=omega)only[go_sem,zA,zM,zS,zE,zL]; rfl) (HLe.refl _) ?_
  rintro i ⟨hi, hall⟩
  simp(maxSteps:=999999)(disch:=omega)only[go_sem,zA,zM,zS,zE,zL]
  ((first|(with_reducible first|refine condK_dec ?_ ?_|refine condK_ndec ?_ ?_|refine condK_nb ?_ ?_)|refine condK_b ?_ ?_) <;> intro h)
  · have h : i < p.rules.length := by omega
    simp(maxSteps:=999999)(disch:=omega)only[go_sem,zA,zM,zS,zE,zL]
    refine drawP_q foll (by kernel_rfl) ?_
    simp(maxSteps:=999999)(disch:=omega)only[go_sem,Nat.reduceBEq,Bool.true_or,zA,zM,zS,zE,zL]
    refine quietW.rd (sRuleValid_run (nth p.rules i) p.size (hx3 _ (nth_mem h))) (⟨_, Tryd.func34, rfl, rfl⟩ : Enters Tryd.prog 34) rfl rfl rfl rfl ?_
    simp(maxSteps:=999999)(disch:=omega)only[go_sem,zA,zM,zS,zE,zL]
    ((first|(with_reducible first|refine condK_dec ?_ ?_|refine condK_ndec ?_ ?_|refine condK_nb ?_ ?_)|refine condK_b ?_ ?_) <;> intro h2)
    · simp(maxSteps:=999999)(disch:=omega)only[go_sem,zA,zM,zS,zE,zL]
      exact ⟨i + 1, ⟨⟨h, all_step hall h2⟩, by omega⟩, by omega, HLe.refl _⟩
    · simp(maxSteps:=999999)(disch:=omega)only[go_sem,zA,zM,zS,zE,zL]
      symm; simp only [puzzleValid, Bool.and_eq_false_iff]; exact .inr (.inr (all_no h h2))
  · simp(maxSteps:=999999)(disch:=omega)only[go_sem,zA,zM,zS,zE,zL]
    have ha : (p.rules.all fun r => ruleValid r p.size) = true := all_nth.2 fun j hj => hall j (by omega)
    first | refine OpS.rd (sGridValid_run p.given p.size (by omega)) (⟨_, Tryd.func46, rfl, rfl⟩ : Enters Tryd.prog 46) rfl rfl rfl rfl ?_ | refine Loud.rd (sGridValid_run p.given p.size (by omega)) (⟨_, Tryd.func46, rfl, rfl⟩ : Enters Tryd.prog 46) rfl rfl rfl rfl ?_
    simp(maxSteps:=999999)(disch:=omega)only[go_sem,zA,zM,zS,zE,zL]
    ((with_reducible first|refine guardK_dec ?_ ?_|refine guardK_ndec ?_ ?_|refine guardK_nb ?_ ?_|refine guardK_split ?_ ?_|refine guardQ_dec ?_ ?_|refine guardL_dec ?_ ?_|refine guardQ_ndec ?_ ?_|refine guardL_ndec ?_ ?_|refine guardQ_nb ?_ ?_|refine guardL_nb ?_ ?_|refine guardQ_split ?_ ?_|refine guardL_split ?_ ?_) <;> intro hv <;> simp(maxSteps:=999999)(disch:=omega)only[go_sem,zA,zM,zS,zE,zL, hv])
    · simp only [puzzleValid, hv, ha, Bool.true_and, Bool.and_true, decide_eq_decide]; omega
    · simp [puzzleValid, hv]
end Go.Lg

namespace Go.Lg
open Go.Proofs
structure PuzN (p : Puz) (n : Nat) : Prop where
  hn : n = 2 ∨ n = 3 ∨ n = 4
  size : p.size = n
  len : p.given.length = n * n
  rl : p.rules.length ≤ 40
  rv : ∀ r ∈ p.rules, ruleValid r n = true
theorem PuzN.of {p : Puz} (h : puzzleValid p = true) : PuzN p p.size.toNat ∧ ((p.size.toNat : Nat) : Int) = p.size := by
  simp only [puzzleValid, Bool.and_eq_true, decide_eq_true_eq, List.all_eq_true] at h
  obtain ⟨h1, h2, h3⟩ := h
  have hb := gridValid_bound h1
  have hs : ((p.size.toNat : Nat) : Int) = p.size := by omega
  have hn : p.size.toNat = 2 ∨ p.size.toNat = 3 ∨ p.size.toNat = 4 := by omega
  refine ⟨⟨hn, hs.symm, ?_, by omega, fun r hr => by rw [hs]; exact h3 r hr⟩, hs⟩
  have := hb.2.2.1
  rw [← hs] at this
  exact_mod_cast this
structure GrdN (xs : List Int) (n : Nat) : Prop where
  len : xs.length = n * n
  val : ∀ k : Nat, k < xs.length → 0 ≤ nth xs k ∧ nth xs k ≤ n
theorem GrdN.valid {xs : List Int} {n : Nat} (hn : n = 2 ∨ n = 3 ∨ n = 4) (h : GrdN xs n) : gridValid xs n = true := by
  simp only [gridValid, decide_eq_true_eq]
  refine ⟨by omega, by omega, by rw [h.len]; push_cast; rfl, h.val⟩
theorem GrdN.of {xs : List Int} {n : Nat} (hn : n = 2 ∨ n = 3 ∨ n = 4) (h : gridValid xs n = true) : GrdN xs n := by
  have hb := gridValid_bound h
  exact ⟨by have := hb.2.2.1; rcases hn with rfl | rfl | rfl <;> omega, hb.2.2.2.2⟩
theorem l5Fits_run {p : Puz} {n : Nat} (hp : PuzN p n) (xs : List Int) (hg : GrdN xs n) : Reads Tryd.prog 86 [aP p, ints xs] (bool (fitsL p xs n)) := by
  have hn := hp.hn
  have hz := hp.size
  have hgl := hp.len
  have hxl := hg.len
  have hrl := hp.rl
  have hsq : n * n ≤ 16 := by rcases hn with rfl | rfl | rfl <;> omega
  have hgv := hg.valid hn
  refine RunCall.cw (c := _) Tryd.func86 rfl (n := 60) Tryd.ntmps86 (rs := [.tmp 4]) rfl ?_
  simp only[List.length_cons,List.length_nil,zA,zS,List.replicate,List.cons_append,List.nil_append]
  simp(maxSteps:=999999)(disch:=omega)only[go_sem,zA,zM,zS,zE,zL]
  intro g
  refine loop_rule (fun k : Nat => xs.length - k) (fun k => k ≤ xs.length ∧ ∀ j : Nat, j < k → ¬ (0 < nth p.given j ∧ 0 < nth xs j ∧ nth xs j ≠ nth p.given j)) (fun k => [.a, .k, .k, .a, .a, .p (int k), .a, .a, .a, .a, .a, .a, .a, .a, .a, .a, .a, .a, .a, .a, .a, .a, .a, .a, .a, .a, .a, .a, .a, .a, .a, .a, .a, .a, .a, .a, .a, .a, .a, .a, .a, .a, .a, .a, .a, .a, .a, .a, .a, .a, .a, .a, .a, .a, .a, .a, .a, .a, .a, .a]) (fun _ => [some ⟨g, 1, cP p⟩]) 0 ⟨Nat.zero_le _, fun j hj => absurd hj (Nat.not_lt_zero _)⟩ (by simp(maxSteps:=999999)(disch:=omega)only[go_sem,zA,zM,zS,zE,zL]; rfl) (HLe.refl _) ?_
  rintro k ⟨hk, hno⟩
  simp(maxSteps:=999999)(disch:=omega)only[go_sem,zA,zM,zS,zE,zL]
  ((first|(with_reducible first|refine condK_dec ?_ ?_|refine condK_ndec ?_ ?_|refine condK_nb ?_ ?_)|refine condK_b ?_ ?_) <;> intro h1)
  · have h1 : k < xs.length := by omega
    have hbad : (0 < nth p.given k ∧ 0 < nth xs k ∧ nth xs k ≠ nth p.given k) → false = fitsL p xs n := fun hb => by
      have : clear p xs = false := by
        simp only [clear, decide_eq_false_iff_not]
        exact fun h => h k h1 hb
      simp [fitsL, this]
    simp(maxSteps:=999999)(disch:=omega)only[go_sem,zA,zM,zS,zE,zL]
    have hgo : ¬ (0 < nth p.given k ∧ 0 < nth xs k ∧ nth xs k ≠ nth p.given k) → ∀ j : Nat, j < k + 1 → ¬ (0 < nth p.given j ∧ 0 < nth xs j ∧ nth xs j ≠ nth p.given j) := fun h j hj => by
      by_cases hjk : j = k
      · rw [hjk]; exact h
      · exact hno j (by omega)
    by_cases a : 0 < nth p.given k
    · by_cases b : 0 < nth xs k
      · by_cases c : nth xs k = nth p.given k
        · refine drawP_q foll (by kernel_rfl) ?_
          simp(maxSteps:=999999)(disch:=omega)only[go_sem,zA,zM,zS,zE,zL, lt_yes, lt_no, eq_yes, eq_no]
          exact ⟨k + 1, ⟨⟨by omega, hgo fun h => h.2.2 c⟩, by omega⟩, by push_cast; omega, HLe.refl _⟩
        · refine drawP_q foll (by kernel_rfl) ?_
          simp(maxSteps:=999999)(disch:=omega)only[go_sem,zA,zM,zS,zE,zL, lt_yes, lt_no, eq_yes, eq_no]
          exact hbad ⟨a, b, c⟩
      · refine drawP_q foll (by kernel_rfl) ?_
        simp(maxSteps:=999999)(disch:=omega)only[go_sem,zA,zM,zS,zE,zL, lt_yes, lt_no, eq_yes, eq_no]
        exact ⟨k + 1, ⟨⟨by omega, hgo fun h => b h.2.1⟩, by omega⟩, by push_cast; omega, HLe.refl _⟩
    · refine drawP_q foll (by kernel_rfl) ?_
      simp(maxSteps:=999999)(disch:=omega)only[go_sem,zA,zM,zS,zE,zL, lt_yes, lt_no, eq_yes, eq_no]
      exact ⟨k + 1, ⟨⟨by omega, hgo fun h => a h.1⟩, by omega⟩, by push_cast; omega, HLe.refl _⟩
  · have hcl : clear p xs = true := by
      simp only [clear, decide_eq_true_eq]
      exact fun j hj => hno j (by omega)
    simp(maxSteps:=999999)(disch:=omega)only[go_sem,zA,zM,zS,zE,zL]
    refine loop_rule (fun k : Nat => p.rules.length - k) (fun k => k ≤ p.rules.length ∧ ∀ j : Nat, j < k → canHold (nth p.rules j) xs n = true) (fun k => [.a, .k, .k, .a, .a, .a, .p (int k), .a, .a, .a, .a, .a, .a, .a, .a, .a, .a, .a, .a, .a, .a, .a, .a, .a, .a, .a, .a, .a, .a, .a, .a, .a, .a, .a, .a, .a, .a, .a, .a, .a, .a, .a, .a, .a, .a, .a, .a, .a, .a, .a, .a, .a, .a, .a, .a, .a, .a, .a, .a, .a]) (fun _ => [some ⟨g, 1, cP p⟩]) 0 ⟨Nat.zero_le _, fun j hj => absurd hj (Nat.not_lt_zero _)⟩ (by simp(maxSteps:=999999)(disch:=omega)only[go_sem,zA,zM,zS,zE,zL]; rfl) (HLe.refl _) ?_
    rintro i ⟨hi, hyes⟩
    simp(maxSteps:=999999)(disch:=omega)only[go_sem,zA,zM,zS,zE,zL]
    ((first|(with_reducible first|refine condK_dec ?_ ?_|refine condK_ndec ?_ ?_|refine condK_nb ?_ ?_)|refine condK_b ?_ ?_) <;> intro h2)
    · have h2 : i < p.rules.length := by omega
      have hmem : nth p.rules i ∈ p.rules := nth_mem h2
      simp(maxSteps:=999999)(disch:=omega)only[go_sem,zA,zM,zS,zE,zL]
      refine drawP_lM [0, 1, 2, 3, 4, 5, 6, 7] [] none [8, 9] [] [0, 1, 0, 7, 15, 0, 0, 64, 255, 511] foll (by kernel_rfl) ?_
      simp(maxSteps:=999999)(disch:=omega)only[go_sem,Nat.reduceBEq,Bool.true_or,zA,zM,zS,zE,zL]
      have hrp := sRulePossible_run hn (nth p.rules i) xs (hp.rv _ hmem) hgv
      rw [← hz] at hrp
      first | refine OpS.rd (hrp) (⟨_, Tryd.func98, rfl, rfl⟩ : Enters Tryd.prog 98) rfl rfl rfl rfl ?_ | refine Loud.rd (hrp) (⟨_, Tryd.func98, rfl, rfl⟩ : Enters Tryd.prog 98) rfl rfl rfl rfl ?_
      simp(maxSteps:=999999)(disch:=omega)only[go_sem,zA,zM,zS,zE,zL]
      ((first|(with_reducible first|refine condK_dec ?_ ?_|refine condK_ndec ?_ ?_|refine condK_nb ?_ ?_)|refine condK_b ?_ ?_) <;> intro h3)
      · simp(maxSteps:=999999)(disch:=omega)only[go_sem,zA,zM,zS,zE,zL]
        refine ⟨i + 1, ⟨⟨by omega, fun j hj => ?_⟩, by omega⟩, by push_cast; omega, HLe.refl _⟩
        by_cases hji : j = i
        · rw [hji]; exact h3
        · exact hyes j (by omega)
      · simp(maxSteps:=999999)(disch:=omega)only[go_sem,zA,zM,zS,zE,zL]
        have : p.rules.all (fun r => canHold r xs n) = false := by
          rw [List.all_eq_false]
          exact ⟨_, hmem, by rw [h3]; simp⟩
        simp [fitsL, this]
    · have hall : p.rules.all (fun r => canHold r xs n) = true := by
        rw [List.all_eq_true]
        intro r hr
        obtain ⟨j, hj, rfl⟩ := List.mem_iff_getElem.1 hr
        have := hyes j (by omega)
        rwa [nth_eq (by omega)] at this
      simp(maxSteps:=999999)(disch:=omega)only[go_sem,zA,zM,zS,zE,zL]
      have hcr := l2Clash_run hn xs hxl (fun k hk => by have := hg.val k hk; omega)
      rw [← hz] at hcr
      first | refine OpS.rd (hcr) (⟨_, Tryd.func97, rfl, rfl⟩ : Enters Tryd.prog 97) rfl rfl rfl rfl ?_ | refine Loud.rd (hcr) (⟨_, Tryd.func97, rfl, rfl⟩ : Enters Tryd.prog 97) rfl rfl rfl rfl ?_
      simp(maxSteps:=999999)(disch:=omega)only[go_sem,zA,zM,zS,zE,zL]
      simp [fitsL, hcl, hall]
end Go.Lg

namespace Go.Lg
open Go.Proofs
theorem sPuzzleFits_run (p : Puz) (xs : List Int) (hx : smP p) (hl : xs.length ≤ 2 ^ 40) : Reads Tryd.prog 73 [aP p, ints xs] (bool (puzzleValid p && (gridValid xs p.size && fitsL p xs p.size.toNat))) := by
  refine RunCall.cw (c := _) Tryd.func73 rfl (n := 18) Tryd.ntmps73 (rs := [.tmp 4]) rfl ?_
  simp only[List.length_cons,List.length_nil,zA,zS,List.replicate,List.cons_append,List.nil_append]
  simp(maxSteps:=999999)(disch:=omega)only[go_sem,zA,zM,zS,zE,zL]
  intro g
  first | refine OpS.rd (sPuzzleValid_run p hx) (⟨_, Tryd.func25, rfl, rfl⟩ : Enters Tryd.prog 25) rfl rfl rfl rfl ?_ | refine Loud.rd (sPuzzleValid_run p hx) (⟨_, Tryd.func25, rfl, rfl⟩ : Enters Tryd.prog 25) rfl rfl rfl rfl ?_
  simp(maxSteps:=999999)(disch:=omega)only[go_sem,zA,zM,zS,zE,zL]
  cases h1 : puzzleValid p with
  | false =>
    simp(maxSteps:=999999)(disch:=omega)only[go_sem,zA,zM,zS,zE,zL]
    rfl
  | true =>
    simp(maxSteps:=999999)(disch:=omega)only[go_sem,zA,zM,zS,zE,zL]
    first | refine OpS.rd (sGridValid_run xs p.size hl) (⟨_, Tryd.func46, rfl, rfl⟩ : Enters Tryd.prog 46) rfl rfl rfl rfl ?_ | refine Loud.rd (sGridValid_run xs p.size hl) (⟨_, Tryd.func46, rfl, rfl⟩ : Enters Tryd.prog 46) rfl rfl rfl rfl ?_
    simp(maxSteps:=999999)(disch:=omega)only[go_sem,zA,zM,zS,zE,zL]
    cases h2 : gridValid xs p.size with
    | false =>
      simp(maxSteps:=999999)(disch:=omega)only[go_sem,zA,zM,zS,zE,zL]
      rfl
    | true =>
      obtain ⟨hp, hs⟩ := PuzN.of h1
      have hg := GrdN.of hp.hn (by rw [hs]; exact h2)
      simp(maxSteps:=999999)(disch:=omega)only[go_sem,zA,zM,zS,zE,zL]
      first | refine OpS.rd (l5Fits_run hp xs hg) (⟨_, Tryd.func86, rfl, rfl⟩ : Enters Tryd.prog 86) rfl rfl rfl rfl ?_ | refine Loud.rd (l5Fits_run hp xs hg) (⟨_, Tryd.func86, rfl, rfl⟩ : Enters Tryd.prog 86) rfl rfl rfl rfl ?_
      simp(maxSteps:=999999)(disch:=omega)only[go_sem,zA,zM,zS,zE,zL]
theorem mask_get : ∀ (m : List Bool) (H : Heap) (j : Nat), (mask m H)[j]? = if m.getD j false = true then (H[j]?).map (fun _ => none) else H[j]?
  | [], H, j => by simp [mask]
  | b :: m, [], j => by cases b <;> simp [mask]
  | b :: m, x :: H, j => by
    have ih := mask_get m H
    cases b <;> cases j with
    | zero => simp [mask]
    | succ j => simp only [mask, List.getElem?_cons_succ, List.getD_cons_succ, ih j]
theorem look_mask {m : List Bool} {H : Heap} {id g : Nat} (h : m.getD id false = false) : look (mask m H) id g = look H id g := by
  unfold look
  rw [mask_get, h]
  simp
theorem okM_gen {m : List Bool} {H H' : Heap} (h : ∀ j (b : Blk), m.getD j false = false → H[j]? = some (some b) → H'[j]? = some (some b)) : okM m H H' := fun id b hb => by
  rw [mask_get] at hb ⊢
  by_cases hm : m.getD id false = true
  · rw [if_pos hm] at hb
    cases hh : H[id]? <;> simp [hh] at hb
  · rw [if_neg hm] at hb ⊢
    exact h id b (by simpa using hm) hb
def hideM (o n : Nat) (N : Nat) : List Bool := (List.range N).map fun j => decide (j = o ∨ n ≤ j)
theorem hideM_no {o n N j : Nat} (h1 : j ≠ o) (h2 : j < n) : (hideM o n N).getD j false = false := by
  by_cases h : j < N
  · simp [hideM, List.getD, h, h1, h2]
  · have : (hideM o n N)[j]? = none := List.getElem?_eq_none (by simp [hideM]; omega)
    simp [List.getD, this]
theorem hideM_yes {o n N j : Nat} (h : (hideM o n N).getD j false = false) (hj : j < N) : j ≠ o ∧ j < n := by
  simp [hideM, List.getD, hj] at h
  omega
structure OutL (H : Heap) (pid pg : Nat) (ls : List (List Int)) (S : List Nat) : Prop where
  ex : ∃ oid og cs, look H pid pg = some ⟨pg, 1, [.own oid og 0 ls.length none]⟩ ∧ look H oid og = some ⟨og, 1, cs⟩ ∧ oid ∈ S ∧ cs.length = ls.length ∧ ∀ i (h : i < ls.length), ∃ id g, cs[i]? = some (.own id g 0 ls[i].length none) ∧ look H id g = some ⟨g, 1, cl (eI .i64) ls[i]⟩ ∧ id ∈ S ∧ id ≠ oid
  pn : pid ∉ S
theorem OutL.same {H H' : Heap} {pid pg : Nat} {ls : List (List Int)} {S : List Nat} (h : OutL H pid pg ls S) (hs : ∀ i, i = pid ∨ i ∈ S → H'[i]? = H[i]?) : OutL H' pid pg ls S := by
  obtain ⟨⟨oid, og, cs, h1, h2, h3, h4, h5⟩, hn⟩ := h
  refine ⟨⟨oid, og, cs, by unfold look at *; rw [hs pid (.inl rfl)]; exact h1, by unfold look at *; rw [hs oid (.inr h3)]; exact h2, h3, h4, fun i hi => ?_⟩, hn⟩
  obtain ⟨id, g, k1, k2, k3, k4⟩ := h5 i hi
  exact ⟨id, g, k1, by unfold look at *; rw [hs id (.inr k3)]; exact k2, k3, k4⟩
end Go.Lg
