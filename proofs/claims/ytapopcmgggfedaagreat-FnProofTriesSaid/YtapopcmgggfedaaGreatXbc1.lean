/- GpI2, cut to what is needed. -/
import Derived.Test.YtapopcmgggfedaaGreatXbb9
open Nat renaming reduceAdd → zA, reduceMul → zM, reduceSub → zS, reduceEqDiff → zE, reduceLeDiff → zL
set_option linter.unusedSimpArgs false
set_option linter.unusedVariables false
set_option maxRecDepth 100000
namespace Go.Lg
open Go.Proofs
def puzzleValid (p : Puz) : Bool := gridValid p.given p.size && (decide (p.rules.length ≤ 20) && p.rules.all fun r => ruleValid r p.size)
theorem PuzzleValid_run (p : Puz) (hx : smP p) : Reads Tryz.prog 15 [aP p] (bool (puzzleValid p)) := by
  obtain ⟨hx1, hx2, hx3⟩ := hx
  refine RunCall.cw (c := _) Tryz.func15 rfl (n := 30) Tryz.ntmps15 (rs := [.tmp 2]) rfl ?_
  simp only[List.length_cons,List.length_nil,zA,zS,List.replicate,List.cons_append,List.nil_append]
  simp(maxSteps:=999999)(disch:=omega)only[go_sem,zA,zM,zS,zE,zL]
  intro g
  first | refine OpS.rd (GridValid_run p.given p.size (by omega)) (⟨_, Tryz.func27, rfl, rfl⟩ : Enters Tryz.prog 27) rfl rfl rfl rfl ?_ | refine Loud.rd (GridValid_run p.given p.size (by omega)) (⟨_, Tryz.func27, rfl, rfl⟩ : Enters Tryz.prog 27) rfl rfl rfl rfl ?_
  simp(maxSteps:=999999)(disch:=omega)only[go_sem,zA,zM,zS,zE,zL]
  ((with_reducible first|refine guardK_dec ?_ ?_|refine guardK_ndec ?_ ?_|refine guardK_nb ?_ ?_|refine guardK_split ?_ ?_|refine guardQ_dec ?_ ?_|refine guardL_dec ?_ ?_|refine guardQ_ndec ?_ ?_|refine guardL_ndec ?_ ?_|refine guardQ_nb ?_ ?_|refine guardL_nb ?_ ?_|refine guardQ_split ?_ ?_|refine guardL_split ?_ ?_) <;> intro hv <;> simp(maxSteps:=999999)(disch:=omega)only[go_sem,zA,zM,zS,zE,zL, hv])
  rotate_left
  · simp [puzzleValid, hv]
  ((first|(with_reducible first|refine condK_dec ?_ ?_|refine condK_ndec ?_ ?_|refine condK_nb ?_ ?_)|refine condK_b ?_ ?_) <;> intro h20)
  · simp(maxSteps:=999999)(disch:=omega)only[go_sem,zA,zM,zS,zE,zL]
    symm; simp only [puzzleValid, hv, Bool.true_and, Bool.and_eq_false_iff, decide_eq_false_iff_not]; exact .inl (by omega)
  simp(maxSteps:=999999)(disch:=omega)only[go_sem,zA,zM,zS,zE,zL]
  refine loop_rule (fun i : Nat => p.rules.length - i) (fun i => i ≤ p.rules.length ∧ ∀ j : Nat, j < i → ruleValid (nth p.rules j) p.size = true) (fun i => [.a, .k, .a, .a, .a, .a, .a, .a, .a, .a, .a, .a, .a, .a, .a, .a, .a, .a, .k, .k, .p (int i), .a, .a, .a, .a, .a, .a, .a, .a, .a]) (fun _ => [some ⟨g, 1, cP p⟩]) 0
    ⟨Nat.zero_le _, fun j hj => absurd hj (Nat.not_lt_zero _)⟩ (by simp(maxSteps:=999999)(disch:=omega)only[go_sem,zA,zM,zS,zE,zL]; rfl) (HLe.refl _) ?_
  rintro i ⟨hi, hall⟩
  simp(maxSteps:=999999)(disch:=omega)only[go_sem,zA,zM,zS,zE,zL]
  ((first|(with_reducible first|refine condK_dec ?_ ?_|refine condK_ndec ?_ ?_|refine condK_nb ?_ ?_)|refine condK_b ?_ ?_) <;> intro h)
  · have h : i < p.rules.length := by omega
    simp(maxSteps:=999999)(disch:=omega)only[go_sem,zA,zM,zS,zE,zL]
    intro g2
    first | refine OpS.rd (RuleValid_run (nth p.rules i) p.size (hx3 _ (nth_mem h))) (⟨_, Tryz.func28, rfl, rfl⟩ : Enters Tryz.prog 28) rfl rfl rfl rfl ?_ | refine Loud.rd (RuleValid_run (nth p.rules i) p.size (hx3 _ (nth_mem h))) (⟨_, Tryz.func28, rfl, rfl⟩ : Enters Tryz.prog 28) rfl rfl rfl rfl ?_
    simp(maxSteps:=999999)(disch:=omega)only[go_sem,zA,zM,zS,zE,zL]
    ((first|(with_reducible first|refine condK_dec ?_ ?_|refine condK_ndec ?_ ?_|refine condK_nb ?_ ?_)|refine condK_b ?_ ?_) <;> intro h2)
    · simp(maxSteps:=999999)(disch:=omega)only[go_sem,zA,zM,zS,zE,zL]
      exact ⟨i + 1, ⟨⟨h, all_step hall h2⟩, by omega⟩, by omega, hle_self _ _ _ (hle_nil _)⟩
    · simp(maxSteps:=999999)(disch:=omega)only[go_sem,zA,zM,zS,zE,zL]
      symm; simp only [puzzleValid, Bool.and_eq_false_iff]; exact .inr (.inr (all_no h h2))
  · simp(maxSteps:=999999)(disch:=omega)only[go_sem,zA,zM,zS,zE,zL]
    symm; simp only [puzzleValid, Bool.and_eq_true, decide_eq_true_eq]
    exact ⟨hv, by omega, all_nth.2 fun j hj => hall j (by omega)⟩
theorem sPuzzleValid_run (p : Puz) (hx : smP p) : Reads Tryz.prog 26 [aP p] (bool (puzzleValid p)) := by
  obtain ⟨hx1, hx2, hx3⟩ := hx
  refine RunCall.cw (c := _) Tryz.func26 rfl (n := 31) Tryz.ntmps26 (rs := [.tmp 2]) rfl ?_
  simp only[List.length_cons,List.length_nil,zA,zS,List.replicate,List.cons_append,List.nil_append]
  simp(maxSteps:=999999)(disch:=omega)only[go_sem,zA,zM,zS,zE,zL]
  intro g
  refine loop_rule (fun i : Nat => p.rules.length - i) (fun i => i ≤ p.rules.length ∧ ∀ j : Nat, j < i → ruleValid (nth p.rules j) p.size = true) (fun i => [.a, .k, .a, .p (int i), .a, .a, .a, .a, .a, .a, .a, .a, .a, .a, .a, .a, .a, .a, .a, .a, .a, .a, .a, .a, .a, .a, .a, .a, .a, .a, .a]) (fun _ => [some ⟨g, 1, cP p⟩]) 0
    ⟨Nat.zero_le _, fun j hj => absurd hj (Nat.not_lt_zero _)⟩ (by simp(maxSteps:=999999)(disch:=omega)only[go_sem,zA,zM,zS,zE,zL]; rfl) (HLe.refl _) ?_
  rintro i ⟨hi, hall⟩
  simp(maxSteps:=999999)(disch:=omega)only[go_sem,zA,zM,zS,zE,zL]
  ((first|(with_reducible first|refine condK_dec ?_ ?_|refine condK_ndec ?_ ?_|refine condK_nb ?_ ?_)|refine condK_b ?_ ?_) <;> intro h)
  · have h : i < p.rules.length := by omega
    simp(maxSteps:=999999)(disch:=omega)only[go_sem,zA,zM,zS,zE,zL]
    refine drawP_q foll (by kernel_rfl) ?_
    simp(maxSteps:=999999)(disch:=omega)only[go_sem,Nat.reduceBEq,Bool.true_or,zA,zM,zS,zE,zL]
    refine quietW.rd (sRuleValid_run (nth p.rules i) p.size (hx3 _ (nth_mem h))) (⟨_, Tryz.func49, rfl, rfl⟩ : Enters Tryz.prog 49) rfl rfl rfl rfl ?_
    simp(maxSteps:=999999)(disch:=omega)only[go_sem,zA,zM,zS,zE,zL]
    ((first|(with_reducible first|refine condK_dec ?_ ?_|refine condK_ndec ?_ ?_|refine condK_nb ?_ ?_)|refine condK_b ?_ ?_) <;> intro h2)
    · simp(maxSteps:=999999)(disch:=omega)only[go_sem,zA,zM,zS,zE,zL]
      exact ⟨i + 1, ⟨⟨h, all_step hall h2⟩, by omega⟩, by omega, HLe.refl _⟩
    · simp(maxSteps:=999999)(disch:=omega)only[go_sem,zA,zM,zS,zE,zL]
      symm; simp only [puzzleValid, Bool.and_eq_false_iff]; exact .inr (.inr (all_no h h2))
  · simp(maxSteps:=999999)(disch:=omega)only[go_sem,zA,zM,zS,zE,zL]
    have ha : (p.rules.all fun r => ruleValid r p.size) = true := all_nth.2 fun j hj => hall j (by omega)
    first | refine OpS.rd (sGridValid_run p.given p.size (by omega)) (⟨_, Tryz.func50, rfl, rfl⟩ : Enters Tryz.prog 50) rfl rfl rfl rfl ?_ | refine Loud.rd (sGridValid_run p.given p.size (by omega)) (⟨_, Tryz.func50, rfl, rfl⟩ : Enters Tryz.prog 50) rfl rfl rfl rfl ?_
    simp(maxSteps:=999999)(disch:=omega)only[go_sem,zA,zM,zS,zE,zL]
    ((with_reducible first|refine guardK_dec ?_ ?_|refine guardK_ndec ?_ ?_|refine guardK_nb ?_ ?_|refine guardK_split ?_ ?_|refine guardQ_dec ?_ ?_|refine guardL_dec ?_ ?_|refine guardQ_ndec ?_ ?_|refine guardL_ndec ?_ ?_|refine guardQ_nb ?_ ?_|refine guardL_nb ?_ ?_|refine guardQ_split ?_ ?_|refine guardL_split ?_ ?_) <;> intro hv <;> simp(maxSteps:=999999)(disch:=omega)only[go_sem,zA,zM,zS,zE,zL, hv])
    · simp only [puzzleValid, hv, ha, Bool.true_and, Bool.and_true, decide_eq_decide]; omega
    · simp [puzzleValid, hv]
def brnOk (m : Nat) (b : Brn) : Bool := decide ((b.tech = 0 ∨ 1 ≤ b.tech ∧ b.tech ≤ 4 ∧ b.cell = 0) ∧ 0 ≤ b.cell ∧ b.cell < m)
def proofValid (p : Puz) (pf : List Brn) : Bool := puzzleValid p && (decide (pf.length ≤ 200) && pf.all (brnOk p.given.length))
theorem brn_no {p : Puz} {pf : List Brn} {i : Nat} (hi : i < pf.length) (h : ¬ (((nth pf i).tech = 0 ∨ 1 ≤ (nth pf i).tech ∧ (nth pf i).tech ≤ 4 ∧ (nth pf i).cell = 0) ∧ 0 ≤ (nth pf i).cell ∧ (nth pf i).cell < p.given.length)) : proofValid p pf = false := by
  simp only [proofValid, Bool.and_eq_false_iff]
  exact .inr (.inr (all_no hi (by simp only [brnOk, decide_eq_false_iff_not]; exact h)))
theorem ProofValid_run (p : Puz) (pf : List Brn) (hx : smP p) (hy : pf.length ≤ 2 ^ 40) : Reads Tryz.prog 12 [aP p, rsl eB pf] (bool (proofValid p pf)) := by
  have hx1 := hx.1
  refine RunCall.cw (c := _) Tryz.func12 rfl (n := 53) Tryz.ntmps12 (rs := [.tmp 4]) rfl ?_
  simp only[List.length_cons,List.length_nil,zA,zS,List.replicate,List.cons_append,List.nil_append]
  simp(maxSteps:=999999)(disch:=omega)only[go_sem,zA,zM,zS,zE,zL]
  intro g
  first | refine OpS.rd (PuzzleValid_run p hx) (⟨_, Tryz.func15, rfl, rfl⟩ : Enters Tryz.prog 15) rfl rfl rfl rfl ?_ | refine Loud.rd (PuzzleValid_run p hx) (⟨_, Tryz.func15, rfl, rfl⟩ : Enters Tryz.prog 15) rfl rfl rfl rfl ?_
  simp(maxSteps:=999999)(disch:=omega)only[go_sem,zA,zM,zS,zE,zL]
  ((with_reducible first|refine guardK_dec ?_ ?_|refine guardK_ndec ?_ ?_|refine guardK_nb ?_ ?_|refine guardK_split ?_ ?_|refine guardQ_dec ?_ ?_|refine guardL_dec ?_ ?_|refine guardQ_ndec ?_ ?_|refine guardL_ndec ?_ ?_|refine guardQ_nb ?_ ?_|refine guardL_nb ?_ ?_|refine guardQ_split ?_ ?_|refine guardL_split ?_ ?_) <;> intro hv <;> simp(maxSteps:=999999)(disch:=omega)only[go_sem,zA,zM,zS,zE,zL, hv])
  rotate_left
  · simp [proofValid, hv]
  ((first|(with_reducible first|refine condK_dec ?_ ?_|refine condK_ndec ?_ ?_|refine condK_nb ?_ ?_)|refine condK_b ?_ ?_) <;> intro h200)
  · simp(maxSteps:=999999)(disch:=omega)only[go_sem,zA,zM,zS,zE,zL]
    symm; simp only [proofValid, hv, Bool.true_and, Bool.and_eq_false_iff, decide_eq_false_iff_not]; exact .inl (by omega)
  simp(maxSteps:=999999)(disch:=omega)only[go_sem,zA,zM,zS,zE,zL]
  refine loop_rule (fun i : Nat => pf.length - i) (fun i => i ≤ pf.length ∧ ∀ j : Nat, j < i → brnOk p.given.length (nth pf j) = true) (fun i => [.a, .a, .k, .a, .a, .a, .a, .a, .a, .a, .a, .a, .a, .a, .a, .k, .k, .p (int i), .a, .a, .a, .a, .a, .a, .a, .a, .a, .a, .a, .a, .a, .a, .a, .a, .a, .a, .a, .a, .a, .a, .a, .a, .a, .a, .a, .a, .a, .a, .a, .a, .a, .a, .a]) (fun _ => [some ⟨g, 1, cP p⟩]) 0
    ⟨Nat.zero_le _, fun j hj => absurd hj (Nat.not_lt_zero _)⟩ (by simp(maxSteps:=999999)(disch:=omega)only[go_sem,zA,zM,zS,zE,zL]; rfl) (HLe.refl _) ?_
  rintro i ⟨hi, hall⟩
  simp(maxSteps:=999999)(disch:=omega)only[go_sem,zA,zM,zS,zE,zL]
  ((first|(with_reducible first|refine condK_dec ?_ ?_|refine condK_ndec ?_ ?_|refine condK_nb ?_ ?_)|refine condK_b ?_ ?_) <;> intro h)
  · have h : i < pf.length := by omega
    simp(maxSteps:=999999)(disch:=omega)only[go_sem,zA,zM,zS,zE,zL]
    intro g2
    repeat' (first | ((with_reducible first|refine guardK_dec ?_ ?_|refine guardK_ndec ?_ ?_|refine guardK_nb ?_ ?_|refine guardK_split ?_ ?_|refine guardQ_dec ?_ ?_|refine guardL_dec ?_ ?_|refine guardQ_ndec ?_ ?_|refine guardL_ndec ?_ ?_|refine guardQ_nb ?_ ?_|refine guardL_nb ?_ ?_|refine guardQ_split ?_ ?_|refine guardL_split ?_ ?_) <;> intro hg <;> simp(maxSteps:=999999)(disch:=omega)only[go_sem,zA,zM,zS,zE,zL, hg]) | (((first|(with_reducible first|refine condK_dec ?_ ?_|refine condK_ndec ?_ ?_|refine condK_nb ?_ ?_)|refine condK_b ?_ ?_) <;> intro hg) <;> simp(maxSteps:=999999)(disch:=omega)only[go_sem,zA,zM,zS,zE,zL]) | fail)
    any_goals (symm; refine brn_no h ?_; omega)
    all_goals exact ⟨i + 1, ⟨⟨h, all_step hall (by simp only [brnOk, decide_eq_true_eq]; omega)⟩, by omega⟩, by omega, hle_self _ _ _ (hle_nil _)⟩
  · simp(maxSteps:=999999)(disch:=omega)only[go_sem,zA,zM,zS,zE,zL]
    symm; simp only [proofValid, Bool.and_eq_true, decide_eq_true_eq]
    exact ⟨hv, by omega, all_nth.2 fun j hj => hall j (by omega)⟩
theorem sProofValid_run (p : Puz) (pf : List Brn) (hx : smP p) (hy : pf.length ≤ 2 ^ 40) : Reads Tryz.prog 13 [aP p, rsl eB pf] (bool (proofValid p pf)) := by
  have hx1 := hx.1
  refine RunCall.cw (c := _) Tryz.func13 rfl (n := 48) Tryz.ntmps13 (rs := [.tmp 4]) rfl ?_
  simp only[List.length_cons,List.length_nil,zA,zS,List.replicate,List.cons_append,List.nil_append]
  simp(maxSteps:=999999)(disch:=omega)only[go_sem,zA,zM,zS,zE,zL]
  intro g
  refine loop_rule (fun i : Nat => pf.length - i) (fun i => i ≤ pf.length ∧ ∀ j : Nat, j < i → brnOk p.given.length (nth pf j) = true) (fun i => [.a, .k, .k, .a, .a, .p (int i), .a, .a, .a, .a, .a, .a, .a, .a, .a, .a, .a, .a, .a, .a, .a, .a, .a, .a, .a, .a, .a, .a, .a, .a, .a, .a, .a, .a, .a, .a, .a, .a, .a, .a, .a, .a, .a, .a, .a, .a, .a, .a]) (fun _ => [some ⟨g, 1, cP p⟩]) 0
    ⟨Nat.zero_le _, fun j hj => absurd hj (Nat.not_lt_zero _)⟩ (by simp(maxSteps:=999999)(disch:=omega)only[go_sem,zA,zM,zS,zE,zL]; rfl) (HLe.refl _) ?_
  rintro i ⟨hi, hall⟩
  simp(maxSteps:=999999)(disch:=omega)only[go_sem,zA,zM,zS,zE,zL]
  ((first|(with_reducible first|refine condK_dec ?_ ?_|refine condK_ndec ?_ ?_|refine condK_nb ?_ ?_)|refine condK_b ?_ ?_) <;> intro h)
  · have h : i < pf.length := by omega
    simp(maxSteps:=999999)(disch:=omega)only[go_sem,zA,zM,zS,zE,zL]
    intro g2
    repeat' (first | ((with_reducible first|refine guardK_dec ?_ ?_|refine guardK_ndec ?_ ?_|refine guardK_nb ?_ ?_|refine guardK_split ?_ ?_|refine guardQ_dec ?_ ?_|refine guardL_dec ?_ ?_|refine guardQ_ndec ?_ ?_|refine guardL_ndec ?_ ?_|refine guardQ_nb ?_ ?_|refine guardL_nb ?_ ?_|refine guardQ_split ?_ ?_|refine guardL_split ?_ ?_) <;> intro hg <;> simp(maxSteps:=999999)(disch:=omega)only[go_sem,zA,zM,zS,zE,zL, hg]) | (((first|(with_reducible first|refine condK_dec ?_ ?_|refine condK_ndec ?_ ?_|refine condK_nb ?_ ?_)|refine condK_b ?_ ?_) <;> intro hg) <;> simp(maxSteps:=999999)(disch:=omega)only[go_sem,zA,zM,zS,zE,zL]) | (refine OpS.rd (l1In_run _ _ _) (⟨_, Tryz.func25, rfl, rfl⟩ : Enters Tryz.prog 25) rfl rfl rfl rfl ?_; simp(maxSteps:=999999)(disch:=omega)only[go_sem,zA,zM,zS,zE,zL]))
    any_goals (symm; refine brn_no h ?_; omega)
    all_goals exact ⟨i + 1, ⟨⟨h, all_step hall (by simp only [brnOk, decide_eq_true_eq]; omega)⟩, by omega⟩, by omega, hle_self _ _ _ (hle_nil _)⟩
  · simp(maxSteps:=999999)(disch:=omega)only[go_sem,zA,zM,zS,zE,zL]
    have ha : pf.all (brnOk p.given.length) = true := all_nth.2 fun j hj => hall j (by omega)
    first | refine OpS.rd (sPuzzleValid_run p hx) (⟨_, Tryz.func26, rfl, rfl⟩ : Enters Tryz.prog 26) rfl rfl rfl rfl ?_ | refine Loud.rd (sPuzzleValid_run p hx) (⟨_, Tryz.func26, rfl, rfl⟩ : Enters Tryz.prog 26) rfl rfl rfl rfl ?_
    simp(maxSteps:=999999)(disch:=omega)only[go_sem,zA,zM,zS,zE,zL]
    ((with_reducible first|refine guardK_dec ?_ ?_|refine guardK_ndec ?_ ?_|refine guardK_nb ?_ ?_|refine guardK_split ?_ ?_|refine guardQ_dec ?_ ?_|refine guardL_dec ?_ ?_|refine guardQ_ndec ?_ ?_|refine guardL_ndec ?_ ?_|refine guardQ_nb ?_ ?_|refine guardL_nb ?_ ?_|refine guardQ_split ?_ ?_|refine guardL_split ?_ ?_) <;> intro hv <;> simp(maxSteps:=999999)(disch:=omega)only[go_sem,zA,zM,zS,zE,zL, hv])
    · simp only [proofValid, hv, ha, Bool.true_and, Bool.and_true, decide_eq_decide]; omega
    · simp [proofValid, hv]
def proofTries (p : Puz) (pf : List Brn) : Int := if proofValid p pf then (pf.countP fun b => decide (b.tech = 0) : Nat) else -1
theorem ProofTries_run (p : Puz) (pf : List Brn) (hx : smP p) (hy : pf.length ≤ 2 ^ 40) : Reads Tryz.prog 5 [aP p, rsl eB pf] (int (proofTries p pf)) := by
  refine RunCall.cw (c := _) Tryz.func5 rfl (n := 25) Tryz.ntmps5 (rs := [.tmp 4]) rfl ?_
  simp only[List.length_cons,List.length_nil,zA,zS,List.replicate,List.cons_append,List.nil_append]
  simp(maxSteps:=999999)(disch:=omega)only[go_sem,zA,zM,zS,zE,zL]
  intro g
  first | refine OpS.rd (ProofValid_run p pf hx hy) (⟨_, Tryz.func12, rfl, rfl⟩ : Enters Tryz.prog 12) rfl rfl rfl rfl ?_ | refine Loud.rd (ProofValid_run p pf hx hy) (⟨_, Tryz.func12, rfl, rfl⟩ : Enters Tryz.prog 12) rfl rfl rfl rfl ?_
  simp(maxSteps:=999999)(disch:=omega)only[go_sem,zA,zM,zS,zE,zL]
  ((first|(with_reducible first|refine condK_dec ?_ ?_|refine condK_ndec ?_ ?_|refine condK_nb ?_ ?_)|refine condK_b ?_ ?_) <;> intro hv)
  rotate_left
  · simp(maxSteps:=999999)(disch:=omega)only[go_sem,zA,zM,zS,zE,zL]
    simp [proofTries, hv]
  simp(maxSteps:=999999)(disch:=omega)only[go_sem,zA,zM,zS,zE,zL]
  refine loop_rule (fun i : Nat => pf.length - i) (fun i => i ≤ pf.length) (fun i => [.a, .a, .a, .a, .a, .p (int ((pf.take i).countP fun b => decide (b.tech = 0) : Nat)), .a, .a, .a, .a, .a, .a, .k, .k, .p (int i), .a, .a, .a, .a, .a, .a, .a, .a, .a, .a]) (fun _ => [some ⟨g, 1, cP p⟩]) 0
    (Nat.zero_le _) (by simp(maxSteps:=999999)(disch:=omega)only[go_sem,zA,zM,zS,zE,zL]; simp) (HLe.refl _) ?_
  intro i hi
  have hb := countP_le pf (fun b => decide (b.tech = 0)) i
  simp(maxSteps:=999999)(disch:=omega)only[go_sem,zA,zM,zS,zE,zL]
  ((first|(with_reducible first|refine condK_dec ?_ ?_|refine condK_ndec ?_ ?_|refine condK_nb ?_ ?_)|refine condK_b ?_ ?_) <;> intro h)
  · have h : i < pf.length := by omega
    have hc := countP_take (f := fun b => decide (b.tech = 0)) h
    simp(maxSteps:=999999)(disch:=omega)only[go_sem,zA,zM,zS,zE,zL]
    intro g2
    ((first|(with_reducible first|refine condK_dec ?_ ?_|refine condK_ndec ?_ ?_|refine condK_nb ?_ ?_)|refine condK_b ?_ ?_) <;> intro h2)
    · simp(maxSteps:=999999)(disch:=omega)only[go_sem,zA,zM,zS,zE,zL]
      refine ⟨i + 1, ⟨h, by omega⟩, ⟨?_, by omega⟩, hle_self _ _ _ (hle_nil _)⟩
      rw [hc]; simp [h2]
    · simp(maxSteps:=999999)(disch:=omega)only[go_sem,zA,zM,zS,zE,zL]
      refine ⟨i + 1, ⟨h, by omega⟩, ⟨?_, by omega⟩, hle_self _ _ _ (hle_nil _)⟩
      rw [hc]; simp [h2]
  · simp(maxSteps:=999999)(disch:=omega)only[go_sem,zA,zM,zS,zE,zL]
    rw [List.take_of_length_le (by omega)]
    simp only [proofTries, hv, if_true]
theorem sProofTries_run (p : Puz) (pf : List Brn) (hx : smP p) (hy : pf.length ≤ 2 ^ 40) : Reads Tryz.prog 6 [aP p, rsl eB pf] (int (proofTries p pf)) := by
  refine RunCall.cw (c := _) Tryz.func6 rfl (n := 26) Tryz.ntmps6 (rs := [.tmp 4]) rfl ?_
  simp only[List.length_cons,List.length_nil,zA,zS,List.replicate,List.cons_append,List.nil_append]
  simp(maxSteps:=999999)(disch:=omega)only[go_sem,zA,zM,zS,zE,zL]
  intro g
  first | refine OpS.rd (sProofValid_run p pf hx hy) (⟨_, Tryz.func13, rfl, rfl⟩ : Enters Tryz.prog 13) rfl rfl rfl rfl ?_ | refine Loud.rd (sProofValid_run p pf hx hy) (⟨_, Tryz.func13, rfl, rfl⟩ : Enters Tryz.prog 13) rfl rfl rfl rfl ?_
  simp(maxSteps:=999999)(disch:=omega)only[go_sem,zA,zM,zS,zE,zL]
  ((first|(with_reducible first|refine condK_dec ?_ ?_|refine condK_ndec ?_ ?_|refine condK_nb ?_ ?_)|refine condK_b ?_ ?_) <;> intro hv)
  rotate_left
  · simp(maxSteps:=999999)(disch:=omega)only[go_sem,zA,zM,zS,zE,zL]
    simp [proofTries, hv]
  simp(maxSteps:=999999)(disch:=omega)only[go_sem,zA,zM,zS,zE,zL]
  refine loop_rule (fun i : Nat => pf.length - i) (fun i => i ≤ pf.length) (fun i => [.a, .k, .a, .a, .a, .p (int ((pf.take i).countP fun b => decide (b.tech = 0) : Nat)), .p (int i), .a, .a, .a, .a, .a, .a, .a, .a, .a, .a, .a, .a, .a, .a, .a, .a, .a, .a, .a]) (fun _ => [some ⟨g, 1, cP p⟩]) 0
    (Nat.zero_le _) (by simp(maxSteps:=999999)(disch:=omega)only[go_sem,zA,zM,zS,zE,zL]; simp) (HLe.refl _) ?_
  intro i hi
  have hb := countP_le pf (fun b => decide (b.tech = 0)) i
  simp(maxSteps:=999999)(disch:=omega)only[go_sem,zA,zM,zS,zE,zL]
  ((first|(with_reducible first|refine condK_dec ?_ ?_|refine condK_ndec ?_ ?_|refine condK_nb ?_ ?_)|refine condK_b ?_ ?_) <;> intro h)
  · have h : i < pf.length := by omega
    have hc := countP_take (f := fun b => decide (b.tech = 0)) h
    simp(maxSteps:=999999)(disch:=omega)only[go_sem,zA,zM,zS,zE,zL]
    ((first|(with_reducible first|refine condK_dec ?_ ?_|refine condK_ndec ?_ ?_|refine condK_nb ?_ ?_)|refine condK_b ?_ ?_) <;> intro h2)
    · simp(maxSteps:=999999)(disch:=omega)only[go_sem,zA,zM,zS,zE,zL]
      refine ⟨i + 1, ⟨h, by omega⟩, ⟨?_, by omega⟩, HLe.refl _⟩
      rw [hc]; simp [h2]
    · simp(maxSteps:=999999)(disch:=omega)only[go_sem,zA,zM,zS,zE,zL]
      refine ⟨i + 1, ⟨h, by omega⟩, ⟨?_, by omega⟩, HLe.refl _⟩
      rw [hc]; simp [h2]
  · simp(maxSteps:=999999)(disch:=omega)only[go_sem,zA,zM,zS,zE,zL]
    rw [List.take_of_length_le (by omega)]
    simp only [proofTries, hv, if_true]
end Go.Lg
