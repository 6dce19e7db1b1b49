/- GpDE, GpI2, GpDF, GpDG, GpDH, GpDJ, GpFA, cut to what is needed. -/
import Derived.Test.YtcopagjhklcokaaRfb7
import Derived.Test.YtcopagjhklcokaaRfb9
open Nat(reduceAdd reduceMul reduceSub reduceEqDiff reduceLeDiff)
set_option linter.unusedSimpArgs false
set_option linter.unusedVariables false
set_option maxRecDepth 100000
namespace Go.Lg
open Go.Proofs
def MasksOk (ms : List Int) (n : Nat) : Prop := ms.length = n * n ∧ ∀ k : Nat, k < ms.length → 0 ≤ nth ms k ∧ nth ms k ≤ ((2 ^ (n + 1) - 2 : Nat) : Int) ∧ nth ms k % 2 = 0
theorem and_seven {n : Nat} (hn : n = 2 ∨ n = 3 ∨ n = 4) : bitsI .and .i64 (n : Int) 7 = n := by
  rcases hn with rfl | rfl | rfl <;> rfl
theorem shl_n {n : Nat} (hn : n = 2 ∨ n = 3 ∨ n = 4) : binI .shl .i64 1 .i64 ((n : Int) + 1) = some (.int .i64 (((2 ^ (n + 1) : Nat)) : Int)) := by
  rcases hn with rfl | rfl | rfl <;> rfl
theorem sMasksValid_run {n : Nat} (hn : n = 2 ∨ n = 3 ∨ n = 4) (ms : List Int) (hm : MasksOk ms n) : Reads Try.prog 116 [ints ms, int n] (bool true) := by
  obtain ⟨hl, hv⟩ := hm
  have hsq : 4 ≤ n * n ∧ n * n ≤ 16 := by rcases hn with rfl | rfl | rfl <;> omega
  have hpw : (2 ^ (n + 1) : Nat) ≤ 32 ∧ 8 ≤ (2 ^ (n + 1) : Nat) := by rcases hn with rfl | rfl | rfl <;> omega
  have hsi : (n : Int) * n = ((n * n : Nat) : Int) := by push_cast; rfl
  refine RunCall.cw (c := _) Try.func116 rfl (n := 41) Try.ntmps116 (rs := [.tmp 4]) rfl ?_
  simp only [List.length_cons, List.length_nil, Nat.reduceAdd, Nat.reduceSub, List.replicate, List.cons_append, List.nil_append]
  simp(maxSteps:=999999)(disch:=omega)only[go_sem,reduceAdd,reduceMul,reduceSub,reduceEqDiff,reduceLeDiff]
  refine loop_rule (fun k : Nat => ms.length - k) (fun k => k ≤ ms.length) (fun k => [.k, .k, .a, .a, .a, .p (int k), .a, .a, .a, .a, .a, .a, .a, .a, .a, .a, .a, .a, .a, .a, .a, .a, .a, .a, .a, .a, .a, .a, .a, .a, .a, .a, .a, .a, .a, .a, .a, .a, .a, .a, .a]) (fun _ => []) 0 (Nat.zero_le _) (by simp(maxSteps:=999999)(disch:=omega)only[go_sem,reduceAdd,reduceMul,reduceSub,reduceEqDiff,reduceLeDiff]; rfl) (hle_nil _) ?_
  intro k hk
  simp(maxSteps:=999999)(disch:=omega)only[go_sem,reduceAdd,reduceMul,reduceSub,reduceEqDiff,reduceLeDiff]
  ((first | with_reducible refine condK_dec ?_ ?_ | with_reducible refine condK_ndec ?_ ?_ | with_reducible refine condK_nb ?_ ?_ | refine condK_b ?_ ?_) <;> intro h1)
  · have h1 : k < ms.length := by omega
    obtain ⟨v0, v1, v2⟩ := hv k h1
    have v3 : (nth ms k).tmod 2 = 0 := by rw [tmod_nn v0]; exact v2
    simp(maxSteps:=999999)(disch:=omega)only[go_sem,reduceAdd,reduceMul,reduceSub,reduceEqDiff,reduceLeDiff]
    refine drawP_lM [0, 1, 2, 3, 4, 5, 6, 7, 8, 9, 10, 11, 12, 13] [] none [14, 15, 16, 17, 18] [] [0, 0, 3, 7, 0, 16, 48, 112, 240, 511, 1023, 2047, 4095, 4095, 16383, 32767, 65535, 131071, 262143] foll (by kernel_rfl) ?_
    simp(maxSteps:=999999)(disch:=omega)only[go_sem,reduceAdd,reduceMul,reduceSub,reduceEqDiff,reduceLeDiff, and_seven hn, shl_n hn]
    first | refine OpS.rd (l1In_run _ _ _) (⟨_, Try.func72, rfl, rfl⟩ : Enters Try.prog 72) rfl rfl rfl rfl ?_ | refine Loud.rd (l1In_run _ _ _) (⟨_, Try.func72, rfl, rfl⟩ : Enters Try.prog 72) rfl rfl rfl rfl ?_
    simp(maxSteps:=999999)(disch:=omega)only[go_sem,reduceAdd,reduceMul,reduceSub,reduceEqDiff,reduceLeDiff]
    ((first | with_reducible refine guardK_dec ?_ ?_ | with_reducible refine guardK_ndec ?_ ?_ | with_reducible refine guardK_nb ?_ ?_ | with_reducible refine guardK_split ?_ ?_ | with_reducible refine guardQ_dec ?_ ?_ | with_reducible refine guardL_dec ?_ ?_ | with_reducible refine guardQ_ndec ?_ ?_ | with_reducible refine guardL_ndec ?_ ?_ | with_reducible refine guardQ_nb ?_ ?_ | with_reducible refine guardL_nb ?_ ?_ | with_reducible refine guardQ_split ?_ ?_ | with_reducible refine guardL_split ?_ ?_) <;> intro h2 <;> simp(maxSteps:=999999)(disch:=omega)only[go_sem,reduceAdd,reduceMul,reduceSub,reduceEqDiff,reduceLeDiff, h2])
    · simp(maxSteps:=999999)(disch:=omega)only[go_sem,reduceAdd,reduceMul,reduceSub,reduceEqDiff,reduceLeDiff, v3]
      exact ⟨k + 1, ⟨by omega, by omega⟩, by push_cast; omega, hle_nil _⟩
    · exfalso; omega
  · simp(maxSteps:=999999)(disch:=omega)only[go_sem,reduceAdd,reduceMul,reduceSub,reduceEqDiff,reduceLeDiff]
    first | refine OpS.rd (l1In_run _ _ _) (⟨_, Try.func72, rfl, rfl⟩ : Enters Try.prog 72) rfl rfl rfl rfl ?_ | refine Loud.rd (l1In_run _ _ _) (⟨_, Try.func72, rfl, rfl⟩ : Enters Try.prog 72) rfl rfl rfl rfl ?_
    simp(maxSteps:=999999)(disch:=omega)only[go_sem,reduceAdd,reduceMul,reduceSub,reduceEqDiff,reduceLeDiff]
    ((first | with_reducible refine guardK_dec ?_ ?_ | with_reducible refine guardK_ndec ?_ ?_ | with_reducible refine guardK_nb ?_ ?_ | with_reducible refine guardK_split ?_ ?_ | with_reducible refine guardQ_dec ?_ ?_ | with_reducible refine guardL_dec ?_ ?_ | with_reducible refine guardQ_ndec ?_ ?_ | with_reducible refine guardL_ndec ?_ ?_ | with_reducible refine guardQ_nb ?_ ?_ | with_reducible refine guardL_nb ?_ ?_ | with_reducible refine guardQ_split ?_ ?_ | with_reducible refine guardL_split ?_ ?_) <;> intro h2 <;> simp(maxSteps:=999999)(disch:=omega)only[go_sem,reduceAdd,reduceMul,reduceSub,reduceEqDiff,reduceLeDiff, h2])
    · rw [hsi, hl]
    · exfalso; omega
theorem nats_zeros (k : Nat) : nats (List.replicate k 0) = List.replicate k 0 := by simp [nats]
def ruleM (r : Rul) (ms : List Int) : List Nat := ways r (remM r ms 0) [] (List.replicate r.cells.length 0)
theorem sRuleMasks_own {n : Nat} (hn : n = 2 ∨ n = 3 ∨ n = 4) (r : Rul) (ms : List Int) (hv : ruleValid r n = true) (hm : MasksOk ms n) (hr : RulM r ms) : RunCall Try.prog 148 [aR r, ints ms, int n] [] (ownIQ (nats (ruleM r ms))) := by
  have hl4 := hr.len
  refine RunCall.cw (c := _) Try.func148 rfl (n := 29) Try.ntmps148 (rs := [.tmp 6]) rfl ?_
  simp only [List.length_cons, List.length_nil, Nat.reduceAdd, Nat.reduceSub, List.replicate, List.cons_append, List.nil_append]
  simp(maxSteps:=999999)(disch:=omega)only[go_sem,reduceAdd,reduceMul,reduceSub,reduceEqDiff,reduceLeDiff]
  intro g1
  first | refine OpS.rd (sRuleValid_run r n (by omega)) (⟨_, Try.func71, rfl, rfl⟩ : Enters Try.prog 71) rfl rfl rfl rfl ?_ | refine Loud.rd (sRuleValid_run r n (by omega)) (⟨_, Try.func71, rfl, rfl⟩ : Enters Try.prog 71) rfl rfl rfl rfl ?_
  simp(maxSteps:=999999)(disch:=omega)only[go_sem,reduceAdd,reduceMul,reduceSub,reduceEqDiff,reduceLeDiff]
  ((first | with_reducible refine guardK_dec ?_ ?_ | with_reducible refine guardK_ndec ?_ ?_ | with_reducible refine guardK_nb ?_ ?_ | with_reducible refine guardK_split ?_ ?_ | with_reducible refine guardQ_dec ?_ ?_ | with_reducible refine guardL_dec ?_ ?_ | with_reducible refine guardQ_ndec ?_ ?_ | with_reducible refine guardL_ndec ?_ ?_ | with_reducible refine guardQ_nb ?_ ?_ | with_reducible refine guardL_nb ?_ ?_ | with_reducible refine guardQ_split ?_ ?_ | with_reducible refine guardL_split ?_ ?_) <;> intro h1 <;> simp(maxSteps:=999999)(disch:=omega)only[go_sem,reduceAdd,reduceMul,reduceSub,reduceEqDiff,reduceLeDiff, h1])
  rotate_left
  · exfalso; rw [hv] at h1; cases h1
  first | refine OpS.rd (sMasksValid_run hn ms hm) (⟨_, Try.func116, rfl, rfl⟩ : Enters Try.prog 116) rfl rfl rfl rfl ?_ | refine Loud.rd (sMasksValid_run hn ms hm) (⟨_, Try.func116, rfl, rfl⟩ : Enters Try.prog 116) rfl rfl rfl rfl ?_
  simp(maxSteps:=999999)(disch:=omega)only[go_sem,reduceAdd,reduceMul,reduceSub,reduceEqDiff,reduceLeDiff]
  intro g2 g3
  have hrun := l4Ways_run r ms hr r.cells.length [some ⟨g1, 1, cR r⟩, some ⟨g2, 1, cl (eI .i64) (List.replicate r.cells.length 0)⟩, some ⟨g3, 1, []⟩] 2 g3 [] 1 g2 (List.replicate r.cells.length 0) (by simp) (by simp only [go_sem]; rfl) (by simp) (by omega)
    (by rw [nats_zeros]; simp only [go_sem]) (by simp) (fun x hx => by rw [List.eq_of_mem_replicate hx]; omega)
  rw [List.length_replicate] at hrun
  refine OpS.run hrun (⟨_, Try.func159, rfl, rfl⟩ : Enters Try.prog 159) rfl rfl ?_
  rintro _ H2 ⟨rfl, l2, len2, f2⟩
  simp(maxSteps:=999999)(disch:=omega)only[go_sem,reduceAdd,reduceMul,reduceSub,reduceEqDiff,reduceLeDiff]
  have hlen : (nats (ruleM r ms)).length = r.cells.length := by
    rw [nats_length, ruleM, ways_len _ _ _ _ (by simp [remM])]
    simp
  have hown : OwnI H2 (.own 1 g2 0 r.cells.length none) (nats (ruleM r ms)) [1] := by
    have := OwnI.o (H := H2) 1 g2 none (nats (ruleM r ms)) [] (by rw [List.append_nil]; exact l2)
    rwa [hlen] at this
  exact ⟨keepH [1] H2, keepH_le _ _, _, [1], rfl, hown.same fun i hi => keepH_get hi (hown.lt i hi), scalH_keep hown.blk⟩
theorem ruleValid_facts {r : Rul} {n : Nat} (hv : ruleValid r n = true) : (1 ≤ r.cells.length ∧ r.cells.length ≤ 4) ∧ (r.kind = 1 ∨ r.kind = 2 ∨ r.kind = 3 ∨ r.cells.length = 2) ∧ (∀ c ∈ r.cells, 0 ≤ c ∧ c < (n * n : Nat)) ∧ r.cells.Nodup := by
  simp only [ruleValid, decide_eq_true_eq] at hv
  obtain ⟨h1, h2, h3⟩ := hv
  refine ⟨?_, ?_, fun c hc => ?_, ?_⟩
  · rcases h3 with h | h | h | h <;> omega
  · rcases h3 with h | h | h | h <;> omega
  · obtain ⟨j, hj, rfl⟩ := List.mem_iff_getElem.1 hc
    have := (h2 j hj).1
    rw [nth_eq (by omega)] at this
    simp only [Int.toNat_natCast] at this
    push_cast
    exact this
  · rw [List.nodup_iff_pairwise_ne, List.pairwise_iff_getElem]
    intro i j hi hj hij
    have := (h2 j hj).2 i hij
    rw [nth_eq (by omega), nth_eq (by omega)] at this
    simp only [Int.toNat_natCast] at this
    exact this
end Go.Lg

set_option linter.unusedSimpArgs false
set_option linter.unusedVariables false
set_option maxRecDepth 100000
namespace Go.Lg
open Go.Proofs
def puzzleValid (p : Puz) : Bool := gridValid p.given p.size && (decide (p.rules.length ≤ 20) && p.rules.all fun r => ruleValid r p.size)
theorem PuzzleValid_run (p : Puz) (hx : smP p) : Reads Try.prog 66 [aP p] (bool (puzzleValid p)) := by
  obtain ⟨hx1, hx2, hx3⟩ := hx
  refine RunCall.cw (c := _) Try.func66 rfl (n := 30) Try.ntmps66 (rs := [.tmp 2]) rfl ?_
  simp only [List.length_cons, List.length_nil, Nat.reduceAdd, Nat.reduceSub, List.replicate, List.cons_append, List.nil_append]
  simp(maxSteps:=999999)(disch:=omega)only[go_sem,reduceAdd,reduceMul,reduceSub,reduceEqDiff,reduceLeDiff]
  intro g
  first | refine OpS.rd (GridValid_run p.given p.size (by omega)) (⟨_, Try.func69, rfl, rfl⟩ : Enters Try.prog 69) rfl rfl rfl rfl ?_ | refine Loud.rd (GridValid_run p.given p.size (by omega)) (⟨_, Try.func69, rfl, rfl⟩ : Enters Try.prog 69) rfl rfl rfl rfl ?_
  simp(maxSteps:=999999)(disch:=omega)only[go_sem,reduceAdd,reduceMul,reduceSub,reduceEqDiff,reduceLeDiff]
  ((first | with_reducible refine guardK_dec ?_ ?_ | with_reducible refine guardK_ndec ?_ ?_ | with_reducible refine guardK_nb ?_ ?_ | with_reducible refine guardK_split ?_ ?_ | with_reducible refine guardQ_dec ?_ ?_ | with_reducible refine guardL_dec ?_ ?_ | with_reducible refine guardQ_ndec ?_ ?_ | with_reducible refine guardL_ndec ?_ ?_ | with_reducible refine guardQ_nb ?_ ?_ | with_reducible refine guardL_nb ?_ ?_ | with_reducible refine guardQ_split ?_ ?_ | with_reducible refine guardL_split ?_ ?_) <;> intro hv <;> simp(maxSteps:=999999)(disch:=omega)only[go_sem,reduceAdd,reduceMul,reduceSub,reduceEqDiff,reduceLeDiff, hv])
  rotate_left
  · simp [puzzleValid, hv]
  ((first | with_reducible refine condK_dec ?_ ?_ | with_reducible refine condK_ndec ?_ ?_ | with_reducible refine condK_nb ?_ ?_ | refine condK_b ?_ ?_) <;> intro h20)
  · simp(maxSteps:=999999)(disch:=omega)only[go_sem,reduceAdd,reduceMul,reduceSub,reduceEqDiff,reduceLeDiff]
    symm; simp only [puzzleValid, hv, Bool.true_and, Bool.and_eq_false_iff, decide_eq_false_iff_not]; exact .inl (by omega)
  simp(maxSteps:=999999)(disch:=omega)only[go_sem,reduceAdd,reduceMul,reduceSub,reduceEqDiff,reduceLeDiff]
  refine loop_rule (fun i : Nat => p.rules.length - i) (fun i => i ≤ p.rules.length ∧ ∀ j : Nat, j < i → ruleValid (nth p.rules j) p.size = true) (fun i => [.a, .k, .a, .a, .a, .a, .a, .a, .a, .a, .a, .a, .a, .a, .a, .a, .a, .a, .k, .k, .p (int i), .a, .a, .a, .a, .a, .a, .a, .a, .a]) (fun _ => [some ⟨g, 1, cP p⟩]) 0
    ⟨Nat.zero_le _, fun j hj => absurd hj (Nat.not_lt_zero _)⟩ (by simp(maxSteps:=999999)(disch:=omega)only[go_sem,reduceAdd,reduceMul,reduceSub,reduceEqDiff,reduceLeDiff]; rfl) (HLe.refl _) ?_
  rintro i ⟨hi, hall⟩
  simp(maxSteps:=999999)(disch:=omega)only[go_sem,reduceAdd,reduceMul,reduceSub,reduceEqDiff,reduceLeDiff]
  ((first | with_reducible refine condK_dec ?_ ?_ | with_reducible refine condK_ndec ?_ ?_ | with_reducible refine condK_nb ?_ ?_ | refine condK_b ?_ ?_) <;> intro h)
  · have h : i < p.rules.length := by omega
    simp(maxSteps:=999999)(disch:=omega)only[go_sem,reduceAdd,reduceMul,reduceSub,reduceEqDiff,reduceLeDiff]
    intro g2
    first | refine OpS.rd (RuleValid_run (nth p.rules i) p.size (hx3 _ (nth_mem h))) (⟨_, Try.func108, rfl, rfl⟩ : Enters Try.prog 108) rfl rfl rfl rfl ?_ | refine Loud.rd (RuleValid_run (nth p.rules i) p.size (hx3 _ (nth_mem h))) (⟨_, Try.func108, rfl, rfl⟩ : Enters Try.prog 108) rfl rfl rfl rfl ?_
    simp(maxSteps:=999999)(disch:=omega)only[go_sem,reduceAdd,reduceMul,reduceSub,reduceEqDiff,reduceLeDiff]
    ((first | with_reducible refine condK_dec ?_ ?_ | with_reducible refine condK_ndec ?_ ?_ | with_reducible refine condK_nb ?_ ?_ | refine condK_b ?_ ?_) <;> intro h2)
    · simp(maxSteps:=999999)(disch:=omega)only[go_sem,reduceAdd,reduceMul,reduceSub,reduceEqDiff,reduceLeDiff]
      exact ⟨i + 1, ⟨⟨h, all_step hall h2⟩, by omega⟩, by omega, hle_self _ _ _ (hle_nil _)⟩
    · simp(maxSteps:=999999)(disch:=omega)only[go_sem,reduceAdd,reduceMul,reduceSub,reduceEqDiff,reduceLeDiff]
      symm; simp only [puzzleValid, Bool.and_eq_false_iff]; exact .inr (.inr (all_no h h2))
  · simp(maxSteps:=999999)(disch:=omega)only[go_sem,reduceAdd,reduceMul,reduceSub,reduceEqDiff,reduceLeDiff]
    symm; simp only [puzzleValid, Bool.and_eq_true, decide_eq_true_eq]
    exact ⟨hv, by omega, all_nth.2 fun j hj => hall j (by omega)⟩
theorem sPuzzleValid_run (p : Puz) (hx : smP p) : Reads Try.prog 25 [aP p] (bool (puzzleValid p)) := by
  obtain ⟨hx1, hx2, hx3⟩ := hx
  refine RunCall.cw (c := _) Try.func25 rfl (n := 31) Try.ntmps25 (rs := [.tmp 2]) rfl ?_
  simp only [List.length_cons, List.length_nil, Nat.reduceAdd, Nat.reduceSub, List.replicate, List.cons_append, List.nil_append]
  simp(maxSteps:=999999)(disch:=omega)only[go_sem,reduceAdd,reduceMul,reduceSub,reduceEqDiff,reduceLeDiff]
  intro g
  refine loop_rule (fun i : Nat => p.rules.length - i) (fun i => i ≤ p.rules.length ∧ ∀ j : Nat, j < i → ruleValid (nth p.rules j) p.size = true) (fun i => [.a, .k, .a, .p (int i), .a, .a, .a, .a, .a, .a, .a, .a, .a, .a, .a, .a, .a, .a, .a, .a, .a, .a, .a, .a, .a, .a, .a, .a, .a, .a, .a]) (fun _ => [some ⟨g, 1, cP p⟩]) 0
    ⟨Nat.zero_le _, fun j hj => absurd hj (Nat.not_lt_zero _)⟩ (by simp(maxSteps:=999999)(disch:=omega)only[go_sem,reduceAdd,reduceMul,reduceSub,reduceEqDiff,reduceLeDiff]; rfl) (HLe.refl _) ?_
  rintro i ⟨hi, hall⟩
  simp(maxSteps:=999999)(disch:=omega)only[go_sem,reduceAdd,reduceMul,reduceSub,reduceEqDiff,reduceLeDiff]
  ((first | with_reducible refine condK_dec ?_ ?_ | with_reducible refine condK_ndec ?_ ?_ | with_reducible refine condK_nb ?_ ?_ | refine condK_b ?_ ?_) <;> intro h)
  · have h : i < p.rules.length := by omega
    simp(maxSteps:=999999)(disch:=omega)only[go_sem,reduceAdd,reduceMul,reduceSub,reduceEqDiff,reduceLeDiff]
    refine drawP_q foll (by kernel_rfl) ?_
    simp (maxSteps := 1000000) (disch := omega) only [go_sem, Nat.reduceBEq, Bool.true_or, Nat.reduceAdd, Nat.reduceMul, Nat.reduceSub, Nat.reduceEqDiff, Nat.reduceLeDiff]
    refine quietW.rd (sRuleValid_run (nth p.rules i) p.size (hx3 _ (nth_mem h))) (⟨_, Try.func71, rfl, rfl⟩ : Enters Try.prog 71) rfl rfl rfl rfl ?_
    simp(maxSteps:=999999)(disch:=omega)only[go_sem,reduceAdd,reduceMul,reduceSub,reduceEqDiff,reduceLeDiff]
    ((first | with_reducible refine condK_dec ?_ ?_ | with_reducible refine condK_ndec ?_ ?_ | with_reducible refine condK_nb ?_ ?_ | refine condK_b ?_ ?_) <;> intro h2)
    · simp(maxSteps:=999999)(disch:=omega)only[go_sem,reduceAdd,reduceMul,reduceSub,reduceEqDiff,reduceLeDiff]
      exact ⟨i + 1, ⟨⟨h, all_step hall h2⟩, by omega⟩, by omega, HLe.refl _⟩
    · simp(maxSteps:=999999)(disch:=omega)only[go_sem,reduceAdd,reduceMul,reduceSub,reduceEqDiff,reduceLeDiff]
      symm; simp only [puzzleValid, Bool.and_eq_false_iff]; exact .inr (.inr (all_no h h2))
  · simp(maxSteps:=999999)(disch:=omega)only[go_sem,reduceAdd,reduceMul,reduceSub,reduceEqDiff,reduceLeDiff]
    have ha : (p.rules.all fun r => ruleValid r p.size) = true := all_nth.2 fun j hj => hall j (by omega)
    first | refine OpS.rd (sGridValid_run p.given p.size (by omega)) (⟨_, Try.func26, rfl, rfl⟩ : Enters Try.prog 26) rfl rfl rfl rfl ?_ | refine Loud.rd (sGridValid_run p.given p.size (by omega)) (⟨_, Try.func26, rfl, rfl⟩ : Enters Try.prog 26) rfl rfl rfl rfl ?_
    simp(maxSteps:=999999)(disch:=omega)only[go_sem,reduceAdd,reduceMul,reduceSub,reduceEqDiff,reduceLeDiff]
    ((first | with_reducible refine guardK_dec ?_ ?_ | with_reducible refine guardK_ndec ?_ ?_ | with_reducible refine guardK_nb ?_ ?_ | with_reducible refine guardK_split ?_ ?_ | with_reducible refine guardQ_dec ?_ ?_ | with_reducible refine guardL_dec ?_ ?_ | with_reducible refine guardQ_ndec ?_ ?_ | with_reducible refine guardL_ndec ?_ ?_ | with_reducible refine guardQ_nb ?_ ?_ | with_reducible refine guardL_nb ?_ ?_ | with_reducible refine guardQ_split ?_ ?_ | with_reducible refine guardL_split ?_ ?_) <;> intro hv <;> simp(maxSteps:=999999)(disch:=omega)only[go_sem,reduceAdd,reduceMul,reduceSub,reduceEqDiff,reduceLeDiff, hv])
    · simp only [puzzleValid, hv, ha, Bool.true_and, Bool.and_true, decide_eq_decide]; omega
    · simp [puzzleValid, hv]
end Go.Lg

set_option linter.unusedSimpArgs false
set_option linter.unusedVariables false
set_option maxRecDepth 100000
namespace Go.Lg
open Go.Proofs
structure PuzN (p : Puz) (n : Nat) : Prop where
  hn : n = 2 ∨ n = 3 ∨ n = 4
  size : p.size = n
  len : p.given.length = n * n
  rl : p.rules.length ≤ 40
  rv : ∀ r ∈ p.rules, ruleValid r n = true
theorem PuzN.of {p : Puz} (h : puzzleValid p = true) : PuzN p p.size.toNat ∧ ((p.size.toNat : Nat) : Int) = p.size := by
  simp only [puzzleValid, Bool.and_eq_true, decide_eq_true_eq, List.all_eq_true] at h
  obtain ⟨h1, h2, h3⟩ := h
  have hb := gridValid_bound h1
  have hs : ((p.size.toNat : Nat) : Int) = p.size := by omega
  have hn : p.size.toNat = 2 ∨ p.size.toNat = 3 ∨ p.size.toNat = 4 := by omega
  refine ⟨⟨hn, hs.symm, ?_, by omega, fun r hr => by rw [hs]; exact h3 r hr⟩, hs⟩
  have := hb.2.2.1
  rw [← hs] at this
  exact_mod_cast this
structure GrdN (xs : List Int) (n : Nat) : Prop where
  len : xs.length = n * n
  val : ∀ k : Nat, k < xs.length → 0 ≤ nth xs k ∧ nth xs k ≤ n
theorem GrdN.valid {xs : List Int} {n : Nat} (hn : n = 2 ∨ n = 3 ∨ n = 4) (h : GrdN xs n) : gridValid xs n = true := by
  simp only [gridValid, decide_eq_true_eq]
  refine ⟨by omega, by omega, by rw [h.len]; push_cast; rfl, h.val⟩
theorem GrdN.of {xs : List Int} {n : Nat} (hn : n = 2 ∨ n = 3 ∨ n = 4) (h : gridValid xs n = true) : GrdN xs n := by
  have hb := gridValid_bound h
  exact ⟨by have := hb.2.2.1; rcases hn with rfl | rfl | rfl <;> omega, hb.2.2.2.2⟩
end Go.Lg

set_option linter.unusedSimpArgs false
set_option linter.unusedVariables false
set_option maxRecDepth 100000
namespace Go.Lg
open Go.Proofs
theorem mask_get : ∀ (m : List Bool) (H : Heap) (j : Nat), (mask m H)[j]? = if m.getD j false = true then (H[j]?).map (fun _ => none) else H[j]?
  | [], H, j => by simp [mask]
  | b :: m, [], j => by cases b <;> simp [mask]
  | b :: m, x :: H, j => by
    have ih := mask_get m H
    cases b <;> cases j with
    | zero => simp [mask]
    | succ j => simp only [mask, List.getElem?_cons_succ, List.getD_cons_succ, ih j]
theorem look_mask {m : List Bool} {H : Heap} {id g : Nat} (h : m.getD id false = false) : look (mask m H) id g = look H id g := by
  unfold look
  rw [mask_get, h]
  simp
def hideM (o n : Nat) (N : Nat) : List Bool := (List.range N).map fun j => decide (j = o ∨ n ≤ j)
theorem hideM_no {o n N j : Nat} (h1 : j ≠ o) (h2 : j < n) : (hideM o n N).getD j false = false := by
  by_cases h : j < N
  · simp [hideM, List.getD, h, h1, h2]
  · have : (hideM o n N)[j]? = none := List.getElem?_eq_none (by simp [hideM]; omega)
    simp [List.getD, this]
structure OutL (H : Heap) (pid pg : Nat) (ls : List (List Int)) (S : List Nat) : Prop where
  ex : ∃ oid og cs, look H pid pg = some ⟨pg, 1, [.own oid og 0 ls.length none]⟩ ∧ look H oid og = some ⟨og, 1, cs⟩ ∧ oid ∈ S ∧ cs.length = ls.length ∧ ∀ i (h : i < ls.length), ∃ id g, cs[i]? = some (.own id g 0 ls[i].length none) ∧ look H id g = some ⟨g, 1, cl (eI .i64) ls[i]⟩ ∧ id ∈ S ∧ id ≠ oid
  pn : pid ∉ S
theorem OutL.same {H H' : Heap} {pid pg : Nat} {ls : List (List Int)} {S : List Nat} (h : OutL H pid pg ls S) (hs : ∀ i, i = pid ∨ i ∈ S → H'[i]? = H[i]?) : OutL H' pid pg ls S := by
  obtain ⟨⟨oid, og, cs, h1, h2, h3, h4, h5⟩, hn⟩ := h
  refine ⟨⟨oid, og, cs, by unfold look at *; rw [hs pid (.inl rfl)]; exact h1, by unfold look at *; rw [hs oid (.inr h3)]; exact h2, h3, h4, fun i hi => ?_⟩, hn⟩
  obtain ⟨id, g, k1, k2, k3, k4⟩ := h5 i hi
  exact ⟨id, g, k1, by unfold look at *; rw [hs id (.inr k3)]; exact k2, k3, k4⟩
end Go.Lg

set_option linter.unusedSimpArgs false
set_option linter.unusedVariables false
set_option maxRecDepth 100000
namespace Go.Lg
open Go.Proofs
attribute [-go_sem] appendM lwF_cons
def vals (n v : Nat) : List Nat := ((List.range n).map (· + 1)).drop (v - 1)
end Go.Lg

set_option linter.unusedSimpArgs false
set_option linter.unusedVariables false
set_option maxRecDepth 100000
namespace Go.Lg
open Go.Proofs
theorem mapM_of {α β : Type} {f : α → Option β} : ∀ (l : List α) (r : List β), l.length = r.length → (∀ i (h : i < l.length) (h' : i < r.length), f l[i] = some r[i]) → l.mapM f = some r
  | [], [], _, _ => rfl
  | [], _ :: _, h, _ => by simp at h
  | _ :: _, [], h, _ => by simp at h
  | a :: l, b :: r, hl, h => by
    have h0 := h 0 (by simp) (by simp)
    have ih := mapM_of l r (by simpa using hl) fun i h1 h2 => h (i + 1) (by simpa using h1) (by simpa using h2)
    simp only [List.getElem_cons_zero] at h0
    simp only [List.mapM_cons, h0, ih, Option.pure_def, Option.bind_eq_bind, Option.bind_some]
theorem OutL.frz {H : Heap} {pid pg : Nat} {ls : List (List Int)} {S : List Nat} (h : OutL H pid pg ls S) : ∃ oid og, look H pid pg = some ⟨pg, 1, [.own oid og 0 ls.length none]⟩ ∧ frzC H (.own oid og 0 ls.length none) = some (.f (fsl eL ls)) := by
  obtain ⟨⟨oid, og, cs, h1, h2, h3, h4, h5⟩, _⟩ := h
  refine ⟨oid, og, h1, ?_⟩
  have hm : cs.mapM (Lg.frz H 5) = some (ls.map fints) := by
    refine mapM_of _ _ (by simp [h4]) fun i hi hi' => ?_
    have hil : i < ls.length := by omega
    obtain ⟨id, g, k1, k2, k3, k4⟩ := h5 i hil
    have e : cs[i] = .own id g 0 ls[i].length none := by
      rw [List.getElem?_eq_getElem hi] at k1
      exact Option.some.inj k1
    rw [e, List.getElem_map]
    exact (OwnI.o (H := H) id g none ls[i] [] (by rw [List.append_nil]; exact k2)).frz 4
  have et : (cs.drop 0).take (ls.length * 1) = cs := by rw [List.drop_zero, List.take_of_length_le (by omega)]
  have ef : ls.map fints = fl eL ls := by
    have : ∀ l : List (List Int), l.map fints = fl eL l := fun l => by
      induction l with
      | nil => rfl
      | cons x l ih => simp only [List.map_cons, ih, fl, List.flatMap_cons, eL, List.cons_append, List.nil_append]
    exact this ls
  simp only [frzC, Lg.frz, h2, et, hm, Option.map_some, ef]
theorem puzzleValid_grid' {p : Puz} (h : puzzleValid p = true) : gridValid p.given p.size = true := by
  simp only [puzzleValid, Bool.and_eq_true] at h; exact h.1
end Go.Lg

set_option linter.unusedSimpArgs false
set_option linter.unusedVariables false
set_option maxRecDepth 100000
namespace Go.Lg
open Go.Proofs
theorem GrdN.set {xs : List Int} {n i v : Nat} (hg : GrdN xs n) (hi : i < xs.length) (hv : v ≤ n) : GrdN (xs.set i (v : Int)) n := ⟨by rw [List.length_set]; exact hg.len, fun k hk => by
  rw [List.length_set] at hk
  rw [nth_setN _ _ _ _ hi]
  split
  · omega
  · exact hg.val k hk⟩
def LeB (o o' : List Nat) : Prop := o.length = o'.length ∧ ∀ k b : Nat, (o.getD k 0).testBit b = true → (o'.getD k 0).testBit b = true
theorem LeB.refl (o : List Nat) : LeB o o := ⟨rfl, fun _ _ h => h⟩
theorem LeB.trans {a b c : List Nat} (h1 : LeB a b) (h2 : LeB b c) : LeB a c := ⟨h1.1.trans h2.1, fun k x h => h2.2 k x (h1.2 k x h)⟩
def Has (p : Puz) (xs : List Int) : Prop := ∀ k : Nat, 0 < nth p.given k → nth xs k = nth p.given k
theorem Has.clear {p : Puz} {xs : List Int} (h : Has p xs) : Lg.clear p xs = true := by
  simp only [Lg.clear, decide_eq_true_eq]
  exact fun k hk ⟨a, b, c⟩ => c (h k a)
theorem Has.set {p : Puz} {xs : List Int} (h : Has p xs) {i : Nat} {v : Int} (hi : i < xs.length) (h0 : ¬ 0 < nth xs i) : Has p (xs.set i v) := fun k hk => by
  rw [nth_setN _ _ _ _ hi]
  have := h k hk
  split
  · rename_i hki
    subst hki
    omega
  · exact this
end Go.Lg
