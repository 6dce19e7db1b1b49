/- GpTM, cut to what is needed. -/
import Derived.Test.YtcopagjhklcokaaSbe6
open Nat(reduceAdd reduceMul reduceSub reduceEqDiff reduceLeDiff)
set_option linter.unusedSimpArgs false
set_option linter.unusedVariables false
set_option maxRecDepth 100000
namespace Go.Lg
open Go.Proofs
set_option maxHeartbeats 4000000 in
theorem law_FnMakeProof (code : List Int) (hl : code.length ≤ 9223372036854775807) (hw : ∀ x ∈ code, (Lit.int .u8 x).wf = true) : Reads Try.prog 12 [rsl (eI .u8) code] (bool true) := by
  refine RunCall.cw (c := _) Try.func12 rfl (n := 66) Try.ntmps12 (rs := [.tmp 2]) rfl ?_
  simp only [List.length_cons, List.length_nil, Nat.reduceAdd, Nat.reduceSub, List.replicate, List.cons_append, List.nil_append]
  simp(maxSteps:=999999)(disch:=omega)only[go_sem,reduceAdd,reduceMul,reduceSub,reduceEqDiff,reduceLeDiff]
  ((first | with_reducible refine condK_dec ?_ ?_ | with_reducible refine condK_ndec ?_ ?_ | with_reducible refine condK_nb ?_ ?_ | refine condK_b ?_ ?_) <;> intro h1)
  · simp(maxSteps:=999999)(disch:=omega)only[go_sem,reduceAdd,reduceMul,reduceSub,reduceEqDiff,reduceLeDiff]
  simp(maxSteps:=999999)(disch:=omega)only[go_sem,reduceAdd,reduceMul,reduceSub,reduceEqDiff,reduceLeDiff]
  refine OpS.mkF (DrawMakeProof_run code (wf_u8' hw) (by omega)) (⟨_, Try.func54, rfl, rfl⟩ : Enters Try.prog 54) rfl rfl rfl ?_
  rintro _ ⟨p, rfl, hp⟩
  refine ⟨rfl, rfl, ?_⟩
  have hs := hp.sm
  have hgl := makeL_len p
  have hbb : decide (makeB p = makeB p) = true := decide_eq_true rfl
  simp(maxSteps:=999999)(disch:=omega)only[go_sem,reduceAdd,reduceMul,reduceSub,reduceEqDiff,reduceLeDiff]
  intro g
  first | refine OpS.mk (mprQ_rd (MakeProof_own p hs)) (⟨_, Try.func42, rfl, rfl⟩ : Enters Try.prog 42) rfl rfl rfl rfl rfl ?_ | refine Loud.mk (mprQ_rd (MakeProof_own p hs)) (⟨_, Try.func42, rfl, rfl⟩ : Enters Try.prog 42) rfl rfl rfl rfl rfl ?_
  simp(maxSteps:=999999)(disch:=omega)only[go_sem,reduceAdd,reduceMul,reduceSub,reduceEqDiff,reduceLeDiff]
  first | refine OpS.mk (mprQ_rd (sMakeProof_own p hs)) (⟨_, Try.func41, rfl, rfl⟩ : Enters Try.prog 41) rfl rfl rfl rfl rfl ?_ | refine Loud.mk (mprQ_rd (sMakeProof_own p hs)) (⟨_, Try.func41, rfl, rfl⟩ : Enters Try.prog 41) rfl rfl rfl rfl rfl ?_
  simp(maxSteps:=999999)(disch:=omega)only[go_sem,reduceAdd,reduceMul,reduceSub,reduceEqDiff,reduceLeDiff]
  first | refine OpS.rd (sameProof_run (makeL p) (makeL p) (by omega)) (⟨_, Try.func55, rfl, rfl⟩ : Enters Try.prog 55) rfl rfl rfl rfl ?_ | refine Loud.rd (sameProof_run (makeL p) (makeL p) (by omega)) (⟨_, Try.func55, rfl, rfl⟩ : Enters Try.prog 55) rfl rfl rfl rfl ?_
  simp(maxSteps:=999999)(disch:=omega)only[go_sem,reduceAdd,reduceMul,reduceSub,reduceEqDiff,reduceLeDiff]
  obtain ⟨B, hB⟩ : ∃ B, B = makeB p := ⟨_, rfl⟩
  obtain ⟨L, hL⟩ : ∃ L, L = makeL p := ⟨_, rfl⟩
  rw [← hB, ← hL]
  rw [← hL] at hgl
  cases B with
  | false =>
    have e := make_no (p := p) hB.symm
    rw [← hL] at e
    subst e
    ((first | with_reducible refine condK_dec ?_ ?_ | with_reducible refine condK_ndec ?_ ?_ | with_reducible refine condK_nb ?_ ?_ | refine condK_b ?_ ?_) <;> intro c0)
    · cases c0
    have d0 : decide ((([] : List Brn).length : Int) = 0) = true := rfl
    have d1 : decide (((0 : Nat) : Int) = 0) = true := rfl
    simp(maxSteps:=999999)(disch:=omega)only[go_sem,reduceAdd,reduceMul,reduceSub,reduceEqDiff,reduceLeDiff, d0, d1]
    first | refine OpS.rd (aliveF_run) (⟨_, Try.func18, rfl, rfl⟩ : Enters Try.prog 18) rfl rfl rfl rfl ?_ | refine Loud.rd (aliveF_run) (⟨_, Try.func18, rfl, rfl⟩ : Enters Try.prog 18) rfl rfl rfl rfl ?_
    simp(maxSteps:=999999)(disch:=omega)only[go_sem,reduceAdd,reduceMul,reduceSub,reduceEqDiff,reduceLeDiff]
  | true =>
    obtain ⟨hv, k1, k2, k3⟩ := make_facts (p := p) hB.symm
    rw [← hL] at k1 k2 k3
    have e600 : checkV p L = countV p 600 := by rw [k2, count_600 hv]
    ((first | with_reducible refine condK_dec ?_ ?_ | with_reducible refine condK_ndec ?_ ?_ | with_reducible refine condK_nb ?_ ?_ | refine condK_b ?_ ?_) <;> intro c0)
    rotate_left
    · cases c0
    simp(maxSteps:=999999)(disch:=omega)only[go_sem,reduceAdd,reduceMul,reduceSub,reduceEqDiff,reduceLeDiff]
    refine drawP_q foll (by kernel_rfl) ?_
    simp (maxSteps := 1000000) (disch := omega) only [go_sem, Nat.reduceBEq, Bool.true_or, Nat.reduceAdd, Nat.reduceMul, Nat.reduceSub, Nat.reduceEqDiff, Nat.reduceLeDiff]
    refine quietW.rd (ProofValid_run p L hs (by omega)) (⟨_, Try.func56, rfl, rfl⟩ : Enters Try.prog 56) rfl rfl rfl rfl ?_
    simp(maxSteps:=999999)(disch:=omega)only[go_sem,reduceAdd,reduceMul,reduceSub,reduceEqDiff,reduceLeDiff]
    have e1 : decide (checkV p L = countV p 600) = true := decide_eq_true e600
    rw [k1]
    simp(maxSteps:=999999)(disch:=omega)only[go_sem,reduceAdd,reduceMul,reduceSub,reduceEqDiff,reduceLeDiff]
    refine quietW.rd (CheckProof_run p L hs (by omega)) (⟨_, Try.func49, rfl, rfl⟩ : Enters Try.prog 49) rfl rfl rfl rfl ?_
    simp(maxSteps:=999999)(disch:=omega)only[go_sem,reduceAdd,reduceMul,reduceSub,reduceEqDiff,reduceLeDiff]
    refine quietW.rd (CountSolutions_run p 600 hs) (⟨_, Try.func19, rfl, rfl⟩ : Enters Try.prog 19) rfl rfl rfl rfl ?_
    simp(maxSteps:=999999)(disch:=omega)only[go_sem,reduceAdd,reduceMul,reduceSub,reduceEqDiff,reduceLeDiff]
    simp(maxSteps:=999999)(disch:=omega)only[go_sem,reduceAdd,reduceMul,reduceSub,reduceEqDiff,reduceLeDiff, e1]
    ((first | with_reducible refine guardK_dec ?_ ?_ | with_reducible refine guardK_ndec ?_ ?_ | with_reducible refine guardK_nb ?_ ?_ | with_reducible refine guardK_split ?_ ?_ | with_reducible refine guardQ_dec ?_ ?_ | with_reducible refine guardL_dec ?_ ?_ | with_reducible refine guardQ_ndec ?_ ?_ | with_reducible refine guardL_ndec ?_ ?_ | with_reducible refine guardQ_nb ?_ ?_ | with_reducible refine guardL_nb ?_ ?_ | with_reducible refine guardQ_split ?_ ?_ | with_reducible refine guardL_split ?_ ?_) <;> intro c1 <;> simp(maxSteps:=999999)(disch:=omega)only[go_sem,reduceAdd,reduceMul,reduceSub,reduceEqDiff,reduceLeDiff, c1])
    have hL1 : 0 < L.length := by omega
    have e2 := k3 (L.length - 1) (by omega)
    have e4 : sub L 0 ((L.length : Int) - 1) = L.take (L.length - 1) := by
      unfold sub
      rw [show ((L.length : Int) - 1).toNat = L.length - 1 by omega]
      simp
    have hR := CheckProof_run p (sub L 0 ((L.length : Int) - 1)) hs (by rw [e4, List.length_take]; omega)
    rw [e4, e2, ← e4] at hR
    refine quietW.rd (hR) (⟨_, Try.func49, rfl, rfl⟩ : Enters Try.prog 49) rfl rfl rfl rfl ?_
    simp(maxSteps:=999999)(disch:=omega)only[go_sem,reduceAdd,reduceMul,reduceSub,reduceEqDiff,reduceLeDiff]
end Go.Lg
