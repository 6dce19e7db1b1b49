/- GpQE, cut to what is needed. -/
import Derived.Test.YtapopcmgggfedaaGreatXbe9
import Derived.Test.YtapopcmgggfedaaGreatXbf0
import Derived.Test.YtapopcmgggfedaaGreatXbc1
open Nat renaming reduceAdd → zA, reduceMul → zM, reduceSub → zS, reduceEqDiff → zE, reduceLeDiff → zL
set_option linter.unusedSimpArgs false
set_option linter.unusedVariables false
set_option maxRecDepth 100000
namespace Go.Lg
open Go.Proofs
theorem tries_made {p : Puz} (hb : makeB p = true) (hg : 1 ≤ gradeV p ∧ gradeV p ≤ 4) : proofTries p (makeL p) = 0 := by
  obtain ⟨_, h2, _⟩ := make_facts hb
  have ht := make_tech hg
  unfold proofTries
  rw [if_pos h2]
  have : (makeL p).countP (fun b => decide (b.tech = 0)) = 0 := by
    rw [List.countP_eq_zero]
    intro b hb
    have := ht b hb
    simpa using this
  rw [this]; rfl
theorem tries_le (p : Puz) (pf : List Brn) : proofTries p pf ≤ pf.length ∧ (proofTries p pf < 0 → proofTries p pf = -1) := by
  unfold proofTries
  have : pf.countP (fun b => decide (b.tech = 0)) ≤ pf.length := List.countP_le_length
  split
  · exact ⟨by omega, fun h => by omega⟩
  · exact ⟨by omega, fun _ => rfl⟩
set_option maxHeartbeats 2000000 in
theorem law_FnProofTries (code : List Int) (hl : code.length ≤ 9223372036854775807) (hw : ∀ x ∈ code, (Lit.int .u8 x).wf = true) : Reads Tryz.prog 3 [rsl (eI .u8) code] (bool true) := by
  refine RunCall.cw (c := _) Tryz.func3 rfl (n := 61) Tryz.ntmps3 (rs := [.tmp 2]) rfl ?_
  simp only[List.length_cons,List.length_nil,zA,zS,List.replicate,List.cons_append,List.nil_append]
  simp(maxSteps:=999999)(disch:=omega)only[go_sem,zA,zM,zS,zE,zL]
  ((first|(with_reducible first|refine condK_dec ?_ ?_|refine condK_ndec ?_ ?_|refine condK_nb ?_ ?_)|refine condK_b ?_ ?_) <;> intro h1)
  · simp(maxSteps:=999999)(disch:=omega)only[go_sem,zA,zM,zS,zE,zL]
  simp(maxSteps:=999999)(disch:=omega)only[go_sem,zA,zM,zS,zE,zL]
  refine OpS.mkF (DrawProofTries_run code (wf_u8' hw) (by omega)) (⟨_, Tryz.func4, rfl, rfl⟩ : Enters Tryz.prog 4) rfl rfl rfl ?_
  rintro _ ⟨p, pf, rfl, hp, hpf⟩
  refine ⟨rfl, rfl, ?_⟩
  have hs := hp.sm
  simp(maxSteps:=999999)(disch:=omega)only[go_sem,zA,zM,zS,zE,zL]
  intro g
  first | refine OpS.rd (ProofTries_run p pf hs (by omega)) (⟨_, Tryz.func5, rfl, rfl⟩ : Enters Tryz.prog 5) rfl rfl rfl rfl ?_ | refine Loud.rd (ProofTries_run p pf hs (by omega)) (⟨_, Tryz.func5, rfl, rfl⟩ : Enters Tryz.prog 5) rfl rfl rfl rfl ?_
  simp(maxSteps:=999999)(disch:=omega)only[go_sem,zA,zM,zS,zE,zL]
  first | refine OpS.rd (sProofTries_run p pf hs (by omega)) (⟨_, Tryz.func6, rfl, rfl⟩ : Enters Tryz.prog 6) rfl rfl rfl rfl ?_ | refine Loud.rd (sProofTries_run p pf hs (by omega)) (⟨_, Tryz.func6, rfl, rfl⟩ : Enters Tryz.prog 6) rfl rfl rfl rfl ?_
  simp(maxSteps:=999999)(disch:=omega)only[go_sem,zA,zM,zS,zE,zL]
  obtain ⟨t1, t2⟩ := tries_le p pf
  obtain ⟨T, hT⟩ : ∃ T, T = proofTries p pf := ⟨_, rfl⟩
  rw [← hT] at t1 t2 ⊢
  ((first|(with_reducible first|refine condK_dec ?_ ?_|refine condK_ndec ?_ ?_|refine condK_nb ?_ ?_)|refine condK_b ?_ ?_) <;> intro c1)
  · have d0 : decide (T = -1) = true := decide_eq_true (t2 c1)
    simp(maxSteps:=999999)(disch:=omega)only[go_sem,zA,zM,zS,zE,zL, d0]
    first | refine OpS.rd (aliveF_run) (⟨_, Tryz.func7, rfl, rfl⟩ : Enters Tryz.prog 7) rfl rfl rfl rfl ?_ | refine Loud.rd (aliveF_run) (⟨_, Tryz.func7, rfl, rfl⟩ : Enters Tryz.prog 7) rfl rfl rfl rfl ?_
    simp(maxSteps:=999999)(disch:=omega)only[go_sem,zA,zM,zS,zE,zL]
  simp(maxSteps:=999999)(disch:=omega)only[go_sem,zA,zM,zS,zE,zL]
  first | refine OpS.mk (GradePuzzle_run p hs) (⟨_, Tryz.func8, rfl, rfl⟩ : Enters Tryz.prog 8) rfl rfl rfl rfl rfl ?_ | refine Loud.mk (GradePuzzle_run p hs) (⟨_, Tryz.func8, rfl, rfl⟩ : Enters Tryz.prog 8) rfl rfl rfl rfl rfl ?_
  simp(maxSteps:=999999)(disch:=omega)only[go_sem,zA,zM,zS,zE,zL]
  first | refine OpS.mk (mprQ_rd (MakeProof_own p hs)) (⟨_, Tryz.func9, rfl, rfl⟩ : Enters Tryz.prog 9) rfl rfl rfl rfl rfl ?_ | refine Loud.mk (mprQ_rd (MakeProof_own p hs)) (⟨_, Tryz.func9, rfl, rfl⟩ : Enters Tryz.prog 9) rfl rfl rfl rfl rfl ?_
  simp(maxSteps:=999999)(disch:=omega)only[go_sem,zA,zM,zS,zE,zL]
  have hgl := makeL_len p
  have d1 : decide (T ≤ (pf.length : Int)) = true := decide_eq_true t1
  simp(maxSteps:=999999)(disch:=omega)only[go_sem,zA,zM,zS,zE,zL, d1]
  cases hB : makeB p with
  | false => simp(maxSteps:=999999)(disch:=omega)only[go_sem,zA,zM,zS,zE,zL]
  | true =>
    simp(maxSteps:=999999)(disch:=omega)only[go_sem,zA,zM,zS,zE,zL]
    by_cases h1 : gradeV p < 1
    · have e1 : decide (gradeV p < 1) = true := decide_eq_true h1
      simp(maxSteps:=999999)(disch:=omega)only[go_sem,zA,zM,zS,zE,zL, e1]
    have e1 : decide (gradeV p < 1) = false := decide_eq_false h1
    simp(maxSteps:=999999)(disch:=omega)only[go_sem,zA,zM,zS,zE,zL, e1]
    by_cases h2 : 4 < gradeV p
    · have e2 : decide (4 < gradeV p) = true := decide_eq_true h2
      simp(maxSteps:=999999)(disch:=omega)only[go_sem,zA,zM,zS,zE,zL, e2]
    have e2 : decide (4 < gradeV p) = false := decide_eq_false h2
    have e3 := tries_made hB ⟨by omega, by omega⟩
    simp(maxSteps:=999999)(disch:=omega)only[go_sem,zA,zM,zS,zE,zL, e2]
    first | refine OpS.rd (ProofTries_run p (makeL p) hs (by omega)) (⟨_, Tryz.func5, rfl, rfl⟩ : Enters Tryz.prog 5) rfl rfl rfl rfl ?_ | refine Loud.rd (ProofTries_run p (makeL p) hs (by omega)) (⟨_, Tryz.func5, rfl, rfl⟩ : Enters Tryz.prog 5) rfl rfl rfl rfl ?_
    simp(maxSteps:=999999)(disch:=omega)only[go_sem,zA,zM,zS,zE,zL]
    rw [e3]
end Go.Lg
