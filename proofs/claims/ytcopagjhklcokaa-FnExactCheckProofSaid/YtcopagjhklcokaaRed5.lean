/- GpTF, cut to what is needed. -/
import Derived.Test.YtcopagjhklcokaaRed4
import Derived.Test.YtcopagjhklcokaaReb8
open Nat(reduceAdd reduceMul reduceSub reduceEqDiff reduceLeDiff)
set_option linter.unusedSimpArgs false
set_option linter.unusedVariables false
set_option maxRecDepth 100000
namespace Go.Lg
open Go.Proofs
theorem puz_factsT {p : Puz} (hv : puzzleValid p = true) : PuzN p p.size.toNat ∧ GrdN p.given p.size.toNat := by
  obtain ⟨hp, hz⟩ := PuzN.of hv
  refine ⟨hp, ?_⟩
  simp only [puzzleValid, Bool.and_eq_true, decide_eq_true_eq] at hv
  exact GrdN.of hp.hn (by rw [hz]; exact hv.1)
def checkV (p : Puz) (pf : List Brn) : Int :=
  if proofValid p pf = true then match chkF p 201 (startM p) pf with
    | some (n, []) => n
    | _ => -1
  else -1
theorem proof_facts {p : Puz} {pf : List Brn} (h : proofValid p pf = true) : puzzleValid p = true ∧ pf.length ≤ 200 ∧ ∀ b ∈ pf, brnOk p.given.length b = true := by
  simp only [proofValid, Bool.and_eq_true, decide_eq_true_eq, List.all_eq_true] at h
  exact ⟨h.1, h.2.1, h.2.2⟩
set_option maxHeartbeats 4000000 in
theorem CheckProof_run (p : Puz) (pf : List Brn) (hx : smP p) (hy : pf.length ≤ 2 ^ 40) : Reads Try.prog 49 [aP p, rsl eB pf] (int (checkV p pf)) := by
  refine RunCall.cw (c := _) Try.func49 rfl (n := 27) Try.ntmps49 (rs := [.tmp 4]) rfl ?_
  simp only [List.length_cons, List.length_nil, Nat.reduceAdd, Nat.reduceSub, List.replicate, List.cons_append, List.nil_append]
  simp(maxSteps:=999999)(disch:=omega)only[go_sem,reduceAdd,reduceMul,reduceSub,reduceEqDiff,reduceLeDiff]
  intro g
  first | refine OpS.rd (ProofValid_run p pf hx hy) (⟨_, Try.func56, rfl, rfl⟩ : Enters Try.prog 56) rfl rfl rfl rfl ?_ | refine Loud.rd (ProofValid_run p pf hx hy) (⟨_, Try.func56, rfl, rfl⟩ : Enters Try.prog 56) rfl rfl rfl rfl ?_
  simp(maxSteps:=999999)(disch:=omega)only[go_sem,reduceAdd,reduceMul,reduceSub,reduceEqDiff,reduceLeDiff]
  cases hf : proofValid p pf with
  | false =>
    have e : checkV p pf = -1 := by unfold checkV; rw [hf]; rfl
    rw [e]
    simp(maxSteps:=999999)(disch:=omega)only[go_sem,reduceAdd,reduceMul,reduceSub,reduceEqDiff,reduceLeDiff]
  | true =>
    obtain ⟨hv, h200, hb⟩ := proof_facts hf
    obtain ⟨hp, hg⟩ := puz_factsT hv
    have hcl := checkLines_run hp hv hg.len 201 (startM p) pf (startM_ok hp hg) (by omega) h200 hb
    have e : checkV p pf = match chkF p 201 (startM p) pf with | some (n, []) => (n : Int) | _ => -1 := by unfold checkV; rw [if_pos hf]
    rw [e]
    simp(maxSteps:=999999)(disch:=omega)only[go_sem,reduceAdd,reduceMul,reduceSub,reduceEqDiff,reduceLeDiff]
    refine drawP_q foll (by kernel_rfl) ?_
    simp (maxSteps := 1000000) (disch := omega) only [go_sem, Nat.reduceBEq, Bool.true_or, Nat.reduceAdd, Nat.reduceMul, Nat.reduceSub, Nat.reduceEqDiff, Nat.reduceLeDiff]
    refine quietW.mk (StartMasks_run hp hv hg) (⟨_, Try.func84, rfl, rfl⟩ : Enters Try.prog 84) rfl rfl rfl rfl rfl ?_
    simp(maxSteps:=999999)(disch:=omega)only[go_sem,reduceAdd,reduceMul,reduceSub,reduceEqDiff,reduceLeDiff]
    cases hc : chkF p 201 (startM p) pf with
    | none =>
      rw [hc] at hcl
      change Reads _ _ _ (.tup [int (-1), rsl eB []]) at hcl
      refine quietW.mk (hcl) (⟨_, Try.func95, rfl, rfl⟩ : Enters Try.prog 95) rfl rfl rfl rfl rfl ?_
      simp(maxSteps:=999999)(disch:=omega)only[go_sem,reduceAdd,reduceMul,reduceSub,reduceEqDiff,reduceLeDiff]
      ((first | with_reducible refine guardK_dec ?_ ?_ | with_reducible refine guardK_ndec ?_ ?_ | with_reducible refine guardK_nb ?_ ?_ | with_reducible refine guardK_split ?_ ?_ | with_reducible refine guardQ_dec ?_ ?_ | with_reducible refine guardL_dec ?_ ?_ | with_reducible refine guardQ_ndec ?_ ?_ | with_reducible refine guardL_ndec ?_ ?_ | with_reducible refine guardQ_nb ?_ ?_ | with_reducible refine guardL_nb ?_ ?_ | with_reducible refine guardQ_split ?_ ?_ | with_reducible refine guardL_split ?_ ?_) <;> intro c1 <;> simp(maxSteps:=999999)(disch:=omega)only[go_sem,reduceAdd,reduceMul,reduceSub,reduceEqDiff,reduceLeDiff, c1])
      all_goals first | (exfalso; omega) | trace_state
    | some q =>
      obtain ⟨m, l⟩ := q
      rw [hc] at hcl
      change Reads _ _ _ (.tup [int (m : Nat), rsl eB l]) at hcl
      refine quietW.mk (hcl) (⟨_, Try.func95, rfl, rfl⟩ : Enters Try.prog 95) rfl rfl rfl rfl rfl ?_
      simp(maxSteps:=999999)(disch:=omega)only[go_sem,reduceAdd,reduceMul,reduceSub,reduceEqDiff,reduceLeDiff]
      ((first | with_reducible refine guardK_dec ?_ ?_ | with_reducible refine guardK_ndec ?_ ?_ | with_reducible refine guardK_nb ?_ ?_ | with_reducible refine guardK_split ?_ ?_ | with_reducible refine guardQ_dec ?_ ?_ | with_reducible refine guardL_dec ?_ ?_ | with_reducible refine guardQ_ndec ?_ ?_ | with_reducible refine guardL_ndec ?_ ?_ | with_reducible refine guardQ_nb ?_ ?_ | with_reducible refine guardL_nb ?_ ?_ | with_reducible refine guardQ_split ?_ ?_ | with_reducible refine guardL_split ?_ ?_) <;> intro c1 <;> simp(maxSteps:=999999)(disch:=omega)only[go_sem,reduceAdd,reduceMul,reduceSub,reduceEqDiff,reduceLeDiff, c1])
      ((first | with_reducible refine condK_dec ?_ ?_ | with_reducible refine condK_ndec ?_ ?_ | with_reducible refine condK_nb ?_ ?_ | refine condK_b ?_ ?_) <;> intro c2)
      · cases l with
        | nil => exfalso; simp at c2
        | cons b r => simp(maxSteps:=999999)(disch:=omega)only[go_sem,reduceAdd,reduceMul,reduceSub,reduceEqDiff,reduceLeDiff]
      · cases l with
        | nil => simp(maxSteps:=999999)(disch:=omega)only[go_sem,reduceAdd,reduceMul,reduceSub,reduceEqDiff,reduceLeDiff]
        | cons b r => exfalso; simp at c2
set_option maxHeartbeats 4000000 in
theorem sCheckProof_run (p : Puz) (pf : List Brn) (hx : smP p) (hy : pf.length ≤ 2 ^ 40) : Reads Try.prog 47 [aP p, rsl eB pf] (int (checkV p pf)) := by
  refine RunCall.cw (c := _) Try.func47 rfl (n := 29) Try.ntmps47 (rs := [.tmp 4]) rfl ?_
  simp only [List.length_cons, List.length_nil, Nat.reduceAdd, Nat.reduceSub, List.replicate, List.cons_append, List.nil_append]
  simp(maxSteps:=999999)(disch:=omega)only[go_sem,reduceAdd,reduceMul,reduceSub,reduceEqDiff,reduceLeDiff]
  intro g
  first | refine OpS.rd (sPuzzleValid_run p hx) (⟨_, Try.func25, rfl, rfl⟩ : Enters Try.prog 25) rfl rfl rfl rfl ?_ | refine Loud.rd (sPuzzleValid_run p hx) (⟨_, Try.func25, rfl, rfl⟩ : Enters Try.prog 25) rfl rfl rfl rfl ?_
  simp(maxSteps:=999999)(disch:=omega)only[go_sem,reduceAdd,reduceMul,reduceSub,reduceEqDiff,reduceLeDiff]
  cases hf : proofValid p pf with
  | false =>
    have e : checkV p pf = -1 := by unfold checkV; rw [hf]; rfl
    rw [e]
    cases hv : puzzleValid p with
    | false => simp(maxSteps:=999999)(disch:=omega)only[go_sem,reduceAdd,reduceMul,reduceSub,reduceEqDiff,reduceLeDiff]
    | true =>
      simp(maxSteps:=999999)(disch:=omega)only[go_sem,reduceAdd,reduceMul,reduceSub,reduceEqDiff,reduceLeDiff]
      first | refine OpS.rd (sProofValid_run p pf hx hy) (⟨_, Try.func92, rfl, rfl⟩ : Enters Try.prog 92) rfl rfl rfl rfl ?_ | refine Loud.rd (sProofValid_run p pf hx hy) (⟨_, Try.func92, rfl, rfl⟩ : Enters Try.prog 92) rfl rfl rfl rfl ?_
      simp(maxSteps:=999999)(disch:=omega)only[go_sem,reduceAdd,reduceMul,reduceSub,reduceEqDiff,reduceLeDiff]
      rw [hf]
      simp(maxSteps:=999999)(disch:=omega)only[go_sem,reduceAdd,reduceMul,reduceSub,reduceEqDiff,reduceLeDiff]
  | true =>
    obtain ⟨hv, h200, hb⟩ := proof_facts hf
    obtain ⟨hp, hg⟩ := puz_factsT hv
    have hcl := l20Check_run hp hv hg.len pf h200 hb 201 (startM p) 0 (startM_ok hp hg) (Nat.zero_le _) (by omega)
    rw [List.drop_zero] at hcl
    have hck := chkF_ok p 201 (startM p) pf
    have e : checkV p pf = match chkF p 201 (startM p) pf with | some (n, []) => (n : Int) | _ => -1 := by unfold checkV; rw [if_pos hf]
    rw [e, hv]
    simp(maxSteps:=999999)(disch:=omega)only[go_sem,reduceAdd,reduceMul,reduceSub,reduceEqDiff,reduceLeDiff]
    first | refine OpS.rd (sProofValid_run p pf hx hy) (⟨_, Try.func92, rfl, rfl⟩ : Enters Try.prog 92) rfl rfl rfl rfl ?_ | refine Loud.rd (sProofValid_run p pf hx hy) (⟨_, Try.func92, rfl, rfl⟩ : Enters Try.prog 92) rfl rfl rfl rfl ?_
    simp(maxSteps:=999999)(disch:=omega)only[go_sem,reduceAdd,reduceMul,reduceSub,reduceEqDiff,reduceLeDiff]
    rw [hf]
    simp(maxSteps:=999999)(disch:=omega)only[go_sem,reduceAdd,reduceMul,reduceSub,reduceEqDiff,reduceLeDiff]
    refine drawP_q foll (by kernel_rfl) ?_
    simp (maxSteps := 1000000) (disch := omega) only [go_sem, Nat.reduceBEq, Bool.true_or, Nat.reduceAdd, Nat.reduceMul, Nat.reduceSub, Nat.reduceEqDiff, Nat.reduceLeDiff]
    refine quietW.mk (sStartMasks_run hp hv hg) (⟨_, Try.func77, rfl, rfl⟩ : Enters Try.prog 77) rfl rfl rfl rfl rfl ?_
    simp(maxSteps:=999999)(disch:=omega)only[go_sem,reduceAdd,reduceMul,reduceSub,reduceEqDiff,reduceLeDiff]
    cases hc : chkF p 201 (startM p) pf with
    | none =>
      rw [hc] at hcl
      change Reads _ _ _ (.tup [int (-1), int (pf.length : Nat)]) at hcl
      refine quietW.mk (hcl) (⟨_, Try.func93, rfl, rfl⟩ : Enters Try.prog 93) rfl rfl rfl rfl rfl ?_
      simp(maxSteps:=999999)(disch:=omega)only[go_sem,reduceAdd,reduceMul,reduceSub,reduceEqDiff,reduceLeDiff]
    | some q =>
      obtain ⟨m, l⟩ := q
      rw [hc] at hcl hck
      obtain ⟨⟨pre, hpre⟩, _⟩ := hck
      have hll : l.length ≤ pf.length := by rw [hpre, List.length_append]; omega
      change Reads _ _ _ (.tup [int (m : Nat), int ((pf.length - l.length : Nat) : Int)]) at hcl
      refine quietW.mk (hcl) (⟨_, Try.func93, rfl, rfl⟩ : Enters Try.prog 93) rfl rfl rfl rfl rfl ?_
      simp(maxSteps:=999999)(disch:=omega)only[go_sem,reduceAdd,reduceMul,reduceSub,reduceEqDiff,reduceLeDiff]
      ((first | with_reducible refine condK_dec ?_ ?_ | with_reducible refine condK_ndec ?_ ?_ | with_reducible refine condK_nb ?_ ?_ | refine condK_b ?_ ?_) <;> intro c2)
      · cases l with
        | nil => simp(maxSteps:=999999)(disch:=omega)only[go_sem,reduceAdd,reduceMul,reduceSub,reduceEqDiff,reduceLeDiff]
        | cons b r => exfalso; simp only [List.length_cons] at c2 hll; omega
      · cases l with
        | nil => exfalso; simp at c2
        | cons b r => simp(maxSteps:=999999)(disch:=omega)only[go_sem,reduceAdd,reduceMul,reduceSub,reduceEqDiff,reduceLeDiff]
theorem law_CheckProof (p : Puz) (pf : List Brn) (h1 : okP' p) (h2 : pf.length ≤ 9223372036854775807) : Reads Try.prog 9 [aP p, rsl eB pf] (bool true) := by
  refine RunCall.cw (c := _) Try.func9 rfl (n := 45) Try.ntmps9 (rs := [.tmp 4]) rfl ?_
  simp only [List.length_cons, List.length_nil, Nat.reduceAdd, Nat.reduceSub, List.replicate, List.cons_append, List.nil_append]
  simp(maxSteps:=999999)(disch:=omega)only[go_sem,reduceAdd,reduceMul,reduceSub,reduceEqDiff,reduceLeDiff]
  intro g
  first | refine OpS.rd (szPuzzle_run p 1048576 (by omega) h1) (⟨_, Try.func28, rfl, rfl⟩ : Enters Try.prog 28) rfl rfl rfl rfl ?_ | refine Loud.rd (szPuzzle_run p 1048576 (by omega) h1) (⟨_, Try.func28, rfl, rfl⟩ : Enters Try.prog 28) rfl rfl rfl rfl ?_
  simp(maxSteps:=999999)(disch:=omega)only[go_sem,reduceAdd,reduceMul,reduceSub,reduceEqDiff,reduceLeDiff]
  have hb := szI_le (n := wP p) (left := 1048576) (by omega)
  ((first | with_reducible refine condK_dec ?_ ?_ | with_reducible refine condK_ndec ?_ ?_ | with_reducible refine condK_nb ?_ ?_ | refine condK_b ?_ ?_) <;> intro h)
  · simp(maxSteps:=999999)(disch:=omega)only[go_sem,reduceAdd,reduceMul,reduceSub,reduceEqDiff,reduceLeDiff]
  simp(maxSteps:=999999)(disch:=omega)only[go_sem,reduceAdd,reduceMul,reduceSub,reduceEqDiff,reduceLeDiff]
  first | refine OpS.rd (szBranchS_run pf _ (by omega) h2) (⟨_, Try.func46, rfl, rfl⟩ : Enters Try.prog 46) rfl rfl rfl rfl ?_ | refine Loud.rd (szBranchS_run pf _ (by omega) h2) (⟨_, Try.func46, rfl, rfl⟩ : Enters Try.prog 46) rfl rfl rfl rfl ?_
  simp(maxSteps:=999999)(disch:=omega)only[go_sem,reduceAdd,reduceMul,reduceSub,reduceEqDiff,reduceLeDiff]
  have hb2 := szI_le (n := pf.length) (left := szI (wP p) 1048576) (by omega)
  ((first | with_reducible refine condK_dec ?_ ?_ | with_reducible refine condK_ndec ?_ ?_ | with_reducible refine condK_nb ?_ ?_ | refine condK_b ?_ ?_) <;> intro h3)
  · simp(maxSteps:=999999)(disch:=omega)only[go_sem,reduceAdd,reduceMul,reduceSub,reduceEqDiff,reduceLeDiff]
  obtain ⟨hw, hw2⟩ := szI_ok h
  obtain ⟨hy, _⟩ := szI_ok h3
  rw [hw2] at hy
  have hy : pf.length ≤ 2 ^ 40 := by omega
  have hs := smP_of (p := p) (n := 1048576) (by omega) (by omega)
  simp(maxSteps:=999999)(disch:=omega)only[go_sem,reduceAdd,reduceMul,reduceSub,reduceEqDiff,reduceLeDiff]
  first | refine OpS.mk (toPuzzle_run p hs) (⟨_, Try.func30, rfl, rfl⟩ : Enters Try.prog 30) rfl rfl rfl rfl rfl ?_ | refine Loud.mk (toPuzzle_run p hs) (⟨_, Try.func30, rfl, rfl⟩ : Enters Try.prog 30) rfl rfl rfl rfl rfl ?_
  simp(maxSteps:=999999)(disch:=omega)only[go_sem,reduceAdd,reduceMul,reduceSub,reduceEqDiff,reduceLeDiff]
  first | refine OpS.mk (toBranchS_run pf hy) (⟨_, Try.func48, rfl, rfl⟩ : Enters Try.prog 48) rfl rfl rfl rfl rfl ?_ | refine Loud.mk (toBranchS_run pf hy) (⟨_, Try.func48, rfl, rfl⟩ : Enters Try.prog 48) rfl rfl rfl rfl rfl ?_
  simp(maxSteps:=999999)(disch:=omega)only[go_sem,reduceAdd,reduceMul,reduceSub,reduceEqDiff,reduceLeDiff]
  first | refine OpS.rd (sCheckProof_run p pf hs hy) (⟨_, Try.func47, rfl, rfl⟩ : Enters Try.prog 47) rfl rfl rfl rfl ?_ | refine Loud.rd (sCheckProof_run p pf hs hy) (⟨_, Try.func47, rfl, rfl⟩ : Enters Try.prog 47) rfl rfl rfl rfl ?_
  simp(maxSteps:=999999)(disch:=omega)only[go_sem,reduceAdd,reduceMul,reduceSub,reduceEqDiff,reduceLeDiff]
  first | refine OpS.mk (toPuzzle_run p hs) (⟨_, Try.func30, rfl, rfl⟩ : Enters Try.prog 30) rfl rfl rfl rfl rfl ?_ | refine Loud.mk (toPuzzle_run p hs) (⟨_, Try.func30, rfl, rfl⟩ : Enters Try.prog 30) rfl rfl rfl rfl rfl ?_
  simp(maxSteps:=999999)(disch:=omega)only[go_sem,reduceAdd,reduceMul,reduceSub,reduceEqDiff,reduceLeDiff]
  intro g2
  first | refine OpS.mk (toBranchS_run pf hy) (⟨_, Try.func48, rfl, rfl⟩ : Enters Try.prog 48) rfl rfl rfl rfl rfl ?_ | refine Loud.mk (toBranchS_run pf hy) (⟨_, Try.func48, rfl, rfl⟩ : Enters Try.prog 48) rfl rfl rfl rfl rfl ?_
  simp(maxSteps:=999999)(disch:=omega)only[go_sem,reduceAdd,reduceMul,reduceSub,reduceEqDiff,reduceLeDiff]
  first | refine OpS.rd (CheckProof_run p pf hs hy) (⟨_, Try.func49, rfl, rfl⟩ : Enters Try.prog 49) rfl rfl rfl rfl ?_ | refine Loud.rd (CheckProof_run p pf hs hy) (⟨_, Try.func49, rfl, rfl⟩ : Enters Try.prog 49) rfl rfl rfl rfl ?_
  simp(maxSteps:=999999)(disch:=omega)only[go_sem,reduceAdd,reduceMul,reduceSub,reduceEqDiff,reduceLeDiff]
  refine drawP_q foll (by kernel_rfl) ?_
  simp (maxSteps := 1000000) (disch := omega) only [go_sem, Nat.reduceBEq, Bool.true_or, Nat.reduceAdd, Nat.reduceMul, Nat.reduceSub, Nat.reduceEqDiff, Nat.reduceLeDiff]
  refine quietW.mk (toPuzzle_run p hs) (⟨_, Try.func30, rfl, rfl⟩ : Enters Try.prog 30) rfl rfl rfl rfl rfl ?_
  simp(maxSteps:=999999)(disch:=omega)only[go_sem,reduceAdd,reduceMul,reduceSub,reduceEqDiff,reduceLeDiff]
  refine quietW.rd (eqPuzzle_run p p hs) (⟨_, Try.func34, rfl, rfl⟩ : Enters Try.prog 34) rfl rfl rfl rfl ?_
  simp(maxSteps:=999999)(disch:=omega)only[go_sem,reduceAdd,reduceMul,reduceSub,reduceEqDiff,reduceLeDiff]
  first | refine OpS.mk (toBranchS_run pf hy) (⟨_, Try.func48, rfl, rfl⟩ : Enters Try.prog 48) rfl rfl rfl rfl rfl ?_ | refine Loud.mk (toBranchS_run pf hy) (⟨_, Try.func48, rfl, rfl⟩ : Enters Try.prog 48) rfl rfl rfl rfl rfl ?_
  simp(maxSteps:=999999)(disch:=omega)only[go_sem,reduceAdd,reduceMul,reduceSub,reduceEqDiff,reduceLeDiff]
  first | refine OpS.rd (eqBranchS_run pf pf hy) (⟨_, Try.func43, rfl, rfl⟩ : Enters Try.prog 43) rfl rfl rfl rfl ?_ | refine Loud.rd (eqBranchS_run pf pf hy) (⟨_, Try.func43, rfl, rfl⟩ : Enters Try.prog 43) rfl rfl rfl rfl ?_
  simp(maxSteps:=999999)(disch:=omega)only[go_sem,reduceAdd,reduceMul,reduceSub,reduceEqDiff,reduceLeDiff]
end Go.Lg
