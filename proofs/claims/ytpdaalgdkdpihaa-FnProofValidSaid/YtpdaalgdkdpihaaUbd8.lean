/- GpRB, cut to what is needed. -/
import Derived.Test.YtpdaalgdkdpihaaUbd7
import Derived.Test.YtpdaalgdkdpihaaUbb7
import Derived.Test.YtpdaalgdkdpihaaUbc1
open Nat(reduceAdd reduceMul reduceSub reduceEqDiff reduceLeDiff)
set_option linter.unusedSimpArgs false
set_option linter.unusedVariables false
set_option maxRecDepth 100000
namespace Go.Lg
open Go.Proofs
attribute [-go_sem] appendM lwF_cons
theorem prf_part {p : Puz} {pf : List Brn} (h : proofValid p pf = true) (k : Nat) : proofValid p (pf.take k) = true := by
  simp only [proofValid, Bool.and_eq_true, decide_eq_true_eq, List.all_eq_true] at h ⊢
  exact ⟨h.1, by rw [List.length_take]; omega, fun b hb => h.2.2 b (List.mem_of_mem_take hb)⟩
theorem prf_five {p : Puz} {pf : List Brn} {c : Int} : proofValid p (pf ++ [⟨5, c⟩]) = false := by
  cases h : proofValid p (pf ++ [⟨5, c⟩]) with
  | false => rfl
  | true =>
    simp only [proofValid, Bool.and_eq_true, decide_eq_true_eq, List.all_eq_true] at h
    have := h.2.2 ⟨5, c⟩ (by simp)
    simp only [brnOk, decide_eq_true_eq] at this
    omega
theorem softW_agg {P : Program} {ops : Array Oper} {o : Oper} {s : List AV} {K : AV → Prop} {t : TypeId} {ps : Array (Nat × Operand)} {v : AV} (ho : o.op = .build t ps) (hz : ∀ x ∈ o.op.operands, frozenA (evO s x) = true) (hv : frozen1 v = true) (hm : opM P o s [] fun r H' => frzA H' r = some v) (hk : K v) : softW P ops o s K := by
  unfold softW
  rw [ho]
  refine ⟨v, fun H => Soft.ops hz hv (fun s' hs' => opM_sound ?_), hk⟩
  rw [opM_congr (by rw [ho]; rfl) hs']
  exact hm
set_option maxHeartbeats 4000000 in
theorem law_FnProofValid (code : List Int) (hl : code.length ≤ 9223372036854775807) (hw : ∀ x ∈ code, (Lit.int .u8 x).wf = true) : Reads Try.prog 13 [rsl (eI .u8) code] (bool true) := by
  refine RunCall.cw (c := _) Try.func13 rfl (n := 47) Try.ntmps13 (rs := [.tmp 2]) rfl ?_
  simp only [List.length_cons, List.length_nil, Nat.reduceAdd, Nat.reduceSub, List.replicate, List.cons_append, List.nil_append]
  simp(maxSteps:=999999)(disch:=omega)only[go_sem,reduceAdd,reduceMul,reduceSub,reduceEqDiff,reduceLeDiff]
  ((first | with_reducible refine condK_dec ?_ ?_ | with_reducible refine condK_ndec ?_ ?_ | with_reducible refine condK_nb ?_ ?_ | refine condK_b ?_ ?_) <;> intro h1)
  · simp(maxSteps:=999999)(disch:=omega)only[go_sem,reduceAdd,reduceMul,reduceSub,reduceEqDiff,reduceLeDiff]
  simp(maxSteps:=999999)(disch:=omega)only[go_sem,reduceAdd,reduceMul,reduceSub,reduceEqDiff,reduceLeDiff]
  refine OpS.mkF (DrawProofValid_run code (wf_u8' hw) (by omega)) (⟨_, Try.func46, rfl, rfl⟩ : Enters Try.prog 46) rfl rfl rfl ?_
  rintro _ ⟨p, pf, rfl, hp, hpf⟩
  refine ⟨rfl, rfl, ?_⟩
  have hs := hp.sm
  simp(maxSteps:=999999)(disch:=omega)only[go_sem,reduceAdd,reduceMul,reduceSub,reduceEqDiff,reduceLeDiff]
  intro g
  first | refine OpS.rd (ProofValid_run p pf hs (by omega)) (⟨_, Try.func47, rfl, rfl⟩ : Enters Try.prog 47) rfl rfl rfl rfl ?_ | refine Loud.rd (ProofValid_run p pf hs (by omega)) (⟨_, Try.func47, rfl, rfl⟩ : Enters Try.prog 47) rfl rfl rfl rfl ?_
  simp(maxSteps:=999999)(disch:=omega)only[go_sem,reduceAdd,reduceMul,reduceSub,reduceEqDiff,reduceLeDiff]
  first | refine OpS.rd (sProofValid_run p pf hs (by omega)) (⟨_, Try.func48, rfl, rfl⟩ : Enters Try.prog 48) rfl rfl rfl rfl ?_ | refine Loud.rd (sProofValid_run p pf hs (by omega)) (⟨_, Try.func48, rfl, rfl⟩ : Enters Try.prog 48) rfl rfl rfl rfl ?_
  simp(maxSteps:=999999)(disch:=omega)only[go_sem,reduceAdd,reduceMul,reduceSub,reduceEqDiff,reduceLeDiff]
  have hd : ((pf.length : Nat) : Int).tdiv 2 = ((pf.length / 2 : Nat) : Int) := by
    rw [Int.tdiv_eq_ediv_of_nonneg (by omega)]
    omega
  have h5 := prf_five (p := p) (pf := pf) (c := 0)
  have hR5 := ProofValid_run p (pf ++ [⟨5, 0⟩]) hs (by simp; omega)
  rw [h5] at hR5
  cases hv : proofValid p pf with
  | false =>
    refine drawP_lM [0, 1, 2, 3, 4, 5, 6, 7, 8, 9, 10, 11, 12, 13, 14, 16, 17, 15, 18] [9, 13, 16, 17] none [19, 20, 21, 22, 23, 24, 25] [false, true] [0, 1, 3, 7, 7, 7, 39, 103, 247, 511, 1023, 2047, 4095, 4095, 4095, 28671, 4095, 69631, 258047, 524287, 1048575, 2097151, 4194303, 8388607, 16777215, 33554431] foll (by kernel_rfl) ?_
    iterate 15 (rw [lwF_cons]; simp(maxSteps:=999999)(disch:=omega)only[go_sem,reduceAdd,reduceMul,reduceSub,reduceEqDiff,reduceLeDiff])
    rw [lwF_cons]
    simp(maxSteps:=999999)(disch:=omega)only[go_sem,reduceAdd,reduceMul,reduceSub,reduceEqDiff,reduceLeDiff]
    refine softW_agg (v := aB ⟨5, 0⟩) rfl (by
      intro x hm
      simp only [Op.operands, List.mem_toArray, List.mem_map, List.mem_cons, List.not_mem_nil, or_false] at hm
      obtain ⟨_, rfl, rfl⟩ := hm
      rfl) rfl (by
      simp only [opM]
      simp(maxSteps:=999999)(disch:=omega)only[go_sem,reduceAdd,reduceMul,reduceSub,reduceEqDiff,reduceLeDiff]
      first | done | rfl) ?_
    simp(maxSteps:=999999)(disch:=omega)only[go_sem,reduceAdd,reduceMul,reduceSub,reduceEqDiff,reduceLeDiff]
    rw [lwF_cons]
    simp(maxSteps:=999999)(disch:=omega)only[go_sem,reduceAdd,reduceMul,reduceSub,reduceEqDiff,reduceLeDiff]
    rw [lwF_cons]
    simp(maxSteps:=999999)(disch:=omega)only[go_sem,reduceAdd,reduceMul,reduceSub,reduceEqDiff,reduceLeDiff]
    refine appendM_LL (E := eB) (xs := []) (ys := pf) (sliceOf_of' ti60 rfl ti65) ⟨rfl, rfl, by decide, by decide⟩ .m ⟨by simp, by omega⟩ elems_f ?_
    intro c1 H1 hO hk1 hk2 hl1 hk3
    rw [List.nil_append] at hO
    have hb1 : H1[0]? = some (some ⟨g, 3, cP p⟩) := hk1 0 (by simp) (fun h => h)
    have hn0 : ¬ idsC c1 0 := fun h => by
      rcases hk2 0 h with h | h
      · exact h
      · simp at h
    obtain ⟨T, rfl⟩ : ∃ T, H1 = some (⟨g, 3, cP p⟩ : Blk) :: T := by
      cases H1 with
      | nil => simp at hb1
      | cons x T =>
        have hb1 : x = some ⟨g, 3, cP p⟩ := by simpa using hb1
        exact ⟨T, by rw [hb1]⟩
    simp(maxSteps:=999999)(disch:=omega)only[go_sem,reduceAdd,reduceMul,reduceSub,reduceEqDiff,reduceLeDiff]
    rw [lwF_cons]
    simp(maxSteps:=999999)(disch:=omega)only[go_sem,reduceAdd,reduceMul,reduceSub,reduceEqDiff,reduceLeDiff]
    refine appendM_LL (E := eB) (xs := pf) (ys := [⟨5, 0⟩]) (sliceOf_of' ti60 rfl ti65) ⟨rfl, rfl, by decide, by decide⟩ hO ⟨by omega, by simp⟩ (elems_f (E := eB) (ys := [⟨5, 0⟩])) ?_
    intro c2 H2 hO2 hk4 hk5 hl2 hk6
    have hb2 : H2[0]? = some (some ⟨g, 3, cP p⟩) := by rw [hk4 0 (by simp) hn0]; rfl
    obtain ⟨T2, rfl⟩ : ∃ T2, H2 = some (⟨g, 3, cP p⟩ : Blk) :: T2 := by
      cases H2 with
      | nil => simp at hb2
      | cons x T => 
        have hb2 : x = some ⟨g, 3, cP p⟩ := by simpa using hb2
        exact ⟨T, by rw [hb2]⟩
    have hok : okM [true] T T2 = True := eq_true (okM_gen fun j b hj hb => by
      have hj1 : 1 ≤ j := by
        cases j with
        | zero => simp at hj
        | succ j => omega
      have hjl := (List.getElem?_eq_some_iff.1 hb).1
      have := hk4 (j + 1) (by simp; omega) fun hc => by
        rcases hk2 _ hc with h | h
        · exact h
        · simp at h; omega
      simp only [List.getElem?_cons_succ] at this
      rw [this]
      exact hb)
    simp(maxSteps:=999999)(disch:=omega)only[go_sem,reduceAdd,reduceMul,reduceSub,reduceEqDiff,reduceLeDiff, hok]
    refine OpS.rdD hR5 (⟨_, Try.func47, rfl, rfl⟩ : Enters Try.prog 47) rfl rfl (snap_two snapD_aP hO2.snap) rfl ?_
    simp(maxSteps:=999999)(disch:=omega)only[go_sem,reduceAdd,reduceMul,reduceSub,reduceEqDiff,reduceLeDiff]
    first | refine OpS.rd (aliveF_run) (⟨_, Try.func37, rfl, rfl⟩ : Enters Try.prog 37) rfl rfl rfl rfl ?_ | refine Loud.rd (aliveF_run) (⟨_, Try.func37, rfl, rfl⟩ : Enters Try.prog 37) rfl rfl rfl rfl ?_
    simp(maxSteps:=999999)(disch:=omega)only[go_sem,reduceAdd,reduceMul,reduceSub,reduceEqDiff,reduceLeDiff]
  | true =>
    have hh := prf_part hv (pf.length / 2)
    have hsub : sub pf 0 ((pf.length / 2 : Nat) : Int) = pf.take (pf.length / 2) := by
      unfold sub
      rw [Int.toNat_natCast]
      simp
    have hR := ProofValid_run p (sub pf 0 ((pf.length / 2 : Nat) : Int)) hs (by rw [hsub, List.length_take]; omega)
    rw [hsub, hh, ← hsub] at hR
    refine drawP_lM [0, 1, 2, 3, 4, 5, 6, 7, 8, 9, 10, 11, 12, 13, 14, 16, 17, 15, 18] [9, 13, 16, 17] none [19, 20, 21, 22, 23, 24, 25] [false, true] [0, 1, 3, 7, 7, 7, 39, 103, 247, 511, 1023, 2047, 4095, 4095, 4095, 28671, 4095, 69631, 258047, 524287, 1048575, 2097151, 4194303, 8388607, 16777215, 33554431] foll (by kernel_rfl) ?_
    iterate 9 (rw [lwF_cons]; simp(maxSteps:=999999)(disch:=omega)only[go_sem,reduceAdd,reduceMul,reduceSub,reduceEqDiff,reduceLeDiff, hd])
    rw [lwF_cons]
    simp(maxSteps:=999999)(disch:=omega)only[go_sem,reduceAdd,reduceMul,reduceSub,reduceEqDiff,reduceLeDiff]
    refine softW_call hR (⟨_, Try.func47, rfl, rfl⟩ : Enters Try.prog 47) rfl rfl (by
      intro x hm
      simp only [Call.operands, List.mem_toArray, Array.mem_append, List.mem_cons, List.not_mem_nil, or_false] at hm
      rcases hm with rfl | rfl | rfl <;> rfl) rfl ⟨rfl, rfl, rfl, rfl⟩ ?_
    simp(maxSteps:=999999)(disch:=omega)only[go_sem,reduceAdd,reduceMul,reduceSub,reduceEqDiff,reduceLeDiff]
    iterate 5 (rw [lwF_cons]; simp(maxSteps:=999999)(disch:=omega)only[go_sem,reduceAdd,reduceMul,reduceSub,reduceEqDiff,reduceLeDiff])
    rw [lwF_cons]
    simp(maxSteps:=999999)(disch:=omega)only[go_sem,reduceAdd,reduceMul,reduceSub,reduceEqDiff,reduceLeDiff]
    refine softW_agg (v := aB ⟨5, 0⟩) rfl (by
      intro x hm
      simp only [Op.operands, List.mem_toArray, List.mem_map, List.mem_cons, List.not_mem_nil, or_false] at hm
      obtain ⟨_, rfl, rfl⟩ := hm
      rfl) rfl (by
      simp only [opM]
      simp(maxSteps:=999999)(disch:=omega)only[go_sem,reduceAdd,reduceMul,reduceSub,reduceEqDiff,reduceLeDiff]
      first | done | rfl) ?_
    simp(maxSteps:=999999)(disch:=omega)only[go_sem,reduceAdd,reduceMul,reduceSub,reduceEqDiff,reduceLeDiff]
    rw [lwF_cons]
    simp(maxSteps:=999999)(disch:=omega)only[go_sem,reduceAdd,reduceMul,reduceSub,reduceEqDiff,reduceLeDiff]
    rw [lwF_cons]
    simp(maxSteps:=999999)(disch:=omega)only[go_sem,reduceAdd,reduceMul,reduceSub,reduceEqDiff,reduceLeDiff]
    refine appendM_LL (E := eB) (xs := []) (ys := pf) (sliceOf_of' ti60 rfl ti65) ⟨rfl, rfl, by decide, by decide⟩ .m ⟨by simp, by omega⟩ elems_f ?_
    intro c1 H1 hO hk1 hk2 hl1 hk3
    rw [List.nil_append] at hO
    have hb1 : H1[0]? = some (some ⟨g, 3, cP p⟩) := hk1 0 (by simp) (fun h => h)
    have hn0 : ¬ idsC c1 0 := fun h => by
      rcases hk2 0 h with h | h
      · exact h
      · simp at h
    obtain ⟨T, rfl⟩ : ∃ T, H1 = some (⟨g, 3, cP p⟩ : Blk) :: T := by
      cases H1 with
      | nil => simp at hb1
      | cons x T =>
        have hb1 : x = some ⟨g, 3, cP p⟩ := by simpa using hb1
        exact ⟨T, by rw [hb1]⟩
    simp(maxSteps:=999999)(disch:=omega)only[go_sem,reduceAdd,reduceMul,reduceSub,reduceEqDiff,reduceLeDiff]
    rw [lwF_cons]
    simp(maxSteps:=999999)(disch:=omega)only[go_sem,reduceAdd,reduceMul,reduceSub,reduceEqDiff,reduceLeDiff]
    refine appendM_LL (E := eB) (xs := pf) (ys := [⟨5, 0⟩]) (sliceOf_of' ti60 rfl ti65) ⟨rfl, rfl, by decide, by decide⟩ hO ⟨by omega, by simp⟩ (elems_f (E := eB) (ys := [⟨5, 0⟩])) ?_
    intro c2 H2 hO2 hk4 hk5 hl2 hk6
    have hb2 : H2[0]? = some (some ⟨g, 3, cP p⟩) := by rw [hk4 0 (by simp) hn0]; rfl
    obtain ⟨T2, rfl⟩ : ∃ T2, H2 = some (⟨g, 3, cP p⟩ : Blk) :: T2 := by
      cases H2 with
      | nil => simp at hb2
      | cons x T => 
        have hb2 : x = some ⟨g, 3, cP p⟩ := by simpa using hb2
        exact ⟨T, by rw [hb2]⟩
    have hok : okM [true] T T2 = True := eq_true (okM_gen fun j b hj hb => by
      have hj1 : 1 ≤ j := by
        cases j with
        | zero => simp at hj
        | succ j => omega
      have hjl := (List.getElem?_eq_some_iff.1 hb).1
      have := hk4 (j + 1) (by simp; omega) fun hc => by
        rcases hk2 _ hc with h | h
        · exact h
        · simp at h; omega
      simp only [List.getElem?_cons_succ] at this
      rw [this]
      exact hb)
    simp(maxSteps:=999999)(disch:=omega)only[go_sem,reduceAdd,reduceMul,reduceSub,reduceEqDiff,reduceLeDiff, hok]
    refine OpS.rdD hR5 (⟨_, Try.func47, rfl, rfl⟩ : Enters Try.prog 47) rfl rfl (snap_two snapD_aP hO2.snap) rfl ?_
    simp(maxSteps:=999999)(disch:=omega)only[go_sem,reduceAdd,reduceMul,reduceSub,reduceEqDiff,reduceLeDiff]
    first | refine OpS.rd (aliveF_run) (⟨_, Try.func37, rfl, rfl⟩ : Enters Try.prog 37) rfl rfl rfl rfl ?_ | refine Loud.rd (aliveF_run) (⟨_, Try.func37, rfl, rfl⟩ : Enters Try.prog 37) rfl rfl rfl rfl ?_
    simp(maxSteps:=999999)(disch:=omega)only[go_sem,reduceAdd,reduceMul,reduceSub,reduceEqDiff,reduceLeDiff]
end Go.Lg
