/- GpNG, GpNH, cut to what is needed. -/
import Derived.Test.YtcopagjhklcokaaSae5
import Derived.Test.YtcopagjhklcokaaSae8
import Derived.Test.YtcopagjhklcokaaSae2
import Derived.Test.YtcopagjhklcokaaSae1
import Derived.Test.YtcopagjhklcokaaSab9
import Derived.Test.YtcopagjhklcokaaSad7
import Derived.Test.YtcopagjhklcokaaSab7
open Nat(reduceAdd reduceMul reduceSub reduceEqDiff reduceLeDiff)
set_option linter.unusedSimpArgs false
set_option linter.unusedVariables false
set_option maxRecDepth 100000
namespace Go.Lg
open Go.Proofs
theorem binA_brn {P : Program} {H : Heap} {t : TypeId} (h : intStr P t 2 = true) (a b : Brn) : binA P H .neq t (aB a) (aB b) = some (bool (!decide (a = b))) := by
  have e : aggV P .neq t (cB a) (cB b) = if intStr P t 2 = true ∧ 2 = 2 then some (bool (!decide ([a.tech, a.cell] = [b.tech, b.cell]))) else none := rfl
  have e2 : decide ([a.tech, a.cell] = [b.tech, b.cell]) = decide (a = b) := by
    obtain ⟨a1, a2⟩ := a
    obtain ⟨b1, b2⟩ := b
    rw [decide_eq_decide]
    simp
  show aggV P .neq t (cB a) (cB b) = _
  rw [e, if_pos ⟨h, rfl⟩, e2]
theorem brn_str : intStr Try.prog 103 2 = true := by decide +kernel
theorem sameProof_run (xs ys : List Brn) (hx : xs.length ≤ 2 ^ 40) : Reads Try.prog 55 [rsl eB xs, rsl eB ys] (bool (decide (xs = ys))) := by
  have hbA := fun (H : Heap) (a b : Brn) => binA_brn (H := H) brn_str a b
  refine RunCall.cw (c := _) Try.func55 rfl (n := 26) Try.ntmps55 (rs := [.tmp 4]) rfl ?_
  simp only [List.length_cons, List.length_nil, Nat.reduceAdd, Nat.reduceSub, List.replicate, List.cons_append, List.nil_append]
  simp(maxSteps:=999999)(disch:=omega)only[go_sem,reduceAdd,reduceMul,reduceSub,reduceEqDiff,reduceLeDiff]
  ((first | with_reducible refine condK_dec ?_ ?_ | with_reducible refine condK_ndec ?_ ?_ | with_reducible refine condK_nb ?_ ?_ | refine condK_b ?_ ?_) <;> intro h)
  rotate_left
  · simp(maxSteps:=999999)(disch:=omega)only[go_sem,reduceAdd,reduceMul,reduceSub,reduceEqDiff,reduceLeDiff]
    rw [eq_comm, decide_eq_false_iff_not]
    intro h2
    exact h (by rw [h2])
  have hl : xs.length = ys.length := by omega
  simp(maxSteps:=999999)(disch:=omega)only[go_sem,reduceAdd,reduceMul,reduceSub,reduceEqDiff,reduceLeDiff]
  refine loop_rule (fun i : Nat => xs.length - i) (fun i => i ≤ xs.length ∧ ∀ j : Nat, j < i → nth xs j = nth ys j) (fun i => [.k, .k, .a, .a, .a, .p (int i), .a, .a, .a, .a, .a, .a, .a, .a, .a, .a, .a, .a, .a, .a, .a, .a, .a, .a, .a, .a]) (fun i => []) 0
    ⟨Nat.zero_le _, fun j hj => absurd hj (Nat.not_lt_zero _)⟩ (by simp(maxSteps:=999999)(disch:=omega)only[go_sem,reduceAdd,reduceMul,reduceSub,reduceEqDiff,reduceLeDiff]; rfl) (hle_nil _) ?_
  rintro i ⟨hi, hall⟩
  simp(maxSteps:=999999)(disch:=omega)only[go_sem,reduceAdd,reduceMul,reduceSub,reduceEqDiff,reduceLeDiff]
  ((first | with_reducible refine condK_dec ?_ ?_ | with_reducible refine condK_ndec ?_ ?_ | with_reducible refine condK_nb ?_ ?_ | refine condK_b ?_ ?_) <;> intro h)
  · have h : i < xs.length := by omega
    simp(maxSteps:=999999)(disch:=omega)only[go_sem,reduceAdd,reduceMul,reduceSub,reduceEqDiff,reduceLeDiff]
    refine drawP_q foll (by kernel_rfl) ?_
    simp (maxSteps := 1000000) (disch := omega) only [go_sem, Nat.reduceBEq, Bool.true_or, Nat.reduceAdd, Nat.reduceMul, Nat.reduceSub, Nat.reduceEqDiff, Nat.reduceLeDiff]
    simp(maxSteps:=999999)(disch:=omega)only[go_sem,reduceAdd,reduceMul,reduceSub,reduceEqDiff,reduceLeDiff, hbA]
    ((first | with_reducible refine condK_dec ?_ ?_ | with_reducible refine condK_ndec ?_ ?_ | with_reducible refine condK_nb ?_ ?_ | refine condK_b ?_ ?_) <;> intro h2)
    · simp(maxSteps:=999999)(disch:=omega)only[go_sem,reduceAdd,reduceMul,reduceSub,reduceEqDiff,reduceLeDiff]
      refine ⟨i + 1, ⟨⟨by omega, fun j hj => ?_⟩, by omega⟩, by push_cast; omega, hle_nil _⟩
      rcases Nat.lt_succ_iff_lt_or_eq.1 hj with hj | rfl
      · exact hall j hj
      · exact h2
    · simp(maxSteps:=999999)(disch:=omega)only[go_sem,reduceAdd,reduceMul,reduceSub,reduceEqDiff,reduceLeDiff]
      rw [eq_comm, decide_eq_false_iff_not]
      intro h3
      exact h2 (by rw [h3])
  · simp(maxSteps:=999999)(disch:=omega)only[go_sem,reduceAdd,reduceMul,reduceSub,reduceEqDiff,reduceLeDiff]
    rw [decide_eq_true (ext_nth hl fun j hj => hall j (by omega))]
end Go.Lg

set_option linter.unusedSimpArgs false
set_option linter.unusedVariables false
set_option maxRecDepth 100000
namespace Go.Lg
open Go.Proofs
attribute [-go_sem] appendM
theorem frz_own0 {g : Nat} {xs : List Int} : frzA [some ⟨g, 1, cl (eI .i64) xs⟩] (.c (.own 0 g 0 xs.length none)) = some (ints xs) := by
  have h := (OwnI.o (H := [some ⟨g, 1, cl (eI .i64) xs⟩]) 0 g none xs [] (by rw [List.append_nil]; exact look_of (b := ⟨g, 1, cl (eI .i64) xs⟩) rfl)).frzC
  simp only [frzA, frz1, h]
  rfl
theorem cl_zeros (n : Nat) : cl (eI .i64) (List.replicate n 0) = List.replicate n (.f (.int .i64 0)) := by
  induction n with
  | zero => rfl
  | succ n ih =>
    rw [List.replicate_succ, List.replicate_succ, ← ih]
    rfl
theorem softW_makeI {P : Program} {ops : Array Oper} {o : Oper} {s : List AV} {K : AV → Prop} {t : TypeId} {l c : Operand} {ei : TI} {n : Nat} (ho : o.op = .makeSlice t l c) (hs : sliceOf P t = some ei)
    (hz : ei.zero = [.f (.int .i64 0)] ∧ ei.size = 1 ∧ ei.bytes = 8) (hl : evO s l = int n) (hc : evO s c = int n) (hn : n ≤ 2 ^ 40) (hk : K (ints (List.replicate n 0))) : softW P ops o s K := by
  obtain ⟨hz1, hz2, hz3⟩ := hz
  unfold softW
  rw [ho]
  refine ⟨ints (List.replicate n 0), fun H => Soft.ops (fun x hx => ?_) rfl (fun s' hs' => ?_), hk⟩
  · rw [ho] at hx
    have : x = l ∨ x = c := by simpa [Op.operands] using hx
    rcases this with rfl | rfl
    · rw [hl]; rfl
    · rw [hc]; rfl
  · refine opM_sound ?_
    have e1 : evO s' l = int n := by rw [hs' l (by rw [ho]; simp [Op.operands])]; exact hl
    have e2 : evO s' c = int n := by rw [hs' c (by rw [ho]; simp [Op.operands])]; exact hc
    unfold opM
    rw [ho]
    show makeM P [] t (evO s' l) (evO s' c) _
    unfold makeM
    rw [hs, e1, e2]
    refine ⟨⟨by rw [hz1, hz2]; rfl, ⟨by omega, by omega⟩, by omega, by rw [hz3]; omega⟩, fun g => ?_⟩
    rw [hz1, hz2, zerosL_one, cnt_nat, Nat.mul_one, ← cl_zeros]
    have := frz_own0 (g := g) (xs := List.replicate n 0)
    rw [List.length_replicate] at this
    exact this
theorem first_mem {p : Puz} (h : 0 < (allS p 1).length) : firstV p ∈ allL p := by
  have e : firstV p = (allS p 1)[0] := by unfold firstV; rw [nth_eq (by omega)]; rfl
  rw [e]
  have h2 : ∀ s ∈ allS p 1, s ∈ allL p := fun s hs => by rw [allS_take] at hs; exact List.mem_of_mem_take hs
  exact h2 _ (List.getElem_mem h)
theorem first_len {p : Puz} (h : 0 < (allS p 1).length) : (firstV p).length = p.given.length := by
  have hv : puzzleValid p = true := by
    by_cases hv : puzzleValid p = true
    · exact hv
    · rw [allS_no hv] at h; cases h
  have e : firstV p = (allS p 1)[0] := by unfold firstV; rw [nth_eq (by omega)]; rfl
  rw [e]
  exact allS_cell hv (List.getElem_mem _)
set_option maxHeartbeats 4000000 in
theorem law_FnProofHints (code : List Int) (hl : code.length ≤ 9223372036854775807) (hw : ∀ x ∈ code, (Lit.int .u8 x).wf = true) : Reads Try.prog 13 [rsl (eI .u8) code] (bool true) := by
  refine RunCall.cw (c := _) Try.func13 rfl (n := 81) Try.ntmps13 (rs := [.tmp 2]) rfl ?_
  simp only [List.length_cons, List.length_nil, Nat.reduceAdd, Nat.reduceSub, List.replicate, List.cons_append, List.nil_append]
  simp(maxSteps:=999999)(disch:=omega)only[go_sem,reduceAdd,reduceMul,reduceSub,reduceEqDiff,reduceLeDiff]
  ((first | with_reducible refine condK_dec ?_ ?_ | with_reducible refine condK_ndec ?_ ?_ | with_reducible refine condK_nb ?_ ?_ | refine condK_b ?_ ?_) <;> intro h1)
  · simp(maxSteps:=999999)(disch:=omega)only[go_sem,reduceAdd,reduceMul,reduceSub,reduceEqDiff,reduceLeDiff]
  simp(maxSteps:=999999)(disch:=omega)only[go_sem,reduceAdd,reduceMul,reduceSub,reduceEqDiff,reduceLeDiff]
  refine OpS.mkF (DrawMakeProof_run code (wf_u8' hw) (by omega)) (⟨_, Try.func54, rfl, rfl⟩ : Enters Try.prog 54) rfl rfl rfl ?_
  rintro _ ⟨p, rfl, hp⟩
  refine ⟨rfl, rfl, ?_⟩
  have hs := hp.sm
  have hgl := hp.1
  have hbb : decide (makeB p = makeB p) = true := decide_eq_true rfl
  simp(maxSteps:=999999)(disch:=omega)only[go_sem,reduceAdd,reduceMul,reduceSub,reduceEqDiff,reduceLeDiff]
  intro g
  first | refine OpS.mk (mprQ_rd (MakeProof_own p hs)) (⟨_, Try.func42, rfl, rfl⟩ : Enters Try.prog 42) rfl rfl rfl rfl rfl ?_ | refine Loud.mk (mprQ_rd (MakeProof_own p hs)) (⟨_, Try.func42, rfl, rfl⟩ : Enters Try.prog 42) rfl rfl rfl rfl rfl ?_
  simp(maxSteps:=999999)(disch:=omega)only[go_sem,reduceAdd,reduceMul,reduceSub,reduceEqDiff,reduceLeDiff]
  first | refine OpS.mk (mprQ_rd (sMakeProof_own p hs)) (⟨_, Try.func41, rfl, rfl⟩ : Enters Try.prog 41) rfl rfl rfl rfl rfl ?_ | refine Loud.mk (mprQ_rd (sMakeProof_own p hs)) (⟨_, Try.func41, rfl, rfl⟩ : Enters Try.prog 41) rfl rfl rfl rfl rfl ?_
  simp(maxSteps:=999999)(disch:=omega)only[go_sem,reduceAdd,reduceMul,reduceSub,reduceEqDiff,reduceLeDiff]
  first | refine OpS.rd (sameProof_run (makeL p) (makeL p) (by have := makeL_len p; omega)) (⟨_, Try.func55, rfl, rfl⟩ : Enters Try.prog 55) rfl rfl rfl rfl ?_ | refine Loud.rd (sameProof_run (makeL p) (makeL p) (by have := makeL_len p; omega)) (⟨_, Try.func55, rfl, rfl⟩ : Enters Try.prog 55) rfl rfl rfl rfl ?_
  simp(maxSteps:=999999)(disch:=omega)only[go_sem,reduceAdd,reduceMul,reduceSub,reduceEqDiff,reduceLeDiff]
  first | refine OpS.mk (SolveFirst_run p hs) (⟨_, Try.func20, rfl, rfl⟩ : Enters Try.prog 20) rfl rfl rfl rfl rfl ?_ | refine Loud.mk (SolveFirst_run p hs) (⟨_, Try.func20, rfl, rfl⟩ : Enters Try.prog 20) rfl rfl rfl rfl rfl ?_
  simp(maxSteps:=999999)(disch:=omega)only[go_sem,reduceAdd,reduceMul,reduceSub,reduceEqDiff,reduceLeDiff]
  ((first | with_reducible refine condK_dec ?_ ?_ | with_reducible refine condK_ndec ?_ ?_ | with_reducible refine condK_nb ?_ ?_ | refine condK_b ?_ ?_) <;> intro c1)
  rotate_left
  · simp(maxSteps:=999999)(disch:=omega)only[go_sem,reduceAdd,reduceMul,reduceSub,reduceEqDiff,reduceLeDiff]
    first | refine OpS.rd (aliveF_run) (⟨_, Try.func18, rfl, rfl⟩ : Enters Try.prog 18) rfl rfl rfl rfl ?_ | refine Loud.rd (aliveF_run) (⟨_, Try.func18, rfl, rfl⟩ : Enters Try.prog 18) rfl rfl rfl rfl ?_
    simp(maxSteps:=999999)(disch:=omega)only[go_sem,reduceAdd,reduceMul,reduceSub,reduceEqDiff,reduceLeDiff]
  simp(maxSteps:=999999)(disch:=omega)only[go_sem,reduceAdd,reduceMul,reduceSub,reduceEqDiff,reduceLeDiff]
  refine drawP_lM [0, 1, 2, 3, 4, 5, 6, 7, 8, 9] [3, 4] none [10] [false, true] [0, 0, 2, 6, 15, 31, 63, 63, 0, 383, 1023] foll (by kernel_rfl) ?_
  simp(maxSteps:=999999)(disch:=omega)only[go_sem,reduceAdd,reduceMul,reduceSub,reduceEqDiff,reduceLeDiff]
  have hf := first_mem c1
  have hzl : (firstV p).length ≤ 2 ^ 40 := by have := first_len c1; omega
  obtain ⟨S, hS⟩ : ∃ S, S = firstV p := ⟨_, rfl⟩
  rw [← hS] at hf hzl ⊢
  refine softW_makeI (n := S.length) rfl (sliceOf_of' ti23 rfl ti3) ⟨rfl, rfl, rfl⟩ rfl rfl hzl ?_
  simp(maxSteps:=999999)(disch:=omega)only[go_sem,reduceAdd,reduceMul,reduceSub,reduceEqDiff,reduceLeDiff]
  refine softW_call (NextHint_run p (List.replicate S.length 0) hs (by rw [List.length_replicate]; omega)) (⟨_, Try.func32, rfl, rfl⟩ : Enters Try.prog 32) rfl rfl (by
    intro x hm
    simp only [Call.operands, List.mem_toArray, Array.mem_append, List.mem_cons, List.not_mem_nil, or_false] at hm
    rcases hm with rfl | rfl | rfl <;> rfl) rfl ⟨rfl, rfl, rfl, rfl⟩ ?_
  simp(maxSteps:=999999)(disch:=omega)only[go_sem,reduceAdd,reduceMul,reduceSub,reduceEqDiff,reduceLeDiff]
  intro g2
  cases hb : hintB p (List.replicate S.length 0) with
  | false =>
    refine drawP_q foll (by kernel_rfl) ?_
    simp (maxSteps := 1000000) (disch := omega) only [go_sem, Nat.reduceBEq, Bool.true_or, Nat.reduceAdd, Nat.reduceMul, Nat.reduceSub, Nat.reduceEqDiff, Nat.reduceLeDiff]
  | true =>
    obtain ⟨_, k, v, hk, h1, h2, h3, h4, h5, h6⟩ := hint_facts hb
    rw [List.length_replicate] at hk
    have hval := hint_sound (s := S) hb (by rw [ext_zero]; exact hf)
    obtain ⟨⟨tt, kk, vv⟩, hh⟩ : ∃ h, h = hintV p (List.replicate S.length 0) := ⟨_, rfl⟩
    rw [← hh] at h1 h2 hval ⊢
    simp only at h1 h2 hval
    subst h1
    subst h2
    simp(maxSteps:=999999)(disch:=omega)only[go_sem,reduceAdd,reduceMul,reduceSub,reduceEqDiff,reduceLeDiff]
    refine drawP_q foll (by kernel_rfl) ?_
    simp (maxSteps := 1000000) (disch := omega) only [go_sem, Nat.reduceBEq, Bool.true_or, Nat.reduceAdd, Nat.reduceMul, Nat.reduceSub, Nat.reduceEqDiff, Nat.reduceLeDiff]
    have e1 : decide (nth S (k : Int) = v) = true := decide_eq_true hval
    simp (maxSteps := 1000000) (disch := omega) only [go_sem, lt_no, lt_yes, le_no, le_yes, eq_no, eq_yes, Nat.reduceAdd, Nat.reduceMul, Nat.reduceSub, Nat.reduceEqDiff, Nat.reduceLeDiff]
    refine quietW.rd (CountSolutions_run p 2 hs) (⟨_, Try.func19, rfl, rfl⟩ : Enters Try.prog 19) rfl rfl rfl rfl ?_
    simp(maxSteps:=999999)(disch:=omega)only[go_sem,reduceAdd,reduceMul,reduceSub,reduceEqDiff,reduceLeDiff]
    ((first | with_reducible refine guardK_dec ?_ ?_ | with_reducible refine guardK_ndec ?_ ?_ | with_reducible refine guardK_nb ?_ ?_ | with_reducible refine guardK_split ?_ ?_ | with_reducible refine guardQ_dec ?_ ?_ | with_reducible refine guardL_dec ?_ ?_ | with_reducible refine guardQ_ndec ?_ ?_ | with_reducible refine guardL_ndec ?_ ?_ | with_reducible refine guardQ_nb ?_ ?_ | with_reducible refine guardL_nb ?_ ?_ | with_reducible refine guardQ_split ?_ ?_ | with_reducible refine guardL_split ?_ ?_) <;> intro c2 <;> simp(maxSteps:=999999)(disch:=omega)only[go_sem,reduceAdd,reduceMul,reduceSub,reduceEqDiff,reduceLeDiff, c2])
    exact hval
end Go.Lg
