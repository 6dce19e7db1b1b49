/- GpTI, GpTL, GpTJ, GpTK, GpGF, GpGG, GpIB, GpNG, cut to what is needed. -/
import Derived.Test.YtcopagjhklcokaaSbe5
import Derived.Test.YtcopagjhklcokaaSbe4
import Derived.Test.YtcopagjhklcokaaSbc5
import Derived.Test.YtcopagjhklcokaaSbb4
import Derived.Test.YtcopagjhklcokaaSbb3
import Derived.Test.YtcopagjhklcokaaSbe1
import Derived.Test.YtcopagjhklcokaaSbb9
import Derived.Test.YtcopagjhklcokaaSbe0
import Derived.Test.YtcopagjhklcokaaSbc4
import Derived.Test.YtcopagjhklcokaaSbd8
import Derived.Test.YtcopagjhklcokaaSbd5
open Nat(reduceAdd reduceMul reduceSub reduceEqDiff reduceLeDiff)
set_option linter.unusedSimpArgs false
set_option linter.unusedVariables false
set_option maxRecDepth 100000
namespace Go.Lg
open Go.Proofs
attribute [-go_sem] appendM
def makeB (p : Puz) : Bool := puzzleValid p && decide ((mkF p 201 (startM p) []).length ≤ 200)
def makeL (p : Puz) : List Brn := if makeB p = true then mkF p 201 (startM p) [] else []
theorem makeL_len (p : Puz) : (makeL p).length ≤ 200 := by
  unfold makeL
  split
  · rename_i h
    simp only [makeB, Bool.and_eq_true, decide_eq_true_eq] at h
    exact h.2
  · simp
def mprQ (p : Puz) : KV := fun v H => ∃ c, v = .tup [.c c, bool (makeB p)] ∧ OwnL eB 2 H c (makeL p) ∧ scalH H ∧ c ≠ .emp
theorem OwnL.ofLook {H : Heap} {id g : Nat} {xs : List Brn} {k : Nat} (h : look H id g = some ⟨g, 2, cl eB xs⟩) (hk : xs.length = k) : OwnL eB 2 H (.own id g 0 k none) xs := by
  subst hk
  exact .o id g xs h
theorem lessQ_mpr {H : Heap} {c : CV} {p : Puz} {b : Bool} {L : List Brn} (e1 : makeB p = b) (e2 : makeL p = L) (h : OwnL eB 2 H c L) (hc : c ≠ .emp := by intro h; cases h) : lessQ H (mprQ p) (.tup [.c c, bool b]) := by
  subst e1
  subst e2
  generalize hL : makeL p = L at h
  cases h with
  | n => exact ⟨[], hle_nil _, _, rfl, by rw [hL]; exact .n, fun id b hb => by simp at hb, hc⟩
  | m => exact absurd rfl hc
  | o id g xs h =>
    have hlt : id < H.length := (List.getElem?_eq_some_iff.1 (look_some h).1).1
    refine ⟨keepH [id] H, keepH_le _ _, _, rfl, ?_, scalH_keep fun i hi b hb c hc => ?_, hc⟩
    · rw [hL]
      refine OwnL.ofLook ?_ rfl
      unfold look at h ⊢
      rw [keepH_get (by simp) hlt]
      exact h
    · have : i = id := by simpa using hi
      subst this
      rw [(look_some h).1] at hb
      cases hb
      obtain ⟨x, hx, rfl⟩ := List.mem_map.1 hc
      obtain ⟨y, _, hy⟩ := List.mem_flatMap.1 hx
      have hy : x ∈ [FV.int .i64 y.tech, FV.int .i64 y.cell] := hy
      simp only [List.mem_cons, List.not_mem_nil, or_false] at hy
      rcases hy with rfl | rfl <;> rfl
set_option maxHeartbeats 4000000 in
theorem sMakeProof_own (p : Puz) (hx : smP p) : RunCall Try.prog 41 [aP p] [] (mprQ p) := by
  refine RunCall.cw (c := _) Try.func41 rfl (n := 19) Try.ntmps41 (rs := [.tmp 2, .tmp 3]) rfl ?_
  simp only [List.length_cons, List.length_nil, Nat.reduceAdd, Nat.reduceSub, List.replicate, List.cons_append, List.nil_append]
  simp(maxSteps:=999999)(disch:=omega)only[go_sem,reduceAdd,reduceMul,reduceSub,reduceEqDiff,reduceLeDiff]
  intro g g2 g3
  first | refine OpS.rd (sPuzzleValid_run p hx) (⟨_, Try.func25, rfl, rfl⟩ : Enters Try.prog 25) rfl rfl rfl rfl ?_ | refine Loud.rd (sPuzzleValid_run p hx) (⟨_, Try.func25, rfl, rfl⟩ : Enters Try.prog 25) rfl rfl rfl rfl ?_
  simp(maxSteps:=999999)(disch:=omega)only[go_sem,reduceAdd,reduceMul,reduceSub,reduceEqDiff,reduceLeDiff]
  cases hv : puzzleValid p with
  | false =>
    have e1 : makeB p = false := by unfold makeB; rw [hv]; rfl
    have e2 : makeL p = [] := by unfold makeL; rw [e1]; rfl
    ((first | with_reducible refine condK_dec ?_ ?_ | with_reducible refine condK_ndec ?_ ?_ | with_reducible refine condK_nb ?_ ?_ | refine condK_b ?_ ?_) <;> intro c0)
    · cases c0
    simp(maxSteps:=999999)(disch:=omega)only[go_sem,reduceAdd,reduceMul,reduceSub,reduceEqDiff,reduceLeDiff]
    exact lessQ_mpr e1 e2 (OwnL.ofLook (H := [some ⟨g, 1, cP p⟩, some ⟨g2, 2, cl eB []⟩, some ⟨g3, 1, [.own 1 g2 0 0 none]⟩]) (look_of (b := ⟨g2, 2, cl eB []⟩) rfl) rfl)
  | true =>
    obtain ⟨hp, hg⟩ := puz_factsT hv
    have hlen := mkF_len p 201 (startM p) [] (by simp)
    have hcl := l20Make_run hp hv 201 (startM p) [] [some ⟨g, 1, cP p⟩, some ⟨g2, 2, cl eB []⟩, some ⟨g3, 1, [.own 1 g2 0 0 none]⟩] 1 2 g2 g3 (startM_ok hp hg) (by simp) (by simp) (look_of (b := ⟨g2, 2, cl eB []⟩) rfl) (look_of (b := ⟨g3, 1, [.own 1 g2 0 0 none]⟩) rfl) (by omega)
    ((first | with_reducible refine condK_dec ?_ ?_ | with_reducible refine condK_ndec ?_ ?_ | with_reducible refine condK_nb ?_ ?_ | refine condK_b ?_ ?_) <;> intro c0)
    rotate_left
    · cases c0
    simp(maxSteps:=999999)(disch:=omega)only[go_sem,reduceAdd,reduceMul,reduceSub,reduceEqDiff,reduceLeDiff]
    refine drawP_lF [0, 1, 2] [] none [3] [] foll (by kernel_rfl) ?_
    simp (maxSteps := 1000000) (disch := omega) only [go_sem, Nat.reduceBEq, Bool.true_or, Nat.reduceAdd, Nat.reduceMul, Nat.reduceSub, Nat.reduceEqDiff, Nat.reduceLeDiff]
    first | refine OpS.mk (sStartMasks_run hp hv hg) (⟨_, Try.func77, rfl, rfl⟩ : Enters Try.prog 77) rfl rfl rfl rfl rfl ?_ | refine Loud.mk (sStartMasks_run hp hv hg) (⟨_, Try.func77, rfl, rfl⟩ : Enters Try.prog 77) rfl rfl rfl rfl rfl ?_
    simp(maxSteps:=999999)(disch:=omega)only[go_sem,reduceAdd,reduceMul,reduceSub,reduceEqDiff,reduceLeDiff]
    refine OpS.run hcl (⟨_, Try.func89, rfl, rfl⟩ : Enters Try.prog 89) rfl rfl ?_
    rintro _ H' ⟨rfl, g', h1, h2, h3⟩
    obtain ⟨R, hR⟩ : ∃ R, R = mkF p 201 (startM p) [] := ⟨_, rfl⟩
    rw [← hR] at h1 h2 hlen
    have hB : makeB p = decide (R.length ≤ 200) := by unfold makeB; rw [hv, Bool.true_and, hR]
    simp(maxSteps:=999999)(disch:=omega)only[go_sem,reduceAdd,reduceMul,reduceSub,reduceEqDiff,reduceLeDiff, h1, h2]
    ((first | with_reducible refine condK_dec ?_ ?_ | with_reducible refine condK_ndec ?_ ?_ | with_reducible refine condK_nb ?_ ?_ | refine condK_b ?_ ?_) <;> intro c1)
    · have e1 : makeB p = false := by rw [hB]; exact decide_eq_false (by omega)
      have e2 : makeL p = [] := by unfold makeL; rw [e1]; rfl
      simp(maxSteps:=999999)(disch:=omega)only[go_sem,reduceAdd,reduceMul,reduceSub,reduceEqDiff,reduceLeDiff]
      intro g9
      exact lessQ_mpr e1 e2 (OwnL.ofLook (xs := []) look_last rfl)
    · have e1 : makeB p = true := by rw [hB]; exact decide_eq_true (by omega)
      have e2 : makeL p = R := by unfold makeL; rw [e1, hR]; rfl
      simp(maxSteps:=999999)(disch:=omega)only[go_sem,reduceAdd,reduceMul,reduceSub,reduceEqDiff,reduceLeDiff, h2]
      exact lessQ_mpr e1 e2 (OwnL.ofLook h1 rfl)
set_option maxHeartbeats 4000000 in
theorem MakeProof_own (p : Puz) (hx : smP p) : RunCall Try.prog 42 [aP p] [] (mprQ p) := by
  refine RunCall.cw (c := _) Try.func42 rfl (n := 17) Try.ntmps42 (rs := [.tmp 2, .tmp 3]) rfl ?_
  simp only [List.length_cons, List.length_nil, Nat.reduceAdd, Nat.reduceSub, List.replicate, List.cons_append, List.nil_append]
  simp(maxSteps:=999999)(disch:=omega)only[go_sem,reduceAdd,reduceMul,reduceSub,reduceEqDiff,reduceLeDiff]
  intro g
  first | refine OpS.rd (PuzzleValid_run p hx) (⟨_, Try.func66, rfl, rfl⟩ : Enters Try.prog 66) rfl rfl rfl rfl ?_ | refine Loud.rd (PuzzleValid_run p hx) (⟨_, Try.func66, rfl, rfl⟩ : Enters Try.prog 66) rfl rfl rfl rfl ?_
  simp(maxSteps:=999999)(disch:=omega)only[go_sem,reduceAdd,reduceMul,reduceSub,reduceEqDiff,reduceLeDiff]
  cases hv : puzzleValid p with
  | false =>
    have e1 : makeB p = false := by unfold makeB; rw [hv]; rfl
    have e2 : makeL p = [] := by unfold makeL; rw [e1]; rfl
    ((first | with_reducible refine condK_dec ?_ ?_ | with_reducible refine condK_ndec ?_ ?_ | with_reducible refine condK_nb ?_ ?_ | refine condK_b ?_ ?_) <;> intro c0)
    · cases c0
    simp(maxSteps:=999999)(disch:=omega)only[go_sem,reduceAdd,reduceMul,reduceSub,reduceEqDiff,reduceLeDiff]
    exact lessQ_mpr e1 e2 (.n)
  | true =>
    obtain ⟨hp, hg⟩ := puz_factsT hv
    have hlen := mkF_len p 201 (startM p) [] (by simp)
    ((first | with_reducible refine condK_dec ?_ ?_ | with_reducible refine condK_ndec ?_ ?_ | with_reducible refine condK_nb ?_ ?_ | refine condK_b ?_ ?_) <;> intro c0)
    rotate_left
    · cases c0
    simp(maxSteps:=999999)(disch:=omega)only[go_sem,reduceAdd,reduceMul,reduceSub,reduceEqDiff,reduceLeDiff]
    refine drawP_lM [0, 1, 2, 3] [2] none [4, 5] [false, true] [0, 0, 2, 0, 15, 31] foll (by kernel_rfl) ?_
    simp(maxSteps:=999999)(disch:=omega)only[go_sem,reduceAdd,reduceMul,reduceSub,reduceEqDiff,reduceLeDiff]
    refine softW_call (StartMasks_run hp hv hg) (⟨_, Try.func84, rfl, rfl⟩ : Enters Try.prog 84) rfl rfl (by
      intro x hm
      simp only [Call.operands, List.mem_toArray, Array.mem_append, List.mem_cons, List.not_mem_nil, or_false] at hm
      rcases hm with rfl | rfl <;> rfl) rfl ⟨rfl, rfl, rfl, rfl⟩ ?_
    simp(maxSteps:=999999)(disch:=omega)only[go_sem,reduceAdd,reduceMul,reduceSub,reduceEqDiff,reduceLeDiff]
    intro g2
    have hcl := makeLines_run hp hv 201 (startM p) [] [some ⟨g, 1, cP p⟩, some ⟨g2, 2, cl eB []⟩] 1 g2 (startM_ok hp hg) (by simp) (by simp) (look_of (b := ⟨g2, 2, cl eB []⟩) rfl)
    refine OpS.run hcl (⟨_, Try.func90, rfl, rfl⟩ : Enters Try.prog 90) rfl rfl ?_
    rintro _ H' ⟨g', rfl, h1, h3⟩
    obtain ⟨R, hR⟩ : ∃ R, R = mkF p 201 (startM p) [] := ⟨_, rfl⟩
    rw [← hR] at h1 hlen ⊢
    have hB : makeB p = decide (R.length ≤ 200) := by unfold makeB; rw [hv, Bool.true_and, hR]
    simp(maxSteps:=999999)(disch:=omega)only[go_sem,reduceAdd,reduceMul,reduceSub,reduceEqDiff,reduceLeDiff, h1]
    ((first | with_reducible refine condK_dec ?_ ?_ | with_reducible refine condK_ndec ?_ ?_ | with_reducible refine condK_nb ?_ ?_ | refine condK_b ?_ ?_) <;> intro c1)
    · have e1 : makeB p = false := by rw [hB]; exact decide_eq_false (by omega)
      have e2 : makeL p = [] := by unfold makeL; rw [e1]; rfl
      simp(maxSteps:=999999)(disch:=omega)only[go_sem,reduceAdd,reduceMul,reduceSub,reduceEqDiff,reduceLeDiff]
      exact lessQ_mpr e1 e2 (.n)
    · have e1 : makeB p = true := by rw [hB]; exact decide_eq_true (by omega)
      have e2 : makeL p = R := by unfold makeL; rw [e1, hR]; rfl
      simp(maxSteps:=999999)(disch:=omega)only[go_sem,reduceAdd,reduceMul,reduceSub,reduceEqDiff,reduceLeDiff]
      exact lessQ_mpr e1 e2 (OwnL.ofLook h1 rfl)
end Go.Lg

set_option linter.unusedSimpArgs false
set_option linter.unusedVariables false
set_option maxRecDepth 100000
namespace Go.Lg
open Go.Proofs
structure RdW (c : Nat → List Brn → Option (Nat × List Brn)) (W : List Brn) : Prop where
  all : ∀ f, W.length < f → ∀ rest, ∃ m, c f (W ++ rest) = some (m, rest)
  pre : ∀ f, W.length < f → ∀ i, i < W.length → c f (W.take i) = none
theorem try_all {c : List Nat → List Brn → Option (Nat × List Brn)} {ms : List Nat} {k : Nat} {v : Int} {vs : List Int} {W U rest : List Brn} {s : Nat}
    (h1 : ∀ rest, ∃ m, c (ms.set k (2 ^ v.toNat)) (W ++ rest) = some (m, rest)) (h2 : ∀ s, ∃ m, tryL c ms k vs (U ++ rest) s = some (m, rest)) : ∃ m, tryL c ms k (v :: vs) (W ++ U ++ rest) s = some (m, rest) := by
  obtain ⟨m1, e1⟩ := h1 (U ++ rest)
  obtain ⟨m2, e2⟩ := h2 (s + m1)
  refine ⟨m2, ?_⟩
  unfold tryL
  rw [List.append_assoc, e1]
  exact e2
theorem try_pre {c : List Nat → List Brn → Option (Nat × List Brn)} {ms : List Nat} {k : Nat} {v : Int} {vs : List Int} {W U : List Brn} {s i : Nat}
    (h1 : ∀ rest, ∃ m, c (ms.set k (2 ^ v.toNat)) (W ++ rest) = some (m, rest)) (h1' : ∀ i, i < W.length → c (ms.set k (2 ^ v.toNat)) (W.take i) = none) (h2 : ∀ s i, i < U.length → tryL c ms k vs (U.take i) s = none) (hi : i < (W ++ U).length) : tryL c ms k (v :: vs) ((W ++ U).take i) s = none := by
  unfold tryL
  rw [List.take_append]
  by_cases hw : i < W.length
  · rw [show i - W.length = 0 by omega, List.take_zero, List.append_nil, h1' i hw]
  · rw [List.take_of_length_le (by omega)]
    obtain ⟨m1, e1⟩ := h1 (U.take (i - W.length))
    rw [e1]
    exact h2 _ _ (by rw [List.length_append] at hi; omega)
theorem mkF_fold_rd {p : Puz} {F n : Nat} {ms : List Nat} {k : Nat} (hm : MsN ms n)
    (ih : ∀ (ms : List Nat) (out : List Brn), MsN ms n → 201 ≤ out.length + F → (mkF p F ms out).length ≤ 200 → ∃ W, mkF p F ms out = out ++ W ∧ (∀ b ∈ W, brnOk (n * n) b = true) ∧ RdW (fun f bs => chkF p f ms bs) W) :
    ∀ (vs : List Int) (o : List Brn), (∀ v ∈ vs, v ∈ mvals (mAt ms k) 4) → 201 ≤ o.length + F → (vs.foldl (fun o v => mkF p F (ms.set k (2 ^ v.toNat)) o) o).length ≤ 200 →
    ∃ U, vs.foldl (fun o v => mkF p F (ms.set k (2 ^ v.toNat)) o) o = o ++ U ∧ (∀ b ∈ U, brnOk (n * n) b = true) ∧ (∀ f, U.length < f → ∀ rest s, ∃ m, tryL (chkF p f) ms k vs (U ++ rest) s = some (m, rest)) ∧ (∀ f, U.length < f → ∀ i s, i < U.length → tryL (chkF p f) ms k vs (U.take i) s = none)
  | [], o, _, _, _ => ⟨[], by simp, by simp, fun f _ rest s => ⟨s, rfl⟩, fun f _ i s h => absurd h (Nat.not_lt_zero i)⟩
  | v :: vs, o, hv, ho, hl => by
    have hg := mkF_fold_ge (mkF_ge p F) ms k vs (mkF p F (ms.set k (2 ^ v.toNat)) o)
    have hl' : (vs.foldl (fun o v => mkF p F (ms.set k (2 ^ v.toNat)) o) (mkF p F (ms.set k (2 ^ v.toNat)) o)).length ≤ 200 := hl
    obtain ⟨W, e1, b1, r1⟩ := ih (ms.set k (2 ^ v.toNat)) o (hm.tried (hv v (by simp))) ho (by omega)
    have hge := mkF_ge p F (ms.set k (2 ^ v.toNat)) o
    obtain ⟨U, e2, b2, r2, r3⟩ := mkF_fold_rd hm ih vs (mkF p F (ms.set k (2 ^ v.toNat)) o) (fun u hu => hv u (by simp [hu])) (by omega) hl'
    refine ⟨W ++ U, ?_, ?_, ?_, ?_⟩
    · rw [List.foldl_cons, e2, e1, List.append_assoc]
    · intro b hb
      rcases List.mem_append.1 hb with h | h
      · exact b1 b h
      · exact b2 b h
    · intro f hf rest s
      rw [List.length_append] at hf
      exact try_all (fun rest => r1.all f (by omega) rest) (fun s => r2 f (by omega) rest s)
    · intro f hf i s hi
      rw [List.length_append] at hf
      exact try_pre (fun rest => r1.all f (by omega) rest) (fun i hi => r1.pre f (by omega) i hi) (fun s i hi => r3 f (by omega) i s hi) hi
theorem mkF_rd {p : Puz} {n : Nat} : ∀ (F : Nat) (ms : List Nat) (out : List Brn), MsN ms n → 201 ≤ out.length + F → (mkF p F ms out).length ≤ 200 → ∃ W, mkF p F ms out = out ++ W ∧ (∀ b ∈ W, brnOk (n * n) b = true) ∧ RdW (fun f bs => chkF p f ms bs) W
  | 0, ms, out, hm, ho, hl => by
    have hl : out.length ≤ 200 := hl
    omega
  | F + 1, ms, out, hm, ho, hl => by
    have h200 : ¬ 200 < out.length := by have := mkF_ge p (F + 1) ms out; omega
    cases he : endM p ms with
    | some m =>
      refine ⟨[], by rw [mkF_end he]; simp, by simp, ?_, fun f _ i h => absurd h (Nat.not_lt_zero i)⟩
      intro f hf rest
      obtain ⟨f, rfl⟩ : ∃ f', f = f' + 1 := ⟨f - 1, by simp at hf; omega⟩
      exact ⟨m, chkF_some he⟩
    | none =>
      have e0 := mkF_go (p := p) (f := F) h200 he
      by_cases hnx : nextM p ms ≠ 0
      · rw [if_pos hnx] at e0
        rw [e0] at hl ⊢
        obtain ⟨W, e1, b1, r1⟩ := mkF_rd F (narM p (nextM p ms) ms) (out ++ [⟨(nextM p ms : Nat), 0⟩]) (narM_ok hm) (by simp; omega) hl
        have hle := nextM_le p ms
        have hn4 : 0 < n * n := by
          obtain ⟨h1, _⟩ := open_facts he
          have := hm.len
          omega
        have hstep : ∀ f r, chkF p (f + 1) ms (⟨(nextM p ms : Nat), 0⟩ :: r) = chkF p f (narM p (nextM p ms) ms) r := by
          intro f r
          rw [chkF_cons he, if_pos (by show (0 : Int) < ((nextM p ms : Nat) : Int); omega)]
          rfl
        refine ⟨⟨(nextM p ms : Nat), 0⟩ :: W, by rw [e1]; simp, ?_, ?_, ?_⟩
        · intro b hb
          rcases List.mem_cons.1 hb with h | h
          · rw [h]
            simp only [brnOk, decide_eq_true_eq]
            exact ⟨.inr ⟨by omega, by omega, trivial⟩, by omega, by omega⟩
          · exact b1 b h
        · intro f hf rest
          rw [List.length_cons] at hf
          obtain ⟨f, rfl⟩ : ∃ f', f = f' + 1 := ⟨f - 1, by omega⟩
          show ∃ m, chkF p (f + 1) ms (⟨(nextM p ms : Nat), 0⟩ :: (W ++ rest)) = _
          rw [hstep]
          exact r1.all f (by omega) rest
        · intro f hf i hi
          rw [List.length_cons] at hf hi
          obtain ⟨f, rfl⟩ : ∃ f', f = f' + 1 := ⟨f - 1, by omega⟩
          cases i with
          | zero => exact chkF_nil he
          | succ i =>
            show chkF p (f + 1) ms (⟨(nextM p ms : Nat), 0⟩ :: W.take i) = _
            rw [hstep]
            exact r1.pre f (by omega) i (by omega)
      · rw [if_neg hnx] at e0
        rw [e0] at hl ⊢
        obtain ⟨U, e1, b1, r1, r2⟩ := mkF_fold_rd (k := openK ms) hm (fun ms out h1 h2 h3 => mkF_rd F ms out h1 h2 h3) (mvals (mAt ms (openK ms)) 4) (out ++ [⟨0, openK ms⟩]) (fun v h => h) (by simp; omega) hl
        have hok : openK ms < n * n := by
          obtain ⟨h1, _⟩ := open_facts he
          have := hm.len
          omega
        have hstep : ∀ f r, chkF p (f + 1) ms (⟨0, (openK ms : Nat)⟩ :: r) = tryL (chkF p f) ms (openK ms) (mvals (mAt ms (openK ms)) 4) r 0 := by
          intro f r
          rw [chkF_cons he, if_neg (by show ¬ (0 : Int) < 0; omega)]
          rfl
        refine ⟨⟨0, (openK ms : Nat)⟩ :: U, by rw [e1]; simp, ?_, ?_, ?_⟩
        · intro b hb
          rcases List.mem_cons.1 hb with h | h
          · rw [h]
            simp only [brnOk, decide_eq_true_eq]
            exact ⟨.inl trivial, by omega, by exact_mod_cast hok⟩
          · exact b1 b h
        · intro f hf rest
          rw [List.length_cons] at hf
          obtain ⟨f, rfl⟩ : ∃ f', f = f' + 1 := ⟨f - 1, by omega⟩
          show ∃ m, chkF p (f + 1) ms (⟨0, (openK ms : Nat)⟩ :: (U ++ rest)) = _
          rw [hstep]
          exact r1 f (by omega) rest 0
        · intro f hf i hi
          rw [List.length_cons] at hf hi
          obtain ⟨f, rfl⟩ : ∃ f', f = f' + 1 := ⟨f - 1, by omega⟩
          cases i with
          | zero => exact chkF_nil he
          | succ i =>
            show chkF p (f + 1) ms (⟨0, (openK ms : Nat)⟩ :: U.take i) = _
            rw [hstep]
            exact r2 f (by omega) i 0 (by omega)
theorem make_facts {p : Puz} (h : makeB p = true) : puzzleValid p = true ∧ proofValid p (makeL p) = true ∧ checkV p (makeL p) = ((allL p).length : Int) ∧ ∀ i, i < (makeL p).length → checkV p ((makeL p).take i) = -1 := by
  have h0 := h
  simp only [makeB, Bool.and_eq_true, decide_eq_true_eq] at h0
  obtain ⟨hv, hl⟩ := h0
  obtain ⟨hp, hg⟩ := puz_facts hv
  obtain ⟨W, e1, b1, r1⟩ := mkF_rd 201 (startM p) [] (startM_ok hp hg) (by simp) hl
  have eL : makeL p = W := by unfold makeL; rw [if_pos h, e1]; rfl
  rw [e1] at hl
  have hl : W.length ≤ 200 := hl
  have hpv : proofValid p W = true := by
    simp only [proofValid, Bool.and_eq_true, decide_eq_true_eq, List.all_eq_true]
    exact ⟨hv, hl, fun b hb => by have := b1 b hb; rwa [← hg.len] at this⟩
  rw [eL]
  refine ⟨hv, hpv, ?_, ?_⟩
  · obtain ⟨m, e⟩ := r1.all 201 (by omega) []
    rw [List.append_nil] at e
    have e : chkF p 201 (startM p) W = some (m, []) := e
    refine (check_count (p := p) (pf := W) ?_).2
    unfold checkV
    rw [if_pos hpv, e]
    show ¬ ((m : Nat) : Int) < 0
    omega
  · intro i hi
    have e : chkF p 201 (startM p) (W.take i) = none := r1.pre 201 (by omega) i hi
    unfold checkV
    rw [e]
    split <;> rfl
theorem make_no {p : Puz} (h : makeB p = false) : makeL p = [] := by unfold makeL; rw [h]; rfl
end Go.Lg

set_option linter.unusedSimpArgs false
set_option linter.unusedVariables false
set_option maxRecDepth 100000
namespace Go.Lg
open Go.Proofs
instance : HSzK cB 2 := ⟨fun _ => rfl⟩
end Go.Lg

set_option linter.unusedSimpArgs false
set_option linter.unusedVariables false
set_option maxRecDepth 100000
namespace Go.Lg
open Go.Proofs
theorem mprQ_rd {P : Program} {f : FuncId} {args : List AV} {p : Puz} (h : RunCall P f args [] (mprQ p)) : Reads P f args (.tup [rsl eB (makeL p), bool (makeB p)]) :=
  Reads.ice h fun r H ⟨c, h1, h2, _⟩ => by
    subst h1
    have e : frzC H (.f (.bool (makeB p))) = some (.f (.bool (makeB p))) := rfl
    show (([_, _] : List AV).mapM (frz1 H)).map AV.tup = _
    simp only [List.mapM_cons, List.mapM_nil, frz1, h2.frzC, e, Option.bind_eq_bind, Option.pure_def, Option.bind_some, Option.map_some]
end Go.Lg

set_option linter.unusedSimpArgs false
set_option linter.unusedVariables false
set_option maxRecDepth 100000
namespace Go.Lg
open Go.Proofs
attribute [-go_sem] appendM lwF_cons
def LstO (H : Heap) (c : CV) (ls : List (List Int)) : Prop := ∃ oid og cs, c = .own oid og 0 ls.length none ∧ look H oid og = some ⟨og, 1, cs⟩ ∧ cs.length = ls.length ∧ ∀ i (h : i < ls.length), ∃ id g, cs[i]? = some (.own id g 0 ls[i].length none) ∧ look H id g = some ⟨g, 1, cl (eI .i64) ls[i]⟩
theorem LstO.shift {H0 H : Heap} {c : CV} {ls : List (List Int)} (h : LstO H c ls) : LstO (H0 ++ shiftH H0.length H) (shiftC H0.length c) ls := by
  obtain ⟨oid, og, cs, rfl, k1, k2, k3⟩ := h
  refine ⟨oid + H0.length, og, cs.map (shiftC H0.length), rfl, look_shiftH k1, by rw [List.length_map]; exact k2, fun i hi => ?_⟩
  obtain ⟨id, g, q1, q2⟩ := k3 i hi
  refine ⟨id + H0.length, g, by rw [List.getElem?_map, q1]; rfl, ?_⟩
  rw [look_shiftH q2]
  simp only [shiftB, shift_cl]
section
variable {P : Program} {o : Oper} {st : St} {K : KV} {fo : Operand} {xs : Array Operand} {ts : Array TypeId} {f : FuncId} {args : List AV}
end
def smD (p : Puz) : Prop := p.given.length ≤ 16 ∧ ruleSm p.rules 30 5
theorem smD.sm {p : Puz} (h : smD p) : smP p := ⟨by have := h.1; omega, by have := h.2.1; omega, fun r hr => by have := h.2.2 r hr; omega⟩
structure TrI (H HI : Heap) (id g : Nat) (B : Int) (g4 J g6 : Nat) (p : Puz) (c : CV) (zs : List Int) : Prop where
  out : look HI H.length g4 = some ⟨g4, 3, [.f (.int .i64 0), .f .nil, .f .nil]⟩
  puz : look HI J g6 = some ⟨g6, 3, cP p⟩
  grid : ∃ gid gg, c = .own gid gg 0 zs.length none ∧ look HI gid gg = some ⟨gg, 1, cl (eI .i64) zs⟩ ∧ H.length < gid ∧ gid ≠ J
  rd : RdAt HI id g B
  lt : id < H.length
  ln : H.length < J ∧ J < HI.length
  frm : ∀ k, k < H.length → k ≠ id → HI[k]? = H[k]?
section
variable {H HI H2 : Heap} {id g g4 J g6 : Nat} {B B' : Int} {p : Puz} {c : CV} {zs : List Int}
theorem TrI.mono (h : TrI H HI id g B g4 J g6 p c zs) (hb : B ≤ B') : TrI H HI id g B' g4 J g6 p c zs := { h with rd := h.rd.mono hb }
theorem TrI.step (h : TrI H HI id g B g4 J g6 p c zs) (hs : ∀ i, H.length ≤ i → i < HI.length → H2[i]? = HI[i]?) (hl : HI.length ≤ H2.length) (hr : RdAt H2 id g B') (hf : ∀ k, k < H.length → k ≠ id → H2[k]? = HI[k]?) : TrI H H2 id g B' g4 J g6 p c zs := by
  have hn := h.ln
  have hL : ∀ i g, H.length ≤ i → i < HI.length → look H2 i g = look HI i g := fun i g h1 h2 => by unfold look; rw [hs i h1 h2]
  obtain ⟨gid, gg, g1, g2, g3, g4⟩ := h.grid
  have hgl : gid < HI.length := (List.getElem?_eq_some_iff.1 (look_some g2).1).1
  exact { out := by rw [hL _ _ (Nat.le_refl _) (by omega)]; exact h.out
          puz := by rw [hL _ _ (by omega) (by omega)]; exact h.puz
          grid := ⟨gid, gg, g1, by rw [hL _ _ (by omega) hgl]; exact g2, g3, g4⟩
          rd := hr, lt := h.lt, ln := by omega
          frm := fun k hk hne => by rw [hf k hk hne]; exact h.frm k hk hne }
theorem TrI.pick (h : TrI H HI id g B g4 J g6 p c zs) (hr : RdAt H2 id g B') (hf : Frm HI H2 [id]) : TrI H H2 id g B' g4 J g6 p c zs := by
  have hl := h.lt
  exact h.step (fun i hi _ => hf.2 i (by simp; omega)) (by rw [hf.1]; exact Nat.le_refl _) hr fun k hk hne => hf.2 k (by simpa using hne)
theorem TrI.app {X : Heap} (h : TrI H HI id g B g4 J g6 p c zs) : TrI H (HI ++ X) id g B g4 J g6 p c zs := by
  have hn := h.ln
  exact h.step (fun i _ hi => List.getElem?_append_left hi) (by simp) h.rd.app fun k hk _ => List.getElem?_append_left (by omega)
theorem TrI.set (h : TrI H HI id g B g4 J g6 p c zs) {gid gg : Nat} (hc : c = .own gid gg 0 zs.length none) (k : Nat) (v : Int) : TrI H (HI.set gid (some ⟨gg, 1, cl (eI .i64) (zs.set k v)⟩)) id g B g4 J g6 p c (zs.set k v) := by
  have hn := h.ln
  have hl := h.lt
  obtain ⟨gid', gg', g1, g2, g3, g4⟩ := h.grid
  rw [hc] at g1
  cases g1
  have hgl : gid < HI.length := (List.getElem?_eq_some_iff.1 (look_some g2).1).1
  exact { out := by rw [look_set_ne' (by omega)]; exact h.out
          puz := by rw [look_set_ne' (by omega)]; exact h.puz
          grid := ⟨gid, gg, by rw [hc, List.length_set], look_set_eq' hgl, g3, g4⟩
          rd := h.rd.same (by rw [List.getElem?_set_ne (by omega)])
          lt := hl, ln := by rw [List.length_set]; exact hn
          frm := fun k hk hne => by rw [List.getElem?_set_ne (by omega)]; exact h.frm k hk hne }
end
def dPuz : AV → Prop := fun v => ∃ p : Puz, v = aP p ∧ smD p
theorem wf_u8' {xs : List Int} (h : ∀ x ∈ xs, (Lit.int .u8 x).wf = true) : ∀ x ∈ xs, 0 ≤ x ∧ x ≤ 255 := fun x hx => by
  have := h x hx
  simp [Lit.wf] at this
  have e1 : IntKind.u8.min = 0 := by decide
  have e2 : IntKind.u8.max = 255 := by decide
  omega
theorem RdAt.shift {H0 H : Heap} {id g : Nat} {B : Int} (h : RdAt H id g B) : RdAt (H0 ++ shiftH H0.length H) (id + H0.length) g B := by
  obtain ⟨sz, b, p, h1, h2⟩ := h
  exact ⟨sz, b, p, by rw [look_shiftH h1]; rfl, h2⟩
theorem OpS.mkRd {P : Program} {o : Oper} {st : St} {K : KV} {fo : Operand} {xs : Array Operand} {ts : Array TypeId} {f : FuncId} {args : List AV} (hc : RunCall P f args [] (fun v H' => ∃ g, v = .c (.ptr 0 g 0) ∧ RdAt H' 0 g 0 ∧ H'.length = 1)) (he : Enters P f) (ho : o.op = .call ⟨.value fo, xs, ts⟩) (ha : callArgs st fo xs = some (f, args)) (hf : args.all frozenA = true)
    (hk : ∀ g H', RdAt (st.h ++ H') st.h.length g 0 → H'.length = 1 → K (.c (.ptr st.h.length g 0)) (st.h ++ H')) : OpS P o st K :=
  OpS.mkQ hc he ho ha hf fun r H' ⟨g, h1, h2, h3⟩ => by
    subst h1
    refine ⟨rfl, ?_⟩
    have := hk g (shiftH st.h.length H') (by have := h2.shift (H0 := st.h); rwa [Nat.zero_add] at this) (by rw [shiftH_length]; exact h3)
    show K (.c (.ptr (0 + st.h.length) g 0)) _
    rw [Nat.zero_add]
    exact this
end Go.Lg

set_option linter.unusedSimpArgs false
set_option linter.unusedVariables false
set_option maxRecDepth 100000
namespace Go.Lg
open Go.Proofs
attribute [-go_sem] appendM lwF_cons
theorem resV_ctt (P : Program) (s : List AV) (H : Heap) (t u w : Nat) (ty : TypeId) : resV P s H [.cell t ty, .tmp u, .tmp w] = (loadV P H ty (s.getD t .void)).map fun v => .tup [v, s.getD u .void, s.getD w .void] := by
  simp only [resV, resAll, resOne]
  cases loadV P H ty (s.getD t .void) <;> rfl
attribute [go_sem] resV_ctt
theorem DrawMakeProof_run (code : List Int) (hb : ∀ x ∈ code, 0 ≤ x ∧ x ≤ 255) (hl : code.length ≤ 2 ^ 40) : RunCall Try.prog 54 [rsl (eI .u8) code] [] (fun v _ => dPuz v) := by
  refine RunCall.cw (c := _) Try.func54 rfl (n := 6) Try.ntmps54 (rs := [.cell 2 26]) rfl ?_
  simp only [List.length_cons, List.length_nil, Nat.reduceAdd, Nat.reduceSub, List.replicate, List.cons_append, List.nil_append]
  simp(maxSteps:=999999)(disch:=omega)only[go_sem,reduceAdd,reduceMul,reduceSub,reduceEqDiff,reduceLeDiff]
  intro g4
  refine OpS.mkRd (l20Open_run code hb hl) (⟨_, Try.func59, rfl, rfl⟩ : Enters Try.prog 59) rfl rfl rfl ?_
  intro g H1 r1 hl1
  simp(maxSteps:=999999)(disch:=omega)only[go_sem,reduceAdd,reduceMul,reduceSub,reduceEqDiff,reduceLeDiff]
  refine OpS.run (l20Puzzle_run _ 1 g 0 12 r1 (by omega) (by omega)) (⟨_, Try.func58, rfl, rfl⟩ : Enters Try.prog 58) rfl rfl ?_
  rintro _ H2 ⟨⟨p, rfl, hp⟩, r2, f2⟩
  have h4 : look H2 0 g4 = some ⟨g4, 3, [.f (.int .i64 0), .f .nil, .f .nil]⟩ := by rw [f2.look (by simp)]; exact look_zero
  have hS : ∀ b, look (H2.set 0 (some ⟨g4, 3, b⟩)) 0 g4 = some ⟨g4, 3, b⟩ := fun b => look_set_eq' (List.getElem?_eq_some_iff.1 (look_some h4).1).1
  simp(maxSteps:=999999)(disch:=omega)only[go_sem,reduceAdd,reduceMul,reduceSub,reduceEqDiff,reduceLeDiff, h4, hS]
  exact ⟨_, HLe.refl _, p, rfl, hp⟩
theorem aliveF_run : Reads Try.prog 18 [] (bool true) := by
  refine RunCall.cw (c := _) Try.func18 rfl (n := 4) Try.ntmps18 (rs := [.tmp 0]) rfl ?_
  simp only [List.length_cons, List.length_nil, Nat.reduceAdd, Nat.reduceSub, List.replicate, List.cons_append, List.nil_append]
  simp(maxSteps:=999999)(disch:=omega)only[go_sem,reduceAdd,reduceMul,reduceSub,reduceEqDiff,reduceLeDiff]
  intro g
  have hown : OwnI [some ⟨g, 1, [.f (.int .i64 1), .f (.int .i64 0), .f (.int .i64 0), .f (.int .i64 2)]⟩] (.own 0 g 0 4 none) [1, 0, 0, 2] [0] := OwnI.o 0 g none [1, 0, 0, 2] [] (by rw [look_zero]; rfl)
  refine OpS.rdD (GridFilled_run [1, 0, 0, 2] 2 (by simp)) (⟨_, Try.func53, rfl, rfl⟩ : Enters Try.prog 53) rfl rfl (snap_two hown.snap snapD_int) rfl ?_
  have e : gridFilled [1, 0, 0, 2] 2 = 2 := by decide
  rw [e]
  simp(maxSteps:=999999)(disch:=omega)only[go_sem,reduceAdd,reduceMul,reduceSub,reduceEqDiff,reduceLeDiff]
end Go.Lg

set_option linter.unusedSimpArgs false
set_option linter.unusedVariables false
set_option maxRecDepth 100000
namespace Go.Lg
open Go.Proofs
theorem count_600 {p : Puz} (hv : puzzleValid p = true) : countV p 600 = ((allL p).length : Int) := by
  unfold countV
  rw [if_pos ⟨hv, by omega, by omega⟩]
  show ((allS p 600).length : Int) = _
  rw [allS_all]
end Go.Lg

set_option linter.unusedSimpArgs false
set_option linter.unusedVariables false
set_option maxRecDepth 100000
namespace Go.Lg
open Go.Proofs
theorem binA_brn {P : Program} {H : Heap} {t : TypeId} (h : intStr P t 2 = true) (a b : Brn) : binA P H .neq t (aB a) (aB b) = some (bool (!decide (a = b))) := by
  have e : aggV P .neq t (cB a) (cB b) = if intStr P t 2 = true ∧ 2 = 2 then some (bool (!decide ([a.tech, a.cell] = [b.tech, b.cell]))) else none := rfl
  have e2 : decide ([a.tech, a.cell] = [b.tech, b.cell]) = decide (a = b) := by
    obtain ⟨a1, a2⟩ := a
    obtain ⟨b1, b2⟩ := b
    rw [decide_eq_decide]
    simp
  show aggV P .neq t (cB a) (cB b) = _
  rw [e, if_pos ⟨h, rfl⟩, e2]
theorem brn_str : intStr Try.prog 103 2 = true := by decide +kernel
theorem sameProof_run (xs ys : List Brn) (hx : xs.length ≤ 2 ^ 40) : Reads Try.prog 55 [rsl eB xs, rsl eB ys] (bool (decide (xs = ys))) := by
  have hbA := fun (H : Heap) (a b : Brn) => binA_brn (H := H) brn_str a b
  refine RunCall.cw (c := _) Try.func55 rfl (n := 26) Try.ntmps55 (rs := [.tmp 4]) rfl ?_
  simp only [List.length_cons, List.length_nil, Nat.reduceAdd, Nat.reduceSub, List.replicate, List.cons_append, List.nil_append]
  simp(maxSteps:=999999)(disch:=omega)only[go_sem,reduceAdd,reduceMul,reduceSub,reduceEqDiff,reduceLeDiff]
  ((first | with_reducible refine condK_dec ?_ ?_ | with_reducible refine condK_ndec ?_ ?_ | with_reducible refine condK_nb ?_ ?_ | refine condK_b ?_ ?_) <;> intro h)
  rotate_left
  · simp(maxSteps:=999999)(disch:=omega)only[go_sem,reduceAdd,reduceMul,reduceSub,reduceEqDiff,reduceLeDiff]
    rw [eq_comm, decide_eq_false_iff_not]
    intro h2
    exact h (by rw [h2])
  have hl : xs.length = ys.length := by omega
  simp(maxSteps:=999999)(disch:=omega)only[go_sem,reduceAdd,reduceMul,reduceSub,reduceEqDiff,reduceLeDiff]
  refine loop_rule (fun i : Nat => xs.length - i) (fun i => i ≤ xs.length ∧ ∀ j : Nat, j < i → nth xs j = nth ys j) (fun i => [.k, .k, .a, .a, .a, .p (int i), .a, .a, .a, .a, .a, .a, .a, .a, .a, .a, .a, .a, .a, .a, .a, .a, .a, .a, .a, .a]) (fun i => []) 0
    ⟨Nat.zero_le _, fun j hj => absurd hj (Nat.not_lt_zero _)⟩ (by simp(maxSteps:=999999)(disch:=omega)only[go_sem,reduceAdd,reduceMul,reduceSub,reduceEqDiff,reduceLeDiff]; rfl) (hle_nil _) ?_
  rintro i ⟨hi, hall⟩
  simp(maxSteps:=999999)(disch:=omega)only[go_sem,reduceAdd,reduceMul,reduceSub,reduceEqDiff,reduceLeDiff]
  ((first | with_reducible refine condK_dec ?_ ?_ | with_reducible refine condK_ndec ?_ ?_ | with_reducible refine condK_nb ?_ ?_ | refine condK_b ?_ ?_) <;> intro h)
  · have h : i < xs.length := by omega
    simp(maxSteps:=999999)(disch:=omega)only[go_sem,reduceAdd,reduceMul,reduceSub,reduceEqDiff,reduceLeDiff]
    refine drawP_q foll (by kernel_rfl) ?_
    simp (maxSteps := 1000000) (disch := omega) only [go_sem, Nat.reduceBEq, Bool.true_or, Nat.reduceAdd, Nat.reduceMul, Nat.reduceSub, Nat.reduceEqDiff, Nat.reduceLeDiff]
    simp(maxSteps:=999999)(disch:=omega)only[go_sem,reduceAdd,reduceMul,reduceSub,reduceEqDiff,reduceLeDiff, hbA]
    ((first | with_reducible refine condK_dec ?_ ?_ | with_reducible refine condK_ndec ?_ ?_ | with_reducible refine condK_nb ?_ ?_ | refine condK_b ?_ ?_) <;> intro h2)
    · simp(maxSteps:=999999)(disch:=omega)only[go_sem,reduceAdd,reduceMul,reduceSub,reduceEqDiff,reduceLeDiff]
      refine ⟨i + 1, ⟨⟨by omega, fun j hj => ?_⟩, by omega⟩, by push_cast; omega, hle_nil _⟩
      rcases Nat.lt_succ_iff_lt_or_eq.1 hj with hj | rfl
      · exact hall j hj
      · exact h2
    · simp(maxSteps:=999999)(disch:=omega)only[go_sem,reduceAdd,reduceMul,reduceSub,reduceEqDiff,reduceLeDiff]
      rw [eq_comm, decide_eq_false_iff_not]
      intro h3
      exact h2 (by rw [h3])
  · simp(maxSteps:=999999)(disch:=omega)only[go_sem,reduceAdd,reduceMul,reduceSub,reduceEqDiff,reduceLeDiff]
    rw [decide_eq_true (ext_nth hl fun j hj => hall j (by omega))]
end Go.Lg
