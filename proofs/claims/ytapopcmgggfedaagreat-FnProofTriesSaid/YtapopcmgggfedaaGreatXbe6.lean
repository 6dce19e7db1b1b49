/- GpTG, cut to what is needed. -/
import Derived.Test.YtapopcmgggfedaaGreatXbe4
import Derived.Test.YtapopcmgggfedaaGreatXbd9
import Derived.Test.YtapopcmgggfedaaGreatXbc2
open Nat renaming reduceAdd → zA, reduceMul → zM, reduceSub → zS, reduceEqDiff → zE, reduceLeDiff → zL
set_option linter.unusedSimpArgs false
set_option linter.unusedVariables false
set_option maxRecDepth 100000
namespace Go.Lg
open Go.Proofs
attribute [-go_sem] appendM lwF_cons
def openK (ms : List Nat) : Nat := ((List.range ms.length).find? fun k => decide (onlyV (mAt ms k) = 0)).getD 0
def mkF (p : Puz) : Nat → List Nat → List Brn → List Brn
  | 0, _, out => out
  | f + 1, ms, out => if 200 < out.length then out else match endM p ms with
    | some _ => out
    | none => if nextM p ms ≠ 0 then mkF p f (narM p (nextM p ms) ms) (out ++ [⟨nextM p ms, 0⟩]) else (mvals (mAt ms (openK ms)) 4).foldl (fun o v => mkF p f (ms.set (openK ms) (2 ^ v.toNat)) o) (out ++ [⟨0, openK ms⟩])
theorem open_facts {p : Puz} {ms : List Nat} (h : endM p ms = none) : openK ms < ms.length ∧ onlyV (mAt ms (openK ms)) = 0 ∧ ∀ i : Nat, i < openK ms → onlyV (mAt ms i) ≠ 0 := by
  rw [endM_is] at h
  split at h
  · cases h
  split at h
  · cases h
  rename_i h1 h2
  simp only [Classical.not_forall] at h2
  obtain ⟨i, hi, hn⟩ := h2
  have hn : onlyV (mAt ms i) = 0 := by omega
  unfold openK
  cases e : (List.range ms.length).find? fun k => decide (onlyV (mAt ms k) = 0) with
  | none =>
    have := List.find?_eq_none.1 e i (List.mem_range.2 hi)
    simp [hn] at this
  | some k =>
    rw [List.find?_eq_some_iff_getElem] at e
    obtain ⟨e1, j, hj, e2, e3⟩ := e
    simp only [List.getElem_range] at e2 e3
    subst e2
    refine ⟨by simpa using hj, by simpa using e1, fun i hi => ?_⟩
    have := e3 i hi
    simpa using this
theorem mkF_fold_len {p : Puz} {f : Nat} (h : ∀ ms out, out.length ≤ 201 → (mkF p f ms out).length ≤ 201) (ms : List Nat) (k : Nat) : ∀ (vs : List Int) (out : List Brn), out.length ≤ 201 → (vs.foldl (fun o v => mkF p f (ms.set k (2 ^ v.toNat)) o) out).length ≤ 201
  | [], out, ho => ho
  | v :: vs, out, ho => mkF_fold_len h ms k vs _ (h _ _ ho)
theorem mkF_len (p : Puz) : ∀ (f : Nat) (ms : List Nat) (out : List Brn), out.length ≤ 201 → (mkF p f ms out).length ≤ 201
  | 0, _, _, h => h
  | f + 1, ms, out, h => by
    unfold mkF
    split
    · exact h
    · rename_i h2
      split
      · exact h
      · split
        · exact mkF_len p f _ _ (by simp; omega)
        · exact mkF_fold_len (mkF_len p f) _ _ _ _ (by simp; omega)
theorem mkF_fold_ge {p : Puz} {f : Nat} (h : ∀ ms out, out.length ≤ (mkF p f ms out).length) (ms : List Nat) (k : Nat) : ∀ (vs : List Int) (out : List Brn), out.length ≤ (vs.foldl (fun o v => mkF p f (ms.set k (2 ^ v.toNat)) o) out).length
  | [], out => Nat.le_refl _
  | v :: vs, out => Nat.le_trans (h _ _) (mkF_fold_ge h ms k vs _)
theorem mkF_ge (p : Puz) : ∀ (f : Nat) (ms : List Nat) (out : List Brn), out.length ≤ (mkF p f ms out).length
  | 0, _, _ => Nat.le_refl _
  | f + 1, ms, out => by
    unfold mkF
    split
    · exact Nat.le_refl _
    · split
      · exact Nat.le_refl _
      · split
        · exact Nat.le_trans (by simp) (mkF_ge p f _ _)
        · exact Nat.le_trans (by simp) (mkF_fold_ge (mkF_ge p f) _ _ _ _)
theorem fold_step {α β : Type} [Inhabited β] {F : α → β → α} {V : List β} {i : Nat} {o : α} (h : i < V.length) : (V.drop i).foldl F o = (V.drop (i + 1)).foldl F (F o (nth V i)) := by
  rw [List.drop_eq_getElem_cons h, nth_eq (by omega)]
  rfl
theorem mkF_full {p : Puz} {f : Nat} {ms : List Nat} {out : List Brn} (h : 200 < out.length) : mkF p f ms out = out := by
  cases f with
  | zero => rfl
  | succ f => unfold mkF; rw [if_pos h]
theorem mkF_end {p : Puz} {f m : Nat} {ms : List Nat} {out : List Brn} (h : endM p ms = some m) : mkF p f ms out = out := by
  cases f with
  | zero => rfl
  | succ f => unfold mkF; rw [h]; split <;> rfl
theorem mkF_go {p : Puz} {f : Nat} {ms : List Nat} {out : List Brn} (h0 : ¬ 200 < out.length) (h : endM p ms = none) : mkF p (f + 1) ms out = if nextM p ms ≠ 0 then mkF p f (narM p (nextM p ms) ms) (out ++ [⟨nextM p ms, 0⟩]) else (mvals (mAt ms (openK ms)) 4).foldl (fun o v => mkF p f (ms.set (openK ms) (2 ^ v.toNat)) o) (out ++ [⟨0, openK ms⟩]) := by
  conv => lhs; unfold mkF
  rw [if_neg h0, h]
abbrev brnH (g : Nat) (b : Brn) : Heap := [some ⟨g, 2, cB b⟩]
def mkQ (H : Heap) (id : Nat) (R : List Brn) : KV := fun v H' => ∃ g', v = .c (.own id g' 0 R.length none) ∧ look H' id g' = some ⟨g', 2, cl eB R⟩ ∧ Frm H H' [id]
structure MkI (H HI : Heap) (id g gb : Nat) (p : Puz) (out : List Brn) : Prop where
  cells : look HI id g = some ⟨g, 2, cl eB out⟩
  box : look HI H.length gb = some ⟨gb, 1, cP p⟩
  lt : id < H.length
  ln : H.length + 1 ≤ HI.length
  frm : ∀ i, i < H.length → i ≠ id → HI[i]? = H[i]?
theorem MkI.done {H HI : Heap} {id g gb : Nat} {p : Puz} {out : List Brn} (h : MkI H HI id g gb p out) : lessQ HI (mkQ H id out) (.c (.own id g 0 out.length none)) := by
  have hl := h.lt
  have hn := h.ln
  refine ⟨HI.take H.length, fun i b hb => ?_, g, rfl, ?_, by simp; omega, fun i hi => ?_⟩
  · by_cases hi : i < H.length
    · rwa [List.getElem?_take_of_lt hi] at hb
    · rw [List.getElem?_take_eq_none (by omega)] at hb; cases hb
  · have hc := h.cells
    unfold look at hc ⊢
    rw [List.getElem?_take_of_lt hl]
    exact hc
  · by_cases h2 : i < H.length
    · rw [List.getElem?_take_of_lt h2, h.frm i h2 (by simpa using hi)]
    · rw [List.getElem?_take_eq_none (by omega), List.getElem?_eq_none (by omega)]
theorem MkI.app {H HI H' : Heap} {id g gb : Nat} {p : Puz} {out : List Brn} (h : MkI H HI id g gb p out) : MkI H (HI ++ H') id g gb p out :=
  ⟨look_appL h.cells, look_appL h.box, h.lt, by have := h.ln; simp; omega, fun i h1 h2 => by rw [List.getElem?_append_left (by have := h.ln; omega)]; exact h.frm i h1 h2⟩
theorem MkI.put {H HI : Heap} {id g gb : Nat} {p : Puz} {out R : List Brn} (h : MkI H HI id g gb p out) (g' : Nat) : MkI H (HI.set id (some ⟨g', 2, cl eB R⟩)) id g' gb p R := by
  have hl := h.lt
  have hn := h.ln
  refine ⟨?_, ?_, hl, by simp; omega, fun i h1 h2 => by rw [List.getElem?_set_ne (Ne.symm h2)]; exact h.frm i h1 h2⟩
  · unfold look
    rw [List.getElem?_set_self (by omega)]
    simp
  · have hb := h.box
    unfold look at hb ⊢
    rw [List.getElem?_set_ne (by omega)]
    exact hb
theorem MkI.step {H HI H' : Heap} {id g g' gb : Nat} {p : Puz} {out R : List Brn} (h : MkI H HI id g gb p out) (hf : Frm HI H' [id]) (hc : look H' id g' = some ⟨g', 2, cl eB R⟩) : MkI H H' id g' gb p R := by
  have hl := h.lt
  have hn := h.ln
  refine ⟨hc, ?_, hl, by rw [hf.1]; exact hn, fun i h1 h2 => by rw [hf.2 i (by simpa using h2)]; exact h.frm i h1 h2⟩
  have hb := h.box
  unfold look at hb ⊢
  rw [hf.2 _ (by simp; omega)]
  exact hb
theorem lines1_run (m : Nat) (hm : m ≤ 30) : Reads Tryz.prog 37 [int m] (bool (decide (onlyV m = 0))) := by
  have e : decide (onlyV m = 0) = decide (((onlyV m : Nat) : Int) = 0) := by rw [decide_eq_decide]; omega
  rw [e]
  refine RunCall.cw (c := _) Tryz.func37 rfl (n := 6) Tryz.ntmps37 (rs := [.tmp 2]) rfl ?_
  simp only[List.length_cons,List.length_nil,zA,zS,List.replicate,List.cons_append,List.nil_append]
  simp(maxSteps:=999999)(disch:=omega)only[go_sem,zA,zM,zS,zE,zL]
  first | refine OpS.rd (onlyValue_run m hm) (⟨_, Tryz.func34, rfl, rfl⟩ : Enters Tryz.prog 34) rfl rfl rfl rfl ?_ | refine Loud.rd (onlyValue_run m hm) (⟨_, Tryz.func34, rfl, rfl⟩ : Enters Tryz.prog 34) rfl rfl rfl rfl ?_
  simp(maxSteps:=999999)(disch:=omega)only[go_sem,zA,zM,zS,zE,zL]
theorem IndexFunc_run {n : Nat} (hn : n = 2 ∨ n = 3 ∨ n = 4) (ms : List Nat) (hm : MsN ms n) (k : Nat) (hk : k < ms.length) (h0 : onlyV (mAt ms k) = 0) (hlt : ∀ i : Nat, i < k → onlyV (mAt ms i) ≠ 0) : Reads Tryz.prog 36 [ints (nats ms), .c (.fn 37 [])] (int k) := by
  have hsq : 4 ≤ n * n ∧ n * n ≤ 16 := by rcases hn with rfl | rfl | rfl <;> omega
  have hl : (nats ms).length = n * n := by rw [nats_len]; exact hm.len
  have hlm := hm.len
  refine RunCall.cw (c := _) Tryz.func36 rfl (n := 19) Tryz.ntmps36 (rs := [.tmp 4]) rfl ?_
  simp only[List.length_cons,List.length_nil,zA,zS,List.replicate,List.cons_append,List.nil_append]
  simp(maxSteps:=999999)(disch:=omega)only[go_sem,zA,zM,zS,zE,zL]
  refine loop_rule (fun i : Nat => n * n - i) (fun i => i ≤ k) (fun i => [.k, .k, .a, .a, .a, .a, .a, .k, .p (int i), .a, .a, .a, .a, .a, .a, .a, .a, .a, .a]) (fun _ => []) 0 (Nat.zero_le _) (by simp(maxSteps:=999999)(disch:=omega)only[go_sem,zA,zM,zS,zE,zL]; rfl) (hle_nil _) ?_
  intro i hi
  simp(maxSteps:=999999)(disch:=omega)only[go_sem,zA,zM,zS,zE,zL]
  ((first|(with_reducible first|refine condK_dec ?_ ?_|refine condK_ndec ?_ ?_|refine condK_nb ?_ ?_)|refine condK_b ?_ ?_) <;> intro c1)
  rotate_left
  · exfalso; omega
  have c1 : i < n * n := by omega
  have hni := nth_nats ms i
  have hmi := hm.lt hn i
  simp(maxSteps:=999999)(disch:=omega)only[go_sem,zA,zM,zS,zE,zL, hni]
  first | refine OpS.rd (lines1_run (mAt ms i) hmi.1) (⟨_, Tryz.func37, rfl, rfl⟩ : Enters Tryz.prog 37) rfl rfl rfl rfl ?_ | refine Loud.rd (lines1_run (mAt ms i) hmi.1) (⟨_, Tryz.func37, rfl, rfl⟩ : Enters Tryz.prog 37) rfl rfl rfl rfl ?_
  simp(maxSteps:=999999)(disch:=omega)only[go_sem,zA,zM,zS,zE,zL]
  ((first|(with_reducible first|refine condK_dec ?_ ?_|refine condK_ndec ?_ ?_|refine condK_nb ?_ ?_)|refine condK_b ?_ ?_) <;> intro c2)
  · have hik : i = k := by
      by_cases h : i = k
      · exact h
      · exact absurd c2 (hlt i (by omega))
    simp(maxSteps:=999999)(disch:=omega)only[go_sem,zA,zM,zS,zE,zL]
    rw [hik]
  · have hik : i ≠ k := fun h => c2 (by rw [h]; exact h0)
    simp(maxSteps:=999999)(disch:=omega)only[go_sem,zA,zM,zS,zE,zL]
    exact ⟨i + 1, by omega, by first | rfl | (push_cast; rfl), HLe.refl _⟩
set_option maxHeartbeats 4000000 in
theorem makeLines_run {p : Puz} {n : Nat} (hp : PuzN p n) (hv : puzzleValid p = true) : ∀ (F : Nat) (ms : List Nat) (out : List Brn) (H : Heap) (id g : Nat), MsN ms n → 201 ≤ out.length + F → out.length ≤ 201 → look H id g = some ⟨g, 2, cl eB out⟩ → RunCall Tryz.prog 20 [aP p, ints (nats ms), .c (.own id g 0 out.length none)] H (mkQ H id (mkF p F ms out)) := by
  intro F
  induction F using Nat.strongRecOn with
  | ind F ih =>
  intro ms out H id g hm hF ho hl
  have hn := hp.hn
  have hsq : 4 ≤ n * n ∧ n * n ≤ 16 := by rcases hn with rfl | rfl | rfl <;> omega
  have hlt : id < H.length := (List.getElem?_eq_some_iff.1 (look_some hl).1).1
  obtain ⟨R, hR⟩ : ∃ R, R = mkF p F ms out := ⟨_, rfl⟩
  rw [← hR]
  refine RunCall.cw (c := _) Tryz.func20 rfl (n := 66) Tryz.ntmps20 (rs := [.tmp 6]) rfl ?_
  simp only[List.length_cons,List.length_nil,zA,zS,List.replicate,List.cons_append,List.nil_append]
  simp(maxSteps:=999999)(disch:=omega)only[go_sem,zA,zM,zS,zE,zL]
  intro gb
  refine loop_rule2 (fun (f : Nat) (b : List Nat × List Brn × Nat × Heap) => f) (fun f b => f ≤ F ∧ MsN b.1 n ∧ 201 ≤ b.2.1.length + f ∧ b.2.1.length ≤ 201 ∧ mkF p f b.1 b.2.1 = R ∧ MkI H b.2.2.2 id b.2.2.1 gb p b.2.1) (fun f b => [.a, .p (ints (nats b.1)), .p (.c (.own id b.2.2.1 0 b.2.1.length none)), .k, .a, .a, .a, .a, .a, .a, .a, .a, .a, .a, .a, .a, .a, .a, .a, .a, .a, .a, .a, .a, .a, .a, .a, .a, .a, .a, .a, .a, .a, .a, .a, .a, .a, .a, .a, .a, .a, .a, .a, .a, .a, .a, .a, .a, .a, .a, .a, .a, .a, .a, .a, .a, .a, .a, .a, .a, .a, .a, .a, .a, .a, .a]) (fun f b => b.2.2.2) F (ms, out, g, H ++ [some ⟨gb, 1, cP p⟩]) ⟨Nat.le_refl _, hm, hF, ho, hR.symm, ⟨look_appL hl, look_last, hlt, by simp, fun i h1 h2 => List.getElem?_append_left h1⟩⟩ (by simp(maxSteps:=999999)(disch:=omega)only[go_sem,zA,zM,zS,zE,zL]) (HLe.refl _) ?_
  rintro f ⟨ns, os, g2, HI⟩ ⟨hf, hns, hos, hol, hC, q⟩
  simp only at hns hos hol hC q ⊢
  have qc := q.cells
  have qb := q.box
  have hnl : (nats ns).length = n * n := by rw [nats_len]; exact hns.len
  have hnl2 := hns.len
  simp(maxSteps:=999999)(disch:=omega)only[go_sem,zA,zM,zS,zE,zL, qc]
  ((first|(with_reducible first|refine condK_dec ?_ ?_|refine condK_ndec ?_ ?_|refine condK_nb ?_ ?_)|refine condK_b ?_ ?_) <;> intro c1)
  rotate_left
  · rw [mkF_full (by omega)] at hC
    subst hC
    simp(maxSteps:=999999)(disch:=omega)only[go_sem,zA,zM,zS,zE,zL]
    exact q.done
  have c1 : ¬ 200 < os.length := by omega
  obtain ⟨f, rfl⟩ : ∃ f', f = f' + 1 := ⟨f - 1, by omega⟩
  simp(maxSteps:=999999)(disch:=omega)only[go_sem,zA,zM,zS,zE,zL, qb]
  first | refine OpS.mk (masksEnd_run hp ns hns) (⟨_, Tryz.func35, rfl, rfl⟩ : Enters Tryz.prog 35) rfl rfl rfl rfl rfl ?_ | refine Loud.mk (masksEnd_run hp ns hns) (⟨_, Tryz.func35, rfl, rfl⟩ : Enters Tryz.prog 35) rfl rfl rfl rfl rfl ?_
  simp(maxSteps:=999999)(disch:=omega)only[go_sem,zA,zM,zS,zE,zL]
  cases he : endM p ns with
  | some m =>
    rw [mkF_end he] at hC
    subst hC
    simp(maxSteps:=999999)(disch:=omega)only[go_sem,zA,zM,zS,zE,zL]
    exact q.done
  | none =>
    rw [mkF_go c1 he] at hC
    simp(maxSteps:=999999)(disch:=omega)only[go_sem,zA,zM,zS,zE,zL, qb]
    first | refine OpS.mk (nextRound_run hp hv ns hns) (⟨_, Tryz.func32, rfl, rfl⟩ : Enters Tryz.prog 32) rfl rfl rfl rfl rfl ?_ | refine Loud.mk (nextRound_run hp hv ns hns) (⟨_, Tryz.func32, rfl, rfl⟩ : Enters Tryz.prog 32) rfl rfl rfl rfl rfl ?_
    simp(maxSteps:=999999)(disch:=omega)only[go_sem,zA,zM,zS,zE,zL]
    have hnm := nextM_le p ns
    ((first|(with_reducible first|refine condK_dec ?_ ?_|refine condK_ndec ?_ ?_|refine condK_nb ?_ ?_)|refine condK_b ?_ ?_) <;> intro c2)
    · have c2 : nextM p ns ≠ 0 := by omega
      rw [if_pos c2] at hC
      rw [if_neg c2]
      simp(maxSteps:=999999)(disch:=omega)only[go_sem,zA,zM,zS,zE,zL]
      intro g35
      have q1 := q.app (H' := brnH g35 ⟨(nextM p ns : Nat), 0⟩)
      refine appendM_own (E := eB) (xs := os) (ys := [⟨(nextM p ns : Nat), 0⟩]) (sliceOf_of' ti27 rfl ti41) ⟨rfl, rfl, by decide, by decide⟩ rfl q1.cells ⟨by omega, by simp⟩ (elems_own (xs := [(⟨(nextM p ns : Nat), 0⟩ : Brn)]) look_last) ?_
      intro g'
      have q2 := q1.put (R := os ++ [⟨(nextM p ns : Nat), 0⟩]) g'
      obtain ⟨HJ, hHJ⟩ : ∃ HJ : Heap, HJ = (HI ++ brnH g35 ⟨(nextM p ns : Nat), 0⟩).set id (some ⟨g', 2, cl eB (os ++ [⟨(nextM p ns : Nat), 0⟩])⟩) := ⟨_, rfl⟩
      rw [← hHJ] at q2
      rw [← hHJ]
      simp(maxSteps:=999999)(disch:=omega)only[go_sem,zA,zM,zS,zE,zL]
      exact ⟨f, (narM p (nextM p ns) ns, os ++ [⟨(nextM p ns : Nat), 0⟩], g', HJ), ⟨⟨by omega, narM_ok hns, by simp; omega, by simp; omega, hC, q2⟩, by omega⟩, by simp, HLe.refl _⟩
    · have c2 : ¬ nextM p ns ≠ 0 := by omega
      rw [if_neg c2] at hC
      obtain ⟨k1, k2, k3⟩ := open_facts he
      obtain ⟨k, hk⟩ : ∃ k, k = openK ns := ⟨_, rfl⟩
      rw [← hk] at k1 k2 k3 hC
      simp(maxSteps:=999999)(disch:=omega)only[go_sem,zA,zM,zS,zE,zL]
      first | refine OpS.mk (IndexFunc_run hn ns hns k k1 k2 k3) (⟨_, Tryz.func36, rfl, rfl⟩ : Enters Tryz.prog 36) rfl rfl rfl rfl rfl ?_ | refine Loud.mk (IndexFunc_run hn ns hns k k1 k2 k3) (⟨_, Tryz.func36, rfl, rfl⟩ : Enters Tryz.prog 36) rfl rfl rfl rfl rfl ?_
      simp(maxSteps:=999999)(disch:=omega)only[go_sem,zA,zM,zS,zE,zL]
      intro g44
      have q1 := q.app (H' := brnH g44 ⟨0, k⟩)
      refine appendM_own (E := eB) (xs := os) (ys := [(⟨0, k⟩ : Brn)]) (sliceOf_of' ti27 rfl ti41) ⟨rfl, rfl, by decide, by decide⟩ rfl q1.cells ⟨by omega, by simp⟩ (elems_own (xs := [(⟨0, k⟩ : Brn)]) look_last) ?_
      intro g'
      have q2 := q1.put (R := os ++ [(⟨0, k⟩ : Brn)]) g'
      obtain ⟨HJ, hHJ⟩ : ∃ HJ : Heap, HJ = (HI ++ brnH g44 ⟨0, k⟩).set id (some ⟨g', 2, cl eB (os ++ [(⟨0, k⟩ : Brn)])⟩) := ⟨_, rfl⟩
      rw [← hHJ] at q2
      rw [← hHJ]
      clear hHJ q1
      have hnk := nth_nats ns k
      have hmk := hns.lt hn k
      have hvl := mvals_len (mAt ns k) 4
      have hkn : k < n * n := by omega
      obtain ⟨os1, hos1⟩ : ∃ os1, os1 = os ++ [(⟨0, k⟩ : Brn)] := ⟨_, rfl⟩
      have hl1 : os1.length = os.length + 1 := by rw [hos1]; simp
      rw [← hos1] at hC q2
      simp(maxSteps:=999999)(disch:=omega)only[go_sem,zA,zM,zS,zE,zL, hnk]
      first | refine OpS.mk (iMaskValues_run (mAt ns k) hmk) (⟨_, Tryz.func38, rfl, rfl⟩ : Enters Tryz.prog 38) rfl rfl rfl rfl rfl ?_ | refine Loud.mk (iMaskValues_run (mAt ns k) hmk) (⟨_, Tryz.func38, rfl, rfl⟩ : Enters Tryz.prog 38) rfl rfl rfl rfl rfl ?_
      simp(maxSteps:=999999)(disch:=omega)only[go_sem,zA,zM,zS,zE,zL]
      obtain ⟨V, hV⟩ : ∃ V, V = mvals (mAt ns k) 4 := ⟨_, rfl⟩
      rw [← hV] at hC hvl ⊢
      refine loop_rule2 (fun (i : Nat) (b : List Brn × Nat × Heap) => V.length - i) (fun i b => i ≤ V.length ∧ 201 ≤ b.1.length + f ∧ b.1.length ≤ 201 ∧ (V.drop i).foldl (fun o v => mkF p f (ns.set k (2 ^ v.toNat)) o) b.1 = R ∧ MkI H b.2.2 id b.2.1 gb p b.1) (fun i b => [.a, .k, .p (.c (.own id b.2.1 0 b.1.length none)), .k, .a, .a, .a, .a, .a, .a, .a, .k, .a, .a, .a, .a, .a, .a, .a, .a, .a, .a, .a, .a, .a, .a, .a, .a, .a, .a, .a, .a, .a, .a, .a, .a, .a, .a, .a, .a, .a, .a, .a, .a, .a, .a, .a, .a, .a, .a, .k, .k, .p (int i), .a, .a, .a, .a, .a, .a, .a, .a, .a, .a, .a, .a, .a]) (fun _ b => b.2.2) 0 (os1, g', HJ) ⟨Nat.zero_le _, by show 201 ≤ os1.length + f; omega, by show os1.length ≤ 201; omega, hC, q2⟩ (by simp(maxSteps:=999999)(disch:=omega)only[go_sem,zA,zM,zS,zE,zL]; first | (rw [hl1]; done) | (rw [hl1]; rfl) | exact ⟨by rw [hl1], rfl⟩ | trace_state) (HLe.refl _) ?_
      rintro i ⟨o2, g2, HI⟩ ⟨hi, hb1, hb2, hT, q⟩
      simp only at hb1 hb2 hT q ⊢
      have qc := q.cells
      have qb := q.box
      simp(maxSteps:=999999)(disch:=omega)only[go_sem,zA,zM,zS,zE,zL]
      ((first|(with_reducible first|refine condK_dec ?_ ?_|refine condK_ndec ?_ ?_|refine condK_nb ?_ ?_)|refine condK_b ?_ ?_) <;> intro c3)
      · have c3 : i < V.length := by omega
        rw [fold_step c3] at hT
        have hvm : nth V (i : Int) ∈ mvals (mAt ns k) 4 := by rw [← hV, nth_eq (by omega)]; exact List.getElem_mem _
        obtain ⟨v, hv1, hv2, hv3, _⟩ := mvals_bit hvm
        have hmt := hns.tried hvm
        rw [hv1, Int.toNat_natCast] at hT hmt
        have hcl := ih f (by omega) (ns.set k (2 ^ v)) o2 HI id g2 hmt (by omega) hb2 qc
        have hge := mkF_ge p f (ns.set k (2 ^ v)) o2
        have hle := mkF_len p f (ns.set k (2 ^ v)) o2 hb2
        have hqn := q.ln
        have hql := q.lt
        simp(maxSteps:=999999)(disch:=omega)only[go_sem,zA,zM,zS,zE,zL, hv1]
        have hM : look (mask (hideM id HI.length (HI.length + 1)) HI) H.length gb = some ⟨gb, 1, cP p⟩ := by rw [look_mask (hideM_no (by omega) (by omega))]; exact qb
        refine drawP_lM [0, 1, 2, 3, 5, 4] [] none [6, 7] (hideM id HI.length (HI.length + 1)) [0, 0, 0, 0, 14, 0, 63, 127] foll (by kernel_rfl) ?_
        iterate 5 (rw [lwF_cons]; simp(maxSteps:=999999)(disch:=omega)only[go_sem,zA,zM,zS,zE,zL, hM])
        rw [lwF_cons]
        simp(maxSteps:=999999)(disch:=omega)only[go_sem,zA,zM,zS,zE,zL]
        first | refine OpS.mk (tried_run hn ns hns k v hkn hv3) (⟨_, Tryz.func39, rfl, rfl⟩ : Enters Tryz.prog 39) rfl rfl rfl rfl rfl ?_ | refine Loud.mk (tried_run hn ns hns k v hkn hv3) (⟨_, Tryz.func39, rfl, rfl⟩ : Enters Tryz.prog 39) rfl rfl rfl rfl rfl ?_
        simp(maxSteps:=999999)(disch:=omega)only[go_sem,zA,zM,zS,zE,zL]
        refine OpS.run hcl (⟨_, Tryz.func20, rfl, rfl⟩ : Enters Tryz.prog 20) rfl rfl ?_
        rintro _ H' ⟨g3, rfl, hc3, f3⟩
        have q3 := q.step f3 hc3
        simp(maxSteps:=999999)(disch:=omega)only[go_sem,zA,zM,zS,zE,zL]
        exact ⟨i + 1, (mkF p f (ns.set k (2 ^ v)) o2, g3, H'), ⟨⟨by omega, by show 201 ≤ (mkF p f (ns.set k (2 ^ v)) o2).length + f; omega, hle, hT, q3⟩, by omega⟩, by first | rfl | exact ⟨rfl, rfl⟩ | (push_cast; simp), HLe.refl _⟩
      · have c3 : V.length ≤ i := by omega
        rw [List.drop_eq_nil_of_le c3] at hT
        subst hT
        simp(maxSteps:=999999)(disch:=omega)only[go_sem,zA,zM,zS,zE,zL]
        exact q.done
end Go.Lg
