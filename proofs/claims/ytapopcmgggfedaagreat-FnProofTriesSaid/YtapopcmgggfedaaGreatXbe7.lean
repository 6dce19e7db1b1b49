/- GpTH, cut to what is needed. -/
import Derived.Test.YtapopcmgggfedaaGreatXbe6
import Derived.Test.YtapopcmgggfedaaGreatXbd5
open Nat renaming reduceAdd → zA, reduceMul → zM, reduceSub → zS, reduceEqDiff → zE, reduceLeDiff → zL
set_option linter.unusedSimpArgs false
set_option linter.unusedVariables false
set_option maxRecDepth 100000
namespace Go.Lg
open Go.Proofs
attribute [-go_sem] appendM lwF_cons
theorem OpS.iceOne {P : Program} {o : Oper} {s : List AV} {H H' : Heap} {K : KV} (j0 : Nat) (y : AV) (S : Nat → Bool) (hh : IceH S H H') (hy : IceA S H (s.getD j0 .void) y) (h : OpS P o ⟨s.set j0 y, H'⟩ K) : OpS P o ⟨s, H⟩ K := by
  intro w X a R next Q hn
  have R' : Rel w (X.iceS S H) a ⟨s.set j0 y, H'⟩ := by
    refine ⟨R.defs, by rw [R.size]; simp, fun i hi => ?_, iceS_rel R.heap hh⟩
    have hi' : i < s.length := by simpa using hi
    obtain ⟨u, h1, h2⟩ := R.slot i hi'
    refine ⟨u, h1, ?_⟩
    show VA w (X.iceS S H) H' ((s.set j0 y)[i]) u
    rw [List.getElem_set]
    split
    · rename_i e
      subst e
      have e2 : s.getD j0 .void = s[j0] := by simp [List.getD, List.getElem?_eq_getElem hi']
      rw [e2] at hy
      exact iceA_sound R.heap hh hy h2
    · exact iceA_sound R.heap hh (.o _ _ (.s _)) h2
  exact h w _ a R' next Q fun v u X' H'' w' h1 h2 h3 h4 => hn v u X' H'' w' h1 h2 ((iceS_ev hh).trans h3) h4
def oneS (n : Nat) : Nat → Bool := fun i => decide (i = n)
theorem iceH_one (H : Heap) (n : Nat) : IceH (oneS n) H (H.set n none) := iceH_same fun id b hb => by
  by_cases h : id = n
  · subst h
    by_cases hl : id < H.length
    · rw [List.getElem?_set_self hl] at hb; cases hb
    · rw [List.getElem?_eq_none (by simp; omega)] at hb; cases hb
  · rw [List.getElem?_set_ne (Ne.symm h)] at hb
    exact ⟨by simp [oneS, h], hb⟩
theorem frz_ints {S : Nat → Bool} {H : Heap} {id g : Nat} {lim : Option Nat} {xs : List Int} (hS : S id = true) (hl : look H id g = some ⟨g, 1, cl (eI .i64) xs⟩) : frzS S H 6 (.own id g 0 xs.length lim) = some (fints xs) := by
  have hcl : (cl (eI .i64) xs).length = xs.length * 1 := cl_length xs
  have e : ((cl (eI .i64) xs).drop 0).take (xs.length * 1) = cl (eI .i64) xs := by rw [List.drop_zero, List.take_of_length_le (by omega)]
  show (if S id then match look H id g with
    | some b => (((b.cs.drop 0).take (xs.length * b.sz)).mapM (frzS S H 5)).map (FV.sl xs.length)
    | none => none else none) = _
  rw [if_pos hS, hl]
  show (((((cl (eI .i64) xs).drop 0).take (xs.length * 1)).mapM (frzS S H 5)).map (FV.sl xs.length)) = _
  rw [e]
  have : ∀ l : List Int, (cl (eI .i64) l).mapM (frzS S H 5) = some (fl (eI .i64) l) := by
    intro l
    induction l with
    | nil => rfl
    | cons x l ih =>
      show (CV.f (.int .i64 x) :: cl (eI .i64) l).mapM (frzS S H 5) = _
      rw [List.mapM_cons, ih]
      rfl
  rw [this]
  rfl
structure MkJ (H HI : Heap) (id pid g pg gb : Nat) (p : Puz) (out : List Brn) : Prop where
  cells : look HI id g = some ⟨g, 2, cl eB out⟩
  cell : look HI pid pg = some ⟨pg, 1, [.own id g 0 out.length none]⟩
  box : look HI H.length gb = some ⟨gb, 1, cP p⟩
  lt : id < H.length
  lt2 : pid < H.length
  ne : id ≠ pid
  ln : H.length + 1 ≤ HI.length
  frm : ∀ i, i < H.length → i ≠ id → i ≠ pid → HI[i]? = H[i]?
def mkQ2 (H : Heap) (id pid pg : Nat) (R : List Brn) : KV := fun v H' => v = .tup [] ∧ ∃ g', look H' id g' = some ⟨g', 2, cl eB R⟩ ∧ look H' pid pg = some ⟨pg, 1, [.own id g' 0 R.length none]⟩ ∧ Frm H H' [id, pid]
theorem MkJ.done {H HI : Heap} {id pid g pg gb : Nat} {p : Puz} {out : List Brn} (h : MkJ H HI id pid g pg gb p out) : lessQ HI (mkQ2 H id pid pg out) (.tup []) := by
  have hl := h.lt
  have hl2 := h.lt2
  have hn := h.ln
  refine ⟨HI.take H.length, fun i b hb => ?_, rfl, g, ?_, ?_, by simp; omega, fun i hi => ?_⟩
  · by_cases hi : i < H.length
    · rwa [List.getElem?_take_of_lt hi] at hb
    · rw [List.getElem?_take_eq_none (by omega)] at hb; cases hb
  · have hc := h.cells
    unfold look at hc ⊢
    rw [List.getElem?_take_of_lt hl]
    exact hc
  · have hc := h.cell
    unfold look at hc ⊢
    rw [List.getElem?_take_of_lt hl2]
    exact hc
  · simp only [List.mem_cons, List.not_mem_nil, or_false, not_or] at hi
    by_cases h2 : i < H.length
    · rw [List.getElem?_take_of_lt h2, h.frm i h2 hi.1 hi.2]
    · rw [List.getElem?_take_eq_none (by omega), List.getElem?_eq_none (by omega)]
theorem MkJ.app {H HI H' : Heap} {id pid g pg gb : Nat} {p : Puz} {out : List Brn} (h : MkJ H HI id pid g pg gb p out) : MkJ H (HI ++ H') id pid g pg gb p out :=
  ⟨look_appL h.cells, look_appL h.cell, look_appL h.box, h.lt, h.lt2, h.ne, by have := h.ln; simp; omega, fun i h1 h2 h3 => by rw [List.getElem?_append_left (by have := h.ln; omega)]; exact h.frm i h1 h2 h3⟩
theorem MkJ.step {H HI H' : Heap} {id pid g g' pg gb : Nat} {p : Puz} {out R : List Brn} (h : MkJ H HI id pid g pg gb p out) (hf : ∀ i, i < HI.length → i ≠ id → i ≠ pid → i ≤ H.length → H'[i]? = HI[i]?) (hln : HI.length ≤ H'.length) (hc : look H' id g' = some ⟨g', 2, cl eB R⟩) (hc2 : look H' pid pg = some ⟨pg, 1, [.own id g' 0 R.length none]⟩) : MkJ H H' id pid g' pg gb p R := by
  have hl := h.lt
  have hl2 := h.lt2
  have hn := h.ln
  refine ⟨hc, hc2, ?_, hl, hl2, h.ne, by omega, fun i h1 h2 h3 => by rw [hf i (by omega) h2 h3 (by omega)]; exact h.frm i h1 h2 h3⟩
  have hb := h.box
  unfold look at hb ⊢
  rw [hf _ (by omega) (by omega) (by omega) (Nat.le_refl _)]
  exact hb
theorem MkJ.push {H HI : Heap} {id pid g pg gb : Nat} {p : Puz} {out : List Brn} (h : MkJ H HI id pid g pg gb p out) (b : Brn) (g1 g' : Nat) :
    look ((HI ++ brnH g1 b).set id (some ⟨g', 2, cl eB (out ++ [b])⟩)) pid pg = some ⟨pg, 1, [.own id g 0 out.length none]⟩ ∧
    MkJ H (((HI ++ brnH g1 b).set id (some ⟨g', 2, cl eB (out ++ [b])⟩)).set pid (some ⟨pg, 1, [.own id g' 0 (out.length + 1) none]⟩)) id pid g' pg gb p (out ++ [b]) := by
  have hl := h.lt
  have hl2 := h.lt2
  have hn := h.ln
  have hne := h.ne
  have h1 := (h.app (H' := brnH g1 b)).cell
  have hlen : (HI ++ brnH g1 b).length = HI.length + 1 := by simp
  refine ⟨?_, (h.app (H' := brnH g1 b)).step (fun i h2 h3 h4 _ => ?_) (by simp) ?_ ?_⟩
  · unfold look at h1 ⊢
    rw [List.getElem?_set_ne hne]
    exact h1
  · rw [List.getElem?_set_ne (Ne.symm h4), List.getElem?_set_ne (Ne.symm h3)]
  · unfold look
    rw [List.getElem?_set_ne (Ne.symm hne), List.getElem?_set_self (by omega)]
    simp
  · unfold look
    rw [List.getElem?_set_self (by simp; omega)]
    simp
set_option maxHeartbeats 8000000 in
theorem l20Make_run {p : Puz} {n : Nat} (hp : PuzN p n) (hv : puzzleValid p = true) : ∀ (F : Nat) (ms : List Nat) (out : List Brn) (H : Heap) (id pid g pg : Nat), MsN ms n → 201 ≤ out.length + F → out.length ≤ 201 → look H id g = some ⟨g, 2, cl eB out⟩ → look H pid pg = some ⟨pg, 1, [.own id g 0 out.length none]⟩ → id ≠ pid → RunCall Tryz.prog 47 [aP p, ints (nats ms), .c (.ptr pid pg 0)] H (mkQ2 H id pid pg (mkF p F ms out)) := by
  intro F
  induction F using Nat.strongRecOn with
  | ind F ih =>
  intro ms out H id pid g pg hm hF ho hl hl2 hne
  have hn := hp.hn
  have hsq : 4 ≤ n * n ∧ n * n ≤ 16 := by rcases hn with rfl | rfl | rfl <;> omega
  have hlt : id < H.length := (List.getElem?_eq_some_iff.1 (look_some hl).1).1
  have hlt2 : pid < H.length := (List.getElem?_eq_some_iff.1 (look_some hl2).1).1
  obtain ⟨R, hR⟩ : ∃ R, R = mkF p F ms out := ⟨_, rfl⟩
  rw [← hR]
  refine RunCall.cw (c := _) Tryz.func47 rfl (n := 107) Tryz.ntmps47 (rs := []) rfl ?_
  simp only[List.length_cons,List.length_nil,zA,zS,List.replicate,List.cons_append,List.nil_append]
  simp(maxSteps:=999999)(disch:=omega)only[go_sem,zA,zM,zS,zE,zL]
  intro gb
  refine loop_rule2 (fun (f : Nat) (b : List Nat × List Brn × Nat × Heap) => f) (fun f b => f ≤ F ∧ MsN b.1 n ∧ 201 ≤ b.2.1.length + f ∧ b.2.1.length ≤ 201 ∧ mkF p f b.1 b.2.1 = R ∧ MkJ H b.2.2.2 id pid b.2.2.1 pg gb p b.2.1) (fun f b => [.a, .p (ints (nats b.1)), .k, .k, .a, .a, .a, .a, .a, .a, .a, .a, .a, .a, .a, .a, .a, .a, .a, .a, .a, .a, .a, .a, .a, .a, .a, .a, .a, .a, .a, .a, .a, .a, .a, .a, .a, .a, .a, .a, .a, .a, .a, .a, .a, .a, .a, .a, .a, .a, .a, .a, .a, .a, .a, .a, .a, .a, .a, .a, .a, .a, .a, .a, .a, .a, .a, .a, .a, .a, .a, .a, .a, .a, .a, .a, .a, .a, .a, .a, .a, .a, .a, .a, .a, .a, .a, .a, .a, .a, .a, .a, .a, .a, .a, .a, .a, .a, .a, .a, .a, .a, .a, .a, .a, .a, .a]) (fun f b => b.2.2.2) F (ms, out, g, H ++ [some ⟨gb, 1, cP p⟩]) ⟨Nat.le_refl _, hm, hF, ho, hR.symm, ⟨look_appL hl, look_appL hl2, look_last, hlt, hlt2, hne, by simp, fun i h1 h2 h3 => List.getElem?_append_left h1⟩⟩ (by simp(maxSteps:=999999)(disch:=omega)only[go_sem,zA,zM,zS,zE,zL]) (HLe.refl _) ?_
  rintro f ⟨ns, os, g2, HI⟩ ⟨hf, hns, hos, hol, hC, q⟩
  simp only at hns hos hol hC q ⊢
  have qc := q.cells
  have qb := q.box
  have ql := q.cell
  have hnl : (nats ns).length = n * n := by rw [nats_len]; exact hns.len
  have hnl2 := hns.len
  have hN : nilV HI (.c (.ptr pid pg 0)) = some (.c (.ptr pid pg 0)) := nilV_ptr ql
  simp(maxSteps:=999999)(disch:=omega)only[go_sem,zA,zM,zS,zE,zL, hN, qc, ql]
  ((first|(with_reducible first|refine condK_dec ?_ ?_|refine condK_ndec ?_ ?_|refine condK_nb ?_ ?_)|refine condK_b ?_ ?_) <;> intro c1)
  rotate_left
  · rw [mkF_full (by omega)] at hC
    subst hC
    simp(maxSteps:=999999)(disch:=omega)only[go_sem,zA,zM,zS,zE,zL]
    exact q.done
  have c1 : ¬ 200 < os.length := by omega
  obtain ⟨f, rfl⟩ : ∃ f', f = f' + 1 := ⟨f - 1, by omega⟩
  simp(maxSteps:=999999)(disch:=omega)only[go_sem,zA,zM,zS,zE,zL]
  refine loop_rule2 (fun (k : Nat) (b : Nat × Int) => n * n - k) (fun k b => k ≤ n * n ∧ (∀ i : Nat, i < k → mAt ns i ≠ 0) ∧ b.1 ≤ k ∧ (b.1 = k ↔ ∀ i : Nat, i < k → onlyV (mAt ns i) ≠ 0) ∧ ((b.2 = -1 ∧ ∀ i : Nat, i < k → onlyV (mAt ns i) ≠ 0) ∨ ∃ j : Nat, j < k ∧ b.2 = j ∧ onlyV (mAt ns j) = 0 ∧ ∀ i : Nat, i < j → onlyV (mAt ns i) ≠ 0)) (fun k b => [.a, .k, .k, .k, .a, .a, .p (int b.1), .p (int b.2), .p (int k), .a, .a, .a, .a, .a, .a, .a, .a, .a, .a, .a, .a, .a, .a, .a, .a, .a, .a, .a, .a, .a, .a, .a, .a, .a, .a, .a, .a, .a, .a, .a, .a, .a, .a, .a, .a, .a, .a, .a, .a, .a, .a, .a, .a, .a, .a, .a, .a, .a, .a, .a, .a, .a, .a, .a, .a, .a, .a, .a, .a, .a, .a, .a, .a, .a, .a, .a, .a, .a, .a, .a, .a, .a, .a, .a, .a, .a, .a, .a, .a, .a, .a, .a, .a, .a, .a, .a, .a, .a, .a, .a, .a, .a, .a, .a, .a, .a, .a]) (fun _ _ => HI) 0 (0, -1) ⟨Nat.zero_le _, fun i h => by omega, Nat.le_refl _, by simp, .inl ⟨rfl, fun i h => by omega⟩⟩ (by simp(maxSteps:=999999)(disch:=omega)only[go_sem,zA,zM,zS,zE,zL]; first | rfl | exact ⟨rfl, rfl⟩ | exact ⟨rfl, rfl, rfl⟩) (HLe.refl _) ?_
  rintro k ⟨c, e⟩ ⟨hk, hno, hck, hc, hce⟩
  simp only at hck hc hce ⊢
  simp(maxSteps:=999999)(disch:=omega)only[go_sem,zA,zM,zS,zE,zL]
  ((first|(with_reducible first|refine condK_dec ?_ ?_|refine condK_ndec ?_ ?_|refine condK_nb ?_ ?_)|refine condK_b ?_ ?_) <;> intro d1)
  · have d1 : k < n * n := by omega
    have hmk := hns.lt hn k
    have hnk := nth_nats ns k
    have hz := mvals_zero hmk
    have hoo := (mvals_only hmk).1
    have hvl := mvals_len (mAt ns k) 4
    simp(maxSteps:=999999)(disch:=omega)only[go_sem,zA,zM,zS,zE,zL, hnk]
    first | refine OpS.mk (MaskValues_run (mAt ns k) hmk) (⟨_, Tryz.func66, rfl, rfl⟩ : Enters Tryz.prog 66) rfl rfl rfl rfl rfl ?_ | refine Loud.mk (MaskValues_run (mAt ns k) hmk) (⟨_, Tryz.func66, rfl, rfl⟩ : Enters Tryz.prog 66) rfl rfl rfl rfl rfl ?_
    simp(maxSteps:=999999)(disch:=omega)only[go_sem,zA,zM,zS,zE,zL]
    obtain ⟨W, hW⟩ : ∃ W, W = (mvals (mAt ns k) 4).length := ⟨_, rfl⟩
    rw [← hW] at hz hoo hvl ⊢
    ((first|(with_reducible first|refine condK_dec ?_ ?_|refine condK_ndec ?_ ?_|refine condK_nb ?_ ?_)|refine condK_b ?_ ?_) <;> intro c2)
    · have c2 : mAt ns k = 0 := hz.1 (by omega)
      have hE : endM p ns = some 0 := by
        rw [endM_is, if_pos ⟨k, by omega, c2⟩]
      rw [mkF_end hE] at hC
      subst hC
      simp(maxSteps:=999999)(disch:=omega)only[go_sem,zA,zM,zS,zE,zL]
      exact q.done
    have c2 : mAt ns k ≠ 0 := fun h => by have := hz.2 h; omega
    have hno2 : ∀ i : Nat, i < k + 1 → mAt ns i ≠ 0 := fun i hi => by
      by_cases hik : i = k
      · rw [hik]; exact c2
      · exact hno i (by omega)
    simp(maxSteps:=999999)(disch:=omega)only[go_sem,zA,zM,zS,zE,zL]
    ((first|(with_reducible first|refine condK_dec ?_ ?_|refine condK_ndec ?_ ?_|refine condK_nb ?_ ?_)|refine condK_b ?_ ?_) <;> intro c3)
    · have c3 : W = 1 := by omega
      have hk0 := hoo.1 c3
      have hc1 : (c + 1 = k + 1 ↔ ∀ i : Nat, i < k + 1 → onlyV (mAt ns i) ≠ 0) := by
        constructor
        · intro h1 i hi
          by_cases hik : i = k
          · rw [hik]; exact hk0
          · exact hc.1 (by omega) i (by omega)
        · intro h1
          have := hc.2 fun i hi => h1 i (by omega)
          omega
      have he2 : (e = -1 ∧ ∀ i : Nat, i < k + 1 → onlyV (mAt ns i) ≠ 0) ∨ ∃ j : Nat, j < k + 1 ∧ e = j ∧ onlyV (mAt ns j) = 0 ∧ ∀ i : Nat, i < j → onlyV (mAt ns i) ≠ 0 := by
        rcases hce with ⟨h1, h2⟩ | ⟨j, h1, h2⟩
        · refine .inl ⟨h1, fun i hi => ?_⟩
          by_cases hik : i = k
          · rw [hik]; exact hk0
          · exact h2 i (by omega)
        · exact .inr ⟨j, by omega, h2⟩
      simp(maxSteps:=999999)(disch:=omega)only[go_sem,zA,zM,zS,zE,zL]
      exact ⟨k + 1, (c + 1, e), ⟨⟨by omega, hno2, by show c + 1 ≤ k + 1; omega, hc1, he2⟩, by omega⟩, by first | exact ⟨by push_cast; rfl, by push_cast; rfl⟩ | exact ⟨by push_cast; rfl, rfl, by push_cast; rfl⟩ | trace_state, HLe.refl _⟩
    · have c3 : W ≠ 1 := by omega
      have hk0 : onlyV (mAt ns k) = 0 := by
        by_cases h : onlyV (mAt ns k) = 0
        · exact h
        · exact absurd (hoo.2 h) c3
      have hc1 : (c = k + 1 ↔ ∀ i : Nat, i < k + 1 → onlyV (mAt ns i) ≠ 0) := by
        constructor
        · intro h1; omega
        · intro h1; exact absurd hk0 (h1 k (by omega))
      simp(maxSteps:=999999)(disch:=omega)only[go_sem,zA,zM,zS,zE,zL]
      ((first|(with_reducible first|refine condK_dec ?_ ?_|refine condK_ndec ?_ ?_|refine condK_nb ?_ ?_)|refine condK_b ?_ ?_) <;> intro c4)
      · have h1 : e = -1 ∧ ∀ i : Nat, i < k → onlyV (mAt ns i) ≠ 0 := by
          rcases hce with h | ⟨j, h1, h2, _⟩
          · exact h
          · omega
        simp(maxSteps:=999999)(disch:=omega)only[go_sem,zA,zM,zS,zE,zL]
        exact ⟨k + 1, (c, (k : Int)), ⟨⟨by omega, hno2, by show c ≤ k + 1; omega, hc1, .inr ⟨k, by omega, rfl, hk0, h1.2⟩⟩, by omega⟩, by first | exact ⟨by push_cast; rfl, by push_cast; rfl⟩ | exact ⟨rfl, by push_cast; rfl⟩ | exact ⟨rfl, rfl, by push_cast; rfl⟩ | trace_state, HLe.refl _⟩
      · have he2 : ∃ j : Nat, j < k + 1 ∧ e = j ∧ onlyV (mAt ns j) = 0 ∧ ∀ i : Nat, i < j → onlyV (mAt ns i) ≠ 0 := by
          rcases hce with ⟨h, _⟩ | ⟨j, h1, h2⟩
          · omega
          · exact ⟨j, by omega, h2⟩
        simp(maxSteps:=999999)(disch:=omega)only[go_sem,zA,zM,zS,zE,zL]
        exact ⟨k + 1, (c, e), ⟨⟨by omega, hno2, by show c ≤ k + 1; omega, hc1, .inr he2⟩, by omega⟩, by first | exact ⟨by push_cast; rfl, by push_cast; rfl⟩ | exact ⟨rfl, by push_cast; rfl⟩ | exact ⟨rfl, rfl, by push_cast; rfl⟩ | (push_cast; rfl) | trace_state, HLe.refl _⟩
  · have d1 : k = n * n := by omega
    subst d1
    have hE := endM_is (p := p) (ms := ns)
    rw [hnl2, if_neg (fun h => by obtain ⟨i, h1, h2⟩ := h; exact hno i h1 h2)] at hE
    simp(maxSteps:=999999)(disch:=omega)only[go_sem,zA,zM,zS,zE,zL]
    ((first|(with_reducible first|refine condK_dec ?_ ?_|refine condK_ndec ?_ ?_|refine condK_nb ?_ ?_)|refine condK_b ?_ ?_) <;> intro c2)
    · have c2 : c = n * n := by omega
      rw [if_pos (hc.1 c2)] at hE
      rw [mkF_end hE] at hC
      subst hC
      simp(maxSteps:=999999)(disch:=omega)only[go_sem,zA,zM,zS,zE,zL]
      exact q.done
    have c2 : c ≠ n * n := by omega
    rw [if_neg (fun h => c2 (hc.2 h))] at hE
    rw [mkF_go c1 hE] at hC
    obtain ⟨k, hkn, rfl, hk0, hkl⟩ : ∃ j : Nat, j < n * n ∧ e = j ∧ onlyV (mAt ns j) = 0 ∧ ∀ i : Nat, i < j → onlyV (mAt ns i) ≠ 0 := by
      rcases hce with ⟨_, h⟩ | h
      · exact absurd (hc.2 h) c2
      · exact h
    have hke : openK ns = k := by
      obtain ⟨o1, o2, o3⟩ := open_facts hE
      by_cases h1 : openK ns < k
      · exact absurd o2 (hkl _ h1)
      · by_cases h2 : k < openK ns
        · exact absurd hk0 (o3 _ h2)
        · omega
    rw [hke] at hC
    simp(maxSteps:=999999)(disch:=omega)only[go_sem,zA,zM,zS,zE,zL]
    refine loop_rule (fun t : Nat => 5 - t) (fun t => 1 ≤ t ∧ t ≤ 5 ∧ ∀ u, 1 ≤ u → u < t → narM p u ns = ns) (fun t => [.a, .k, .k, .k, .a, .a, .a, .k, .a, .a, .p (ints (nats ns)), .p (int t), .a, .a, .a, .a, .a, .a, .a, .a, .a, .a, .a, .a, .a, .a, .a, .a, .a, .a, .a, .a, .a, .a, .a, .a, .a, .a, .a, .a, .a, .a, .a, .a, .a, .a, .a, .a, .a, .a, .a, .a, .a, .a, .a, .a, .a, .a, .a, .a, .a, .a, .a, .a, .a, .a, .a, .a, .a, .a, .a, .a, .a, .a, .a, .a, .a, .a, .a, .a, .a, .a, .a, .a, .a, .a, .a, .a, .a, .a, .a, .a, .a, .a, .a, .a, .a, .a, .a, .a, .a, .a, .a, .a, .a, .a, .a]) (fun _ => HI) 1 ⟨Nat.le_refl _, by omega, fun u h1 h2 => by omega⟩ (by simp(maxSteps:=999999)(disch:=omega)only[go_sem,zA,zM,zS,zE,zL]; first | rfl | exact ⟨rfl, rfl⟩) (HLe.refl _) ?_
    rintro t ⟨ht1, ht5, htn⟩
    simp(maxSteps:=999999)(disch:=omega)only[go_sem,zA,zM,zS,zE,zL]
    ((first|(with_reducible first|refine condK_dec ?_ ?_|refine condK_ndec ?_ ?_|refine condK_nb ?_ ?_)|refine condK_b ?_ ?_) <;> intro c3)
    · have c3 : t ≤ 4 := by omega
      simp(maxSteps:=999999)(disch:=omega)only[go_sem,zA,zM,zS,zE,zL, qb]
      first | refine OpS.mk (sNarrowBy_run hp hv ns hns t ⟨ht1, c3⟩) (⟨_, Tryz.func67, rfl, rfl⟩ : Enters Tryz.prog 67) rfl rfl rfl rfl rfl ?_ | refine Loud.mk (sNarrowBy_run hp hv ns hns t ⟨ht1, c3⟩) (⟨_, Tryz.func67, rfl, rfl⟩ : Enters Tryz.prog 67) rfl rfl rfl rfl rfl ?_
      simp(maxSteps:=999999)(disch:=omega)only[go_sem,zA,zM,zS,zE,zL]
      have hok := narM_ok (p := p) (t := t) hns
      have hnol : (nats (narM p t ns)).length = n * n := by rw [nats_len]; exact hok.len
      first | refine OpS.rd (l8Same_run (nats (narM p t ns)) (nats ns) (by omega)) (⟨_, Tryz.func68, rfl, rfl⟩ : Enters Tryz.prog 68) rfl rfl rfl rfl ?_ | refine Loud.rd (l8Same_run (nats (narM p t ns)) (nats ns) (by omega)) (⟨_, Tryz.func68, rfl, rfl⟩ : Enters Tryz.prog 68) rfl rfl rfl rfl ?_
      simp(maxSteps:=999999)(disch:=omega)only[go_sem,zA,zM,zS,zE,zL]
      ((first|(with_reducible first|refine condK_dec ?_ ?_|refine condK_ndec ?_ ?_|refine condK_nb ?_ ?_)|refine condK_b ?_ ?_) <;> intro c4)
      · have c4 := nats_inj.1 c4
        simp(maxSteps:=999999)(disch:=omega)only[go_sem,zA,zM,zS,zE,zL]
        refine ⟨t + 1, ⟨⟨by omega, by omega, fun u u1 u2 => ?_⟩, by omega⟩, by first | exact ⟨by rw [c4], by push_cast; rfl⟩ | exact ⟨by push_cast; rfl, by rw [c4]⟩ | trace_state, HLe.refl _⟩
        by_cases hut : u = t
        · rw [hut]; exact c4
        · exact htn u u1 (by omega)
      · have c5 : narM p t ns ≠ ns := fun h => c4 (by rw [h])
        have hnt : nextM p ns = t := nextM_is ⟨ht1, c3⟩ htn c5
        rw [hnt, if_pos (by omega)] at hC
        simp(maxSteps:=999999)(disch:=omega)only[go_sem,zA,zM,zS,zE,zL, hN, ql]
        intro g35
        refine appendM_own (E := eB) (xs := os) (ys := [(⟨t, 0⟩ : Brn)]) (sliceOf_of' ti27 rfl ti41) ⟨rfl, rfl, by decide, by decide⟩ rfl (q.app (H' := brnH g35 ⟨t, 0⟩)).cells ⟨by omega, by simp⟩ (elems_own (xs := [(⟨t, 0⟩ : Brn)]) look_last) ?_
        intro g'
        obtain ⟨u1, u2⟩ := q.push ⟨t, 0⟩ g35 g'
        obtain ⟨HA, hHA⟩ : ∃ HA : Heap, HA = (HI ++ brnH g35 ⟨t, 0⟩).set id (some ⟨g', 2, cl eB (os ++ [(⟨t, 0⟩ : Brn)])⟩) := ⟨_, rfl⟩
        rw [← hHA] at u1 u2
        rw [← hHA]
        clear hHA
        have hNA : nilV HA (.c (.ptr pid pg 0)) = some (.c (.ptr pid pg 0)) := nilV_ptr u1
        simp(maxSteps:=999999)(disch:=omega)only[go_sem,zA,zM,zS,zE,zL, hNA, u1]
        rw [blockK_miss _ _ rfl]
        obtain ⟨HB, hHB⟩ : ∃ HB : Heap, HB = HA.set pid (some ⟨pg, 1, [.own id g' 0 (os.length + 1) none]⟩) := ⟨_, rfl⟩
        rw [← hHB] at u2
        simp(maxSteps:=999999)(disch:=omega)only[go_sem,zA,zM,zS,zE,zL]
        first | refine OpS.rd (l8Same_run (nats (narM p t ns)) (nats ns) (by omega)) (⟨_, Tryz.func68, rfl, rfl⟩ : Enters Tryz.prog 68) rfl rfl rfl rfl ?_ | refine Loud.rd (l8Same_run (nats (narM p t ns)) (nats ns) (by omega)) (⟨_, Tryz.func68, rfl, rfl⟩ : Enters Tryz.prog 68) rfl rfl rfl rfl ?_
        simp(maxSteps:=999999)(disch:=omega)only[go_sem,zA,zM,zS,zE,zL]
        ((first|(with_reducible first|refine condK_dec ?_ ?_|refine condK_ndec ?_ ?_|refine condK_nb ?_ ?_)|refine condK_b ?_ ?_) <;> intro c6)
        · exact absurd c6 c4
        simp(maxSteps:=999999)(disch:=omega)only[go_sem,zA,zM,zS,zE,zL]
        exact ⟨f, (narM p t ns, os ++ [⟨t, 0⟩], g', HB), ⟨⟨by omega, hok, by simp; omega, by simp; omega, hC, u2⟩, by omega⟩, rfl, by rw [hHB]; exact HLe.refl _⟩
    · have c3 : t = 5 := by omega
      subst c3
      have hnt : nextM p ns = 0 := nextM_no fun u u1 u2 => htn u u1 u2
      rw [hnt, if_neg (by omega)] at hC
      simp(maxSteps:=999999)(disch:=omega)only[go_sem,zA,zM,zS,zE,zL]
      first | refine OpS.rd (l8Same_run (nats ns) (nats ns) (by omega)) (⟨_, Tryz.func68, rfl, rfl⟩ : Enters Tryz.prog 68) rfl rfl rfl rfl ?_ | refine Loud.rd (l8Same_run (nats ns) (nats ns) (by omega)) (⟨_, Tryz.func68, rfl, rfl⟩ : Enters Tryz.prog 68) rfl rfl rfl rfl ?_
      simp(maxSteps:=999999)(disch:=omega)only[go_sem,zA,zM,zS,zE,zL]
      simp(maxSteps:=999999)(disch:=omega)only[go_sem,zA,zM,zS,zE,zL, hN, ql]
      intro g35
      refine appendM_own (E := eB) (xs := os) (ys := [(⟨0, k⟩ : Brn)]) (sliceOf_of' ti27 rfl ti41) ⟨rfl, rfl, by decide, by decide⟩ rfl (q.app (H' := brnH g35 ⟨0, k⟩)).cells ⟨by omega, by simp⟩ (elems_own (xs := [(⟨0, k⟩ : Brn)]) look_last) ?_
      intro g'
      obtain ⟨u1, u2⟩ := q.push ⟨0, k⟩ g35 g'
      obtain ⟨HA, hHA⟩ : ∃ HA : Heap, HA = (HI ++ brnH g35 ⟨0, k⟩).set id (some ⟨g', 2, cl eB (os ++ [(⟨0, k⟩ : Brn)])⟩) := ⟨_, rfl⟩
      rw [← hHA] at u1 u2
      rw [← hHA]
      clear hHA
      have hNA : nilV HA (.c (.ptr pid pg 0)) = some (.c (.ptr pid pg 0)) := nilV_ptr u1
      have hnk := nth_nats ns k
      have hmk := hns.lt hn k
      have hvl := mvals_len (mAt ns k) 4
      simp(maxSteps:=999999)(disch:=omega)only[go_sem,zA,zM,zS,zE,zL, hNA, u1, hnk]
      first | refine OpS.mk (MaskValues_run (mAt ns k) hmk) (⟨_, Tryz.func66, rfl, rfl⟩ : Enters Tryz.prog 66) rfl rfl rfl rfl rfl ?_ | refine Loud.mk (MaskValues_run (mAt ns k) hmk) (⟨_, Tryz.func66, rfl, rfl⟩ : Enters Tryz.prog 66) rfl rfl rfl rfl rfl ?_
      simp(maxSteps:=999999)(disch:=omega)only[go_sem,zA,zM,zS,zE,zL]
      obtain ⟨HB, hHB⟩ : ∃ HB : Heap, HB = HA.set pid (some ⟨pg, 1, [.own id g' 0 (os.length + 1) none]⟩) := ⟨_, rfl⟩
      rw [← hHB] at u2
      rw [← hHB]
      clear hHB
      obtain ⟨os1, hos1⟩ : ∃ os1, os1 = os ++ [(⟨0, k⟩ : Brn)] := ⟨_, rfl⟩
      have hl1 : os1.length = os.length + 1 := by rw [hos1]; simp
      rw [← hos1] at hC u2
      obtain ⟨V, hV⟩ : ∃ V, V = mvals (mAt ns k) 4 := ⟨_, rfl⟩
      rw [← hV] at hC hvl ⊢
      refine loop_rule2 (fun (i : Nat) (b : List Brn × Nat × Heap) => V.length - i) (fun i b => i ≤ V.length ∧ 201 ≤ b.1.length + f ∧ b.1.length ≤ 201 ∧ (V.drop i).foldl (fun o v => mkF p f (ns.set k (2 ^ v.toNat)) o) b.1 = R ∧ MkJ H b.2.2 id pid b.2.1 pg gb p b.1) (fun i b => [.a, .k, .k, .k, .a, .a, .a, .k, .a, .a, .a, .a, .k, .p (int i), .a, .a, .a, .a, .a, .a, .a, .a, .a, .a, .a, .a, .a, .a, .a, .a, .a, .a, .a, .a, .a, .a, .a, .a, .a, .a, .a, .a, .a, .a, .a, .a, .a, .a, .a, .a, .a, .a, .a, .a, .a, .a, .a, .a, .a, .a, .a, .a, .a, .a, .a, .a, .a, .a, .a, .a, .a, .a, .a, .a, .a, .a, .a, .a, .a, .a, .a, .a, .a, .a, .a, .a, .a, .a, .a, .a, .a, .a, .a, .a, .a, .a, .a, .a, .a, .a, .a, .a, .a, .a, .a, .a, .a]) (fun _ b => b.2.2) 0 (os1, g', HB) ⟨Nat.zero_le _, by show 201 ≤ os1.length + f; omega, by show os1.length ≤ 201; omega, hC, u2⟩ (by simp(maxSteps:=999999)(disch:=omega)only[go_sem,zA,zM,zS,zE,zL]; first | rfl | exact ⟨rfl, rfl⟩) (HLe.refl _) ?_
      rintro i ⟨o2, g3, HI⟩ ⟨hi, hb1, hb2, hT, q⟩
      simp only at hb1 hb2 hT q ⊢
      have qc := q.cells
      have qb := q.box
      have ql := q.cell
      simp(maxSteps:=999999)(disch:=omega)only[go_sem,zA,zM,zS,zE,zL]
      ((first|(with_reducible first|refine condK_dec ?_ ?_|refine condK_ndec ?_ ?_|refine condK_nb ?_ ?_)|refine condK_b ?_ ?_) <;> intro c7)
      · have c7 : i < V.length := by omega
        rw [fold_step c7] at hT
        have hvm : nth V (i : Int) ∈ mvals (mAt ns k) 4 := by rw [← hV, nth_eq (by omega)]; exact List.getElem_mem _
        obtain ⟨v, hv1, hv2, hv3, _⟩ := mvals_bit hvm
        have hmt := hns.tried hvm
        rw [hv1, Int.toNat_natCast] at hT hmt
        have hge := mkF_ge p f (ns.set k (2 ^ v)) o2
        have hle := mkF_len p f (ns.set k (2 ^ v)) o2 hb2
        have hqn := q.ln
        have hql := q.lt
        have hql2 := q.lt2
        have hs2 := shl_small (v := (v : Int)) (by omega)
        rw [Int.toNat_natCast] at hs2
        have hsr := setRange_nats (b := ns) (k := k) (v := 2 ^ v) (by omega)
        simp(maxSteps:=999999)(disch:=omega)only[go_sem,zA,zM,zS,zE,zL]
        intro g9
        refine appendM_own (E := eI .i64) (xs := []) (ys := nats ns) (sliceOf_of' ti23 rfl ti3) ⟨rfl, rfl, by decide, by decide⟩ rfl look_last ⟨by simp, by omega⟩ elems_f ?_
        intro g10
        rw [set_off0]
        simp only [List.set_cons_zero, List.nil_append, Nat.zero_add]
        have hlX : look (HI ++ [some ⟨g10, 1, cl (eI .i64) (nats ns)⟩]) HI.length g10 = some ⟨g10, 1, cl (eI .i64) (nats ns)⟩ := look_last
        have hbX : look (HI ++ [some ⟨g10, 1, cl (eI .i64) (nats (ns.set k (2 ^ v)))⟩]) H.length gb = some ⟨gb, 1, cP p⟩ := look_appL qb
        simp(maxSteps:=999999)(disch:=omega)only[go_sem,zA,zM,zS,zE,zL, look_off, look_off0, set_off, set_off0, List.append_assoc, List.cons_append, List.nil_append, List.length_append, hv1, hs2, hnl, hsr, hlX, hbX]
        have hlY : look (HI ++ [some ⟨g10, 1, cl (eI .i64) (nats (ns.set k (2 ^ v)))⟩]) HI.length g10 = some ⟨g10, 1, cl (eI .i64) (nats (ns.set k (2 ^ v)))⟩ := look_last
        have hfz := frz_ints (S := oneS HI.length) (lim := none) (by simp [oneS]) hlY
        rw [show (nats (ns.set k (2 ^ v))).length = n * n by rw [nats_len, List.length_set]; exact hnl2, ← Nat.zero_add (n * n)] at hfz
        have hset : (HI ++ [some (⟨g10, 1, cl (eI .i64) (nats (ns.set k (2 ^ v)))⟩ : Blk)]).set HI.length none = HI ++ [none] := by rw [set_off0]; rfl
        have hio := iceH_one (HI ++ [some (⟨g10, 1, cl (eI .i64) (nats (ns.set k (2 ^ v)))⟩ : Blk)]) HI.length
        rw [hset] at hio
        have hcl := ih f (by omega) (ns.set k (2 ^ v)) o2 (HI ++ [none]) id pid g3 pg hmt (by omega) hb2 (look_appL qc) (look_appL ql) q.ne
        refine OpS.iceOne 104 (ints (nats (ns.set k (2 ^ v)))) (oneS HI.length) hio (.o _ _ (.c _ _ (iceC_f hfz))) ?_
        refine OpS.run hcl (⟨_, Tryz.func47, rfl, rfl⟩ : Enters Tryz.prog 47) rfl rfl ?_
        rintro _ H' ⟨rfl, g4, h1, h2, h3⟩
        have q3 := q.step (H' := H') (fun i j1 j2 j3 _ => by rw [h3.2 i (by simp [j2, j3]), List.getElem?_append_left j1]) (by rw [h3.1]; simp) h1 h2
        simp(maxSteps:=999999)(disch:=omega)only[go_sem,zA,zM,zS,zE,zL]
        exact ⟨i + 1, (mkF p f (ns.set k (2 ^ v)) o2, g4, H'), ⟨⟨by omega, by show 201 ≤ (mkF p f (ns.set k (2 ^ v)) o2).length + f; omega, hle, hT, q3⟩, by omega⟩, by first | rfl | exact ⟨rfl, rfl⟩ | (push_cast; simp), HLe.refl _⟩
      · have c7 : V.length ≤ i := by omega
        rw [List.drop_eq_nil_of_le c7] at hT
        subst hT
        simp(maxSteps:=999999)(disch:=omega)only[go_sem,zA,zM,zS,zE,zL]
        exact q.done
end Go.Lg
