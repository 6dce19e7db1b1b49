/- GpTN, GpTO, GpTL, cut to what is needed. -/
import Derived.Test.YtapopcmgggfedaaGreatXbe9
import Derived.Test.YtapopcmgggfedaaGreatXbe8
import Derived.Test.YtapopcmgggfedaaGreatXbe5
open Nat renaming reduceAdd → zA, reduceMul → zM, reduceSub → zS, reduceEqDiff → zE, reduceLeDiff → zL
set_option linter.unusedSimpArgs false
set_option linter.unusedVariables false
set_option maxRecDepth 100000
namespace Go.Lg
open Go.Proofs
attribute [-go_sem] appendM lwF_cons
inductive CutL (H HI : Heap) : CV → List Brn → Prop where
  | n : CutL H HI (.f .nil) []
  | m : CutL H HI .emp []
  | o (i g k : Nat) (ys : List Brn) (h : look HI i g = some ⟨g, 2, cl eB ys⟩) (hk : k ≤ ys.length) (hi : H.length < i) : CutL H HI (.own i g 0 k none) (ys.take k)
theorem CutL.of {H HI : Heap} {c : CV} {L : List Brn} (h : OwnL eB 2 HI c L) (hi : ∀ k, idsC c k → H.length < k) : CutL H HI c L := by
  cases h with
  | n => exact .n
  | m => exact .m
  | o id g xs h => have := CutL.o (H := H) id g L.length L h (Nat.le_refl _) (hi id rfl); rwa [List.take_length] at this
theorem CutL.same {H HI HJ : Heap} {c : CV} {L : List Brn} (h : CutL H HI c L) (hs : ∀ i, H.length < i → i < HI.length → HJ[i]? = HI[i]?) : CutL H HJ c L := by
  cases h with
  | n => exact .n
  | m => exact .m
  | o i g k ys h hk hi => exact .o i g k ys (by unfold look at *; rw [hs i hi (List.getElem?_eq_some_iff.1 (look_some h).1).1]; exact h) hk hi
theorem nzF_brns (L : List Brn) : (fl eB L).map nzF = fl eB L := by
  induction L with
  | nil => rfl
  | cons x xs ih =>
    show [nzF _, nzF _] ++ (fl eB xs).map nzF = _
    rw [ih]; rfl
theorem take_brn (ys : List Brn) (k : Nat) : (cl eB ys).take (k * 2) = cl eB (ys.take k) := by
  have h := List.take_append_drop k ys
  by_cases hk : k ≤ ys.length
  · conv => lhs; rw [← h, cl_append]
    have l1 : (cl eB (ys.take k)).length = k * 2 := by rw [cl_length (E := eB) (n := 2), List.length_take, Nat.min_eq_left hk]
    rw [List.take_append_of_le_length (by omega), List.take_of_length_le (by omega)]
  · have l1 : (cl eB ys).length = ys.length * 2 := cl_length ys
    rw [List.take_of_length_le (by omega), List.take_of_length_le (by omega)]
theorem CutL.frz {H HI : Heap} {c : CV} {L : List Brn} (h : CutL H HI c L) : frzS (tailS H.length) HI 6 c = some (fsl eB L) := by
  cases h with
  | n => rfl
  | m => rfl
  | o i g k ys h hk hi =>
    have hS : tailS H.length i = true := by simp [tailS]; omega
    simp only [Lg.frzS, hS, if_true, h, List.drop_zero, take_brn]
    rw [show cl eB (ys.take k) = (fl eB (ys.take k)).map CV.f from rfl, frzS_cells, nzF_brns]
    show some (FV.sl k _) = some (FV.sl (ys.take k).length _)
    rw [List.length_take, Nat.min_eq_left hk]
theorem sliceV_nil0 {P : Program} {H : Heap} {t e : TypeId} {ti ei : TI} (ht : tinf P t = some ti) (hk : ti.k = .slice e) (he : tinf P e = some ei) : sliceV P H t (.c (.f .nil)) none (some 0) none = some (.c (.f .nil)) := by
  simp [sliceV, ht, hk, he]
theorem sliceV_brn {P : Program} {H : Heap} {t e : TypeId} {ti ei : TI} {id g m : Nat} {L : List Brn} (ht : tinf P t = some ti) (hk : ti.k = .slice e) (he : tinf P e = some ei) (hs : ei.size = 2) (hl : look H id g = some ⟨g, 2, cl eB L⟩) (hn : m ≤ L.length) :
    sliceV P H t (.c (.own id g 0 L.length none)) none (some m) none = some (.c (.own id g 0 m none)) := by
  have hc : (cl eB L).length = L.length * 2 := cl_length L
  simp only [sliceV, ht, hk, he, hl, Option.getD_none, Option.getD_some, hs]
  rw [if_pos ⟨by omega, by omega, by omega, by simp, trivial, by omega, by omega⟩]
  simp
structure PfI (H HI : Heap) (id g : Nat) (B : Int) (g2 g8 : Nat) (p : Puz) : Prop where
  out : look HI H.length g2 = some ⟨g2, 3, [.f (.int .i64 0), .f .nil, .f .nil]⟩
  puz : look HI (H.length + 1) g8 = some ⟨g8, 3, cP p⟩
  rd : RdAt HI id g B
  lt : id < H.length
  ln : H.length + 2 ≤ HI.length
  frm : ∀ k, k < H.length → k ≠ id → HI[k]? = H[k]?
section
variable {H HI H2 : Heap} {id g g2 g8 : Nat} {B B' : Int} {p : Puz}
theorem PfI.mono (h : PfI H HI id g B g2 g8 p) (hb : B ≤ B') : PfI H HI id g B' g2 g8 p := { h with rd := h.rd.mono hb }
theorem PfI.pick (h : PfI H HI id g B g2 g8 p) (hr : RdAt H2 id g B') (hf : Frm HI H2 [id]) : PfI H H2 id g B' g2 g8 p := by
  have hl := h.lt
  exact { out := by rw [hf.look (by simp; omega)]; exact h.out
          puz := by rw [hf.look (by simp; omega)]; exact h.puz
          rd := hr, lt := hl, ln := by rw [hf.1]; exact h.ln
          frm := fun k hk hn => by rw [hf.2 k (by simpa using hn)]; exact h.frm k hk hn }
theorem PfI.app {X : Heap} (h : PfI H HI id g B g2 g8 p) : PfI H (HI ++ X) id g B g2 g8 p := by
  have hn := h.ln
  exact { out := look_appL h.out, puz := look_appL h.puz, rd := h.rd.app, lt := h.lt, ln := by simp; omega
          frm := fun k hk hne => by rw [List.getElem?_append_left (by omega)]; exact h.frm k hk hne }
theorem PfI.step (h : PfI H HI id g B g2 g8 p) (hs : ∀ i, i < H.length + 2 → H2[i]? = HI[i]?) (hl : HI.length ≤ H2.length) : PfI H H2 id g B g2 g8 p := by
  have hn := h.ln
  have ht := h.lt
  exact { out := by have := h.out; unfold look at *; rw [hs _ (by omega)]; exact this
          puz := by have := h.puz; unfold look at *; rw [hs _ (by omega)]; exact this
          rd := h.rd.same (hs _ (by omega)), lt := ht, ln := by omega
          frm := fun k hk hne => by rw [hs _ (by omega)]; exact h.frm k hk hne }
end
def proofDQ (H : Heap) (id g : Nat) (B : Int) : KV := fun v H' => (∃ (p : Puz) (pf : List Brn), v = .tup [aP p, rsl eB pf] ∧ smD p ∧ pf.length ≤ 201) ∧ RdAt H' id g (B + 500) ∧ Frm H H' [id]
set_option maxHeartbeats 4000000 in
theorem l20Proof_run (H : Heap) (id g : Nat) (B : Int) (hr : RdAt H id g B) (hB : B ≤ 2 ^ 36) : RunCall Tryz.prog 10 [.c (.ptr id g 0)] H (proofDQ H id g B) := by
  have hlt := hr.lt
  refine RunCall.iceS (Q' := fun v H' => ∃ p c pf, v = .tup [aP p, .c c] ∧ frzS (tailS H.length) H' 6 c = some (fsl eB pf) ∧ smD p ∧ pf.length ≤ 201 ∧ RdAt H' id g (B + 500) ∧ H.length ≤ H'.length ∧ ∀ k, k < H.length → k ≠ id → H'[k]? = H[k]?) ?_ ?_
  rotate_left
  · rintro v H' ⟨p, c, pf, rfl, h1, h2, h3, h5, h6, h7⟩
    refine ⟨tailS H.length, H'.take H.length, .tup [aP p, rsl eB pf], iceH_take _ _, iceA_two (.s _) (.c _ _ (iceC_f h1)), ⟨p, pf, rfl, h2, h3⟩, h5.take hlt, by simp; omega, fun i hi => ?_⟩
    by_cases hi' : i < H.length
    · rw [List.getElem?_take_of_lt hi', h7 i hi' (by simpa using hi)]
    · rw [List.getElem?_take_eq_none (by omega), List.getElem?_eq_none (by omega)]
  refine RunCall.ofR (c := _) Tryz.func10 rfl (n := 68) Tryz.ntmps10 (rs := [.cell 2 26, .tmp 3]) rfl ?_
  simp only[List.length_cons,List.length_nil,zA,zS,List.replicate,List.cons_append,List.nil_append]
  refine RunC.cutN 4 (fun a : Nat × Nat × Puz × CV × List Brn × Heap => smD a.2.2.1 ∧ a.2.2.2.2.1.length ≤ 201 ∧ PfI H a.2.2.2.2.2 id g (B + 450) a.1 a.2.1 a.2.2.1 ∧ CutL H a.2.2.2.2.2 a.2.2.2.1 a.2.2.2.2.1) (fun a => [.a, .a, .p (.c (.ptr H.length a.1 0)), .a, .p (.c (.ptr (H.length + 1) a.2.1 0)), .p (.c a.2.2.2.1), .a, .a, .a, .a, .a, .a, .a, .a, .a, .a, .a, .a, .a, .a, .a, .a, .a, .a, .a, .a, .a, .a, .a, .a, .a, .a, .a, .a, .a, .a, .a, .a, .a, .a, .a, .a, .a, .a, .a, .a, .a, .a, .a, .a, .a, .a, .a, .a, .a, .a, .a, .a, .a, .a, .a, .a, .a, .a, .a, .a, .a, .a]) (fun a => a.2.2.2.2.2) ?_ ?_
  · simp(maxSteps:=999999)(disch:=omega)only[go_sem,zA,zM,zS,zE,zL, look_off, look_off0, set_off, set_off0, List.append_assoc, List.cons_append, List.nil_append, List.length_append]
    intro g2
    refine OpS.run (l20Puzzle_run _ id g B 14 hr.app (by omega) (by omega)) (⟨_, Tryz.func21, rfl, rfl⟩ : Enters Tryz.prog 21) rfl rfl ?_
    rintro _ H1 ⟨⟨p, rfl, hp1, hp2⟩, r1, f1⟩
    have hsm : smD p := ⟨hp1, hp2⟩
    have l1 : H1.length = H.length + 1 := by rw [f1.1]; simp
    have ho1 : look H1 H.length g2 = some ⟨g2, 3, [.f (.int .i64 0), .f .nil, .f .nil]⟩ := by rw [f1.look (by simp; omega)]; exact look_last
    simp(maxSteps:=999999)(disch:=omega)only[go_sem,zA,zM,zS,zE,zL, look_off, look_off0, set_off, set_off0, List.append_assoc, List.cons_append, List.nil_append, List.length_append]
    intro g8
    have q0 : PfI H (H1 ++ [some ⟨g8, 3, cP p⟩]) id g (B + 400) g2 g8 p :=
      { out := look_appL ho1
        puz := by rw [← l1]; exact look_last
        rd := r1.app, lt := hlt, ln := by simp; omega
        frm := fun k hk hne => by rw [List.getElem?_append_left (by omega), f1.2 k (by simpa using hne), List.getElem?_append_left hk] }
    refine OpS.mkMpr (sMakeProof_own p hsm.sm) (⟨_, Tryz.func22, rfl, rfl⟩ : Enters Tryz.prog 22) rfl rfl (snap_one snapD_aP) ?_
    intro c H3 hI hS hne
    have hLn := makeL_len p
    obtain ⟨L, hL⟩ : ∃ L, L = makeL p := ⟨_, rfl⟩
    rw [← hL] at hI hLn
    have q1 := q0.app (X := H3)
    have hS' : ∀ k, idsC c k → H.length + 1 < k := fun k hk => by have := (hS k hk).1; simp at this; omega
    obtain ⟨HK, hHK⟩ : ∃ HK : Heap, HK = (H1 ++ [some ⟨g8, 3, cP p⟩]) ++ H3 := ⟨_, rfl⟩
    rw [← hHK] at q1
    have hI : OwnL eB 2 HK c L := by rw [hHK]; exact hI
    show vwK _ _ _ _ _ _ (.tup [.c c, bool (makeB p)]) ((H1 ++ [some ⟨g8, 3, cP p⟩]) ++ H3)
    rw [← hHK]
    clear hHK hS q0
    rw [l1]
    have hap : ∀ {HX HY : Heap} {c1 c2 : CV} {Bx : Int} {L2 : List Brn}, PfI H HX id g Bx g2 g8 p → (∀ k, idsC c1 k → H.length + 1 < k) → OwnL eB 2 HY c2 L2 → (∀ k, k < HX.length → ¬ idsC c1 k → HY[k]? = HX[k]?) → (∀ k, idsC c2 k → idsC c1 k ∨ k = HX.length) → HX.length ≤ HY.length → PfI H HY id g Bx g2 g8 p ∧ CutL H HY c2 L2 := fun h1 h2 h3 h4 h5 h6 => by
      have hn := h1.ln
      refine ⟨h1.step (fun i hi => h4 i (by omega) fun hc => by have := h2 i hc; omega) h6, CutL.of h3 fun k hk => ?_⟩
      rcases h5 k hk with h | h
      · have := h2 k h; omega
      · omega
    simp(maxSteps:=999999)(disch:=omega)only[go_sem,zA,zM,zS,zE,zL]
    refine OpS.run (odd_run _ id g _ 3 q1.rd (by omega) (by omega)) (⟨_, Tryz.func23, rfl, rfl⟩ : Enters Tryz.prog 23) rfl rfl ?_
    rintro _ H4 ⟨⟨b, rfl, _⟩, r4, f4⟩
    replace f4 : Frm HK H4 [id] := f4
    have q4 := q1.pick r4 f4
    have hI4 := hI.same (H' := H4) fun i hi _ => f4.2 i (by have := hS' i hi; simp; omega)
    simp(maxSteps:=999999)(disch:=omega)only[go_sem,zA,zM,zS,zE,zL]
    ((first|(with_reducible first|refine condK_dec ?_ ?_|refine condK_ndec ?_ ?_|refine condK_nb ?_ ?_)|refine condK_b ?_ ?_) <;> intro e0)
    rotate_left
    · simp(maxSteps:=999999)(disch:=omega)only[go_sem,zA,zM,zS,zE,zL]
      exact ⟨(g2, g8, p, c, L, H4), ⟨hsm, by show L.length ≤ 201; omega, q4.mono (by omega), CutL.of hI4 fun k hk => by have := hS' k hk; omega⟩, by simp, HLe.refl _⟩
    simp(maxSteps:=999999)(disch:=omega)only[go_sem,zA,zM,zS,zE,zL]
    refine OpS.run (pick_run H4 id g _ 5 q4.rd (by omega)) (⟨_, Tryz.func24, rfl, rfl⟩ : Enters Tryz.prog 24) rfl rfl ?_
    rintro _ H5 ⟨⟨y, rfl, y0, y1⟩, r5, f5⟩
    replace f5 : Frm H4 H5 [id] := f5
    have q5 := q4.pick r5 f5
    have hI5 := hI4.same (H' := H5) fun i hi _ => f5.2 i (by have := hS' i hi; simp; omega)
    have hnid : ∀ i, idsC c i → i ∉ [id] := fun i hi => by have := hS' i hi; simp; omega
    simp(maxSteps:=999999)(disch:=omega)only[go_sem,zA,zM,zS,zE,zL]
    ((first|(with_reducible first|refine condK_dec ?_ ?_|refine condK_ndec ?_ ?_|refine condK_nb ?_ ?_)|refine condK_b ?_ ?_) <;> intro e1)
    · simp(maxSteps:=999999)(disch:=omega)only[go_sem,zA,zM,zS,zE,zL]
      refine OpS.run (pick_run H5 id g _ 4 q5.rd (by omega)) (⟨_, Tryz.func24, rfl, rfl⟩ : Enters Tryz.prog 24) rfl rfl ?_
      rintro _ H6 ⟨⟨u, rfl, u0, u1⟩, r6, f6⟩
      have u1 := u1 (by omega)
      replace f6 : Frm H5 H6 [id] := f6
      have q6 := q5.pick r6 f6
      have hI6 := hI5.same (H' := H6) fun i hi _ => f6.2 i (hnid i hi)
      simp(maxSteps:=999999)(disch:=omega)only[go_sem,zA,zM,zS,zE,zL]
      intro g9
      have q7 := q6.app (X := [some ⟨g9, 2, cl eB [⟨1 + u, 0⟩]⟩])
      refine appendM_L (E := eB) (v := ⟨1 + u, 0⟩) (sliceOf_of' ti27 rfl ti41) ⟨rfl, rfl, by decide, by decide⟩ hI6.app (by omega) look_last ?_
      intro c' H7 hO hk1 hk2 hl7 hk3
      obtain ⟨w1, w2⟩ := hap q7 hS' hO hk1 hk2 hl7
      simp(maxSteps:=999999)(disch:=omega)only[go_sem,zA,zM,zS,zE,zL]
      exact ⟨(g2, g8, p, c', L ++ [⟨1 + u, 0⟩], H7), ⟨hsm, by simp; omega, w1.mono (by omega), w2⟩, by simp, HLe.refl _⟩
    simp(maxSteps:=999999)(disch:=omega)only[go_sem,zA,zM,zS,zE,zL]
    ((first|(with_reducible first|refine condK_dec ?_ ?_|refine condK_ndec ?_ ?_|refine condK_nb ?_ ?_)|refine condK_b ?_ ?_) <;> intro e2)
    · simp(maxSteps:=999999)(disch:=omega)only[go_sem,zA,zM,zS,zE,zL]
      refine OpS.run (pick_run H5 id g _ 4 q5.rd (by omega)) (⟨_, Tryz.func24, rfl, rfl⟩ : Enters Tryz.prog 24) rfl rfl ?_
      rintro _ H6 ⟨⟨u, rfl, u0, u1⟩, r6, f6⟩
      have u1 := u1 (by omega)
      replace f6 : Frm H5 H6 [id] := f6
      have q6 := q5.pick r6 f6
      have hI6 := hI5.same (H' := H6) fun i hi _ => f6.2 i (hnid i hi)
      simp(maxSteps:=999999)(disch:=omega)only[go_sem,zA,zM,zS,zE,zL]
      intro g9
      have q7 := q6.app (X := [some ⟨g9, 2, cl eB [⟨1 + u, 0⟩]⟩])
      refine appendM_LL (E := eB) (xs := [(⟨1 + u, 0⟩ : Brn)]) (sliceOf_of' ti27 rfl ti41) ⟨rfl, rfl, by decide, by decide⟩ (OwnL.o H6.length g9 [(⟨1 + u, 0⟩ : Brn)] look_last) ⟨by simp, by omega⟩ (elems_L hI6.app) ?_
      intro c' H7 hO hk1 hk2 hl7 hk3
      obtain ⟨w1, w2⟩ := hap q7 (fun k hk => by have : k = H6.length := hk; have := q6.ln; omega) hO hk1 hk2 hl7
      simp(maxSteps:=999999)(disch:=omega)only[go_sem,zA,zM,zS,zE,zL]
      exact ⟨(g2, g8, p, c', [⟨1 + u, 0⟩] ++ L, H7), ⟨hsm, by simp; omega, w1.mono (by omega), w2⟩, by simp, HLe.refl _⟩
    simp(maxSteps:=999999)(disch:=omega)only[go_sem,zA,zM,zS,zE,zL]
    ((first|(with_reducible first|refine condK_dec ?_ ?_|refine condK_ndec ?_ ?_|refine condK_nb ?_ ?_)|refine condK_b ?_ ?_) <;> intro e3)
    · have hd : ((L.length : Nat) : Int).tdiv 2 = ((L.length / 2 : Nat) : Int) := by
        rw [Int.tdiv_eq_ediv_of_nonneg (by omega)]
        omega
      clear hI hI4 hap
      cases hI5 with
      | n =>
        have hd2 : IntKind.i64.wrap ((0 : Int).tdiv 2) = 0 := rfl
        have hsl := fun H : Heap => sliceV_nil0 (H := H) ti27 rfl ti41
        simp(maxSteps:=999999)(disch:=omega)only[go_sem,zA,zM,zS,zE,zL, hd2, Int.reduceToNat, hsl]
        exact ⟨(g2, g8, p, .f .nil, [], H5), ⟨hsm, by simp, q5.mono (by omega), .n⟩, by simp, HLe.refl _⟩
      | m => exact absurd rfl hne
      | o id5 g5 xs h5 =>
        have hsl := sliceV_brn ti27 rfl ti41 rfl h5 (m := L.length / 2) (by omega)
        simp(maxSteps:=999999)(disch:=omega)only[go_sem,zA,zM,zS,zE,zL, hd, h5, Int.toNat_natCast, hsl]
        exact ⟨(g2, g8, p, .own id5 g5 0 (L.length / 2) none, L.take (L.length / 2), H5), ⟨hsm, by simp; omega, q5.mono (by omega), .o id5 g5 (L.length / 2) L h5 (by omega) (by have := hS' id5 rfl; omega)⟩, by simp, HLe.refl _⟩
    simp(maxSteps:=999999)(disch:=omega)only[go_sem,zA,zM,zS,zE,zL]
    ((first|(with_reducible first|refine condK_dec ?_ ?_|refine condK_ndec ?_ ?_|refine condK_nb ?_ ?_)|refine condK_b ?_ ?_) <;> intro e4)
    · simp(maxSteps:=999999)(disch:=omega)only[go_sem,zA,zM,zS,zE,zL]
      refine OpS.run (pick_run H5 id g _ 17 q5.rd (by omega)) (⟨_, Tryz.func24, rfl, rfl⟩ : Enters Tryz.prog 24) rfl rfl ?_
      rintro _ H6 ⟨⟨u, rfl, u0, u1⟩, r6, f6⟩
      have u1 := u1 (by omega)
      replace f6 : Frm H5 H6 [id] := f6
      have q6 := q5.pick r6 f6
      have hI6 := hI5.same (H' := H6) fun i hi _ => f6.2 i (hnid i hi)
      simp(maxSteps:=999999)(disch:=omega)only[go_sem,zA,zM,zS,zE,zL]
      refine OpS.run (pick_run H6 id g _ 9 q6.rd (by omega)) (⟨_, Tryz.func24, rfl, rfl⟩ : Enters Tryz.prog 24) rfl rfl ?_
      rintro _ H7 ⟨⟨v, rfl, v0, v1⟩, r7, f7⟩
      have v1 := v1 (by omega)
      replace f7 : Frm H6 H7 [id] := f7
      have q7 := q6.pick r7 f7
      have hI7 := hI6.same (H' := H7) fun i hi _ => f7.2 i (hnid i hi)
      obtain ⟨z, hz⟩ : ∃ z, z = IntKind.i64.wrap (u - IntKind.i64.wrap (v.tdiv 8)) := ⟨_, rfl⟩
      simp(maxSteps:=999999)(disch:=omega)only[go_sem,zA,zM,zS,zE,zL, ← hz]
      intro g9
      have q8 := q7.app (X := [some ⟨g9, 2, cl eB [⟨0, z⟩]⟩])
      refine appendM_LL (E := eB) (xs := [(⟨0, z⟩ : Brn)]) (sliceOf_of' ti27 rfl ti41) ⟨rfl, rfl, by decide, by decide⟩ (OwnL.o H7.length g9 [(⟨0, z⟩ : Brn)] look_last) ⟨by simp, by omega⟩ (elems_L hI7.app) ?_
      intro c' H8 hO hk1 hk2 hl8 hk3
      obtain ⟨w1, w2⟩ := hap q8 (fun k hk => by have : k = H7.length := hk; have := q7.ln; omega) hO hk1 hk2 hl8
      simp(maxSteps:=999999)(disch:=omega)only[go_sem,zA,zM,zS,zE,zL]
      exact ⟨(g2, g8, p, c', [⟨0, z⟩] ++ L, H8), ⟨hsm, by simp; omega, w1.mono (by omega), w2⟩, by simp, HLe.refl _⟩
    · simp(maxSteps:=999999)(disch:=omega)only[go_sem,zA,zM,zS,zE,zL]
      intro g9
      have q6 := q5.app (X := [some ⟨g9, 2, cl eB [⟨5, 0⟩, ⟨1, 1⟩, ⟨-1, 0⟩]⟩])
      refine OpS.run (pick_run _ id g _ 3 q6.rd (by omega)) (⟨_, Tryz.func24, rfl, rfl⟩ : Enters Tryz.prog 24) rfl rfl ?_
      rintro _ H7 ⟨⟨u, rfl, u0, u1⟩, r7, f7⟩
      have u1 := u1 (by omega)
      replace f7 : Frm (H5 ++ [some ⟨g9, 2, cl eB [⟨5, 0⟩, ⟨1, 1⟩, ⟨-1, 0⟩]⟩]) H7 [id] := f7
      have q7 := q6.pick r7 f7
      have hI7 := (hI5.app (H' := [some ⟨g9, 2, cl eB [⟨5, 0⟩, ⟨1, 1⟩, ⟨-1, 0⟩]⟩])).same (H' := H7) fun i hi _ => f7.2 i (hnid i hi)
      have hb : look H7 H5.length g9 = some ⟨g9, 2, [.f (.int .i64 5), .f (.int .i64 0), .f (.int .i64 1), .f (.int .i64 1), .f (.int .i64 (-1)), .f (.int .i64 0)]⟩ := f7.last q5.rd.lt
      have key : ∀ (b : Brn) (g10 : Nat), ∀ {K : KV}, (∀ c' H8, (∃ a : Nat × Nat × Puz × CV × List Brn × Heap, (smD a.2.2.1 ∧ a.2.2.2.2.1.length ≤ 201 ∧ PfI H a.2.2.2.2.2 id g (B + 450) a.1 a.2.1 a.2.2.1 ∧ CutL H a.2.2.2.2.2 a.2.2.2.1 a.2.2.2.2.1) ∧ a = (g2, g8, p, c', L ++ [b], H8)) → K (.c c') H8) → appendM Tryz.prog (H7 ++ [some ⟨g10, 2, cB b⟩]) 27 (.c c) (.c (.own H7.length g10 0 1 none)) K := by
        intro b g10 K hK
        refine appendM_L (E := eB) (v := b) (sliceOf_of' ti27 rfl ti41) ⟨rfl, rfl, by decide, by decide⟩ hI7.app (by omega) look_last ?_
        intro c' H8 hO hk1 hk2 hl8 hk3
        obtain ⟨w1, w2⟩ := hap (q7.app (X := [some ⟨g10, 2, cB b⟩])) hS' hO hk1 hk2 hl8
        exact hK c' H8 ⟨_, ⟨hsm, by simp; omega, w1.mono (by omega), w2⟩, rfl⟩
      obtain rfl | rfl | rfl : u = 0 ∨ u = 1 ∨ u = 2 := by omega
      all_goals
        simp(maxSteps:=999999)(disch:=omega)only[go_sem,zA,zM,zS,zE,zL, hb, Int.reduceToNat]
        intro g10
        first | refine key ⟨5, 0⟩ g10 ?_ | refine key ⟨1, 1⟩ g10 ?_ | refine key ⟨-1, 0⟩ g10 ?_
        rintro c' H8 ⟨a, ha, rfl⟩
        simp(maxSteps:=999999)(disch:=omega)only[go_sem,zA,zM,zS,zE,zL]
        exact ⟨_, ha, by simp, HLe.refl _⟩
  · rintro ⟨g2, g8, p, c, L, HF⟩ ⟨hsm, hl, o, hc⟩
    simp only at hsm hl o hc
    have ho := o.out
    have hpz := o.puz
    have hln := o.ln
    have hlt := o.lt
    have hS : ∀ b, look (HF.set H.length (some ⟨g2, 3, b⟩)) H.length g2 = some ⟨g2, 3, b⟩ := fun b => look_set_eq' (by omega)
    refine cw_sound _ _ _ _ ?_
    simp(maxSteps:=999999)(disch:=omega)only[go_sem,zA,zM,zS,zE,zL, hpz, ho, hS]
    refine ⟨_, HLe.refl _, p, c, L, rfl, (hc.same fun i hi _ => by rw [List.getElem?_set_ne (by omega)]).frz, hsm, hl, (o.rd.mono (by omega)).same (by rw [List.getElem?_set_ne (by omega)]), by rw [List.length_set]; omega, fun k hk hn => ?_⟩
    rw [List.getElem?_set_ne (by omega)]
    exact o.frm k hk hn
end Go.Lg

namespace Go.Lg
open Go.Proofs
attribute [-go_sem] appendM lwF_cons
def dPrf : AV → Prop := fun v => ∃ (p : Puz) (pf : List Brn), v = .tup [aP p, rsl eB pf] ∧ smD p ∧ pf.length ≤ 201
theorem DrawProofTries_run (code : List Int) (hb : ∀ x ∈ code, 0 ≤ x ∧ x ≤ 255) (hl : code.length ≤ 2 ^ 40) : RunCall Tryz.prog 4 [rsl (eI .u8) code] [] (fun v _ => dPrf v) := by
  refine RunCall.cw (c := _) Tryz.func4 rfl (n := 9) Tryz.ntmps4 (rs := [.cell 2 26, .tmp 3]) rfl ?_
  simp only[List.length_cons,List.length_nil,zA,zS,List.replicate,List.cons_append,List.nil_append]
  simp(maxSteps:=999999)(disch:=omega)only[go_sem,zA,zM,zS,zE,zL]
  intro g4
  refine OpS.mkRd (l20Open_run code hb hl) (⟨_, Tryz.func11, rfl, rfl⟩ : Enters Tryz.prog 11) rfl rfl rfl ?_
  intro g H1 r1 hl1
  simp(maxSteps:=999999)(disch:=omega)only[go_sem,zA,zM,zS,zE,zL]
  refine OpS.run (l20Proof_run _ 1 g 0 r1 (by omega)) (⟨_, Tryz.func10, rfl, rfl⟩ : Enters Tryz.prog 10) rfl rfl ?_
  rintro _ H2 ⟨⟨p, pf, rfl, hp, hf⟩, r2, f2⟩
  have h4 : look H2 0 g4 = some ⟨g4, 3, [.f (.int .i64 0), .f .nil, .f .nil]⟩ := by rw [f2.look (by simp)]; exact look_zero
  have hS : ∀ b, look (H2.set 0 (some ⟨g4, 3, b⟩)) 0 g4 = some ⟨g4, 3, b⟩ := fun b => look_set_eq' (List.getElem?_eq_some_iff.1 (look_some h4).1).1
  simp(maxSteps:=999999)(disch:=omega)only[go_sem,zA,zM,zS,zE,zL, h4, hS]
  exact ⟨_, HLe.refl _, p, pf, rfl, hp, hf⟩
end Go.Lg

namespace Go.Lg
open Go.Proofs
structure RdW (c : Nat → List Brn → Option (Nat × List Brn)) (W : List Brn) : Prop where
  all : ∀ f, W.length < f → ∀ rest, ∃ m, c f (W ++ rest) = some (m, rest)
  pre : ∀ f, W.length < f → ∀ i, i < W.length → c f (W.take i) = none
theorem try_all {c : List Nat → List Brn → Option (Nat × List Brn)} {ms : List Nat} {k : Nat} {v : Int} {vs : List Int} {W U rest : List Brn} {s : Nat}
    (h1 : ∀ rest, ∃ m, c (ms.set k (2 ^ v.toNat)) (W ++ rest) = some (m, rest)) (h2 : ∀ s, ∃ m, tryL c ms k vs (U ++ rest) s = some (m, rest)) : ∃ m, tryL c ms k (v :: vs) (W ++ U ++ rest) s = some (m, rest) := by
  obtain ⟨m1, e1⟩ := h1 (U ++ rest)
  obtain ⟨m2, e2⟩ := h2 (s + m1)
  refine ⟨m2, ?_⟩
  unfold tryL
  rw [List.append_assoc, e1]
  exact e2
theorem try_pre {c : List Nat → List Brn → Option (Nat × List Brn)} {ms : List Nat} {k : Nat} {v : Int} {vs : List Int} {W U : List Brn} {s i : Nat}
    (h1 : ∀ rest, ∃ m, c (ms.set k (2 ^ v.toNat)) (W ++ rest) = some (m, rest)) (h1' : ∀ i, i < W.length → c (ms.set k (2 ^ v.toNat)) (W.take i) = none) (h2 : ∀ s i, i < U.length → tryL c ms k vs (U.take i) s = none) (hi : i < (W ++ U).length) : tryL c ms k (v :: vs) ((W ++ U).take i) s = none := by
  unfold tryL
  rw [List.take_append]
  by_cases hw : i < W.length
  · rw [show i - W.length = 0 by omega, List.take_zero, List.append_nil, h1' i hw]
  · rw [List.take_of_length_le (by omega)]
    obtain ⟨m1, e1⟩ := h1 (U.take (i - W.length))
    rw [e1]
    exact h2 _ _ (by rw [List.length_append] at hi; omega)
theorem mkF_fold_rd {p : Puz} {F n : Nat} {ms : List Nat} {k : Nat} (hm : MsN ms n)
    (ih : ∀ (ms : List Nat) (out : List Brn), MsN ms n → 201 ≤ out.length + F → (mkF p F ms out).length ≤ 200 → ∃ W, mkF p F ms out = out ++ W ∧ (∀ b ∈ W, brnOk (n * n) b = true) ∧ RdW (fun f bs => chkF p f ms bs) W) :
    ∀ (vs : List Int) (o : List Brn), (∀ v ∈ vs, v ∈ mvals (mAt ms k) 4) → 201 ≤ o.length + F → (vs.foldl (fun o v => mkF p F (ms.set k (2 ^ v.toNat)) o) o).length ≤ 200 →
    ∃ U, vs.foldl (fun o v => mkF p F (ms.set k (2 ^ v.toNat)) o) o = o ++ U ∧ (∀ b ∈ U, brnOk (n * n) b = true) ∧ (∀ f, U.length < f → ∀ rest s, ∃ m, tryL (chkF p f) ms k vs (U ++ rest) s = some (m, rest)) ∧ (∀ f, U.length < f → ∀ i s, i < U.length → tryL (chkF p f) ms k vs (U.take i) s = none)
  | [], o, _, _, _ => ⟨[], by simp, by simp, fun f _ rest s => ⟨s, rfl⟩, fun f _ i s h => absurd h (Nat.not_lt_zero i)⟩
  | v :: vs, o, hv, ho, hl => by
    have hg := mkF_fold_ge (mkF_ge p F) ms k vs (mkF p F (ms.set k (2 ^ v.toNat)) o)
    have hl' : (vs.foldl (fun o v => mkF p F (ms.set k (2 ^ v.toNat)) o) (mkF p F (ms.set k (2 ^ v.toNat)) o)).length ≤ 200 := hl
    obtain ⟨W, e1, b1, r1⟩ := ih (ms.set k (2 ^ v.toNat)) o (hm.tried (hv v (by simp))) ho (by omega)
    have hge := mkF_ge p F (ms.set k (2 ^ v.toNat)) o
    obtain ⟨U, e2, b2, r2, r3⟩ := mkF_fold_rd hm ih vs (mkF p F (ms.set k (2 ^ v.toNat)) o) (fun u hu => hv u (by simp [hu])) (by omega) hl'
    refine ⟨W ++ U, ?_, ?_, ?_, ?_⟩
    · rw [List.foldl_cons, e2, e1, List.append_assoc]
    · intro b hb
      rcases List.mem_append.1 hb with h | h
      · exact b1 b h
      · exact b2 b h
    · intro f hf rest s
      rw [List.length_append] at hf
      exact try_all (fun rest => r1.all f (by omega) rest) (fun s => r2 f (by omega) rest s)
    · intro f hf i s hi
      rw [List.length_append] at hf
      exact try_pre (fun rest => r1.all f (by omega) rest) (fun i hi => r1.pre f (by omega) i hi) (fun s i hi => r3 f (by omega) i s hi) hi
theorem mkF_rd {p : Puz} {n : Nat} : ∀ (F : Nat) (ms : List Nat) (out : List Brn), MsN ms n → 201 ≤ out.length + F → (mkF p F ms out).length ≤ 200 → ∃ W, mkF p F ms out = out ++ W ∧ (∀ b ∈ W, brnOk (n * n) b = true) ∧ RdW (fun f bs => chkF p f ms bs) W
  | 0, ms, out, hm, ho, hl => by
    have hl : out.length ≤ 200 := hl
    omega
  | F + 1, ms, out, hm, ho, hl => by
    have h200 : ¬ 200 < out.length := by have := mkF_ge p (F + 1) ms out; omega
    cases he : endM p ms with
    | some m =>
      refine ⟨[], by rw [mkF_end he]; simp, by simp, ?_, fun f _ i h => absurd h (Nat.not_lt_zero i)⟩
      intro f hf rest
      obtain ⟨f, rfl⟩ : ∃ f', f = f' + 1 := ⟨f - 1, by simp at hf; omega⟩
      exact ⟨m, chkF_some he⟩
    | none =>
      have e0 := mkF_go (p := p) (f := F) h200 he
      by_cases hnx : nextM p ms ≠ 0
      · rw [if_pos hnx] at e0
        rw [e0] at hl ⊢
        obtain ⟨W, e1, b1, r1⟩ := mkF_rd F (narM p (nextM p ms) ms) (out ++ [⟨(nextM p ms : Nat), 0⟩]) (narM_ok hm) (by simp; omega) hl
        have hle := nextM_le p ms
        have hn4 : 0 < n * n := by
          obtain ⟨h1, _⟩ := open_facts he
          have := hm.len
          omega
        have hstep : ∀ f r, chkF p (f + 1) ms (⟨(nextM p ms : Nat), 0⟩ :: r) = chkF p f (narM p (nextM p ms) ms) r := by
          intro f r
          rw [chkF_cons he, if_pos (by show (0 : Int) < ((nextM p ms : Nat) : Int); omega)]
          rfl
        refine ⟨⟨(nextM p ms : Nat), 0⟩ :: W, by rw [e1]; simp, ?_, ?_, ?_⟩
        · intro b hb
          rcases List.mem_cons.1 hb with h | h
          · rw [h]
            simp only [brnOk, decide_eq_true_eq]
            exact ⟨.inr ⟨by omega, by omega, trivial⟩, by omega, by omega⟩
          · exact b1 b h
        · intro f hf rest
          rw [List.length_cons] at hf
          obtain ⟨f, rfl⟩ : ∃ f', f = f' + 1 := ⟨f - 1, by omega⟩
          show ∃ m, chkF p (f + 1) ms (⟨(nextM p ms : Nat), 0⟩ :: (W ++ rest)) = _
          rw [hstep]
          exact r1.all f (by omega) rest
        · intro f hf i hi
          rw [List.length_cons] at hf hi
          obtain ⟨f, rfl⟩ : ∃ f', f = f' + 1 := ⟨f - 1, by omega⟩
          cases i with
          | zero => exact chkF_nil he
          | succ i =>
            show chkF p (f + 1) ms (⟨(nextM p ms : Nat), 0⟩ :: W.take i) = _
            rw [hstep]
            exact r1.pre f (by omega) i (by omega)
      · rw [if_neg hnx] at e0
        rw [e0] at hl ⊢
        obtain ⟨U, e1, b1, r1, r2⟩ := mkF_fold_rd (k := openK ms) hm (fun ms out h1 h2 h3 => mkF_rd F ms out h1 h2 h3) (mvals (mAt ms (openK ms)) 4) (out ++ [⟨0, openK ms⟩]) (fun v h => h) (by simp; omega) hl
        have hok : openK ms < n * n := by
          obtain ⟨h1, _⟩ := open_facts he
          have := hm.len
          omega
        have hstep : ∀ f r, chkF p (f + 1) ms (⟨0, (openK ms : Nat)⟩ :: r) = tryL (chkF p f) ms (openK ms) (mvals (mAt ms (openK ms)) 4) r 0 := by
          intro f r
          rw [chkF_cons he, if_neg (by show ¬ (0 : Int) < 0; omega)]
          rfl
        refine ⟨⟨0, (openK ms : Nat)⟩ :: U, by rw [e1]; simp, ?_, ?_, ?_⟩
        · intro b hb
          rcases List.mem_cons.1 hb with h | h
          · rw [h]
            simp only [brnOk, decide_eq_true_eq]
            exact ⟨.inl trivial, by omega, by exact_mod_cast hok⟩
          · exact b1 b h
        · intro f hf rest
          rw [List.length_cons] at hf
          obtain ⟨f, rfl⟩ : ∃ f', f = f' + 1 := ⟨f - 1, by omega⟩
          show ∃ m, chkF p (f + 1) ms (⟨0, (openK ms : Nat)⟩ :: (U ++ rest)) = _
          rw [hstep]
          exact r1 f (by omega) rest 0
        · intro f hf i hi
          rw [List.length_cons] at hf hi
          obtain ⟨f, rfl⟩ : ∃ f', f = f' + 1 := ⟨f - 1, by omega⟩
          cases i with
          | zero => exact chkF_nil he
          | succ i =>
            show chkF p (f + 1) ms (⟨0, (openK ms : Nat)⟩ :: U.take i) = _
            rw [hstep]
            exact r2 f (by omega) i 0 (by omega)
theorem make_facts {p : Puz} (h : makeB p = true) : puzzleValid p = true ∧ proofValid p (makeL p) = true ∧ checkV p (makeL p) = ((allL p).length : Int) ∧ ∀ i, i < (makeL p).length → checkV p ((makeL p).take i) = -1 := by
  have h0 := h
  simp only [makeB, Bool.and_eq_true, decide_eq_true_eq] at h0
  obtain ⟨hv, hl⟩ := h0
  obtain ⟨hp, hg⟩ := puz_facts hv
  obtain ⟨W, e1, b1, r1⟩ := mkF_rd 201 (startM p) [] (startM_ok hp hg) (by simp) hl
  have eL : makeL p = W := by unfold makeL; rw [if_pos h, e1]; rfl
  rw [e1] at hl
  have hl : W.length ≤ 200 := hl
  have hpv : proofValid p W = true := by
    simp only [proofValid, Bool.and_eq_true, decide_eq_true_eq, List.all_eq_true]
    exact ⟨hv, hl, fun b hb => by have := b1 b hb; rwa [← hg.len] at this⟩
  rw [eL]
  refine ⟨hv, hpv, ?_, ?_⟩
  · obtain ⟨m, e⟩ := r1.all 201 (by omega) []
    rw [List.append_nil] at e
    have e : chkF p 201 (startM p) W = some (m, []) := e
    refine (check_count (p := p) (pf := W) ?_).2
    unfold checkV
    rw [if_pos hpv, e]
    show ¬ ((m : Nat) : Int) < 0
    omega
  · intro i hi
    have e : chkF p 201 (startM p) (W.take i) = none := r1.pre 201 (by omega) i hi
    unfold checkV
    rw [e]
    split <;> rfl
end Go.Lg
