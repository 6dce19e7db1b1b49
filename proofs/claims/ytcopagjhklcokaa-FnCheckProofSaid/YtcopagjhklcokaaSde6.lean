/- GpGF, GpGG, GpTN, GpTO, GpJC, cut to what is needed. -/
import Derived.Test.YtcopagjhklcokaaSde5
import Derived.Test.YtcopagjhklcokaaSdc5
import Derived.Test.YtcopagjhklcokaaSde3
import Derived.Test.YtcopagjhklcokaaSdd4
open Nat(reduceAdd reduceMul reduceSub reduceEqDiff reduceLeDiff)
set_option linter.unusedSimpArgs false
set_option linter.unusedVariables false
set_option maxRecDepth 100000
namespace Go.Lg
open Go.Proofs
attribute [-go_sem] appendM lwF_cons
def LstO (H : Heap) (c : CV) (ls : List (List Int)) : Prop := ∃ oid og cs, c = .own oid og 0 ls.length none ∧ look H oid og = some ⟨og, 1, cs⟩ ∧ cs.length = ls.length ∧ ∀ i (h : i < ls.length), ∃ id g, cs[i]? = some (.own id g 0 ls[i].length none) ∧ look H id g = some ⟨g, 1, cl (eI .i64) ls[i]⟩
theorem LstO.shift {H0 H : Heap} {c : CV} {ls : List (List Int)} (h : LstO H c ls) : LstO (H0 ++ shiftH H0.length H) (shiftC H0.length c) ls := by
  obtain ⟨oid, og, cs, rfl, k1, k2, k3⟩ := h
  refine ⟨oid + H0.length, og, cs.map (shiftC H0.length), rfl, look_shiftH k1, by rw [List.length_map]; exact k2, fun i hi => ?_⟩
  obtain ⟨id, g, q1, q2⟩ := k3 i hi
  refine ⟨id + H0.length, g, by rw [List.getElem?_map, q1]; rfl, ?_⟩
  rw [look_shiftH q2]
  simp only [shiftB, shift_cl]
section
variable {P : Program} {o : Oper} {st : St} {K : KV} {fo : Operand} {xs : Array Operand} {ts : Array TypeId} {f : FuncId} {args : List AV}
end
def smD (p : Puz) : Prop := p.given.length ≤ 16 ∧ ruleSm p.rules 30 5
theorem smD.sm {p : Puz} (h : smD p) : smP p := ⟨by have := h.1; omega, by have := h.2.1; omega, fun r hr => by have := h.2.2 r hr; omega⟩
structure TrI (H HI : Heap) (id g : Nat) (B : Int) (g4 J g6 : Nat) (p : Puz) (c : CV) (zs : List Int) : Prop where
  out : look HI H.length g4 = some ⟨g4, 3, [.f (.int .i64 0), .f .nil, .f .nil]⟩
  puz : look HI J g6 = some ⟨g6, 3, cP p⟩
  grid : ∃ gid gg, c = .own gid gg 0 zs.length none ∧ look HI gid gg = some ⟨gg, 1, cl (eI .i64) zs⟩ ∧ H.length < gid ∧ gid ≠ J
  rd : RdAt HI id g B
  lt : id < H.length
  ln : H.length < J ∧ J < HI.length
  frm : ∀ k, k < H.length → k ≠ id → HI[k]? = H[k]?
section
variable {H HI H2 : Heap} {id g g4 J g6 : Nat} {B B' : Int} {p : Puz} {c : CV} {zs : List Int}
theorem TrI.mono (h : TrI H HI id g B g4 J g6 p c zs) (hb : B ≤ B') : TrI H HI id g B' g4 J g6 p c zs := { h with rd := h.rd.mono hb }
theorem TrI.step (h : TrI H HI id g B g4 J g6 p c zs) (hs : ∀ i, H.length ≤ i → i < HI.length → H2[i]? = HI[i]?) (hl : HI.length ≤ H2.length) (hr : RdAt H2 id g B') (hf : ∀ k, k < H.length → k ≠ id → H2[k]? = HI[k]?) : TrI H H2 id g B' g4 J g6 p c zs := by
  have hn := h.ln
  have hL : ∀ i g, H.length ≤ i → i < HI.length → look H2 i g = look HI i g := fun i g h1 h2 => by unfold look; rw [hs i h1 h2]
  obtain ⟨gid, gg, g1, g2, g3, g4⟩ := h.grid
  have hgl : gid < HI.length := (List.getElem?_eq_some_iff.1 (look_some g2).1).1
  exact { out := by rw [hL _ _ (Nat.le_refl _) (by omega)]; exact h.out
          puz := by rw [hL _ _ (by omega) (by omega)]; exact h.puz
          grid := ⟨gid, gg, g1, by rw [hL _ _ (by omega) hgl]; exact g2, g3, g4⟩
          rd := hr, lt := h.lt, ln := by omega
          frm := fun k hk hne => by rw [hf k hk hne]; exact h.frm k hk hne }
theorem TrI.pick (h : TrI H HI id g B g4 J g6 p c zs) (hr : RdAt H2 id g B') (hf : Frm HI H2 [id]) : TrI H H2 id g B' g4 J g6 p c zs := by
  have hl := h.lt
  exact h.step (fun i hi _ => hf.2 i (by simp; omega)) (by rw [hf.1]; exact Nat.le_refl _) hr fun k hk hne => hf.2 k (by simpa using hne)
theorem TrI.app {X : Heap} (h : TrI H HI id g B g4 J g6 p c zs) : TrI H (HI ++ X) id g B g4 J g6 p c zs := by
  have hn := h.ln
  exact h.step (fun i _ hi => List.getElem?_append_left hi) (by simp) h.rd.app fun k hk _ => List.getElem?_append_left (by omega)
theorem TrI.set (h : TrI H HI id g B g4 J g6 p c zs) {gid gg : Nat} (hc : c = .own gid gg 0 zs.length none) (k : Nat) (v : Int) : TrI H (HI.set gid (some ⟨gg, 1, cl (eI .i64) (zs.set k v)⟩)) id g B g4 J g6 p c (zs.set k v) := by
  have hn := h.ln
  have hl := h.lt
  obtain ⟨gid', gg', g1, g2, g3, g4⟩ := h.grid
  rw [hc] at g1
  cases g1
  have hgl : gid < HI.length := (List.getElem?_eq_some_iff.1 (look_some g2).1).1
  exact { out := by rw [look_set_ne' (by omega)]; exact h.out
          puz := by rw [look_set_ne' (by omega)]; exact h.puz
          grid := ⟨gid, gg, by rw [hc, List.length_set], look_set_eq' hgl, g3, g4⟩
          rd := h.rd.same (by rw [List.getElem?_set_ne (by omega)])
          lt := hl, ln := by rw [List.length_set]; exact hn
          frm := fun k hk hne => by rw [List.getElem?_set_ne (by omega)]; exact h.frm k hk hne }
end
theorem wf_u8' {xs : List Int} (h : ∀ x ∈ xs, (Lit.int .u8 x).wf = true) : ∀ x ∈ xs, 0 ≤ x ∧ x ≤ 255 := fun x hx => by
  have := h x hx
  simp [Lit.wf] at this
  have e1 : IntKind.u8.min = 0 := by decide
  have e2 : IntKind.u8.max = 255 := by decide
  omega
theorem RdAt.shift {H0 H : Heap} {id g : Nat} {B : Int} (h : RdAt H id g B) : RdAt (H0 ++ shiftH H0.length H) (id + H0.length) g B := by
  obtain ⟨sz, b, p, h1, h2⟩ := h
  exact ⟨sz, b, p, by rw [look_shiftH h1]; rfl, h2⟩
theorem OpS.mkRd {P : Program} {o : Oper} {st : St} {K : KV} {fo : Operand} {xs : Array Operand} {ts : Array TypeId} {f : FuncId} {args : List AV} (hc : RunCall P f args [] (fun v H' => ∃ g, v = .c (.ptr 0 g 0) ∧ RdAt H' 0 g 0 ∧ H'.length = 1)) (he : Enters P f) (ho : o.op = .call ⟨.value fo, xs, ts⟩) (ha : callArgs st fo xs = some (f, args)) (hf : args.all frozenA = true)
    (hk : ∀ g H', RdAt (st.h ++ H') st.h.length g 0 → H'.length = 1 → K (.c (.ptr st.h.length g 0)) (st.h ++ H')) : OpS P o st K :=
  OpS.mkQ hc he ho ha hf fun r H' ⟨g, h1, h2, h3⟩ => by
    subst h1
    refine ⟨rfl, ?_⟩
    have := hk g (shiftH st.h.length H') (by have := h2.shift (H0 := st.h); rwa [Nat.zero_add] at this) (by rw [shiftH_length]; exact h3)
    show K (.c (.ptr (0 + st.h.length) g 0)) _
    rw [Nat.zero_add]
    exact this
end Go.Lg

namespace Go.Lg
open Go.Proofs
attribute [-go_sem] appendM lwF_cons
theorem resV_ctt (P : Program) (s : List AV) (H : Heap) (t u w : Nat) (ty : TypeId) : resV P s H [.cell t ty, .tmp u, .tmp w] = (loadV P H ty (s.getD t .void)).map fun v => .tup [v, s.getD u .void, s.getD w .void] := by
  simp only [resV, resAll, resOne]
  cases loadV P H ty (s.getD t .void) <;> rfl
attribute [go_sem] resV_ctt
theorem aliveF_run : Reads Try.prog 18 [] (bool true) := by
  refine RunCall.cw (c := _) Try.func18 rfl (n := 4) Try.ntmps18 (rs := [.tmp 0]) rfl ?_
  simp only[List.length_cons,List.length_nil,reduceAdd,reduceSub,List.replicate,List.cons_append,List.nil_append]
  simp(maxSteps:=999999)(disch:=omega)only[go_sem,reduceAdd,reduceMul,reduceSub,reduceEqDiff,reduceLeDiff]
  intro g
  have hown : OwnI [some ⟨g, 1, [.f (.int .i64 1), .f (.int .i64 0), .f (.int .i64 0), .f (.int .i64 2)]⟩] (.own 0 g 0 4 none) [1, 0, 0, 2] [0] := OwnI.o 0 g none [1, 0, 0, 2] [] (by rw [look_zero]; rfl)
  refine OpS.rdD (GridFilled_run [1, 0, 0, 2] 2 (by simp)) (⟨_, Try.func53, rfl, rfl⟩ : Enters Try.prog 53) rfl rfl (snap_two hown.snap snapD_int) rfl ?_
  have e : gridFilled [1, 0, 0, 2] 2 = 2 := by decide
  rw [e]
  simp(maxSteps:=999999)(disch:=omega)only[go_sem,reduceAdd,reduceMul,reduceSub,reduceEqDiff,reduceLeDiff]
end Go.Lg

namespace Go.Lg
open Go.Proofs
attribute [-go_sem] appendM lwF_cons
inductive CutL (H HI : Heap) : CV → List Brn → Prop where
  | n : CutL H HI (.f .nil) []
  | m : CutL H HI .emp []
  | o (i g k : Nat) (ys : List Brn) (h : look HI i g = some ⟨g, 2, cl eB ys⟩) (hk : k ≤ ys.length) (hi : H.length < i) : CutL H HI (.own i g 0 k none) (ys.take k)
theorem CutL.of {H HI : Heap} {c : CV} {L : List Brn} (h : OwnL eB 2 HI c L) (hi : ∀ k, idsC c k → H.length < k) : CutL H HI c L := by
  cases h with
  | n => exact .n
  | m => exact .m
  | o id g xs h => have := CutL.o (H := H) id g L.length L h (Nat.le_refl _) (hi id rfl); rwa [List.take_length] at this
theorem CutL.same {H HI HJ : Heap} {c : CV} {L : List Brn} (h : CutL H HI c L) (hs : ∀ i, H.length < i → i < HI.length → HJ[i]? = HI[i]?) : CutL H HJ c L := by
  cases h with
  | n => exact .n
  | m => exact .m
  | o i g k ys h hk hi => exact .o i g k ys (by unfold look at *; rw [hs i hi (List.getElem?_eq_some_iff.1 (look_some h).1).1]; exact h) hk hi
theorem nzF_brns (L : List Brn) : (fl eB L).map nzF = fl eB L := by
  induction L with
  | nil => rfl
  | cons x xs ih =>
    show [nzF _, nzF _] ++ (fl eB xs).map nzF = _
    rw [ih]; rfl
theorem take_brn (ys : List Brn) (k : Nat) : (cl eB ys).take (k * 2) = cl eB (ys.take k) := by
  have h := List.take_append_drop k ys
  by_cases hk : k ≤ ys.length
  · conv => lhs; rw [← h, cl_append]
    have l1 : (cl eB (ys.take k)).length = k * 2 := by rw [cl_length (E := eB) (n := 2), List.length_take, Nat.min_eq_left hk]
    rw [List.take_append_of_le_length (by omega), List.take_of_length_le (by omega)]
  · have l1 : (cl eB ys).length = ys.length * 2 := cl_length ys
    rw [List.take_of_length_le (by omega), List.take_of_length_le (by omega)]
theorem CutL.frz {H HI : Heap} {c : CV} {L : List Brn} (h : CutL H HI c L) : frzS (tailS H.length) HI 6 c = some (fsl eB L) := by
  cases h with
  | n => rfl
  | m => rfl
  | o i g k ys h hk hi =>
    have hS : tailS H.length i = true := by simp [tailS]; omega
    simp only [Lg.frzS, hS, if_true, h, List.drop_zero, take_brn]
    rw [show cl eB (ys.take k) = (fl eB (ys.take k)).map CV.f from rfl, frzS_cells, nzF_brns]
    show some (FV.sl k _) = some (FV.sl (ys.take k).length _)
    rw [List.length_take, Nat.min_eq_left hk]
theorem sliceV_nil0 {P : Program} {H : Heap} {t e : TypeId} {ti ei : TI} (ht : tinf P t = some ti) (hk : ti.k = .slice e) (he : tinf P e = some ei) : sliceV P H t (.c (.f .nil)) none (some 0) none = some (.c (.f .nil)) := by
  simp [sliceV, ht, hk, he]
theorem sliceV_brn {P : Program} {H : Heap} {t e : TypeId} {ti ei : TI} {id g m : Nat} {L : List Brn} (ht : tinf P t = some ti) (hk : ti.k = .slice e) (he : tinf P e = some ei) (hs : ei.size = 2) (hl : look H id g = some ⟨g, 2, cl eB L⟩) (hn : m ≤ L.length) :
    sliceV P H t (.c (.own id g 0 L.length none)) none (some m) none = some (.c (.own id g 0 m none)) := by
  have hc : (cl eB L).length = L.length * 2 := cl_length L
  simp only [sliceV, ht, hk, he, hl, Option.getD_none, Option.getD_some, hs]
  rw [if_pos ⟨by omega, by omega, by omega, by simp, trivial, by omega, by omega⟩]
  simp
structure PfI (H HI : Heap) (id g : Nat) (B : Int) (g2 g8 : Nat) (p : Puz) : Prop where
  out : look HI H.length g2 = some ⟨g2, 3, [.f (.int .i64 0), .f .nil, .f .nil]⟩
  puz : look HI (H.length + 1) g8 = some ⟨g8, 3, cP p⟩
  rd : RdAt HI id g B
  lt : id < H.length
  ln : H.length + 2 ≤ HI.length
  frm : ∀ k, k < H.length → k ≠ id → HI[k]? = H[k]?
section
variable {H HI H2 : Heap} {id g g2 g8 : Nat} {B B' : Int} {p : Puz}
theorem PfI.mono (h : PfI H HI id g B g2 g8 p) (hb : B ≤ B') : PfI H HI id g B' g2 g8 p := { h with rd := h.rd.mono hb }
theorem PfI.pick (h : PfI H HI id g B g2 g8 p) (hr : RdAt H2 id g B') (hf : Frm HI H2 [id]) : PfI H H2 id g B' g2 g8 p := by
  have hl := h.lt
  exact { out := by rw [hf.look (by simp; omega)]; exact h.out
          puz := by rw [hf.look (by simp; omega)]; exact h.puz
          rd := hr, lt := hl, ln := by rw [hf.1]; exact h.ln
          frm := fun k hk hn => by rw [hf.2 k (by simpa using hn)]; exact h.frm k hk hn }
theorem PfI.app {X : Heap} (h : PfI H HI id g B g2 g8 p) : PfI H (HI ++ X) id g B g2 g8 p := by
  have hn := h.ln
  exact { out := look_appL h.out, puz := look_appL h.puz, rd := h.rd.app, lt := h.lt, ln := by simp; omega
          frm := fun k hk hne => by rw [List.getElem?_append_left (by omega)]; exact h.frm k hk hne }
theorem PfI.step (h : PfI H HI id g B g2 g8 p) (hs : ∀ i, i < H.length + 2 → H2[i]? = HI[i]?) (hl : HI.length ≤ H2.length) : PfI H H2 id g B g2 g8 p := by
  have hn := h.ln
  have ht := h.lt
  exact { out := by have := h.out; unfold look at *; rw [hs _ (by omega)]; exact this
          puz := by have := h.puz; unfold look at *; rw [hs _ (by omega)]; exact this
          rd := h.rd.same (hs _ (by omega)), lt := ht, ln := by omega
          frm := fun k hk hne => by rw [hs _ (by omega)]; exact h.frm k hk hne }
end
def proofDQ (H : Heap) (id g : Nat) (B : Int) : KV := fun v H' => (∃ (p : Puz) (pf : List Brn), v = .tup [aP p, rsl eB pf] ∧ smD p ∧ pf.length ≤ 201) ∧ RdAt H' id g (B + 500) ∧ Frm H H' [id]
set_option maxHeartbeats 4000000 in
theorem l20Proof_run (H : Heap) (id g : Nat) (B : Int) (hr : RdAt H id g B) (hB : B ≤ 2 ^ 36) : RunCall Try.prog 96 [.c (.ptr id g 0)] H (proofDQ H id g B) := by
  have hlt := hr.lt
  refine RunCall.iceS (Q' := fun v H' => ∃ p c pf, v = .tup [aP p, .c c] ∧ frzS (tailS H.length) H' 6 c = some (fsl eB pf) ∧ smD p ∧ pf.length ≤ 201 ∧ RdAt H' id g (B + 500) ∧ H.length ≤ H'.length ∧ ∀ k, k < H.length → k ≠ id → H'[k]? = H[k]?) ?_ ?_
  rotate_left
  · rintro v H' ⟨p, c, pf, rfl, h1, h2, h3, h5, h6, h7⟩
    refine ⟨tailS H.length, H'.take H.length, .tup [aP p, rsl eB pf], iceH_take _ _, iceA_two (.s _) (.c _ _ (iceC_f h1)), ⟨p, pf, rfl, h2, h3⟩, h5.take hlt, by simp; omega, fun i hi => ?_⟩
    by_cases hi' : i < H.length
    · rw [List.getElem?_take_of_lt hi', h7 i hi' (by simpa using hi)]
    · rw [List.getElem?_take_eq_none (by omega), List.getElem?_eq_none (by omega)]
  refine RunCall.ofR (c := _) Try.func96 rfl (n := 68) Try.ntmps96 (rs := [.cell 2 26, .tmp 3]) rfl ?_
  simp only[List.length_cons,List.length_nil,reduceAdd,reduceSub,List.replicate,List.cons_append,List.nil_append]
  refine RunC.cutN 4 (fun a : Nat × Nat × Puz × CV × List Brn × Heap => smD a.2.2.1 ∧ a.2.2.2.2.1.length ≤ 201 ∧ PfI H a.2.2.2.2.2 id g (B + 450) a.1 a.2.1 a.2.2.1 ∧ CutL H a.2.2.2.2.2 a.2.2.2.1 a.2.2.2.2.1) (fun a => [.a, .a, .p (.c (.ptr H.length a.1 0)), .a, .p (.c (.ptr (H.length + 1) a.2.1 0)), .p (.c a.2.2.2.1), .a, .a, .a, .a, .a, .a, .a, .a, .a, .a, .a, .a, .a, .a, .a, .a, .a, .a, .a, .a, .a, .a, .a, .a, .a, .a, .a, .a, .a, .a, .a, .a, .a, .a, .a, .a, .a, .a, .a, .a, .a, .a, .a, .a, .a, .a, .a, .a, .a, .a, .a, .a, .a, .a, .a, .a, .a, .a, .a, .a, .a, .a]) (fun a => a.2.2.2.2.2) ?_ ?_
  · simp(maxSteps:=999999)(disch:=omega)only[go_sem,reduceAdd,reduceMul,reduceSub,reduceEqDiff,reduceLeDiff, look_off, look_off0, set_off, set_off0, List.append_assoc, List.cons_append, List.nil_append, List.length_append]
    intro g2
    refine OpS.run (l20Puzzle_run _ id g B 14 hr.app (by omega) (by omega)) (⟨_, Try.func58, rfl, rfl⟩ : Enters Try.prog 58) rfl rfl ?_
    rintro _ H1 ⟨⟨p, rfl, hp1, hp2⟩, r1, f1⟩
    have hsm : smD p := ⟨hp1, hp2⟩
    have l1 : H1.length = H.length + 1 := by rw [f1.1]; simp
    have ho1 : look H1 H.length g2 = some ⟨g2, 3, [.f (.int .i64 0), .f .nil, .f .nil]⟩ := by rw [f1.look (by simp; omega)]; exact look_last
    simp(maxSteps:=999999)(disch:=omega)only[go_sem,reduceAdd,reduceMul,reduceSub,reduceEqDiff,reduceLeDiff, look_off, look_off0, set_off, set_off0, List.append_assoc, List.cons_append, List.nil_append, List.length_append]
    intro g8
    have q0 : PfI H (H1 ++ [some ⟨g8, 3, cP p⟩]) id g (B + 400) g2 g8 p :=
      { out := look_appL ho1
        puz := by rw [← l1]; exact look_last
        rd := r1.app, lt := hlt, ln := by simp; omega
        frm := fun k hk hne => by rw [List.getElem?_append_left (by omega), f1.2 k (by simpa using hne), List.getElem?_append_left hk] }
    refine OpS.mkMpr (sMakeProof_own p hsm.sm) (⟨_, Try.func41, rfl, rfl⟩ : Enters Try.prog 41) rfl rfl (snap_one snapD_aP) ?_
    intro c H3 hI hS hne
    have hLn := makeL_len p
    obtain ⟨L, hL⟩ : ∃ L, L = makeL p := ⟨_, rfl⟩
    rw [← hL] at hI hLn
    have q1 := q0.app (X := H3)
    have hS' : ∀ k, idsC c k → H.length + 1 < k := fun k hk => by have := (hS k hk).1; simp at this; omega
    obtain ⟨HK, hHK⟩ : ∃ HK : Heap, HK = (H1 ++ [some ⟨g8, 3, cP p⟩]) ++ H3 := ⟨_, rfl⟩
    rw [← hHK] at q1
    have hI : OwnL eB 2 HK c L := by rw [hHK]; exact hI
    show vwK _ _ _ _ _ _ (.tup [.c c, bool (makeB p)]) ((H1 ++ [some ⟨g8, 3, cP p⟩]) ++ H3)
    rw [← hHK]
    clear hHK hS q0
    rw [l1]
    have hap : ∀ {HX HY : Heap} {c1 c2 : CV} {Bx : Int} {L2 : List Brn}, PfI H HX id g Bx g2 g8 p → (∀ k, idsC c1 k → H.length + 1 < k) → OwnL eB 2 HY c2 L2 → (∀ k, k < HX.length → ¬ idsC c1 k → HY[k]? = HX[k]?) → (∀ k, idsC c2 k → idsC c1 k ∨ k = HX.length) → HX.length ≤ HY.length → PfI H HY id g Bx g2 g8 p ∧ CutL H HY c2 L2 := fun h1 h2 h3 h4 h5 h6 => by
      have hn := h1.ln
      refine ⟨h1.step (fun i hi => h4 i (by omega) fun hc => by have := h2 i hc; omega) h6, CutL.of h3 fun k hk => ?_⟩
      rcases h5 k hk with h | h
      · have := h2 k h; omega
      · omega
    simp(maxSteps:=999999)(disch:=omega)only[go_sem,reduceAdd,reduceMul,reduceSub,reduceEqDiff,reduceLeDiff]
    refine OpS.run (odd_run _ id g _ 3 q1.rd (by omega) (by omega)) (⟨_, Try.func105, rfl, rfl⟩ : Enters Try.prog 105) rfl rfl ?_
    rintro _ H4 ⟨⟨b, rfl, _⟩, r4, f4⟩
    replace f4 : Frm HK H4 [id] := f4
    have q4 := q1.pick r4 f4
    have hI4 := hI.same (H' := H4) fun i hi _ => f4.2 i (by have := hS' i hi; simp; omega)
    simp(maxSteps:=999999)(disch:=omega)only[go_sem,reduceAdd,reduceMul,reduceSub,reduceEqDiff,reduceLeDiff]
    ((first|(with_reducible first|refine condK_dec ?_ ?_|refine condK_ndec ?_ ?_|refine condK_nb ?_ ?_)|refine condK_b ?_ ?_) <;> intro e0)
    rotate_left
    · simp(maxSteps:=999999)(disch:=omega)only[go_sem,reduceAdd,reduceMul,reduceSub,reduceEqDiff,reduceLeDiff]
      exact ⟨(g2, g8, p, c, L, H4), ⟨hsm, by show L.length ≤ 201; omega, q4.mono (by omega), CutL.of hI4 fun k hk => by have := hS' k hk; omega⟩, by simp, HLe.refl _⟩
    simp(maxSteps:=999999)(disch:=omega)only[go_sem,reduceAdd,reduceMul,reduceSub,reduceEqDiff,reduceLeDiff]
    refine OpS.run (pick_run H4 id g _ 5 q4.rd (by omega)) (⟨_, Try.func99, rfl, rfl⟩ : Enters Try.prog 99) rfl rfl ?_
    rintro _ H5 ⟨⟨y, rfl, y0, y1⟩, r5, f5⟩
    replace f5 : Frm H4 H5 [id] := f5
    have q5 := q4.pick r5 f5
    have hI5 := hI4.same (H' := H5) fun i hi _ => f5.2 i (by have := hS' i hi; simp; omega)
    have hnid : ∀ i, idsC c i → i ∉ [id] := fun i hi => by have := hS' i hi; simp; omega
    simp(maxSteps:=999999)(disch:=omega)only[go_sem,reduceAdd,reduceMul,reduceSub,reduceEqDiff,reduceLeDiff]
    ((first|(with_reducible first|refine condK_dec ?_ ?_|refine condK_ndec ?_ ?_|refine condK_nb ?_ ?_)|refine condK_b ?_ ?_) <;> intro e1)
    · simp(maxSteps:=999999)(disch:=omega)only[go_sem,reduceAdd,reduceMul,reduceSub,reduceEqDiff,reduceLeDiff]
      refine OpS.run (pick_run H5 id g _ 4 q5.rd (by omega)) (⟨_, Try.func99, rfl, rfl⟩ : Enters Try.prog 99) rfl rfl ?_
      rintro _ H6 ⟨⟨u, rfl, u0, u1⟩, r6, f6⟩
      have u1 := u1 (by omega)
      replace f6 : Frm H5 H6 [id] := f6
      have q6 := q5.pick r6 f6
      have hI6 := hI5.same (H' := H6) fun i hi _ => f6.2 i (hnid i hi)
      simp(maxSteps:=999999)(disch:=omega)only[go_sem,reduceAdd,reduceMul,reduceSub,reduceEqDiff,reduceLeDiff]
      intro g9
      have q7 := q6.app (X := [some ⟨g9, 2, cl eB [⟨1 + u, 0⟩]⟩])
      refine appendM_L (E := eB) (v := ⟨1 + u, 0⟩) (sliceOf_of' ti60 rfl ti103) ⟨rfl, rfl, by decide, by decide⟩ hI6.app (by omega) look_last ?_
      intro c' H7 hO hk1 hk2 hl7 hk3
      obtain ⟨w1, w2⟩ := hap q7 hS' hO hk1 hk2 hl7
      simp(maxSteps:=999999)(disch:=omega)only[go_sem,reduceAdd,reduceMul,reduceSub,reduceEqDiff,reduceLeDiff]
      exact ⟨(g2, g8, p, c', L ++ [⟨1 + u, 0⟩], H7), ⟨hsm, by simp; omega, w1.mono (by omega), w2⟩, by simp, HLe.refl _⟩
    simp(maxSteps:=999999)(disch:=omega)only[go_sem,reduceAdd,reduceMul,reduceSub,reduceEqDiff,reduceLeDiff]
    ((first|(with_reducible first|refine condK_dec ?_ ?_|refine condK_ndec ?_ ?_|refine condK_nb ?_ ?_)|refine condK_b ?_ ?_) <;> intro e2)
    · simp(maxSteps:=999999)(disch:=omega)only[go_sem,reduceAdd,reduceMul,reduceSub,reduceEqDiff,reduceLeDiff]
      refine OpS.run (pick_run H5 id g _ 4 q5.rd (by omega)) (⟨_, Try.func99, rfl, rfl⟩ : Enters Try.prog 99) rfl rfl ?_
      rintro _ H6 ⟨⟨u, rfl, u0, u1⟩, r6, f6⟩
      have u1 := u1 (by omega)
      replace f6 : Frm H5 H6 [id] := f6
      have q6 := q5.pick r6 f6
      have hI6 := hI5.same (H' := H6) fun i hi _ => f6.2 i (hnid i hi)
      simp(maxSteps:=999999)(disch:=omega)only[go_sem,reduceAdd,reduceMul,reduceSub,reduceEqDiff,reduceLeDiff]
      intro g9
      have q7 := q6.app (X := [some ⟨g9, 2, cl eB [⟨1 + u, 0⟩]⟩])
      refine appendM_LL (E := eB) (xs := [(⟨1 + u, 0⟩ : Brn)]) (sliceOf_of' ti60 rfl ti103) ⟨rfl, rfl, by decide, by decide⟩ (OwnL.o H6.length g9 [(⟨1 + u, 0⟩ : Brn)] look_last) ⟨by simp, by omega⟩ (elems_L hI6.app) ?_
      intro c' H7 hO hk1 hk2 hl7 hk3
      obtain ⟨w1, w2⟩ := hap q7 (fun k hk => by have : k = H6.length := hk; have := q6.ln; omega) hO hk1 hk2 hl7
      simp(maxSteps:=999999)(disch:=omega)only[go_sem,reduceAdd,reduceMul,reduceSub,reduceEqDiff,reduceLeDiff]
      exact ⟨(g2, g8, p, c', [⟨1 + u, 0⟩] ++ L, H7), ⟨hsm, by simp; omega, w1.mono (by omega), w2⟩, by simp, HLe.refl _⟩
    simp(maxSteps:=999999)(disch:=omega)only[go_sem,reduceAdd,reduceMul,reduceSub,reduceEqDiff,reduceLeDiff]
    ((first|(with_reducible first|refine condK_dec ?_ ?_|refine condK_ndec ?_ ?_|refine condK_nb ?_ ?_)|refine condK_b ?_ ?_) <;> intro e3)
    · have hd : ((L.length : Nat) : Int).tdiv 2 = ((L.length / 2 : Nat) : Int) := by
        rw [Int.tdiv_eq_ediv_of_nonneg (by omega)]
        omega
      clear hI hI4 hap
      cases hI5 with
      | n =>
        have hd2 : IntKind.i64.wrap ((0 : Int).tdiv 2) = 0 := rfl
        have hsl := fun H : Heap => sliceV_nil0 (H := H) ti60 rfl ti103
        simp(maxSteps:=999999)(disch:=omega)only[go_sem,reduceAdd,reduceMul,reduceSub,reduceEqDiff,reduceLeDiff, hd2, Int.reduceToNat, hsl]
        exact ⟨(g2, g8, p, .f .nil, [], H5), ⟨hsm, by simp, q5.mono (by omega), .n⟩, by simp, HLe.refl _⟩
      | m => exact absurd rfl hne
      | o id5 g5 xs h5 =>
        have hsl := sliceV_brn ti60 rfl ti103 rfl h5 (m := L.length / 2) (by omega)
        simp(maxSteps:=999999)(disch:=omega)only[go_sem,reduceAdd,reduceMul,reduceSub,reduceEqDiff,reduceLeDiff, hd, h5, Int.toNat_natCast, hsl]
        exact ⟨(g2, g8, p, .own id5 g5 0 (L.length / 2) none, L.take (L.length / 2), H5), ⟨hsm, by simp; omega, q5.mono (by omega), .o id5 g5 (L.length / 2) L h5 (by omega) (by have := hS' id5 rfl; omega)⟩, by simp, HLe.refl _⟩
    simp(maxSteps:=999999)(disch:=omega)only[go_sem,reduceAdd,reduceMul,reduceSub,reduceEqDiff,reduceLeDiff]
    ((first|(with_reducible first|refine condK_dec ?_ ?_|refine condK_ndec ?_ ?_|refine condK_nb ?_ ?_)|refine condK_b ?_ ?_) <;> intro e4)
    · simp(maxSteps:=999999)(disch:=omega)only[go_sem,reduceAdd,reduceMul,reduceSub,reduceEqDiff,reduceLeDiff]
      refine OpS.run (pick_run H5 id g _ 17 q5.rd (by omega)) (⟨_, Try.func99, rfl, rfl⟩ : Enters Try.prog 99) rfl rfl ?_
      rintro _ H6 ⟨⟨u, rfl, u0, u1⟩, r6, f6⟩
      have u1 := u1 (by omega)
      replace f6 : Frm H5 H6 [id] := f6
      have q6 := q5.pick r6 f6
      have hI6 := hI5.same (H' := H6) fun i hi _ => f6.2 i (hnid i hi)
      simp(maxSteps:=999999)(disch:=omega)only[go_sem,reduceAdd,reduceMul,reduceSub,reduceEqDiff,reduceLeDiff]
      refine OpS.run (pick_run H6 id g _ 9 q6.rd (by omega)) (⟨_, Try.func99, rfl, rfl⟩ : Enters Try.prog 99) rfl rfl ?_
      rintro _ H7 ⟨⟨v, rfl, v0, v1⟩, r7, f7⟩
      have v1 := v1 (by omega)
      replace f7 : Frm H6 H7 [id] := f7
      have q7 := q6.pick r7 f7
      have hI7 := hI6.same (H' := H7) fun i hi _ => f7.2 i (hnid i hi)
      obtain ⟨z, hz⟩ : ∃ z, z = IntKind.i64.wrap (u - IntKind.i64.wrap (v.tdiv 8)) := ⟨_, rfl⟩
      simp(maxSteps:=999999)(disch:=omega)only[go_sem,reduceAdd,reduceMul,reduceSub,reduceEqDiff,reduceLeDiff, ← hz]
      intro g9
      have q8 := q7.app (X := [some ⟨g9, 2, cl eB [⟨0, z⟩]⟩])
      refine appendM_LL (E := eB) (xs := [(⟨0, z⟩ : Brn)]) (sliceOf_of' ti60 rfl ti103) ⟨rfl, rfl, by decide, by decide⟩ (OwnL.o H7.length g9 [(⟨0, z⟩ : Brn)] look_last) ⟨by simp, by omega⟩ (elems_L hI7.app) ?_
      intro c' H8 hO hk1 hk2 hl8 hk3
      obtain ⟨w1, w2⟩ := hap q8 (fun k hk => by have : k = H7.length := hk; have := q7.ln; omega) hO hk1 hk2 hl8
      simp(maxSteps:=999999)(disch:=omega)only[go_sem,reduceAdd,reduceMul,reduceSub,reduceEqDiff,reduceLeDiff]
      exact ⟨(g2, g8, p, c', [⟨0, z⟩] ++ L, H8), ⟨hsm, by simp; omega, w1.mono (by omega), w2⟩, by simp, HLe.refl _⟩
    · simp(maxSteps:=999999)(disch:=omega)only[go_sem,reduceAdd,reduceMul,reduceSub,reduceEqDiff,reduceLeDiff]
      intro g9
      have q6 := q5.app (X := [some ⟨g9, 2, cl eB [⟨5, 0⟩, ⟨1, 1⟩, ⟨-1, 0⟩]⟩])
      refine OpS.run (pick_run _ id g _ 3 q6.rd (by omega)) (⟨_, Try.func99, rfl, rfl⟩ : Enters Try.prog 99) rfl rfl ?_
      rintro _ H7 ⟨⟨u, rfl, u0, u1⟩, r7, f7⟩
      have u1 := u1 (by omega)
      replace f7 : Frm (H5 ++ [some ⟨g9, 2, cl eB [⟨5, 0⟩, ⟨1, 1⟩, ⟨-1, 0⟩]⟩]) H7 [id] := f7
      have q7 := q6.pick r7 f7
      have hI7 := (hI5.app (H' := [some ⟨g9, 2, cl eB [⟨5, 0⟩, ⟨1, 1⟩, ⟨-1, 0⟩]⟩])).same (H' := H7) fun i hi _ => f7.2 i (hnid i hi)
      have hb : look H7 H5.length g9 = some ⟨g9, 2, [.f (.int .i64 5), .f (.int .i64 0), .f (.int .i64 1), .f (.int .i64 1), .f (.int .i64 (-1)), .f (.int .i64 0)]⟩ := f7.last q5.rd.lt
      have key : ∀ (b : Brn) (g10 : Nat), ∀ {K : KV}, (∀ c' H8, (∃ a : Nat × Nat × Puz × CV × List Brn × Heap, (smD a.2.2.1 ∧ a.2.2.2.2.1.length ≤ 201 ∧ PfI H a.2.2.2.2.2 id g (B + 450) a.1 a.2.1 a.2.2.1 ∧ CutL H a.2.2.2.2.2 a.2.2.2.1 a.2.2.2.2.1) ∧ a = (g2, g8, p, c', L ++ [b], H8)) → K (.c c') H8) → appendM Try.prog (H7 ++ [some ⟨g10, 2, cB b⟩]) 60 (.c c) (.c (.own H7.length g10 0 1 none)) K := by
        intro b g10 K hK
        refine appendM_L (E := eB) (v := b) (sliceOf_of' ti60 rfl ti103) ⟨rfl, rfl, by decide, by decide⟩ hI7.app (by omega) look_last ?_
        intro c' H8 hO hk1 hk2 hl8 hk3
        obtain ⟨w1, w2⟩ := hap (q7.app (X := [some ⟨g10, 2, cB b⟩])) hS' hO hk1 hk2 hl8
        exact hK c' H8 ⟨_, ⟨hsm, by simp; omega, w1.mono (by omega), w2⟩, rfl⟩
      obtain rfl | rfl | rfl : u = 0 ∨ u = 1 ∨ u = 2 := by omega
      all_goals
        simp(maxSteps:=999999)(disch:=omega)only[go_sem,reduceAdd,reduceMul,reduceSub,reduceEqDiff,reduceLeDiff, hb, Int.reduceToNat]
        intro g10
        first | refine key ⟨5, 0⟩ g10 ?_ | refine key ⟨1, 1⟩ g10 ?_ | refine key ⟨-1, 0⟩ g10 ?_
        rintro c' H8 ⟨a, ha, rfl⟩
        simp(maxSteps:=999999)(disch:=omega)only[go_sem,reduceAdd,reduceMul,reduceSub,reduceEqDiff,reduceLeDiff]
        exact ⟨_, ha, by simp, HLe.refl _⟩
  · rintro ⟨g2, g8, p, c, L, HF⟩ ⟨hsm, hl, o, hc⟩
    simp only at hsm hl o hc
    have ho := o.out
    have hpz := o.puz
    have hln := o.ln
    have hlt := o.lt
    have hS : ∀ b, look (HF.set H.length (some ⟨g2, 3, b⟩)) H.length g2 = some ⟨g2, 3, b⟩ := fun b => look_set_eq' (by omega)
    refine cw_sound _ _ _ _ ?_
    simp(maxSteps:=999999)(disch:=omega)only[go_sem,reduceAdd,reduceMul,reduceSub,reduceEqDiff,reduceLeDiff, hpz, ho, hS]
    refine ⟨_, HLe.refl _, p, c, L, rfl, (hc.same fun i hi _ => by rw [List.getElem?_set_ne (by omega)]).frz, hsm, hl, (o.rd.mono (by omega)).same (by rw [List.getElem?_set_ne (by omega)]), by rw [List.length_set]; omega, fun k hk hn => ?_⟩
    rw [List.getElem?_set_ne (by omega)]
    exact o.frm k hk hn
end Go.Lg

namespace Go.Lg
open Go.Proofs
attribute [-go_sem] appendM lwF_cons
def dPrf : AV → Prop := fun v => ∃ (p : Puz) (pf : List Brn), v = .tup [aP p, rsl eB pf] ∧ smD p ∧ pf.length ≤ 201
theorem DrawCheckProof_run (code : List Int) (hb : ∀ x ∈ code, 0 ≤ x ∧ x ≤ 255) (hl : code.length ≤ 2 ^ 40) : RunCall Try.prog 57 [rsl (eI .u8) code] [] (fun v _ => dPrf v) := by
  refine RunCall.cw (c := _) Try.func57 rfl (n := 9) Try.ntmps57 (rs := [.cell 2 26, .tmp 3]) rfl ?_
  simp only[List.length_cons,List.length_nil,reduceAdd,reduceSub,List.replicate,List.cons_append,List.nil_append]
  simp(maxSteps:=999999)(disch:=omega)only[go_sem,reduceAdd,reduceMul,reduceSub,reduceEqDiff,reduceLeDiff]
  intro g4
  refine OpS.mkRd (l20Open_run code hb hl) (⟨_, Try.func59, rfl, rfl⟩ : Enters Try.prog 59) rfl rfl rfl ?_
  intro g H1 r1 hl1
  simp(maxSteps:=999999)(disch:=omega)only[go_sem,reduceAdd,reduceMul,reduceSub,reduceEqDiff,reduceLeDiff]
  refine OpS.run (l20Proof_run _ 1 g 0 r1 (by omega)) (⟨_, Try.func96, rfl, rfl⟩ : Enters Try.prog 96) rfl rfl ?_
  rintro _ H2 ⟨⟨p, pf, rfl, hp, hf⟩, r2, f2⟩
  have h4 : look H2 0 g4 = some ⟨g4, 3, [.f (.int .i64 0), .f .nil, .f .nil]⟩ := by rw [f2.look (by simp)]; exact look_zero
  have hS : ∀ b, look (H2.set 0 (some ⟨g4, 3, b⟩)) 0 g4 = some ⟨g4, 3, b⟩ := fun b => look_set_eq' (List.getElem?_eq_some_iff.1 (look_some h4).1).1
  simp(maxSteps:=999999)(disch:=omega)only[go_sem,reduceAdd,reduceMul,reduceSub,reduceEqDiff,reduceLeDiff, h4, hS]
  exact ⟨_, HLe.refl _, p, pf, rfl, hp, hf⟩
end Go.Lg

namespace Go.Lg
open Go.Proofs
attribute [-go_sem] appendM lwF_cons
structure OwnP0 (H : Heap) (c r : CV) (p : Puz) (S1 S2 : List Nat) : Prop where
  g : OwnI H c p.given S1
  rr : (r = .f .nil ∧ p.rules = [] ∧ S2 = []) ∨ OwnR H r p.rules S2
  nd : (S1 ++ S2).Nodup
  l : limN r
theorem limN_shift {r : CV} {k : Nat} (h : limN r) : limN (shiftC k r) := by
  cases r with
  | f v => cases v <;> exact h
  | _ => exact h
section
variable {H H' : Heap} {c r : CV} {p : Puz} {S1 S2 : List Nat}
theorem OwnP0.same (h : OwnP0 H c r p S1 S2) (hs : ∀ i ∈ S1 ++ S2, H'[i]? = H[i]?) : OwnP0 H' c r p S1 S2 :=
  ⟨h.g.same fun i hi => hs i (by simp [hi]), h.rr.imp id fun k => k.same fun i hi => hs i (by simp [hi]), h.nd, h.l⟩
theorem OwnP0.lt (h : OwnP0 H c r p S1 S2) : ∀ i ∈ S1 ++ S2, i < H.length := fun i hi => by
  rcases List.mem_append.1 hi with hi | hi
  · exact h.g.lt i hi
  · rcases h.rr with ⟨_, _, rfl⟩ | k
    · simp at hi
    · exact k.lt i hi
theorem OwnP0.blk (h : OwnP0 H c r p S1 S2) : (∀ i ∈ S1 ++ S2, ∀ b, H[i]? = some (some b) → ∀ x ∈ b.cs, scalC x = true) ∧ scalC c = true ∧ scalC r = true := by
  refine ⟨fun i hi => ?_, h.g.scal1, ?_⟩
  · rcases List.mem_append.1 hi with hi | hi
    · exact h.g.blk i hi
    · rcases h.rr with ⟨_, _, rfl⟩ | k
      · simp at hi
      · exact k.blk i hi
  · rcases h.rr with ⟨rfl, _, _⟩ | k
    · rfl
    · exact k.scal1
theorem OwnP0.shift {H0 : Heap} (h : OwnP0 H c r p S1 S2) : OwnP0 (H0 ++ shiftH H0.length H) (shiftC H0.length c) (shiftC H0.length r) p (S1.map (· + H0.length)) (S2.map (· + H0.length)) := by
  refine ⟨h.g.shift, ?_, ?_, limN_shift h.l⟩
  · rcases h.rr with ⟨rfl, h1, rfl⟩ | k
    · exact .inl ⟨rfl, h1, rfl⟩
    · exact .inr k.shift
  · rw [← List.map_append]
    exact List.pairwise_map.2 (h.nd.imp fun h h' => h (by omega))
theorem OwnP0.snap (h : OwnP0 H c r p S1 S2) : [AV.agg [.f (.int .i64 p.size), c, r]].mapM (snapD H) = some [aP p] := by
  have e1 : ∀ x : Int, frzC H (.f (.int .i64 x)) = some (.f (.int .i64 x)) := fun _ => rfl
  have e2 := h.g.frzC
  have e3 : frzC H r = some (.f (fsl eR p.rules)) := by
    rcases h.rr with ⟨rfl, h1, _⟩ | k
    · rw [h1]; exact (OwnL.n (E := eR) (n := 3)).frzC
    · exact k.frzC
  simp only [snapD, List.mapM_cons, List.mapM_nil, e1, e2, e3, Option.bind_eq_bind, Option.pure_def, Option.bind_some, Option.map_some]
end
section
variable {P : Program} {o : Oper} {st : St} {K : KV} {fo : Operand} {xs : Array Operand} {ts : Array TypeId} {f : FuncId} {args args' : List AV} {p : Puz}
end
end Go.Lg
