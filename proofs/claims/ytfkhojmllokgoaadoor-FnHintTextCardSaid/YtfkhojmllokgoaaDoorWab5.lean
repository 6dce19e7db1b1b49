/- GpGE, GpFA, GpGF, GpGG, GpVH, cut to what is needed. -/
import Derived.Test.YtfkhojmllokgoaaDoorWab4
import Derived.Test.YtfkhojmllokgoaaDoorWab1
import Derived.Test.YtfkhojmllokgoaaDoorWab2
open Nat(reduceAdd reduceMul reduceSub reduceEqDiff reduceLeDiff)
set_option linter.unusedSimpArgs false
set_option linter.unusedVariables false
set_option maxRecDepth 100000
namespace Go.Lg
open Go.Proofs
attribute [-go_sem] appendM lwF_cons
structure PzI (H HI : Heap) (id g : Nat) (B : Int) (R n g4 cid cg J g7 : Nat) : Prop where
  out : look HI H.length g4 = some ⟨g4, 3, [.f (.int .i64 0), .f .nil, .f .nil]⟩
  grid : ∃ zs : List Int, look HI cid cg = some ⟨cg, 1, cl (eI .i64) zs⟩ ∧ n * n ≤ zs.length
  ex : ∃ z gc rc zs rs, look HI J g7 = some ⟨g7, 3, [.f (.int .i64 z), gc, rc]⟩ ∧ PzO HI (H.length + 1) z gc rc zs rs ∧ ¬ idsC gc J ∧ ¬ idsC rc J ∧ ¬ idsC gc cid ∧ ¬ idsC rc cid ∧ zs.length = n * n ∧ ruleSm rs R 5
  rd : RdAt HI id g B
  lt : id < H.length
  ln : H.length < cid ∧ cid < HI.length ∧ H.length < J ∧ J < HI.length ∧ cid ≠ J
  frm : ∀ k, k < H.length → k ≠ id → HI[k]? = H[k]?
section
variable {H HI H2 : Heap} {id g R R' n g4 cid cg J g7 : Nat} {B B' : Int}
theorem PzI.mono (h : PzI H HI id g B R n g4 cid cg J g7) (hb : B ≤ B') : PzI H HI id g B' R n g4 cid cg J g7 := { h with rd := h.rd.mono hb }
theorem PzI.step (h : PzI H HI id g B R n g4 cid cg J g7) (hs : ∀ i, H.length ≤ i → i < HI.length → H2[i]? = HI[i]?) (hl : HI.length ≤ H2.length) (hr : RdAt H2 id g B') (hf : ∀ k, k < H.length → k ≠ id → H2[k]? = HI[k]?) : PzI H H2 id g B' R n g4 cid cg J g7 := by
  have hn := h.ln
  have hL : ∀ i g, H.length ≤ i → i < HI.length → look H2 i g = look HI i g := fun i g h1 h2 => by unfold look; rw [hs i h1 h2]
  obtain ⟨ys, g1, g2⟩ := h.grid
  obtain ⟨z, gc, rc, zs, rs, h1, h2, h3⟩ := h.ex
  exact { out := by rw [hL _ _ (Nat.le_refl _) (by omega)]; exact h.out
          grid := ⟨ys, by rw [hL _ _ (by omega) (by omega)]; exact g1, g2⟩
          ex := ⟨z, gc, rc, zs, rs, by rw [hL _ _ (by omega) (by omega)]; exact h1, h2.same fun i hi _ hl => hs i (by omega) hl, h3⟩
          rd := hr, lt := h.lt, ln := by omega
          frm := fun k hk hne => by rw [hf k hk hne]; exact h.frm k hk hne }
theorem PzI.pick (h : PzI H HI id g B R n g4 cid cg J g7) (hr : RdAt H2 id g B') (hf : Frm HI H2 [id]) : PzI H H2 id g B' R n g4 cid cg J g7 := by
  have hl := h.lt
  exact h.step (fun i hi _ => hf.2 i (by simp; omega)) (by rw [hf.1]; exact Nat.le_refl _) hr fun k hk hne => hf.2 k (by simpa using hne)
theorem PzI.app {X : Heap} (h : PzI H HI id g B R n g4 cid cg J g7) : PzI H (HI ++ X) id g B R n g4 cid cg J g7 := by
  have hn := h.ln
  exact h.step (fun i _ hi => List.getElem?_append_left hi) (by simp) h.rd.app fun k hk _ => List.getElem?_append_left (by omega)
end
theorem PzI.put {H HI H6 : Heap} {id g R n g4 cid cg J g7 R' : Nat} {B B' z : Int} {gc rc : CV} {zs : List Int} {rs : List Rul} (h : PzI H HI id g B R n g4 cid cg J g7)
    (w2 : PzO H6 HI.length z gc rc zs rs) (w7 : zs.length = n * n)
    (hs : ∀ i, H.length ≤ i → i < HI.length → H6[i]? = HI[i]?) (hlow : ∀ k, k < H.length → k ≠ id → H6[k]? = HI[k]?) (hrd : RdAt H6 id g B') (hl : HI.length ≤ H6.length) (hsm : ruleSm rs R' 5) :
    PzI H (H6.set J (some ⟨g7, 3, [.f (.int .i64 z), gc, rc]⟩)) id g B' R' n g4 cid cg J g7 := by
  have hln := h.ln
  have hlt := h.lt
  have hS : ∀ i g, H.length ≤ i → i < HI.length → i ≠ J → look (H6.set J (some ⟨g7, 3, [.f (.int .i64 z), gc, rc]⟩)) i g = look HI i g := fun i g a b d => by
    unfold look
    rw [List.getElem?_set_ne (Ne.symm d), hs i a b]
  obtain ⟨gz, gz1, gz2⟩ := h.grid
  have hno : ∀ i, i < HI.length → ¬ idsC gc i ∧ ¬ idsC rc i := fun i hi => by
    obtain ⟨gid, gg, rfl, p1, p2, p3, p4⟩ := w2
    exact ⟨fun hh => by simp only [idsC] at hh; omega, fun hh => by have := (p4 i hh).1; omega⟩
  exact { out := by rw [hS _ _ (Nat.le_refl _) (by omega) (by omega)]; exact h.out
          grid := ⟨gz, by rw [hS _ _ (by omega) (by omega) (by omega)]; exact gz1, gz2⟩
          ex := ⟨z, gc, rc, zs, rs, look_set_eq' (by omega), (w2.same fun i hi _ _ => by rw [List.getElem?_set_ne (by omega)]).n0 (by omega), (hno _ (by omega)).1, (hno _ (by omega)).2, (hno _ (by omega)).1, (hno _ (by omega)).2, w7, hsm⟩
          rd := hrd.same (by rw [List.getElem?_set_ne (by omega)])
          lt := hlt
          ln := by rw [List.length_set]; omega
          frm := fun k hk hne => by rw [List.getElem?_set_ne (by omega), hlow k hk hne]; exact h.frm k hk hne }
structure PzF (H HI : Heap) (id g : Nat) (B : Int) (g4 J g7 : Nat) : Prop where
  out : look HI H.length g4 = some ⟨g4, 3, [.f (.int .i64 0), .f .nil, .f .nil]⟩
  ex : ∃ z gc rc zs rs, look HI J g7 = some ⟨g7, 3, [.f (.int .i64 z), gc, rc]⟩ ∧ (∀ H' : Heap, (∀ i, H.length < i → i < HI.length → H'[i]? = HI[i]?) → frzS (tailS H.length) H' 6 gc = some (fints zs) ∧ frzS (tailS H.length) H' 6 rc = some (fsl eR rs)) ∧ zs.length ≤ 16 ∧ ruleSm rs 30 5
  rd : RdAt HI id g B
  lt : id < H.length
  ln : H.length < J ∧ J < HI.length
  frm : ∀ k, k < H.length → k ≠ id → HI[k]? = H[k]?
theorem frz_own {H H' HI : Heap} {gid gg : Nat} {zs : List Int} (p1 : look HI gid gg = some ⟨gg, 1, cl (eI .i64) zs⟩) (h0 : H.length < gid) (hs : ∀ i, H.length < i → i < HI.length → H'[i]? = HI[i]?) {off k : Nat} (hk : off + k ≤ zs.length) : frzS (tailS H.length) H' 6 (.own gid gg off k none) = some (fints ((zs.drop off).take k)) :=
  frzS_view (by unfold look at p1 ⊢; rw [hs gid h0 (List.getElem?_eq_some_iff.1 (look_some p1).1).1]; exact p1) (by simp [tailS]; omega) hk 5
theorem frz_ownL {H H' HI : Heap} {rc : CV} {rs : List Rul} (p3 : OwnL eR 3 HI rc rs) (h0 : ∀ i, idsC rc i → H.length < i) (hs : ∀ i, H.length < i → i < HI.length → H'[i]? = HI[i]?) : frzS (tailS H.length) H' 6 rc = some (fsl eR rs) :=
  (p3.same fun i hi hl => hs i (h0 i hi) hl).frzS (fun i hi => by have := h0 i hi; simp [tailS]; omega) 5
theorem PzI.fin {H HI : Heap} {id g R n g4 cid cg J g7 : Nat} {B B' : Int} (h : PzI H HI id g B R n g4 cid cg J g7) (hn : n * n ≤ 16) (hR : R ≤ 30) (hb : B ≤ B') : PzF H HI id g B' g4 J g7 := by
  obtain ⟨z, gc, rc, zs, rs, w1, ⟨gid, gg, rfl, p1, p2, p3, p4⟩, w3, w4, w5, w6, w7, w8, w9⟩ := h.ex
  have hln := h.ln
  exact { out := h.out
          ex := ⟨z, _, rc, zs, rs, w1, fun H' hs => ⟨by have := frz_own p1 (by omega) hs (off := 0) (k := zs.length) (by omega); rwa [List.drop_zero, List.take_length] at this, frz_ownL p3 (fun i hi => by have := (p4 i hi).1; omega) hs⟩, by omega, by omega, w9⟩
          rd := h.rd.mono hb, lt := h.lt, ln := by omega, frm := h.frm }
end Go.Lg

namespace Go.Lg
open Go.Proofs
theorem GrdN.set {xs : List Int} {n i v : Nat} (hg : GrdN xs n) (hi : i < xs.length) (hv : v ≤ n) : GrdN (xs.set i (v : Int)) n := ⟨by rw [List.length_set]; exact hg.len, fun k hk => by
  rw [List.length_set] at hk
  rw [nth_setN _ _ _ _ hi]
  split
  · omega
  · exact hg.val k hk⟩
def LeB (o o' : List Nat) : Prop := o.length = o'.length ∧ ∀ k b : Nat, (o.getD k 0).testBit b = true → (o'.getD k 0).testBit b = true
theorem LeB.refl (o : List Nat) : LeB o o := ⟨rfl, fun _ _ h => h⟩
theorem LeB.trans {a b c : List Nat} (h1 : LeB a b) (h2 : LeB b c) : LeB a c := ⟨h1.1.trans h2.1, fun k x h => h2.2 k x (h1.2 k x h)⟩
def Has (p : Puz) (xs : List Int) : Prop := ∀ k : Nat, 0 < nth p.given k → nth xs k = nth p.given k
theorem Has.set {p : Puz} {xs : List Int} (h : Has p xs) {i : Nat} {v : Int} (hi : i < xs.length) (h0 : ¬ 0 < nth xs i) : Has p (xs.set i v) := fun k hk => by
  rw [nth_setN _ _ _ _ hi]
  have := h k hk
  split
  · rename_i hki
    subst hki
    omega
  · exact this
end Go.Lg

namespace Go.Lg
open Go.Proofs
attribute [-go_sem] appendM lwF_cons
def LstO (H : Heap) (c : CV) (ls : List (List Int)) : Prop := ∃ oid og cs, c = .own oid og 0 ls.length none ∧ look H oid og = some ⟨og, 1, cs⟩ ∧ cs.length = ls.length ∧ ∀ i (h : i < ls.length), ∃ id g, cs[i]? = some (.own id g 0 ls[i].length none) ∧ look H id g = some ⟨g, 1, cl (eI .i64) ls[i]⟩
theorem LstO.shift {H0 H : Heap} {c : CV} {ls : List (List Int)} (h : LstO H c ls) : LstO (H0 ++ shiftH H0.length H) (shiftC H0.length c) ls := by
  obtain ⟨oid, og, cs, rfl, k1, k2, k3⟩ := h
  refine ⟨oid + H0.length, og, cs.map (shiftC H0.length), rfl, look_shiftH k1, by rw [List.length_map]; exact k2, fun i hi => ?_⟩
  obtain ⟨id, g, q1, q2⟩ := k3 i hi
  refine ⟨id + H0.length, g, by rw [List.getElem?_map, q1]; rfl, ?_⟩
  rw [look_shiftH q2]
  simp only [shiftB, shift_cl]
section
variable {P : Program} {o : Oper} {st : St} {K : KV} {fo : Operand} {xs : Array Operand} {ts : Array TypeId} {f : FuncId} {args : List AV}
end
structure TrI (H HI : Heap) (id g : Nat) (B : Int) (g4 J g6 : Nat) (p : Puz) (c : CV) (zs : List Int) : Prop where
  out : look HI H.length g4 = some ⟨g4, 3, [.f (.int .i64 0), .f .nil, .f .nil]⟩
  puz : look HI J g6 = some ⟨g6, 3, cP p⟩
  grid : ∃ gid gg, c = .own gid gg 0 zs.length none ∧ look HI gid gg = some ⟨gg, 1, cl (eI .i64) zs⟩ ∧ H.length < gid ∧ gid ≠ J
  rd : RdAt HI id g B
  lt : id < H.length
  ln : H.length < J ∧ J < HI.length
  frm : ∀ k, k < H.length → k ≠ id → HI[k]? = H[k]?
section
variable {H HI H2 : Heap} {id g g4 J g6 : Nat} {B B' : Int} {p : Puz} {c : CV} {zs : List Int}
theorem TrI.mono (h : TrI H HI id g B g4 J g6 p c zs) (hb : B ≤ B') : TrI H HI id g B' g4 J g6 p c zs := { h with rd := h.rd.mono hb }
theorem TrI.step (h : TrI H HI id g B g4 J g6 p c zs) (hs : ∀ i, H.length ≤ i → i < HI.length → H2[i]? = HI[i]?) (hl : HI.length ≤ H2.length) (hr : RdAt H2 id g B') (hf : ∀ k, k < H.length → k ≠ id → H2[k]? = HI[k]?) : TrI H H2 id g B' g4 J g6 p c zs := by
  have hn := h.ln
  have hL : ∀ i g, H.length ≤ i → i < HI.length → look H2 i g = look HI i g := fun i g h1 h2 => by unfold look; rw [hs i h1 h2]
  obtain ⟨gid, gg, g1, g2, g3, g4⟩ := h.grid
  have hgl : gid < HI.length := (List.getElem?_eq_some_iff.1 (look_some g2).1).1
  exact { out := by rw [hL _ _ (Nat.le_refl _) (by omega)]; exact h.out
          puz := by rw [hL _ _ (by omega) (by omega)]; exact h.puz
          grid := ⟨gid, gg, g1, by rw [hL _ _ (by omega) hgl]; exact g2, g3, g4⟩
          rd := hr, lt := h.lt, ln := by omega
          frm := fun k hk hne => by rw [hf k hk hne]; exact h.frm k hk hne }
theorem TrI.pick (h : TrI H HI id g B g4 J g6 p c zs) (hr : RdAt H2 id g B') (hf : Frm HI H2 [id]) : TrI H H2 id g B' g4 J g6 p c zs := by
  have hl := h.lt
  exact h.step (fun i hi _ => hf.2 i (by simp; omega)) (by rw [hf.1]; exact Nat.le_refl _) hr fun k hk hne => hf.2 k (by simpa using hne)
theorem TrI.app {X : Heap} (h : TrI H HI id g B g4 J g6 p c zs) : TrI H (HI ++ X) id g B g4 J g6 p c zs := by
  have hn := h.ln
  exact h.step (fun i _ hi => List.getElem?_append_left hi) (by simp) h.rd.app fun k hk _ => List.getElem?_append_left (by omega)
theorem TrI.set (h : TrI H HI id g B g4 J g6 p c zs) {gid gg : Nat} (hc : c = .own gid gg 0 zs.length none) (k : Nat) (v : Int) : TrI H (HI.set gid (some ⟨gg, 1, cl (eI .i64) (zs.set k v)⟩)) id g B g4 J g6 p c (zs.set k v) := by
  have hn := h.ln
  have hl := h.lt
  obtain ⟨gid', gg', g1, g2, g3, g4⟩ := h.grid
  rw [hc] at g1
  cases g1
  have hgl : gid < HI.length := (List.getElem?_eq_some_iff.1 (look_some g2).1).1
  exact { out := by rw [look_set_ne' (by omega)]; exact h.out
          puz := by rw [look_set_ne' (by omega)]; exact h.puz
          grid := ⟨gid, gg, by rw [hc, List.length_set], look_set_eq' hgl, g3, g4⟩
          rd := h.rd.same (by rw [List.getElem?_set_ne (by omega)])
          lt := hl, ln := by rw [List.length_set]; exact hn
          frm := fun k hk hne => by rw [List.getElem?_set_ne (by omega)]; exact h.frm k hk hne }
end
theorem wf_u8' {xs : List Int} (h : ∀ x ∈ xs, (Lit.int .u8 x).wf = true) : ∀ x ∈ xs, 0 ≤ x ∧ x ≤ 255 := fun x hx => by
  have := h x hx
  simp [Lit.wf] at this
  have e1 : IntKind.u8.min = 0 := by decide
  have e2 : IntKind.u8.max = 255 := by decide
  omega
theorem RdAt.shift {H0 H : Heap} {id g : Nat} {B : Int} (h : RdAt H id g B) : RdAt (H0 ++ shiftH H0.length H) (id + H0.length) g B := by
  obtain ⟨sz, b, p, h1, h2⟩ := h
  exact ⟨sz, b, p, by rw [look_shiftH h1]; rfl, h2⟩
theorem OpS.mkRd {P : Program} {o : Oper} {st : St} {K : KV} {fo : Operand} {xs : Array Operand} {ts : Array TypeId} {f : FuncId} {args : List AV} (hc : RunCall P f args [] (fun v H' => ∃ g, v = .c (.ptr 0 g 0) ∧ RdAt H' 0 g 0 ∧ H'.length = 1)) (he : Enters P f) (ho : o.op = .call ⟨.value fo, xs, ts⟩) (ha : callArgs st fo xs = some (f, args)) (hf : args.all frozenA = true)
    (hk : ∀ g H', RdAt (st.h ++ H') st.h.length g 0 → H'.length = 1 → K (.c (.ptr st.h.length g 0)) (st.h ++ H')) : OpS P o st K :=
  OpS.mkQ hc he ho ha hf fun r H' ⟨g, h1, h2, h3⟩ => by
    subst h1
    refine ⟨rfl, ?_⟩
    have := hk g (shiftH st.h.length H') (by have := h2.shift (H0 := st.h); rwa [Nat.zero_add] at this) (by rw [shiftH_length]; exact h3)
    show K (.c (.ptr (0 + st.h.length) g 0)) _
    rw [Nat.zero_add]
    exact this
end Go.Lg

namespace Go.Lg
open Go.Proofs
attribute [-go_sem] appendM lwF_cons
theorem resV_ctt (P : Program) (s : List AV) (H : Heap) (t u w : Nat) (ty : TypeId) : resV P s H [.cell t ty, .tmp u, .tmp w] = (loadV P H ty (s.getD t .void)).map fun v => .tup [v, s.getD u .void, s.getD w .void] := by
  simp only [resV, resAll, resOne]
  cases loadV P H ty (s.getD t .void) <;> rfl
attribute [go_sem] resV_ctt
theorem aliveF_run : Reads Tryd.prog 13 [] (bool true) := by
  refine RunCall.cw (c := _) Tryd.func13 rfl (n := 4) Tryd.ntmps13 (rs := [.tmp 0]) rfl ?_
  simp only[List.length_cons,List.length_nil,reduceAdd,reduceSub,List.replicate,List.cons_append,List.nil_append]
  simp(maxSteps:=999999)(disch:=omega)only[go_sem,reduceAdd,reduceMul,reduceSub,reduceEqDiff,reduceLeDiff]
  intro g
  have hown : OwnI [some ⟨g, 1, [.f (.int .i64 1), .f (.int .i64 0), .f (.int .i64 0), .f (.int .i64 2)]⟩] (.own 0 g 0 4 none) [1, 0, 0, 2] [0] := OwnI.o 0 g none [1, 0, 0, 2] [] (by rw [look_zero]; rfl)
  refine OpS.rdD (GridFilled_run [1, 0, 0, 2] 2 (by simp)) (⟨_, Tryd.func32, rfl, rfl⟩ : Enters Tryd.prog 32) rfl rfl (snap_two hown.snap snapD_int) rfl ?_
  have e : gridFilled [1, 0, 0, 2] 2 = 2 := by decide
  rw [e]
  simp(maxSteps:=999999)(disch:=omega)only[go_sem,reduceAdd,reduceMul,reduceSub,reduceEqDiff,reduceLeDiff]
end Go.Lg

namespace Go.Lg
open Go.Proofs
def hintOk (h : Hnt) : Prop := (0 ≤ h.tech ∧ h.tech ≤ 4) ∧ (0 ≤ h.cell ∧ h.cell ≤ 15) ∧ (1 ≤ h.val ∧ h.val ≤ 4)
instance (h : Hnt) : Decidable (hintOk h) := by unfold hintOk; infer_instance
def hintS (h : Hnt) : List UInt8 := [99, 101, 108, 108, 32] ++ [u8 (97 + h.cell)] ++ [32, 105, 115, 32] ++ [u8 (48 + h.val)] ++ [32, 98, 121, 32] ++ [u8 (48 + h.tech)]
def hintL (h : Hnt) : List UInt8 := if hintOk h then hintS h else []
theorem itoa_one {v : Int} (h0 : 0 ≤ v) (h9 : v ≤ 9) : Go.Lib.itoa v = [u8 (48 + v)] := by
  unfold Go.Lib.itoa
  rw [if_neg (by omega), Go.Lib.decDigits, dif_pos (by omega)]
  unfold u8
  rw [show 48 + v.toNat = (48 + v).toNat by omega]
theorem Itoa1_run (i : Int) (h0 : 0 ≤ i) (h9 : i ≤ 9) : Reads Tryd.prog 29 [int i] (txt [u8 (48 + i)]) := by
  rw [← itoa_one h0 h9]
  exact Itoa_run i (by omega) (by omega)
theorem sHintText_run (h : Hnt) : Reads Tryd.prog 9 [aH h] (txt (hintL h)) := by
  refine RunCall.cw (c := _) Tryd.func9 rfl (n := 42) Tryd.ntmps9 (rs := [.tmp 2]) rfl ?_
  simp only[List.length_cons,List.length_nil,reduceAdd,reduceSub,List.replicate,List.cons_append,List.nil_append]
  simp(maxSteps:=999999)(disch:=omega)only[go_sem,reduceAdd,reduceMul,reduceSub,reduceEqDiff,reduceLeDiff]
  intro g
  first | refine OpS.rd (l1In_run _ _ _) (⟨_, Tryd.func28, rfl, rfl⟩ : Enters Tryd.prog 28) rfl rfl rfl rfl ?_ | refine Loud.rd (l1In_run _ _ _) (⟨_, Tryd.func28, rfl, rfl⟩ : Enters Tryd.prog 28) rfl rfl rfl rfl ?_
  simp(maxSteps:=999999)(disch:=omega)only[go_sem,reduceAdd,reduceMul,reduceSub,reduceEqDiff,reduceLeDiff]
  by_cases k1 : 0 ≤ h.tech ∧ h.tech ≤ 4
  rotate_left
  · have e : hintL h = [] := by unfold hintL; rw [if_neg (fun hk => k1 hk.1)]
    have d1 : decide (0 ≤ h.tech ∧ h.tech ≤ 4) = false := decide_eq_false k1
    rw [e]
    simp(maxSteps:=999999)(disch:=omega)only[go_sem,reduceAdd,reduceMul,reduceSub,reduceEqDiff,reduceLeDiff, d1]
  have d1 : decide (0 ≤ h.tech ∧ h.tech ≤ 4) = true := decide_eq_true k1
  simp(maxSteps:=999999)(disch:=omega)only[go_sem,reduceAdd,reduceMul,reduceSub,reduceEqDiff,reduceLeDiff, d1]
  first | refine OpS.rd (l1In_run _ _ _) (⟨_, Tryd.func28, rfl, rfl⟩ : Enters Tryd.prog 28) rfl rfl rfl rfl ?_ | refine Loud.rd (l1In_run _ _ _) (⟨_, Tryd.func28, rfl, rfl⟩ : Enters Tryd.prog 28) rfl rfl rfl rfl ?_
  simp(maxSteps:=999999)(disch:=omega)only[go_sem,reduceAdd,reduceMul,reduceSub,reduceEqDiff,reduceLeDiff]
  by_cases k2 : 0 ≤ h.cell ∧ h.cell ≤ 15
  rotate_left
  · have e : hintL h = [] := by unfold hintL; rw [if_neg (fun hk => k2 hk.2.1)]
    have d1 : decide (0 ≤ h.cell ∧ h.cell ≤ 15) = false := decide_eq_false k2
    rw [e]
    simp(maxSteps:=999999)(disch:=omega)only[go_sem,reduceAdd,reduceMul,reduceSub,reduceEqDiff,reduceLeDiff, d1]
  have d2 : decide (0 ≤ h.cell ∧ h.cell ≤ 15) = true := decide_eq_true k2
  simp(maxSteps:=999999)(disch:=omega)only[go_sem,reduceAdd,reduceMul,reduceSub,reduceEqDiff,reduceLeDiff, d2]
  first | refine OpS.rd (l1In_run _ _ _) (⟨_, Tryd.func28, rfl, rfl⟩ : Enters Tryd.prog 28) rfl rfl rfl rfl ?_ | refine Loud.rd (l1In_run _ _ _) (⟨_, Tryd.func28, rfl, rfl⟩ : Enters Tryd.prog 28) rfl rfl rfl rfl ?_
  simp(maxSteps:=999999)(disch:=omega)only[go_sem,reduceAdd,reduceMul,reduceSub,reduceEqDiff,reduceLeDiff]
  by_cases k3 : 1 ≤ h.val ∧ h.val ≤ 4
  rotate_left
  · have e : hintL h = [] := by unfold hintL; rw [if_neg (fun hk => k3 hk.2.2)]
    have d1 : decide (1 ≤ h.val ∧ h.val ≤ 4) = false := decide_eq_false k3
    rw [e]
    simp(maxSteps:=999999)(disch:=omega)only[go_sem,reduceAdd,reduceMul,reduceSub,reduceEqDiff,reduceLeDiff, d1]
  have d3 : decide (1 ≤ h.val ∧ h.val ≤ 4) = true := decide_eq_true k3
  have e : hintL h = hintS h := by unfold hintL; rw [if_pos ⟨k1, k2, k3⟩]
  rw [e]
  unfold hintS
  simp(maxSteps:=999999)(disch:=omega)only[go_sem,reduceAdd,reduceMul,reduceSub,reduceEqDiff,reduceLeDiff, d3]
  intro _ _ _
  trivial
theorem HintText_run (h : Hnt) : Reads Tryd.prog 11 [aH h] (txt (hintL h)) := by
  refine RunCall.cw (c := _) Tryd.func11 rfl (n := 48) Tryd.ntmps11 (rs := [.tmp 2]) rfl ?_
  simp only[List.length_cons,List.length_nil,reduceAdd,reduceSub,List.replicate,List.cons_append,List.nil_append]
  simp(maxSteps:=999999)(disch:=omega)only[go_sem,reduceAdd,reduceMul,reduceSub,reduceEqDiff,reduceLeDiff]
  intro g
  have no : ¬ hintOk h → hintL h = [] := fun hk => by unfold hintL; rw [if_neg hk]
  by_cases k1 : h.tech < 0
  · have d : decide (h.tech < 0) = true := decide_eq_true k1
    rw [no fun hk => by have := hk.1; omega]
    simp(maxSteps:=999999)(disch:=omega)only[go_sem,reduceAdd,reduceMul,reduceSub,reduceEqDiff,reduceLeDiff, d]
  have d1 : decide (h.tech < 0) = false := decide_eq_false k1
  by_cases k2 : 4 < h.tech
  · have d : decide (4 < h.tech) = true := decide_eq_true k2
    rw [no fun hk => by have := hk.1; omega]
    simp(maxSteps:=999999)(disch:=omega)only[go_sem,reduceAdd,reduceMul,reduceSub,reduceEqDiff,reduceLeDiff, d1, d]
  have d2 : decide (4 < h.tech) = false := decide_eq_false k2
  by_cases k3 : h.cell < 0
  · have d : decide (h.cell < 0) = true := decide_eq_true k3
    rw [no fun hk => by have := hk.2.1; omega]
    simp(maxSteps:=999999)(disch:=omega)only[go_sem,reduceAdd,reduceMul,reduceSub,reduceEqDiff,reduceLeDiff, d1, d2, d]
  have d3 : decide (h.cell < 0) = false := decide_eq_false k3
  by_cases k4 : 15 < h.cell
  · have d : decide (15 < h.cell) = true := decide_eq_true k4
    rw [no fun hk => by have := hk.2.1; omega]
    simp(maxSteps:=999999)(disch:=omega)only[go_sem,reduceAdd,reduceMul,reduceSub,reduceEqDiff,reduceLeDiff, d1, d2, d3, d]
  have d4 : decide (15 < h.cell) = false := decide_eq_false k4
  by_cases k5 : h.val < 1
  · have d : decide (h.val < 1) = true := decide_eq_true k5
    rw [no fun hk => by have := hk.2.2; omega]
    simp(maxSteps:=999999)(disch:=omega)only[go_sem,reduceAdd,reduceMul,reduceSub,reduceEqDiff,reduceLeDiff, d1, d2, d3, d4, d]
  have d5 : decide (h.val < 1) = false := decide_eq_false k5
  by_cases k6 : 4 < h.val
  · have d : decide (4 < h.val) = true := decide_eq_true k6
    rw [no fun hk => by have := hk.2.2; omega]
    simp(maxSteps:=999999)(disch:=omega)only[go_sem,reduceAdd,reduceMul,reduceSub,reduceEqDiff,reduceLeDiff, d1, d2, d3, d4, d5, d]
  have d6 : decide (4 < h.val) = false := decide_eq_false k6
  have e : hintL h = hintS h := by unfold hintL; rw [if_pos ⟨by omega, by omega, by omega⟩]
  rw [e]
  unfold hintS
  simp(maxSteps:=999999)(disch:=omega)only[go_sem,reduceAdd,reduceMul,reduceSub,reduceEqDiff,reduceLeDiff, d1, d2, d3, d4, d5, d6]
  refine drawP_q foll (by kernel_rfl) ?_
  simp(maxSteps:=999999)(disch:=omega)only[go_sem,Nat.reduceBEq,Bool.true_or,reduceAdd,reduceMul,reduceSub,reduceEqDiff,reduceLeDiff]
  refine quietW.rd (Itoa1_run h.val (by omega) (by omega)) (⟨_, Tryd.func29, rfl, rfl⟩ : Enters Tryd.prog 29) rfl rfl rfl rfl ?_
  simp(maxSteps:=999999)(disch:=omega)only[go_sem,reduceAdd,reduceMul,reduceSub,reduceEqDiff,reduceLeDiff]
  refine quietW.rd (Itoa1_run h.tech (by omega) (by omega)) (⟨_, Tryd.func29, rfl, rfl⟩ : Enters Tryd.prog 29) rfl rfl rfl rfl ?_
  simp(maxSteps:=999999)(disch:=omega)only[go_sem,reduceAdd,reduceMul,reduceSub,reduceEqDiff,reduceLeDiff]
theorem toHint_run (h : Hnt) : Reads Tryd.prog 10 [aH h] (aH h) := by
  refine RunCall.cw (c := _) Tryd.func10 rfl (n := 14) Tryd.ntmps10 (rs := [.cell 2 25]) rfl ?_
  simp only[List.length_cons,List.length_nil,reduceAdd,reduceSub,List.replicate,List.cons_append,List.nil_append]
  simp(maxSteps:=999999)(disch:=omega)only[go_sem,reduceAdd,reduceMul,reduceSub,reduceEqDiff,reduceLeDiff]
  intros
  trivial
theorem law_FnExactHintText (h : Hnt) (_ : True) : Reads Tryd.prog 3 [aH h] (bool true) := by
  have hbb : decide (hintL h = hintL h) = true := decide_eq_true rfl
  refine RunCall.cw (c := _) Tryd.func3 rfl (n := 14) Tryd.ntmps3 (rs := [.tmp 2]) rfl ?_
  simp only[List.length_cons,List.length_nil,reduceAdd,reduceSub,List.replicate,List.cons_append,List.nil_append]
  simp(maxSteps:=999999)(disch:=omega)only[go_sem,reduceAdd,reduceMul,reduceSub,reduceEqDiff,reduceLeDiff]
  intro g
  first | refine OpS.mk (toHint_run h) (⟨_, Tryd.func10, rfl, rfl⟩ : Enters Tryd.prog 10) rfl rfl rfl rfl rfl ?_ | refine Loud.mk (toHint_run h) (⟨_, Tryd.func10, rfl, rfl⟩ : Enters Tryd.prog 10) rfl rfl rfl rfl rfl ?_
  simp(maxSteps:=999999)(disch:=omega)only[go_sem,reduceAdd,reduceMul,reduceSub,reduceEqDiff,reduceLeDiff]
  first | refine OpS.rd (sHintText_run h) (⟨_, Tryd.func9, rfl, rfl⟩ : Enters Tryd.prog 9) rfl rfl rfl rfl ?_ | refine Loud.rd (sHintText_run h) (⟨_, Tryd.func9, rfl, rfl⟩ : Enters Tryd.prog 9) rfl rfl rfl rfl ?_
  simp(maxSteps:=999999)(disch:=omega)only[go_sem,reduceAdd,reduceMul,reduceSub,reduceEqDiff,reduceLeDiff]
  first | refine OpS.mk (toHint_run h) (⟨_, Tryd.func10, rfl, rfl⟩ : Enters Tryd.prog 10) rfl rfl rfl rfl rfl ?_ | refine Loud.mk (toHint_run h) (⟨_, Tryd.func10, rfl, rfl⟩ : Enters Tryd.prog 10) rfl rfl rfl rfl rfl ?_
  simp(maxSteps:=999999)(disch:=omega)only[go_sem,reduceAdd,reduceMul,reduceSub,reduceEqDiff,reduceLeDiff]
  first | refine OpS.rd (HintText_run h) (⟨_, Tryd.func11, rfl, rfl⟩ : Enters Tryd.prog 11) rfl rfl rfl rfl ?_ | refine Loud.rd (HintText_run h) (⟨_, Tryd.func11, rfl, rfl⟩ : Enters Tryd.prog 11) rfl rfl rfl rfl ?_
  simp(maxSteps:=999999)(disch:=omega)only[go_sem,reduceAdd,reduceMul,reduceSub,reduceEqDiff,reduceLeDiff]
theorem DrawHintText_run (code : List Int) (hb : ∀ x ∈ code, 0 ≤ x ∧ x ≤ 255) (hl : code.length ≤ 2 ^ 40) : RunCall Tryd.prog 12 [rsl (eI .u8) code] [] (fun v _ => ∃ h : Hnt, v = aH h) := by
  refine RunCall.cw (c := _) Tryd.func12 rfl (n := 21) Tryd.ntmps12 (rs := [.cell 2 25]) rfl ?_
  simp only[List.length_cons,List.length_nil,reduceAdd,reduceSub,List.replicate,List.cons_append,List.nil_append]
  simp(maxSteps:=999999)(disch:=omega)only[go_sem,reduceAdd,reduceMul,reduceSub,reduceEqDiff,reduceLeDiff]
  intro g4
  refine OpS.mkRd (l20Open_run code hb hl) (⟨_, Tryd.func30, rfl, rfl⟩ : Enters Tryd.prog 30) rfl rfl rfl ?_
  intro g H1 r1 hl1
  have h1 : look (some (⟨g4, 3, [.f (.int .i64 0), .f (.int .i64 0), .f (.int .i64 0)]⟩ : Blk) :: H1) 0 g4 = some ⟨g4, 3, [.f (.int .i64 0), .f (.int .i64 0), .f (.int .i64 0)]⟩ := look_zero
  simp(maxSteps:=999999)(disch:=omega)only[go_sem,reduceAdd,reduceMul,reduceSub,reduceEqDiff,reduceLeDiff]
  refine OpS.run (pick_run _ 1 g 0 6 r1 (by omega)) (⟨_, Tryd.func31, rfl, rfl⟩ : Enters Tryd.prog 31) rfl rfl ?_
  rintro _ H2 ⟨⟨y1, rfl, a1, b1⟩, r2, f2⟩
  have h2 := h1
  rw [← f2.look (by simp)] at h2
  simp(maxSteps:=999999)(disch:=omega)only[go_sem,reduceAdd,reduceMul,reduceSub,reduceEqDiff,reduceLeDiff]
  refine OpS.run (pick_run _ 1 g _ 9 r2 (by omega)) (⟨_, Tryd.func31, rfl, rfl⟩ : Enters Tryd.prog 31) rfl rfl ?_
  rintro _ H3 ⟨⟨y2, rfl, a2, b2⟩, r3, f3⟩
  have h3 := h2
  rw [← f3.look (by simp)] at h3
  simp(maxSteps:=999999)(disch:=omega)only[go_sem,reduceAdd,reduceMul,reduceSub,reduceEqDiff,reduceLeDiff]
  refine OpS.run (pick_run _ 1 g _ 17 r3 (by omega)) (⟨_, Tryd.func31, rfl, rfl⟩ : Enters Tryd.prog 31) rfl rfl ?_
  rintro _ H4 ⟨⟨y3, rfl, a3, b3⟩, r4, f4⟩
  have h4 := h3
  rw [← f4.look (by simp)] at h4
  simp(maxSteps:=999999)(disch:=omega)only[go_sem,reduceAdd,reduceMul,reduceSub,reduceEqDiff,reduceLeDiff]
  refine OpS.run (pick_run _ 1 g _ 9 r4 (by omega)) (⟨_, Tryd.func31, rfl, rfl⟩ : Enters Tryd.prog 31) rfl rfl ?_
  rintro _ H5 ⟨⟨y4, rfl, a4, b4⟩, r5, f5⟩
  have h5 := h4
  rw [← f5.look (by simp)] at h5
  simp(maxSteps:=999999)(disch:=omega)only[go_sem,reduceAdd,reduceMul,reduceSub,reduceEqDiff,reduceLeDiff]
  refine OpS.run (pick_run _ 1 g _ 6 r5 (by omega)) (⟨_, Tryd.func31, rfl, rfl⟩ : Enters Tryd.prog 31) rfl rfl ?_
  rintro _ H6 ⟨⟨y5, rfl, a5, b5⟩, r6, f6⟩
  have h6 := h5
  rw [← f6.look (by simp)] at h6
  have hS : ∀ b, look (H6.set 0 (some ⟨g4, 3, b⟩)) 0 g4 = some ⟨g4, 3, b⟩ := fun b => look_set_eq' (List.getElem?_eq_some_iff.1 (look_some h6).1).1
  simp(maxSteps:=999999)(disch:=omega)only[go_sem,reduceAdd,reduceMul,reduceSub,reduceEqDiff,reduceLeDiff, h6, hS]
  exact ⟨_, HLe.refl _, ⟨_, _, _⟩, rfl⟩
set_option maxHeartbeats 2000000 in
theorem law_FnHintText (code : List Int) (hl : code.length ≤ 9223372036854775807) (hw : ∀ x ∈ code, (Lit.int .u8 x).wf = true) : Reads Tryd.prog 4 [rsl (eI .u8) code] (bool true) := by
  refine RunCall.cw (c := _) Tryd.func4 rfl (n := 37) Tryd.ntmps4 (rs := [.tmp 2]) rfl ?_
  simp only[List.length_cons,List.length_nil,reduceAdd,reduceSub,List.replicate,List.cons_append,List.nil_append]
  simp(maxSteps:=999999)(disch:=omega)only[go_sem,reduceAdd,reduceMul,reduceSub,reduceEqDiff,reduceLeDiff]
  ((first|(with_reducible first|refine condK_dec ?_ ?_|refine condK_ndec ?_ ?_|refine condK_nb ?_ ?_)|refine condK_b ?_ ?_) <;> intro h1)
  · simp(maxSteps:=999999)(disch:=omega)only[go_sem,reduceAdd,reduceMul,reduceSub,reduceEqDiff,reduceLeDiff]
  simp(maxSteps:=999999)(disch:=omega)only[go_sem,reduceAdd,reduceMul,reduceSub,reduceEqDiff,reduceLeDiff]
  refine OpS.mkF (DrawHintText_run code (wf_u8' hw) (by omega)) (⟨_, Tryd.func12, rfl, rfl⟩ : Enters Tryd.prog 12) rfl rfl rfl ?_
  rintro _ ⟨h, rfl⟩
  refine ⟨rfl, rfl, ?_⟩
  have hbb : decide (hintL h = hintL h) = true := decide_eq_true rfl
  simp(maxSteps:=999999)(disch:=omega)only[go_sem,reduceAdd,reduceMul,reduceSub,reduceEqDiff,reduceLeDiff]
  intro g
  first | refine OpS.rd (HintText_run h) (⟨_, Tryd.func11, rfl, rfl⟩ : Enters Tryd.prog 11) rfl rfl rfl rfl ?_ | refine Loud.rd (HintText_run h) (⟨_, Tryd.func11, rfl, rfl⟩ : Enters Tryd.prog 11) rfl rfl rfl rfl ?_
  simp(maxSteps:=999999)(disch:=omega)only[go_sem,reduceAdd,reduceMul,reduceSub,reduceEqDiff,reduceLeDiff]
  first | refine OpS.rd (sHintText_run h) (⟨_, Tryd.func9, rfl, rfl⟩ : Enters Tryd.prog 9) rfl rfl rfl rfl ?_ | refine Loud.rd (sHintText_run h) (⟨_, Tryd.func9, rfl, rfl⟩ : Enters Tryd.prog 9) rfl rfl rfl rfl ?_
  simp(maxSteps:=999999)(disch:=omega)only[go_sem,reduceAdd,reduceMul,reduceSub,reduceEqDiff,reduceLeDiff]
  ((first|(with_reducible first|refine condK_dec ?_ ?_|refine condK_ndec ?_ ?_|refine condK_nb ?_ ?_)|refine condK_b ?_ ?_) <;> intro c1)
  · simp(maxSteps:=999999)(disch:=omega)only[go_sem,reduceAdd,reduceMul,reduceSub,reduceEqDiff,reduceLeDiff]
    first | refine OpS.rd (aliveF_run) (⟨_, Tryd.func13, rfl, rfl⟩ : Enters Tryd.prog 13) rfl rfl rfl rfl ?_ | refine Loud.rd (aliveF_run) (⟨_, Tryd.func13, rfl, rfl⟩ : Enters Tryd.prog 13) rfl rfl rfl rfl ?_
    simp(maxSteps:=999999)(disch:=omega)only[go_sem,reduceAdd,reduceMul,reduceSub,reduceEqDiff,reduceLeDiff]
  have hk : hintOk h := by
    by_cases hk : hintOk h
    · exact hk
    · exact absurd (show hintL h = [] by unfold hintL; rw [if_neg hk]) (of_decide_eq_false c1)
  have hk' := hk
  obtain ⟨k1, k2, k3⟩ := hk'
  have e : hintL h = hintS h := by unfold hintL; rw [if_pos hk]
  have e16 : (hintL h).length = 16 := by rw [e]; rfl
  have hne : decide (hintL ⟨h.tech, 15 - h.cell, h.val⟩ = hintL h) = false := by
    have hk2 : hintOk ⟨h.tech, 15 - h.cell, h.val⟩ := ⟨k1, by show 0 ≤ 15 - h.cell ∧ 15 - h.cell ≤ 15; omega, k3⟩
    have e2 : hintL ⟨h.tech, 15 - h.cell, h.val⟩ = hintS ⟨h.tech, 15 - h.cell, h.val⟩ := by unfold hintL; rw [if_pos hk2]
    rw [e, e2, decide_eq_false_iff_not]
    intro hh
    have h5 : (hintS ⟨h.tech, 15 - h.cell, h.val⟩)[5]? = (hintS h)[5]? := by rw [hh]
    have h6 : u8 (97 + (15 - h.cell)) = u8 (97 + h.cell) := by
      have : some (u8 (97 + (15 - h.cell))) = some (u8 (97 + h.cell)) := h5
      simpa using this
    unfold u8 at h6
    have h7 := congrArg UInt8.toNat h6
    simp only [UInt8.toNat_ofNat'] at h7
    omega
  have e16' : decide (((hintL h).length : Int) = 16) = true := decide_eq_true (by omega)
  simp(maxSteps:=999999)(disch:=omega)only[go_sem,reduceAdd,reduceMul,reduceSub,reduceEqDiff,reduceLeDiff]
  intro g5
  simp(maxSteps:=999999)(disch:=omega)only[go_sem,reduceAdd,reduceMul,reduceSub,reduceEqDiff,reduceLeDiff, e16']
  first | refine OpS.rd (HintText_run ⟨h.tech, 15 - h.cell, h.val⟩) (⟨_, Tryd.func11, rfl, rfl⟩ : Enters Tryd.prog 11) rfl rfl rfl rfl ?_ | refine Loud.rd (HintText_run ⟨h.tech, 15 - h.cell, h.val⟩) (⟨_, Tryd.func11, rfl, rfl⟩ : Enters Tryd.prog 11) rfl rfl rfl rfl ?_
  simp(maxSteps:=999999)(disch:=omega)only[go_sem,reduceAdd,reduceMul,reduceSub,reduceEqDiff,reduceLeDiff]
  rw [hne]
  rfl
end Go.Lg
