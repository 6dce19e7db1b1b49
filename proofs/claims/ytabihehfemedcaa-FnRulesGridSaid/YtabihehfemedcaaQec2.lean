/- GpGE, GpFA, GpGF, GpGG, GpCG, cut to what is needed. -/
import Derived.Test.YtabihehfemedcaaQec1
import Derived.Test.YtabihehfemedcaaQeb9
import Derived.Test.YtabihehfemedcaaQeb6
import Derived.Test.YtabihehfemedcaaQeb5
set_option linter.unusedSimpArgs false
set_option linter.unusedVariables false
set_option maxRecDepth 100000
namespace Go.Lg
open Go.Proofs
attribute [-go_sem] appendM lwF_cons
structure PzI (H HI : Heap) (id g : Nat) (B : Int) (R n g4 cid cg J g7 : Nat) : Prop where
  out : look HI H.length g4 = some ⟨g4, 3, [.f (.int .i64 0), .f .nil, .f .nil]⟩
  grid : ∃ zs : List Int, look HI cid cg = some ⟨cg, 1, cl (eI .i64) zs⟩ ∧ n * n ≤ zs.length
  ex : ∃ z gc rc zs rs, look HI J g7 = some ⟨g7, 3, [.f (.int .i64 z), gc, rc]⟩ ∧ PzO HI (H.length + 1) z gc rc zs rs ∧ ¬ idsC gc J ∧ ¬ idsC rc J ∧ ¬ idsC gc cid ∧ ¬ idsC rc cid ∧ zs.length = n * n ∧ ruleSm rs R 5
  rd : RdAt HI id g B
  lt : id < H.length
  ln : H.length < cid ∧ cid < HI.length ∧ H.length < J ∧ J < HI.length ∧ cid ≠ J
  frm : ∀ k, k < H.length → k ≠ id → HI[k]? = H[k]?
section
variable {H HI H2 : Heap} {id g R R' n g4 cid cg J g7 : Nat} {B B' : Int}
theorem PzI.mono (h : PzI H HI id g B R n g4 cid cg J g7) (hb : B ≤ B') : PzI H HI id g B' R n g4 cid cg J g7 := { h with rd := h.rd.mono hb }
theorem PzI.step (h : PzI H HI id g B R n g4 cid cg J g7) (hs : ∀ i, H.length ≤ i → i < HI.length → H2[i]? = HI[i]?) (hl : HI.length ≤ H2.length) (hr : RdAt H2 id g B') (hf : ∀ k, k < H.length → k ≠ id → H2[k]? = HI[k]?) : PzI H H2 id g B' R n g4 cid cg J g7 := by
  have hn := h.ln
  have hL : ∀ i g, H.length ≤ i → i < HI.length → look H2 i g = look HI i g := fun i g h1 h2 => by unfold look; rw [hs i h1 h2]
  obtain ⟨ys, g1, g2⟩ := h.grid
  obtain ⟨z, gc, rc, zs, rs, h1, h2, h3⟩ := h.ex
  exact { out := by rw [hL _ _ (Nat.le_refl _) (by omega)]; exact h.out
          grid := ⟨ys, by rw [hL _ _ (by omega) (by omega)]; exact g1, g2⟩
          ex := ⟨z, gc, rc, zs, rs, by rw [hL _ _ (by omega) (by omega)]; exact h1, h2.same fun i hi _ hl => hs i (by omega) hl, h3⟩
          rd := hr, lt := h.lt, ln := by omega
          frm := fun k hk hne => by rw [hf k hk hne]; exact h.frm k hk hne }
theorem PzI.pick (h : PzI H HI id g B R n g4 cid cg J g7) (hr : RdAt H2 id g B') (hf : Frm HI H2 [id]) : PzI H H2 id g B' R n g4 cid cg J g7 := by
  have hl := h.lt
  exact h.step (fun i hi _ => hf.2 i (by simp; omega)) (by rw [hf.1]; exact Nat.le_refl _) hr fun k hk hne => hf.2 k (by simpa using hne)
theorem PzI.app {X : Heap} (h : PzI H HI id g B R n g4 cid cg J g7) : PzI H (HI ++ X) id g B R n g4 cid cg J g7 := by
  have hn := h.ln
  exact h.step (fun i _ hi => List.getElem?_append_left hi) (by simp) h.rd.app fun k hk _ => List.getElem?_append_left (by omega)
end
theorem PzI.put {H HI H6 : Heap} {id g R n g4 cid cg J g7 R' : Nat} {B B' z : Int} {gc rc : CV} {zs : List Int} {rs : List Rul} (h : PzI H HI id g B R n g4 cid cg J g7)
    (w2 : PzO H6 HI.length z gc rc zs rs) (w7 : zs.length = n * n)
    (hs : ∀ i, H.length ≤ i → i < HI.length → H6[i]? = HI[i]?) (hlow : ∀ k, k < H.length → k ≠ id → H6[k]? = HI[k]?) (hrd : RdAt H6 id g B') (hl : HI.length ≤ H6.length) (hsm : ruleSm rs R' 5) :
    PzI H (H6.set J (some ⟨g7, 3, [.f (.int .i64 z), gc, rc]⟩)) id g B' R' n g4 cid cg J g7 := by
  have hln := h.ln
  have hlt := h.lt
  have hS : ∀ i g, H.length ≤ i → i < HI.length → i ≠ J → look (H6.set J (some ⟨g7, 3, [.f (.int .i64 z), gc, rc]⟩)) i g = look HI i g := fun i g a b d => by
    unfold look
    rw [List.getElem?_set_ne (Ne.symm d), hs i a b]
  obtain ⟨gz, gz1, gz2⟩ := h.grid
  have hno : ∀ i, i < HI.length → ¬ idsC gc i ∧ ¬ idsC rc i := fun i hi => by
    obtain ⟨gid, gg, rfl, p1, p2, p3, p4⟩ := w2
    exact ⟨fun hh => by simp only [idsC] at hh; omega, fun hh => by have := (p4 i hh).1; omega⟩
  exact { out := by rw [hS _ _ (Nat.le_refl _) (by omega) (by omega)]; exact h.out
          grid := ⟨gz, by rw [hS _ _ (by omega) (by omega) (by omega)]; exact gz1, gz2⟩
          ex := ⟨z, gc, rc, zs, rs, look_set_eq' (by omega), (w2.same fun i hi _ _ => by rw [List.getElem?_set_ne (by omega)]).n0 (by omega), (hno _ (by omega)).1, (hno _ (by omega)).2, (hno _ (by omega)).1, (hno _ (by omega)).2, w7, hsm⟩
          rd := hrd.same (by rw [List.getElem?_set_ne (by omega)])
          lt := hlt
          ln := by rw [List.length_set]; omega
          frm := fun k hk hne => by rw [List.getElem?_set_ne (by omega), hlow k hk hne]; exact h.frm k hk hne }
theorem PzI.giv {H HI : Heap} {id g R n g4 cid cg J g7 gid gg : Nat} {B z : Int} {rc : CV} {zs : List Int} {rs : List Rul} (h : PzI H HI id g B R n g4 cid cg J g7)
    (w1 : look HI J g7 = some ⟨g7, 3, [.f (.int .i64 z), .own gid gg 0 zs.length none, rc]⟩) (w2 : PzO HI (H.length + 1) z (.own gid gg 0 zs.length none) rc zs rs) (w3 : ¬ idsC (.own gid gg 0 zs.length none) J) (w4 : ¬ idsC rc J) (w5 : ¬ idsC (.own gid gg 0 zs.length none) cid) (w6 : ¬ idsC rc cid) (w7 : zs.length = n * n) (w8 : ruleSm rs R 5) (k : Nat) (v : Int) :
    PzI H (HI.set gid (some ⟨gg, 1, cl (eI .i64) (zs.set k v)⟩)) id g B R n g4 cid cg J g7 := by
  have hln := h.ln
  have hlt := h.lt
  obtain ⟨gid', gg', he, p1, p2, p3, p4⟩ := w2
  cases he
  have hgl : gid < HI.length := (List.getElem?_eq_some_iff.1 (look_some p1).1).1
  simp only [idsC] at w3 w5
  have hS : ∀ i g, i ≠ gid → look (HI.set gid (some ⟨gg, 1, cl (eI .i64) (zs.set k v)⟩)) i g = look HI i g := fun i g d => look_set_ne' (Ne.symm d)
  obtain ⟨gz, gz1, gz2⟩ := h.grid
  exact { out := by rw [hS _ _ (by omega)]; exact h.out
          grid := ⟨gz, by rw [hS _ _ (by omega)]; exact gz1, gz2⟩
          ex := ⟨z, _, rc, zs.set k v, rs, by rw [hS _ _ (by omega)]; exact w1, ⟨gid, gg, by rw [List.length_set], look_set_eq' hgl, p2, p3.same fun i hi _ => by rw [List.getElem?_set_ne (Ne.symm (p4 i hi).2)], p4⟩, fun hh => by simp only [idsC] at hh; omega, w4, fun hh => by simp only [idsC] at hh; omega, w6, by rw [List.length_set]; exact w7, w8⟩
          rd := h.rd.same (by rw [List.getElem?_set_ne (by omega)])
          lt := hlt
          ln := by rw [List.length_set]; omega
          frm := fun k hk hne => by rw [List.getElem?_set_ne (by omega)]; exact h.frm k hk hne }
structure PzF (H HI : Heap) (id g : Nat) (B : Int) (g4 J g7 : Nat) : Prop where
  out : look HI H.length g4 = some ⟨g4, 3, [.f (.int .i64 0), .f .nil, .f .nil]⟩
  ex : ∃ z gc rc zs rs, look HI J g7 = some ⟨g7, 3, [.f (.int .i64 z), gc, rc]⟩ ∧ (∀ H' : Heap, (∀ i, H.length < i → i < HI.length → H'[i]? = HI[i]?) → frzS (tailS H.length) H' 6 gc = some (fints zs) ∧ frzS (tailS H.length) H' 6 rc = some (fsl eR rs)) ∧ zs.length ≤ 16 ∧ ruleSm rs 30 5
  rd : RdAt HI id g B
  lt : id < H.length
  ln : H.length < J ∧ J < HI.length
  frm : ∀ k, k < H.length → k ≠ id → HI[k]? = H[k]?
theorem frz_own {H H' HI : Heap} {gid gg : Nat} {zs : List Int} (p1 : look HI gid gg = some ⟨gg, 1, cl (eI .i64) zs⟩) (h0 : H.length < gid) (hs : ∀ i, H.length < i → i < HI.length → H'[i]? = HI[i]?) {off k : Nat} (hk : off + k ≤ zs.length) : frzS (tailS H.length) H' 6 (.own gid gg off k none) = some (fints ((zs.drop off).take k)) :=
  frzS_view (by unfold look at p1 ⊢; rw [hs gid h0 (List.getElem?_eq_some_iff.1 (look_some p1).1).1]; exact p1) (by simp [tailS]; omega) hk 5
theorem frz_ownL {H H' HI : Heap} {rc : CV} {rs : List Rul} (p3 : OwnL eR 3 HI rc rs) (h0 : ∀ i, idsC rc i → H.length < i) (hs : ∀ i, H.length < i → i < HI.length → H'[i]? = HI[i]?) : frzS (tailS H.length) H' 6 rc = some (fsl eR rs) :=
  (p3.same fun i hi hl => hs i (h0 i hi) hl).frzS (fun i hi => by have := h0 i hi; simp [tailS]; omega) 5
theorem PzI.fin {H HI : Heap} {id g R n g4 cid cg J g7 : Nat} {B B' : Int} (h : PzI H HI id g B R n g4 cid cg J g7) (hn : n * n ≤ 16) (hR : R ≤ 30) (hb : B ≤ B') : PzF H HI id g B' g4 J g7 := by
  obtain ⟨z, gc, rc, zs, rs, w1, ⟨gid, gg, rfl, p1, p2, p3, p4⟩, w3, w4, w5, w6, w7, w8, w9⟩ := h.ex
  have hln := h.ln
  exact { out := h.out
          ex := ⟨z, _, rc, zs, rs, w1, fun H' hs => ⟨by have := frz_own p1 (by omega) hs (off := 0) (k := zs.length) (by omega); rwa [List.drop_zero, List.take_length] at this, frz_ownL p3 (fun i hi => by have := (p4 i hi).1; omega) hs⟩, by omega, by omega, w9⟩
          rd := h.rd.mono hb, lt := h.lt, ln := by omega, frm := h.frm }
end Go.Lg

set_option linter.unusedSimpArgs false
set_option linter.unusedVariables false
set_option maxRecDepth 100000
namespace Go.Lg
open Go.Proofs
theorem GrdN.set {xs : List Int} {n i v : Nat} (hg : GrdN xs n) (hi : i < xs.length) (hv : v ≤ n) : GrdN (xs.set i (v : Int)) n := ⟨by rw [List.length_set]; exact hg.len, fun k hk => by
  rw [List.length_set] at hk
  rw [nth_setN _ _ _ _ hi]
  split
  · omega
  · exact hg.val k hk⟩
def LeB (o o' : List Nat) : Prop := o.length = o'.length ∧ ∀ k b : Nat, (o.getD k 0).testBit b = true → (o'.getD k 0).testBit b = true
theorem LeB.refl (o : List Nat) : LeB o o := ⟨rfl, fun _ _ h => h⟩
theorem LeB.trans {a b c : List Nat} (h1 : LeB a b) (h2 : LeB b c) : LeB a c := ⟨h1.1.trans h2.1, fun k x h => h2.2 k x (h1.2 k x h)⟩
def Has (p : Puz) (xs : List Int) : Prop := ∀ k : Nat, 0 < nth p.given k → nth xs k = nth p.given k
theorem Has.clear {p : Puz} {xs : List Int} (h : Has p xs) : Lg.clear p xs = true := by
  simp only [Lg.clear, decide_eq_true_eq]
  exact fun k hk ⟨a, b, c⟩ => c (h k a)
theorem Has.set {p : Puz} {xs : List Int} (h : Has p xs) {i : Nat} {v : Int} (hi : i < xs.length) (h0 : ¬ 0 < nth xs i) : Has p (xs.set i v) := fun k hk => by
  rw [nth_setN _ _ _ _ hi]
  have := h k hk
  split
  · rename_i hki
    subst hki
    omega
  · exact this
theorem nth_over {xs : List Int} {k : Nat} (h : xs.length ≤ k) : nth xs (k : Int) = 0 := by
  unfold nth
  rw [Int.toNat_natCast, List.getD_eq_getElem?_getD, List.getElem?_eq_none h]
  rfl
end Go.Lg

set_option linter.unusedSimpArgs false
set_option linter.unusedVariables false
set_option maxRecDepth 100000
namespace Go.Lg
open Go.Proofs
attribute [-go_sem] appendM lwF_cons
def LstO (H : Heap) (c : CV) (ls : List (List Int)) : Prop := ∃ oid og cs, c = .own oid og 0 ls.length none ∧ look H oid og = some ⟨og, 1, cs⟩ ∧ cs.length = ls.length ∧ ∀ i (h : i < ls.length), ∃ id g, cs[i]? = some (.own id g 0 ls[i].length none) ∧ look H id g = some ⟨g, 1, cl (eI .i64) ls[i]⟩
theorem LstO.shift {H0 H : Heap} {c : CV} {ls : List (List Int)} (h : LstO H c ls) : LstO (H0 ++ shiftH H0.length H) (shiftC H0.length c) ls := by
  obtain ⟨oid, og, cs, rfl, k1, k2, k3⟩ := h
  refine ⟨oid + H0.length, og, cs.map (shiftC H0.length), rfl, look_shiftH k1, by rw [List.length_map]; exact k2, fun i hi => ?_⟩
  obtain ⟨id, g, q1, q2⟩ := k3 i hi
  refine ⟨id + H0.length, g, by rw [List.getElem?_map, q1]; rfl, ?_⟩
  rw [look_shiftH q2]
  simp only [shiftB, shift_cl]
section
variable {P : Program} {o : Oper} {st : St} {K : KV} {fo : Operand} {xs : Array Operand} {ts : Array TypeId} {f : FuncId} {args : List AV}
end
def smD (p : Puz) : Prop := p.given.length ≤ 16 ∧ ruleSm p.rules 30 5
theorem smD.sm {p : Puz} (h : smD p) : smP p := ⟨by have := h.1; omega, by have := h.2.1; omega, fun r hr => by have := h.2.2 r hr; omega⟩
structure TrI (H HI : Heap) (id g : Nat) (B : Int) (g4 J g6 : Nat) (p : Puz) (c : CV) (zs : List Int) : Prop where
  out : look HI H.length g4 = some ⟨g4, 3, [.f (.int .i64 0), .f .nil, .f .nil]⟩
  puz : look HI J g6 = some ⟨g6, 3, cP p⟩
  grid : ∃ gid gg, c = .own gid gg 0 zs.length none ∧ look HI gid gg = some ⟨gg, 1, cl (eI .i64) zs⟩ ∧ H.length < gid ∧ gid ≠ J
  rd : RdAt HI id g B
  lt : id < H.length
  ln : H.length < J ∧ J < HI.length
  frm : ∀ k, k < H.length → k ≠ id → HI[k]? = H[k]?
section
variable {H HI H2 : Heap} {id g g4 J g6 : Nat} {B B' : Int} {p : Puz} {c : CV} {zs : List Int}
theorem TrI.mono (h : TrI H HI id g B g4 J g6 p c zs) (hb : B ≤ B') : TrI H HI id g B' g4 J g6 p c zs := { h with rd := h.rd.mono hb }
theorem TrI.step (h : TrI H HI id g B g4 J g6 p c zs) (hs : ∀ i, H.length ≤ i → i < HI.length → H2[i]? = HI[i]?) (hl : HI.length ≤ H2.length) (hr : RdAt H2 id g B') (hf : ∀ k, k < H.length → k ≠ id → H2[k]? = HI[k]?) : TrI H H2 id g B' g4 J g6 p c zs := by
  have hn := h.ln
  have hL : ∀ i g, H.length ≤ i → i < HI.length → look H2 i g = look HI i g := fun i g h1 h2 => by unfold look; rw [hs i h1 h2]
  obtain ⟨gid, gg, g1, g2, g3, g4⟩ := h.grid
  have hgl : gid < HI.length := (List.getElem?_eq_some_iff.1 (look_some g2).1).1
  exact { out := by rw [hL _ _ (Nat.le_refl _) (by omega)]; exact h.out
          puz := by rw [hL _ _ (by omega) (by omega)]; exact h.puz
          grid := ⟨gid, gg, g1, by rw [hL _ _ (by omega) hgl]; exact g2, g3, g4⟩
          rd := hr, lt := h.lt, ln := by omega
          frm := fun k hk hne => by rw [hf k hk hne]; exact h.frm k hk hne }
theorem TrI.pick (h : TrI H HI id g B g4 J g6 p c zs) (hr : RdAt H2 id g B') (hf : Frm HI H2 [id]) : TrI H H2 id g B' g4 J g6 p c zs := by
  have hl := h.lt
  exact h.step (fun i hi _ => hf.2 i (by simp; omega)) (by rw [hf.1]; exact Nat.le_refl _) hr fun k hk hne => hf.2 k (by simpa using hne)
theorem TrI.app {X : Heap} (h : TrI H HI id g B g4 J g6 p c zs) : TrI H (HI ++ X) id g B g4 J g6 p c zs := by
  have hn := h.ln
  exact h.step (fun i _ hi => List.getElem?_append_left hi) (by simp) h.rd.app fun k hk _ => List.getElem?_append_left (by omega)
theorem TrI.set (h : TrI H HI id g B g4 J g6 p c zs) {gid gg : Nat} (hc : c = .own gid gg 0 zs.length none) (k : Nat) (v : Int) : TrI H (HI.set gid (some ⟨gg, 1, cl (eI .i64) (zs.set k v)⟩)) id g B g4 J g6 p c (zs.set k v) := by
  have hn := h.ln
  have hl := h.lt
  obtain ⟨gid', gg', g1, g2, g3, g4⟩ := h.grid
  rw [hc] at g1
  cases g1
  have hgl : gid < HI.length := (List.getElem?_eq_some_iff.1 (look_some g2).1).1
  exact { out := by rw [look_set_ne' (by omega)]; exact h.out
          puz := by rw [look_set_ne' (by omega)]; exact h.puz
          grid := ⟨gid, gg, by rw [hc, List.length_set], look_set_eq' hgl, g3, g4⟩
          rd := h.rd.same (by rw [List.getElem?_set_ne (by omega)])
          lt := hl, ln := by rw [List.length_set]; exact hn
          frm := fun k hk hne => by rw [List.getElem?_set_ne (by omega)]; exact h.frm k hk hne }
end
theorem wf_u8' {xs : List Int} (h : ∀ x ∈ xs, (Lit.int .u8 x).wf = true) : ∀ x ∈ xs, 0 ≤ x ∧ x ≤ 255 := fun x hx => by
  have := h x hx
  simp [Lit.wf] at this
  have e1 : IntKind.u8.min = 0 := by decide
  have e2 : IntKind.u8.max = 255 := by decide
  omega
theorem RdAt.shift {H0 H : Heap} {id g : Nat} {B : Int} (h : RdAt H id g B) : RdAt (H0 ++ shiftH H0.length H) (id + H0.length) g B := by
  obtain ⟨sz, b, p, h1, h2⟩ := h
  exact ⟨sz, b, p, by rw [look_shiftH h1]; rfl, h2⟩
end Go.Lg

set_option linter.unusedSimpArgs false
set_option linter.unusedVariables false
set_option maxRecDepth 100000
namespace Go.Lg
open Go.Proofs
attribute [-go_sem] appendM lwF_cons
theorem resV_ctt (P : Program) (s : List AV) (H : Heap) (t u w : Nat) (ty : TypeId) : resV P s H [.cell t ty, .tmp u, .tmp w] = (loadV P H ty (s.getD t .void)).map fun v => .tup [v, s.getD u .void, s.getD w .void] := by
  simp only [resV, resAll, resOne]
  cases loadV P H ty (s.getD t .void) <;> rfl
attribute [go_sem] resV_ctt
theorem aliveF_run : Reads Try.prog 20 [] (bool true) := by
  refine RunCall.cw (c := _) Try.func20 rfl (n := 4) Try.ntmps20 (rs := [.tmp 0]) rfl ?_
  simp only [List.length_cons, List.length_nil, Nat.reduceAdd, Nat.reduceSub, List.replicate, List.cons_append, List.nil_append]
  simp (maxSteps := 1000000) (disch := omega) only [go_sem, Nat.reduceAdd, Nat.reduceMul, Nat.reduceSub, Nat.reduceEqDiff, Nat.reduceLeDiff]
  intro g
  have hown : OwnI [some ⟨g, 1, [.f (.int .i64 1), .f (.int .i64 0), .f (.int .i64 0), .f (.int .i64 2)]⟩] (.own 0 g 0 4 none) [1, 0, 0, 2] [0] := OwnI.o 0 g none [1, 0, 0, 2] [] (by rw [look_zero]; rfl)
  refine OpS.rdD (GridFilled_run [1, 0, 0, 2] 2 (by simp)) (⟨_, Try.func70, rfl, rfl⟩ : Enters Try.prog 70) rfl rfl (snap_two hown.snap snapD_int) rfl ?_
  have e : gridFilled [1, 0, 0, 2] 2 = 2 := by decide
  rw [e]
  simp (maxSteps := 1000000) (disch := omega) only [go_sem, Nat.reduceAdd, Nat.reduceMul, Nat.reduceSub, Nat.reduceEqDiff, Nat.reduceLeDiff]
theorem sameIntsF_run (xs ys : List Int) (hx : xs.length ≤ 2 ^ 40) : Reads Try.prog 18 [ints xs, ints ys] (bool (decide (xs = ys))) := by
  refine RunCall.cw (c := _) Try.func18 rfl (n := 26) Try.ntmps18 (rs := [.tmp 4]) rfl ?_
  simp only [List.length_cons, List.length_nil, Nat.reduceAdd, Nat.reduceSub, List.replicate, List.cons_append, List.nil_append]
  simp (maxSteps := 1000000) (disch := omega) only [go_sem, Nat.reduceAdd, Nat.reduceMul, Nat.reduceSub, Nat.reduceEqDiff, Nat.reduceLeDiff]
  (first | with_reducible refine condK_dec (fun h => ?_) (fun h => ?_) | with_reducible refine condK_ndec (fun h => ?_) (fun h => ?_) | with_reducible refine condK_nb (fun h => ?_) (fun h => ?_) | refine condK_b (fun h => ?_) (fun h => ?_))
  rotate_left
  · simp (maxSteps := 1000000) (disch := omega) only [go_sem, Nat.reduceAdd, Nat.reduceMul, Nat.reduceSub, Nat.reduceEqDiff, Nat.reduceLeDiff]
    rw [eq_comm, decide_eq_false_iff_not]
    intro h2
    exact h (by rw [h2])
  have hl : xs.length = ys.length := by omega
  simp (maxSteps := 1000000) (disch := omega) only [go_sem, Nat.reduceAdd, Nat.reduceMul, Nat.reduceSub, Nat.reduceEqDiff, Nat.reduceLeDiff]
  refine loop_rule (fun i : Nat => xs.length - i) (fun i => i ≤ xs.length ∧ ∀ j : Nat, j < i → nth xs j = nth ys j) (fun i => [.k, .k, .a, .a, .a, .p (int i), .a, .a, .a, .a, .a, .a, .a, .a, .a, .a, .a, .a, .a, .a, .a, .a, .a, .a, .a, .a]) (fun i => []) 0
    ⟨Nat.zero_le _, fun j hj => absurd hj (Nat.not_lt_zero _)⟩ (by simp (maxSteps := 1000000) (disch := omega) only [go_sem, Nat.reduceAdd, Nat.reduceMul, Nat.reduceSub, Nat.reduceEqDiff, Nat.reduceLeDiff]; rfl) (hle_nil _) ?_
  rintro i ⟨hi, hall⟩
  simp (maxSteps := 1000000) (disch := omega) only [go_sem, Nat.reduceAdd, Nat.reduceMul, Nat.reduceSub, Nat.reduceEqDiff, Nat.reduceLeDiff]
  (first | with_reducible refine condK_dec (fun h => ?_) (fun h => ?_) | with_reducible refine condK_ndec (fun h => ?_) (fun h => ?_) | with_reducible refine condK_nb (fun h => ?_) (fun h => ?_) | refine condK_b (fun h => ?_) (fun h => ?_))
  · have h : i < xs.length := by omega
    simp (maxSteps := 1000000) (disch := omega) only [go_sem, Nat.reduceAdd, Nat.reduceMul, Nat.reduceSub, Nat.reduceEqDiff, Nat.reduceLeDiff]
    refine drawP_q foll (by kernel_rfl) ?_
    simp (maxSteps := 1000000) (disch := omega) only [go_sem, Nat.reduceBEq, Bool.true_or, Nat.reduceAdd, Nat.reduceMul, Nat.reduceSub, Nat.reduceEqDiff, Nat.reduceLeDiff]
    (first | with_reducible refine condK_dec (fun h2 => ?_) (fun h2 => ?_) | with_reducible refine condK_ndec (fun h2 => ?_) (fun h2 => ?_) | with_reducible refine condK_nb (fun h2 => ?_) (fun h2 => ?_) | refine condK_b (fun h2 => ?_) (fun h2 => ?_))
    · simp (maxSteps := 1000000) (disch := omega) only [go_sem, Nat.reduceAdd, Nat.reduceMul, Nat.reduceSub, Nat.reduceEqDiff, Nat.reduceLeDiff]
      refine ⟨i + 1, ⟨⟨by omega, fun j hj => ?_⟩, by omega⟩, by push_cast; omega, hle_nil _⟩
      rcases Nat.lt_succ_iff_lt_or_eq.1 hj with hj | rfl
      · exact hall j hj
      · exact h2
    · simp (maxSteps := 1000000) (disch := omega) only [go_sem, Nat.reduceAdd, Nat.reduceMul, Nat.reduceSub, Nat.reduceEqDiff, Nat.reduceLeDiff]
      rw [eq_comm, decide_eq_false_iff_not]
      intro h3
      exact h2 (by rw [h3])
  · simp (maxSteps := 1000000) (disch := omega) only [go_sem, Nat.reduceAdd, Nat.reduceMul, Nat.reduceSub, Nat.reduceEqDiff, Nat.reduceLeDiff]
    rw [decide_eq_true (ext_nth hl fun j hj => hall j (by omega))]
end Go.Lg

set_option linter.unusedSimpArgs false
set_option linter.unusedVariables false
set_option maxRecDepth 100000
namespace Go.Lg
open Go.Proofs
attribute [-go_sem] lwF_cons
theorem softW_parts {P : Program} {ops : Array Oper} {o : Oper} {s : List AV} {K : AV → Prop} {t : TypeId} {n : Nat} {ps : Array (Nat × Operand)} {ei : TI} {rs : List (Nat × List CV)} {xs : List FV} (ho : o.op = .buildSlice t n ps) (hn : n ≠ 0) (ht : sliceOf P t = some ei)
    (hp : partsV s ps.toList = some rs) (hq : seqOk ei.size 0 rs = true ∧ rs.length = n) (hc : icedL (catL rs) = some xs) (hz : ei.zero.length = ei.size ∧ n * ei.size ≤ 16777216) (hk : K (.c (.f (.sl n xs)))) : softW P ops o s K := by
  unfold softW
  rw [ho]
  simp only
  rw [if_neg (fun h => hn h.1)]
  unfold softBuild
  simp only [ht, hp, hc]
  rw [if_pos hq]
  exact ⟨hz, hk⟩
theorem mask_rep : ∀ (n : Nat) (H : Heap), H.length ≤ n → ∀ (i : Nat) (b : Blk), (mask (List.replicate n true) H)[i]? ≠ some (some b)
  | 0, H, h, i, b => by
    have : H = [] := List.eq_nil_of_length_eq_zero (by omega)
    subst this
    simp [mask]
  | n + 1, [], h, i, b => by simp [mask, List.replicate_succ]
  | n + 1, x :: H, h, i, b => by
    rw [List.replicate_succ]
    cases i with
    | zero => simp [mask]
    | succ i =>
      simp only [mask, List.getElem?_cons_succ]
      exact mask_rep n H (by simpa using h) i b
theorem okM_rep (H H' : Heap) : okM (List.replicate H.length true) H H' := fun i b h => absurd h (mask_rep _ H (Nat.le_refl _) i b)
end Go.Lg
