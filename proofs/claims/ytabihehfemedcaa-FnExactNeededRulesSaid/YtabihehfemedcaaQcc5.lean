/- GpGD, GpGE, GpJA, cut to what is needed. -/
import Derived.Test.YtabihehfemedcaaQcc4
import Derived.Test.YtabihehfemedcaaQcb4
import Derived.Test.YtabihehfemedcaaQcb2
set_option linter.unusedSimpArgs false
set_option linter.unusedVariables false
set_option maxRecDepth 100000
namespace Go.Lg
open Go.Proofs
attribute [-go_sem] appendM lwF_cons
theorem look_off (H L : Heap) (n g : Nat) : look (H ++ L) (H.length + n) g = look L n g := by
  unfold look
  rw [List.getElem?_append_right (by omega), Nat.add_sub_cancel_left]
theorem look_off0 (H L : Heap) (g : Nat) : look (H ++ L) H.length g = look L 0 g := look_off H L 0 g
theorem set_off (H L : Heap) (n : Nat) (x : Option Blk) : (H ++ L).set (H.length + n) x = H ++ L.set n x := by
  rw [List.set_append_right _ _ (by omega), Nat.add_sub_cancel_left]
theorem set_off0 (H L : Heap) (x : Option Blk) : (H ++ L).set H.length x = H ++ L.set 0 x := set_off H L 0 x
theorem appendM_own {α : Type} {E : α → List FV} {n : Nat} [HSz E n] {P : Program} {H : Heap} {t : TypeId} {ei : TI} {K : KV} (ht : sliceOf P t = some ei) (hz : ei.zero.length = ei.size ∧ ei.size = n ∧ 0 < n ∧ ei.bytes ≤ 64) {id g k : Nat} {xs ys : List α} (hxk : xs.length = k) (hl : look H id g = some ⟨g, n, cl E xs⟩) (hx : xs.length ≤ 2 ^ 40 ∧ ys.length ≤ 2 ^ 40)
    {src : AV} (hel : elems H n src = some (ys.length, cl E ys)) (hk : ∀ g', K (.c (.own id g' 0 (k + ys.length) none)) (H.set id (some ⟨g', n, cl E (xs ++ ys)⟩))) : appendM P H t (.c (.own id g 0 k none)) src K := by
  subst hxk
  obtain ⟨hz1, rfl, hz3, hz4⟩ := hz
  have hcl : (cl E xs).length = xs.length * ei.size := cl_length xs
  have hel2 : elems H ei.size (.c (.own id g 0 xs.length none)) = some (xs.length, cl E xs) := by
    simp only [elems, hl, List.drop_zero, if_true, List.take_of_length_le (Nat.le_of_eq hcl)]
  have hb : (xs.length + ys.length) * ei.bytes ≤ 140737488355328 := by
    have : (xs.length + ys.length) * ei.bytes ≤ (xs.length + ys.length) * 64 := Nat.mul_le_mul_left _ hz4
    omega
  unfold appendM
  simp only [ht, hz1, if_true, hel, hel2]
  simp only [appM, hl, hcl, if_true, okP]
  split
  · rename_i h0
    have : ys = [] := List.eq_nil_of_length_eq_zero h0
    subst this
    have h1 := hk g
    rw [List.append_nil] at h1
    have h2 : H.set id (some ⟨g, ei.size, cl E xs⟩) = H := by
      obtain ⟨q1, _⟩ := look_some hl
      have hlt := (List.getElem?_eq_some_iff.1 q1).1
      refine List.ext_getElem? fun i => ?_
      by_cases hi : i = id
      · subst hi; rw [List.getElem?_set_self hlt, q1]
      · rw [List.getElem?_set_ne (Ne.symm hi)]
    rw [h2] at h1
    exact h1
  refine ⟨⟨trivial, hz3, trivial, by omega, hb⟩, fun g' => ?_⟩
  have := hk g'
  rw [cl_append] at this
  exact this
theorem elems_own {α : Type} {E : α → List FV} {n : Nat} [HSz E n] {H : Heap} {id g : Nat} {lim : Option Nat} {xs : List α} (hl : look H id g = some ⟨g, n, cl E xs⟩) : elems H n (.c (.own id g 0 xs.length lim)) = some (xs.length, cl E xs) := by
  have hcl : (cl E xs).length = xs.length * n := cl_length xs
  simp only [elems, hl, List.drop_zero, if_true, List.take_of_length_le (Nat.le_of_eq hcl)]
theorem resV_ct (P : Program) (s : List AV) (H : Heap) (t u : Nat) (ty : TypeId) : resV P s H [.cell t ty, .tmp u] = (loadV P H ty (s.getD t .void)).map fun v => .tup [v, s.getD u .void] := by
  simp only [resV, resAll, resOne]
  cases loadV P H ty (s.getD t .void) <;> rfl
attribute [go_sem] resV_ct
def oneV (p : Puz) : Bool := decide ((allS p 2).length = 1)
theorem l1OwnRule_rd (r : Rul) (hx : r.cells.length ≤ 2 ^ 40) : Reads Try.prog 129 [aR r] (aR r) := by
  obtain ⟨k, cells, v⟩ := r
  simp only at hx
  refine Reads.iced ?_
  have e1 : ∀ H (x : Int), frzC H (.f (.int .i64 x)) = some (.f (.int .i64 x)) := fun _ _ => rfl
  refine RunCall.cw (c := _) Try.func129 rfl (n := 11) Try.ntmps129 (rs := [.cell 2 29]) rfl ?_
  simp only [List.length_cons, List.length_nil, Nat.reduceAdd, Nat.reduceSub, List.replicate, List.cons_append, List.nil_append]
  simp (maxSteps := 1000000) (disch := omega) only [go_sem, Nat.reduceAdd, Nat.reduceMul, Nat.reduceSub, Nat.reduceEqDiff, Nat.reduceLeDiff]
  intro g1 g2 g3 g4
  refine appendM_own (E := eI .i64) (xs := []) (ys := cells) (sliceOf_of' ti23 rfl ti3) ⟨rfl, rfl, by decide, by decide⟩ rfl (look_of (b := ⟨g4, 1, cl (eI .i64) []⟩) rfl) ⟨by simp, hx⟩ elems_f ?_
  intro g5
  rw [List.length_nil, Nat.zero_add, List.nil_append]
  simp (maxSteps := 1000000) (disch := omega) only [go_sem, Nat.reduceAdd, Nat.reduceMul, Nat.reduceSub, Nat.reduceEqDiff, Nat.reduceLeDiff]
  have hown : ∀ H, look H 3 g5 = some ⟨g5, 1, cl (eI .i64) cells⟩ → frzC H (.own 3 g5 0 cells.length none) = some (.f (fints cells)) := fun H h => (OwnI.o (H := H) 3 g5 none cells [] (by rw [List.append_nil]; exact h)).frzC
  refine lessQ_ice ?_
  show (([_, _, _] : List CV).mapM (frzC _)).map AV.agg = _
  have hown := hown [some ⟨g1, 1, cR ⟨k, cells, v⟩⟩, some ⟨g2, 3, [.f (.int .i64 k), .own 3 g5 0 cells.length none, .f (.int .i64 v)]⟩, some ⟨g3, 3, [.f (.int .i64 k), .own 3 g5 0 cells.length none, .f (.int .i64 v)]⟩, some ⟨g5, 1, cl (eI .i64) cells⟩] (look_of (b := ⟨g5, 1, cl (eI .i64) cells⟩) rfl)
  simp only [List.mapM_cons, List.mapM_nil, e1, hown, Option.bind_eq_bind, Option.pure_def, Option.bind_some, Option.map_some]
def PzO (H : Heap) (n0 : Nat) (z : Int) (gc rc : CV) (zs : List Int) (rs : List Rul) : Prop := ∃ gid gg, gc = .own gid gg 0 zs.length none ∧ look H gid gg = some ⟨gg, 1, cl (eI .i64) zs⟩ ∧ n0 ≤ gid ∧ OwnL eR 3 H rc rs ∧ (∀ i, idsC rc i → n0 ≤ i ∧ i ≠ gid)
theorem PzO.snap {H : Heap} {n0 : Nat} {z : Int} {gc rc : CV} {zs : List Int} {rs : List Rul} (h : PzO H n0 z gc rc zs rs) : snapD H (.agg [.f (.int .i64 z), gc, rc]) = some (aP ⟨z, zs, rs⟩) := by
  obtain ⟨gid, gg, rfl, h1, _, h2, _⟩ := h
  have e1 : ∀ x : Int, frzC H (.f (.int .i64 x)) = some (.f (.int .i64 x)) := fun _ => rfl
  have e2 := (OwnI.o (H := H) gid gg none zs [] (by rw [List.append_nil]; exact h1)).frzC
  simp only [snapD, List.mapM_cons, List.mapM_nil, e1, e2, h2.frzC, Option.bind_eq_bind, Option.pure_def, Option.bind_some, Option.map_some]
theorem PzO.same {H H' : Heap} {n0 : Nat} {z : Int} {gc rc : CV} {zs : List Int} {rs : List Rul} (h : PzO H n0 z gc rc zs rs) (hs : ∀ i, n0 ≤ i → (idsC gc i ∨ idsC rc i) → i < H.length → H'[i]? = H[i]?) : PzO H' n0 z gc rc zs rs := by
  obtain ⟨gid, gg, rfl, h1, h2, h3, h4⟩ := h
  exact ⟨gid, gg, rfl, by unfold look at *; rw [hs gid h2 (.inl rfl) (List.getElem?_eq_some_iff.1 (look_some h1).1).1]; exact h1, h2, h3.same fun i hi hl => hs i (h4 i hi).1 (.inr hi) hl, h4⟩
theorem PzO.n0 {H : Heap} {n0 n1 : Nat} {z : Int} {gc rc : CV} {zs : List Int} {rs : List Rul} (h : PzO H n0 z gc rc zs rs) (hn : n1 ≤ n0) : PzO H n1 z gc rc zs rs := by
  obtain ⟨gid, gg, rfl, h1, h2, h3, h4⟩ := h
  exact ⟨gid, gg, rfl, h1, by omega, h3, fun i hi => ⟨by have := (h4 i hi).1; omega, (h4 i hi).2⟩⟩
end Go.Lg

set_option linter.unusedSimpArgs false
set_option linter.unusedVariables false
set_option maxRecDepth 100000
namespace Go.Lg
open Go.Proofs
attribute [-go_sem] appendM lwF_cons
structure PzI (H HI : Heap) (id g : Nat) (B : Int) (R n g4 cid cg J g7 : Nat) : Prop where
  out : look HI H.length g4 = some ⟨g4, 3, [.f (.int .i64 0), .f .nil, .f .nil]⟩
  grid : ∃ zs : List Int, look HI cid cg = some ⟨cg, 1, cl (eI .i64) zs⟩ ∧ n * n ≤ zs.length
  ex : ∃ z gc rc zs rs, look HI J g7 = some ⟨g7, 3, [.f (.int .i64 z), gc, rc]⟩ ∧ PzO HI (H.length + 1) z gc rc zs rs ∧ ¬ idsC gc J ∧ ¬ idsC rc J ∧ ¬ idsC gc cid ∧ ¬ idsC rc cid ∧ zs.length = n * n ∧ ruleSm rs R 5
  rd : RdAt HI id g B
  lt : id < H.length
  ln : H.length < cid ∧ cid < HI.length ∧ H.length < J ∧ J < HI.length ∧ cid ≠ J
  frm : ∀ k, k < H.length → k ≠ id → HI[k]? = H[k]?
section
variable {H HI H2 : Heap} {id g R R' n g4 cid cg J g7 : Nat} {B B' : Int}
theorem PzI.mono (h : PzI H HI id g B R n g4 cid cg J g7) (hb : B ≤ B') : PzI H HI id g B' R n g4 cid cg J g7 := { h with rd := h.rd.mono hb }
theorem PzI.step (h : PzI H HI id g B R n g4 cid cg J g7) (hs : ∀ i, H.length ≤ i → i < HI.length → H2[i]? = HI[i]?) (hl : HI.length ≤ H2.length) (hr : RdAt H2 id g B') (hf : ∀ k, k < H.length → k ≠ id → H2[k]? = HI[k]?) : PzI H H2 id g B' R n g4 cid cg J g7 := by
  have hn := h.ln
  have hL : ∀ i g, H.length ≤ i → i < HI.length → look H2 i g = look HI i g := fun i g h1 h2 => by unfold look; rw [hs i h1 h2]
  obtain ⟨ys, g1, g2⟩ := h.grid
  obtain ⟨z, gc, rc, zs, rs, h1, h2, h3⟩ := h.ex
  exact { out := by rw [hL _ _ (Nat.le_refl _) (by omega)]; exact h.out
          grid := ⟨ys, by rw [hL _ _ (by omega) (by omega)]; exact g1, g2⟩
          ex := ⟨z, gc, rc, zs, rs, by rw [hL _ _ (by omega) (by omega)]; exact h1, h2.same fun i hi _ hl => hs i (by omega) hl, h3⟩
          rd := hr, lt := h.lt, ln := by omega
          frm := fun k hk hne => by rw [hf k hk hne]; exact h.frm k hk hne }
theorem PzI.pick (h : PzI H HI id g B R n g4 cid cg J g7) (hr : RdAt H2 id g B') (hf : Frm HI H2 [id]) : PzI H H2 id g B' R n g4 cid cg J g7 := by
  have hl := h.lt
  exact h.step (fun i hi _ => hf.2 i (by simp; omega)) (by rw [hf.1]; exact Nat.le_refl _) hr fun k hk hne => hf.2 k (by simpa using hne)
theorem PzI.app {X : Heap} (h : PzI H HI id g B R n g4 cid cg J g7) : PzI H (HI ++ X) id g B R n g4 cid cg J g7 := by
  have hn := h.ln
  exact h.step (fun i _ hi => List.getElem?_append_left hi) (by simp) h.rd.app fun k hk _ => List.getElem?_append_left (by omega)
end
theorem PzI.put {H HI H6 : Heap} {id g R n g4 cid cg J g7 R' : Nat} {B B' z : Int} {gc rc : CV} {zs : List Int} {rs : List Rul} (h : PzI H HI id g B R n g4 cid cg J g7)
    (w2 : PzO H6 HI.length z gc rc zs rs) (w7 : zs.length = n * n)
    (hs : ∀ i, H.length ≤ i → i < HI.length → H6[i]? = HI[i]?) (hlow : ∀ k, k < H.length → k ≠ id → H6[k]? = HI[k]?) (hrd : RdAt H6 id g B') (hl : HI.length ≤ H6.length) (hsm : ruleSm rs R' 5) :
    PzI H (H6.set J (some ⟨g7, 3, [.f (.int .i64 z), gc, rc]⟩)) id g B' R' n g4 cid cg J g7 := by
  have hln := h.ln
  have hlt := h.lt
  have hS : ∀ i g, H.length ≤ i → i < HI.length → i ≠ J → look (H6.set J (some ⟨g7, 3, [.f (.int .i64 z), gc, rc]⟩)) i g = look HI i g := fun i g a b d => by
    unfold look
    rw [List.getElem?_set_ne (Ne.symm d), hs i a b]
  obtain ⟨gz, gz1, gz2⟩ := h.grid
  have hno : ∀ i, i < HI.length → ¬ idsC gc i ∧ ¬ idsC rc i := fun i hi => by
    obtain ⟨gid, gg, rfl, p1, p2, p3, p4⟩ := w2
    exact ⟨fun hh => by simp only [idsC] at hh; omega, fun hh => by have := (p4 i hh).1; omega⟩
  exact { out := by rw [hS _ _ (Nat.le_refl _) (by omega) (by omega)]; exact h.out
          grid := ⟨gz, by rw [hS _ _ (by omega) (by omega) (by omega)]; exact gz1, gz2⟩
          ex := ⟨z, gc, rc, zs, rs, look_set_eq' (by omega), (w2.same fun i hi _ _ => by rw [List.getElem?_set_ne (by omega)]).n0 (by omega), (hno _ (by omega)).1, (hno _ (by omega)).2, (hno _ (by omega)).1, (hno _ (by omega)).2, w7, hsm⟩
          rd := hrd.same (by rw [List.getElem?_set_ne (by omega)])
          lt := hlt
          ln := by rw [List.length_set]; omega
          frm := fun k hk hne => by rw [List.getElem?_set_ne (by omega), hlow k hk hne]; exact h.frm k hk hne }
theorem PzI.giv {H HI : Heap} {id g R n g4 cid cg J g7 gid gg : Nat} {B z : Int} {rc : CV} {zs : List Int} {rs : List Rul} (h : PzI H HI id g B R n g4 cid cg J g7)
    (w1 : look HI J g7 = some ⟨g7, 3, [.f (.int .i64 z), .own gid gg 0 zs.length none, rc]⟩) (w2 : PzO HI (H.length + 1) z (.own gid gg 0 zs.length none) rc zs rs) (w3 : ¬ idsC (.own gid gg 0 zs.length none) J) (w4 : ¬ idsC rc J) (w5 : ¬ idsC (.own gid gg 0 zs.length none) cid) (w6 : ¬ idsC rc cid) (w7 : zs.length = n * n) (w8 : ruleSm rs R 5) (k : Nat) (v : Int) :
    PzI H (HI.set gid (some ⟨gg, 1, cl (eI .i64) (zs.set k v)⟩)) id g B R n g4 cid cg J g7 := by
  have hln := h.ln
  have hlt := h.lt
  obtain ⟨gid', gg', he, p1, p2, p3, p4⟩ := w2
  cases he
  have hgl : gid < HI.length := (List.getElem?_eq_some_iff.1 (look_some p1).1).1
  simp only [idsC] at w3 w5
  have hS : ∀ i g, i ≠ gid → look (HI.set gid (some ⟨gg, 1, cl (eI .i64) (zs.set k v)⟩)) i g = look HI i g := fun i g d => look_set_ne' (Ne.symm d)
  obtain ⟨gz, gz1, gz2⟩ := h.grid
  exact { out := by rw [hS _ _ (by omega)]; exact h.out
          grid := ⟨gz, by rw [hS _ _ (by omega)]; exact gz1, gz2⟩
          ex := ⟨z, _, rc, zs.set k v, rs, by rw [hS _ _ (by omega)]; exact w1, ⟨gid, gg, by rw [List.length_set], look_set_eq' hgl, p2, p3.same fun i hi _ => by rw [List.getElem?_set_ne (Ne.symm (p4 i hi).2)], p4⟩, fun hh => by simp only [idsC] at hh; omega, w4, fun hh => by simp only [idsC] at hh; omega, w6, by rw [List.length_set]; exact w7, w8⟩
          rd := h.rd.same (by rw [List.getElem?_set_ne (by omega)])
          lt := hlt
          ln := by rw [List.length_set]; omega
          frm := fun k hk hne => by rw [List.getElem?_set_ne (by omega)]; exact h.frm k hk hne }
structure PzF (H HI : Heap) (id g : Nat) (B : Int) (g4 J g7 : Nat) : Prop where
  out : look HI H.length g4 = some ⟨g4, 3, [.f (.int .i64 0), .f .nil, .f .nil]⟩
  ex : ∃ z gc rc zs rs, look HI J g7 = some ⟨g7, 3, [.f (.int .i64 z), gc, rc]⟩ ∧ (∀ H' : Heap, (∀ i, H.length < i → i < HI.length → H'[i]? = HI[i]?) → frzS (tailS H.length) H' 6 gc = some (fints zs) ∧ frzS (tailS H.length) H' 6 rc = some (fsl eR rs)) ∧ zs.length ≤ 16 ∧ ruleSm rs 30 5
  rd : RdAt HI id g B
  lt : id < H.length
  ln : H.length < J ∧ J < HI.length
  frm : ∀ k, k < H.length → k ≠ id → HI[k]? = H[k]?
theorem frz_own {H H' HI : Heap} {gid gg : Nat} {zs : List Int} (p1 : look HI gid gg = some ⟨gg, 1, cl (eI .i64) zs⟩) (h0 : H.length < gid) (hs : ∀ i, H.length < i → i < HI.length → H'[i]? = HI[i]?) {off k : Nat} (hk : off + k ≤ zs.length) : frzS (tailS H.length) H' 6 (.own gid gg off k none) = some (fints ((zs.drop off).take k)) :=
  frzS_view (by unfold look at p1 ⊢; rw [hs gid h0 (List.getElem?_eq_some_iff.1 (look_some p1).1).1]; exact p1) (by simp [tailS]; omega) hk 5
theorem frz_ownL {H H' HI : Heap} {rc : CV} {rs : List Rul} (p3 : OwnL eR 3 HI rc rs) (h0 : ∀ i, idsC rc i → H.length < i) (hs : ∀ i, H.length < i → i < HI.length → H'[i]? = HI[i]?) : frzS (tailS H.length) H' 6 rc = some (fsl eR rs) :=
  (p3.same fun i hi hl => hs i (h0 i hi) hl).frzS (fun i hi => by have := h0 i hi; simp [tailS]; omega) 5
theorem PzI.fin {H HI : Heap} {id g R n g4 cid cg J g7 : Nat} {B B' : Int} (h : PzI H HI id g B R n g4 cid cg J g7) (hn : n * n ≤ 16) (hR : R ≤ 30) (hb : B ≤ B') : PzF H HI id g B' g4 J g7 := by
  obtain ⟨z, gc, rc, zs, rs, w1, ⟨gid, gg, rfl, p1, p2, p3, p4⟩, w3, w4, w5, w6, w7, w8, w9⟩ := h.ex
  have hln := h.ln
  exact { out := h.out
          ex := ⟨z, _, rc, zs, rs, w1, fun H' hs => ⟨by have := frz_own p1 (by omega) hs (off := 0) (k := zs.length) (by omega); rwa [List.drop_zero, List.take_length] at this, frz_ownL p3 (fun i hi => by have := (p4 i hi).1; omega) hs⟩, by omega, by omega, w9⟩
          rd := h.rd.mono hb, lt := h.lt, ln := by omega, frm := h.frm }
end Go.Lg

set_option linter.unusedSimpArgs false
set_option linter.unusedVariables false
set_option maxRecDepth 100000
namespace Go.Lg
open Go.Proofs
attribute [-go_sem] appendM lwF_cons
def wiR (p : Puz) (rs : List Rul) : Puz := ⟨p.size, p.given, rs⟩
def needL (p : Puz) : Nat → Nat → List Rul → List Rul
  | 0, _, rs => rs
  | f + 1, i, rs => if oneV (wiR p (rs.eraseIdx i)) = true then needL p f i (rs.eraseIdx i) else needL p f (i + 1) rs
def needOk (p : Puz) : Bool := puzzleValid p && oneV p
def needV (p : Puz) : List Rul := if needOk p = true then needL p p.rules.length 0 p.rules else []
theorem erase_take {rs : List Rul} {i : Nat} : rs.eraseIdx i = rs.take i ++ rs.drop (i + 1) := List.eraseIdx_eq_take_drop_succ ..
theorem smRs_erase {rs : List Rul} {i : Nat} (h : smRs rs) : smRs (rs.eraseIdx i) := ⟨Nat.le_trans (List.length_eraseIdx_le ..) h.1, fun r hr => h.2 r (List.mem_of_mem_eraseIdx hr)⟩
theorem sliceR_pre {P : Program} {H : Heap} {t e : TypeId} {ti ei : TI} {id g k : Nat} {rs : List Rul} (ht : tinf P t = some ti) (hk : ti.k = .slice e) (he : tinf P e = some ei) (hs : ei.size = 3) (hl : look H id g = some ⟨g, 3, cl eR rs⟩) (hn : k ≤ rs.length) :
    sliceV P H t (.c (.own id g 0 rs.length none)) none (some k) none = some (.c (.own id g 0 k none)) := by
  have hrl : (cl eR rs).length = rs.length * 3 := cl_length rs
  simp only [sliceV, ht, hk, he, hl, Option.getD_none, Option.getD_some, hs, hrl]
  rw [if_pos ⟨by omega, by omega, by omega, by simp, trivial, by omega, by omega⟩]
  simp
theorem sliceR_suf {P : Program} {H : Heap} {t e : TypeId} {ti ei : TI} {id g k : Nat} {rs : List Rul} (ht : tinf P t = some ti) (hk : ti.k = .slice e) (he : tinf P e = some ei) (hs : ei.size = 3) (hl : look H id g = some ⟨g, 3, cl eR rs⟩) (hn : k ≤ rs.length) :
    sliceV P H t (.c (.own id g 0 rs.length none)) (some k) none none = some (.c (.own id g (k * 3) (rs.length - k) none)) := by
  have hrl : (cl eR rs).length = rs.length * 3 := cl_length rs
  simp only [sliceV, ht, hk, he, hl, Option.getD_none, Option.getD_some, hs, hrl]
  rw [if_pos ⟨by omega, by omega, by omega, by simp, trivial, by omega, by omega⟩]
  simp
theorem cl_split (rs : List Rul) (k : Nat) (hk : k ≤ rs.length) : (cl eR rs).take (k * 3) = cl eR (rs.take k) ∧ (cl eR rs).drop (k * 3) = cl eR (rs.drop k) := by
  have h1 : (cl eR (rs.take k)).length = k * 3 := by
    have : (cl eR (rs.take k)).length = (rs.take k).length * 3 := cl_length _
    rw [this, List.length_take, Nat.min_eq_left hk]
  have h2 : cl eR rs = cl eR (rs.take k) ++ cl eR (rs.drop k) := by rw [← cl_append, List.take_append_drop]
  rw [h2]
  exact ⟨by rw [← h1, List.take_left], by rw [← h1, List.drop_left]⟩
theorem elemsR_pre {H : Heap} {id g k : Nat} {rs : List Rul} (h : look H id g = some ⟨g, 3, cl eR rs⟩) (hk : k ≤ rs.length) : elems H 3 (.c (.own id g 0 k none)) = some (k, cl eR (rs.take k)) := by
  simp only [elems, h, if_true, List.drop_zero, (cl_split rs k hk).1]
theorem elemsR_suf {H : Heap} {id g k : Nat} {rs : List Rul} (h : look H id g = some ⟨g, 3, cl eR rs⟩) (hk : k ≤ rs.length) : elems H 3 (.c (.own id g (k * 3) (rs.length - k) none)) = some (rs.length - k, cl eR (rs.drop k)) := by
  have e : (cl eR (rs.drop k)).length = (rs.length - k) * 3 := by
    have : (cl eR (rs.drop k)).length = (rs.drop k).length * 3 := cl_length _
    rw [this, List.length_drop]
  simp only [elems, h, if_true, (cl_split rs k hk).2, List.take_of_length_le (Nat.le_of_eq e)]
theorem snapP1 {H : Heap} {z : Int} {zs : List Int} {rc : CV} {rs : List Rul} (h : OwnL eR 3 H rc rs) : [AV.agg [.f (.int .i64 z), .f (fints zs), rc]].mapM (snapD H) = some [aP ⟨z, zs, rs⟩] := by
  have e1 : ∀ x : Int, frzC H (.f (.int .i64 x)) = some (.f (.int .i64 x)) := fun _ => rfl
  have e2 : frzC H (.f (fints zs)) = some (.f (fints zs)) := rfl
  simp only [snapD, List.mapM_cons, List.mapM_nil, e1, e2, h.frzC, Option.bind_eq_bind, Option.pure_def, Option.bind_some, Option.map_some]
theorem needL_step {p : Puz} {i : Nat} {rs : List Rul} (h : i < rs.length) : needL p (rs.length - i) i rs = if oneV (wiR p (rs.eraseIdx i)) = true then needL p ((rs.eraseIdx i).length - i) i (rs.eraseIdx i) else needL p (rs.length - (i + 1)) (i + 1) rs := by
  obtain ⟨f, hf⟩ : ∃ f, rs.length - i = f + 1 := ⟨rs.length - i - 1, by omega⟩
  rw [hf, List.length_eraseIdx, if_pos h, show rs.length - 1 - i = f by omega, show rs.length - (i + 1) = f by omega]
  rfl
theorem l1OwnRuleList_rd (rs : List Rul) (hx : smRs rs) : Reads Try.prog 114 [rsl eR rs] (rsl eR rs) := by
  obtain ⟨hn, hc⟩ := hx
  refine Reads.ice (Q := fun v H' => ∃ g, v = .c (.own 0 g 0 rs.length none) ∧ look H' 0 g = some ⟨g, 3, cl eR rs⟩) ?_ (by rintro v H' ⟨g, rfl, h⟩; exact frzA_own (lim := none) h)
  refine RunCall.cw (c := _) Try.func114 rfl (n := 21) Try.ntmps114 (rs := [.tmp 2]) rfl ?_
  simp only [List.length_cons, List.length_nil, Nat.reduceAdd, Nat.reduceSub, List.replicate, List.cons_append, List.nil_append]
  simp (maxSteps := 1000000) (disch := omega) only [go_sem, Nat.reduceAdd, Nat.reduceMul, Nat.reduceSub, Nat.reduceEqDiff, Nat.reduceLeDiff]
  intro g
  refine loop_rule2 (fun (i g : Nat) => rs.length - i) (fun i g => i ≤ rs.length) (fun i g => [.k, .a, .a, .p (.c (.own 0 g 0 i none)), .p (int i), .a, .a, .a, .a, .a, .a, .a, .a, .a, .a, .a, .a, .a, .a, .a, .a]) (fun i g => [some ⟨g, 3, cl eR (rs.take i)⟩]) 0 g
    (Nat.zero_le _) (by simp (maxSteps := 1000000) (disch := omega) only [go_sem, Nat.reduceAdd, Nat.reduceMul, Nat.reduceSub, Nat.reduceEqDiff, Nat.reduceLeDiff]; rfl) (HLe.refl _) ?_
  intro i g hi
  simp (maxSteps := 1000000) (disch := omega) only [go_sem, Nat.reduceAdd, Nat.reduceMul, Nat.reduceSub, Nat.reduceEqDiff, Nat.reduceLeDiff]
  (first | with_reducible refine condK_dec (fun h => ?_) (fun h => ?_) | with_reducible refine condK_ndec (fun h => ?_) (fun h => ?_) | with_reducible refine condK_nb (fun h => ?_) (fun h => ?_) | refine condK_b (fun h => ?_) (fun h => ?_))
  · have h : i < rs.length := by omega
    have htl : (rs.take i).length = i := by rw [List.length_take]; omega
    simp (maxSteps := 1000000) (disch := omega) only [go_sem, Nat.reduceAdd, Nat.reduceMul, Nat.reduceSub, Nat.reduceEqDiff, Nat.reduceLeDiff]
    first | refine OpS.mk (l1OwnRule_rd (nth rs i) (hc _ (nth_mem h))) (⟨_, Try.func129, rfl, rfl⟩ : Enters Try.prog 129) rfl rfl rfl rfl rfl ?_ | refine Loud.mk (l1OwnRule_rd (nth rs i) (hc _ (nth_mem h))) (⟨_, Try.func129, rfl, rfl⟩ : Enters Try.prog 129) rfl rfl rfl rfl rfl ?_
    simp (maxSteps := 1000000) (disch := omega) only [go_sem, Nat.reduceAdd, Nat.reduceMul, Nat.reduceSub, Nat.reduceEqDiff, Nat.reduceLeDiff]
    intro g1
    refine appendM_own (E := eR) (xs := rs.take i) (ys := [nth rs i]) (sliceOf_of' ti26 rfl ti29) ⟨rfl, rfl, by decide, by decide⟩ htl look_zero ⟨by omega, by simp⟩ (elems_own (xs := [nth rs i]) (look_of (b := ⟨g1, 3, cl eR [nth rs i]⟩) rfl)) ?_
    intro g2
    simp (maxSteps := 1000000) (disch := omega) only [go_sem, Nat.reduceAdd, Nat.reduceMul, Nat.reduceSub, Nat.reduceEqDiff, Nat.reduceLeDiff]
    refine ⟨i + 1, g2, ⟨by omega, by omega⟩, ⟨⟨rfl, rfl⟩, by push_cast; omega⟩, ?_⟩
    rw [take_succ_nth h]
    exact HLe.app [some ⟨g2, 3, cl eR (rs.take i ++ [nth rs i])⟩] [some ⟨g1, 3, cR (nth rs i)⟩]
  · have hi' : i = rs.length := by omega
    subst hi'
    simp (maxSteps := 1000000) (disch := omega) only [go_sem, Nat.reduceAdd, Nat.reduceMul, Nat.reduceSub, Nat.reduceEqDiff, Nat.reduceLeDiff]
    rw [List.take_length]
    exact ⟨_, HLe.refl _, g, rfl, look_zero⟩
theorem l1OwnPuzzle_rd (p : Puz) (hx : smP p) : Reads Try.prog 90 [aP p] (aP p) := by
  refine Reads.ice (Q := fun v H' => ∃ c, v = .agg [.f (.int .i64 p.size), c, .f (fsl eR p.rules)] ∧ frzC H' c = some (.f (fints p.given))) ?_ ?_
  rotate_left
  · rintro v H' ⟨c, rfl, h1⟩
    have e1 : ∀ x : Int, frzC H' (.f (.int .i64 x)) = some (.f (.int .i64 x)) := fun _ => rfl
    have e2 : frzC H' (.f (fsl eR p.rules)) = some (.f (fsl eR p.rules)) := rfl
    simp only [frzA, frz1, List.mapM_cons, List.mapM_nil, e1, e2, h1, Option.bind_eq_bind, Option.pure_def, Option.bind_some, Option.map_some]
  refine RunCall.cw (c := _) Try.func90 rfl (n := 15) Try.ntmps90 (rs := [.cell 2 37]) rfl ?_
  simp only [List.length_cons, List.length_nil, Nat.reduceAdd, Nat.reduceSub, List.replicate, List.cons_append, List.nil_append]
  simp (maxSteps := 1000000) (disch := omega) only [go_sem, Nat.reduceAdd, Nat.reduceMul, Nat.reduceSub, Nat.reduceEqDiff, Nat.reduceLeDiff]
  intro g1 g2 g3 g4
  refine appendM_own (E := eI .i64) (xs := []) (ys := p.given) (sliceOf_of' ti23 rfl ti3) ⟨rfl, rfl, by decide, by decide⟩ rfl (look_of (b := ⟨g4, 1, cl (eI .i64) []⟩) rfl) ⟨by simp, hx.1⟩ elems_f ?_
  intro g5
  simp (maxSteps := 1000000) (disch := omega) only [go_sem, Nat.reduceAdd, Nat.reduceMul, Nat.reduceSub, Nat.reduceEqDiff, Nat.reduceLeDiff, Nat.zero_add, List.nil_append, List.length_nil]
  first | refine OpS.mk (l1OwnRuleList_rd p.rules hx.2) (⟨_, Try.func114, rfl, rfl⟩ : Enters Try.prog 114) rfl rfl rfl rfl rfl ?_ | refine Loud.mk (l1OwnRuleList_rd p.rules hx.2) (⟨_, Try.func114, rfl, rfl⟩ : Enters Try.prog 114) rfl rfl rfl rfl rfl ?_
  simp (maxSteps := 1000000) (disch := omega) only [go_sem, Nat.reduceAdd, Nat.reduceMul, Nat.reduceSub, Nat.reduceEqDiff, Nat.reduceLeDiff]
  exact ⟨_, HLe.refl _, _, rfl, (OwnI.o 3 g5 none p.given [] (by rw [List.append_nil]; exact look_of (b := ⟨g5, 1, cl (eI .i64) p.given⟩) rfl)).frzC⟩
theorem sNeededRules_run (p : Puz) (hx : smP p) : Reads Try.prog 45 [aP p] (.tup [rsl eR (needV p), bool (needOk p)]) := by
  have hx1 := hx.1
  have hr1 := hx.2.1
  refine Reads.ice (Q := fun v H' => ∃ (id g : Nat), v = .tup [.c (.own id g 0 (needV p).length none), bool (needOk p)] ∧ look H' id g = some ⟨g, 3, cl eR (needV p)⟩) ?_ ?_
  rotate_left
  · rintro v H' ⟨id, g, rfl, h1⟩
    have e1 := frzA_own (lim := none) h1
    simp only [frzA, frz1, Option.map_eq_some_iff] at e1
    obtain ⟨y, e1, e2⟩ := e1
    cases e2
    have e3 : ∀ x, frzC H' (.f (.bool x)) = some (.f (.bool x)) := fun x => rfl
    simp only [frzA, List.mapM_cons, List.mapM_nil, frz1, e1, e3, Option.pure_def, Option.bind_eq_bind, Option.bind_some, Option.map_some]
  have hno : ¬ needOk p = true → needV p = [] := fun h => by unfold needV; rw [if_neg h]
  refine RunCall.cw (c := _) Try.func45 rfl (n := 47) Try.ntmps45 (rs := [.tmp 2, .tmp 3]) rfl ?_
  simp only [List.length_cons, List.length_nil, Nat.reduceAdd, Nat.reduceSub, List.replicate, List.cons_append, List.nil_append]
  simp (maxSteps := 1000000) (disch := omega) only [go_sem, Nat.reduceAdd, Nat.reduceMul, Nat.reduceSub, Nat.reduceEqDiff, Nat.reduceLeDiff]
  intro g1
  first | refine OpS.mk (l1OwnPuzzle_rd p hx) (⟨_, Try.func90, rfl, rfl⟩ : Enters Try.prog 90) rfl rfl rfl rfl rfl ?_ | refine Loud.mk (l1OwnPuzzle_rd p hx) (⟨_, Try.func90, rfl, rfl⟩ : Enters Try.prog 90) rfl rfl rfl rfl rfl ?_
  simp (maxSteps := 1000000) (disch := omega) only [go_sem, Nat.reduceAdd, Nat.reduceMul, Nat.reduceSub, Nat.reduceEqDiff, Nat.reduceLeDiff]
  first | refine OpS.rd (sPuzzleValid_run p hx) (⟨_, Try.func52, rfl, rfl⟩ : Enters Try.prog 52) rfl rfl rfl rfl ?_ | refine Loud.rd (sPuzzleValid_run p hx) (⟨_, Try.func52, rfl, rfl⟩ : Enters Try.prog 52) rfl rfl rfl rfl ?_
  simp (maxSteps := 1000000) (disch := omega) only [go_sem, Nat.reduceAdd, Nat.reduceMul, Nat.reduceSub, Nat.reduceEqDiff, Nat.reduceLeDiff]
  (first | with_reducible refine guardK_dec (fun h1 => ?_) (fun h1 => ?_) <;> simp (maxSteps := 1000000) (disch := omega) only [go_sem, Nat.reduceAdd, Nat.reduceMul, Nat.reduceSub, Nat.reduceEqDiff, Nat.reduceLeDiff, h1] | with_reducible refine guardK_ndec (fun h1 => ?_) (fun h1 => ?_) <;> simp (maxSteps := 1000000) (disch := omega) only [go_sem, Nat.reduceAdd, Nat.reduceMul, Nat.reduceSub, Nat.reduceEqDiff, Nat.reduceLeDiff, h1] | with_reducible refine guardK_nb (fun h1 => ?_) (fun h1 => ?_) <;> simp (maxSteps := 1000000) (disch := omega) only [go_sem, Nat.reduceAdd, Nat.reduceMul, Nat.reduceSub, Nat.reduceEqDiff, Nat.reduceLeDiff, h1] | with_reducible refine guardK_split (fun h1 => ?_) (fun h1 => ?_) <;> simp (maxSteps := 1000000) (disch := omega) only [go_sem, Nat.reduceAdd, Nat.reduceMul, Nat.reduceSub, Nat.reduceEqDiff, Nat.reduceLeDiff, h1] | with_reducible refine guardQ_dec (fun h1 => ?_) (fun h1 => ?_) <;> simp (maxSteps := 1000000) (disch := omega) only [go_sem, Nat.reduceAdd, Nat.reduceMul, Nat.reduceSub, Nat.reduceEqDiff, Nat.reduceLeDiff, h1] | with_reducible refine guardL_dec (fun h1 => ?_) (fun h1 => ?_) <;> simp (maxSteps := 1000000) (disch := omega) only [go_sem, Nat.reduceAdd, Nat.reduceMul, Nat.reduceSub, Nat.reduceEqDiff, Nat.reduceLeDiff, h1] | with_reducible refine guardQ_ndec (fun h1 => ?_) (fun h1 => ?_) <;> simp (maxSteps := 1000000) (disch := omega) only [go_sem, Nat.reduceAdd, Nat.reduceMul, Nat.reduceSub, Nat.reduceEqDiff, Nat.reduceLeDiff, h1] | with_reducible refine guardL_ndec (fun h1 => ?_) (fun h1 => ?_) <;> simp (maxSteps := 1000000) (disch := omega) only [go_sem, Nat.reduceAdd, Nat.reduceMul, Nat.reduceSub, Nat.reduceEqDiff, Nat.reduceLeDiff, h1] | with_reducible refine guardQ_nb (fun h1 => ?_) (fun h1 => ?_) <;> simp (maxSteps := 1000000) (disch := omega) only [go_sem, Nat.reduceAdd, Nat.reduceMul, Nat.reduceSub, Nat.reduceEqDiff, Nat.reduceLeDiff, h1] | with_reducible refine guardL_nb (fun h1 => ?_) (fun h1 => ?_) <;> simp (maxSteps := 1000000) (disch := omega) only [go_sem, Nat.reduceAdd, Nat.reduceMul, Nat.reduceSub, Nat.reduceEqDiff, Nat.reduceLeDiff, h1] | with_reducible refine guardQ_split (fun h1 => ?_) (fun h1 => ?_) <;> simp (maxSteps := 1000000) (disch := omega) only [go_sem, Nat.reduceAdd, Nat.reduceMul, Nat.reduceSub, Nat.reduceEqDiff, Nat.reduceLeDiff, h1] | with_reducible refine guardL_split (fun h1 => ?_) (fun h1 => ?_) <;> simp (maxSteps := 1000000) (disch := omega) only [go_sem, Nat.reduceAdd, Nat.reduceMul, Nat.reduceSub, Nat.reduceEqDiff, Nat.reduceLeDiff, h1])
  rotate_left
  · have e : needOk p = false := by unfold needOk; rw [h1]; rfl
    intro g
    rw [e, hno (by rw [e]; simp)]
    exact ⟨_, HLe.refl _, 1, g, rfl, look_of (b := ⟨g, 3, cl eR []⟩) rfl⟩
  first | refine OpS.rd (l10One_run p hx) (⟨_, Try.func91, rfl, rfl⟩ : Enters Try.prog 91) rfl rfl rfl rfl ?_ | refine Loud.rd (l10One_run p hx) (⟨_, Try.func91, rfl, rfl⟩ : Enters Try.prog 91) rfl rfl rfl rfl ?_
  simp (maxSteps := 1000000) (disch := omega) only [go_sem, Nat.reduceAdd, Nat.reduceMul, Nat.reduceSub, Nat.reduceEqDiff, Nat.reduceLeDiff]
  (first | with_reducible refine condK_dec (fun h2 => ?_) (fun h2 => ?_) | with_reducible refine condK_ndec (fun h2 => ?_) (fun h2 => ?_) | with_reducible refine condK_nb (fun h2 => ?_) (fun h2 => ?_) | refine condK_b (fun h2 => ?_) (fun h2 => ?_))
  rotate_left
  · have e : needOk p = false := by unfold needOk oneV; rw [h1, decide_eq_false h2]; rfl
    simp (maxSteps := 1000000) (disch := omega) only [go_sem, Nat.reduceAdd, Nat.reduceMul, Nat.reduceSub, Nat.reduceEqDiff, Nat.reduceLeDiff]
    intro g
    rw [e, hno (by rw [e]; simp)]
    exact ⟨_, HLe.refl _, 1, g, rfl, look_of (b := ⟨g, 3, cl eR []⟩) rfl⟩
  have e : needOk p = true := by unfold needOk oneV; rw [h1, decide_eq_true h2]; rfl
  rw [e]
  simp (maxSteps := 1000000) (disch := omega) only [go_sem, Nat.reduceAdd, Nat.reduceMul, Nat.reduceSub, Nat.reduceEqDiff, Nat.reduceLeDiff]
  intro g
  refine appendM_own (E := eR) (xs := []) (ys := p.rules) (sliceOf_of' ti26 rfl ti29) ⟨rfl, rfl, by decide, by decide⟩ rfl (look_of (b := ⟨g, 3, cl eR []⟩) rfl) ⟨by simp, hr1⟩ elems_f ?_
  intro g2
  simp (maxSteps := 1000000) (disch := omega) only [go_sem, Nat.reduceAdd, Nat.reduceMul, Nat.reduceSub, Nat.reduceEqDiff, Nat.reduceLeDiff, Nat.zero_add, List.nil_append, List.length_nil]
  have hN : needV p = needL p p.rules.length 0 p.rules := by unfold needV; rw [if_pos e]
  refine loop_rule2 (fun (i : Nat) (b : Heap × Nat × Nat × List Rul) => b.2.2.2.length - i) (fun i b => i ≤ b.2.2.2.length ∧ smRs b.2.2.2 ∧ b.2.2.2.length ≤ p.rules.length ∧ needV p = needL p (b.2.2.2.length - i) i b.2.2.2 ∧ look b.1 0 g1 = some ⟨g1, 1, cP p⟩ ∧ look b.1 b.2.1 b.2.2.1 = some ⟨b.2.2.1, 3, cl eR b.2.2.2⟩) (fun i b => [.a, .k, .a, .a, .p (.c (.own b.2.1 b.2.2.1 0 b.2.2.2.length none)), .p (int i), .a, .a, .a, .a, .a, .a, .a, .a, .a, .a, .a, .a, .a, .a, .a, .a, .a, .a, .a, .a, .a, .a, .a, .a, .a, .a, .a, .a, .a, .a, .a, .a, .a, .a, .a, .a, .a, .a, .a, .a, .a]) (fun i b => b.1) 0 ([some ⟨g1, 1, cP p⟩, some ⟨g2, 3, cl eR p.rules⟩], 1, g2, p.rules)
    ⟨Nat.zero_le _, hx.2, Nat.le_refl _, hN, look_zero, look_of (b := ⟨g2, 3, cl eR p.rules⟩) rfl⟩ (by simp (maxSteps := 1000000) (disch := omega) only [go_sem, Nat.reduceAdd, Nat.reduceMul, Nat.reduceSub, Nat.reduceEqDiff, Nat.reduceLeDiff]; rfl) (HLe.refl _) ?_
  rintro i ⟨HI, j, gj, rs⟩ ⟨hi, hsm, hle, hnd, hb0, hbj⟩
  simp only at hi hsm hle hnd hb0 hbj ⊢
  have hrl : (cl eR rs).length = rs.length * 3 := cl_length rs
  simp (maxSteps := 1000000) (disch := omega) only [go_sem, Nat.reduceAdd, Nat.reduceMul, Nat.reduceSub, Nat.reduceEqDiff, Nat.reduceLeDiff, hbj, hb0]
  (first | with_reducible refine condK_dec (fun h3 => ?_) (fun h3 => ?_) | with_reducible refine condK_ndec (fun h3 => ?_) (fun h3 => ?_) | with_reducible refine condK_nb (fun h3 => ?_) (fun h3 => ?_) | refine condK_b (fun h3 => ?_) (fun h3 => ?_))
  · have h3 : i < rs.length := by omega
    simp (maxSteps := 1000000) (disch := omega) only [go_sem, Nat.reduceAdd, Nat.reduceMul, Nat.reduceSub, Nat.reduceEqDiff, Nat.reduceLeDiff, hbj, hb0]
    have hms := mask_fr_same HI
    refine drawP_lM [1, 2, 3, 5, 6, 7, 8, 0, 4] [] none [9, 10] (List.replicate HI.length false ++ [true]) [0, 0, 0, 6, 15, 0, 0, 64, 224, 511, 1023] foll (by kernel_rfl) ?_
    have hpre := sliceR_pre ti26 rfl ti29 rfl hbj (k := i) hi
    have hsuf := sliceR_suf ti26 rfl ti29 rfl hbj (k := i + 1) h3
    have hix : ((i : Int)).toNat = i := Int.toNat_natCast i
    have hix2 : ((i : Int) + 1).toNat = i + 1 := by omega
    iterate 3 (rw [lwF_cons]; simp (maxSteps := 1000000) (disch := omega) only [go_sem, Nat.reduceAdd, Nat.reduceMul, Nat.reduceSub, Nat.reduceEqDiff, Nat.reduceLeDiff, hms, hbj, hb0])
    rw [hix, hpre]
    simp (maxSteps := 1000000) (disch := omega) only [go_sem, Nat.reduceAdd, Nat.reduceMul, Nat.reduceSub, Nat.reduceEqDiff, Nat.reduceLeDiff, hms, hbj, hb0]
    iterate 3 (rw [lwF_cons]; simp (maxSteps := 1000000) (disch := omega) only [go_sem, Nat.reduceAdd, Nat.reduceMul, Nat.reduceSub, Nat.reduceEqDiff, Nat.reduceLeDiff, hms, hbj, hb0])
    rw [lwF_cons]
    simp (maxSteps := 1000000) (disch := omega) only [go_sem, Nat.reduceAdd, Nat.reduceMul, Nat.reduceSub, Nat.reduceEqDiff, Nat.reduceLeDiff, hms, hbj, hb0, hix2, hsuf]
    rw [lwF_cons]
    simp (maxSteps := 1000000) (disch := omega) only [go_sem, Nat.reduceAdd, Nat.reduceMul, Nat.reduceSub, Nat.reduceEqDiff, Nat.reduceLeDiff, look_off, look_off0, set_off, set_off0, List.append_assoc, List.cons_append, List.nil_append, List.length_append, hms, hbj, hb0]
    intro g3
    refine ⟨okM_fr (by omega) (fun k hk => List.getElem?_append_left hk), ?_⟩
    rw [lwF_cons]
    simp (maxSteps := 1000000) (disch := omega) only [go_sem, Nat.reduceAdd, Nat.reduceMul, Nat.reduceSub, Nat.reduceEqDiff, Nat.reduceLeDiff, look_off, look_off0, set_off, set_off0, List.append_assoc, List.cons_append, List.nil_append, List.length_append]
    have htl : (rs.take i).length = i := by rw [List.length_take]; omega
    have hdl : (rs.drop (i + 1)).length = rs.length - (i + 1) := List.length_drop ..
    have hbX : ∀ L, look (HI ++ L) j gj = some ⟨gj, 3, cl eR rs⟩ := fun L => look_appL hbj
    have hb0X : ∀ L, look (HI ++ L) 0 g1 = some ⟨g1, 1, cP p⟩ := fun L => look_appL hb0
    refine appendM_own (E := eR) (xs := []) (ys := rs.take i) (sliceOf_of' ti26 rfl ti29) ⟨rfl, rfl, by decide, by decide⟩ rfl (by rw [look_off0]; exact look_of (b := ⟨g3, 3, cl eR []⟩) rfl) ⟨by simp, by omega⟩ (by rw [htl]; exact elemsR_pre (hbX _) hi) ?_
    intro g4
    rw [htl]
    simp (maxSteps := 1000000) (disch := omega) only [go_sem, Nat.reduceAdd, Nat.reduceMul, Nat.reduceSub, Nat.reduceEqDiff, Nat.reduceLeDiff, look_off, look_off0, set_off, set_off0, List.append_assoc, List.cons_append, List.nil_append, List.length_append, Nat.zero_add]
    refine ⟨okM_fr (by simp) (fun k hk => by rw [List.getElem?_append_left hk, List.getElem?_append_left hk]), ?_⟩
    refine appendM_own (E := eR) (xs := rs.take i) (ys := rs.drop (i + 1)) (sliceOf_of' ti26 rfl ti29) ⟨rfl, rfl, by decide, by decide⟩ htl (by rw [look_off0]; exact look_of (b := ⟨g4, 3, cl eR (rs.take i)⟩) rfl) ⟨by omega, by omega⟩ (by rw [hdl]; exact elemsR_suf (hbX _) h3) ?_
    intro g5
    rw [← erase_take]
    have hel : i + (rs.drop (i + 1)).length = (rs.eraseIdx i).length := by rw [List.length_eraseIdx, if_pos h3, hdl]; omega
    rw [hel]
    simp (maxSteps := 1000000) (disch := omega) only [go_sem, Nat.reduceAdd, Nat.reduceMul, Nat.reduceSub, Nat.reduceEqDiff, Nat.reduceLeDiff, look_off, look_off0, set_off, set_off0, List.append_assoc, List.cons_append, List.nil_append, List.length_append, hb0X]
    have hown : OwnL eR 3 (HI ++ [some ⟨g5, 3, cl eR (rs.eraseIdx i)⟩]) (.own HI.length g5 0 (rs.eraseIdx i).length none) (rs.eraseIdx i) := OwnL.o _ _ _ look_last
    have hstep := needL_step (p := p) h3
    refine OpS.rdD (l10One_run (wiR p (rs.eraseIdx i)) ⟨hx.1, smRs_erase hsm⟩) (⟨_, Try.func91, rfl, rfl⟩ : Enters Try.prog 91) rfl rfl (snapP1 hown) rfl ?_
    change _ = if decide ((allS (wiR p (rs.eraseIdx i)) 2).length = 1) = true then _ else _ at hstep
    generalize decide ((allS (wiR p (rs.eraseIdx i)) 2).length = 1) = b at hstep ⊢
    rw [← hnd] at hstep
    have hl2 : (rs.eraseIdx i).length = rs.length - 1 := by rw [List.length_eraseIdx, if_pos h3]
    simp (maxSteps := 1000000) (disch := omega) only [go_sem, Nat.reduceAdd, Nat.reduceMul, Nat.reduceSub, Nat.reduceEqDiff, Nat.reduceLeDiff, look_off, look_off0, set_off, set_off0, List.append_assoc, List.cons_append, List.nil_append, List.length_append]
    (first | with_reducible refine condK_dec (fun h4 => ?_) (fun h4 => ?_) | with_reducible refine condK_ndec (fun h4 => ?_) (fun h4 => ?_) | with_reducible refine condK_nb (fun h4 => ?_) (fun h4 => ?_) | refine condK_b (fun h4 => ?_) (fun h4 => ?_))
    · rw [if_pos h4] at hstep
      simp (maxSteps := 1000000) (disch := omega) only [go_sem, Nat.reduceAdd, Nat.reduceMul, Nat.reduceSub, Nat.reduceEqDiff, Nat.reduceLeDiff, look_off, look_off0, set_off, set_off0, List.append_assoc, List.cons_append, List.nil_append, List.length_append]
      refine ⟨i, (HI ++ [some ⟨g5, 3, cl eR (rs.eraseIdx i)⟩], HI.length, g5, rs.eraseIdx i), ⟨?_, ?_⟩, ?_, HLe.refl _⟩
      · exact ⟨by show i ≤ (rs.eraseIdx i).length; omega, smRs_erase hsm, by show (rs.eraseIdx i).length ≤ _; omega, hstep, hb0X _, look_last⟩
      · show (rs.eraseIdx i).length - i < _
        omega
      · exact ⟨⟨rfl, rfl, rfl⟩, rfl⟩
    · rw [if_neg (by simp [h4])] at hstep
      simp (maxSteps := 1000000) (disch := omega) only [go_sem, Nat.reduceAdd, Nat.reduceMul, Nat.reduceSub, Nat.reduceEqDiff, Nat.reduceLeDiff, look_off, look_off0, set_off, set_off0, List.append_assoc, List.cons_append, List.nil_append, List.length_append]
      refine ⟨i + 1, (HI ++ [some ⟨g5, 3, cl eR (rs.eraseIdx i)⟩], j, gj, rs), ⟨?_, ?_⟩, ?_, HLe.refl _⟩
      · exact ⟨by show i + 1 ≤ rs.length; omega, hsm, hle, hstep, hb0X _, hbX _⟩
      · show rs.length - (i + 1) < _
        omega
      · exact ⟨⟨rfl, rfl, rfl⟩, by push_cast; rfl⟩
  · have hie : i = rs.length := by omega
    simp (maxSteps := 1000000) (disch := omega) only [go_sem, Nat.reduceAdd, Nat.reduceMul, Nat.reduceSub, Nat.reduceEqDiff, Nat.reduceLeDiff, hbj, hb0]
    rw [hie, Nat.sub_self] at hnd
    rw [hnd]
    exact ⟨_, HLe.refl _, j, gj, rfl, hbj⟩
end Go.Lg
