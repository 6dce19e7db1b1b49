/- GpGF, GpGG, GpMO, GpND, GpQB, cut to what is needed. -/
import Derived.Test.YtapopcmgggfedaaVad9
import Derived.Test.YtapopcmgggfedaaVac4
import Derived.Test.YtapopcmgggfedaaVad7
import Derived.Test.YtapopcmgggfedaaVab9
import Derived.Test.YtapopcmgggfedaaVad3
import Derived.Test.YtapopcmgggfedaaVae0
import Derived.Test.YtapopcmgggfedaaVab4
import Derived.Test.YtapopcmgggfedaaVae1
open Nat(reduceAdd reduceMul reduceSub reduceEqDiff reduceLeDiff)
set_option linter.unusedSimpArgs false
set_option linter.unusedVariables false
set_option maxRecDepth 100000
namespace Go.Lg
open Go.Proofs
attribute [-go_sem] appendM lwF_cons
def LstO (H : Heap) (c : CV) (ls : List (List Int)) : Prop := ∃ oid og cs, c = .own oid og 0 ls.length none ∧ look H oid og = some ⟨og, 1, cs⟩ ∧ cs.length = ls.length ∧ ∀ i (h : i < ls.length), ∃ id g, cs[i]? = some (.own id g 0 ls[i].length none) ∧ look H id g = some ⟨g, 1, cl (eI .i64) ls[i]⟩
theorem LstO.shift {H0 H : Heap} {c : CV} {ls : List (List Int)} (h : LstO H c ls) : LstO (H0 ++ shiftH H0.length H) (shiftC H0.length c) ls := by
  obtain ⟨oid, og, cs, rfl, k1, k2, k3⟩ := h
  refine ⟨oid + H0.length, og, cs.map (shiftC H0.length), rfl, look_shiftH k1, by rw [List.length_map]; exact k2, fun i hi => ?_⟩
  obtain ⟨id, g, q1, q2⟩ := k3 i hi
  refine ⟨id + H0.length, g, by rw [List.getElem?_map, q1]; rfl, ?_⟩
  rw [look_shiftH q2]
  simp only [shiftB, shift_cl]
section
variable {P : Program} {o : Oper} {st : St} {K : KV} {fo : Operand} {xs : Array Operand} {ts : Array TypeId} {f : FuncId} {args : List AV}
end
def smD (p : Puz) : Prop := p.given.length ≤ 16 ∧ ruleSm p.rules 30 5
theorem smD.sm {p : Puz} (h : smD p) : smP p := ⟨by have := h.1; omega, by have := h.2.1; omega, fun r hr => by have := h.2.2 r hr; omega⟩
structure TrI (H HI : Heap) (id g : Nat) (B : Int) (g4 J g6 : Nat) (p : Puz) (c : CV) (zs : List Int) : Prop where
  out : look HI H.length g4 = some ⟨g4, 3, [.f (.int .i64 0), .f .nil, .f .nil]⟩
  puz : look HI J g6 = some ⟨g6, 3, cP p⟩
  grid : ∃ gid gg, c = .own gid gg 0 zs.length none ∧ look HI gid gg = some ⟨gg, 1, cl (eI .i64) zs⟩ ∧ H.length < gid ∧ gid ≠ J
  rd : RdAt HI id g B
  lt : id < H.length
  ln : H.length < J ∧ J < HI.length
  frm : ∀ k, k < H.length → k ≠ id → HI[k]? = H[k]?
section
variable {H HI H2 : Heap} {id g g4 J g6 : Nat} {B B' : Int} {p : Puz} {c : CV} {zs : List Int}
theorem TrI.mono (h : TrI H HI id g B g4 J g6 p c zs) (hb : B ≤ B') : TrI H HI id g B' g4 J g6 p c zs := { h with rd := h.rd.mono hb }
theorem TrI.step (h : TrI H HI id g B g4 J g6 p c zs) (hs : ∀ i, H.length ≤ i → i < HI.length → H2[i]? = HI[i]?) (hl : HI.length ≤ H2.length) (hr : RdAt H2 id g B') (hf : ∀ k, k < H.length → k ≠ id → H2[k]? = HI[k]?) : TrI H H2 id g B' g4 J g6 p c zs := by
  have hn := h.ln
  have hL : ∀ i g, H.length ≤ i → i < HI.length → look H2 i g = look HI i g := fun i g h1 h2 => by unfold look; rw [hs i h1 h2]
  obtain ⟨gid, gg, g1, g2, g3, g4⟩ := h.grid
  have hgl : gid < HI.length := (List.getElem?_eq_some_iff.1 (look_some g2).1).1
  exact { out := by rw [hL _ _ (Nat.le_refl _) (by omega)]; exact h.out
          puz := by rw [hL _ _ (by omega) (by omega)]; exact h.puz
          grid := ⟨gid, gg, g1, by rw [hL _ _ (by omega) hgl]; exact g2, g3, g4⟩
          rd := hr, lt := h.lt, ln := by omega
          frm := fun k hk hne => by rw [hf k hk hne]; exact h.frm k hk hne }
theorem TrI.pick (h : TrI H HI id g B g4 J g6 p c zs) (hr : RdAt H2 id g B') (hf : Frm HI H2 [id]) : TrI H H2 id g B' g4 J g6 p c zs := by
  have hl := h.lt
  exact h.step (fun i hi _ => hf.2 i (by simp; omega)) (by rw [hf.1]; exact Nat.le_refl _) hr fun k hk hne => hf.2 k (by simpa using hne)
theorem TrI.app {X : Heap} (h : TrI H HI id g B g4 J g6 p c zs) : TrI H (HI ++ X) id g B g4 J g6 p c zs := by
  have hn := h.ln
  exact h.step (fun i _ hi => List.getElem?_append_left hi) (by simp) h.rd.app fun k hk _ => List.getElem?_append_left (by omega)
theorem TrI.set (h : TrI H HI id g B g4 J g6 p c zs) {gid gg : Nat} (hc : c = .own gid gg 0 zs.length none) (k : Nat) (v : Int) : TrI H (HI.set gid (some ⟨gg, 1, cl (eI .i64) (zs.set k v)⟩)) id g B g4 J g6 p c (zs.set k v) := by
  have hn := h.ln
  have hl := h.lt
  obtain ⟨gid', gg', g1, g2, g3, g4⟩ := h.grid
  rw [hc] at g1
  cases g1
  have hgl : gid < HI.length := (List.getElem?_eq_some_iff.1 (look_some g2).1).1
  exact { out := by rw [look_set_ne' (by omega)]; exact h.out
          puz := by rw [look_set_ne' (by omega)]; exact h.puz
          grid := ⟨gid, gg, by rw [hc, List.length_set], look_set_eq' hgl, g3, g4⟩
          rd := h.rd.same (by rw [List.getElem?_set_ne (by omega)])
          lt := hl, ln := by rw [List.length_set]; exact hn
          frm := fun k hk hne => by rw [List.getElem?_set_ne (by omega)]; exact h.frm k hk hne }
end
def dPuz : AV → Prop := fun v => ∃ p : Puz, v = aP p ∧ smD p
theorem wf_u8' {xs : List Int} (h : ∀ x ∈ xs, (Lit.int .u8 x).wf = true) : ∀ x ∈ xs, 0 ≤ x ∧ x ≤ 255 := fun x hx => by
  have := h x hx
  simp [Lit.wf] at this
  have e1 : IntKind.u8.min = 0 := by decide
  have e2 : IntKind.u8.max = 255 := by decide
  omega
theorem RdAt.shift {H0 H : Heap} {id g : Nat} {B : Int} (h : RdAt H id g B) : RdAt (H0 ++ shiftH H0.length H) (id + H0.length) g B := by
  obtain ⟨sz, b, p, h1, h2⟩ := h
  exact ⟨sz, b, p, by rw [look_shiftH h1]; rfl, h2⟩
theorem OpS.mkRd {P : Program} {o : Oper} {st : St} {K : KV} {fo : Operand} {xs : Array Operand} {ts : Array TypeId} {f : FuncId} {args : List AV} (hc : RunCall P f args [] (fun v H' => ∃ g, v = .c (.ptr 0 g 0) ∧ RdAt H' 0 g 0 ∧ H'.length = 1)) (he : Enters P f) (ho : o.op = .call ⟨.value fo, xs, ts⟩) (ha : callArgs st fo xs = some (f, args)) (hf : args.all frozenA = true)
    (hk : ∀ g H', RdAt (st.h ++ H') st.h.length g 0 → H'.length = 1 → K (.c (.ptr st.h.length g 0)) (st.h ++ H')) : OpS P o st K :=
  OpS.mkQ hc he ho ha hf fun r H' ⟨g, h1, h2, h3⟩ => by
    subst h1
    refine ⟨rfl, ?_⟩
    have := hk g (shiftH st.h.length H') (by have := h2.shift (H0 := st.h); rwa [Nat.zero_add] at this) (by rw [shiftH_length]; exact h3)
    show K (.c (.ptr (0 + st.h.length) g 0)) _
    rw [Nat.zero_add]
    exact this
end Go.Lg

namespace Go.Lg
open Go.Proofs
attribute [-go_sem] appendM lwF_cons
theorem resV_ctt (P : Program) (s : List AV) (H : Heap) (t u w : Nat) (ty : TypeId) : resV P s H [.cell t ty, .tmp u, .tmp w] = (loadV P H ty (s.getD t .void)).map fun v => .tup [v, s.getD u .void, s.getD w .void] := by
  simp only [resV, resAll, resOne]
  cases loadV P H ty (s.getD t .void) <;> rfl
attribute [go_sem] resV_ctt
theorem DrawGameOf_run (code : List Int) (hb : ∀ x ∈ code, 0 ≤ x ∧ x ≤ 255) (hl : code.length ≤ 2 ^ 40) : RunCall Try.prog 4 [rsl (eI .u8) code] [] (fun v _ => dPuz v) := by
  refine RunCall.cw (c := _) Try.func4 rfl (n := 6) Try.ntmps4 (rs := [.cell 2 26]) rfl ?_
  simp only[List.length_cons,List.length_nil,reduceAdd,reduceSub,List.replicate,List.cons_append,List.nil_append]
  simp(maxSteps:=999999)(disch:=omega)only[go_sem,reduceAdd,reduceMul,reduceSub,reduceEqDiff,reduceLeDiff]
  intro g4
  refine OpS.mkRd (l20Open_run code hb hl) (⟨_, Try.func14, rfl, rfl⟩ : Enters Try.prog 14) rfl rfl rfl ?_
  intro g H1 r1 hl1
  simp(maxSteps:=999999)(disch:=omega)only[go_sem,reduceAdd,reduceMul,reduceSub,reduceEqDiff,reduceLeDiff]
  refine OpS.run (l20Puzzle_run _ 1 g 0 6 r1 (by omega) (by omega)) (⟨_, Try.func13, rfl, rfl⟩ : Enters Try.prog 13) rfl rfl ?_
  rintro _ H2 ⟨⟨p, rfl, hp⟩, r2, f2⟩
  have h4 : look H2 0 g4 = some ⟨g4, 3, [.f (.int .i64 0), .f .nil, .f .nil]⟩ := by rw [f2.look (by simp)]; exact look_zero
  have hS : ∀ b, look (H2.set 0 (some ⟨g4, 3, b⟩)) 0 g4 = some ⟨g4, 3, b⟩ := fun b => look_set_eq' (List.getElem?_eq_some_iff.1 (look_some h4).1).1
  simp(maxSteps:=999999)(disch:=omega)only[go_sem,reduceAdd,reduceMul,reduceSub,reduceEqDiff,reduceLeDiff, h4, hS]
  exact ⟨_, HLe.refl _, p, rfl, hp⟩
theorem aliveF_run : Reads Try.prog 9 [] (bool true) := by
  refine RunCall.cw (c := _) Try.func9 rfl (n := 4) Try.ntmps9 (rs := [.tmp 0]) rfl ?_
  simp only[List.length_cons,List.length_nil,reduceAdd,reduceSub,List.replicate,List.cons_append,List.nil_append]
  simp(maxSteps:=999999)(disch:=omega)only[go_sem,reduceAdd,reduceMul,reduceSub,reduceEqDiff,reduceLeDiff]
  intro g
  have hown : OwnI [some ⟨g, 1, [.f (.int .i64 1), .f (.int .i64 0), .f (.int .i64 0), .f (.int .i64 2)]⟩] (.own 0 g 0 4 none) [1, 0, 0, 2] [0] := OwnI.o 0 g none [1, 0, 0, 2] [] (by rw [look_zero]; rfl)
  refine OpS.rdD (GridFilled_run [1, 0, 0, 2] 2 (by simp)) (⟨_, Try.func12, rfl, rfl⟩ : Enters Try.prog 12) rfl rfl (snap_two hown.snap snapD_int) rfl ?_
  have e : gridFilled [1, 0, 0, 2] 2 = 2 := by decide
  rw [e]
  simp(maxSteps:=999999)(disch:=omega)only[go_sem,reduceAdd,reduceMul,reduceSub,reduceEqDiff,reduceLeDiff]
theorem sameIntsF_run (xs ys : List Int) (hx : xs.length ≤ 2 ^ 40) : Reads Try.prog 18 [ints xs, ints ys] (bool (decide (xs = ys))) := by
  refine RunCall.cw (c := _) Try.func18 rfl (n := 26) Try.ntmps18 (rs := [.tmp 4]) rfl ?_
  simp only[List.length_cons,List.length_nil,reduceAdd,reduceSub,List.replicate,List.cons_append,List.nil_append]
  simp(maxSteps:=999999)(disch:=omega)only[go_sem,reduceAdd,reduceMul,reduceSub,reduceEqDiff,reduceLeDiff]
  ((first|(with_reducible first|refine condK_dec ?_ ?_|refine condK_ndec ?_ ?_|refine condK_nb ?_ ?_)|refine condK_b ?_ ?_) <;> intro h)
  rotate_left
  · simp(maxSteps:=999999)(disch:=omega)only[go_sem,reduceAdd,reduceMul,reduceSub,reduceEqDiff,reduceLeDiff]
    rw [eq_comm, decide_eq_false_iff_not]
    intro h2
    exact h (by rw [h2])
  have hl : xs.length = ys.length := by omega
  simp(maxSteps:=999999)(disch:=omega)only[go_sem,reduceAdd,reduceMul,reduceSub,reduceEqDiff,reduceLeDiff]
  refine loop_rule (fun i : Nat => xs.length - i) (fun i => i ≤ xs.length ∧ ∀ j : Nat, j < i → nth xs j = nth ys j) (fun i => [.k, .k, .a, .a, .a, .p (int i), .a, .a, .a, .a, .a, .a, .a, .a, .a, .a, .a, .a, .a, .a, .a, .a, .a, .a, .a, .a]) (fun i => []) 0
    ⟨Nat.zero_le _, fun j hj => absurd hj (Nat.not_lt_zero _)⟩ (by simp(maxSteps:=999999)(disch:=omega)only[go_sem,reduceAdd,reduceMul,reduceSub,reduceEqDiff,reduceLeDiff]; rfl) (hle_nil _) ?_
  rintro i ⟨hi, hall⟩
  simp(maxSteps:=999999)(disch:=omega)only[go_sem,reduceAdd,reduceMul,reduceSub,reduceEqDiff,reduceLeDiff]
  ((first|(with_reducible first|refine condK_dec ?_ ?_|refine condK_ndec ?_ ?_|refine condK_nb ?_ ?_)|refine condK_b ?_ ?_) <;> intro h)
  · have h : i < xs.length := by omega
    simp(maxSteps:=999999)(disch:=omega)only[go_sem,reduceAdd,reduceMul,reduceSub,reduceEqDiff,reduceLeDiff]
    refine drawP_q foll (by kernel_rfl) ?_
    simp(maxSteps:=999999)(disch:=omega)only[go_sem,Nat.reduceBEq,Bool.true_or,reduceAdd,reduceMul,reduceSub,reduceEqDiff,reduceLeDiff]
    ((first|(with_reducible first|refine condK_dec ?_ ?_|refine condK_ndec ?_ ?_|refine condK_nb ?_ ?_)|refine condK_b ?_ ?_) <;> intro h2)
    · simp(maxSteps:=999999)(disch:=omega)only[go_sem,reduceAdd,reduceMul,reduceSub,reduceEqDiff,reduceLeDiff]
      refine ⟨i + 1, ⟨⟨by omega, fun j hj => ?_⟩, by omega⟩, by push_cast; omega, hle_nil _⟩
      rcases Nat.lt_succ_iff_lt_or_eq.1 hj with hj | rfl
      · exact hall j hj
      · exact h2
    · simp(maxSteps:=999999)(disch:=omega)only[go_sem,reduceAdd,reduceMul,reduceSub,reduceEqDiff,reduceLeDiff]
      rw [eq_comm, decide_eq_false_iff_not]
      intro h3
      exact h2 (by rw [h3])
  · simp(maxSteps:=999999)(disch:=omega)only[go_sem,reduceAdd,reduceMul,reduceSub,reduceEqDiff,reduceLeDiff]
    rw [decide_eq_true (ext_nth hl fun j hj => hall j (by omega))]
end Go.Lg

namespace Go.Lg
open Go.Proofs
theorem folQ_rd {P : Program} {f : FuncId} {args : List AV} {p : Puz} {xs : List Int} (h : RunCall P f args [] (folQ p xs)) : Reads P f args (.tup [ints (folV p xs), int (folN p xs)]) :=
  Reads.ice h fun r H ⟨c, S, h1, h2, _⟩ => by
    subst h1
    have e : frzC H (.f (.int .i64 (folN p xs))) = some (.f (.int .i64 (folN p xs))) := rfl
    show (([_, _] : List AV).mapM (frz1 H)).map AV.tup = _
    simp only [List.mapM_cons, List.mapM_nil, frz1, h2.frzC, e, Option.bind_eq_bind, Option.pure_def, Option.bind_some, Option.map_some]
theorem folV_len (p : Puz) (xs : List Int) : (folV p xs).length ≤ xs.length := by
  unfold folV
  split
  · rw [folF_len]; exact Nat.le_refl _
  · simp
end Go.Lg

namespace Go.Lg
open Go.Proofs
def posN (xs : List Int) : Nat := xs.countP fun v => decide (0 < v)
theorem posN_set {xs : List Int} {k : Nat} {v : Int} (hk : k < xs.length) (h0 : nth xs k = 0) (hv : 0 < v) : posN (xs.set k v) = posN xs + 1 := by
  have e : xs[k] = 0 := by rw [← h0, nth_eq (by omega)]; rfl
  unfold posN
  rw [List.countP_set (h := hk), e]
  simp [hv]
end Go.Lg

namespace Go.Lg
open Go.Proofs
def nextT (p : Puz) (most : Nat) (ms : List Nat) : Nat := (((List.range most).map (· + 1)).find? fun t => decide (narM p t ms ≠ ms)).getD 0
theorem nextT_is {p : Puz} {most t : Nat} {ms : List Nat} (h1 : 1 ≤ t) (h2 : t ≤ most) (hlt : ∀ u, 1 ≤ u → u < t → narM p u ms = ms) (hne : narM p t ms ≠ ms) : nextT p most ms = t := by
  unfold nextT
  have : (((List.range most).map (· + 1)).find? fun t => decide (narM p t ms ≠ ms)) = some t := by
    rw [List.find?_eq_some_iff_getElem]
    refine ⟨decide_eq_true hne, t - 1, by simp; omega, by simp; omega, fun j hj => ?_⟩
    simp only [List.getElem_map, List.getElem_range, Bool.not_eq_true', decide_eq_false_iff_not, ne_eq, Classical.not_not]
    exact hlt _ (by omega) (by omega)
  rw [this]
  rfl
theorem nextT_no {p : Puz} {most : Nat} {ms : List Nat} (h : ∀ u, 1 ≤ u → u ≤ most → narM p u ms = ms) : nextT p most ms = 0 := by
  unfold nextT
  have : (((List.range most).map (· + 1)).find? fun t => decide (narM p t ms ≠ ms)) = none := by
    rw [List.find?_eq_none]
    intro t ht
    obtain ⟨j, hj, rfl⟩ := List.mem_map.1 ht
    have := List.mem_range.1 hj
    rw [decide_eq_true_eq, Classical.not_not]
    exact h _ (by omega) (by omega)
  rw [this]
  rfl
theorem nextT_le (p : Puz) (most : Nat) (ms : List Nat) : nextT p most ms ≤ most ∧ (nextT p most ms ≠ 0 → narM p (nextT p most ms) ms ≠ ms) := by
  unfold nextT
  cases e : ((List.range most).map (· + 1)).find? fun t => decide (narM p t ms ≠ ms) with
  | none => exact ⟨Nat.zero_le _, fun h => absurd rfl h⟩
  | some t =>
    have h1 := List.find?_some e
    have h2 := List.mem_of_find?_eq_some e
    obtain ⟨j, hj, rfl⟩ := List.mem_map.1 h2
    have := List.mem_range.1 hj
    exact ⟨by show j + 1 ≤ most; omega, fun _ => of_decide_eq_true h1⟩
def nallF (p : Puz) (most : Nat) : Nat → List Nat → List Nat × Nat
  | 0, ms => (ms, 0)
  | f + 1, ms => if nextT p most ms = 0 then (ms, 0) else ((nallF p most f (narM p (nextT p most ms) ms)).1, (nallF p most f (narM p (nextT p most ms) ms)).2 + 1)
theorem nallF_ok {p : Puz} {most n : Nat} : ∀ (f : Nat) (ms : List Nat), MsN ms n → MsN (nallF p most f ms).1 n ∧ (nallF p most f ms).2 ≤ f
  | 0, ms, h => ⟨h, Nat.le_refl _⟩
  | f + 1, ms, h => by
    unfold nallF
    split
    · exact ⟨h, Nat.zero_le _⟩
    · have := nallF_ok (p := p) (most := most) f _ (narM_ok (p := p) (t := nextT p most ms) h)
      exact ⟨this.1, by have := this.2; show _ + 1 ≤ f + 1; omega⟩
theorem nallF_stop {p : Puz} {most f : Nat} {ms : List Nat} (h : nextT p most ms = 0) : nallF p most f ms = (ms, 0) := by
  cases f with
  | zero => rfl
  | succ f => unfold nallF; rw [if_pos h]
theorem nallF_step {p : Puz} {most f : Nat} {ms : List Nat} (h : nextT p most ms ≠ 0) : nallF p most (f + 1) ms = ((nallF p most f (narM p (nextT p most ms) ms)).1, (nallF p most f (narM p (nextT p most ms) ms)).2 + 1) := by
  conv => lhs; unfold nallF
  rw [if_neg h]
def nallV (p : Puz) (most : Nat) (ms : List Nat) : List Nat := (nallF p most 500 ms).1
def soleB (p : Puz) (most : Nat) : Bool := decide (∀ i : Nat, i < p.size.toNat * p.size.toNat → onlyV (mAt (nallV p most (startM p)) i) ≠ 0)
def gradeV (p : Puz) : Int :=
  if puzzleValid p = true then (if (allL p).length = 1 then ((((List.range 4).map (· + 1)).find? (soleB p)).getD 5 : Nat) else 0) else -1
def GoodM (p : Puz) (s : List Int) (n : Nat) : Prop := ∀ ms : List Nat, MsN ms n → SubM ms (startM p) → InM s ms (n * n) → nextM p ms = 0 → ∀ i : Nat, i < n * n → onlyV (mAt ms i) ≠ 0
section
variable {p : Puz} {s : List Int} {n : Nat}
theorem nall_keep (hs : Lat s n) (hp : PuzN p n) {A : List Nat} (hA : MsN A n) (hi : InM s A (n * n)) (hf : nextM p A = 0) (most : Nat) : ∀ (f : Nat) (B : List Nat), MsN B n → SubM A B → SubM A (nallF p most f B).1
  | 0, B, _, h => h
  | f + 1, B, hB, h => by
    unfold nallF
    split
    · exact h
    · exact nall_keep hs hp hA hi hf most f _ (narM_ok hB) (nar_keep hs hp hA hB hi h hf _)
theorem good_of (hs : Lat s n) (hp : PuzN p n) (hg : GrdN p.given n) {most : Nat} (h : soleB p most = true) : GoodM p s n := by
  intro ms hm hS hi hf i hin
  have hz : p.size.toNat = n := by rw [hp.size]; rfl
  have hall := of_decide_eq_true h i (by rw [hz]; exact hin)
  have hk := nall_keep hs hp hm hi hf most 500 _ (startM_ok hp hg) hS
  have hN := (nallF_ok (p := p) (most := most) 500 _ (startM_ok hp hg)).1
  rw [one_sub hs.hn hm hN hk (hi i hin) hall]
  exact hall
theorem grade_facts {p : Puz} (h : 1 ≤ gradeV p ∧ gradeV p ≤ 4) : ∃ s, puzzleValid p = true ∧ allL p = [s] ∧ GoodM p s p.size.toNat := by
  unfold gradeV at h
  split at h
  · rename_i hv
    split at h
    · rename_i h1
      obtain ⟨s, hs⟩ : ∃ s, allL p = [s] := List.length_eq_one_iff.1 h1
      obtain ⟨hp, hg⟩ := puz_facts hv
      refine ⟨s, hv, hs, ?_⟩
      have hl := sol_lat hv ((allL_mem hv s).1 (by rw [hs]; simp))
      cases e : ((List.range 4).map (· + 1)).find? (soleB p) with
      | none => rw [e] at h; simp at h
      | some t => exact good_of hl hp hg (List.find?_some e)
    · omega
  · omega
theorem hintF_full {q : Puz} (hs : Lat s n) (hp : PuzN q n) (hr : ∀ r ∈ q.rules, canHold r s n = true) (hG : GoodM p s n) (hpq : ∀ t ms, narM q t ms = narM p t ms) : ∀ (f : Nat) (ms : List Nat), ms.sum < f → MsN ms n → SubM ms (startM p) → InM s ms (n * n) → hintF q f ms = none → (∀ k : Nat, k < n * n → onlyV (mAt ms k) ≠ 0 → nth q.given k ≠ 0) → ∀ k : Nat, k < n * n → nth q.given k ≠ 0
  | 0, _, h, _, _, _, _, _ => by omega
  | f + 1, ms, hsum, hm, hS, hi, hh, hno => by
    have hnn : nextM q ms = nextM p ms := by unfold nextM; simp only [hpq]
    by_cases h0 : nextM q ms = 0
    · intro k hk
      exact hno k hk (hG ms hm hS hi (by rw [← hnn]; exact h0) k hk)
    · unfold hintF at hh
      rw [if_neg h0] at hh
      have hok := narM_ok (p := q) (t := nextM q ms) hm
      have hlt := narM_sum hm (nextM_ne h0)
      have hsub := (narM_subM (p := q) hp.hn (nextM q ms) hm).trans hS
      have hin := nar_in (t := nextM q ms) hs hp hr hm hi
      generalize narM q (nextM q ms) ms = ms' at hh hok hlt hsub hin
      split at hh
      · cases hh
      · rename_i hfk
        refine hintF_full hs hp hr hG hpq f ms' (by omega) hok hsub hin hh fun k hk ho hz => ?_
        unfold firstK at hfk
        have := List.find?_eq_none.1 hfk k (List.mem_range.2 (by rw [hok.len]; exact hk))
        rw [decide_eq_true_eq] at this
        exact this ⟨ho, hz⟩
end
theorem hint_full {p : Puz} {s xs : List Int} (hv : puzzleValid p = true) (hs : IsSol p s) (hG : GoodM p s p.size.toNat) (hx : GrdN xs p.size.toNat) (he : ExtG xs s) (hge : ∀ k : Nat, 0 < nth p.given k → 0 < nth xs k) (hh : hintB p xs = false) : ∀ k : Nat, k < p.size.toNat * p.size.toNat → 0 < nth xs k := by
  obtain ⟨hp, hg⟩ := puz_facts hv
  have hz := (PuzN.of hv).2
  have hl := sol_lat hv hs
  have hfit : fitsV p xs = true := by
    unfold fitsV
    rw [hv, fits_mono hp hx hs.1.1 he hs.2.2]
    have := hx.valid hp.hn
    rw [hz] at this
    rw [this]; rfl
  obtain ⟨qv, qp, qg⟩ := withP_valid hp hv hx hg
  have hlen : p.given.length = p.size.toNat * p.size.toNat := hg.len
  have hq : ∀ k : Nat, k < p.size.toNat * p.size.toNat → nth (withP p xs).given k = nth xs k := by
    intro k hk
    show nth (withL p.given xs) k = _
    rw [withL_nth (by omega)]
    split
    · rfl
    · rename_i h0
      have h1 := hx.val k (by rw [hx.len]; exact hk)
      have h2 := hg.val k (by omega)
      have h3 := hge k
      omega
  have hext : ExtG (withP p xs).given s := fun k hk => by
    by_cases hkl : k < p.size.toNat * p.size.toNat
    · rw [hq k hkl] at hk ⊢; exact he k hk
    · rw [nth_over (by rw [qg.len]; omega)] at hk; omega
  have hin := startM_in hl qp qg hext
  have hsub : SubM (startM (withP p xs)) (startM p) := fun k b hb => by
    by_cases hk : k < p.size.toNat * p.size.toNat
    · have e1 : mAt (startM (withP p xs)) k = if 0 < nth xs k then 2 ^ (nth xs k).toNat else 2 ^ (p.size.toNat + 1) - 2 := by
        rw [startM_at (by rw [qg.len]; exact hk), hq k hk]
        rfl
      rw [e1] at hb
      have e2 := startM_at (p := p) (k := k) (by omega)
      by_cases h0 : 0 < nth xs k
      · rw [if_pos h0, Nat.testBit_two_pow, decide_eq_true_eq] at hb
        have := startM_in hl hp hg hs.2.1 k hk
        rw [he k h0, hb] at this
        exact this
      · rw [if_neg h0] at hb
        rw [e2, if_neg (fun h => h0 (hge k h))]
        exact hb
    · rw [mAt_over (by rw [(startM_ok qp qg).len]; omega)] at hb
      simp at hb
  unfold hintB at hh
  have hnone : hintO p xs = none := by simpa using hh
  unfold hintO at hnone
  rw [if_pos hfit] at hnone
  have hm := startM_ok qp qg
  have hsum := hm.sum hp.hn
  have key := hintF_full (p := p) (q := withP p xs) hl qp (fits_parts hs.2.2).2.1 hG (fun t ms => rfl) 1000 _ (by omega) hm hsub hin hnone (fun k hk ho hz0 => by
    have e1 : mAt (startM (withP p xs)) k = 2 ^ (p.size.toNat + 1) - 2 := by
      rw [startM_at (by rw [qg.len]; exact hk), hz0]
      rfl
    rw [e1] at ho
    have hn := hp.hn
    rcases hn with e | e | e <;> rw [e] at ho <;> exact ho (by decide))
  intro k hk
  have h1 := key k hk
  rw [hq k hk] at h1
  have := hx.val k (by rw [hx.len]; exact hk)
  omega
theorem fol_full {p : Puz} {s : List Int} (hv : puzzleValid p = true) (hs : IsSol p s) (h1 : allL p = [s]) (hG : GoodM p s p.size.toNat) : ∀ (f : Nat) (xs : List Int), GrdN xs p.size.toNat → ExtG xs s → (∀ k : Nat, 0 < nth p.given k → 0 < nth xs k) → p.size.toNat * p.size.toNat < posN xs + f → (folF p f xs).1 = s ∧ posN s = posN xs + (folF p f xs).2
  | 0, xs, hx, he, hge, hf => by
    have : posN xs ≤ xs.length := List.countP_le_length
    have := hx.len
    omega
  | f + 1, xs, hx, he, hge, hf => by
    obtain ⟨hp, hg⟩ := puz_facts hv
    cases hb : hintB p xs with
    | false =>
      rw [folF_stop hb]
      have hfull := hint_full hv hs hG hx he hge hb
      have e : xs = s := ext_nth (by rw [hx.len, hs.1.1.len]) fun k hk => (he k (hfull k (by rw [← hx.len]; exact hk))).symm
      exact ⟨e, by rw [e]; rfl⟩
    | true =>
      rw [folF_step hb]
      obtain ⟨hfv, k, v, hk, c1, c2, c3, c4, c5, c6⟩ := hint_facts hb
      have hval := hint_sound (s := s) hb (by
        unfold extL
        rw [h1]
        simp [he])
      rw [c1, c2] at hval
      have hz := (PuzN.of hv).2
      rw [c1, c2, Int.toNat_natCast]
      have hset : ∀ i : Nat, nth (xs.set k (v : Int)) i = if i = k then (v : Int) else nth xs i := fun i => nth_setN xs k v i hk
      obtain ⟨r1, r2⟩ := fol_full hv hs h1 hG f (xs.set k (v : Int)) (hx.set (i := k) (v := v) hk (by omega)) (fun i hi => by
        rw [hset] at hi ⊢
        split
        · rename_i e; rw [e]; exact hval
        · rename_i e; rw [if_neg e] at hi; exact he i hi) (fun i hi => by
        rw [hset]
        split
        · omega
        · exact hge i hi) (by rw [posN_set hk c5 (by omega)]; omega)
      refine ⟨r1, ?_⟩
      rw [r2, posN_set hk c5 (by omega)]
      show _ = posN xs + ((folF p f (xs.set k (v : Int))).2 + 1)
      omega
theorem solve_facts {p : Puz} (h : 1 ≤ gradeV p ∧ gradeV p ≤ 4) : solvedV p (folV p p.given) = true ∧ folN p p.given = (p.given.length : Int) - gridFilled p.given p.size := by
  obtain ⟨s, hv, hs1, hG⟩ := grade_facts h
  obtain ⟨hp, hg⟩ := puz_facts hv
  have hz := (PuzN.of hv).2
  have hmem : s ∈ allL p := by rw [hs1]; simp
  have hsol := (allL_mem hv s).1 hmem
  have hgv : gridValid p.given p.size = true := by have := hg.valid hp.hn; rwa [hz] at this
  have hfit : fitsV p p.given = true := by
    unfold fitsV
    rw [hv, fits_mono hp hg hsol.1.1 hsol.2.1 hsol.2.2, hgv]
    rfl
  have h16 : p.size.toNat * p.size.toNat ≤ 16 := by rcases hp.hn with e | e | e <;> rw [e] <;> omega
  obtain ⟨r1, r2⟩ := fol_full hv hsol hs1 hG 17 p.given hg hsol.2.1 (fun k h => h) (by omega)
  have e1 : folV p p.given = s := by unfold folV; rw [if_pos hfit]; exact r1
  have e2 : folN p p.given = ((folF p 17 p.given).2 : Nat) := by unfold folN; rw [if_pos hfit]
  have e3 : posN s = s.length := by
    unfold posN
    rw [count_all]
    intro x hx
    obtain ⟨i, hi, rfl⟩ := List.getElem_of_mem hx
    have := hsol.1.2 i (by rw [← hsol.1.1.len]; exact hi)
    rw [nth_eq (by omega)] at this
    exact decide_eq_true this
  refine ⟨by rw [e1]; exact (solved_sol hv hsol.1.1).2 hmem, ?_⟩
  have e4 : gridFilled p.given p.size = (posN p.given : Int) := by
    unfold gridFilled
    rw [if_pos hgv]
    rfl
  rw [e2, e4]
  have := hsol.1.1.len
  have := hg.len
  omega
end Go.Lg
