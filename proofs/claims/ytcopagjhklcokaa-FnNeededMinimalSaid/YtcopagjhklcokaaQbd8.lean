/- GpGF, GpGG, GpJE, cut to what is needed. -/
import Derived.Test.YtcopagjhklcokaaQbc9
import Derived.Test.YtcopagjhklcokaaQbd1
import Derived.Test.YtcopagjhklcokaaQbd7
set_option linter.unusedSimpArgs false
set_option linter.unusedVariables false
set_option maxRecDepth 100000
namespace Go.Lg
open Go.Proofs
attribute [-go_sem] appendM lwF_cons
def LstO (H : Heap) (c : CV) (ls : List (List Int)) : Prop := ∃ oid og cs, c = .own oid og 0 ls.length none ∧ look H oid og = some ⟨og, 1, cs⟩ ∧ cs.length = ls.length ∧ ∀ i (h : i < ls.length), ∃ id g, cs[i]? = some (.own id g 0 ls[i].length none) ∧ look H id g = some ⟨g, 1, cl (eI .i64) ls[i]⟩
theorem LstO.shift {H0 H : Heap} {c : CV} {ls : List (List Int)} (h : LstO H c ls) : LstO (H0 ++ shiftH H0.length H) (shiftC H0.length c) ls := by
  obtain ⟨oid, og, cs, rfl, k1, k2, k3⟩ := h
  refine ⟨oid + H0.length, og, cs.map (shiftC H0.length), rfl, look_shiftH k1, by rw [List.length_map]; exact k2, fun i hi => ?_⟩
  obtain ⟨id, g, q1, q2⟩ := k3 i hi
  refine ⟨id + H0.length, g, by rw [List.getElem?_map, q1]; rfl, ?_⟩
  rw [look_shiftH q2]
  simp only [shiftB, shift_cl]
section
variable {P : Program} {o : Oper} {st : St} {K : KV} {fo : Operand} {xs : Array Operand} {ts : Array TypeId} {f : FuncId} {args : List AV}
end
def smD (p : Puz) : Prop := p.given.length ≤ 16 ∧ ruleSm p.rules 30 5
theorem smD.sm {p : Puz} (h : smD p) : smP p := ⟨by have := h.1; omega, by have := h.2.1; omega, fun r hr => by have := h.2.2 r hr; omega⟩
structure TrI (H HI : Heap) (id g : Nat) (B : Int) (g4 J g6 : Nat) (p : Puz) (c : CV) (zs : List Int) : Prop where
  out : look HI H.length g4 = some ⟨g4, 3, [.f (.int .i64 0), .f .nil, .f .nil]⟩
  puz : look HI J g6 = some ⟨g6, 3, cP p⟩
  grid : ∃ gid gg, c = .own gid gg 0 zs.length none ∧ look HI gid gg = some ⟨gg, 1, cl (eI .i64) zs⟩ ∧ H.length < gid ∧ gid ≠ J
  rd : RdAt HI id g B
  lt : id < H.length
  ln : H.length < J ∧ J < HI.length
  frm : ∀ k, k < H.length → k ≠ id → HI[k]? = H[k]?
section
variable {H HI H2 : Heap} {id g g4 J g6 : Nat} {B B' : Int} {p : Puz} {c : CV} {zs : List Int}
theorem TrI.mono (h : TrI H HI id g B g4 J g6 p c zs) (hb : B ≤ B') : TrI H HI id g B' g4 J g6 p c zs := { h with rd := h.rd.mono hb }
theorem TrI.step (h : TrI H HI id g B g4 J g6 p c zs) (hs : ∀ i, H.length ≤ i → i < HI.length → H2[i]? = HI[i]?) (hl : HI.length ≤ H2.length) (hr : RdAt H2 id g B') (hf : ∀ k, k < H.length → k ≠ id → H2[k]? = HI[k]?) : TrI H H2 id g B' g4 J g6 p c zs := by
  have hn := h.ln
  have hL : ∀ i g, H.length ≤ i → i < HI.length → look H2 i g = look HI i g := fun i g h1 h2 => by unfold look; rw [hs i h1 h2]
  obtain ⟨gid, gg, g1, g2, g3, g4⟩ := h.grid
  have hgl : gid < HI.length := (List.getElem?_eq_some_iff.1 (look_some g2).1).1
  exact { out := by rw [hL _ _ (Nat.le_refl _) (by omega)]; exact h.out
          puz := by rw [hL _ _ (by omega) (by omega)]; exact h.puz
          grid := ⟨gid, gg, g1, by rw [hL _ _ (by omega) hgl]; exact g2, g3, g4⟩
          rd := hr, lt := h.lt, ln := by omega
          frm := fun k hk hne => by rw [hf k hk hne]; exact h.frm k hk hne }
theorem TrI.pick (h : TrI H HI id g B g4 J g6 p c zs) (hr : RdAt H2 id g B') (hf : Frm HI H2 [id]) : TrI H H2 id g B' g4 J g6 p c zs := by
  have hl := h.lt
  exact h.step (fun i hi _ => hf.2 i (by simp; omega)) (by rw [hf.1]; exact Nat.le_refl _) hr fun k hk hne => hf.2 k (by simpa using hne)
theorem TrI.app {X : Heap} (h : TrI H HI id g B g4 J g6 p c zs) : TrI H (HI ++ X) id g B g4 J g6 p c zs := by
  have hn := h.ln
  exact h.step (fun i _ hi => List.getElem?_append_left hi) (by simp) h.rd.app fun k hk _ => List.getElem?_append_left (by omega)
theorem TrI.set (h : TrI H HI id g B g4 J g6 p c zs) {gid gg : Nat} (hc : c = .own gid gg 0 zs.length none) (k : Nat) (v : Int) : TrI H (HI.set gid (some ⟨gg, 1, cl (eI .i64) (zs.set k v)⟩)) id g B g4 J g6 p c (zs.set k v) := by
  have hn := h.ln
  have hl := h.lt
  obtain ⟨gid', gg', g1, g2, g3, g4⟩ := h.grid
  rw [hc] at g1
  cases g1
  have hgl : gid < HI.length := (List.getElem?_eq_some_iff.1 (look_some g2).1).1
  exact { out := by rw [look_set_ne' (by omega)]; exact h.out
          puz := by rw [look_set_ne' (by omega)]; exact h.puz
          grid := ⟨gid, gg, by rw [hc, List.length_set], look_set_eq' hgl, g3, g4⟩
          rd := h.rd.same (by rw [List.getElem?_set_ne (by omega)])
          lt := hl, ln := by rw [List.length_set]; exact hn
          frm := fun k hk hne => by rw [List.getElem?_set_ne (by omega)]; exact h.frm k hk hne }
end
def dPuz : AV → Prop := fun v => ∃ p : Puz, v = aP p ∧ smD p
theorem wf_u8' {xs : List Int} (h : ∀ x ∈ xs, (Lit.int .u8 x).wf = true) : ∀ x ∈ xs, 0 ≤ x ∧ x ≤ 255 := fun x hx => by
  have := h x hx
  simp [Lit.wf] at this
  have e1 : IntKind.u8.min = 0 := by decide
  have e2 : IntKind.u8.max = 255 := by decide
  omega
theorem RdAt.shift {H0 H : Heap} {id g : Nat} {B : Int} (h : RdAt H id g B) : RdAt (H0 ++ shiftH H0.length H) (id + H0.length) g B := by
  obtain ⟨sz, b, p, h1, h2⟩ := h
  exact ⟨sz, b, p, by rw [look_shiftH h1]; rfl, h2⟩
theorem OpS.mkRd {P : Program} {o : Oper} {st : St} {K : KV} {fo : Operand} {xs : Array Operand} {ts : Array TypeId} {f : FuncId} {args : List AV} (hc : RunCall P f args [] (fun v H' => ∃ g, v = .c (.ptr 0 g 0) ∧ RdAt H' 0 g 0 ∧ H'.length = 1)) (he : Enters P f) (ho : o.op = .call ⟨.value fo, xs, ts⟩) (ha : callArgs st fo xs = some (f, args)) (hf : args.all frozenA = true)
    (hk : ∀ g H', RdAt (st.h ++ H') st.h.length g 0 → H'.length = 1 → K (.c (.ptr st.h.length g 0)) (st.h ++ H')) : OpS P o st K :=
  OpS.mkQ hc he ho ha hf fun r H' ⟨g, h1, h2, h3⟩ => by
    subst h1
    refine ⟨rfl, ?_⟩
    have := hk g (shiftH st.h.length H') (by have := h2.shift (H0 := st.h); rwa [Nat.zero_add] at this) (by rw [shiftH_length]; exact h3)
    show K (.c (.ptr (0 + st.h.length) g 0)) _
    rw [Nat.zero_add]
    exact this
theorem DrawNeededRules_run (code : List Int) (hb : ∀ x ∈ code, 0 ≤ x ∧ x ≤ 255) (hl : code.length ≤ 2 ^ 40) : RunCall Try.prog 15 [rsl (eI .u8) code] [] (fun v _ => dPuz v) := by
  refine RunCall.cw (c := _) Try.func15 rfl (n := 6) Try.ntmps15 (rs := [.cell 2 26]) rfl ?_
  simp only [List.length_cons, List.length_nil, Nat.reduceAdd, Nat.reduceSub, List.replicate, List.cons_append, List.nil_append]
  simp (maxSteps := 1000000) (disch := omega) only [go_sem, Nat.reduceAdd, Nat.reduceMul, Nat.reduceSub, Nat.reduceEqDiff, Nat.reduceLeDiff]
  intro g4
  refine OpS.mkRd (l20Open_run code hb hl) (⟨_, Try.func59, rfl, rfl⟩ : Enters Try.prog 59) rfl rfl rfl ?_
  intro g H1 r1 hl1
  simp (maxSteps := 1000000) (disch := omega) only [go_sem, Nat.reduceAdd, Nat.reduceMul, Nat.reduceSub, Nat.reduceEqDiff, Nat.reduceLeDiff]
  refine OpS.run (l20Puzzle_run _ 1 g 0 9 r1 (by omega) (by omega)) (⟨_, Try.func58, rfl, rfl⟩ : Enters Try.prog 58) rfl rfl ?_
  rintro _ H2 ⟨⟨p, rfl, hp⟩, r2, f2⟩
  have h4 : look H2 0 g4 = some ⟨g4, 3, [.f (.int .i64 0), .f .nil, .f .nil]⟩ := by rw [f2.look (by simp)]; exact look_zero
  have hS : ∀ b, look (H2.set 0 (some ⟨g4, 3, b⟩)) 0 g4 = some ⟨g4, 3, b⟩ := fun b => look_set_eq' (List.getElem?_eq_some_iff.1 (look_some h4).1).1
  simp (maxSteps := 1000000) (disch := omega) only [go_sem, Nat.reduceAdd, Nat.reduceMul, Nat.reduceSub, Nat.reduceEqDiff, Nat.reduceLeDiff, h4, hS]
  exact ⟨_, HLe.refl _, p, rfl, hp⟩
end Go.Lg

set_option linter.unusedSimpArgs false
set_option linter.unusedVariables false
set_option maxRecDepth 100000
namespace Go.Lg
open Go.Proofs
attribute [-go_sem] appendM lwF_cons
theorem resV_ctt (P : Program) (s : List AV) (H : Heap) (t u w : Nat) (ty : TypeId) : resV P s H [.cell t ty, .tmp u, .tmp w] = (loadV P H ty (s.getD t .void)).map fun v => .tup [v, s.getD u .void, s.getD w .void] := by
  simp only [resV, resAll, resOne]
  cases loadV P H ty (s.getD t .void) <;> rfl
attribute [go_sem] resV_ctt
theorem aliveF_run : Reads Try.prog 18 [] (bool true) := by
  refine RunCall.cw (c := _) Try.func18 rfl (n := 4) Try.ntmps18 (rs := [.tmp 0]) rfl ?_
  simp only [List.length_cons, List.length_nil, Nat.reduceAdd, Nat.reduceSub, List.replicate, List.cons_append, List.nil_append]
  simp (maxSteps := 1000000) (disch := omega) only [go_sem, Nat.reduceAdd, Nat.reduceMul, Nat.reduceSub, Nat.reduceEqDiff, Nat.reduceLeDiff]
  intro g
  have hown : OwnI [some ⟨g, 1, [.f (.int .i64 1), .f (.int .i64 0), .f (.int .i64 0), .f (.int .i64 2)]⟩] (.own 0 g 0 4 none) [1, 0, 0, 2] [0] := OwnI.o 0 g none [1, 0, 0, 2] [] (by rw [look_zero]; rfl)
  refine OpS.rdD (GridFilled_run [1, 0, 0, 2] 2 (by simp)) (⟨_, Try.func53, rfl, rfl⟩ : Enters Try.prog 53) rfl rfl (snap_two hown.snap snapD_int) rfl ?_
  have e : gridFilled [1, 0, 0, 2] 2 = 2 := by decide
  rw [e]
  simp (maxSteps := 1000000) (disch := omega) only [go_sem, Nat.reduceAdd, Nat.reduceMul, Nat.reduceSub, Nat.reduceEqDiff, Nat.reduceLeDiff]
end Go.Lg

set_option linter.unusedSimpArgs false
set_option linter.unusedVariables false
set_option maxRecDepth 100000
namespace Go.Lg
open Go.Proofs
theorem law_FnNeededMinimal (code : List Int) (hl : code.length ≤ 9223372036854775807) (hw : ∀ x ∈ code, (Lit.int .u8 x).wf = true) : Reads Try.prog 4 [rsl (eI .u8) code] (bool true) := by
  refine RunCall.cw (c := _) Try.func4 rfl (n := 56) Try.ntmps4 (rs := [.tmp 2]) rfl ?_
  simp only [List.length_cons, List.length_nil, Nat.reduceAdd, Nat.reduceSub, List.replicate, List.cons_append, List.nil_append]
  simp (maxSteps := 1000000) (disch := omega) only [go_sem, Nat.reduceAdd, Nat.reduceMul, Nat.reduceSub, Nat.reduceEqDiff, Nat.reduceLeDiff]
  (first | with_reducible refine condK_dec (fun h1 => ?_) (fun h1 => ?_) | with_reducible refine condK_ndec (fun h1 => ?_) (fun h1 => ?_) | with_reducible refine condK_nb (fun h1 => ?_) (fun h1 => ?_) | refine condK_b (fun h1 => ?_) (fun h1 => ?_))
  · simp (maxSteps := 1000000) (disch := omega) only [go_sem, Nat.reduceAdd, Nat.reduceMul, Nat.reduceSub, Nat.reduceEqDiff, Nat.reduceLeDiff]
  simp (maxSteps := 1000000) (disch := omega) only [go_sem, Nat.reduceAdd, Nat.reduceMul, Nat.reduceSub, Nat.reduceEqDiff, Nat.reduceLeDiff]
  refine OpS.mkF (DrawNeededRules_run code (wf_u8' hw) (by omega)) (⟨_, Try.func15, rfl, rfl⟩ : Enters Try.prog 15) rfl rfl rfl ?_
  rintro _ ⟨p, rfl, hp⟩
  refine ⟨rfl, rfl, ?_⟩
  have hs := hp.sm
  obtain ⟨hn1, hn2⟩ := need_sm hs
  have hr1 := hs.2.1
  have hn3 := hn1.1
  simp (maxSteps := 1000000) (disch := omega) only [go_sem, Nat.reduceAdd, Nat.reduceMul, Nat.reduceSub, Nat.reduceEqDiff, Nat.reduceLeDiff]
  intro g
  first | refine OpS.mk (NeededRules_rd p hs) (⟨_, Try.func16, rfl, rfl⟩ : Enters Try.prog 16) rfl rfl rfl rfl rfl ?_ | refine Loud.mk (NeededRules_rd p hs) (⟨_, Try.func16, rfl, rfl⟩ : Enters Try.prog 16) rfl rfl rfl rfl rfl ?_
  simp (maxSteps := 1000000) (disch := omega) only [go_sem, Nat.reduceAdd, Nat.reduceMul, Nat.reduceSub, Nat.reduceEqDiff, Nat.reduceLeDiff]
  first | refine OpS.mk (sNeededRules_run p hs) (⟨_, Try.func17, rfl, rfl⟩ : Enters Try.prog 17) rfl rfl rfl rfl rfl ?_ | refine Loud.mk (sNeededRules_run p hs) (⟨_, Try.func17, rfl, rfl⟩ : Enters Try.prog 17) rfl rfl rfl rfl rfl ?_
  simp (maxSteps := 1000000) (disch := omega) only [go_sem, Nat.reduceAdd, Nat.reduceMul, Nat.reduceSub, Nat.reduceEqDiff, Nat.reduceLeDiff]
  (first | with_reducible refine condK_dec (fun h2 => ?_) (fun h2 => ?_) | with_reducible refine condK_ndec (fun h2 => ?_) (fun h2 => ?_) | with_reducible refine condK_nb (fun h2 => ?_) (fun h2 => ?_) | refine condK_b (fun h2 => ?_) (fun h2 => ?_))
  rotate_left
  · simp (maxSteps := 1000000) (disch := omega) only [go_sem, Nat.reduceAdd, Nat.reduceMul, Nat.reduceSub, Nat.reduceEqDiff, Nat.reduceLeDiff]
    first | refine OpS.rd (aliveF_run) (⟨_, Try.func18, rfl, rfl⟩ : Enters Try.prog 18) rfl rfl rfl rfl ?_ | refine Loud.rd (aliveF_run) (⟨_, Try.func18, rfl, rfl⟩ : Enters Try.prog 18) rfl rfl rfl rfl ?_
    simp (maxSteps := 1000000) (disch := omega) only [go_sem, Nat.reduceAdd, Nat.reduceMul, Nat.reduceSub, Nat.reduceEqDiff, Nat.reduceLeDiff]
  obtain ⟨a1, a2⟩ := need_again h2
  have hs2 : smP (wiR p (needV p)) := ⟨hs.1, hn1⟩
  have hrun := NeededRules_rd (wiR p (needV p)) hs2
  rw [a1, a2] at hrun
  simp (maxSteps := 1000000) (disch := omega) only [go_sem, Nat.reduceAdd, Nat.reduceMul, Nat.reduceSub, Nat.reduceEqDiff, Nat.reduceLeDiff]
  first | refine OpS.mk (hrun) (⟨_, Try.func16, rfl, rfl⟩ : Enters Try.prog 16) rfl rfl rfl rfl rfl ?_ | refine Loud.mk (hrun) (⟨_, Try.func16, rfl, rfl⟩ : Enters Try.prog 16) rfl rfl rfl rfl rfl ?_
  simp (maxSteps := 1000000) (disch := omega) only [go_sem, Nat.reduceAdd, Nat.reduceMul, Nat.reduceSub, Nat.reduceEqDiff, Nat.reduceLeDiff]
end Go.Lg
