/- GpGF, GpGG, GpJE, GpJF, cut to what is needed. -/
import Derived.Test.YtcopagjhklcokaaQbc9
import Derived.Test.YtcopagjhklcokaaQbd1
import Derived.Test.YtcopagjhklcokaaQbd7
set_option linter.unusedSimpArgs false
set_option linter.unusedVariables false
set_option maxRecDepth 100000
namespace Go.Lg
open Go.Proofs
attribute [-go_sem] appendM lwF_cons
def LstO (H : Heap) (c : CV) (ls : List (List Int)) : Prop := ∃ oid og cs, c = .own oid og 0 ls.length none ∧ look H oid og = some ⟨og, 1, cs⟩ ∧ cs.length = ls.length ∧ ∀ i (h : i < ls.length), ∃ id g, cs[i]? = some (.own id g 0 ls[i].length none) ∧ look H id g = some ⟨g, 1, cl (eI .i64) ls[i]⟩
theorem LstO.shift {H0 H : Heap} {c : CV} {ls : List (List Int)} (h : LstO H c ls) : LstO (H0 ++ shiftH H0.length H) (shiftC H0.length c) ls := by
  obtain ⟨oid, og, cs, rfl, k1, k2, k3⟩ := h
  refine ⟨oid + H0.length, og, cs.map (shiftC H0.length), rfl, look_shiftH k1, by rw [List.length_map]; exact k2, fun i hi => ?_⟩
  obtain ⟨id, g, q1, q2⟩ := k3 i hi
  refine ⟨id + H0.length, g, by rw [List.getElem?_map, q1]; rfl, ?_⟩
  rw [look_shiftH q2]
  simp only [shiftB, shift_cl]
section
variable {P : Program} {o : Oper} {st : St} {K : KV} {fo : Operand} {xs : Array Operand} {ts : Array TypeId} {f : FuncId} {args : List AV}
end
def smD (p : Puz) : Prop := p.given.length ≤ 16 ∧ ruleSm p.rules 30 5
theorem smD.sm {p : Puz} (h : smD p) : smP p := ⟨by have := h.1; omega, by have := h.2.1; omega, fun r hr => by have := h.2.2 r hr; omega⟩
structure TrI (H HI : Heap) (id g : Nat) (B : Int) (g4 J g6 : Nat) (p : Puz) (c : CV) (zs : List Int) : Prop where
  out : look HI H.length g4 = some ⟨g4, 3, [.f (.int .i64 0), .f .nil, .f .nil]⟩
  puz : look HI J g6 = some ⟨g6, 3, cP p⟩
  grid : ∃ gid gg, c = .own gid gg 0 zs.length none ∧ look HI gid gg = some ⟨gg, 1, cl (eI .i64) zs⟩ ∧ H.length < gid ∧ gid ≠ J
  rd : RdAt HI id g B
  lt : id < H.length
  ln : H.length < J ∧ J < HI.length
  frm : ∀ k, k < H.length → k ≠ id → HI[k]? = H[k]?
section
variable {H HI H2 : Heap} {id g g4 J g6 : Nat} {B B' : Int} {p : Puz} {c : CV} {zs : List Int}
theorem TrI.mono (h : TrI H HI id g B g4 J g6 p c zs) (hb : B ≤ B') : TrI H HI id g B' g4 J g6 p c zs := { h with rd := h.rd.mono hb }
theorem TrI.step (h : TrI H HI id g B g4 J g6 p c zs) (hs : ∀ i, H.length ≤ i → i < HI.length → H2[i]? = HI[i]?) (hl : HI.length ≤ H2.length) (hr : RdAt H2 id g B') (hf : ∀ k, k < H.length → k ≠ id → H2[k]? = HI[k]?) : TrI H H2 id g B' g4 J g6 p c zs := by
  have hn := h.ln
  have hL : ∀ i g, H.length ≤ i → i < HI.length → look H2 i g = look HI i g := fun i g h1 h2 => by unfold look; rw [hs i h1 h2]
  obtain ⟨gid, gg, g1, g2, g3, g4⟩ := h.grid
  have hgl : gid < HI.length := (List.getElem?_eq_some_iff.1 (look_some g2).1).1
  exact { out := by rw [hL _ _ (Nat.le_refl _) (by omega)]; exact h.out
          puz := by rw [hL _ _ (by omega) (by omega)]; exact h.puz
          grid := ⟨gid, gg, g1, by rw [hL _ _ (by omega) hgl]; exact g2, g3, g4⟩
          rd := hr, lt := h.lt, ln := by omega
          frm := fun k hk hne => by rw [hf k hk hne]; exact h.frm k hk hne }
theorem TrI.pick (h : TrI H HI id g B g4 J g6 p c zs) (hr : RdAt H2 id g B') (hf : Frm HI H2 [id]) : TrI H H2 id g B' g4 J g6 p c zs := by
  have hl := h.lt
  exact h.step (fun i hi _ => hf.2 i (by simp; omega)) (by rw [hf.1]; exact Nat.le_refl _) hr fun k hk hne => hf.2 k (by simpa using hne)
theorem TrI.app {X : Heap} (h : TrI H HI id g B g4 J g6 p c zs) : TrI H (HI ++ X) id g B g4 J g6 p c zs := by
  have hn := h.ln
  exact h.step (fun i _ hi => List.getElem?_append_left hi) (by simp) h.rd.app fun k hk _ => List.getElem?_append_left (by omega)
theorem TrI.set (h : TrI H HI id g B g4 J g6 p c zs) {gid gg : Nat} (hc : c = .own gid gg 0 zs.length none) (k : Nat) (v : Int) : TrI H (HI.set gid (some ⟨gg, 1, cl (eI .i64) (zs.set k v)⟩)) id g B g4 J g6 p c (zs.set k v) := by
  have hn := h.ln
  have hl := h.lt
  obtain ⟨gid', gg', g1, g2, g3, g4⟩ := h.grid
  rw [hc] at g1
  cases g1
  have hgl : gid < HI.length := (List.getElem?_eq_some_iff.1 (look_some g2).1).1
  exact { out := by rw [look_set_ne' (by omega)]; exact h.out
          puz := by rw [look_set_ne' (by omega)]; exact h.puz
          grid := ⟨gid, gg, by rw [hc, List.length_set], look_set_eq' hgl, g3, g4⟩
          rd := h.rd.same (by rw [List.getElem?_set_ne (by omega)])
          lt := hl, ln := by rw [List.length_set]; exact hn
          frm := fun k hk hne => by rw [List.getElem?_set_ne (by omega)]; exact h.frm k hk hne }
end
def dPuz : AV → Prop := fun v => ∃ p : Puz, v = aP p ∧ smD p
theorem wf_u8' {xs : List Int} (h : ∀ x ∈ xs, (Lit.int .u8 x).wf = true) : ∀ x ∈ xs, 0 ≤ x ∧ x ≤ 255 := fun x hx => by
  have := h x hx
  simp [Lit.wf] at this
  have e1 : IntKind.u8.min = 0 := by decide
  have e2 : IntKind.u8.max = 255 := by decide
  omega
theorem RdAt.shift {H0 H : Heap} {id g : Nat} {B : Int} (h : RdAt H id g B) : RdAt (H0 ++ shiftH H0.length H) (id + H0.length) g B := by
  obtain ⟨sz, b, p, h1, h2⟩ := h
  exact ⟨sz, b, p, by rw [look_shiftH h1]; rfl, h2⟩
theorem OpS.mkRd {P : Program} {o : Oper} {st : St} {K : KV} {fo : Operand} {xs : Array Operand} {ts : Array TypeId} {f : FuncId} {args : List AV} (hc : RunCall P f args [] (fun v H' => ∃ g, v = .c (.ptr 0 g 0) ∧ RdAt H' 0 g 0 ∧ H'.length = 1)) (he : Enters P f) (ho : o.op = .call ⟨.value fo, xs, ts⟩) (ha : callArgs st fo xs = some (f, args)) (hf : args.all frozenA = true)
    (hk : ∀ g H', RdAt (st.h ++ H') st.h.length g 0 → H'.length = 1 → K (.c (.ptr st.h.length g 0)) (st.h ++ H')) : OpS P o st K :=
  OpS.mkQ hc he ho ha hf fun r H' ⟨g, h1, h2, h3⟩ => by
    subst h1
    refine ⟨rfl, ?_⟩
    have := hk g (shiftH st.h.length H') (by have := h2.shift (H0 := st.h); rwa [Nat.zero_add] at this) (by rw [shiftH_length]; exact h3)
    show K (.c (.ptr (0 + st.h.length) g 0)) _
    rw [Nat.zero_add]
    exact this
theorem DrawNeededRules_run (code : List Int) (hb : ∀ x ∈ code, 0 ≤ x ∧ x ≤ 255) (hl : code.length ≤ 2 ^ 40) : RunCall Try.prog 15 [rsl (eI .u8) code] [] (fun v _ => dPuz v) := by
  refine RunCall.cw (c := _) Try.func15 rfl (n := 6) Try.ntmps15 (rs := [.cell 2 26]) rfl ?_
  simp only [List.length_cons, List.length_nil, Nat.reduceAdd, Nat.reduceSub, List.replicate, List.cons_append, List.nil_append]
  simp (maxSteps := 1000000) (disch := omega) only [go_sem, Nat.reduceAdd, Nat.reduceMul, Nat.reduceSub, Nat.reduceEqDiff, Nat.reduceLeDiff]
  intro g4
  refine OpS.mkRd (l20Open_run code hb hl) (⟨_, Try.func59, rfl, rfl⟩ : Enters Try.prog 59) rfl rfl rfl ?_
  intro g H1 r1 hl1
  simp (maxSteps := 1000000) (disch := omega) only [go_sem, Nat.reduceAdd, Nat.reduceMul, Nat.reduceSub, Nat.reduceEqDiff, Nat.reduceLeDiff]
  refine OpS.run (l20Puzzle_run _ 1 g 0 9 r1 (by omega) (by omega)) (⟨_, Try.func58, rfl, rfl⟩ : Enters Try.prog 58) rfl rfl ?_
  rintro _ H2 ⟨⟨p, rfl, hp⟩, r2, f2⟩
  have h4 : look H2 0 g4 = some ⟨g4, 3, [.f (.int .i64 0), .f .nil, .f .nil]⟩ := by rw [f2.look (by simp)]; exact look_zero
  have hS : ∀ b, look (H2.set 0 (some ⟨g4, 3, b⟩)) 0 g4 = some ⟨g4, 3, b⟩ := fun b => look_set_eq' (List.getElem?_eq_some_iff.1 (look_some h4).1).1
  simp (maxSteps := 1000000) (disch := omega) only [go_sem, Nat.reduceAdd, Nat.reduceMul, Nat.reduceSub, Nat.reduceEqDiff, Nat.reduceLeDiff, h4, hS]
  exact ⟨_, HLe.refl _, p, rfl, hp⟩
end Go.Lg

set_option linter.unusedSimpArgs false
set_option linter.unusedVariables false
set_option maxRecDepth 100000
namespace Go.Lg
open Go.Proofs
attribute [-go_sem] appendM lwF_cons
theorem resV_ctt (P : Program) (s : List AV) (H : Heap) (t u w : Nat) (ty : TypeId) : resV P s H [.cell t ty, .tmp u, .tmp w] = (loadV P H ty (s.getD t .void)).map fun v => .tup [v, s.getD u .void, s.getD w .void] := by
  simp only [resV, resAll, resOne]
  cases loadV P H ty (s.getD t .void) <;> rfl
attribute [go_sem] resV_ctt
theorem aliveF_run : Reads Try.prog 18 [] (bool true) := by
  refine RunCall.cw (c := _) Try.func18 rfl (n := 4) Try.ntmps18 (rs := [.tmp 0]) rfl ?_
  simp only [List.length_cons, List.length_nil, Nat.reduceAdd, Nat.reduceSub, List.replicate, List.cons_append, List.nil_append]
  simp (maxSteps := 1000000) (disch := omega) only [go_sem, Nat.reduceAdd, Nat.reduceMul, Nat.reduceSub, Nat.reduceEqDiff, Nat.reduceLeDiff]
  intro g
  have hown : OwnI [some ⟨g, 1, [.f (.int .i64 1), .f (.int .i64 0), .f (.int .i64 0), .f (.int .i64 2)]⟩] (.own 0 g 0 4 none) [1, 0, 0, 2] [0] := OwnI.o 0 g none [1, 0, 0, 2] [] (by rw [look_zero]; rfl)
  refine OpS.rdD (GridFilled_run [1, 0, 0, 2] 2 (by simp)) (⟨_, Try.func53, rfl, rfl⟩ : Enters Try.prog 53) rfl rfl (snap_two hown.snap snapD_int) rfl ?_
  have e : gridFilled [1, 0, 0, 2] 2 = 2 := by decide
  rw [e]
  simp (maxSteps := 1000000) (disch := omega) only [go_sem, Nat.reduceAdd, Nat.reduceMul, Nat.reduceSub, Nat.reduceEqDiff, Nat.reduceLeDiff]
theorem sameIntsF_run (xs ys : List Int) (hx : xs.length ≤ 2 ^ 40) : Reads Try.prog 21 [ints xs, ints ys] (bool (decide (xs = ys))) := by
  refine RunCall.cw (c := _) Try.func21 rfl (n := 26) Try.ntmps21 (rs := [.tmp 4]) rfl ?_
  simp only [List.length_cons, List.length_nil, Nat.reduceAdd, Nat.reduceSub, List.replicate, List.cons_append, List.nil_append]
  simp (maxSteps := 1000000) (disch := omega) only [go_sem, Nat.reduceAdd, Nat.reduceMul, Nat.reduceSub, Nat.reduceEqDiff, Nat.reduceLeDiff]
  (first | with_reducible refine condK_dec (fun h => ?_) (fun h => ?_) | with_reducible refine condK_ndec (fun h => ?_) (fun h => ?_) | with_reducible refine condK_nb (fun h => ?_) (fun h => ?_) | refine condK_b (fun h => ?_) (fun h => ?_))
  rotate_left
  · simp (maxSteps := 1000000) (disch := omega) only [go_sem, Nat.reduceAdd, Nat.reduceMul, Nat.reduceSub, Nat.reduceEqDiff, Nat.reduceLeDiff]
    rw [eq_comm, decide_eq_false_iff_not]
    intro h2
    exact h (by rw [h2])
  have hl : xs.length = ys.length := by omega
  simp (maxSteps := 1000000) (disch := omega) only [go_sem, Nat.reduceAdd, Nat.reduceMul, Nat.reduceSub, Nat.reduceEqDiff, Nat.reduceLeDiff]
  refine loop_rule (fun i : Nat => xs.length - i) (fun i => i ≤ xs.length ∧ ∀ j : Nat, j < i → nth xs j = nth ys j) (fun i => [.k, .k, .a, .a, .a, .p (int i), .a, .a, .a, .a, .a, .a, .a, .a, .a, .a, .a, .a, .a, .a, .a, .a, .a, .a, .a, .a]) (fun i => []) 0
    ⟨Nat.zero_le _, fun j hj => absurd hj (Nat.not_lt_zero _)⟩ (by simp (maxSteps := 1000000) (disch := omega) only [go_sem, Nat.reduceAdd, Nat.reduceMul, Nat.reduceSub, Nat.reduceEqDiff, Nat.reduceLeDiff]; rfl) (hle_nil _) ?_
  rintro i ⟨hi, hall⟩
  simp (maxSteps := 1000000) (disch := omega) only [go_sem, Nat.reduceAdd, Nat.reduceMul, Nat.reduceSub, Nat.reduceEqDiff, Nat.reduceLeDiff]
  (first | with_reducible refine condK_dec (fun h => ?_) (fun h => ?_) | with_reducible refine condK_ndec (fun h => ?_) (fun h => ?_) | with_reducible refine condK_nb (fun h => ?_) (fun h => ?_) | refine condK_b (fun h => ?_) (fun h => ?_))
  · have h : i < xs.length := by omega
    simp (maxSteps := 1000000) (disch := omega) only [go_sem, Nat.reduceAdd, Nat.reduceMul, Nat.reduceSub, Nat.reduceEqDiff, Nat.reduceLeDiff]
    refine drawP_q foll (by kernel_rfl) ?_
    simp (maxSteps := 1000000) (disch := omega) only [go_sem, Nat.reduceBEq, Bool.true_or, Nat.reduceAdd, Nat.reduceMul, Nat.reduceSub, Nat.reduceEqDiff, Nat.reduceLeDiff]
    (first | with_reducible refine condK_dec (fun h2 => ?_) (fun h2 => ?_) | with_reducible refine condK_ndec (fun h2 => ?_) (fun h2 => ?_) | with_reducible refine condK_nb (fun h2 => ?_) (fun h2 => ?_) | refine condK_b (fun h2 => ?_) (fun h2 => ?_))
    · simp (maxSteps := 1000000) (disch := omega) only [go_sem, Nat.reduceAdd, Nat.reduceMul, Nat.reduceSub, Nat.reduceEqDiff, Nat.reduceLeDiff]
      refine ⟨i + 1, ⟨⟨by omega, fun j hj => ?_⟩, by omega⟩, by push_cast; omega, hle_nil _⟩
      rcases Nat.lt_succ_iff_lt_or_eq.1 hj with hj | rfl
      · exact hall j hj
      · exact h2
    · simp (maxSteps := 1000000) (disch := omega) only [go_sem, Nat.reduceAdd, Nat.reduceMul, Nat.reduceSub, Nat.reduceEqDiff, Nat.reduceLeDiff]
      rw [eq_comm, decide_eq_false_iff_not]
      intro h3
      exact h2 (by rw [h3])
  · simp (maxSteps := 1000000) (disch := omega) only [go_sem, Nat.reduceAdd, Nat.reduceMul, Nat.reduceSub, Nat.reduceEqDiff, Nat.reduceLeDiff]
    rw [decide_eq_true (ext_nth hl fun j hj => hall j (by omega))]
end Go.Lg

set_option linter.unusedSimpArgs false
set_option linter.unusedVariables false
set_option maxRecDepth 100000
namespace Go.Lg
open Go.Proofs
theorem law_FnNeededMinimal (code : List Int) (hl : code.length ≤ 9223372036854775807) (hw : ∀ x ∈ code, (Lit.int .u8 x).wf = true) : Reads Try.prog 4 [rsl (eI .u8) code] (bool true) := by
  refine RunCall.cw (c := _) Try.func4 rfl (n := 56) Try.ntmps4 (rs := [.tmp 2]) rfl ?_
  simp only [List.length_cons, List.length_nil, Nat.reduceAdd, Nat.reduceSub, List.replicate, List.cons_append, List.nil_append]
  simp (maxSteps := 1000000) (disch := omega) only [go_sem, Nat.reduceAdd, Nat.reduceMul, Nat.reduceSub, Nat.reduceEqDiff, Nat.reduceLeDiff]
  (first | with_reducible refine condK_dec (fun h1 => ?_) (fun h1 => ?_) | with_reducible refine condK_ndec (fun h1 => ?_) (fun h1 => ?_) | with_reducible refine condK_nb (fun h1 => ?_) (fun h1 => ?_) | refine condK_b (fun h1 => ?_) (fun h1 => ?_))
  · simp (maxSteps := 1000000) (disch := omega) only [go_sem, Nat.reduceAdd, Nat.reduceMul, Nat.reduceSub, Nat.reduceEqDiff, Nat.reduceLeDiff]
  simp (maxSteps := 1000000) (disch := omega) only [go_sem, Nat.reduceAdd, Nat.reduceMul, Nat.reduceSub, Nat.reduceEqDiff, Nat.reduceLeDiff]
  refine OpS.mkF (DrawNeededRules_run code (wf_u8' hw) (by omega)) (⟨_, Try.func15, rfl, rfl⟩ : Enters Try.prog 15) rfl rfl rfl ?_
  rintro _ ⟨p, rfl, hp⟩
  refine ⟨rfl, rfl, ?_⟩
  have hs := hp.sm
  obtain ⟨hn1, hn2⟩ := need_sm hs
  have hr1 := hs.2.1
  have hn3 := hn1.1
  simp (maxSteps := 1000000) (disch := omega) only [go_sem, Nat.reduceAdd, Nat.reduceMul, Nat.reduceSub, Nat.reduceEqDiff, Nat.reduceLeDiff]
  intro g
  first | refine OpS.mk (NeededRules_rd p hs) (⟨_, Try.func16, rfl, rfl⟩ : Enters Try.prog 16) rfl rfl rfl rfl rfl ?_ | refine Loud.mk (NeededRules_rd p hs) (⟨_, Try.func16, rfl, rfl⟩ : Enters Try.prog 16) rfl rfl rfl rfl rfl ?_
  simp (maxSteps := 1000000) (disch := omega) only [go_sem, Nat.reduceAdd, Nat.reduceMul, Nat.reduceSub, Nat.reduceEqDiff, Nat.reduceLeDiff]
  first | refine OpS.mk (sNeededRules_run p hs) (⟨_, Try.func17, rfl, rfl⟩ : Enters Try.prog 17) rfl rfl rfl rfl rfl ?_ | refine Loud.mk (sNeededRules_run p hs) (⟨_, Try.func17, rfl, rfl⟩ : Enters Try.prog 17) rfl rfl rfl rfl rfl ?_
  simp (maxSteps := 1000000) (disch := omega) only [go_sem, Nat.reduceAdd, Nat.reduceMul, Nat.reduceSub, Nat.reduceEqDiff, Nat.reduceLeDiff]
  (first | with_reducible refine condK_dec (fun h2 => ?_) (fun h2 => ?_) | with_reducible refine condK_ndec (fun h2 => ?_) (fun h2 => ?_) | with_reducible refine condK_nb (fun h2 => ?_) (fun h2 => ?_) | refine condK_b (fun h2 => ?_) (fun h2 => ?_))
  rotate_left
  · simp (maxSteps := 1000000) (disch := omega) only [go_sem, Nat.reduceAdd, Nat.reduceMul, Nat.reduceSub, Nat.reduceEqDiff, Nat.reduceLeDiff]
    first | refine OpS.rd (aliveF_run) (⟨_, Try.func18, rfl, rfl⟩ : Enters Try.prog 18) rfl rfl rfl rfl ?_ | refine Loud.rd (aliveF_run) (⟨_, Try.func18, rfl, rfl⟩ : Enters Try.prog 18) rfl rfl rfl rfl ?_
    simp (maxSteps := 1000000) (disch := omega) only [go_sem, Nat.reduceAdd, Nat.reduceMul, Nat.reduceSub, Nat.reduceEqDiff, Nat.reduceLeDiff]
  obtain ⟨a1, a2⟩ := need_again h2
  have hs2 : smP (wiR p (needV p)) := ⟨hs.1, hn1⟩
  have hrun := NeededRules_rd (wiR p (needV p)) hs2
  rw [a1, a2] at hrun
  simp (maxSteps := 1000000) (disch := omega) only [go_sem, Nat.reduceAdd, Nat.reduceMul, Nat.reduceSub, Nat.reduceEqDiff, Nat.reduceLeDiff]
  first | refine OpS.mk (hrun) (⟨_, Try.func16, rfl, rfl⟩ : Enters Try.prog 16) rfl rfl rfl rfl rfl ?_ | refine Loud.mk (hrun) (⟨_, Try.func16, rfl, rfl⟩ : Enters Try.prog 16) rfl rfl rfl rfl rfl ?_
  simp (maxSteps := 1000000) (disch := omega) only [go_sem, Nat.reduceAdd, Nat.reduceMul, Nat.reduceSub, Nat.reduceEqDiff, Nat.reduceLeDiff]
end Go.Lg

set_option linter.unusedSimpArgs false
set_option linter.unusedVariables false
set_option maxRecDepth 100000
namespace Go.Lg
open Go.Proofs
attribute [-go_sem] appendM lwF_cons
theorem first_sub {p : Puz} (h : needOk p = true) : firstV (wiR p (needV p)) = firstV p := by
  obtain ⟨h1, h2, _, h4⟩ := need_facts h
  have ho : oneV p = true := by simp only [needOk, Bool.and_eq_true] at h; exact h.2
  have hv : puzzleValid p = true := by simp only [needOk, Bool.and_eq_true] at h; exact h.1
  rw [one_len, decide_eq_true_eq] at h2 ho
  obtain ⟨s, hs⟩ := List.length_eq_one_iff.1 ho
  obtain ⟨t, ht⟩ := List.length_eq_one_iff.1 h2
  have hst := sol_sub (p := p) (rs := p.rules) hv h4 s (by show s ∈ allL p; rw [hs]; simp)
  rw [ht, List.mem_singleton] at hst
  unfold firstV
  rw [allS_take, allS_take, hs, ht, hst]
theorem first_len {p : Puz} (h : needOk p = true) : (firstV p).length = p.given.length := by
  have h2 : countV p 2 = 1 := by
    have := one_iff p
    rw [← ok_iff, h] at this
    exact of_decide_eq_true this
  obtain ⟨_, s, _, h3, h4⟩ := one_facts h2
  rw [h3, h4]
theorem snapPo {H : Heap} {z : Int} {zs : List Int} {rc : CV} {rs : List Rul} (h : OwnL eR 3 H rc rs) : snapD H (.agg [.f (.int .i64 z), .f (fints zs), rc]) = some (aP ⟨z, zs, rs⟩) := by
  have e1 : ∀ x : Int, frzC H (.f (.int .i64 x)) = some (.f (.int .i64 x)) := fun _ => rfl
  have e2 : frzC H (.f (fints zs)) = some (.f (fints zs)) := rfl
  simp only [snapD, List.mapM_cons, List.mapM_nil, e1, e2, h.frzC, Option.bind_eq_bind, Option.pure_def, Option.bind_some, Option.map_some]
theorem fl_split (rs : List Rul) (k : Nat) (hk : k ≤ rs.length) : (fl eR rs).take (k * 3) = fl eR (rs.take k) ∧ (fl eR rs).drop (k * 3) = fl eR (rs.drop k) := by
  have h1 : (fl eR (rs.take k)).length = k * 3 := by
    have : (fl eR (rs.take k)).length = (rs.take k).length * 3 := fl_length _
    rw [this, List.length_take, Nat.min_eq_left hk]
  have h2 : fl eR rs = fl eR (rs.take k) ++ fl eR (rs.drop k) := by
    unfold fl
    rw [← List.flatMap_append, List.take_append_drop]
  rw [h2]
  exact ⟨by rw [← h1, List.take_left], by rw [← h1, List.drop_left]⟩
theorem sliceF_pre {P : Program} {H : Heap} {t e : TypeId} {ti ei : TI} {k : Nat} {rs : List Rul} (ht : tinf P t = some ti) (hk : ti.k = .slice e) (he : tinf P e = some ei) (hs : ei.size = 3) (hn : k ≤ rs.length) :
    sliceV P H t (rsl eR rs) none (some k) none = some (rsl eR (rs.take k)) := by
  have e1 : (rs.take k).length = k := by rw [List.length_take]; omega
  simp only [rsl, fsl, sliceV, ht, hk, he, Option.getD_none, Option.getD_some, hs]
  rw [if_pos ⟨by omega, by omega, hn, by simp⟩]
  simp [(fl_split rs k hn).1, e1]
theorem sliceF_suf {P : Program} {H : Heap} {t e : TypeId} {ti ei : TI} {k : Nat} {rs : List Rul} (ht : tinf P t = some ti) (hk : ti.k = .slice e) (he : tinf P e = some ei) (hs : ei.size = 3) (hn : k ≤ rs.length) :
    sliceV P H t (rsl eR rs) (some k) none none = some (rsl eR (rs.drop k)) := by
  have e1 : (fl eR (rs.drop k)).length = (rs.length - k) * 3 := by
    have : (fl eR (rs.drop k)).length = (rs.drop k).length * 3 := fl_length _
    rw [this, List.length_drop]
  simp only [rsl, fsl, sliceV, ht, hk, he, Option.getD_none, Option.getD_some, hs]
  rw [if_pos ⟨hn, by omega, by omega, by simp⟩]
  simp [(fl_split rs k hn).2, List.length_drop, List.take_of_length_le (Nat.le_of_eq e1)]
set_option maxHeartbeats 2000000 in
theorem law_FnNeededRules (code : List Int) (hl : code.length ≤ 9223372036854775807) (hw : ∀ x ∈ code, (Lit.int .u8 x).wf = true) : Reads Try.prog 3 [rsl (eI .u8) code] (bool true) := by
  refine RunCall.cw (c := _) Try.func3 rfl (n := 117) Try.ntmps3 (rs := [.tmp 2]) rfl ?_
  simp only [List.length_cons, List.length_nil, Nat.reduceAdd, Nat.reduceSub, List.replicate, List.cons_append, List.nil_append]
  simp (maxSteps := 1000000) (disch := omega) only [go_sem, Nat.reduceAdd, Nat.reduceMul, Nat.reduceSub, Nat.reduceEqDiff, Nat.reduceLeDiff]
  (first | with_reducible refine condK_dec (fun h1 => ?_) (fun h1 => ?_) | with_reducible refine condK_ndec (fun h1 => ?_) (fun h1 => ?_) | with_reducible refine condK_nb (fun h1 => ?_) (fun h1 => ?_) | refine condK_b (fun h1 => ?_) (fun h1 => ?_))
  · simp (maxSteps := 1000000) (disch := omega) only [go_sem, Nat.reduceAdd, Nat.reduceMul, Nat.reduceSub, Nat.reduceEqDiff, Nat.reduceLeDiff]
  simp (maxSteps := 1000000) (disch := omega) only [go_sem, Nat.reduceAdd, Nat.reduceMul, Nat.reduceSub, Nat.reduceEqDiff, Nat.reduceLeDiff]
  refine OpS.mkF (DrawNeededRules_run code (wf_u8' hw) (by omega)) (⟨_, Try.func15, rfl, rfl⟩ : Enters Try.prog 15) rfl rfl rfl ?_
  rintro _ ⟨p, rfl, hp⟩
  refine ⟨rfl, rfl, ?_⟩
  have hs := hp.sm
  obtain ⟨hn1, hn2⟩ := need_sm hs
  have hr1 := hs.2.1
  have hn3 := hn1.1
  simp (maxSteps := 1000000) (disch := omega) only [go_sem, Nat.reduceAdd, Nat.reduceMul, Nat.reduceSub, Nat.reduceEqDiff, Nat.reduceLeDiff]
  intro g
  first | refine OpS.mk (NeededRules_rd p hs) (⟨_, Try.func16, rfl, rfl⟩ : Enters Try.prog 16) rfl rfl rfl rfl rfl ?_ | refine Loud.mk (NeededRules_rd p hs) (⟨_, Try.func16, rfl, rfl⟩ : Enters Try.prog 16) rfl rfl rfl rfl rfl ?_
  simp (maxSteps := 1000000) (disch := omega) only [go_sem, Nat.reduceAdd, Nat.reduceMul, Nat.reduceSub, Nat.reduceEqDiff, Nat.reduceLeDiff]
  first | refine OpS.mk (sNeededRules_run p hs) (⟨_, Try.func17, rfl, rfl⟩ : Enters Try.prog 17) rfl rfl rfl rfl rfl ?_ | refine Loud.mk (sNeededRules_run p hs) (⟨_, Try.func17, rfl, rfl⟩ : Enters Try.prog 17) rfl rfl rfl rfl rfl ?_
  simp (maxSteps := 1000000) (disch := omega) only [go_sem, Nat.reduceAdd, Nat.reduceMul, Nat.reduceSub, Nat.reduceEqDiff, Nat.reduceLeDiff]
  (first | with_reducible refine condK_dec (fun h2 => ?_) (fun h2 => ?_) | with_reducible refine condK_ndec (fun h2 => ?_) (fun h2 => ?_) | with_reducible refine condK_nb (fun h2 => ?_) (fun h2 => ?_) | refine condK_b (fun h2 => ?_) (fun h2 => ?_))
  rotate_left
  · have e : needV p = [] := by unfold needV; rw [if_neg (by rw [h2]; simp)]
    have hd : decide (((needV p).length : Int) = 0) = true := by rw [e]; rfl
    simp (maxSteps := 1000000) (disch := omega) only [go_sem, Nat.reduceAdd, Nat.reduceMul, Nat.reduceSub, Nat.reduceEqDiff, Nat.reduceLeDiff, hd]
    first | refine OpS.rd (aliveF_run) (⟨_, Try.func18, rfl, rfl⟩ : Enters Try.prog 18) rfl rfl rfl rfl ?_ | refine Loud.rd (aliveF_run) (⟨_, Try.func18, rfl, rfl⟩ : Enters Try.prog 18) rfl rfl rfl rfl ?_
    simp (maxSteps := 1000000) (disch := omega) only [go_sem, Nat.reduceAdd, Nat.reduceMul, Nat.reduceSub, Nat.reduceEqDiff, Nat.reduceLeDiff]
  obtain ⟨a1, a2, a3, a4⟩ := need_facts h2
  have hfs := first_sub h2
  have hfl := first_len h2
  generalize hW : needV p = W at hn1 hn2 hn3 a1 a2 a3 a4 hfs ⊢
  simp (maxSteps := 1000000) (disch := omega) only [go_sem, Nat.reduceAdd, Nat.reduceMul, Nat.reduceSub, Nat.reduceEqDiff, Nat.reduceLeDiff]
  refine loop_rule (fun k : Nat => W.length - k) (fun k => k ≤ W.length) (fun k => [.a, .a, .a, .k, .k, .a, .k, .a, .p (int k), .a, .a, .a, .a, .a, .a, .a, .a, .a, .a, .a, .a, .a, .a, .a, .a, .a, .a, .a, .a, .a, .a, .a, .a, .a, .a, .a, .a, .a, .a, .a, .a, .a, .a, .a, .a, .a, .a, .a, .a, .a, .a, .a, .a, .a, .a, .a, .a, .a, .a, .a, .a, .a, .a, .a, .a, .a, .a, .a, .a, .a, .a, .a, .a, .a, .a, .a, .a, .a, .a, .a, .a, .a, .a, .a, .a, .a, .a, .a, .a, .a, .a, .a, .a, .a, .a, .a, .a, .a, .a, .a, .a, .a, .a, .a, .a, .a, .a, .a, .a, .a, .a, .a, .a, .a, .a, .a, .a]) (fun _ => [some ⟨g, 3, cP p⟩]) 0 (Nat.zero_le _) (by simp (maxSteps := 1000000) (disch := omega) only [go_sem, Nat.reduceAdd, Nat.reduceMul, Nat.reduceSub, Nat.reduceEqDiff, Nat.reduceLeDiff]; rfl) (HLe.refl _) ?_
  intro k hk'
  simp (maxSteps := 1000000) (disch := omega) only [go_sem, Nat.reduceAdd, Nat.reduceMul, Nat.reduceSub, Nat.reduceEqDiff, Nat.reduceLeDiff]
  (first | with_reducible refine condK_dec (fun h5 => ?_) (fun h5 => ?_) | with_reducible refine condK_ndec (fun h5 => ?_) (fun h5 => ?_) | with_reducible refine condK_nb (fun h5 => ?_) (fun h5 => ?_) | refine condK_b (fun h5 => ?_) (fun h5 => ?_))
  · have h5 : k < W.length := by omega
    simp (maxSteps := 1000000) (disch := omega) only [go_sem, Nat.reduceAdd, Nat.reduceMul, Nat.reduceSub, Nat.reduceEqDiff, Nat.reduceLeDiff]
    refine drawP_lM [1, 2, 3, 5, 6, 7, 8, 0, 4] [] none [9, 10] [false, true] [0, 0, 0, 6, 15, 0, 0, 64, 224, 511, 1023] foll (by kernel_rfl) ?_
    have hpre := fun H => sliceF_pre (H := H) (rs := W) ti24 rfl ti32 rfl (k := k) hk'
    have hsuf := fun H => sliceF_suf (H := H) (rs := W) ti24 rfl ti32 rfl (k := k + 1) h5
    have hix : ((k : Int)).toNat = k := Int.toNat_natCast k
    have hix2 : ((k : Int) + 1).toNat = k + 1 := by omega
    iterate 2 (rw [lwF_cons]; simp (maxSteps := 1000000) (disch := omega) only [go_sem, Nat.reduceAdd, Nat.reduceMul, Nat.reduceSub, Nat.reduceEqDiff, Nat.reduceLeDiff])
    rw [lwF_cons]
    simp (maxSteps := 1000000) (disch := omega) only [go_sem, Nat.reduceAdd, Nat.reduceMul, Nat.reduceSub, Nat.reduceEqDiff, Nat.reduceLeDiff, hix, hpre]
    iterate 3 (rw [lwF_cons]; simp (maxSteps := 1000000) (disch := omega) only [go_sem, Nat.reduceAdd, Nat.reduceMul, Nat.reduceSub, Nat.reduceEqDiff, Nat.reduceLeDiff])
    rw [lwF_cons]
    simp (maxSteps := 1000000) (disch := omega) only [go_sem, Nat.reduceAdd, Nat.reduceMul, Nat.reduceSub, Nat.reduceEqDiff, Nat.reduceLeDiff, hix2, hsuf]
    rw [lwF_cons]
    simp (maxSteps := 1000000) (disch := omega) only [go_sem, Nat.reduceAdd, Nat.reduceMul, Nat.reduceSub, Nat.reduceEqDiff, Nat.reduceLeDiff]
    intro g3
    rw [lwF_cons]
    simp (maxSteps := 1000000) (disch := omega) only [go_sem, Nat.reduceAdd, Nat.reduceMul, Nat.reduceSub, Nat.reduceEqDiff, Nat.reduceLeDiff]
    have htl : (W.take k).length = k := by rw [List.length_take]; omega
    have hdl : (W.drop (k + 1)).length = W.length - (k + 1) := List.length_drop ..
    refine appendM_own (E := eR) (xs := []) (ys := W.take k) (sliceOf_of' ti24 rfl ti32) ⟨rfl, rfl, by decide, by decide⟩ rfl (look_of (b := ⟨g3, 3, cl eR []⟩) rfl) ⟨by simp, by omega⟩ elems_f ?_
    intro g4
    rw [htl]
    simp (maxSteps := 1000000) (disch := omega) only [go_sem, Nat.reduceAdd, Nat.reduceMul, Nat.reduceSub, Nat.reduceEqDiff, Nat.reduceLeDiff, Nat.zero_add]
    refine appendM_own (E := eR) (xs := W.take k) (ys := W.drop (k + 1)) (sliceOf_of' ti24 rfl ti32) ⟨rfl, rfl, by decide, by decide⟩ htl (look_of (b := ⟨g4, 3, cl eR (W.take k)⟩) rfl) ⟨by omega, by omega⟩ elems_f ?_
    intro g5
    rw [← erase_take]
    have hel : k + (W.drop (k + 1)).length = (W.eraseIdx k).length := by rw [List.length_eraseIdx, if_pos h5, hdl]; omega
    rw [hel]
    simp (maxSteps := 1000000) (disch := omega) only [go_sem, Nat.reduceAdd, Nat.reduceMul, Nat.reduceSub, Nat.reduceEqDiff, Nat.reduceLeDiff]
    have hown : OwnL eR 3 [some ⟨g, 3, cP p⟩, some ⟨g5, 3, cl eR (W.eraseIdx k)⟩] (.own 1 g5 0 (W.eraseIdx k).length none) (W.eraseIdx k) := OwnL.o 1 g5 _ (look_of (b := ⟨g5, 3, cl eR (W.eraseIdx k)⟩) rfl)
    have hq : decide (countV (wiR p (W.eraseIdx k)) 2 = 1) = false := by
      rw [one_iff]
      have := a3 k h5
      simpa using this
    have hkk : decide ((nth W k).kind = (nth W k).kind) = true := decide_eq_true rfl
    refine drawP_lM [0, 1, 2, 3, 4, 5, 6, 7, 8, 9, 10, 11, 12, 13, 14, 15, 16] [] none [17, 18, 19, 20] [] [0, 0, 3, 7, 15, 0, 0, 96, 224, 480, 1023, 2047, 4095, 8191, 4095, 20479, 4095, 131071, 262143, 524287, 1048575] foll (by kernel_rfl) ?_
    repeat (rw [lwF_cons]; simp (maxSteps := 1000000) (disch := omega) only [go_sem, Nat.reduceAdd, Nat.reduceMul, Nat.reduceSub, Nat.reduceEqDiff, Nat.reduceLeDiff])
    have hrun := CountSolutions_run (wiR p (W.eraseIdx k)) 2 ⟨hs.1, smRs_erase hn1⟩
    refine OpS.rdD hrun (⟨_, Try.func19, rfl, rfl⟩ : Enters Try.prog 19) rfl rfl (snap_two (snapPo hown) snapD_int) rfl ?_
    simp (maxSteps := 1000000) (disch := omega) only [go_sem, Nat.reduceAdd, Nat.reduceMul, Nat.reduceSub, Nat.reduceEqDiff, Nat.reduceLeDiff, hq]
    exact ⟨k + 1, by omega, by push_cast; rfl, HLe.app _ _⟩
  · simp (maxSteps := 1000000) (disch := omega) only [go_sem, Nat.reduceAdd, Nat.reduceMul, Nat.reduceSub, Nat.reduceEqDiff, Nat.reduceLeDiff]
    intro g2
    have hsW : smP (wiR p W) := ⟨hs.1, hn1⟩
    first | refine OpS.mk (SolveFirst_run p hs) (⟨_, Try.func20, rfl, rfl⟩ : Enters Try.prog 20) rfl rfl rfl rfl rfl ?_ | refine Loud.mk (SolveFirst_run p hs) (⟨_, Try.func20, rfl, rfl⟩ : Enters Try.prog 20) rfl rfl rfl rfl rfl ?_
    simp (maxSteps := 1000000) (disch := omega) only [go_sem, Nat.reduceAdd, Nat.reduceMul, Nat.reduceSub, Nat.reduceEqDiff, Nat.reduceLeDiff]
    have hrun := SolveFirst_run (wiR p W) hsW
    rw [hfs] at hrun
    first | refine OpS.mk (hrun) (⟨_, Try.func20, rfl, rfl⟩ : Enters Try.prog 20) rfl rfl rfl rfl rfl ?_ | refine Loud.mk (hrun) (⟨_, Try.func20, rfl, rfl⟩ : Enters Try.prog 20) rfl rfl rfl rfl rfl ?_
    simp (maxSteps := 1000000) (disch := omega) only [go_sem, Nat.reduceAdd, Nat.reduceMul, Nat.reduceSub, Nat.reduceEqDiff, Nat.reduceLeDiff]
    have hq : decide (countV (wiR p W) 2 = 1) = true := by rw [one_iff]; exact a2
    first | refine OpS.rd (CountSolutions_run (wiR p W) 2 hsW) (⟨_, Try.func19, rfl, rfl⟩ : Enters Try.prog 19) rfl rfl rfl rfl ?_ | refine Loud.rd (CountSolutions_run (wiR p W) 2 hsW) (⟨_, Try.func19, rfl, rfl⟩ : Enters Try.prog 19) rfl rfl rfl rfl ?_
    simp (maxSteps := 1000000) (disch := omega) only [go_sem, Nat.reduceAdd, Nat.reduceMul, Nat.reduceSub, Nat.reduceEqDiff, Nat.reduceLeDiff]
    simp (maxSteps := 1000000) (disch := omega) only [go_sem, Nat.reduceAdd, Nat.reduceMul, Nat.reduceSub, Nat.reduceEqDiff, Nat.reduceLeDiff, hq]
    have hfl2 : (firstV p).length ≤ 2 ^ 40 := by have := hp.1; omega
    first | refine OpS.rd (sameIntsF_run (firstV p) (firstV p) hfl2) (⟨_, Try.func21, rfl, rfl⟩ : Enters Try.prog 21) rfl rfl rfl rfl ?_ | refine Loud.rd (sameIntsF_run (firstV p) (firstV p) hfl2) (⟨_, Try.func21, rfl, rfl⟩ : Enters Try.prog 21) rfl rfl rfl rfl ?_
    simp (maxSteps := 1000000) (disch := omega) only [go_sem, Nat.reduceAdd, Nat.reduceMul, Nat.reduceSub, Nat.reduceEqDiff, Nat.reduceLeDiff]
    omega
end Go.Lg
