/- GpGG, GpIA, GpIB, GpNB, GpNC, GpMO, cut to what is needed. -/
import Derived.Test.YtcopagjhklcokaaRce6
import Derived.Test.YtcopagjhklcokaaRcd7
import Derived.Test.YtcopagjhklcokaaRce5
import Derived.Test.YtcopagjhklcokaaRce2
import Derived.Laws.StructEq
import Derived.Test.YtcopagjhklcokaaRce1
import Derived.Test.YtcopagjhklcokaaRcb9
open Nat(reduceAdd reduceMul reduceSub reduceEqDiff reduceLeDiff)
set_option linter.unusedSimpArgs false
set_option linter.unusedVariables false
set_option maxRecDepth 100000
namespace Go.Lg
open Go.Proofs
attribute [-go_sem] appendM lwF_cons
theorem resV_ctt (P : Program) (s : List AV) (H : Heap) (t u w : Nat) (ty : TypeId) : resV P s H [.cell t ty, .tmp u, .tmp w] = (loadV P H ty (s.getD t .void)).map fun v => .tup [v, s.getD u .void, s.getD w .void] := by
  simp only [resV, resAll, resOne]
  cases loadV P H ty (s.getD t .void) <;> rfl
attribute [go_sem] resV_ctt
theorem DrawNextHint_run (code : List Int) (hb : ∀ x ∈ code, 0 ≤ x ∧ x ≤ 255) (hl : code.length ≤ 2 ^ 40) : RunCall Try.prog 50 [rsl (eI .u8) code] [] (fun v _ => dTry v) := by
  refine RunCall.cw (c := _) Try.func50 rfl (n := 9) Try.ntmps50 (rs := [.cell 2 26, .tmp 3]) rfl ?_
  simp only [List.length_cons, List.length_nil, Nat.reduceAdd, Nat.reduceSub, List.replicate, List.cons_append, List.nil_append]
  simp(maxSteps:=999999)(disch:=omega)only[go_sem,reduceAdd,reduceMul,reduceSub,reduceEqDiff,reduceLeDiff]
  intro g4
  refine OpS.mkRd (l20Open_run code hb hl) (⟨_, Try.func59, rfl, rfl⟩ : Enters Try.prog 59) rfl rfl rfl ?_
  intro g H1 r1 hl1
  simp(maxSteps:=999999)(disch:=omega)only[go_sem,reduceAdd,reduceMul,reduceSub,reduceEqDiff,reduceLeDiff]
  refine OpS.run (l20Try_run _ 1 g 0 12 r1 (by omega) (by omega)) (⟨_, Try.func68, rfl, rfl⟩ : Enters Try.prog 68) rfl rfl ?_
  rintro _ H2 ⟨⟨p, zs, rfl, hp, hz⟩, r2, f2⟩
  have h4 : look H2 0 g4 = some ⟨g4, 3, [.f (.int .i64 0), .f .nil, .f .nil]⟩ := by rw [f2.look (by simp)]; exact look_zero
  have hS : ∀ b, look (H2.set 0 (some ⟨g4, 3, b⟩)) 0 g4 = some ⟨g4, 3, b⟩ := fun b => look_set_eq' (List.getElem?_eq_some_iff.1 (look_some h4).1).1
  simp(maxSteps:=999999)(disch:=omega)only[go_sem,reduceAdd,reduceMul,reduceSub,reduceEqDiff,reduceLeDiff, h4, hS]
  exact ⟨_, HLe.refl _, p, zs, rfl, hp, hz⟩
theorem DrawFollowHints_run (code : List Int) (hb : ∀ x ∈ code, 0 ≤ x ∧ x ≤ 255) (hl : code.length ≤ 2 ^ 40) : RunCall Try.prog 51 [rsl (eI .u8) code] [] (fun v _ => dTry v) := by
  refine RunCall.cw (c := _) Try.func51 rfl (n := 9) Try.ntmps51 (rs := [.cell 2 26, .tmp 3]) rfl ?_
  simp only [List.length_cons, List.length_nil, Nat.reduceAdd, Nat.reduceSub, List.replicate, List.cons_append, List.nil_append]
  simp(maxSteps:=999999)(disch:=omega)only[go_sem,reduceAdd,reduceMul,reduceSub,reduceEqDiff,reduceLeDiff]
  intro g4
  refine OpS.mkRd (l20Open_run code hb hl) (⟨_, Try.func59, rfl, rfl⟩ : Enters Try.prog 59) rfl rfl rfl ?_
  intro g H1 r1 hl1
  simp(maxSteps:=999999)(disch:=omega)only[go_sem,reduceAdd,reduceMul,reduceSub,reduceEqDiff,reduceLeDiff]
  refine OpS.run (l20Try_run _ 1 g 0 12 r1 (by omega) (by omega)) (⟨_, Try.func68, rfl, rfl⟩ : Enters Try.prog 68) rfl rfl ?_
  rintro _ H2 ⟨⟨p, zs, rfl, hp, hz⟩, r2, f2⟩
  have h4 : look H2 0 g4 = some ⟨g4, 3, [.f (.int .i64 0), .f .nil, .f .nil]⟩ := by rw [f2.look (by simp)]; exact look_zero
  have hS : ∀ b, look (H2.set 0 (some ⟨g4, 3, b⟩)) 0 g4 = some ⟨g4, 3, b⟩ := fun b => look_set_eq' (List.getElem?_eq_some_iff.1 (look_some h4).1).1
  simp(maxSteps:=999999)(disch:=omega)only[go_sem,reduceAdd,reduceMul,reduceSub,reduceEqDiff,reduceLeDiff, h4, hS]
  exact ⟨_, HLe.refl _, p, zs, rfl, hp, hz⟩
theorem aliveF_run : Reads Try.prog 18 [] (bool true) := by
  refine RunCall.cw (c := _) Try.func18 rfl (n := 4) Try.ntmps18 (rs := [.tmp 0]) rfl ?_
  simp only [List.length_cons, List.length_nil, Nat.reduceAdd, Nat.reduceSub, List.replicate, List.cons_append, List.nil_append]
  simp(maxSteps:=999999)(disch:=omega)only[go_sem,reduceAdd,reduceMul,reduceSub,reduceEqDiff,reduceLeDiff]
  intro g
  have hown : OwnI [some ⟨g, 1, [.f (.int .i64 1), .f (.int .i64 0), .f (.int .i64 0), .f (.int .i64 2)]⟩] (.own 0 g 0 4 none) [1, 0, 0, 2] [0] := OwnI.o 0 g none [1, 0, 0, 2] [] (by rw [look_zero]; rfl)
  refine OpS.rdD (GridFilled_run [1, 0, 0, 2] 2 (by simp)) (⟨_, Try.func53, rfl, rfl⟩ : Enters Try.prog 53) rfl rfl (snap_two hown.snap snapD_int) rfl ?_
  have e : gridFilled [1, 0, 0, 2] 2 = 2 := by decide
  rw [e]
  simp(maxSteps:=999999)(disch:=omega)only[go_sem,reduceAdd,reduceMul,reduceSub,reduceEqDiff,reduceLeDiff]
theorem sameIntsF_run (xs ys : List Int) (hx : xs.length ≤ 2 ^ 40) : Reads Try.prog 21 [ints xs, ints ys] (bool (decide (xs = ys))) := by
  refine RunCall.cw (c := _) Try.func21 rfl (n := 26) Try.ntmps21 (rs := [.tmp 4]) rfl ?_
  simp only [List.length_cons, List.length_nil, Nat.reduceAdd, Nat.reduceSub, List.replicate, List.cons_append, List.nil_append]
  simp(maxSteps:=999999)(disch:=omega)only[go_sem,reduceAdd,reduceMul,reduceSub,reduceEqDiff,reduceLeDiff]
  ((first | with_reducible refine condK_dec ?_ ?_ | with_reducible refine condK_ndec ?_ ?_ | with_reducible refine condK_nb ?_ ?_ | refine condK_b ?_ ?_) <;> intro h)
  rotate_left
  · simp(maxSteps:=999999)(disch:=omega)only[go_sem,reduceAdd,reduceMul,reduceSub,reduceEqDiff,reduceLeDiff]
    rw [eq_comm, decide_eq_false_iff_not]
    intro h2
    exact h (by rw [h2])
  have hl : xs.length = ys.length := by omega
  simp(maxSteps:=999999)(disch:=omega)only[go_sem,reduceAdd,reduceMul,reduceSub,reduceEqDiff,reduceLeDiff]
  refine loop_rule (fun i : Nat => xs.length - i) (fun i => i ≤ xs.length ∧ ∀ j : Nat, j < i → nth xs j = nth ys j) (fun i => [.k, .k, .a, .a, .a, .p (int i), .a, .a, .a, .a, .a, .a, .a, .a, .a, .a, .a, .a, .a, .a, .a, .a, .a, .a, .a, .a]) (fun i => []) 0
    ⟨Nat.zero_le _, fun j hj => absurd hj (Nat.not_lt_zero _)⟩ (by simp(maxSteps:=999999)(disch:=omega)only[go_sem,reduceAdd,reduceMul,reduceSub,reduceEqDiff,reduceLeDiff]; rfl) (hle_nil _) ?_
  rintro i ⟨hi, hall⟩
  simp(maxSteps:=999999)(disch:=omega)only[go_sem,reduceAdd,reduceMul,reduceSub,reduceEqDiff,reduceLeDiff]
  ((first | with_reducible refine condK_dec ?_ ?_ | with_reducible refine condK_ndec ?_ ?_ | with_reducible refine condK_nb ?_ ?_ | refine condK_b ?_ ?_) <;> intro h)
  · have h : i < xs.length := by omega
    simp(maxSteps:=999999)(disch:=omega)only[go_sem,reduceAdd,reduceMul,reduceSub,reduceEqDiff,reduceLeDiff]
    refine drawP_q foll (by kernel_rfl) ?_
    simp (maxSteps := 1000000) (disch := omega) only [go_sem, Nat.reduceBEq, Bool.true_or, Nat.reduceAdd, Nat.reduceMul, Nat.reduceSub, Nat.reduceEqDiff, Nat.reduceLeDiff]
    ((first | with_reducible refine condK_dec ?_ ?_ | with_reducible refine condK_ndec ?_ ?_ | with_reducible refine condK_nb ?_ ?_ | refine condK_b ?_ ?_) <;> intro h2)
    · simp(maxSteps:=999999)(disch:=omega)only[go_sem,reduceAdd,reduceMul,reduceSub,reduceEqDiff,reduceLeDiff]
      refine ⟨i + 1, ⟨⟨by omega, fun j hj => ?_⟩, by omega⟩, by push_cast; omega, hle_nil _⟩
      rcases Nat.lt_succ_iff_lt_or_eq.1 hj with hj | rfl
      · exact hall j hj
      · exact h2
    · simp(maxSteps:=999999)(disch:=omega)only[go_sem,reduceAdd,reduceMul,reduceSub,reduceEqDiff,reduceLeDiff]
      rw [eq_comm, decide_eq_false_iff_not]
      intro h3
      exact h2 (by rw [h3])
  · simp(maxSteps:=999999)(disch:=omega)only[go_sem,reduceAdd,reduceMul,reduceSub,reduceEqDiff,reduceLeDiff]
    rw [decide_eq_true (ext_nth hl fun j hj => hall j (by omega))]
end Go.Lg

set_option linter.unusedSimpArgs false
set_option linter.unusedVariables false
set_option maxRecDepth 100000
namespace Go.Lg
open Go.Proofs
theorem can_ext {p : Puz} (hv : puzzleValid p = true) {xs : List Int} (hx : GrdN xs p.size.toNat) : canV p xs = decide (0 < (extL p xs).length) := by
  have hz : ((p.size.toNat : Nat) : Int) = p.size := (PuzN.of hv).2
  unfold canV
  rw [if_pos ⟨hv, by have := hx.valid (PuzN.of hv).1.hn; rwa [hz] at this⟩, fin_len hv hx, decide_eq_decide]
  omega
end Go.Lg

set_option linter.unusedSimpArgs false
set_option linter.unusedVariables false
set_option maxRecDepth 100000
namespace Go.Lg
open Go.Proofs
theorem ext_set {p : Puz} {zs : List Int} {k : Nat} (hk : k < zs.length) (h0 : ¬ 0 < nth zs k) (v : Nat) : extL p (zs.set k ((v : Int) + 1)) = (extL p zs).filter fun s => decide (nth s k = (v : Int) + 1) := by
  unfold extL
  rw [List.filter_filter]
  congr 1
  funext s
  rw [← Bool.decide_and, decide_eq_decide]
  constructor
  · intro h
    have h1 := h k (by rw [nth_setN _ _ _ _ hk, if_pos rfl]; omega)
    rw [nth_setN _ _ _ _ hk, if_pos rfl] at h1
    refine ⟨h1, fun i hi => ?_⟩
    have hik : i ≠ k := fun h => by rw [h] at hi; exact h0 hi
    have h2 := h i (by rw [nth_setN _ _ _ _ hk, if_neg hik]; exact hi)
    rwa [nth_setN _ _ _ _ hk, if_neg hik] at h2
  · rintro ⟨h1, h2⟩ i hi
    rw [nth_setN _ _ _ _ hk] at hi ⊢
    split
    · rename_i hik; rw [hik]; exact h1
    · rename_i hik; rw [if_neg hik] at hi; exact h2 i hi
theorem fin_ext {p : Puz} (hv : puzzleValid p = true) {xs : List Int} (hx : GrdN xs p.size.toNat) {m : Int} (hm : 1 ≤ m ∧ m ≤ 600) : finishV p xs m = min m ((extL p xs).length : Int) := by
  have hz : ((p.size.toNat : Nat) : Int) = p.size := (PuzN.of hv).2
  unfold finishV
  rw [if_pos ⟨hv, by have := hx.valid (PuzN.of hv).1.hn; rwa [hz] at this, hm⟩, fin_len hv hx]
  omega
theorem fin_600 {p : Puz} (hv : puzzleValid p = true) {xs : List Int} (hx : GrdN xs p.size.toNat) : finishV p xs 600 = ((extL p xs).length : Int) := by
  rw [fin_ext hv hx (by omega)]
  have := extL_le p xs
  omega
end Go.Lg

set_option linter.unusedSimpArgs false
set_option linter.unusedVariables false
set_option maxRecDepth 100000
namespace Go.Lg
open Go.Proofs
def ThreeI (P : Program) (t : TypeId) : Prop :=
  P.underlying t = some (.struct (P.fieldsOf t)) ∧ P.stoodInHeld t = false ∧ P.eqGuardType P.depth t = false ∧
  ∃ f1 f2 f3 : Field, ∃ i1 i2 i3, (P.fieldsOf t).toList = [f1, f2, f3] ∧ f1.name ≠ "_" ∧ f2.name ≠ "_" ∧ f3.name ≠ "_" ∧ f1.offset = 0 ∧ f2.offset = 1 ∧ f3.offset = 2 ∧
    tinf P f1.type = some i1 ∧ tinf P f2.type = some i2 ∧ tinf P f3.type = some i3 ∧ i1.k = .int .i64 ∧ i2.k = .int .i64 ∧ i3.k = .int .i64
theorem run_part_int {P : Program} {w : World} {t : TypeId} {ti : TI} {cs : Array Value} {off : Nat} {v : Value} (h : tinf P t = some ti) (hk : ti.k = .int .i64) (hv : cs[off]? = some v) : (part t cs off).run P w = .ok v w :=
  run_part h (by rw [hk]; rfl) hv
theorem under_int {P : Program} {t : TypeId} {ti : TI} (h : tinf P t = some ti) (hk : ti.k = .int .i64) : P.underlying t = some (.int .i64) := by
  obtain ⟨inf, d, z', h1, h2, h3, h4, h5, h6, h7⟩ := tinf_some h
  rw [h5] at hk
  cases d <;> simp [tkOf] at hk
  rename_i k
  subst hk
  exact h2
theorem run_eq3 {P : Program} {w : World} {t : TypeId} {xs ys : Array Value} {a1 a2 a3 b1 b2 b3 : Int} (h : ThreeI P t)
    (hx1 : xs[0]? = some (.int .i64 a1)) (hx2 : xs[1]? = some (.int .i64 a2)) (hx3 : xs[2]? = some (.int .i64 a3))
    (hy1 : ys[0]? = some (.int .i64 b1)) (hy2 : ys[1]? = some (.int .i64 b2)) (hy3 : ys[2]? = some (.int .i64 b3)) :
    (Op.equalIn 10000 t (.agg xs) (.agg ys)).run P w = .ok (a1 == b1 && (a2 == b2 && a3 == b3)) w := by
  obtain ⟨h1, h2, h3, f1, f2, f3, i1, i2, i3, hfs, n1, n2, n3, o1, o2, o3, t1, t2, t3, k1, k2, k3⟩ := h
  rw [run_equalIn_agg (d := 9999) (w := w) t xs ys h1 h2, hfs]
  simp only [Op.eqFields, n1, n2, n3, ne_eq, not_false_eq_true, if_true, Sem.run_bind, o1, o2, o3, run_part_int t1 k1 hx1, run_part_int t1 k1 hy1, run_part_int t2 k2 hx2, run_part_int t2 k2 hy2, run_part_int t3 k3 hx3, run_part_int t3 k3 hy3, Result.andThen_ok, run_equalIn_int _ 9998 _ _ _ _ _ (under_int t1 k1), run_equalIn_int _ 9998 _ _ _ _ _ (under_int t2 k2), run_equalIn_int _ 9998 _ _ _ _ _ (under_int t3 k3), Sem.run_ite]
  cases a1 == b1 <;> cases a2 == b2 <;> cases a3 == b3 <;> rfl
theorem va_hint {w : World} {X : Cx} {H : Heap} {a : Hnt} {xv : Value} (h : VA w X H (aH a) xv) : ∃ xs : Array Value, xv = .agg xs ∧ xs[0]? = some (.int .i64 a.tech) ∧ xs[1]? = some (.int .i64 a.cell) ∧ xs[2]? = some (.int .i64 a.val) := by
  cases h with
  | agg cs vs hs hcs =>
    obtain ⟨u0, e0, g0⟩ := hcs 0 (by simp)
    obtain ⟨u1, e1, g1⟩ := hcs 1 (by simp)
    obtain ⟨u2, e2, g2⟩ := hcs 2 (by simp)
    simp only [List.getElem_cons_zero, List.getElem_cons_succ] at g0 g1 g2
    have q0 : u0 = .int .i64 a.tech := by cases g0; rfl
    have q1 : u1 = .int .i64 a.cell := by cases g1; rfl
    have q2 : u2 = .int .i64 a.val := by cases g2; rfl
    subst q0 q1 q2
    exact ⟨vs, rfl, e0, e1, e2⟩
theorem hint_eq (a b : Hnt) : (a.tech == b.tech && (a.cell == b.cell && a.val == b.val)) = decide (a = b) := by
  obtain ⟨a1, a2, a3⟩ := a
  obtain ⟨b1, b2, b3⟩ := b
  rw [Bool.eq_iff_iff]
  simp
theorem OpS.hintNe {P : Program} {o : Oper} {st : St} {K : KV} {t yt : TypeId} {x y : Operand} {a b : Hnt} (ho : o.op = .binOp .neq t x y yt) (ht : ThreeI P t)
    (hx : evO st.s x = aH a) (hy : evO st.s y = aH b) (hk : K (bool (!decide (a = b))) st.h) : OpS P o st K := by
  intro w X ac R next Q hn
  have hx' := evO_sound R x
  have hy' := evO_sound R y
  rw [hx] at hx'
  rw [hy] at hy'
  obtain ⟨xs, e1, x1, x2, x3⟩ := va_hint hx'
  obtain ⟨ys, e2, y1, y2, y3⟩ := va_hint hy'
  have hrun : (do eqGuard .neq t x y (ac.eval x) (ac.eval y); binOp .neq t (ac.eval x) (ac.eval y) : Sem Value).run P w = .ok (.bool (!decide (a = b))) w := by
    rw [Sem.run_bind, e1, e2, run_eqGuard_agg w _ _ _ _ _ _ ht.2.2.1, Result.andThen_ok, run_neq_struct, run_eq3 ht x1 x2 x3 y1 y2 y3, Result.andThen_ok, hint_eq]
  have h1 : (execOp ac.eval o).run P w = .ok (.value (.bool (!decide (a = b)))) w := by
    simp only [execOp, ho]; rw [Sem.run_bind, hrun]; rfl
  unfold Oper.wp
  rw [h1, Oper.upon_value]
  exact hn (bool (!decide (a = b))) _ X st.h w (.c _ _ (VF.bool _)) R.heap (Ev.refl _ _ _) hk
theorem OpS.hintEq {P : Program} {o : Oper} {st : St} {K : KV} {t yt : TypeId} {x y : Operand} {a b : Hnt} (ho : o.op = .binOp .eql t x y yt) (ht : ThreeI P t)
    (hx : evO st.s x = aH a) (hy : evO st.s y = aH b) (hk : K (bool (decide (a = b))) st.h) : OpS P o st K := by
  intro w X ac R next Q hn
  have hx' := evO_sound R x
  have hy' := evO_sound R y
  rw [hx] at hx'
  rw [hy] at hy'
  obtain ⟨xs, e1, x1, x2, x3⟩ := va_hint hx'
  obtain ⟨ys, e2, y1, y2, y3⟩ := va_hint hy'
  have hrun : (do eqGuard .eql t x y (ac.eval x) (ac.eval y); binOp .eql t (ac.eval x) (ac.eval y) : Sem Value).run P w = .ok (.bool (decide (a = b))) w := by
    rw [Sem.run_bind, e1, e2, run_eqGuard_agg w _ _ _ _ _ _ ht.2.2.1, Result.andThen_ok, run_eql_struct, run_eq3 ht x1 x2 x3 y1 y2 y3, Result.andThen_ok, hint_eq]
  have h1 : (execOp ac.eval o).run P w = .ok (.value (.bool (decide (a = b)))) w := by
    simp only [execOp, ho]; rw [Sem.run_bind, hrun]; rfl
  unfold Oper.wp
  rw [h1, Oper.upon_value]
  exact hn (bool (decide (a = b))) _ X st.h w (.c _ _ (VF.bool _)) R.heap (Ev.refl _ _ _) hk
theorem OpsS_app {P : Program} {ops : Array Oper} {K : St → Prop} : ∀ (l1 l2 : List Oper) (st : St), OpsS P ops l1 st (fun st => OpsS P ops l2 st K) → OpsS P ops (l1 ++ l2) st K
  | [], l2, st, h => h
  | o :: r, l2, st, h => by
    unfold OpsS at h
    show OpsS P ops (o :: (r ++ l2)) st K
    unfold OpsS
    split at h
    · exact h.mono fun v H' hv => OpsS_app r l2 _ hv
    · rename_i j want hg
      obtain ⟨g, h1, h2, h3⟩ := h
      exact ⟨g, h1, fun he => (h2 he).mono fun v H' hv => OpsS_app r l2 _ hv, fun he => OpsS_app r l2 _ (h3 he)⟩
theorem RunC.regionN {P : Program} {id : Nat} {ops : Array Oper} {s : List AV} {H : Heap} {Q : Exit → St → Prop} (l1 l2 : List Oper) (hl : ops.toList = l1 ++ l2) (h : vw P ops l1 s H (fun s H => OpsS P ops l2 ⟨s, H⟩ fun st' => Q .normal st')) : RunC P (.region id ops false) ⟨s, H⟩ Q :=
  RunC.region (by rw [hl]; exact OpsS_app l1 l2 _ (vw_sound _ _ _ _ h))
theorem hintF_tech {q : Puz} {h : Hnt} : ∀ (f : Nat) (ms : List Nat), hintF q f ms = some h → 0 ≤ h.tech ∧ h.tech ≤ 4
  | 0, _, hh => by cases hh
  | f + 1, ms, hh => by
    unfold hintF at hh
    split at hh
    · cases hh
    split at hh
    · cases hh
      have := nextM_le q ms
      exact ⟨by show (0 : Int) ≤ (nextM q ms : Nat); omega, by show ((nextM q ms : Nat) : Int) ≤ 4; omega⟩
    · exact hintF_tech f _ hh
theorem hintV_tech (p : Puz) (xs : List Int) : 0 ≤ (hintV p xs).tech ∧ (hintV p xs).tech ≤ 4 := by
  unfold hintV
  cases e : hintO p xs with
  | none => exact ⟨by simp, by simp⟩
  | some h =>
    unfold hintO at e
    split at e
    · exact hintF_tech _ _ e
    · cases e
theorem hintV_no {p : Puz} {xs : List Int} (h : hintB p xs = false) : hintV p xs = ⟨0, 0, 0⟩ := by
  unfold hintB at h
  unfold hintV
  cases e : hintO p xs with
  | none => rfl
  | some _ => rw [e] at h; cases h
theorem ext_hint {p : Puz} {xs : List Int} {k v : Nat} (h : hintB p xs = true) (hc : (hintV p xs).cell = k) (hv : (hintV p xs).val = v) (hk : k < xs.length) (h0 : nth xs k = 0) (u : Nat) : extL p (xs.set k ((u : Int) + 1)) = if u + 1 = v then extL p xs else [] := by
  rw [ext_set hk (by omega)]
  have hs := fun s (hm : s ∈ extL p xs) => hint_sound h hm
  rw [hc, hv] at hs
  split
  · rename_i e
    rw [List.filter_eq_self]
    intro s hm
    have := hs s hm
    rw [decide_eq_true_eq, this]
    omega
  · rename_i e
    rw [List.filter_eq_nil_iff]
    intro s hm
    have := hs s hm
    rw [decide_eq_true_eq, this]
    omega
end Go.Lg

set_option linter.unusedSimpArgs false
set_option linter.unusedVariables false
set_option maxRecDepth 100000
namespace Go.Lg
open Go.Proofs
theorem three_hint : ThreeI Try.prog 49 := by
  refine ⟨rfl, by decide +kernel, by decide +kernel, _, _, _, _, _, _, rfl, ?_, ?_, ?_, rfl, rfl, rfl, ti3, ti3, ti3, rfl, rfl, rfl⟩ <;> decide +kernel
set_option maxHeartbeats 4000000 in
theorem law_FnNextHint (code : List Int) (hl : code.length ≤ 9223372036854775807) (hw : ∀ x ∈ code, (Lit.int .u8 x).wf = true) : Reads Try.prog 10 [rsl (eI .u8) code] (bool true) := by
  refine RunCall.ofR (c := _) Try.func10 rfl (n := 121) Try.ntmps10 (rs := [.tmp 2]) rfl ?_
  simp only [List.length_cons, List.length_nil, Nat.reduceAdd, Nat.reduceSub, List.replicate, List.cons_append, List.nil_append]
  refine RunC.cutN 5 (fun a : (Puz × List Int) × Nat × Nat × Nat => smD a.1.1 ∧ a.1.2.length ≤ 16) (fun a => [.a, .a, .p (bool false), .p (.c (.ptr 0 a.2.1 0)), .p (ints a.1.2), .p (.c (.ptr 1 a.2.2.1 0)), .p (bool (hintB a.1.1 a.1.2)), .p (.c (.ptr 2 a.2.2.2 0)), .p (bool (hintB a.1.1 a.1.2)), .a, .a, .a, .a, .a, .a, .a, .a, .a, .a, .a, .a, .a, .a, .a, .a, .a, .a, .a, .a, .a, .a, .a, .a, .a, .a, .a, .a, .a, .a, .a, .a, .a, .a, .a, .a, .a, .a, .a, .a, .a, .a, .a, .a, .a, .a, .a, .a, .a, .a, .a, .a, .a, .a, .a, .a, .a, .a, .a, .a, .a, .a, .a, .a, .a, .a, .a, .a, .a, .a, .a, .a, .a, .a, .a, .a, .a, .a, .a, .a, .a, .a, .a, .a, .a, .a, .a, .a, .a, .a, .a, .a, .a, .a, .a, .a, .a, .a, .a, .a, .a, .a, .a, .a, .a, .a, .a, .a, .a, .a, .a, .a]) (fun a => [some ⟨a.2.1, 3, cP a.1.1⟩, some ⟨a.2.2.1, 3, cH (hintV a.1.1 a.1.2)⟩, some ⟨a.2.2.2, 3, cH (hintV a.1.1 a.1.2)⟩]) ?_ ?_
  · simp(maxSteps:=999999)(disch:=omega)only[go_sem,reduceAdd,reduceMul,reduceSub,reduceEqDiff,reduceLeDiff]
    ((first | with_reducible refine condK_dec ?_ ?_ | with_reducible refine condK_ndec ?_ ?_ | with_reducible refine condK_nb ?_ ?_ | refine condK_b ?_ ?_) <;> intro h1)
    · simp(maxSteps:=999999)(disch:=omega)only[go_sem,reduceAdd,reduceMul,reduceSub,reduceEqDiff,reduceLeDiff]
    simp(maxSteps:=999999)(disch:=omega)only[go_sem,reduceAdd,reduceMul,reduceSub,reduceEqDiff,reduceLeDiff]
    refine OpS.mkF (DrawNextHint_run code (wf_u8' hw) (by omega)) (⟨_, Try.func50, rfl, rfl⟩ : Enters Try.prog 50) rfl rfl rfl ?_
    rintro _ ⟨p, zs, rfl, hp, hz⟩
    refine ⟨rfl, rfl, ?_⟩
    have hs := hp.sm
    simp(maxSteps:=999999)(disch:=omega)only[go_sem,reduceAdd,reduceMul,reduceSub,reduceEqDiff,reduceLeDiff]
    intro g
    first | refine OpS.mk (NextHint_run p zs hs (by omega)) (⟨_, Try.func32, rfl, rfl⟩ : Enters Try.prog 32) rfl rfl rfl rfl rfl ?_ | refine Loud.mk (NextHint_run p zs hs (by omega)) (⟨_, Try.func32, rfl, rfl⟩ : Enters Try.prog 32) rfl rfl rfl rfl rfl ?_
    simp(maxSteps:=999999)(disch:=omega)only[go_sem,reduceAdd,reduceMul,reduceSub,reduceEqDiff,reduceLeDiff]
    intro g2
    first | refine OpS.mk (sNextHint_run p zs hs (by omega)) (⟨_, Try.func29, rfl, rfl⟩ : Enters Try.prog 29) rfl rfl rfl rfl rfl ?_ | refine Loud.mk (sNextHint_run p zs hs (by omega)) (⟨_, Try.func29, rfl, rfl⟩ : Enters Try.prog 29) rfl rfl rfl rfl rfl ?_
    simp(maxSteps:=999999)(disch:=omega)only[go_sem,reduceAdd,reduceMul,reduceSub,reduceEqDiff,reduceLeDiff]
    intro g3
    refine ⟨((p, zs), g, g2, g3), ⟨hp, hz⟩, ?_⟩
    simp(maxSteps:=999999)(disch:=omega)only[go_sem,reduceAdd,reduceMul,reduceSub,reduceEqDiff,reduceLeDiff]
    exact HLe.refl _
  · rintro ⟨⟨p, zs⟩, g, g2, g3⟩ ⟨hp, hz⟩
    simp only at hp hz
    have hs := hp.sm
    have hgl := hp.1
    refine RunC.seq ?_
    refine RunC.seq ?_
    refine RunC.regionN [_, _] _ rfl ?_
    simp(maxSteps:=999999)(disch:=omega)only[go_sem,reduceAdd,reduceMul,reduceSub,reduceEqDiff,reduceLeDiff]
    refine OpS.hintNe rfl three_hint rfl rfl ?_
    rw [decide_eq_true rfl]
    refine vw_sound (K := fun s H => RunC Try.prog _ ⟨s, H⟩ _) _ _ _ ?_
    cases hb : hintB p zs with
    | false =>
      rw [hintV_no hb]
      simp(maxSteps:=999999)(disch:=omega)only[go_sem,reduceAdd,reduceMul,reduceSub,reduceEqDiff,reduceLeDiff]
      refine RunC.cond (b := false) rfl (fun h => absurd h (by simp)) fun _ => RunC.skip ?_
      refine RunC.seq ?_
      refine RunC.seq ?_
      refine RunC.region (vw_sound (K := fun s H => RunC Try.prog _ ⟨s, H⟩ _) _ _ _ ?_)
      simp(maxSteps:=999999)(disch:=omega)only[go_sem,reduceAdd,reduceMul,reduceSub,reduceEqDiff,reduceLeDiff]
      refine RunC.cond (b := true) rfl (fun _ => ?_) (fun h => absurd h (by simp))
      refine RunC.seq ?_
      refine RunC.regionN [_, _] _ rfl ?_
      simp(maxSteps:=999999)(disch:=omega)only[go_sem,reduceAdd,reduceMul,reduceSub,reduceEqDiff,reduceLeDiff]
      refine OpS.hintEq (a := ⟨0, 0, 0⟩) (b := ⟨0, 0, 0⟩) rfl three_hint rfl rfl ?_
      rw [decide_eq_true rfl]
      refine vw_sound (K := fun s H => RunC Try.prog _ ⟨s, H⟩ _) _ _ _ ?_
      simp(maxSteps:=999999)(disch:=omega)only[go_sem,reduceAdd,reduceMul,reduceSub,reduceEqDiff,reduceLeDiff]
      first | refine OpS.rd (aliveF_run) (⟨_, Try.func18, rfl, rfl⟩ : Enters Try.prog 18) rfl rfl rfl rfl ?_ | refine Loud.rd (aliveF_run) (⟨_, Try.func18, rfl, rfl⟩ : Enters Try.prog 18) rfl rfl rfl rfl ?_
      simp(maxSteps:=999999)(disch:=omega)only[go_sem,reduceAdd,reduceMul,reduceSub,reduceEqDiff,reduceLeDiff]
      refine RunC.ret ?_
      show doneK Try.prog [.tmp 2] (isQ (bool true)) .ret _ _
      simp(maxSteps:=999999)(disch:=omega)only[go_sem,reduceAdd,reduceMul,reduceSub,reduceEqDiff,reduceLeDiff]
    | true =>
      obtain ⟨hf, k, v, hk, h1, h2, h3, h4, h5, h6⟩ := hint_facts hb
      obtain ⟨n, hzn, hpn, hv, hg, ha, hfl, hcl, hlen, hl4, hl16⟩ := fitsV_facts hf
      have hgf := grd_facts hv (by unfold fitsV at hf; simp only [Bool.and_eq_true] at hf; exact hf.2.1)
      have hext := ext_hint hb h1 h2 hk h5
      have htech := hintV_tech p zs
      obtain ⟨⟨tt, kk, vv⟩, hh⟩ : ∃ h, h = hintV p zs := ⟨_, rfl⟩
      rw [← hh] at h1 h2 htech ⊢
      simp only at h1 h2 htech
      subst h1
      subst h2
      simp(maxSteps:=999999)(disch:=omega)only[go_sem,reduceAdd,reduceMul,reduceSub,reduceEqDiff,reduceLeDiff]
      refine RunC.cond (b := false) rfl (fun h => absurd h (by simp)) fun _ => RunC.skip ?_
      refine (cw_sound _ _ _ (doneK Try.prog [.tmp 2] _) ?_)
      simp(maxSteps:=999999)(disch:=omega)only[go_sem,reduceAdd,reduceMul,reduceSub,reduceEqDiff,reduceLeDiff]
      have hn4 : p.size.toNat ≤ 4 := by have := (PuzN.of hv).1.hn; omega
      have hz' : ((p.size.toNat : Nat) : Int) = p.size := (PuzN.of hv).2
      simp (maxSteps := 1000000) (disch := omega) only [go_sem, lt_no, lt_yes, le_no, le_yes, eq_no, eq_yes, Nat.reduceAdd, Nat.reduceMul, Nat.reduceSub, Nat.reduceEqDiff, Nat.reduceLeDiff]
      refine loop_rule (fun u : Nat => p.size.toNat - u) (fun u => u ≤ p.size.toNat) (fun u => [.a, .a, .a, .k, .k, .k, .a, .a, .a, .p (int (u + 1)), .a, .a, .a, .a, .a, .a, .a, .a, .a, .a, .a, .a, .a, .a, .a, .a, .a, .a, .a, .a, .a, .a, .a, .a, .a, .a, .a, .a, .a, .a, .a, .a, .a, .a, .a, .a, .a, .a, .a, .a, .a, .a, .a, .a, .a, .a, .a, .a, .a, .a, .a, .a, .a, .a, .a, .a, .a, .a, .a, .a, .a, .a, .a, .a, .a, .a, .a, .a, .a, .a, .a, .a, .a, .a, .a, .a, .a, .a, .a, .a, .a, .a, .a, .a, .a, .a, .a, .a, .a, .a, .a, .a, .a, .a, .a, .a, .a, .a, .a, .a, .a, .a, .a, .a, .a, .a, .a, .a, .a, .a, .a]) (fun _ => [some ⟨g, 3, cP p⟩, some ⟨g2, 3, cH ⟨tt, k, v⟩⟩]) 0 (Nat.zero_le _) (by simp(maxSteps:=999999)(disch:=omega)only[go_sem,reduceAdd,reduceMul,reduceSub,reduceEqDiff,reduceLeDiff]; rfl) (hle_eq rfl (hle_eq rfl (hle_nil _))) ?_
      intro u hu
      simp(maxSteps:=999999)(disch:=omega)only[go_sem,reduceAdd,reduceMul,reduceSub,reduceEqDiff,reduceLeDiff]
      ((first | with_reducible refine guardK_dec ?_ ?_ | with_reducible refine guardK_ndec ?_ ?_ | with_reducible refine guardK_nb ?_ ?_ | with_reducible refine guardK_split ?_ ?_ | with_reducible refine guardQ_dec ?_ ?_ | with_reducible refine guardL_dec ?_ ?_ | with_reducible refine guardQ_ndec ?_ ?_ | with_reducible refine guardL_ndec ?_ ?_ | with_reducible refine guardQ_nb ?_ ?_ | with_reducible refine guardL_nb ?_ ?_ | with_reducible refine guardQ_split ?_ ?_ | with_reducible refine guardL_split ?_ ?_) <;> intro c1 <;> simp(maxSteps:=999999)(disch:=omega)only[go_sem,reduceAdd,reduceMul,reduceSub,reduceEqDiff,reduceLeDiff, c1])
      rotate_left
      · simp (maxSteps := 1000000) (disch := omega) only [go_sem, lt_no, lt_yes, le_no, le_yes, eq_no, eq_yes, Nat.reduceAdd, Nat.reduceMul, Nat.reduceSub, Nat.reduceEqDiff, Nat.reduceLeDiff]
      first | refine OpS.rd (CanFinish_run p zs hs (by omega)) (⟨_, Try.func27, rfl, rfl⟩ : Enters Try.prog 27) rfl rfl rfl rfl ?_ | refine Loud.rd (CanFinish_run p zs hs (by omega)) (⟨_, Try.func27, rfl, rfl⟩ : Enters Try.prog 27) rfl rfl rfl rfl ?_
      simp(maxSteps:=999999)(disch:=omega)only[go_sem,reduceAdd,reduceMul,reduceSub,reduceEqDiff,reduceLeDiff]
      have e0 := can_ext hv hgf.2.1
      ((first | with_reducible refine condK_dec ?_ ?_ | with_reducible refine condK_ndec ?_ ?_ | with_reducible refine condK_nb ?_ ?_ | refine condK_b ?_ ?_) <;> intro c2)
      rotate_left
      · simp (maxSteps := 1000000) (disch := omega) only [go_sem, lt_no, lt_yes, le_no, le_yes, eq_no, eq_yes, Nat.reduceAdd, Nat.reduceMul, Nat.reduceSub, Nat.reduceEqDiff, Nat.reduceLeDiff]
      have c1 : u < p.size.toNat := by omega
      rw [e0, decide_eq_true_eq] at c2
      simp (maxSteps := 1000000) (disch := omega) only [go_sem, lt_no, lt_yes, le_no, le_yes, eq_no, eq_yes, Nat.reduceAdd, Nat.reduceMul, Nat.reduceSub, Nat.reduceEqDiff, Nat.reduceLeDiff]
      intro g4 g5
      rw [Int.toNat_natCast, Nat.zero_add]
      have hown : ∀ lim, OwnI [some ⟨g, 3, cP p⟩, some ⟨g2, 3, cH ⟨tt, k, v⟩⟩, some ⟨g5, 1, cl (eI .i64) (zs.set k ((u : Int) + 1))⟩] (.own 2 g5 0 zs.length lim) (zs.set k ((u : Int) + 1)) [2] := fun lim => by
        have := OwnI.o (H := [some ⟨g, 3, cP p⟩, some ⟨g2, 3, cH ⟨tt, k, v⟩⟩, some ⟨g5, 1, cl (eI .i64) (zs.set k ((u : Int) + 1))⟩]) 2 g5 lim (zs.set k ((u : Int) + 1)) [] (by rw [List.append_nil]; exact look_of (b := ⟨g5, 1, cl (eI .i64) (zs.set k ((u : Int) + 1))⟩) rfl)
        rwa [List.length_set] at this
      have hgs : GrdN (zs.set k ((u : Int) + 1)) p.size.toNat := by
        have := hgf.2.1.set (i := k) (v := u + 1) hk (by omega)
        push_cast at this
        exact this
      have e1 : canV p (zs.set k ((u : Int) + 1)) = decide ((u : Int) + 1 = v) := by
        rw [can_ext hv hgs, hext u, decide_eq_decide]
        split
        · constructor <;> intro _ <;> first | omega | exact c2
        · constructor
          · intro h; simp at h
          · intro h; omega
      refine drawP_lF [0, 1, 3, 4, 5, 6, 2] [] none [7] [] foll (by kernel_rfl) ?_
      simp (maxSteps := 1000000) (disch := omega) only [go_sem, Nat.reduceBEq, Bool.true_or, Nat.reduceAdd, Nat.reduceMul, Nat.reduceSub, Nat.reduceEqDiff, Nat.reduceLeDiff]
      refine Loud.rdD (CanFinish_run p (zs.set k ((u : Int) + 1)) hs (by rw [List.length_set]; omega)) (⟨_, Try.func27, rfl, rfl⟩ : Enters Try.prog 27) rfl rfl (snap_two rfl (hown _).snap) rfl ?_
      rw [e1]
      have hdd : decide (decide ((u : Int) + 1 = v) = decide ((u : Int) + 1 = v)) = true := decide_eq_true rfl
      simp(maxSteps:=999999)(disch:=omega)only[go_sem,reduceAdd,reduceMul,reduceSub,reduceEqDiff,reduceLeDiff, hdd]
      exact ⟨u + 1, by omega, by omega, HLe.app _ _⟩
end Go.Lg

set_option linter.unusedSimpArgs false
set_option linter.unusedVariables false
set_option maxRecDepth 100000
namespace Go.Lg
open Go.Proofs
theorem folQ_rd {P : Program} {f : FuncId} {args : List AV} {p : Puz} {xs : List Int} (h : RunCall P f args [] (folQ p xs)) : Reads P f args (.tup [ints (folV p xs), int (folN p xs)]) :=
  Reads.ice h fun r H ⟨c, S, h1, h2, _⟩ => by
    subst h1
    have e : frzC H (.f (.int .i64 (folN p xs))) = some (.f (.int .i64 (folN p xs))) := rfl
    show (([_, _] : List AV).mapM (frz1 H)).map AV.tup = _
    simp only [List.mapM_cons, List.mapM_nil, frz1, h2.frzC, e, Option.bind_eq_bind, Option.pure_def, Option.bind_some, Option.map_some]
theorem folV_len (p : Puz) (xs : List Int) : (folV p xs).length ≤ xs.length := by
  unfold folV
  split
  · rw [folF_len]; exact Nat.le_refl _
  · simp
end Go.Lg
