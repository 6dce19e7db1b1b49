/- GpRC, GpP, GpQ, GpR, cut to what is needed. -/
import Derived.Test.YtpdaalgdkdpihaaUad0
import Derived.Test.YtpdaalgdkdpihaaUab5
import Derived.Test.YtpdaalgdkdpihaaUab3
open Nat(reduceAdd reduceMul reduceSub reduceEqDiff reduceLeDiff)
set_option linter.unusedSimpArgs false
set_option linter.unusedVariables false
set_option maxRecDepth 100000
namespace Go.Lg
open Go.Proofs
theorem rul_ext {r s : Rul} (h1 : r.kind = s.kind) (h2 : r.val = s.val) (h3 : r.cells = s.cells) : r = s := by
  cases r; cases s; simp_all
set_option maxHeartbeats 2000000 in
theorem samePuzzle_run (p q : Puz) (hx : smP p) : Reads Try.prog 66 [aP p, aP q] (bool (decide (p = q))) := by
  obtain ⟨hg, hrl, hrs⟩ := hx
  refine RunCall.cw (c := _) Try.func66 rfl (n := 79) Try.ntmps66 (rs := [.tmp 4]) rfl ?_
  simp only [List.length_cons, List.length_nil, Nat.reduceAdd, Nat.reduceSub, List.replicate, List.cons_append, List.nil_append]
  simp(maxSteps:=999999)(disch:=omega)only[go_sem,reduceAdd,reduceMul,reduceSub,reduceEqDiff,reduceLeDiff]
  intro ga gb
  by_cases e1 : p.size = q.size
  rotate_left
  · have d1 : decide (p.size = q.size) = false := decide_eq_false e1
    simp(maxSteps:=999999)(disch:=omega)only[go_sem,reduceAdd,reduceMul,reduceSub,reduceEqDiff,reduceLeDiff, d1]
    exact (decide_eq_false fun h => e1 (by rw [h])).symm
  have d1 : decide (p.size = q.size) = true := decide_eq_true e1
  simp(maxSteps:=999999)(disch:=omega)only[go_sem,reduceAdd,reduceMul,reduceSub,reduceEqDiff,reduceLeDiff, d1]
  first | refine OpS.rd (sameIntsF_run p.given q.given hg) (⟨_, Try.func39, rfl, rfl⟩ : Enters Try.prog 39) rfl rfl rfl rfl ?_ | refine Loud.rd (sameIntsF_run p.given q.given hg) (⟨_, Try.func39, rfl, rfl⟩ : Enters Try.prog 39) rfl rfl rfl rfl ?_
  simp(maxSteps:=999999)(disch:=omega)only[go_sem,reduceAdd,reduceMul,reduceSub,reduceEqDiff,reduceLeDiff]
  by_cases e2 : p.given = q.given
  rotate_left
  · have d2 : decide (p.given = q.given) = false := decide_eq_false e2
    simp(maxSteps:=999999)(disch:=omega)only[go_sem,reduceAdd,reduceMul,reduceSub,reduceEqDiff,reduceLeDiff, d2]
    exact (decide_eq_false fun h => e2 (by rw [h])).symm
  have d2 : decide (p.given = q.given) = true := decide_eq_true e2
  simp(maxSteps:=999999)(disch:=omega)only[go_sem,reduceAdd,reduceMul,reduceSub,reduceEqDiff,reduceLeDiff, d2]
  by_cases e3 : p.rules.length = q.rules.length
  rotate_left
  · have d3 : decide ((p.rules.length : Int) = (q.rules.length : Int)) = false := decide_eq_false (by omega)
    simp(maxSteps:=999999)(disch:=omega)only[go_sem,reduceAdd,reduceMul,reduceSub,reduceEqDiff,reduceLeDiff, d3]
    exact (decide_eq_false fun h => e3 (by rw [h])).symm
  have d3 : decide ((p.rules.length : Int) = (q.rules.length : Int)) = true := decide_eq_true (by omega)
  simp(maxSteps:=999999)(disch:=omega)only[go_sem,reduceAdd,reduceMul,reduceSub,reduceEqDiff,reduceLeDiff, d3]
  refine loop_rule (fun i : Nat => p.rules.length - i) (fun i => i ≤ p.rules.length ∧ ∀ j : Nat, j < i → nth p.rules j = nth q.rules j) (fun i => [.a, .a, .k, .k, .a, .p (int i), .a, .a, .a, .a, .a, .a, .a, .a, .a, .a, .a, .a, .a, .a, .a, .a, .a, .a, .a, .a, .a, .a, .a, .a, .a, .a, .a, .a, .a, .a, .a, .a, .a, .a, .a, .a, .a, .a, .a, .a, .a, .a, .a, .a, .a, .a, .a, .a, .a, .a, .a, .a, .a, .a, .a, .a, .a, .a, .a, .a, .a, .a, .a, .a, .a, .a, .a, .a, .a, .a, .a, .a, .a]) (fun i => [some ⟨ga, 1, cP p⟩, some ⟨gb, 1, cP q⟩]) 0 ⟨Nat.zero_le _, fun j hj => absurd hj (Nat.not_lt_zero _)⟩ (by simp(maxSteps:=999999)(disch:=omega)only[go_sem,reduceAdd,reduceMul,reduceSub,reduceEqDiff,reduceLeDiff]; rfl) (HLe.refl _) ?_
  rintro i ⟨hi, hall⟩
  simp(maxSteps:=999999)(disch:=omega)only[go_sem,reduceAdd,reduceMul,reduceSub,reduceEqDiff,reduceLeDiff]
  ((first | with_reducible refine condK_dec ?_ ?_ | with_reducible refine condK_ndec ?_ ?_ | with_reducible refine condK_nb ?_ ?_ | refine condK_b ?_ ?_) <;> intro h)
  · have h : i < p.rules.length := by omega
    have hq : i < q.rules.length := by omega
    have hcl := hrs _ (nth_mem (xs := p.rules) (i := i) h)
    obtain ⟨r, hr⟩ : ∃ r, r = nth p.rules (i : Int) := ⟨_, rfl⟩
    obtain ⟨s, hs⟩ : ∃ s, s = nth q.rules (i : Int) := ⟨_, rfl⟩
    have no : r ≠ s → p ≠ q := fun hne he => hne (by rw [hr, hs, he])
    rw [← hr] at hcl
    simp(maxSteps:=999999)(disch:=omega)only[go_sem,reduceAdd,reduceMul,reduceSub,reduceEqDiff,reduceLeDiff]
    refine drawP_q foll (by kernel_rfl) ?_
    simp (maxSteps := 1000000) (disch := omega) only [go_sem, Nat.reduceBEq, Bool.true_or, Nat.reduceAdd, Nat.reduceMul, Nat.reduceSub, Nat.reduceEqDiff, Nat.reduceLeDiff]
    simp(maxSteps:=999999)(disch:=omega)only[go_sem,reduceAdd,reduceMul,reduceSub,reduceEqDiff,reduceLeDiff, ← hr, ← hs]
    by_cases f1 : r.kind = s.kind
    rotate_left
    · have d1 : decide (r.kind = s.kind) = false := decide_eq_false f1
      simp(maxSteps:=999999)(disch:=omega)only[go_sem,reduceAdd,reduceMul,reduceSub,reduceEqDiff,reduceLeDiff, d1]
      exact (decide_eq_false (no fun he => f1 (by rw [he]))).symm
    have d1 : decide (r.kind = s.kind) = true := decide_eq_true f1
    simp(maxSteps:=999999)(disch:=omega)only[go_sem,reduceAdd,reduceMul,reduceSub,reduceEqDiff,reduceLeDiff, d1, ← hr, ← hs]
    by_cases f2 : r.val = s.val
    rotate_left
    · have d1 : decide (r.val = s.val) = false := decide_eq_false f2
      simp(maxSteps:=999999)(disch:=omega)only[go_sem,reduceAdd,reduceMul,reduceSub,reduceEqDiff,reduceLeDiff, d1]
      exact (decide_eq_false (no fun he => f2 (by rw [he]))).symm
    have d1 : decide (r.val = s.val) = true := decide_eq_true f2
    simp(maxSteps:=999999)(disch:=omega)only[go_sem,reduceAdd,reduceMul,reduceSub,reduceEqDiff,reduceLeDiff, d1, ← hr, ← hs]
    refine quietW.rd (sameIntsF_run r.cells s.cells (by omega)) (⟨_, Try.func39, rfl, rfl⟩ : Enters Try.prog 39) rfl rfl rfl rfl ?_
    simp(maxSteps:=999999)(disch:=omega)only[go_sem,reduceAdd,reduceMul,reduceSub,reduceEqDiff,reduceLeDiff]
    by_cases f3 : r.cells = s.cells
    rotate_left
    · have d1 : decide (r.cells = s.cells) = false := decide_eq_false f3
      simp(maxSteps:=999999)(disch:=omega)only[go_sem,reduceAdd,reduceMul,reduceSub,reduceEqDiff,reduceLeDiff, d1]
      exact (decide_eq_false (no fun he => f3 (by rw [he]))).symm
    have d1 : decide (r.cells = s.cells) = true := decide_eq_true f3
    simp(maxSteps:=999999)(disch:=omega)only[go_sem,reduceAdd,reduceMul,reduceSub,reduceEqDiff,reduceLeDiff, d1]
    refine ⟨i + 1, ⟨⟨by omega, fun j hj => ?_⟩, by omega⟩, by push_cast; omega, HLe.refl _⟩
    rcases Nat.lt_succ_iff_lt_or_eq.1 hj with hj | rfl
    · exact hall j hj
    · rw [← hr, ← hs]; exact rul_ext f1 f2 f3
  · simp(maxSteps:=999999)(disch:=omega)only[go_sem,reduceAdd,reduceMul,reduceSub,reduceEqDiff,reduceLeDiff]
    refine (decide_eq_true ?_).symm
    have e4 : p.rules = q.rules := ext_nth e3 fun j hj => hall j (by omega)
    cases p; cases q; simp_all
theorem sameGame_run (a b : Gam) (hx : smG a) : Reads Try.prog 35 [aG a, aG b] (bool (decide (a = b))) := by
  obtain ⟨h1, h2, h3⟩ := hx
  refine RunCall.cw (c := _) Try.func35 rfl (n := 24) Try.ntmps35 (rs := [.tmp 4]) rfl ?_
  simp only [List.length_cons, List.length_nil, Nat.reduceAdd, Nat.reduceSub, List.replicate, List.cons_append, List.nil_append]
  simp(maxSteps:=999999)(disch:=omega)only[go_sem,reduceAdd,reduceMul,reduceSub,reduceEqDiff,reduceLeDiff]
  intro ga gb
  first | refine OpS.rd (samePuzzle_run a.task b.task h1) (⟨_, Try.func66, rfl, rfl⟩ : Enters Try.prog 66) rfl rfl rfl rfl ?_ | refine Loud.rd (samePuzzle_run a.task b.task h1) (⟨_, Try.func66, rfl, rfl⟩ : Enters Try.prog 66) rfl rfl rfl rfl ?_
  simp(maxSteps:=999999)(disch:=omega)only[go_sem,reduceAdd,reduceMul,reduceSub,reduceEqDiff,reduceLeDiff]
  by_cases e1 : a.task = b.task
  rotate_left
  · have d1 : decide (a.task = b.task) = false := decide_eq_false e1
    simp(maxSteps:=999999)(disch:=omega)only[go_sem,reduceAdd,reduceMul,reduceSub,reduceEqDiff,reduceLeDiff, d1]
    exact (decide_eq_false fun h => e1 (by rw [h])).symm
  have d1 : decide (a.task = b.task) = true := decide_eq_true e1
  simp(maxSteps:=999999)(disch:=omega)only[go_sem,reduceAdd,reduceMul,reduceSub,reduceEqDiff,reduceLeDiff, d1]
  first | refine OpS.rd (sameIntsF_run a.put b.put h2) (⟨_, Try.func39, rfl, rfl⟩ : Enters Try.prog 39) rfl rfl rfl rfl ?_ | refine Loud.rd (sameIntsF_run a.put b.put h2) (⟨_, Try.func39, rfl, rfl⟩ : Enters Try.prog 39) rfl rfl rfl rfl ?_
  simp(maxSteps:=999999)(disch:=omega)only[go_sem,reduceAdd,reduceMul,reduceSub,reduceEqDiff,reduceLeDiff]
  by_cases e2 : a.put = b.put
  rotate_left
  · have d2 : decide (a.put = b.put) = false := decide_eq_false e2
    simp(maxSteps:=999999)(disch:=omega)only[go_sem,reduceAdd,reduceMul,reduceSub,reduceEqDiff,reduceLeDiff, d2]
    exact (decide_eq_false fun h => e2 (by rw [h])).symm
  have d2 : decide (a.put = b.put) = true := decide_eq_true e2
  simp(maxSteps:=999999)(disch:=omega)only[go_sem,reduceAdd,reduceMul,reduceSub,reduceEqDiff,reduceLeDiff, d2]
  first | refine OpS.rd (sameIntsF_run a.moves b.moves h3) (⟨_, Try.func39, rfl, rfl⟩ : Enters Try.prog 39) rfl rfl rfl rfl ?_ | refine Loud.rd (sameIntsF_run a.moves b.moves h3) (⟨_, Try.func39, rfl, rfl⟩ : Enters Try.prog 39) rfl rfl rfl rfl ?_
  simp(maxSteps:=999999)(disch:=omega)only[go_sem,reduceAdd,reduceMul,reduceSub,reduceEqDiff,reduceLeDiff]
  rw [decide_eq_decide]
  constructor
  · intro h; cases a; cases b; simp_all
  · intro h; rw [h]
end Go.Lg

set_option linter.unusedSimpArgs false
set_option linter.unusedVariables false
set_option maxRecDepth 100000
namespace Go.Lg
open Go.Proofs
theorem OpS.nilOpen {P : Program} {o : Oper} {st : St} {K : KV} {t yt : TypeId} {x y : Operand} {ei : TI} (ho : o.op = .binOp .eql t x y yt) (ht : sliceOf P t = some ei)
    (hx : evO st.s x = .c (.f (.sl 0 []))) (hy : isNilV st.h (evO st.s y) = some true) (hk : ∀ b, K (.c (.f (.bool b))) st.h) : OpS P o st K := by
  intro w X a R next Q hn
  obtain ⟨ti, e, ht, hk', he⟩ := sliceOf_some ht
  obtain ⟨inf, d, z', h1, h2, h3, h4, h5, h6, h7⟩ := tinf_some ht
  rw [h5] at hk'; cases tk_slice hk'
  have e2 := nil_of_isNone hy (evO_sound R y)
  have hx' := evO_sound R x
  rw [hx] at hx'
  have : ∃ a0 c, a.eval x = .slice a0 0 c := by
    have hh := va_c hx'
    generalize a.eval x = xv at hh
    cases hh with
    | sl0 a cap => exact ⟨_, _, rfl⟩
    | sl n cs b o cap u hc hI hu hv => exact ⟨_, _, rfl⟩
  obtain ⟨a0, c, ex⟩ := this
  have hrun : (do eqGuard .eql t x y (a.eval x) (a.eval y); binOp .eql t (a.eval x) (a.eval y) : Sem Value).run P w = .ok (.bool a0.isNone) w := by
    rw [Sem.run_bind, run_eqGuard_plain (by rw [ex]), Result.andThen_ok, e2, ex]
    exact Lib.run_eql_slice_nil w t e _ _ _ _ _ h2
  have h1 : (execOp a.eval o).run P w = .ok (.value (.bool a0.isNone)) w := by
    simp only [execOp, ho]; rw [Sem.run_bind, hrun]; rfl
  unfold Oper.wp
  rw [h1, Oper.upon_value]
  exact hn (.c (.f (.bool a0.isNone))) _ X st.h w (.c _ _ (VF.bool _)) R.heap (Ev.refl _ _ _) (hk _)
theorem OpS.valNil {P : Program} {o : Oper} {st : St} {K : KV} (h : opV P st.s st.h o.op = some (.c (.f .nil))) (hk : K (.c (.f (.sl 0 []))) st.h) : OpS P o st K := by
  intro w X a R next Q hn
  obtain ⟨u, h1, h2⟩ := opV_sound (P := P) R h
  unfold Oper.wp
  rw [h1 w (Grow.refl w) o rfl, Oper.upon_value]
  have : VA w X st.h (.c (.f (.sl 0 []))) u := by
    have hh := va_c h2
    cases hh
    exact .c (.f (.sl 0 [])) _ (VF.sl0 none 0)
  exact hn _ u X st.h w this R.heap (Ev.refl _ _ _) hk
theorem RunCall.of_bodyN {P : Program} {f : FuncId} {fn : Func} {c : Code} {args : List AV} {H : Heap} {Q : AV → Heap → Prop} (hf : P.funcs[f]? = some fn) (hb : fn.body = some c) {n : Nat} (hn : fn.ntmps = n) {rs : List ResultVar} (hr : fn.results.toList = rs)
    (h : RunC P c ⟨args ++ List.replicate (n - args.length) .void, H⟩ fun e st' => (e = .normal ∨ e = .ret) ∧ ∃ v H', resV P st'.s st'.h rs = some v ∧ HLe st'.h H' ∧ Q v H') : RunCall P f args H Q := by
  subst hn hr
  exact RunCall.of_body hf hb h
theorem sliceOf_of {P : Program} {t e : TypeId} {ti ei : TI} (ht : tinf P t = some ti) (hk : ti.k = .slice e) (he : tinf P e = some ei) : sliceOf P t = some ei := by
  unfold sliceOf; simp only [ht, hk, he]
theorem binA_ne {P : Program} {H : Heap} {t e : TypeId} {ti : TI} {n : Nat} {cs : List FV} (ht : tinf P t = some ti) (hk : ti.k = .slice e) (hn : 0 < n) : binA P H .eql t (.c (.f (.sl n cs))) (.c (.f .nil)) = some (.c (.f (.bool false))) := by
  unfold binA
  simp only [ht, hk, isNilV, if_neg (show ¬ n = 0 by omega)]
  rfl
theorem Clone_ne (xs : List Int) (hx : xs.length ≤ 2 ^ 40) (h0 : xs ≠ []) : RunCall Try.prog 78 [ints xs] [] (ownIQ xs) := by
  have hp : 0 < xs.length := List.length_pos_iff.2 h0
  refine RunCall.cw (c := _) Try.func78 rfl (n := 8) Try.ntmps78 (rs := [.tmp 2]) rfl ?_
  simp only [List.length_cons, List.length_nil, Nat.reduceAdd, Nat.reduceSub, List.replicate, List.cons_append, List.nil_append]
  simp(maxSteps:=999999)(disch:=omega)only[go_sem,reduceAdd,reduceMul,reduceSub,reduceEqDiff,reduceLeDiff, binA_ne ti22 rfl hp]
  intro g g'
  rw [Nat.zero_add]
  exact ⟨_, HLe.refl _, _, _, rfl, .o 0 g' none xs [] (by rw [List.append_nil]; exact look_of (b := ⟨g', 1, cl (eI .i64) xs⟩) rfl), scalH_ints (fun id b hb => by simp at hb)⟩
theorem Clone_e : RunCall Try.prog 78 [ints []] [] (ownIQ []) := by
  refine RunCall.of_bodyN (c := _) rfl rfl (n := 8) rfl (rs := [.tmp 2]) rfl ?_
  refine RunC.seq (RunC.region (OpS.val (v := .c (.f .nil)) rfl ?_))
  refine RunC.seq (RunC.seq (RunC.region (OpS.val (v := ints []) rfl (OpS.nilOpen rfl (sliceOf_of ti22 rfl ti3) rfl rfl fun b => ?_))))
  refine RunC.cond (b := b) rfl (fun hb => ?_) (fun hb => ?_)
  · refine RunC.seq (RunC.region (OpS.valNil rfl ?_))
    refine RunC.ret ?_
    exact ⟨.inr rfl, _, _, rfl, HLe.refl _, _, _, rfl, .e, fun id b hb => by simp at hb⟩
  · refine RunC.skip ?_
    refine (cw_sound _ _ _ (doneK Try.prog [.tmp 2] (ownIQ [])) ?_).mono fun e st ⟨h1, v, h2, H', h3, h4⟩ => ⟨h1, v, H', h2, h3, h4⟩
    simp only [List.length_cons, List.length_nil, Nat.reduceAdd, Nat.reduceSub, List.replicate, List.cons_append, List.nil_append]
    simp(maxSteps:=999999)(disch:=omega)only[go_sem,reduceAdd,reduceMul,reduceSub,reduceEqDiff,reduceLeDiff]
    intro g
    show lessQ [some ⟨g, 1, []⟩] (ownIQ []) (.c (.own 0 g 0 0 none))
    exact ⟨_, HLe.refl _, _, _, rfl, .o 0 g none [] [] (look_of (b := ⟨g, 1, []⟩) rfl), scalH_ints (xs := []) (fun id b hb => by simp at hb)⟩
theorem Clone_own (xs : List Int) (hx : xs.length ≤ 2 ^ 40) : RunCall Try.prog 78 [ints xs] [] (ownIQ xs) := by
  by_cases h : xs = []
  · subst h; exact Clone_e
  · exact Clone_ne xs hx h
end Go.Lg

set_option linter.unusedSimpArgs false
set_option linter.unusedVariables false
set_option maxRecDepth 100000
namespace Go.Lg
open Go.Proofs
section
variable {P : Program} {ops : Array Oper} {o : Oper} {s : List AV} {H : Heap} {K : KV} {fo : Operand} {xs : Array Operand} {ts : Array TypeId} {f : FuncId} {args args' : List AV} {zs : List Int}
theorem Loud.mkI (hc : RunCall P f args [] (ownIQ zs)) (he : Enters P f) (ho : o.op = .call ⟨.value fo, xs, ts⟩) (ha : callArgs ⟨s, H⟩ fo xs = some (f, args)) (hf : args.all frozenA = true)
    (hk : ∀ c H' S, OwnI (H ++ H') c zs S → (∀ i ∈ S, H.length ≤ i ∧ i < H.length + H'.length) → K (.c c) (H ++ H')) : Loud P ops o s H K :=
  Loud.call ho ha fun s' ha' => OpS.mkI hc he ho ha' hf hk
end
theorem RunCall.wk {P : Program} {f : FuncId} {args : List AV} {H : Heap} {Q Q' : KV} (h : RunCall P f args H Q) (hw : ∀ v H', Q v H' → ∃ v', (∀ w X u, VA w X H' v u → VA w X H' v' u) ∧ Q' v' H') : RunCall P f args H Q' :=
  fun w X vs hH hvs => (h w X vs hH hvs).mono fun e w' ⟨v, u, X', H', h1, h2, h3, h4, h5⟩ =>
    let ⟨v', k1, k2⟩ := hw v H' h5
    ⟨v', u, X', H', h1, k1 _ _ _ h2, h3, h4, k2⟩
theorem look_mid {H H3 : Heap} {g sz : Nat} {cs : List CV} : look (H ++ [some ⟨g, sz, cs⟩] ++ H3) H.length g = some ⟨g, sz, cs⟩ := look_of (b := ⟨g, sz, cs⟩) (by simp)
theorem set_mid {H H3 : Heap} {x y : Option Blk} : (H ++ [x] ++ H3).set H.length y = H ++ [y] ++ H3 := by
  rw [List.append_assoc, List.append_assoc, List.set_append_right _ _ (Nat.le_refl _), Nat.sub_self]; rfl
theorem look_set_ne {H : Heap} {id j g : Nat} {x : Option Blk} (h : id ≠ j) : look (H.set id x) j g = look H j g := by
  unfold look; rw [List.getElem?_set_ne h]
structure CpI (B : Heap) (j g : Nat) (size : Int) (given : List Int) (c r : CV) (l : List RO) (S I : List Nat) : Prop where
  out : look B j g = some ⟨g, 3, [.f (.int .i64 size), c, r]⟩
  rl : (l = [] ∧ r = .f .nil ∧ I = S) ∨ ∃ id g', r = .own id g' 0 l.length none ∧ look B id g' = some ⟨g', 3, kl kR l⟩ ∧ I = S ++ id :: l.flatMap (·.i)
  cells : ∀ o ∈ l, OwnI B o.c o.r.cells o.i
  giv : OwnI B c given S
  nd : I.Nodup
  lt : ∀ x ∈ I, 2 ≤ x ∧ x < B.length ∧ x ≠ j
theorem CpI.next {B B3 : Heap} {j g : Nat} {size : Int} {given : List Int} {c r : CV} {l : List RO} {S I : List Nat} (hC : CpI B j g size given c r l S I) (o : RO) {id g' : Nat}
    (hI : (l = [] ∧ I = S ∧ B.length ≤ id) ∨ I = S ++ id :: l.flatMap (·.i)) (hs : ∀ k ∈ I, k ≠ id → B3[k]? = B[k]?) (hlen : B.length ≤ B3.length)
    (hout : look B3 j g = some ⟨g, 3, [.f (.int .i64 size), c, .own id g' 0 (l.length + 1) none]⟩) (hid : look B3 id g' = some ⟨g', 3, kl kR (l ++ [o])⟩)
    (ho : OwnI B3 o.c o.r.cells o.i) (hoi : ∀ k ∈ o.i, B.length ≤ k ∧ k < B3.length ∧ k ≠ id ∧ k ≠ j) (hi : 2 ≤ id ∧ id < B3.length ∧ id ≠ j) (h2 : 2 ≤ B.length) :
    CpI B3 j g size given c (.own id g' 0 (l.length + 1) none) (l ++ [o]) S (S ++ id :: (l ++ [o]).flatMap (·.i)) := by
  have hJ : (S ++ id :: l.flatMap (·.i)).Nodup ∧ (∀ x ∈ S ++ l.flatMap (·.i), x ∈ I) ∧ (∀ x ∈ S ++ l.flatMap (·.i), x ≠ id) := by
    rcases hI with ⟨rfl, rfl, hb⟩ | rfl
    · have hne : ∀ x ∈ I, x ≠ id := fun x hx => by have := hC.lt x hx; omega
      refine ⟨?_, by simp, by simpa using hne⟩
      simp only [List.flatMap_nil]
      rw [List.nodup_append]
      exact ⟨hC.nd, by simp, fun a ha b hb => by simp at hb; subst hb; exact hne a ha⟩
    · have hn := hC.nd
      refine ⟨hn, fun x hx => ?_, fun x hx he => ?_⟩
      · simp only [List.mem_append, List.mem_cons] at hx ⊢
        rcases hx with hx | hx
        · exact .inl hx
        · exact .inr (.inr hx)
      · subst he
        rw [List.nodup_append] at hn
        obtain ⟨n1, n2, n3⟩ := hn
        rcases List.mem_append.1 hx with hx | hx
        · exact n3 x hx x (by simp) rfl
        · exact (List.nodup_cons.1 n2).1 hx
  obtain ⟨hn, hin, hne⟩ := hJ
  have hmem : ∀ x ∈ S ++ id :: (l ++ [o]).flatMap (·.i), x ∈ S ++ l.flatMap (·.i) ∨ x = id ∨ x ∈ o.i := fun x hx => by
    simp only [List.flatMap_append, List.flatMap_cons, List.flatMap_nil, List.append_nil, List.mem_append, List.mem_cons] at hx ⊢
    rcases hx with hx | rfl | hx | hx
    · exact .inl (.inl hx)
    · exact .inr (.inl rfl)
    · exact .inl (.inr hx)
    · exact .inr (.inr hx)
  refine ⟨hout, .inr ⟨id, g', by simp, hid, rfl⟩, fun o' ho' => ?_, ?_, ?_, fun x hx => ?_⟩
  · rcases List.mem_append.1 ho' with ho' | ho'
    · refine (hC.cells o' ho').same fun k hk => ?_
      have : k ∈ S ++ l.flatMap (·.i) := List.mem_append.2 (.inr (List.mem_flatMap.2 ⟨o', ho', hk⟩))
      exact hs k (hin k this) (hne k this)
    · simp at ho'; subst ho'; exact ho
  · refine hC.giv.same fun k hk => ?_
    have : k ∈ S ++ l.flatMap (·.i) := List.mem_append.2 (.inl hk)
    exact hs k (hin k this) (hne k this)
  · have e : S ++ id :: (l ++ [o]).flatMap (·.i) = (S ++ id :: l.flatMap (·.i)) ++ o.i := by simp
    rw [e, List.nodup_append]
    refine ⟨hn, ho.nd, fun a ha b hb he => ?_⟩
    subst he
    have h4 := hoi a hb
    have : a ∈ S ++ l.flatMap (·.i) := by
      simp only [List.mem_append, List.mem_cons] at ha ⊢
      rcases ha with ha | ha | ha
      · exact .inl ha
      · exact absurd ha h4.2.2.1
      · exact .inr ha
    have := hC.lt a (hin a this)
    omega
  · rcases hmem x hx with hx | rfl | hx
    · have := hC.lt x (hin x hx); omega
    · exact hi
    · have := hoi x hx; omega
def puzQ0 (p : Puz) : KV := fun v H => ∃ c r S1 S2, v = .agg [.f (.int .i64 p.size), c, r] ∧ OwnI H c p.given S1 ∧ ((r = .f .nil ∧ p.rules = [] ∧ S2 = []) ∨ OwnR H r p.rules S2) ∧ (S1 ++ S2).Nodup
def limN : CV → Prop
  | .own _ _ _ _ lim => lim = none
  | .f .nil => True
  | _ => False
def puzQ1 (p : Puz) : KV := fun v H => ∃ c r S1 S2, v = .agg [.f (.int .i64 p.size), c, r] ∧ OwnI H c p.given S1 ∧ ((r = .f .nil ∧ p.rules = [] ∧ S2 = []) ∨ OwnR H r p.rules S2) ∧ (S1 ++ S2).Nodup ∧ limN r
theorem CpI.done {B B' : Heap} {j g : Nat} {p : Puz} {c r : CV} {l : List RO} {S I : List Nat} (hC : CpI B j g p.size p.given c r l S I) (hm : l.map (·.r) = p.rules) (hs : ∀ k ∈ I, B'[k]? = B[k]?) :
    puzQ1 p (.agg [.f (.int .i64 p.size), c, r]) B' := by
  rcases hC.rl with ⟨rfl, rfl, rfl⟩ | ⟨id, g', rfl, hid, rfl⟩
  · exact ⟨_, _, _, [], rfl, hC.giv.same hs, .inl ⟨rfl, hm.symm, rfl⟩, by rw [List.append_nil]; exact hC.nd, trivial⟩
  · refine ⟨_, _, _, _, rfl, hC.giv.same fun k hk => hs k (List.mem_append.2 (.inl hk)), .inr ?_, hC.nd, rfl⟩
    rw [← hm]
    refine OwnR.same (.o id g' none l [] (by rw [List.append_nil]; exact hid) hC.cells ?_ (by simp)) fun k hk => hs k (List.mem_append.2 (.inr hk))
    have := hC.nd
    rw [List.nodup_append] at this
    exact this.2.1
theorem look_set_eq {H : Heap} {id g sz : Nat} {cs : List CV} (h : id < H.length) : look (H.set id (some ⟨g, sz, cs⟩)) id g = some ⟨g, sz, cs⟩ := look_of (b := ⟨g, sz, cs⟩) (by rw [List.getElem?_set_self h])
theorem copyPuzzle_own1 (p : Puz) (hx : smP p) : RunCall Try.prog 56 [aP p] [] (puzQ1 p) := by
  refine RunCall.cw (c := _) Try.func56 rfl (n := 31) Try.ntmps56 (rs := [.cell 2 32]) rfl ?_
  simp only [List.length_cons, List.length_nil, Nat.reduceAdd, Nat.reduceSub, List.replicate, List.cons_append, List.nil_append]
  simp(maxSteps:=999999)(disch:=omega)only[go_sem,reduceAdd,reduceMul,reduceSub,reduceEqDiff,reduceLeDiff]
  intro g1 g2
  refine drawP_lF [0, 1, 2, 3, 6, 4, 5] [] (some 6) [7] [] foll (by kernel_rfl) ?_
  simp (maxSteps := 1000000) (disch := omega) only [go_sem, Nat.reduceBEq, Bool.true_or, Nat.reduceAdd, Nat.reduceMul, Nat.reduceSub, Nat.reduceEqDiff, Nat.reduceLeDiff]
  refine Loud.mkI (Clone_own p.given hx.1) (⟨_, Try.func78, rfl, rfl⟩ : Enters Try.prog 78) rfl rfl rfl ?_
  intro c H1 S h1 hS
  simp(maxSteps:=999999)(disch:=omega)only[go_sem,reduceAdd,reduceMul,reduceSub,reduceEqDiff,reduceLeDiff, look_last, set_last]
  intro g
  refine loop_rule2 (fun (i : Nat) (b : Heap × CV × List RO × List Nat) => p.rules.length - i) (fun i b => i ≤ p.rules.length ∧ b.2.2.1.length = i ∧ b.2.2.1.map (·.r) = p.rules.take i ∧ look b.1 1 g2 = some ⟨g2, 3, [.f (.int .i64 0), .f .nil, .f .nil]⟩ ∧ CpI b.1 (H1.length + 1 + 1) g p.size p.given c b.2.1 b.2.2.1 S b.2.2.2)
    (fun i _ => [.a, .a, .k, .k, .a, .a, .a, .a, .a, .a, .a, .a, .a, .k, .k, .p (int i), .a, .a, .a, .a, .a, .a, .a, .a, .a, .a, .a, .a, .a, .a, .a]) (fun i b => b.1) 0 (some ⟨g1, 1, cP p⟩ :: some ⟨g2, 3, [.f (.int .i64 0), .f .nil, .f .nil]⟩ :: (H1 ++ [some ⟨g, 3, [.f (.int .i64 p.size), c, .f .nil]⟩]), .f .nil, [], S)
    ⟨Nat.zero_le _, rfl, rfl, look_of (b := ⟨g2, 3, [.f (.int .i64 0), .f .nil, .f .nil]⟩) rfl, ?_⟩ (by simp(maxSteps:=999999)(disch:=omega)only[go_sem,reduceAdd,reduceMul,reduceSub,reduceEqDiff,reduceLeDiff]; rfl) (HLe.refl _) ?_
  · refine ⟨look_of (b := ⟨g, 3, [.f (.int .i64 p.size), c, .f .nil]⟩) (by simp), .inl ⟨rfl, rfl, rfl⟩, by simp, h1.app, h1.nd, fun x hx => ?_⟩
    have := hS x hx
    simp only [List.length_append, List.length_cons, List.length_nil] at this ⊢
    omega
  rintro i ⟨B, r, l, I⟩ ⟨hi, hl, hm, h1, hC⟩
  simp only at hl hm h1 hC ⊢
  have hj2 : 2 ≤ H1.length + 1 + 1 := by omega
  generalize H1.length + 1 + 1 = j at hC hj2 ⊢
  simp(maxSteps:=999999)(disch:=omega)only[go_sem,reduceAdd,reduceMul,reduceSub,reduceEqDiff,reduceLeDiff]
  ((first | with_reducible refine condK_dec ?_ ?_ | with_reducible refine condK_ndec ?_ ?_ | with_reducible refine condK_nb ?_ ?_ | refine condK_b ?_ ?_) <;> intro h)
  · have h : i < p.rules.length := by omega
    simp(maxSteps:=999999)(disch:=omega)only[go_sem,reduceAdd,reduceMul,reduceSub,reduceEqDiff,reduceLeDiff, look_last, set_last]
    intro g3
    refine OpS.mkI (Clone_own (nth p.rules i).cells (hx.2.2 _ (nth_mem h))) (⟨_, Try.func78, rfl, rfl⟩ : Enters Try.prog 78) rfl rfl rfl ?_
    intro c3 H3 S3 h3 hS3
    simp(maxSteps:=999999)(disch:=omega)only[go_sem,reduceAdd,reduceMul,reduceSub,reduceEqDiff,reduceLeDiff, look_mid, set_mid]
    generalize hB2 : B ++ [some ⟨g3, 3, [.f (.int .i64 (nth p.rules i).kind), c3, .f (.int .i64 (nth p.rules i).val)]⟩] ++ H3 = B2
    have hap : ∃ X, B2 = B ++ X := ⟨_, by rw [← hB2, List.append_assoc]⟩
    have hlB : B.length < B2.length := by rw [← hB2]; simp
    have hR : look B2 B.length g3 = some ⟨g3, 3, [.f (.int .i64 (nth p.rules i).kind), c3, .f (.int .i64 (nth p.rules i).val)]⟩ := by rw [← hB2]; exact look_mid
    have hB : ∀ {k g' : Nat} {b : Blk}, look B k g' = some b → look B2 k g' = some b := fun h => by obtain ⟨X, rfl⟩ := hap; exact look_appL h
    have h4 : OwnI B2 c3 (nth p.rules i).cells S3 := by
      refine h3.same fun k hk => ?_
      have := hS3 k hk
      simp only [List.length_append, List.length_cons, List.length_nil] at this
      rw [← hB2]
      simp only [List.append_assoc, List.cons_append, List.nil_append]
      rw [List.getElem?_append_right (by omega), List.getElem?_append_right (by omega), List.getElem?_cons, List.getElem?_cons]
      rw [if_neg (by omega), if_neg (by omega)]
    have hS4 : ∀ k ∈ S3, B.length + 1 ≤ k ∧ k < B2.length := fun k hk => by
      have := hS3 k hk
      rw [← hB2]
      simp only [List.length_append, List.length_cons, List.length_nil] at this ⊢
      omega
    have hpl : p.rules.length ≤ 2 ^ 40 := hx.2.1
    have hk1 : ∀ k, k < B.length → B2[k]? = B[k]? := fun k hk => by obtain ⟨X, rfl⟩ := hap; exact List.getElem?_append_left hk
    have hlen : 1 < B.length := (List.getElem?_eq_some_iff.1 (look_some h1).1).1
    have hjl : j < B.length := (List.getElem?_eq_some_iff.1 (look_some hC.out).1).1
    have h12 := hB h1
    have hj := hB hC.out
    clear hB2 h3 hS3
    rcases hC.rl with ⟨rfl, rfl, rfl⟩ | ⟨id, g', rfl, hid, rfl⟩
    · have hj5 : ∀ X, look (B2 ++ X) j g = some ⟨g, 3, [.f (.int .i64 p.size), c, .f .nil]⟩ := fun X => look_appL hj
      have hj6 : ∀ X Y, look (B2 ++ X ++ Y) j g = some ⟨g, 3, [.f (.int .i64 p.size), c, .f .nil]⟩ := fun X Y => look_appL (look_appL hj)
      simp(maxSteps:=999999)(disch:=omega)only[go_sem,reduceAdd,reduceMul,reduceSub,reduceEqDiff,reduceLeDiff, hR, hj, hj5, hj6, look_last, set_last]
      intro g4 g5
      refine ⟨i + 1, (_, .own (B2.length + 1) g5 0 1 none, [] ++ [⟨nth p.rules i, c3, S3⟩], _), ⟨⟨h, by simp at hl ⊢; omega, by rw [List.map_append, hm, take_succ_nth h]; rfl, ?_, CpI.next (id := B2.length + 1) (g' := g5) hC ⟨nth p.rules i, c3, S3⟩ (.inl ⟨rfl, rfl, by omega⟩) (fun k hk hki => ?_) ?_ ?_ ?_ (h4.same fun k hk => ?_) (fun k hk => ?_) ?_ hlen⟩, by omega⟩, by omega, HLe.refl _⟩
      · rw [look_set_ne (by omega)]; exact look_appL (look_appL h12)
      · have := hC.lt k hk
        rw [List.getElem?_set_ne (by omega), List.getElem?_append_left (by simp; omega), List.getElem?_append_left (by omega), hk1 k (by omega)]
      · simp; omega
      · exact look_set_eq (by simp; omega)
      · rw [look_set_ne (by omega)]
        exact look_of (b := ⟨g5, 3, [.f (.int .i64 (nth p.rules i).kind), c3, .f (.int .i64 (nth p.rules i).val)]⟩) (by simp)
      · have := hS4 k hk
        rw [List.getElem?_set_ne (by omega), List.getElem?_append_left (by simp; omega), List.getElem?_append_left (by omega)]
      · have := hS4 k hk
        simp only [List.length_set, List.length_append, List.length_cons, List.length_nil]
        omega
      · simp only [List.length_set, List.length_append, List.length_cons, List.length_nil]
        omega
    · have hid := hB hid
      have hne := hC.lt id (by simp)
      have hj5 : ∀ X, look (B2 ++ X) j g = some ⟨g, 3, [.f (.int .i64 p.size), c, .own id g' 0 l.length none]⟩ := fun X => look_appL hj
      have hid5 : ∀ X, look (B2 ++ X) id g' = some ⟨g', 3, kl kR l⟩ := fun X => look_appL hid
      have hnj : id ≠ j := hne.2.2
      have hll : l.length ≤ 2 ^ 40 := by have := hx.2.1; omega
      simp(maxSteps:=999999)(disch:=omega)only[go_sem,reduceAdd,reduceMul,reduceSub,reduceEqDiff,reduceLeDiff, hR, hj, hj5, hid5, look_last, set_last, kl_length, look_set_ne hnj]
      intro g4 g5
      refine ⟨i + 1, (_, .own id g5 0 (l.length + 1) none, l ++ [⟨nth p.rules i, c3, S3⟩], _), ⟨⟨h, by simp [hl], by rw [List.map_append, hm, take_succ_nth h]; rfl, ?_, CpI.next (id := id) (g' := g5) hC ⟨nth p.rules i, c3, S3⟩ (.inr rfl) (fun k hk hki => ?_) ?_ ?_ ?_ (h4.same fun k hk => ?_) (fun k hk => ?_) ?_ hlen⟩, by omega⟩, by omega, HLe.refl _⟩
      · rw [look_set_ne (by omega), look_set_ne (by omega)]; exact look_appL h12
      · have := hC.lt k hk
        rw [List.getElem?_set_ne (by omega), List.getElem?_set_ne (by omega), List.getElem?_append_left (by omega), hk1 k (by omega)]
      · simp; omega
      · exact look_set_eq (by simp; omega)
      · rw [look_set_ne (by omega), look_set_eq (by simp; omega), kl_append]
        rfl
      · have := hS4 k hk
        rw [List.getElem?_set_ne (by omega), List.getElem?_set_ne (by omega), List.getElem?_append_left (by omega)]
      · have := hS4 k hk
        simp only [List.length_set, List.length_append, List.length_cons, List.length_nil]
        omega
      · simp only [List.length_set, List.length_append, List.length_cons, List.length_nil]
        omega
  · have hout := hC.out
    have hlen : 1 < B.length := by
      obtain ⟨hh, _⟩ := look_some h1
      exact (List.getElem?_eq_some_iff.1 hh).1
    simp(maxSteps:=999999)(disch:=omega)only[go_sem,reduceAdd,reduceMul,reduceSub,reduceEqDiff,reduceLeDiff, hout, h1, look_set_eq hlen]
    have hi' : i = p.rules.length := by omega
    subst hi'
    rw [List.take_length] at hm
    refine ⟨_, HLe.refl _, hC.done hm fun k hk => ?_⟩
    have := hC.lt k hk
    exact List.getElem?_set_ne (by omega)
theorem copyPuzzle_own (p : Puz) (hx : smP p) : RunCall Try.prog 56 [aP p] [] (puzQ0 p) :=
  (copyPuzzle_own1 p hx).weaker fun v H' ⟨c, r, S1, S2, h1, h2, h3, h4, _⟩ => ⟨H', HLe.refl _, c, r, S1, S2, h1, h2, h3, h4⟩
end Go.Lg

set_option linter.unusedSimpArgs false
set_option linter.unusedVariables false
set_option maxRecDepth 100000
namespace Go.Lg
open Go.Proofs
section
variable {P : Program} {ops : Array Oper} {o : Oper} {s : List AV} {H : Heap} {K : KV} {fo : Operand} {xs : Array Operand} {ts : Array TypeId} {f : FuncId} {args args' : List AV} {zs : List Int}
theorem Loud.mkP {p : Puz} (hc : RunCall P f args [] (puzQ p)) (he : Enters P f) (ho : o.op = .call ⟨.value fo, xs, ts⟩) (ha : callArgs ⟨s, H⟩ fo xs = some (f, args)) (hf : args.all frozenA = true)
    (hk : ∀ cs H' S, OwnP (H ++ H') cs p S → (∀ i ∈ S, H.length ≤ i ∧ i < H.length + H'.length) → K (.agg cs) (H ++ H')) : Loud P ops o s H K :=
  Loud.call ho ha fun s' ha' => OpS.mkP hc he ho ha' hf hk
end
theorem VA.wk3 {w : World} {X : Cx} {H : Heap} {a b : CV} {u : Value} (h : VA w X H (.agg [a, b, .f .nil]) u) : VA w X H (.agg [a, b, .f (.sl 0 [])]) u := by
  cases h with
  | agg cs vs hs h =>
    refine .agg _ vs hs fun j hj => ?_
    obtain ⟨x, h1, h2⟩ := h j hj
    refine ⟨x, h1, ?_⟩
    rcases j with _ | _ | _ | j
    · exact h2
    · exact h2
    · have h2 : VF w X.I .nil x := h2
      cases h2
      exact VF.sl0 none 0
    · simp at hj; omega
theorem cons2 {a b : Option Blk} {L : Heap} {k : Nat} (h : 2 ≤ k) : (a :: b :: L)[k]? = L[k - 2]? := by
  obtain ⟨n, rfl⟩ : ∃ n, k = n + 2 := ⟨k - 2, by omega⟩
  rfl
theorem nodup4 {S1 S2 S3 S4 : List Nat} {n1 n2 : Nat} (h12 : (S1 ++ S2).Nodup) (h3 : S3.Nodup) (h4 : S4.Nodup) (k12 : ∀ i ∈ S1 ++ S2, i < n1) (k3 : ∀ i ∈ S3, n1 ≤ i ∧ i < n2) (k4 : ∀ i ∈ S4, n2 ≤ i) (hn : n1 ≤ n2) : (S1 ++ (S2 ++ (S3 ++ S4))).Nodup := by
  rw [← List.append_assoc, List.nodup_append]
  refine ⟨h12, ?_, fun a ha b hb he => ?_⟩
  · rw [List.nodup_append]
    refine ⟨h3, h4, fun a ha b hb he => ?_⟩
    have := k3 a ha; have := k4 b hb; omega
  · have := k12 a ha
    rcases List.mem_append.1 hb with hb | hb
    · have := k3 b hb; omega
    · have := k4 b hb
      omega
theorem copyPuzzle_puz (p : Puz) (hx : smP p) : RunCall Try.prog 56 [aP p] [] (puzQ p) := by
  refine (copyPuzzle_own p hx).wk ?_
  rintro v H' ⟨c, r, S1, S2, rfl, h1, h2, h3⟩
  rcases h2 with ⟨rfl, h4, rfl⟩ | h2
  · refine ⟨.agg [.f (.int .i64 p.size), c, .f (.sl 0 [])], fun w X u h => ?_, _, _, rfl, ⟨_, _, S1, [], rfl, rfl, h1, by rw [h4]; exact .e⟩, h3⟩
    exact h.wk3
  · exact ⟨_, fun _ _ _ h => h, _, _, rfl, ⟨_, _, S1, S2, rfl, rfl, h1, h2⟩, h3⟩
end Go.Lg
