/- Copies of slices. -/
import Derived.Test.YtpdaalgdkdpihaaGpL
set_option linter.unusedSimpArgs false
set_option linter.unusedVariables false
set_option maxRecDepth 100000
namespace Go.Lg
open Go.Proofs

/-- Whether an empty slice is nil is open. -/
theorem OpS.nilOpen {P : Program} {o : Oper} {st : St} {K : KV} {t yt : TypeId} {x y : Operand} {ei : TI} (ho : o.op = .binOp .eql t x y yt) (ht : sliceOf P t = some ei)
    (hx : evO st.s x = .c (.f (.sl 0 []))) (hy : isNilV st.h (evO st.s y) = some true) (hk : ∀ b, K (.c (.f (.bool b))) st.h) : OpS P o st K := by
  intro w X a R next Q hn
  obtain ⟨ti, e, ht, hk', he⟩ := sliceOf_some ht
  obtain ⟨inf, d, z', h1, h2, h3, h4, h5, h6, h7⟩ := tinf_some ht
  rw [h5] at hk'; cases tk_slice hk'
  have e2 := nil_of_isNone hy (evO_sound R y)
  have hx' := evO_sound R x
  rw [hx] at hx'
  have : ∃ a0 c, a.eval x = .slice a0 0 c := by
    have hh := va_c hx'
    generalize a.eval x = xv at hh
    cases hh with
    | sl0 a cap => exact ⟨_, _, rfl⟩
    | sl n cs b o cap u hc hI hu hv => exact ⟨_, _, rfl⟩
  obtain ⟨a0, c, ex⟩ := this
  have hrun : (do eqGuard .eql t x y (a.eval x) (a.eval y); binOp .eql t (a.eval x) (a.eval y) : Sem Value).run P w = .ok (.bool a0.isNone) w := by
    rw [Sem.run_bind, run_eqGuard_plain (by rw [ex]), Result.andThen_ok, e2, ex]
    exact Lib.run_eql_slice_nil w t e _ _ _ _ _ h2
  have h1 : (execOp a.eval o).run P w = .ok (.value (.bool a0.isNone)) w := by
    simp only [execOp, ho]; rw [Sem.run_bind, hrun]; rfl
  unfold Oper.wp
  rw [h1, Oper.upon_value]
  exact hn (.c (.f (.bool a0.isNone))) _ X st.h w (.c _ _ (VF.bool _)) R.heap (Ev.refl _ _ _) (hk _)

theorem OpS.valNil {P : Program} {o : Oper} {st : St} {K : KV} (h : opV P st.s st.h o.op = some (.c (.f .nil))) (hk : K (.c (.f (.sl 0 []))) st.h) : OpS P o st K := by
  intro w X a R next Q hn
  obtain ⟨u, h1, h2⟩ := opV_sound (P := P) R h
  unfold Oper.wp
  rw [h1 w (Grow.refl w) o rfl, Oper.upon_value]
  have : VA w X st.h (.c (.f (.sl 0 []))) u := by
    have hh := va_c h2
    cases hh
    exact .c (.f (.sl 0 [])) _ (VF.sl0 none 0)
  exact hn _ u X st.h w this R.heap (Ev.refl _ _ _) hk
theorem RunCall.of_bodyN {P : Program} {f : FuncId} {fn : Func} {c : Code} {args : List AV} {H : Heap} {Q : AV → Heap → Prop} (hf : P.funcs[f]? = some fn) (hb : fn.body = some c) {n : Nat} (hn : fn.ntmps = n) {rs : List ResultVar} (hr : fn.results.toList = rs)
    (h : RunC P c ⟨args ++ List.replicate (n - args.length) .void, H⟩ fun e st' => (e = .normal ∨ e = .ret) ∧ ∃ v H', resV P st'.s st'.h rs = some v ∧ HLe st'.h H' ∧ Q v H') : RunCall P f args H Q := by
  subst hn hr
  exact RunCall.of_body hf hb h
theorem sliceOf_of {P : Program} {t e : TypeId} {ti ei : TI} (ht : tinf P t = some ti) (hk : ti.k = .slice e) (he : tinf P e = some ei) : sliceOf P t = some ei := by
  unfold sliceOf; simp only [ht, hk, he]
theorem binA_ne {P : Program} {H : Heap} {t e : TypeId} {ti : TI} {n : Nat} {cs : List FV} (ht : tinf P t = some ti) (hk : ti.k = .slice e) (hn : 0 < n) : binA P H .eql t (.c (.f (.sl n cs))) (.c (.f .nil)) = some (.c (.f (.bool false))) := by
  unfold binA
  simp only [ht, hk, isNilV, if_neg (show ¬ n = 0 by omega)]
  rfl

theorem Clone_ne (xs : List Int) (hx : xs.length ≤ 2 ^ 40) (h0 : xs ≠ []) : RunCall Try.prog 78 [ints xs] [] (ownIQ xs) := by
  have hp : 0 < xs.length := List.length_pos_iff.2 h0
  refine RunCall.cw (c := _) Try.func78 rfl (n := 8) Try.ntmps78 (rs := [.tmp 2]) rfl ?_
  simp only [List.length_cons, List.length_nil, Nat.reduceAdd, Nat.reduceSub, List.replicate, List.cons_append, List.nil_append]
  simp (maxSteps := 1000000) (disch := omega) only [go_sem, Nat.reduceAdd, Nat.reduceMul, Nat.reduceSub, Nat.reduceEqDiff, Nat.reduceLeDiff, binA_ne ti22 rfl hp]
  intro g g'
  rw [Nat.zero_add]
  exact ⟨_, HLe.refl _, _, _, rfl, .o 0 g' none xs [] (by rw [List.append_nil]; exact look_of (b := ⟨g', 1, cl (eI .i64) xs⟩) rfl), scalH_ints (fun id b hb => by simp at hb)⟩
theorem Clone_e : RunCall Try.prog 78 [ints []] [] (ownIQ []) := by
  refine RunCall.of_bodyN (c := _) rfl rfl (n := 8) rfl (rs := [.tmp 2]) rfl ?_
  refine RunC.seq (RunC.region (OpS.val (v := .c (.f .nil)) rfl ?_))
  refine RunC.seq (RunC.seq (RunC.region (OpS.val (v := ints []) rfl (OpS.nilOpen rfl (sliceOf_of ti22 rfl ti3) rfl rfl fun b => ?_))))
  refine RunC.cond (b := b) rfl (fun hb => ?_) (fun hb => ?_)
  · refine RunC.seq (RunC.region (OpS.valNil rfl ?_))
    refine RunC.ret ?_
    exact ⟨.inr rfl, _, _, rfl, HLe.refl _, _, _, rfl, .e, fun id b hb => by simp at hb⟩
  · refine RunC.skip ?_
    refine (cw_sound _ _ _ (doneK Try.prog [.tmp 2] (ownIQ [])) ?_).mono fun e st ⟨h1, v, h2, H', h3, h4⟩ => ⟨h1, v, H', h2, h3, h4⟩
    simp only [List.length_cons, List.length_nil, Nat.reduceAdd, Nat.reduceSub, List.replicate, List.cons_append, List.nil_append]
    simp (maxSteps := 1000000) (disch := omega) only [go_sem, Nat.reduceAdd, Nat.reduceMul, Nat.reduceSub, Nat.reduceEqDiff, Nat.reduceLeDiff]
    intro g
    show lessQ [some ⟨g, 1, []⟩] (ownIQ []) (.c (.own 0 g 0 0 none))
    exact ⟨_, HLe.refl _, _, _, rfl, .o 0 g none [] [] (look_of (b := ⟨g, 1, []⟩) rfl), scalH_ints (xs := []) (fun id b hb => by simp at hb)⟩
theorem Clone_own (xs : List Int) (hx : xs.length ≤ 2 ^ 40) : RunCall Try.prog 78 [ints xs] [] (ownIQ xs) := by
  by_cases h : xs = []
  · subst h; exact Clone_e
  · exact Clone_ne xs hx h
