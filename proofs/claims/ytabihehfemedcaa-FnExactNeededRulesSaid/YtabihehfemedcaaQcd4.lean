/- GpJG, cut to what is needed. -/
import Derived.Test.YtabihehfemedcaaQcd3
set_option linter.unusedSimpArgs false
set_option linter.unusedVariables false
set_option maxRecDepth 100000
namespace Go.Lg
open Go.Proofs
def needS (p : Puz) : KV := fun v H => scalH H ∧ ((needOk p = false ∧ v = .tup [.c (.f .nil), bool false]) ∨ (needOk p = true ∧ ∃ r S, v = .tup [.c r, bool true] ∧ scalC r = true ∧ ((r = .f .nil ∧ needV p = [] ∧ S = []) ∨ OwnR H r (needV p) S)))
theorem needIQ_S {P : Program} {f : FuncId} {args : List AV} {H : Heap} {p : Puz} (h : RunCall P f args H (needIQ p)) : RunCall P f args H (needS p) :=
  h.weaker fun v H' hq => by
    rcases hq with ⟨h1, rfl⟩ | ⟨h1, r, S, rfl, ⟨rfl, h2, rfl⟩ | k⟩
    · exact ⟨keepH [] H', keepH_le _ _, scalH_keep (by simp), .inl ⟨h1, rfl⟩⟩
    · exact ⟨keepH [] H', keepH_le _ _, scalH_keep (by simp), .inr ⟨h1, _, [], rfl, rfl, .inl ⟨rfl, h2, rfl⟩⟩⟩
    · exact ⟨keepH S H', keepH_le _ _, scalH_keep k.blk, .inr ⟨h1, _, S, rfl, k.scal1, .inr (k.same fun i hi => keepH_get hi (k.lt i hi))⟩⟩
theorem OpS.mkN {P : Program} {o : Oper} {st : St} {K : KV} {fo : Operand} {xs : Array Operand} {ts : Array TypeId} {f : FuncId} {args args' : List AV} {p : Puz} (hc : RunCall P f args' [] (needIQ p)) (he : Enters P f) (ho : o.op = .call ⟨.value fo, xs, ts⟩) (ha : callArgs st fo xs = some (f, args)) (hs : args.mapM (snapD st.h) = some args')
    (hk : ∀ r H' S, (r = .f .nil ∧ needV p = [] ∧ S = []) ∨ OwnR (st.h ++ H') r (needV p) S → (∀ i ∈ S, st.h.length ≤ i ∧ i < st.h.length + H'.length) → K (.tup [.c r, bool (needOk p)]) (st.h ++ H')) : OpS P o st K :=
  OpS.mkD (needIQ_S hc) he ho ha hs fun v H' ⟨h3, hq⟩ => by
    rcases hq with ⟨h1, rfl⟩ | ⟨h1, r, S, rfl, h4, h2⟩
    · refine ⟨⟨rfl, rfl, h3⟩, ?_⟩
      have := hk (.f .nil) (shiftH st.h.length H') [] (.inl ⟨rfl, by unfold needV; rw [if_neg (by rw [h1]; simp)], rfl⟩) (by simp)
      rw [h1] at this
      exact this
    · refine ⟨⟨rfl, by simp only [Lg.scal1, List.all_cons, List.all_nil, scalA, h4, Bool.true_and, Bool.and_true]; rfl, h3⟩, ?_⟩
      have := hk (shiftC st.h.length r) (shiftH st.h.length H') (S.map (· + st.h.length)) (by
        rcases h2 with ⟨rfl, h5, rfl⟩ | k
        · exact .inl ⟨rfl, h5, rfl⟩
        · exact .inr k.shift) (by
        rw [shiftH_length]
        rcases h2 with ⟨_, _, rfl⟩ | k
        · simp
        · exact shift_ge k.lt)
      rw [h1] at this
      exact this
theorem wRs_sub {a b : List Rul} (h : List.Sublist a b) : wRs a ≤ wRs b := by
  induction h with
  | slnil => exact Nat.le_refl _
  | cons x h ih =>
    simp only [wRs, List.length_cons, List.map_cons, List.sum_cons] at ih ⊢
    omega
  | cons_cons x h ih =>
    simp only [wRs, List.length_cons, List.map_cons, List.sum_cons] at ih ⊢
    omega
theorem need_w (p : Puz) : wRs (needV p) ≤ wRs p.rules := by
  by_cases hk : needOk p = true
  · exact wRs_sub (need_facts hk).2.2.2
  · have : needV p = [] := by unfold needV; rw [if_neg hk]
    rw [this]
    exact Nat.zero_le _
def N0 (H : Heap) (r : CV) (R : List Rul) (S : List Nat) : Prop := (r = .f .nil ∧ R = [] ∧ S = []) ∨ OwnR H r R S
theorem N0.same {H H' : Heap} {r : CV} {R : List Rul} {S : List Nat} (h : N0 H r R S) (hs : ∀ i ∈ S, H'[i]? = H[i]?) : N0 H' r R S := h.imp (fun k => k) (fun k => k.same hs)
theorem N0.snap {H : Heap} {r : CV} {R : List Rul} {S : List Nat} (h : N0 H r R S) : snapD H (.c r) = some (rsl eR R) := by
  rcases h with ⟨rfl, rfl, _⟩ | k
  · exact (OwnL.n (E := eR) (n := 3)).snap
  · simp only [snapD, k.frzC, Option.map_some]
theorem snapD_rs {H : Heap} {R : List Rul} : snapD H (rsl eR R) = some (rsl eR R) := rfl
theorem markNilR_run (k : Int) : Reads Try.prog 48 [.c (.f .nil), int k] (int k) := by
  refine RunCall.cw (c := _) Try.func48 rfl (n := 34) Try.ntmps48 (rs := [.tmp 4]) rfl ?_
  simp only [List.length_cons, List.length_nil, Nat.reduceAdd, Nat.reduceSub, List.replicate, List.cons_append, List.nil_append]
  simp (maxSteps := 1000000) (disch := omega) only [go_sem, Nat.reduceAdd, Nat.reduceMul, Nat.reduceSub, Nat.reduceEqDiff, Nat.reduceLeDiff]
  refine loop_rule (fun _ : Unit => 0) (fun _ => True) (fun _ => [.k, .p (int k), .a, .a, .a, .p (int 0), .a, .a, .a, .a, .a, .a, .a, .a, .a, .a, .a, .a, .a, .a, .a, .a, .a, .a, .a, .a, .a, .a, .a, .a, .a, .a, .a, .a]) (fun _ => []) () trivial (by simp (maxSteps := 1000000) (disch := omega) only [go_sem, Nat.reduceAdd, Nat.reduceMul, Nat.reduceSub, Nat.reduceEqDiff, Nat.reduceLeDiff]) (hle_nil _) ?_
  intro _ _
  simp (maxSteps := 1000000) (disch := omega) only [go_sem, Nat.reduceAdd, Nat.reduceMul, Nat.reduceSub, Nat.reduceEqDiff, Nat.reduceLeDiff]
  try simp only [show decide ((0 : Int) < ((0 : Nat) : Int)) = false from rfl]
  try simp (maxSteps := 1000000) (disch := omega) only [go_sem, Nat.reduceAdd, Nat.reduceMul, Nat.reduceSub, Nat.reduceEqDiff, Nat.reduceLeDiff, lt_no]
theorem markR0 {H : Heap} {r : CV} {R : List Rul} {S : List Nat} (k : Int) (h : N0 H r R S) (hk : 0 ≤ k ∧ k + wM R ≤ 2 ^ 50) (hx : smRs R) : RunCall Try.prog 48 [.c r, int k] H (fun v H' => v = int (k + wM R) ∧ N0 H' r (mrk k R) S ∧ Frm H H' S) := by
  rcases h with ⟨rfl, rfl, rfl⟩ | h
  · refine (RunCall.frame rfl (markNilR_run k) fun r H' h => by rw [h]; rfl).weaker ?_
    rintro r H2 ⟨r', H', rfl, rfl, rfl⟩
    refine ⟨H, HLe.app _ _, ?_, .inl ⟨rfl, rfl, rfl⟩, Frm.refl _ _⟩
    simp [shiftA, shift1, shiftC, wM]
  · exact (markRuleS_deep H r R S k h hk hx).weaker fun v H' ⟨h1, h2, h3⟩ => ⟨H', HLe.refl _, h1, .inr h2, h3⟩
set_option maxHeartbeats 2000000 in
theorem law_NeededRules (p : Puz) (h1 : okP' p) : Reads Try.prog 11 [aP p] (bool true) := by
  refine RunCall.cw (c := _) Try.func11 rfl (n := 96) Try.ntmps11 (rs := [.tmp 2]) rfl ?_
  simp only [List.length_cons, List.length_nil, Nat.reduceAdd, Nat.reduceSub, List.replicate, List.cons_append, List.nil_append]
  simp (maxSteps := 1000000) (disch := omega) only [go_sem, Nat.reduceAdd, Nat.reduceMul, Nat.reduceSub, Nat.reduceEqDiff, Nat.reduceLeDiff]
  intro g
  first | refine OpS.rd (szPuzzle_run p 1048576 (by omega) h1) (⟨_, Try.func29, rfl, rfl⟩ : Enters Try.prog 29) rfl rfl rfl rfl ?_ | refine Loud.rd (szPuzzle_run p 1048576 (by omega) h1) (⟨_, Try.func29, rfl, rfl⟩ : Enters Try.prog 29) rfl rfl rfl rfl ?_
  simp (maxSteps := 1000000) (disch := omega) only [go_sem, Nat.reduceAdd, Nat.reduceMul, Nat.reduceSub, Nat.reduceEqDiff, Nat.reduceLeDiff]
  have hb := szI_le (n := wP p) (left := 1048576) (by omega)
  (first | with_reducible refine condK_dec (fun h => ?_) (fun h => ?_) | with_reducible refine condK_ndec (fun h => ?_) (fun h => ?_) | with_reducible refine condK_nb (fun h => ?_) (fun h => ?_) | refine condK_b (fun h => ?_) (fun h => ?_))
  · simp (maxSteps := 1000000) (disch := omega) only [go_sem, Nat.reduceAdd, Nat.reduceMul, Nat.reduceSub, Nat.reduceEqDiff, Nat.reduceLeDiff]
  obtain ⟨hw, hw2⟩ := szI_ok h
  have hs := smP_of (p := p) (n := 1048576) (by omega) (by omega)
  have hwm := wMP_small p
  obtain ⟨hR, hRl⟩ := need_sm hs
  have hww := need_w p
  have hwp : wRs p.rules ≤ wP p := by unfold wP; omega
  have hspec := sNeededRules_run p hs
  have himpl := NeededRules_own p hs
  have hread := NeededRules_rd p hs
  simp (maxSteps := 1000000) (disch := omega) only [go_sem, Nat.reduceAdd, Nat.reduceMul, Nat.reduceSub, Nat.reduceEqDiff, Nat.reduceLeDiff]
  first | refine OpS.mk (toPuzzle_run p hs) (⟨_, Try.func31, rfl, rfl⟩ : Enters Try.prog 31) rfl rfl rfl rfl rfl ?_ | refine Loud.mk (toPuzzle_run p hs) (⟨_, Try.func31, rfl, rfl⟩ : Enters Try.prog 31) rfl rfl rfl rfl rfl ?_
  simp (maxSteps := 1000000) (disch := omega) only [go_sem, Nat.reduceAdd, Nat.reduceMul, Nat.reduceSub, Nat.reduceEqDiff, Nat.reduceLeDiff]
  first | refine OpS.mk (hspec) (⟨_, Try.func45, rfl, rfl⟩ : Enters Try.prog 45) rfl rfl rfl rfl rfl ?_ | refine Loud.mk (hspec) (⟨_, Try.func45, rfl, rfl⟩ : Enters Try.prog 45) rfl rfl rfl rfl rfl ?_
  simp (maxSteps := 1000000) (disch := omega) only [go_sem, Nat.reduceAdd, Nat.reduceMul, Nat.reduceSub, Nat.reduceEqDiff, Nat.reduceLeDiff]
  refine OpS.mkP (toPuzzle_deep p hs) (⟨_, Try.func31, rfl, rfl⟩ : Enters Try.prog 31) rfl rfl rfl ?_
  intro cs H1 S1 hP1 hS1
  simp only [List.length_cons, List.length_nil] at hS1
  obtain ⟨c1, c2, T1, T2, rfl, eS, k1, k2⟩ := hP1.ex
  simp (maxSteps := 1000000) (disch := omega) only [go_sem, Nat.reduceAdd, Nat.reduceMul, Nat.reduceSub, Nat.reduceEqDiff, Nat.reduceLeDiff, look_last, set_last]
  intro g2
  obtain ⟨HA, hHA⟩ : ∃ HA : Heap, HA = some ⟨g, 1, cP p⟩ :: (H1 ++ [some ⟨g2, 3, [.f (.int .i64 p.size), c1, c2]⟩]) := ⟨_, rfl⟩
  have hA0 : look HA 0 g = some ⟨g, 1, cP p⟩ := by rw [hHA]; exact look_zero
  have hA1 : look HA (H1.length + 1) g2 = some ⟨g2, 3, [.f (.int .i64 p.size), c1, c2]⟩ := by
    rw [hHA, look_succ]
    exact look_last
  have hAl : HA.length = H1.length + 2 := by rw [hHA]; simp
  have hPA : OwnP HA [.f (.int .i64 p.size), c1, c2] p S1 := by rw [hHA]; exact hP1.app (H' := [some ⟨g2, 3, [.f (.int .i64 p.size), c1, c2]⟩])
  rw [← hHA]
  clear hHA hP1
  have hsn : [AV.agg [.f (.int .i64 p.size), c1, c2]].mapM (snapD HA) = some [aP p] := by simp only [List.mapM_cons, List.mapM_nil, hPA.snap, Option.pure_def, Option.bind_eq_bind, Option.bind_some]
  refine OpS.mkN himpl (⟨_, Try.func46, rfl, rfl⟩ : Enters Try.prog 46) rfl rfl hsn ?_
  intro r H3 S3 hr hS3
  generalize needV p = R at hR hRl hww hspec hread hr
  generalize needOk p = ok at hspec hread
  have hS3 : ∀ i ∈ S3, HA.length ≤ i ∧ i < HA.length + H3.length := hS3
  obtain ⟨HB, hHB⟩ : ∃ HB : Heap, HB = HA ++ H3 := ⟨_, rfl⟩
  have hB0 : look HB 0 g = some ⟨g, 1, cP p⟩ := by rw [hHB]; exact look_appL hA0
  have hB1 : look HB (H1.length + 1) g2 = some ⟨g2, 3, [.f (.int .i64 p.size), c1, c2]⟩ := by rw [hHB]; exact look_appL hA1
  have hPB : OwnP HB [.f (.int .i64 p.size), c1, c2] p S1 := by rw [hHB]; exact hPA.app
  have hN : N0 HB r R S3 := by rw [hHB]; exact hr
  have hwR := wM_le R
  simp (maxSteps := 1000000) (disch := omega) only [go_sem, Nat.reduceAdd, Nat.reduceMul, Nat.reduceSub, Nat.reduceEqDiff, Nat.reduceLeDiff]
  rw [← hHB]
  clear hHB hr
  refine OpS.rdD (eqRuleS_run R R hR) (⟨_, Try.func47, rfl, rfl⟩ : Enters Try.prog 47) rfl rfl (snap_two hN.snap snapD_rs) rfl ?_
  simp (maxSteps := 1000000) (disch := omega) only [go_sem, Nat.reduceAdd, Nat.reduceMul, Nat.reduceSub, Nat.reduceEqDiff, Nat.reduceLeDiff]
  refine drawP_lF [0, 1, 2] [] none [3, 4] [] foll (by kernel_rfl) ?_
  simp (maxSteps := 1000000) (disch := omega) only [go_sem, Nat.reduceBEq, Bool.true_or, Nat.reduceAdd, Nat.reduceMul, Nat.reduceSub, Nat.reduceEqDiff, Nat.reduceLeDiff]
  simp (maxSteps := 1000000) (disch := omega) only [go_sem, Nat.reduceAdd, Nat.reduceMul, Nat.reduceSub, Nat.reduceEqDiff, Nat.reduceLeDiff, hB1, hB0]
  refine Loud.mk (toPuzzle_run p hs) (⟨_, Try.func31, rfl, rfl⟩ : Enters Try.prog 31) rfl rfl rfl rfl rfl ?_
  simp (maxSteps := 1000000) (disch := omega) only [go_sem, Nat.reduceAdd, Nat.reduceMul, Nat.reduceSub, Nat.reduceEqDiff, Nat.reduceLeDiff]
  refine OpS.rdD (eqPuzzle_run p p hs) (⟨_, Try.func33, rfl, rfl⟩ : Enters Try.prog 33) rfl rfl (snap_two hPB.snap snapD_aP) rfl ?_
  simp (maxSteps := 1000000) (disch := omega) only [go_sem, Nat.reduceAdd, Nat.reduceMul, Nat.reduceSub, Nat.reduceEqDiff, Nat.reduceLeDiff]
  simp (maxSteps := 1000000) (disch := omega) only [go_sem, Nat.reduceAdd, Nat.reduceMul, Nat.reduceSub, Nat.reduceEqDiff, Nat.reduceLeDiff, hB1]
  refine OpS.run (markPuzzle_deep _ _ p S1 1 hPB (by omega) hs) (⟨_, Try.func42, rfl, rfl⟩ : Enters Try.prog 42) rfl rfl ?_
  rintro _ H4 ⟨rfl, hp4, f4⟩
  have hN4 : N0 H4 r R S3 := hN.same fun i hi => f4.2 i fun hm => by
    have := hS3 i hi
    have := hS1 i hm
    omega
  have hb4 : look H4 0 g = some ⟨g, 1, cP p⟩ := by
    rw [f4.look fun hm => by have := hS1 0 hm; omega]
    exact hB0
  simp (maxSteps := 1000000) (disch := omega) only [go_sem, lt_no, lt_yes, le_no, le_yes, eq_no, eq_yes, Nat.reduceAdd, Nat.reduceMul, Nat.reduceSub, Nat.reduceEqDiff, Nat.reduceLeDiff]
  refine OpS.rdD (eqRuleS_run R R hR) (⟨_, Try.func47, rfl, rfl⟩ : Enters Try.prog 47) rfl rfl (snap_two hN4.snap snapD_rs) rfl ?_
  simp (maxSteps := 1000000) (disch := omega) only [go_sem, Nat.reduceAdd, Nat.reduceMul, Nat.reduceSub, Nat.reduceEqDiff, Nat.reduceLeDiff]
  refine OpS.run (markR0 1 hN4 (by omega) hR) (⟨_, Try.func48, rfl, rfl⟩ : Enters Try.prog 48) rfl rfl ?_
  rintro _ H5 ⟨rfl, hN5, f5⟩
  have hb5 : look H5 0 g = some ⟨g, 1, cP p⟩ := by
    rw [f5.look fun hm => by have := hS3 0 hm; omega]
    exact hb4
  simp (maxSteps := 1000000) (disch := omega) only [go_sem, Nat.reduceAdd, Nat.reduceMul, Nat.reduceSub, Nat.reduceEqDiff, Nat.reduceLeDiff]
  refine OpS.rdD (heldRuleS_run R 1 (by omega) hR) (⟨_, Try.func49, rfl, rfl⟩ : Enters Try.prog 49) rfl rfl (snap_two hN5.snap snapD_int) rfl ?_
  simp (maxSteps := 1000000) (disch := omega) only [go_sem, lt_no, lt_yes, le_no, le_yes, eq_no, eq_yes, Nat.reduceAdd, Nat.reduceMul, Nat.reduceSub, Nat.reduceEqDiff, Nat.reduceLeDiff]
  rw [hb5]
  simp (maxSteps := 1000000) (disch := omega) only [go_sem, Nat.reduceAdd, Nat.reduceMul, Nat.reduceSub, Nat.reduceEqDiff, Nat.reduceLeDiff]
  first | refine OpS.mk (toPuzzle_run p hs) (⟨_, Try.func31, rfl, rfl⟩ : Enters Try.prog 31) rfl rfl rfl rfl rfl ?_ | refine Loud.mk (toPuzzle_run p hs) (⟨_, Try.func31, rfl, rfl⟩ : Enters Try.prog 31) rfl rfl rfl rfl rfl ?_
  simp (maxSteps := 1000000) (disch := omega) only [go_sem, Nat.reduceAdd, Nat.reduceMul, Nat.reduceSub, Nat.reduceEqDiff, Nat.reduceLeDiff]
  first | refine OpS.mk (hread) (⟨_, Try.func46, rfl, rfl⟩ : Enters Try.prog 46) rfl rfl rfl rfl rfl ?_ | refine Loud.mk (hread) (⟨_, Try.func46, rfl, rfl⟩ : Enters Try.prog 46) rfl rfl rfl rfl rfl ?_
  simp (maxSteps := 1000000) (disch := omega) only [go_sem, Nat.reduceAdd, Nat.reduceMul, Nat.reduceSub, Nat.reduceEqDiff, Nat.reduceLeDiff]
  first | refine OpS.rd (eqRuleS_run R R hR) (⟨_, Try.func47, rfl, rfl⟩ : Enters Try.prog 47) rfl rfl rfl rfl ?_ | refine Loud.rd (eqRuleS_run R R hR) (⟨_, Try.func47, rfl, rfl⟩ : Enters Try.prog 47) rfl rfl rfl rfl ?_
  simp (maxSteps := 1000000) (disch := omega) only [go_sem, Nat.reduceAdd, Nat.reduceMul, Nat.reduceSub, Nat.reduceEqDiff, Nat.reduceLeDiff]
  refine OpS.rdD (heldRuleS_run R 1 (by omega) hR) (⟨_, Try.func49, rfl, rfl⟩ : Enters Try.prog 49) rfl rfl (snap_two hN5.snap snapD_int) rfl ?_
  simp (maxSteps := 1000000) (disch := omega) only [go_sem, lt_no, lt_yes, le_no, le_yes, eq_no, eq_yes, Nat.reduceAdd, Nat.reduceMul, Nat.reduceSub, Nat.reduceEqDiff, Nat.reduceLeDiff]
end Go.Lg
