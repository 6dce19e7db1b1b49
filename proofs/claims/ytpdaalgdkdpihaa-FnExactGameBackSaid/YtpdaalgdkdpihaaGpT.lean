/- The spec's own copies, frozen. -/
import Derived.Test.YtpdaalgdkdpihaaGpS
set_option linter.unusedSimpArgs false
set_option linter.unusedVariables false
set_option maxRecDepth 100000
namespace Go.Lg
open Go.Proofs

def ruleQ (r : Rul) : KV := fun v H => ∃ c S, v = .agg [.f (.int .i64 r.kind), c, .f (.int .i64 r.val)] ∧ OwnI H c r.cells S
theorem Reads.rule {P : Program} {f : FuncId} {args : List AV} {r : Rul} (h : RunCall P f args [] (ruleQ r)) : Reads P f args (aR r) :=
  Reads.ice h fun v H' ⟨c, S, h1, h2⟩ => by
    subst h1
    have e1 : ∀ n : Int, Lg.frzC H' (.f (.int .i64 n)) = some (.f (.int .i64 n)) := fun _ => rfl
    simp only [frzA, List.mapM_cons, List.mapM_nil, frz1, e1, h2.frzC, Option.map_some, Option.pure_def, Option.bind_eq_bind, Option.bind_some]
    try rfl

theorem l1OwnRule_own (r : Rul) (hx : r.cells.length ≤ 2 ^ 40) : RunCall Try.prog 94 [aR r] [] (ruleQ r) := by
  obtain ⟨k, cells, v⟩ := r
  simp only at hx
  rcases Nat.eq_zero_or_pos cells.length with h0 | h0
  · have : cells = [] := List.eq_nil_of_length_eq_zero h0
    subst this
    refine RunCall.cw (c := _) Try.func94 rfl (n := 11) Try.ntmps94 (rs := [.cell 2 81]) rfl ?_
    simp only [List.length_cons, List.length_nil, Nat.reduceAdd, Nat.reduceSub, List.replicate, List.cons_append, List.nil_append]
    simp (maxSteps := 1000000) (disch := omega) only [go_sem, Nat.reduceAdd, Nat.reduceMul, Nat.reduceSub, Nat.reduceEqDiff, Nat.reduceLeDiff]
    intro g g1 g2 g3
    show lessQ [some ⟨g, 1, cR ⟨k, [], v⟩⟩, some ⟨g1, 3, [.f (.int .i64 k), .own 3 g3 0 0 none, .f (.int .i64 v)]⟩, some ⟨g2, 3, [.f (.int .i64 k), .own 3 g3 0 0 none, .f (.int .i64 v)]⟩, some ⟨g3, 1, []⟩] (ruleQ ⟨k, [], v⟩) (.agg [.f (.int .i64 k), .own 3 g3 0 0 none, .f (.int .i64 v)])
    exact ⟨_, HLe.refl _, _, _, rfl, .o 3 g3 none [] [] (look_of (b := ⟨g3, 1, []⟩) rfl)⟩
  · refine RunCall.cw (c := _) Try.func94 rfl (n := 11) Try.ntmps94 (rs := [.cell 2 81]) rfl ?_
    simp only [List.length_cons, List.length_nil, Nat.reduceAdd, Nat.reduceSub, List.replicate, List.cons_append, List.nil_append]
    simp (maxSteps := 1000000) (disch := omega) only [go_sem, Nat.reduceAdd, Nat.reduceMul, Nat.reduceSub, Nat.reduceEqDiff, Nat.reduceLeDiff]
    intro g g1 g2 g3 g4
    rw [Nat.zero_add]
    exact ⟨_, HLe.refl _, _, _, rfl, .o 3 g4 none cells [] (by rw [List.append_nil]; exact look_of (b := ⟨g4, 1, cl (eI .i64) cells⟩) rfl)⟩
theorem l1OwnRule_run (r : Rul) (hx : r.cells.length ≤ 2 ^ 40) : Reads Try.prog 94 [aR r] (aR r) := Reads.rule (l1OwnRule_own r hx)

theorem l1OwnRuleList_own (rs : List Rul) (hx : smRs rs) : RunCall Try.prog 75 [rsl eR rs] [] (ownQ eR 3 rs) := by
  obtain ⟨hn, hc⟩ := hx
  refine RunCall.cw (c := _) Try.func75 rfl (n := 21) Try.ntmps75 (rs := [.tmp 2]) rfl ?_
  simp only [List.length_cons, List.length_nil, Nat.reduceAdd, Nat.reduceSub, List.replicate, List.cons_append, List.nil_append]
  simp (maxSteps := 1000000) (disch := omega) only [go_sem, Nat.reduceAdd, Nat.reduceMul, Nat.reduceSub, Nat.reduceEqDiff, Nat.reduceLeDiff]
  intro g
  refine loop_rule2 (fun (i g : Nat) => rs.length - i) (fun i g => i ≤ rs.length) (fun i g => [.k, .a, .a, .p (.c (.own 0 g 0 i none)), .p (int i), .a, .a, .a, .a, .a, .a, .a, .a, .a, .a, .a, .a, .a, .a, .a, .a]) (fun i g => [some ⟨g, 3, cl eR (rs.take i)⟩]) 0 g
    (Nat.zero_le _) (by simp (maxSteps := 1000000) (disch := omega) only [go_sem, Nat.reduceAdd, Nat.reduceMul, Nat.reduceSub, Nat.reduceEqDiff, Nat.reduceLeDiff]; rfl) (HLe.refl _) ?_
  intro i g hi
  simp (maxSteps := 1000000) (disch := omega) only [go_sem, Nat.reduceAdd, Nat.reduceMul, Nat.reduceSub, Nat.reduceEqDiff, Nat.reduceLeDiff]
  (first | with_reducible refine condK_dec (fun h => ?_) (fun h => ?_) | with_reducible refine condK_ndec (fun h => ?_) (fun h => ?_) | with_reducible refine condK_nb (fun h => ?_) (fun h => ?_) | refine condK_b (fun h => ?_) (fun h => ?_))
  · have h : i < rs.length := by omega
    simp (maxSteps := 1000000) (disch := omega) only [go_sem, Nat.reduceAdd, Nat.reduceMul, Nat.reduceSub, Nat.reduceEqDiff, Nat.reduceLeDiff]
    first | refine OpS.mk (l1OwnRule_run (nth rs i) (hc _ (nth_mem h))) (⟨_, Try.func94, rfl, rfl⟩ : Enters Try.prog 94) rfl rfl rfl rfl rfl ?_ | refine Loud.mk (l1OwnRule_run (nth rs i) (hc _ (nth_mem h))) (⟨_, Try.func94, rfl, rfl⟩ : Enters Try.prog 94) rfl rfl rfl rfl rfl ?_
    simp (maxSteps := 1000000) (disch := omega) only [go_sem, Nat.reduceAdd, Nat.reduceMul, Nat.reduceSub, Nat.reduceEqDiff, Nat.reduceLeDiff]
    intro g1 g2
    refine ⟨i + 1, g2, ⟨h, by omega⟩, ⟨⟨rfl, rfl⟩, by push_cast; omega⟩, hle_eq ?_ (hle_nil _)⟩
    rw [take_succ_nth h, cl_append]
    rfl
  · have hi' : i = rs.length := by omega
    simp (maxSteps := 1000000) (disch := omega) only [go_sem, Nat.reduceAdd, Nat.reduceMul, Nat.reduceSub, Nat.reduceEqDiff, Nat.reduceLeDiff]
    subst hi'
    rw [List.take_length]
    exact lessQ_own (HLe.refl _)
theorem l1OwnRuleList_run (rs : List Rul) (hx : smRs rs) : Reads Try.prog 75 [rsl eR rs] (rsl eR rs) := Reads.own (l1OwnRuleList_own rs hx)

theorem l1OwnPuzzle_run (p : Puz) (hx : smP p) : Reads Try.prog 53 [aP p] (aP p) := by
  obtain ⟨n, gs, rs⟩ := p
  obtain ⟨hg, hr⟩ := hx
  simp only at hg hr
  refine Reads.iced ?_
  rcases Nat.eq_zero_or_pos gs.length with h0 | h0
  · refine RunCall.cw (c := _) Try.func53 rfl (n := 15) Try.ntmps53 (rs := [.cell 2 32]) rfl ?_
    simp only [List.length_cons, List.length_nil, Nat.reduceAdd, Nat.reduceSub, List.replicate, List.cons_append, List.nil_append]
    simp (maxSteps := 1000000) (disch := omega) only [go_sem, Nat.reduceAdd, Nat.reduceMul, Nat.reduceSub, Nat.reduceEqDiff, Nat.reduceLeDiff]
    intro g1 g2 g3 g4
    first | refine OpS.mk (l1OwnRuleList_run rs hr) (⟨_, Try.func75, rfl, rfl⟩ : Enters Try.prog 75) rfl rfl rfl rfl rfl ?_ | refine Loud.mk (l1OwnRuleList_run rs hr) (⟨_, Try.func75, rfl, rfl⟩ : Enters Try.prog 75) rfl rfl rfl rfl rfl ?_
    simp (maxSteps := 1000000) (disch := omega) only [go_sem, Nat.reduceAdd, Nat.reduceMul, Nat.reduceSub, Nat.reduceEqDiff, Nat.reduceLeDiff]
    have : gs = [] := List.eq_nil_of_length_eq_zero h0
    subst this
    exact lessQ_ice (by simp only [go_sem, List.mapM_cons, List.mapM_nil, frzA, frz1, frzC, frz, frz_cl, Option.pure_def, Option.bind_eq_bind, Option.bind_some] <;> rfl)
  · refine RunCall.cw (c := _) Try.func53 rfl (n := 15) Try.ntmps53 (rs := [.cell 2 32]) rfl ?_
    simp only [List.length_cons, List.length_nil, Nat.reduceAdd, Nat.reduceSub, List.replicate, List.cons_append, List.nil_append]
    simp (maxSteps := 1000000) (disch := omega) only [go_sem, Nat.reduceAdd, Nat.reduceMul, Nat.reduceSub, Nat.reduceEqDiff, Nat.reduceLeDiff]
    intro g1 g2 g3 g4 g5
    rw [Nat.zero_add]
    first | refine OpS.mk (l1OwnRuleList_run rs hr) (⟨_, Try.func75, rfl, rfl⟩ : Enters Try.prog 75) rfl rfl rfl rfl rfl ?_ | refine Loud.mk (l1OwnRuleList_run rs hr) (⟨_, Try.func75, rfl, rfl⟩ : Enters Try.prog 75) rfl rfl rfl rfl rfl ?_
    simp (maxSteps := 1000000) (disch := omega) only [go_sem, Nat.reduceAdd, Nat.reduceMul, Nat.reduceSub, Nat.reduceEqDiff, Nat.reduceLeDiff]
    exact lessQ_ice (by simp only [go_sem, List.mapM_cons, List.mapM_nil, frzA, frz1, frzC, frz, frz_cl, Option.pure_def, Option.bind_eq_bind, Option.bind_some] <;> rfl)
