/- What holds the marks: rules, puzzles, games. -/
import Derived.Test.YtpdaalgdkdpihaaGpU
import Derived.Test.YtpdaalgdkdpihaaGpN
set_option linter.unusedSimpArgs false
set_option linter.unusedVariables false
set_option maxRecDepth 100000
namespace Go.Lg
open Go.Proofs

theorem heldRuleS_run (rs : List Rul) (k : Int) (hk : 0 ≤ k ∧ k + wM rs ≤ 2 ^ 50) (hx : smRs rs) : Reads Try.prog 80 [rsl eR (mrk k rs), int k] (int (k + wM rs)) := by
  have hlen := hx.1
  have hml : (mrk k rs).length = rs.length := mrk_length k rs
  refine RunCall.cw (c := _) Try.func80 rfl (n := 40) Try.ntmps80 (rs := [.tmp 4]) rfl ?_
  simp only [List.length_cons, List.length_nil, Nat.reduceAdd, Nat.reduceSub, List.replicate, List.cons_append, List.nil_append]
  simp (maxSteps := 1000000) (disch := omega) only [go_sem, Nat.reduceAdd, Nat.reduceMul, Nat.reduceSub, Nat.reduceEqDiff, Nat.reduceLeDiff]
  refine loop_rule (fun i : Nat => rs.length - i) (fun i => i ≤ rs.length) (fun i => [.k, .p (int (k + wM (rs.take i))), .a, .a, .a, .p (int i), .a, .a, .a, .a, .a, .a, .a, .a, .a, .a, .a, .a, .a, .a, .a, .a, .a, .a, .a, .a, .a, .a, .a, .a, .a, .a, .a, .a, .a, .a, .a, .a, .a, .a]) (fun _ => []) 0 (Nat.zero_le _) (by simp (maxSteps := 1000000) (disch := omega) only [go_sem, Nat.reduceAdd, Nat.reduceMul, Nat.reduceSub, Nat.reduceEqDiff, Nat.reduceLeDiff]; simp [wM]) (hle_nil _) ?_
  intro i hi
  have hle := wM_take_le rs i
  simp (maxSteps := 1000000) (disch := omega) only [go_sem, Nat.reduceAdd, Nat.reduceMul, Nat.reduceSub, Nat.reduceEqDiff, Nat.reduceLeDiff, mrk_length]
  (first | with_reducible refine condK_dec (fun h => ?_) (fun h => ?_) | with_reducible refine condK_ndec (fun h => ?_) (fun h => ?_) | with_reducible refine condK_nb (fun h => ?_) (fun h => ?_) | refine condK_b (fun h => ?_) (fun h => ?_))
  · have h : i < rs.length := by omega
    have hw1 : wM (rs.take (i + 1)) = wM (rs.take i) + (2 + (nth rs i).cells.length) := by rw [take_succ_nth h, wM_app, wM_one]
    have hle2 := wM_take_le rs (i + 1)
    have hc := hx.2 _ (nth_mem h)
    simp (maxSteps := 1000000) (disch := omega) only [go_sem, Nat.reduceAdd, Nat.reduceMul, Nat.reduceSub, Nat.reduceEqDiff, Nat.reduceLeDiff, mrk_length, mrk_nth h]

    first | refine OpS.rd (heldIntS_run (nth rs i).cells.length (k + wM (rs.take i) + 1) (by omega) (by omega)) (⟨_, Try.func22, rfl, rfl⟩ : Enters Try.prog 22) rfl rfl rfl rfl ?_ | refine Loud.rd (heldIntS_run (nth rs i).cells.length (k + wM (rs.take i) + 1) (by omega) (by omega)) (⟨_, Try.func22, rfl, rfl⟩ : Enters Try.prog 22) rfl rfl rfl rfl ?_
    simp (maxSteps := 1000000) (disch := omega) only [go_sem, Nat.reduceAdd, Nat.reduceMul, Nat.reduceSub, Nat.reduceEqDiff, Nat.reduceLeDiff]
    simp (maxSteps := 1000000) (disch := omega) only [go_sem, Nat.reduceAdd, Nat.reduceMul, Nat.reduceSub, Nat.reduceEqDiff, Nat.reduceLeDiff, lt_no, lt_yes, le_no, le_yes, eq_no, eq_yes, mrk_length, mrk_nth h]
    exact ⟨i + 1, ⟨h, by omega⟩, ⟨by push_cast; omega, by omega⟩, hle_nil _⟩
  have h : i = rs.length := by omega
  subst h
  simp (maxSteps := 1000000) (disch := omega) only [go_sem, Nat.reduceAdd, Nat.reduceMul, Nat.reduceSub, Nat.reduceEqDiff, Nat.reduceLeDiff]
  rw [List.take_length]
theorem heldPuzzle_run (p : Puz) (k : Int) (hk : 0 ≤ k ∧ k + wMP p ≤ 2 ^ 50) (hx : smP p) : Reads Try.prog 59 [aP (mrkP k p), int k] (int (k + wMP p)) := by
  have h1 := hx.1
  unfold wMP at hk
  refine RunCall.cw (c := _) Try.func59 rfl (n := 18) Try.ntmps59 (rs := [.tmp 4]) rfl ?_
  simp only [List.length_cons, List.length_nil, Nat.reduceAdd, Nat.reduceSub, List.replicate, List.cons_append, List.nil_append]
  simp (maxSteps := 1000000) (disch := omega) only [go_sem, Nat.reduceAdd, Nat.reduceMul, Nat.reduceSub, Nat.reduceEqDiff, Nat.reduceLeDiff]
  intro g
  first | refine OpS.rd (heldIntS_run p.given.length k (by omega) h1) (⟨_, Try.func22, rfl, rfl⟩ : Enters Try.prog 22) rfl rfl rfl rfl ?_ | refine Loud.rd (heldIntS_run p.given.length k (by omega) h1) (⟨_, Try.func22, rfl, rfl⟩ : Enters Try.prog 22) rfl rfl rfl rfl ?_
  simp (maxSteps := 1000000) (disch := omega) only [go_sem, Nat.reduceAdd, Nat.reduceMul, Nat.reduceSub, Nat.reduceEqDiff, Nat.reduceLeDiff]
  simp (maxSteps := 1000000) (disch := omega) only [go_sem, lt_no, lt_yes, le_no, le_yes, eq_no, eq_yes, Nat.reduceAdd, Nat.reduceMul, Nat.reduceSub, Nat.reduceEqDiff, Nat.reduceLeDiff]
  first | refine OpS.rd (heldRuleS_run p.rules (k + p.given.length) (by omega) hx.2) (⟨_, Try.func80, rfl, rfl⟩ : Enters Try.prog 80) rfl rfl rfl rfl ?_ | refine Loud.rd (heldRuleS_run p.rules (k + p.given.length) (by omega) hx.2) (⟨_, Try.func80, rfl, rfl⟩ : Enters Try.prog 80) rfl rfl rfl rfl ?_
  simp (maxSteps := 1000000) (disch := omega) only [go_sem, Nat.reduceAdd, Nat.reduceMul, Nat.reduceSub, Nat.reduceEqDiff, Nat.reduceLeDiff]
  simp (maxSteps := 1000000) (disch := omega) only [go_sem, lt_no, lt_yes, le_no, le_yes, eq_no, eq_yes, Nat.reduceAdd, Nat.reduceMul, Nat.reduceSub, Nat.reduceEqDiff, Nat.reduceLeDiff]
  unfold wMP
  push_cast
  omega
theorem heldGame_run (q : Gam) (k : Int) (hk : 0 ≤ k ∧ k + wMG q ≤ 2 ^ 50) (hx : smG q) : Reads Try.prog 29 [aG (mrkG k q), int k] (int (k + wMG q)) := by
  obtain ⟨h1, h2, h3⟩ := hx
  unfold wMG at hk
  refine RunCall.cw (c := _) Try.func29 rfl (n := 24) Try.ntmps29 (rs := [.tmp 4]) rfl ?_
  simp only [List.length_cons, List.length_nil, Nat.reduceAdd, Nat.reduceSub, List.replicate, List.cons_append, List.nil_append]
  simp (maxSteps := 1000000) (disch := omega) only [go_sem, Nat.reduceAdd, Nat.reduceMul, Nat.reduceSub, Nat.reduceEqDiff, Nat.reduceLeDiff]
  intro g
  first | refine OpS.rd (heldPuzzle_run q.task k (by omega) h1) (⟨_, Try.func59, rfl, rfl⟩ : Enters Try.prog 59) rfl rfl rfl rfl ?_ | refine Loud.rd (heldPuzzle_run q.task k (by omega) h1) (⟨_, Try.func59, rfl, rfl⟩ : Enters Try.prog 59) rfl rfl rfl rfl ?_
  simp (maxSteps := 1000000) (disch := omega) only [go_sem, Nat.reduceAdd, Nat.reduceMul, Nat.reduceSub, Nat.reduceEqDiff, Nat.reduceLeDiff]
  simp (maxSteps := 1000000) (disch := omega) only [go_sem, lt_no, lt_yes, le_no, le_yes, eq_no, eq_yes, Nat.reduceAdd, Nat.reduceMul, Nat.reduceSub, Nat.reduceEqDiff, Nat.reduceLeDiff]
  first | refine OpS.rd (heldIntS_run q.put.length (k + wMP q.task) (by omega) h2) (⟨_, Try.func22, rfl, rfl⟩ : Enters Try.prog 22) rfl rfl rfl rfl ?_ | refine Loud.rd (heldIntS_run q.put.length (k + wMP q.task) (by omega) h2) (⟨_, Try.func22, rfl, rfl⟩ : Enters Try.prog 22) rfl rfl rfl rfl ?_
  simp (maxSteps := 1000000) (disch := omega) only [go_sem, Nat.reduceAdd, Nat.reduceMul, Nat.reduceSub, Nat.reduceEqDiff, Nat.reduceLeDiff]
  simp (maxSteps := 1000000) (disch := omega) only [go_sem, lt_no, lt_yes, le_no, le_yes, eq_no, eq_yes, Nat.reduceAdd, Nat.reduceMul, Nat.reduceSub, Nat.reduceEqDiff, Nat.reduceLeDiff]
  first | refine OpS.rd (heldIntS_run q.moves.length (k + wMP q.task + q.put.length) (by omega) h3) (⟨_, Try.func22, rfl, rfl⟩ : Enters Try.prog 22) rfl rfl rfl rfl ?_ | refine Loud.rd (heldIntS_run q.moves.length (k + wMP q.task + q.put.length) (by omega) h3) (⟨_, Try.func22, rfl, rfl⟩ : Enters Try.prog 22) rfl rfl rfl rfl ?_
  simp (maxSteps := 1000000) (disch := omega) only [go_sem, Nat.reduceAdd, Nat.reduceMul, Nat.reduceSub, Nat.reduceEqDiff, Nat.reduceLeDiff]
  simp (maxSteps := 1000000) (disch := omega) only [go_sem, lt_no, lt_yes, le_no, le_yes, eq_no, eq_yes, Nat.reduceAdd, Nat.reduceMul, Nat.reduceSub, Nat.reduceEqDiff, Nat.reduceLeDiff]
  unfold wMG
  push_cast
  omega
end Go.Lg
