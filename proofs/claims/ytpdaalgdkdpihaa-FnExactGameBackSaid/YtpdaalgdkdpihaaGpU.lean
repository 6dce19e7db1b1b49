/- Games that are begun, as the spec tells them. -/
import Derived.Test.YtpdaalgdkdpihaaGpT
set_option linter.unusedSimpArgs false
set_option linter.unusedVariables false
set_option maxRecDepth 100000
namespace Go.Lg
open Go.Proofs


attribute [-go_sem] lwF_cons

theorem sGameOf_run (p : Puz) (hx : smP p) : Reads Try.prog 24 [aP p] (aG (gameOf p)) := by
  have hg := hx.1
  have hr := hx.2.1
  refine Reads.iced ?_
  refine RunCall.cw (c := _) Try.func24 rfl (n := 25) Try.ntmps24 (rs := [.cell 2 34]) rfl ?_
  simp only [List.length_cons, List.length_nil, Nat.reduceAdd, Nat.reduceSub, List.replicate, List.cons_append, List.nil_append]
  simp (maxSteps := 1000000) (disch := omega) only [go_sem, Nat.reduceAdd, Nat.reduceMul, Nat.reduceSub, Nat.reduceEqDiff, Nat.reduceLeDiff]
  intro g1 g2
  refine OpS.mk (l1OwnPuzzle_run p hx) (⟨_, Try.func53, rfl, rfl⟩ : Enters Try.prog 53) rfl rfl rfl rfl rfl ?_
  simp (maxSteps := 1000000) (disch := omega) only [go_sem, Nat.reduceAdd, Nat.reduceMul, Nat.reduceSub, Nat.reduceEqDiff, Nat.reduceLeDiff]
  refine OpS.rd (sPuzzleValid_run p hx) (⟨_, Try.func36, rfl, rfl⟩ : Enters Try.prog 36) rfl rfl rfl rfl ?_
  simp (maxSteps := 1000000) (disch := omega) only [go_sem, Nat.reduceAdd, Nat.reduceMul, Nat.reduceSub, Nat.reduceEqDiff, Nat.reduceLeDiff]
  (first | with_reducible refine condK_dec (fun h => ?_) (fun h => ?_) | with_reducible refine condK_ndec (fun h => ?_) (fun h => ?_) | with_reducible refine condK_nb (fun h => ?_) (fun h => ?_) | refine condK_b (fun h => ?_) (fun h => ?_))
  · simp (maxSteps := 1000000) (disch := omega) only [go_sem, Nat.reduceAdd, Nat.reduceMul, Nat.reduceSub, Nat.reduceEqDiff, Nat.reduceLeDiff]
    refine drawP_lF [0, 1, 2, 3, 4, 5, 6, 7, 8, 9, 11, 12, 13, 14, 10] [2, 5, 6, 9] (some 14) [15, 16] [] foll (by kernel_rfl) ?_
    rw [lwF_cons]
    simp (maxSteps := 1000000) (disch := omega) only [go_sem, Nat.reduceAdd, Nat.reduceMul, Nat.reduceSub, Nat.reduceEqDiff, Nat.reduceLeDiff]
    rw [lwF_cons]
    simp (maxSteps := 1000000) (disch := omega) only [go_sem, Nat.reduceAdd, Nat.reduceMul, Nat.reduceSub, Nat.reduceEqDiff, Nat.reduceLeDiff]
    rw [lwF_cons]
    simp (maxSteps := 1000000) (disch := omega) only [go_sem, Nat.reduceAdd, Nat.reduceMul, Nat.reduceSub, Nat.reduceEqDiff, Nat.reduceLeDiff]
    rw [lwF_cons]
    simp (maxSteps := 1000000) (disch := omega) only [go_sem, Nat.reduceAdd, Nat.reduceMul, Nat.reduceSub, Nat.reduceEqDiff, Nat.reduceLeDiff]
    rw [lwF_cons]
    simp (maxSteps := 1000000) (disch := omega) only [go_sem, Nat.reduceAdd, Nat.reduceMul, Nat.reduceSub, Nat.reduceEqDiff, Nat.reduceLeDiff]
    rw [lwF_cons]
    simp (maxSteps := 1000000) (disch := omega) only [go_sem, Nat.reduceAdd, Nat.reduceMul, Nat.reduceSub, Nat.reduceEqDiff, Nat.reduceLeDiff]
    rw [lwF_cons]
    simp (maxSteps := 1000000) (disch := omega) only [go_sem, Nat.reduceAdd, Nat.reduceMul, Nat.reduceSub, Nat.reduceEqDiff, Nat.reduceLeDiff]
    rw [lwF_cons]
    simp (maxSteps := 1000000) (disch := omega) only [go_sem, Nat.reduceAdd, Nat.reduceMul, Nat.reduceSub, Nat.reduceEqDiff, Nat.reduceLeDiff]
    rw [lwF_cons]
    simp (maxSteps := 1000000) (disch := omega) only [go_sem, Nat.reduceAdd, Nat.reduceMul, Nat.reduceSub, Nat.reduceEqDiff, Nat.reduceLeDiff]
    rw [lwF_cons]
    simp (maxSteps := 1000000) (disch := omega) only [go_sem, Nat.reduceAdd, Nat.reduceMul, Nat.reduceSub, Nat.reduceEqDiff, Nat.reduceLeDiff]
    rw [lwF_cons]
    simp (maxSteps := 1000000) (disch := omega) only [go_sem, Nat.reduceAdd, Nat.reduceMul, Nat.reduceSub, Nat.reduceEqDiff, Nat.reduceLeDiff]
    rw [lwF_cons]
    simp (maxSteps := 1000000) (disch := omega) only [go_sem, Nat.reduceAdd, Nat.reduceMul, Nat.reduceSub, Nat.reduceEqDiff, Nat.reduceLeDiff]
    rw [lwF_cons]
    simp (maxSteps := 1000000) (disch := omega) only [go_sem, Nat.reduceAdd, Nat.reduceMul, Nat.reduceSub, Nat.reduceEqDiff, Nat.reduceLeDiff]
    rw [lwF_cons]
    simp (maxSteps := 1000000) (disch := omega) only [go_sem, Nat.reduceAdd, Nat.reduceMul, Nat.reduceSub, Nat.reduceEqDiff, Nat.reduceLeDiff]
    rw [lwF_cons]
    simp (maxSteps := 1000000) (disch := omega) only [go_sem, Nat.reduceAdd, Nat.reduceMul, Nat.reduceSub, Nat.reduceEqDiff, Nat.reduceLeDiff]
    refine ⟨⟨fl_length _, by omega, by omega⟩, ⟨fl_length _, by omega, by omega⟩, fun g => ?_⟩
    unfold gameOf
    rw [if_pos h]
    have e : aG ⟨p, List.replicate p.given.length 0, []⟩ = .agg [.f (.int .i64 p.size), .f (fints p.given), .f (fsl eR p.rules), .f (.sl p.given.length (fl (eI .i64) (List.replicate p.given.length 0))), .f (fints [])] := by
      show AV.agg [_, _, _, .f (.sl (List.replicate p.given.length (0 : Int)).length _), _] = _
      rw [List.length_replicate]
    rw [e]
    have et : List.take (p.given.length * 1) (cl (eI .i64) (List.replicate p.given.length (0 : Int))) = cl (eI .i64) (List.replicate p.given.length 0) := List.take_of_length_le (by rw [cl_length]; simp)
    exact lessQ_ice (by simp only [go_sem, List.mapM_cons, List.mapM_nil, frzA, frz1, frzC, frz, et, frz_cl, Option.pure_def, Option.bind_eq_bind, Option.bind_some] <;> rfl)
  · simp (maxSteps := 1000000) (disch := omega) only [go_sem, Nat.reduceAdd, Nat.reduceMul, Nat.reduceSub, Nat.reduceEqDiff, Nat.reduceLeDiff]
    unfold gameOf
    rw [if_neg (by rw [h]; simp)]
    exact lessQ_ice (by simp only [go_sem, List.mapM_cons, List.mapM_nil, frzA, frz1, frzC, frz, frz_cl, Option.pure_def, Option.bind_eq_bind, Option.bind_some] <;> rfl)
