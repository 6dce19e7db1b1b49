/- The law of GridRows. -/
import Derived.Test.YtlpehaekjclgcaaGpE
set_option linter.unusedSimpArgs false
set_option linter.unusedVariables false
namespace Go.Lg
open Go.Proofs

set_option maxHeartbeats 2000000 in
theorem law_GridRows (xs : List Int) (n : Int) (hl : xs.length ≤ 9223372036854775807) (_ : ∀ x ∈ xs, (Lit.int .i64 x).wf = true) (_ : (Lit.int .i64 n).wf = true) : Reads Try.prog 5 [ints xs, int n] (bool true) := by
  refine RunCall.cw (c := _) Try.func5 rfl (n := 71) Try.ntmps5 (rs := [.tmp 4]) rfl ?_
  simp only [List.length_cons, List.length_nil, Nat.reduceAdd, Nat.reduceSub, List.replicate, List.cons_append, List.nil_append]
  simp (maxSteps := 1000000) (disch := omega) only [go_sem, Nat.reduceAdd, Nat.reduceMul, Nat.reduceSub, Nat.reduceEqDiff, Nat.reduceLeDiff]
  refine condK_split (fun h => ?_) (fun h => ?_) <;> simp (maxSteps := 1000000) (disch := omega) only [go_sem, Nat.reduceAdd, Nat.reduceMul, Nat.reduceSub, Nat.reduceEqDiff, Nat.reduceLeDiff]
  have hx : xs.length ≤ 2 ^ 40 := by simp at h; omega
  refine OpS.mk (toIntS_run xs hx) (⟨_, Try.func13, rfl, rfl⟩ : Enters Try.prog 13) rfl rfl rfl rfl rfl ?_
  simp (maxSteps := 1000000) (disch := omega) only [go_sem, Nat.reduceAdd, Nat.reduceMul, Nat.reduceSub, Nat.reduceEqDiff, Nat.reduceLeDiff]
  refine OpS.mk (sGridRows_run xs n hx) (⟨_, Try.func20, rfl, rfl⟩ : Enters Try.prog 20) rfl rfl rfl rfl rfl ?_
  simp (maxSteps := 1000000) (disch := omega) only [go_sem, Nat.reduceAdd, Nat.reduceMul, Nat.reduceSub, Nat.reduceEqDiff, Nat.reduceLeDiff]
  refine OpS.mkQ (toIntS_own xs hx) (⟨_, Try.func13, rfl, rfl⟩ : Enters Try.prog 13) rfl rfl rfl ?_
  rintro r H ⟨g0, rfl, rfl⟩
  refine ⟨rfl, ?_⟩
  simp (maxSteps := 1000000) (disch := omega) only [go_sem, Nat.reduceAdd, Nat.reduceMul, Nat.reduceSub, Nat.reduceEqDiff, Nat.reduceLeDiff]
  refine OpS.mkS (GridRows_run xs n hx) (⟨_, Try.func21, rfl, rfl⟩ : Enters Try.prog 21) rfl rfl (by simp only [go_sem, List.mapM_cons, List.mapM_nil, snapA, snapC, look_zero, look_succ, take_cl1, fvs_cl, Option.map_some, Option.pure_def, Option.bind_eq_bind, Option.bind_some] <;> simp only [ints, fints, rsl, fsl, marks_length, markS_length]) ?_
  rintro r H ⟨hno, hyes⟩
  cases hv : gridValid xs n with
  | false =>
    obtain ⟨rfl, rfl⟩ := hno hv
    have hr : gridRows xs n = [] := by simp [gridRows, hv]
    refine ⟨⟨rfl, rfl, scal_none⟩, ?_⟩
    simp only [hr]
    simp (maxSteps := 1000000) (disch := omega) only [go_sem, Nat.reduceAdd, Nat.reduceMul, Nat.reduceSub, Nat.reduceEqDiff, Nat.reduceLeDiff]
    refine OpS.rd (eqStringS_run [] [] (by simp)) (⟨_, Try.func22, rfl, rfl⟩ : Enters Try.prog 22) rfl rfl rfl rfl ?_
    simp (maxSteps := 1000000) (disch := omega) only [go_sem, Nat.reduceAdd, Nat.reduceMul, Nat.reduceSub, Nat.reduceEqDiff, Nat.reduceLeDiff]
    refine OpS.mk (toIntS_run xs hx) (⟨_, Try.func13, rfl, rfl⟩ : Enters Try.prog 13) rfl rfl rfl rfl rfl ?_
    simp (maxSteps := 1000000) (disch := omega) only [go_sem, Nat.reduceAdd, Nat.reduceMul, Nat.reduceSub, Nat.reduceEqDiff, Nat.reduceLeDiff]
    refine OpS.rd (eqIntS_run xs xs hx) (⟨_, Try.func15, rfl, rfl⟩ : Enters Try.prog 15) rfl rfl (by simp only [go_sem, List.mapM_cons, List.mapM_nil, snapA, snapC, look_zero, look_succ, take_cl1, fvs_cl, Option.map_some, Option.pure_def, Option.bind_eq_bind, Option.bind_some] <;> simp only [ints, fints, rsl, fsl, marks_length, markS_length]) rfl ?_
    simp (maxSteps := 1000000) (disch := omega) only [go_sem, Nat.reduceAdd, Nat.reduceMul, Nat.reduceSub, Nat.reduceEqDiff, Nat.reduceLeDiff]
    refine OpS.run (markIntS_run _ 0 g0 xs 1 (by simp only [go_sem]) (by omega) hx) (⟨_, Try.func18, rfl, rfl⟩ : Enters Try.prog 18) rfl rfl ?_
    rintro r H ⟨rfl, rfl⟩
    simp (maxSteps := 1000000) (disch := omega) only [go_sem, lt_no, lt_yes, le_no, le_yes, eq_no, eq_yes, Nat.reduceAdd, Nat.reduceMul, Nat.reduceSub, Nat.reduceEqDiff, Nat.reduceLeDiff]
    refine OpS.rd (eqStringS_run [] [] (by simp)) (⟨_, Try.func22, rfl, rfl⟩ : Enters Try.prog 22) rfl rfl rfl rfl ?_
    simp (maxSteps := 1000000) (disch := omega) only [go_sem, Nat.reduceAdd, Nat.reduceMul, Nat.reduceSub, Nat.reduceEqDiff, Nat.reduceLeDiff]
    refine OpS.rd (markNilS_run 1) (⟨_, Try.func23, rfl, rfl⟩ : Enters Try.prog 23) rfl rfl rfl rfl ?_
    simp (maxSteps := 1000000) (disch := omega) only [go_sem, Nat.reduceAdd, Nat.reduceMul, Nat.reduceSub, Nat.reduceEqDiff, Nat.reduceLeDiff]
    refine OpS.rd (heldStringS_run 0 1 (by omega) (by omega)) (⟨_, Try.func24, rfl, rfl⟩ : Enters Try.prog 24) rfl rfl rfl rfl ?_
    simp (maxSteps := 1000000) (disch := omega) only [go_sem, lt_no, lt_yes, le_no, le_yes, eq_no, eq_yes, Nat.reduceAdd, Nat.reduceMul, Nat.reduceSub, Nat.reduceEqDiff, Nat.reduceLeDiff]
    refine OpS.mk (toIntS_run xs hx) (⟨_, Try.func13, rfl, rfl⟩ : Enters Try.prog 13) rfl rfl rfl rfl rfl ?_
    simp (maxSteps := 1000000) (disch := omega) only [go_sem, Nat.reduceAdd, Nat.reduceMul, Nat.reduceSub, Nat.reduceEqDiff, Nat.reduceLeDiff]
    refine OpS.mkQ (GridRows_run xs n hx) (⟨_, Try.func21, rfl, rfl⟩ : Enters Try.prog 21) rfl rfl rfl ?_
    rintro r H ⟨hno, hyes⟩
    obtain ⟨rfl, rfl⟩ := hno hv
    refine ⟨rfl, ?_⟩
    simp (maxSteps := 1000000) (disch := omega) only [go_sem, Nat.reduceAdd, Nat.reduceMul, Nat.reduceSub, Nat.reduceEqDiff, Nat.reduceLeDiff]
    refine OpS.rd (eqStringS_run [] [] (by simp)) (⟨_, Try.func22, rfl, rfl⟩ : Enters Try.prog 22) rfl rfl rfl rfl ?_
    simp (maxSteps := 1000000) (disch := omega) only [go_sem, Nat.reduceAdd, Nat.reduceMul, Nat.reduceSub, Nat.reduceEqDiff, Nat.reduceLeDiff]
    refine OpS.rd (heldStringS_run 0 1 (by omega) (by omega)) (⟨_, Try.func24, rfl, rfl⟩ : Enters Try.prog 24) rfl rfl rfl rfl ?_
    simp (maxSteps := 1000000) (disch := omega) only [go_sem, lt_no, lt_yes, le_no, le_yes, eq_no, eq_yes, Nat.reduceAdd, Nat.reduceMul, Nat.reduceSub, Nat.reduceEqDiff, Nat.reduceLeDiff]
  | true =>
    obtain ⟨g, rfl, rfl⟩ := hyes hv
    have hlen := gridRows_length hv
    have hb := gridValid_bound hv
    refine ⟨⟨rfl, rfl, scal_own (scalS _)⟩, ?_⟩
    generalize hys : gridRows xs n = ys at *
    simp (maxSteps := 1000000) (disch := omega) only [go_sem, Nat.reduceAdd, Nat.reduceMul, Nat.reduceSub, Nat.reduceEqDiff, Nat.reduceLeDiff]
    refine OpS.rd (eqStringS_run ys ys (by omega)) (⟨_, Try.func22, rfl, rfl⟩ : Enters Try.prog 22) rfl rfl (by simp only [go_sem, List.mapM_cons, List.mapM_nil, snapA, snapC, look_zero, look_succ, take_cl1, fvs_cl, Option.map_some, Option.pure_def, Option.bind_eq_bind, Option.bind_some] <;> simp only [ints, fints, rsl, fsl, marks_length, markS_length]) rfl ?_
    simp (maxSteps := 1000000) (disch := omega) only [go_sem, Nat.reduceAdd, Nat.reduceMul, Nat.reduceSub, Nat.reduceEqDiff, Nat.reduceLeDiff]
    refine OpS.mk (toIntS_run xs hx) (⟨_, Try.func13, rfl, rfl⟩ : Enters Try.prog 13) rfl rfl rfl rfl rfl ?_
    simp (maxSteps := 1000000) (disch := omega) only [go_sem, Nat.reduceAdd, Nat.reduceMul, Nat.reduceSub, Nat.reduceEqDiff, Nat.reduceLeDiff]
    refine OpS.rd (eqIntS_run xs xs hx) (⟨_, Try.func15, rfl, rfl⟩ : Enters Try.prog 15) rfl rfl (by simp only [go_sem, List.mapM_cons, List.mapM_nil, snapA, snapC, look_zero, look_succ, take_cl1, fvs_cl, Option.map_some, Option.pure_def, Option.bind_eq_bind, Option.bind_some] <;> simp only [ints, fints, rsl, fsl, marks_length, markS_length]) rfl ?_
    simp (maxSteps := 1000000) (disch := omega) only [go_sem, Nat.reduceAdd, Nat.reduceMul, Nat.reduceSub, Nat.reduceEqDiff, Nat.reduceLeDiff]
    refine OpS.run (markIntS_run _ 0 g0 xs 1 (by simp only [go_sem]) (by omega) hx) (⟨_, Try.func18, rfl, rfl⟩ : Enters Try.prog 18) rfl rfl ?_
    rintro r H ⟨rfl, rfl⟩
    simp (maxSteps := 1000000) (disch := omega) only [go_sem, lt_no, lt_yes, le_no, le_yes, eq_no, eq_yes, Nat.reduceAdd, Nat.reduceMul, Nat.reduceSub, Nat.reduceEqDiff, Nat.reduceLeDiff]
    refine OpS.rd (eqStringS_run ys ys (by omega)) (⟨_, Try.func22, rfl, rfl⟩ : Enters Try.prog 22) rfl rfl (by simp only [go_sem, List.mapM_cons, List.mapM_nil, snapA, snapC, look_zero, look_succ, take_cl1, fvs_cl, Option.map_some, Option.pure_def, Option.bind_eq_bind, Option.bind_some] <;> simp only [ints, fints, rsl, fsl, marks_length, markS_length]) rfl ?_
    simp (maxSteps := 1000000) (disch := omega) only [go_sem, Nat.reduceAdd, Nat.reduceMul, Nat.reduceSub, Nat.reduceEqDiff, Nat.reduceLeDiff]
    refine OpS.run (markStringS_run _ 1 g ys 1 (by simp only [go_sem]) (by omega) (by omega)) (⟨_, Try.func23, rfl, rfl⟩ : Enters Try.prog 23) rfl rfl ?_
    rintro r H ⟨rfl, rfl⟩
    simp (maxSteps := 1000000) (disch := omega) only [go_sem, Nat.reduceAdd, Nat.reduceMul, Nat.reduceSub, Nat.reduceEqDiff, Nat.reduceLeDiff]
    refine OpS.rd (heldStringS_run ys.length 1 (by omega) (by omega)) (⟨_, Try.func24, rfl, rfl⟩ : Enters Try.prog 24) rfl rfl (by simp only [go_sem, List.mapM_cons, List.mapM_nil, snapA, snapC, look_zero, look_succ, take_cl1, fvs_cl, Option.map_some, Option.pure_def, Option.bind_eq_bind, Option.bind_some] <;> simp only [ints, fints, rsl, fsl, marks_length, markS_length]) rfl ?_
    simp (maxSteps := 1000000) (disch := omega) only [go_sem, lt_no, lt_yes, le_no, le_yes, eq_no, eq_yes, Nat.reduceAdd, Nat.reduceMul, Nat.reduceSub, Nat.reduceEqDiff, Nat.reduceLeDiff]
    refine OpS.mk (toIntS_run xs hx) (⟨_, Try.func13, rfl, rfl⟩ : Enters Try.prog 13) rfl rfl rfl rfl rfl ?_
    simp (maxSteps := 1000000) (disch := omega) only [go_sem, Nat.reduceAdd, Nat.reduceMul, Nat.reduceSub, Nat.reduceEqDiff, Nat.reduceLeDiff]
    refine OpS.mkQ (GridRows_run xs n hx) (⟨_, Try.func21, rfl, rfl⟩ : Enters Try.prog 21) rfl rfl rfl ?_
    rintro r H ⟨hno, hyes⟩
    obtain ⟨g2, rfl, rfl⟩ := hyes hv
    refine ⟨rfl, ?_⟩
    simp only [hys]
    simp (maxSteps := 1000000) (disch := omega) only [go_sem, Nat.reduceAdd, Nat.reduceMul, Nat.reduceSub, Nat.reduceEqDiff, Nat.reduceLeDiff]
    refine OpS.rd (eqStringS_run ys ys (by omega)) (⟨_, Try.func22, rfl, rfl⟩ : Enters Try.prog 22) rfl rfl (by simp only [go_sem, List.mapM_cons, List.mapM_nil, snapA, snapC, look_zero, look_succ, take_cl1, fvs_cl, Option.map_some, Option.pure_def, Option.bind_eq_bind, Option.bind_some] <;> simp only [ints, fints, rsl, fsl, marks_length, markS_length]) rfl ?_
    simp (maxSteps := 1000000) (disch := omega) only [go_sem, Nat.reduceAdd, Nat.reduceMul, Nat.reduceSub, Nat.reduceEqDiff, Nat.reduceLeDiff]
    refine OpS.rd (heldStringS_run ys.length 1 (by omega) (by omega)) (⟨_, Try.func24, rfl, rfl⟩ : Enters Try.prog 24) rfl rfl (by simp only [go_sem, List.mapM_cons, List.mapM_nil, snapA, snapC, look_zero, look_succ, take_cl1, fvs_cl, Option.map_some, Option.pure_def, Option.bind_eq_bind, Option.bind_some] <;> simp only [ints, fints, rsl, fsl, marks_length, markS_length]) rfl ?_
    simp (maxSteps := 1000000) (disch := omega) only [go_sem, lt_no, lt_yes, le_no, le_yes, eq_no, eq_yes, Nat.reduceAdd, Nat.reduceMul, Nat.reduceSub, Nat.reduceEqDiff, Nat.reduceLeDiff]
end Go.Lg
