/- The law of ReadGrid. -/
import Derived.Test.YtlpehaekjclgcaaGpB
import Derived.Test.YtlpehaekjclgcaaLgR
set_option linter.unusedSimpArgs false
set_option linter.unusedVariables false
set_option maxRecDepth 100000
namespace Go.Lg
open Go.Proofs

theorem rdGrid_cases (s : List UInt8) : (rdGrid s = ([], 0, false)) ∨ ((rdGrid s).2.2 = true ∧ (rdGrid s).1.length ≤ 16) := by
  unfold rdGrid
  split
  · rename_i h
    have := (gridValid_bound (gridText_eq h.1 h.2).1).2.2.2.1
    exact .inr ⟨rfl, this⟩
  · exact .inl rfl

set_option maxHeartbeats 2000000 in
theorem law_ReadGrid (s : List UInt8) (hl : s.length ≤ 9223372036854775807) : Reads Try.prog 4 [txt s] (bool true) := by
  refine RunCall.cw (c := _) Try.func4 rfl (n := 82) Try.ntmps4 (rs := [.tmp 2]) rfl ?_
  simp only [List.length_cons, List.length_nil, Nat.reduceAdd, Nat.reduceSub, List.replicate, List.cons_append, List.nil_append]
  simp (maxSteps := 1000000) (disch := omega) only [go_sem, Nat.reduceAdd, Nat.reduceMul, Nat.reduceSub, Nat.reduceEqDiff, Nat.reduceLeDiff]
  refine condK_split (fun h => ?_) (fun h => ?_) <;> simp (maxSteps := 1000000) (disch := omega) only [go_sem, Nat.reduceAdd, Nat.reduceMul, Nat.reduceSub, Nat.reduceEqDiff, Nat.reduceLeDiff]
  have hx : s.length ≤ 2 ^ 40 := by simp at h; omega
  refine OpS.mk (sReadGrid_run s hx) (⟨_, Try.func16, rfl, rfl⟩ : Enters Try.prog 16) rfl rfl rfl rfl rfl ?_
  simp (maxSteps := 1000000) (disch := omega) only [go_sem, Nat.reduceAdd, Nat.reduceMul, Nat.reduceSub, Nat.reduceEqDiff, Nat.reduceLeDiff]
  refine OpS.mkQ (ReadGrid_run s hx) (⟨_, Try.func17, rfl, rfl⟩ : Enters Try.prog 17) rfl rfl rfl ?_
  rintro r H ⟨hno, hyes⟩
  rcases rdGrid_cases s with hr | ⟨hr, hlen⟩
  · obtain ⟨rfl, rfl⟩ := hno (by rw [hr])
    refine ⟨rfl, ?_⟩
    simp only [hr]
    simp (maxSteps := 1000000) (disch := omega) only [go_sem, Nat.reduceAdd, Nat.reduceMul, Nat.reduceSub, Nat.reduceEqDiff, Nat.reduceLeDiff]
    refine OpS.rd (eqIntS_run [] [] (by simp)) (⟨_, Try.func15, rfl, rfl⟩ : Enters Try.prog 15) rfl rfl rfl rfl ?_
    simp (maxSteps := 1000000) (disch := omega) only [go_sem, Nat.reduceAdd, Nat.reduceMul, Nat.reduceSub, Nat.reduceEqDiff, Nat.reduceLeDiff]
    have hm : ([] : List Int) = marks 1 0 := rfl
    refine OpS.mkQ (Q := isQ (int 1)) (markNil_run 1) (⟨_, Try.func18, rfl, rfl⟩ : Enters Try.prog 18) rfl rfl rfl ?_
    rintro r H rfl
    refine ⟨rfl, ?_⟩
    simp (maxSteps := 1000000) (disch := omega) only [go_sem, Nat.reduceAdd, Nat.reduceMul, Nat.reduceSub, Nat.reduceEqDiff, Nat.reduceLeDiff]
    refine OpS.rd (heldIntS_run 0 1 (by omega) (by omega)) (⟨_, Try.func19, rfl, rfl⟩ : Enters Try.prog 19) rfl rfl rfl rfl ?_
    simp (maxSteps := 1000000) (disch := omega) only [go_sem, lt_no, lt_yes, le_no, le_yes, eq_no, eq_yes, Nat.reduceAdd, Nat.reduceMul, Nat.reduceSub, Nat.reduceEqDiff, Nat.reduceLeDiff]
    refine OpS.mkQ (ReadGrid_run s hx) (⟨_, Try.func17, rfl, rfl⟩ : Enters Try.prog 17) rfl rfl rfl ?_
    rintro r H ⟨hno, hyes⟩
    obtain ⟨rfl, rfl⟩ := hno (by rw [hr])
    refine ⟨rfl, ?_⟩
    simp (maxSteps := 1000000) (disch := omega) only [go_sem, Nat.reduceAdd, Nat.reduceMul, Nat.reduceSub, Nat.reduceEqDiff, Nat.reduceLeDiff]
    refine OpS.rd (eqIntS_run [] [] (by simp)) (⟨_, Try.func15, rfl, rfl⟩ : Enters Try.prog 15) rfl rfl rfl rfl ?_
    simp (maxSteps := 1000000) (disch := omega) only [go_sem, Nat.reduceAdd, Nat.reduceMul, Nat.reduceSub, Nat.reduceEqDiff, Nat.reduceLeDiff]
    refine OpS.rd (heldIntS_run 0 1 (by omega) (by omega)) (⟨_, Try.func19, rfl, rfl⟩ : Enters Try.prog 19) rfl rfl rfl rfl ?_
    simp (maxSteps := 1000000) (disch := omega) only [go_sem, lt_no, lt_yes, le_no, le_yes, eq_no, eq_yes, Nat.reduceAdd, Nat.reduceMul, Nat.reduceSub, Nat.reduceEqDiff, Nat.reduceLeDiff]
  · obtain ⟨g, rfl, rfl⟩ := hyes hr
    refine ⟨rfl, ?_⟩
    have hr1 : rdGrid s = ((rdGrid s).1, (rdGrid s).2.1, true) := by rw [← hr]
    generalize hxs : (rdGrid s).1 = xs at *
    generalize hn : (rdGrid s).2.1 = n at *
    rw [hr]
    simp (maxSteps := 1000000) (disch := omega) only [go_sem, Nat.reduceAdd, Nat.reduceMul, Nat.reduceSub, Nat.reduceEqDiff, Nat.reduceLeDiff]
    refine OpS.rd (eqIntS_run xs xs (by omega)) (⟨_, Try.func15, rfl, rfl⟩ : Enters Try.prog 15) rfl rfl (by simp only [go_sem, List.mapM_cons, List.mapM_nil, snapA, snapC, look_zero, look_succ, take_cl1, fvs_cl, Option.map_some, Option.pure_def, Option.bind_eq_bind, Option.bind_some] <;> simp only [ints, fints, rsl, fsl, marks_length, markS_length]) rfl ?_
    simp (maxSteps := 1000000) (disch := omega) only [go_sem, Nat.reduceAdd, Nat.reduceMul, Nat.reduceSub, Nat.reduceEqDiff, Nat.reduceLeDiff]
    refine OpS.run (markIntS_run _ 0 g xs 1 (by simp only [go_sem]) (by omega) (by omega)) (⟨_, Try.func18, rfl, rfl⟩ : Enters Try.prog 18) rfl rfl ?_
    rintro r H ⟨rfl, rfl⟩
    simp (maxSteps := 1000000) (disch := omega) only [go_sem, Nat.reduceAdd, Nat.reduceMul, Nat.reduceSub, Nat.reduceEqDiff, Nat.reduceLeDiff, setH_zero]
    refine OpS.rd (heldIntS_run xs.length 1 (by omega) (by omega)) (⟨_, Try.func19, rfl, rfl⟩ : Enters Try.prog 19) rfl rfl (by simp only [go_sem, List.mapM_cons, List.mapM_nil, snapA, snapC, look_zero, look_succ, take_cl1, fvs_cl, Option.map_some, Option.pure_def, Option.bind_eq_bind, Option.bind_some] <;> simp only [ints, fints, rsl, fsl, marks_length, markS_length]) rfl ?_
    simp (maxSteps := 1000000) (disch := omega) only [go_sem, lt_no, lt_yes, le_no, le_yes, eq_no, eq_yes, Nat.reduceAdd, Nat.reduceMul, Nat.reduceSub, Nat.reduceEqDiff, Nat.reduceLeDiff]
    refine OpS.mkQ (ReadGrid_run s hx) (⟨_, Try.func17, rfl, rfl⟩ : Enters Try.prog 17) rfl rfl rfl ?_
    rintro r H ⟨hno, hyes⟩
    obtain ⟨g2, rfl, rfl⟩ := hyes hr
    refine ⟨rfl, ?_⟩
    simp only [hr1]
    simp (maxSteps := 1000000) (disch := omega) only [go_sem, Nat.reduceAdd, Nat.reduceMul, Nat.reduceSub, Nat.reduceEqDiff, Nat.reduceLeDiff]
    refine OpS.rd (eqIntS_run xs xs (by omega)) (⟨_, Try.func15, rfl, rfl⟩ : Enters Try.prog 15) rfl rfl (by simp only [go_sem, List.mapM_cons, List.mapM_nil, snapA, snapC, look_zero, look_succ, take_cl1, fvs_cl, Option.map_some, Option.pure_def, Option.bind_eq_bind, Option.bind_some] <;> simp only [ints, fints, rsl, fsl, marks_length, markS_length]) rfl ?_
    simp (maxSteps := 1000000) (disch := omega) only [go_sem, Nat.reduceAdd, Nat.reduceMul, Nat.reduceSub, Nat.reduceEqDiff, Nat.reduceLeDiff]
    refine OpS.rd (heldIntS_run xs.length 1 (by omega) (by omega)) (⟨_, Try.func19, rfl, rfl⟩ : Enters Try.prog 19) rfl rfl (by simp only [go_sem, List.mapM_cons, List.mapM_nil, snapA, snapC, look_zero, look_succ, take_cl1, fvs_cl, Option.map_some, Option.pure_def, Option.bind_eq_bind, Option.bind_some] <;> simp only [ints, fints, rsl, fsl, marks_length, markS_length]) rfl ?_
    simp (maxSteps := 1000000) (disch := omega) only [go_sem, lt_no, lt_yes, le_no, le_yes, eq_no, eq_yes, Nat.reduceAdd, Nat.reduceMul, Nat.reduceSub, Nat.reduceEqDiff, Nat.reduceLeDiff]
end Go.Lg
