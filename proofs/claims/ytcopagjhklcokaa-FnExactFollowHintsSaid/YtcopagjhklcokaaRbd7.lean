/- GpMO, cut to what is needed. -/
import Derived.Test.YtcopagjhklcokaaRbd6
import Derived.Test.YtcopagjhklcokaaRbd5
import Derived.Test.YtcopagjhklcokaaRbb8
import Derived.Test.YtcopagjhklcokaaRbd3
set_option linter.unusedSimpArgs false
set_option linter.unusedVariables false
set_option maxRecDepth 100000
namespace Go.Lg
open Go.Proofs
theorem folQ_rd {P : Program} {f : FuncId} {args : List AV} {p : Puz} {xs : List Int} (h : RunCall P f args [] (folQ p xs)) : Reads P f args (.tup [ints (folV p xs), int (folN p xs)]) :=
  Reads.ice h fun r H ⟨c, S, h1, h2, _⟩ => by
    subst h1
    have e : frzC H (.f (.int .i64 (folN p xs))) = some (.f (.int .i64 (folN p xs))) := rfl
    show (([_, _] : List AV).mapM (frz1 H)).map AV.tup = _
    simp only [List.mapM_cons, List.mapM_nil, frz1, h2.frzC, e, Option.bind_eq_bind, Option.pure_def, Option.bind_some, Option.map_some]
theorem OpS.mkDFol {P : Program} {o : Oper} {st : St} {K : KV} {fo : Operand} {ws : Array Operand} {ts : Array TypeId} {f : FuncId} {args args' : List AV} {p : Puz} {xs : List Int} (hc : RunCall P f args' [] (folQ p xs)) (he : Enters P f) (ho : o.op = .call ⟨.value fo, ws, ts⟩) (ha : callArgs st fo ws = some (f, args)) (hs : args.mapM (snapD st.h) = some args')
    (hk : ∀ c H' S, OwnI (st.h ++ H') c (folV p xs) S → (∀ i ∈ S, st.h.length ≤ i ∧ i < st.h.length + H'.length) → K (.tup [.c c, int (folN p xs)]) (st.h ++ H')) : OpS P o st K :=
  OpS.mkD hc he ho ha hs fun r H' ⟨c, S, h1, h2, h3⟩ => by
    subst h1
    exact ⟨⟨rfl, by show (scalC c && (true && true)) = true; rw [h2.scal]; rfl, h3⟩, hk _ _ _ h2.shift (by rw [shiftH_length]; exact shift_ge h2.lt)⟩
theorem folV_len (p : Puz) (xs : List Int) : (folV p xs).length ≤ xs.length := by
  unfold folV
  split
  · rw [folF_len]; exact Nat.le_refl _
  · simp
set_option maxHeartbeats 4000000 in
theorem law_FollowHints (p : Puz) (xs : List Int) (h1 : okP' p) (h2 : xs.length ≤ 9223372036854775807) (_ : ∀ x ∈ xs, (Lit.int .i64 x).wf = true) : Reads Try.prog 7 [aP p, ints xs] (bool true) := by
  refine RunCall.cw (c := _) Try.func7 rfl (n := 117) Try.ntmps7 (rs := [.tmp 4]) rfl ?_
  simp only [List.length_cons, List.length_nil, Nat.reduceAdd, Nat.reduceSub, List.replicate, List.cons_append, List.nil_append]
  simp (maxSteps := 1000000) (disch := omega) only [go_sem, Nat.reduceAdd, Nat.reduceMul, Nat.reduceSub, Nat.reduceEqDiff, Nat.reduceLeDiff]
  intro g
  (first | with_reducible refine condK_dec (fun h0 => ?_) (fun h0 => ?_) | with_reducible refine condK_ndec (fun h0 => ?_) (fun h0 => ?_) | with_reducible refine condK_nb (fun h0 => ?_) (fun h0 => ?_) | refine condK_b (fun h0 => ?_) (fun h0 => ?_))
  · simp (maxSteps := 1000000) (disch := omega) only [go_sem, Nat.reduceAdd, Nat.reduceMul, Nat.reduceSub, Nat.reduceEqDiff, Nat.reduceLeDiff]
  have hl : xs.length ≤ 2 ^ 40 := by omega
  simp (maxSteps := 1000000) (disch := omega) only [go_sem, Nat.reduceAdd, Nat.reduceMul, Nat.reduceSub, Nat.reduceEqDiff, Nat.reduceLeDiff]
  first | refine OpS.rd (szPuzzle_run p 1048576 (by omega) h1) (⟨_, Try.func28, rfl, rfl⟩ : Enters Try.prog 28) rfl rfl rfl rfl ?_ | refine Loud.rd (szPuzzle_run p 1048576 (by omega) h1) (⟨_, Try.func28, rfl, rfl⟩ : Enters Try.prog 28) rfl rfl rfl rfl ?_
  simp (maxSteps := 1000000) (disch := omega) only [go_sem, Nat.reduceAdd, Nat.reduceMul, Nat.reduceSub, Nat.reduceEqDiff, Nat.reduceLeDiff]
  have hb := szI_le (n := wP p) (left := 1048576) (by omega)
  (first | with_reducible refine condK_dec (fun h => ?_) (fun h => ?_) | with_reducible refine condK_ndec (fun h => ?_) (fun h => ?_) | with_reducible refine condK_nb (fun h => ?_) (fun h => ?_) | refine condK_b (fun h => ?_) (fun h => ?_))
  · simp (maxSteps := 1000000) (disch := omega) only [go_sem, Nat.reduceAdd, Nat.reduceMul, Nat.reduceSub, Nat.reduceEqDiff, Nat.reduceLeDiff]
  obtain ⟨hw, hw2⟩ := szI_ok h
  have hs := smP_of (p := p) (n := 1048576) (by omega) (by omega)
  have hwm := wMP_small p
  have hgl : (folV p xs).length ≤ 2 ^ 20 := by have := folV_len p xs; omega
  have hspec := folQ_rd (sFollowHints_own p xs hs hl)
  have himpl := FollowHints_own p xs hs hl
  have hR : (folV p xs).length ≤ 2 ^ 40 := by omega
  simp (maxSteps := 1000000) (disch := omega) only [go_sem, Nat.reduceAdd, Nat.reduceMul, Nat.reduceSub, Nat.reduceEqDiff, Nat.reduceLeDiff]
  first | refine OpS.mk (toPuzzle_run p hs) (⟨_, Try.func30, rfl, rfl⟩ : Enters Try.prog 30) rfl rfl rfl rfl rfl ?_ | refine Loud.mk (toPuzzle_run p hs) (⟨_, Try.func30, rfl, rfl⟩ : Enters Try.prog 30) rfl rfl rfl rfl rfl ?_
  simp (maxSteps := 1000000) (disch := omega) only [go_sem, Nat.reduceAdd, Nat.reduceMul, Nat.reduceSub, Nat.reduceEqDiff, Nat.reduceLeDiff]
  first | refine OpS.mk (toIntS_run xs hl) (⟨_, Try.func31, rfl, rfl⟩ : Enters Try.prog 31) rfl rfl rfl rfl rfl ?_ | refine Loud.mk (toIntS_run xs hl) (⟨_, Try.func31, rfl, rfl⟩ : Enters Try.prog 31) rfl rfl rfl rfl rfl ?_
  simp (maxSteps := 1000000) (disch := omega) only [go_sem, Nat.reduceAdd, Nat.reduceMul, Nat.reduceSub, Nat.reduceEqDiff, Nat.reduceLeDiff]
  first | refine OpS.mk (hspec) (⟨_, Try.func36, rfl, rfl⟩ : Enters Try.prog 36) rfl rfl rfl rfl rfl ?_ | refine Loud.mk (hspec) (⟨_, Try.func36, rfl, rfl⟩ : Enters Try.prog 36) rfl rfl rfl rfl rfl ?_
  simp (maxSteps := 1000000) (disch := omega) only [go_sem, Nat.reduceAdd, Nat.reduceMul, Nat.reduceSub, Nat.reduceEqDiff, Nat.reduceLeDiff]
  refine OpS.mkP (toPuzzle_deep p hs) (⟨_, Try.func30, rfl, rfl⟩ : Enters Try.prog 30) rfl rfl rfl ?_
  intro cs H1 S1 hP1 hS1
  simp only [List.length_cons, List.length_nil] at hS1
  obtain ⟨c1, c2, T1, T2, rfl, eS, k1, k2⟩ := hP1.ex
  simp (maxSteps := 1000000) (disch := omega) only [go_sem, Nat.reduceAdd, Nat.reduceMul, Nat.reduceSub, Nat.reduceEqDiff, Nat.reduceLeDiff, look_last, set_last]
  intro g2
  have hP2 := hP1.app (H' := [some ⟨g2, 3, [.f (.int .i64 p.size), c1, c2]⟩])
  refine OpS.mkI (toIntS_ownI xs hl) (⟨_, Try.func31, rfl, rfl⟩ : Enters Try.prog 31) rfl rfl rfl ?_
  intro cx H2 S2 hX1 hS2
  simp only [List.length_cons, List.length_append, List.length_nil] at hS2
  have hP3 := hP2.app (H' := H2)
  simp (maxSteps := 1000000) (disch := omega) only [go_sem, Nat.reduceAdd, Nat.reduceMul, Nat.reduceSub, Nat.reduceEqDiff, Nat.reduceLeDiff]
  rw [look_app_lt (by simp), look_last]
  simp (maxSteps := 1000000) (disch := omega) only [go_sem, Nat.reduceAdd, Nat.reduceMul, Nat.reduceSub, Nat.reduceEqDiff, Nat.reduceLeDiff]
  obtain ⟨HA, hHA⟩ : ∃ HA : Heap, HA = some ⟨g, 1, cP p⟩ :: (H1 ++ [some ⟨g2, 3, [.f (.int .i64 p.size), c1, c2]⟩] ++ H2) := ⟨_, rfl⟩
  have hA0 : look HA 0 g = some ⟨g, 1, cP p⟩ := by rw [hHA]; exact look_zero
  have hA1 : look HA (H1.length + 1) g2 = some ⟨g2, 3, [.f (.int .i64 p.size), c1, c2]⟩ := by
    rw [hHA, look_succ, look_app_lt (by simp)]
    exact look_last
  have hAl : HA.length = H1.length + 2 + H2.length := by rw [hHA]; simp; omega
  have hPA : OwnP HA [.f (.int .i64 p.size), c1, c2] p S1 := by rw [hHA]; exact hP3
  have hXA : OwnI HA cx xs S2 := by rw [hHA]; exact hX1
  rw [← hHA]
  clear hHA hP3 hX1 hP2 hP1
  refine OpS.mkDFol himpl (⟨_, Try.func37, rfl, rfl⟩ : Enters Try.prog 37) rfl rfl (snap_two hPA.snap hXA.snap) ?_
  intro c H3 S3 hI1 hS3
  have hS3 : ∀ i ∈ S3, HA.length ≤ i ∧ i < HA.length + H3.length := hS3
  obtain ⟨HB, hHB⟩ : ∃ HB : Heap, HB = HA ++ H3 := ⟨_, rfl⟩
  have hB0 : look HB 0 g = some ⟨g, 1, cP p⟩ := by rw [hHB]; exact look_appL hA0
  have hB1 : look HB (H1.length + 1) g2 = some ⟨g2, 3, [.f (.int .i64 p.size), c1, c2]⟩ := by rw [hHB]; exact look_appL hA1
  have hPB : OwnP HB [.f (.int .i64 p.size), c1, c2] p S1 := by rw [hHB]; exact hPA.app
  have hXB : OwnI HB cx xs S2 := by rw [hHB]; exact hXA.app
  have hIB : OwnI HB c (folV p xs) S3 := by rw [hHB]; exact hI1
  simp (maxSteps := 1000000) (disch := omega) only [go_sem, Nat.reduceAdd, Nat.reduceMul, Nat.reduceSub, Nat.reduceEqDiff, Nat.reduceLeDiff]
  rw [← hHB]
  clear hHB hI1
  refine OpS.rdD (eqIntS_run (folV p xs) (folV p xs) hR) (⟨_, Try.func35, rfl, rfl⟩ : Enters Try.prog 35) rfl rfl (snap_two hIB.snap snapD_ints) rfl ?_
  simp (maxSteps := 1000000) (disch := omega) only [go_sem, Nat.reduceAdd, Nat.reduceMul, Nat.reduceSub, Nat.reduceEqDiff, Nat.reduceLeDiff]
  refine drawP_lF [0, 1, 2] [] none [3, 4] [] foll (by kernel_rfl) ?_
  simp (maxSteps := 1000000) (disch := omega) only [go_sem, Nat.reduceBEq, Bool.true_or, Nat.reduceAdd, Nat.reduceMul, Nat.reduceSub, Nat.reduceEqDiff, Nat.reduceLeDiff]
  simp (maxSteps := 1000000) (disch := omega) only [go_sem, Nat.reduceAdd, Nat.reduceMul, Nat.reduceSub, Nat.reduceEqDiff, Nat.reduceLeDiff, hB1, hB0]
  refine Loud.mk (toPuzzle_run p hs) (⟨_, Try.func30, rfl, rfl⟩ : Enters Try.prog 30) rfl rfl rfl rfl rfl ?_
  simp (maxSteps := 1000000) (disch := omega) only [go_sem, Nat.reduceAdd, Nat.reduceMul, Nat.reduceSub, Nat.reduceEqDiff, Nat.reduceLeDiff]
  refine OpS.rdD (eqPuzzle_run p p hs) (⟨_, Try.func34, rfl, rfl⟩ : Enters Try.prog 34) rfl rfl (snap_two hPB.snap snapD_aP) rfl ?_
  simp (maxSteps := 1000000) (disch := omega) only [go_sem, Nat.reduceAdd, Nat.reduceMul, Nat.reduceSub, Nat.reduceEqDiff, Nat.reduceLeDiff]
  first | refine OpS.mk (toIntS_run xs hl) (⟨_, Try.func31, rfl, rfl⟩ : Enters Try.prog 31) rfl rfl rfl rfl rfl ?_ | refine Loud.mk (toIntS_run xs hl) (⟨_, Try.func31, rfl, rfl⟩ : Enters Try.prog 31) rfl rfl rfl rfl rfl ?_
  simp (maxSteps := 1000000) (disch := omega) only [go_sem, Nat.reduceAdd, Nat.reduceMul, Nat.reduceSub, Nat.reduceEqDiff, Nat.reduceLeDiff]
  refine OpS.rdD (eqIntS_run xs xs hl) (⟨_, Try.func35, rfl, rfl⟩ : Enters Try.prog 35) rfl rfl (snap_two hXB.snap snapD_ints) rfl ?_
  simp (maxSteps := 1000000) (disch := omega) only [go_sem, Nat.reduceAdd, Nat.reduceMul, Nat.reduceSub, Nat.reduceEqDiff, Nat.reduceLeDiff, hB1]
  refine OpS.run (markPuzzle_deep _ _ p S1 1 hPB (by omega) hs) (⟨_, Try.func38, rfl, rfl⟩ : Enters Try.prog 38) rfl rfl ?_
  rintro _ H4 ⟨rfl, hp4, f4⟩
  have hX4 := hXB.frm f4 fun i hi hm => by
    have := hS2 i hi
    have := hS1 i hm
    omega
  have hI4 := hIB.frm f4 fun i hi hm => by
    have := hS3 i hi
    have := hS1 i hm
    omega
  have hb4 : look H4 0 g = some ⟨g, 1, cP p⟩ := by
    rw [f4.look fun hm => by have := hS1 0 hm; omega]
    exact hB0
  simp (maxSteps := 1000000) (disch := omega) only [go_sem, Nat.reduceAdd, Nat.reduceMul, Nat.reduceSub, Nat.reduceEqDiff, Nat.reduceLeDiff]
  refine OpS.run (markIntS_deep H4 cx xs S2 _ hX4 (by omega) hl) (⟨_, Try.func39, rfl, rfl⟩ : Enters Try.prog 39) rfl rfl ?_
  rintro _ H5 ⟨rfl, hx5, f5⟩
  have hI5 := hI4.frm f5 fun i hi hm => by
    have := hS3 i hi
    have := hS2 i hm
    omega
  have hb5 : look H5 0 g = some ⟨g, 1, cP p⟩ := by
    rw [f5.look fun hm => by have := hS2 0 hm; omega]
    exact hb4
  simp (maxSteps := 1000000) (disch := omega) only [go_sem, lt_no, lt_yes, le_no, le_yes, eq_no, eq_yes, Nat.reduceAdd, Nat.reduceMul, Nat.reduceSub, Nat.reduceEqDiff, Nat.reduceLeDiff]
  refine OpS.rdD (eqIntS_run (folV p xs) (folV p xs) hR) (⟨_, Try.func35, rfl, rfl⟩ : Enters Try.prog 35) rfl rfl (snap_two hI5.snap snapD_ints) rfl ?_
  simp (maxSteps := 1000000) (disch := omega) only [go_sem, Nat.reduceAdd, Nat.reduceMul, Nat.reduceSub, Nat.reduceEqDiff, Nat.reduceLeDiff]
  refine OpS.run (markIntS_deep H5 c (folV p xs) S3 1 hI5 (by omega) hR) (⟨_, Try.func39, rfl, rfl⟩ : Enters Try.prog 39) rfl rfl ?_
  rintro _ H6 ⟨rfl, hI6, f6⟩
  have hb6 : look H6 0 g = some ⟨g, 1, cP p⟩ := by
    rw [f6.look fun hm => by have := hS3 0 hm; omega]
    exact hb5
  simp (maxSteps := 1000000) (disch := omega) only [go_sem, Nat.reduceAdd, Nat.reduceMul, Nat.reduceSub, Nat.reduceEqDiff, Nat.reduceLeDiff]
  refine OpS.rdD (heldIntS_run (folV p xs).length 1 (by omega) (by omega)) (⟨_, Try.func40, rfl, rfl⟩ : Enters Try.prog 40) rfl rfl (snap_two hI6.snap snapD_int) rfl ?_
  simp (maxSteps := 1000000) (disch := omega) only [go_sem, lt_no, lt_yes, le_no, le_yes, eq_no, eq_yes, Nat.reduceAdd, Nat.reduceMul, Nat.reduceSub, Nat.reduceEqDiff, Nat.reduceLeDiff]
  rw [hb6]
  simp (maxSteps := 1000000) (disch := omega) only [go_sem, Nat.reduceAdd, Nat.reduceMul, Nat.reduceSub, Nat.reduceEqDiff, Nat.reduceLeDiff]
  first | refine OpS.mk (toPuzzle_run p hs) (⟨_, Try.func30, rfl, rfl⟩ : Enters Try.prog 30) rfl rfl rfl rfl rfl ?_ | refine Loud.mk (toPuzzle_run p hs) (⟨_, Try.func30, rfl, rfl⟩ : Enters Try.prog 30) rfl rfl rfl rfl rfl ?_
  simp (maxSteps := 1000000) (disch := omega) only [go_sem, Nat.reduceAdd, Nat.reduceMul, Nat.reduceSub, Nat.reduceEqDiff, Nat.reduceLeDiff]
  first | refine OpS.mk (toIntS_run xs hl) (⟨_, Try.func31, rfl, rfl⟩ : Enters Try.prog 31) rfl rfl rfl rfl rfl ?_ | refine Loud.mk (toIntS_run xs hl) (⟨_, Try.func31, rfl, rfl⟩ : Enters Try.prog 31) rfl rfl rfl rfl rfl ?_
  simp (maxSteps := 1000000) (disch := omega) only [go_sem, Nat.reduceAdd, Nat.reduceMul, Nat.reduceSub, Nat.reduceEqDiff, Nat.reduceLeDiff]
  first | refine OpS.mk (folQ_rd himpl) (⟨_, Try.func37, rfl, rfl⟩ : Enters Try.prog 37) rfl rfl rfl rfl rfl ?_ | refine Loud.mk (folQ_rd himpl) (⟨_, Try.func37, rfl, rfl⟩ : Enters Try.prog 37) rfl rfl rfl rfl rfl ?_
  simp (maxSteps := 1000000) (disch := omega) only [go_sem, Nat.reduceAdd, Nat.reduceMul, Nat.reduceSub, Nat.reduceEqDiff, Nat.reduceLeDiff]
  first | refine OpS.rd (eqIntS_run (folV p xs) (folV p xs) hR) (⟨_, Try.func35, rfl, rfl⟩ : Enters Try.prog 35) rfl rfl rfl rfl ?_ | refine Loud.rd (eqIntS_run (folV p xs) (folV p xs) hR) (⟨_, Try.func35, rfl, rfl⟩ : Enters Try.prog 35) rfl rfl rfl rfl ?_
  simp (maxSteps := 1000000) (disch := omega) only [go_sem, Nat.reduceAdd, Nat.reduceMul, Nat.reduceSub, Nat.reduceEqDiff, Nat.reduceLeDiff]
  refine OpS.rdD (heldIntS_run (folV p xs).length 1 (by omega) (by omega)) (⟨_, Try.func40, rfl, rfl⟩ : Enters Try.prog 40) rfl rfl (snap_two hI6.snap snapD_int) rfl ?_
  simp (maxSteps := 1000000) (disch := omega) only [go_sem, lt_no, lt_yes, le_no, le_yes, eq_no, eq_yes, Nat.reduceAdd, Nat.reduceMul, Nat.reduceSub, Nat.reduceEqDiff, Nat.reduceLeDiff]
end Go.Lg
