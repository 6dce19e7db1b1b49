/- The laws: a value put into a game, a move taken back, as the reference does it. -/
import Derived.Test.YtpdaalgdkdpihaaGpBC
import Derived.Test.YtpdaalgdkdpihaaGpW
set_option linter.unusedSimpArgs false
set_option linter.unusedVariables false
set_option maxRecDepth 100000
namespace Go.Lg
open Go.Proofs

theorem gamePut_facts {q : Gam} {cell value : Int} (hx : smG q) : smG (gamePut q cell value) ∧ wMG (gamePut q cell value) ≤ wMG q + 1 := by
  unfold gamePut
  split
  · rename_i h
    obtain ⟨h1, h2, h3, h4, h5, h6⟩ := gameValid_facts h
    split
    · exact ⟨⟨hx.1, by simpa using hx.2.1, by simp; omega⟩, by simp [wMG, wMP]; omega⟩
    · exact ⟨hx, by omega⟩
  · exact ⟨⟨⟨by simp [zeroG], by simp [zeroG], by simp [zeroG]⟩, by simp [zeroG], by simp [zeroG]⟩, by simp [wMG, wMP, wM, zeroG]⟩
theorem gameBack_facts {q : Gam} (hx : smG q) : smG (gameBack q) ∧ wMG (gameBack q) ≤ wMG q + 1 := by
  unfold gameBack
  split
  · split
    · exact ⟨hx, by omega⟩
    · have := hx.2.2
      exact ⟨⟨hx.1, by simpa using hx.2.1, by simp; omega⟩, by simp [wMG, wMP]; omega⟩
  · exact ⟨⟨⟨by simp [zeroG], by simp [zeroG], by simp [zeroG]⟩, by simp [zeroG], by simp [zeroG]⟩, by simp [wMG, wMP, wM, zeroG]⟩
theorem snap_thr {H : Heap} {x x' : AV} {a b : Int} (h : snapD H x = some x') : [x, int a, int b].mapM (snapD H) = some [x', int a, int b] := snap_three h rfl rfl
set_option maxHeartbeats 2000000 in
theorem law_GameBack (q : Gam) (h1 : okG q) : Reads Try.prog 5 [aG q] (bool true) := by
  refine RunCall.cw (c := _) Try.func5 rfl (n := 96) Try.ntmps5 (rs := [.tmp 2]) rfl ?_
  simp only [List.length_cons, List.length_nil, Nat.reduceAdd, Nat.reduceSub, List.replicate, List.cons_append, List.nil_append]
  simp (maxSteps := 1000000) (disch := omega) only [go_sem, Nat.reduceAdd, Nat.reduceMul, Nat.reduceSub, Nat.reduceEqDiff, Nat.reduceLeDiff]
  intro g
  first | refine OpS.rd (szGame_run q 1048576 (by omega) h1) (⟨_, Try.func14, rfl, rfl⟩ : Enters Try.prog 14) rfl rfl rfl rfl ?_ | refine Loud.rd (szGame_run q 1048576 (by omega) h1) (⟨_, Try.func14, rfl, rfl⟩ : Enters Try.prog 14) rfl rfl rfl rfl ?_
  simp (maxSteps := 1000000) (disch := omega) only [go_sem, Nat.reduceAdd, Nat.reduceMul, Nat.reduceSub, Nat.reduceEqDiff, Nat.reduceLeDiff]
  (first | with_reducible refine condK_dec (fun h => ?_) (fun h => ?_) | with_reducible refine condK_ndec (fun h => ?_) (fun h => ?_) | with_reducible refine condK_nb (fun h => ?_) (fun h => ?_) | refine condK_b (fun h => ?_) (fun h => ?_))
  · simp (maxSteps := 1000000) (disch := omega) only [go_sem, Nat.reduceAdd, Nat.reduceMul, Nat.reduceSub, Nat.reduceEqDiff, Nat.reduceLeDiff]
  obtain ⟨hw, _⟩ := szI_ok h
  have hs : smG q := smG_of (n := 1048576) (by omega) (by omega)
  have hwm := wMG_small q
  obtain ⟨hsg, hwg⟩ := gameBack_facts hs
  obtain ⟨q2, hq2⟩ : ∃ q2, q2 = gameBack q := ⟨_, rfl⟩
  obtain ⟨rb, hrb⟩ : ∃ rb, rb = gameBackB q := ⟨_, rfl⟩
  have hspec := sGameBack_run q hs
  have himpl := GameBack_own q hs
  rw [← hq2] at hsg hwg hspec himpl
  rw [← hrb] at hspec himpl
  clear hq2 hrb
  simp (maxSteps := 1000000) (disch := omega) only [go_sem, Nat.reduceAdd, Nat.reduceMul, Nat.reduceSub, Nat.reduceEqDiff, Nat.reduceLeDiff]
  first | refine OpS.mk (toGame_run q hs) (⟨_, Try.func16, rfl, rfl⟩ : Enters Try.prog 16) rfl rfl rfl rfl rfl ?_ | refine Loud.mk (toGame_run q hs) (⟨_, Try.func16, rfl, rfl⟩ : Enters Try.prog 16) rfl rfl rfl rfl rfl ?_
  simp (maxSteps := 1000000) (disch := omega) only [go_sem, Nat.reduceAdd, Nat.reduceMul, Nat.reduceSub, Nat.reduceEqDiff, Nat.reduceLeDiff]
  first | refine OpS.mk (hspec) (⟨_, Try.func30, rfl, rfl⟩ : Enters Try.prog 30) rfl rfl rfl rfl rfl ?_ | refine Loud.mk (hspec) (⟨_, Try.func30, rfl, rfl⟩ : Enters Try.prog 30) rfl rfl rfl rfl rfl ?_
  simp (maxSteps := 1000000) (disch := omega) only [go_sem, Nat.reduceAdd, Nat.reduceMul, Nat.reduceSub, Nat.reduceEqDiff, Nat.reduceLeDiff]
  intro gw
  refine OpS.mkG (toGame_deep q hs) (⟨_, Try.func16, rfl, rfl⟩ : Enters Try.prog 16) rfl rfl rfl ?_
  intro cs H1 S1 hP1 hS1
  simp only [List.length_cons, List.length_nil] at hS1
  obtain ⟨c1, c2, c3, c4, T1, T2, T3, T4, rfl, eS, k1, k2, k3, k4⟩ := hP1.ex
  simp (maxSteps := 1000000) (disch := omega) only [go_sem, Nat.reduceAdd, Nat.reduceMul, Nat.reduceSub, Nat.reduceEqDiff, Nat.reduceLeDiff, look_last, set_last]
  intro g2
  have hP2 := hP1.app (H' := [some ⟨g2, 5, [.f (.int .i64 q.task.size), c1, c2, c3, c4]⟩])
  refine OpS.mkDGB himpl (⟨_, Try.func31, rfl, rfl⟩ : Enters Try.prog 31) rfl rfl (snap_one hP2.snap) ?_
  intro cs H2 S2 hG1 hS2
  simp only [List.length_cons, List.length_append, List.length_nil] at hS2
  obtain ⟨d1, d2, d3, d4, U1, U2, U3, U4, rfl, eU, m1, m2, m3, m4⟩ := hG1.ex
  simp (maxSteps := 1000000) (disch := omega) only [go_sem, Nat.reduceAdd, Nat.reduceMul, Nat.reduceSub, Nat.reduceEqDiff, Nat.reduceLeDiff, look_last, set_last]
  intro g3
  simp (maxSteps := 1000000) (disch := omega) only [go_sem, Nat.reduceAdd, Nat.reduceMul, Nat.reduceSub, Nat.reduceEqDiff, Nat.reduceLeDiff, look_end3, set_end3]
  have hG2 := hG1.app (H' := [some ⟨g3, 5, [.f (.int .i64 q2.task.size), d1, d2, d3, d4]⟩])
  refine OpS.rdD (eqGame_run q2 q2 hsg) (⟨_, Try.func19, rfl, rfl⟩ : Enters Try.prog 19) rfl rfl (snap_two hG2.snap snapD_aG) rfl ?_
  simp (maxSteps := 1000000) (disch := omega) only [go_sem, Nat.reduceAdd, Nat.reduceMul, Nat.reduceSub, Nat.reduceEqDiff, Nat.reduceLeDiff]
  have hP3 := (hP2.app (H' := H2)).app (H' := [some ⟨g3, 5, [.f (.int .i64 q2.task.size), d1, d2, d3, d4]⟩])
  refine drawP_lM [0, 1, 2] [] none [3, 4] [] [0, 0, 2, 7, 15] foll (by kernel_rfl) ?_
  simp (maxSteps := 1000000) (disch := omega) only [go_sem, Nat.reduceBEq, Bool.true_or, Nat.reduceAdd, Nat.reduceMul, Nat.reduceSub, Nat.reduceEqDiff, Nat.reduceLeDiff]
  rw [look_mid3]
  simp (maxSteps := 1000000) (disch := omega) only [go_sem, Nat.reduceAdd, Nat.reduceMul, Nat.reduceSub, Nat.reduceEqDiff, Nat.reduceLeDiff]
  refine Loud.mk (toGame_run q hs) (⟨_, Try.func16, rfl, rfl⟩ : Enters Try.prog 16) rfl rfl rfl rfl rfl ?_
  simp (maxSteps := 1000000) (disch := omega) only [go_sem, Nat.reduceAdd, Nat.reduceMul, Nat.reduceSub, Nat.reduceEqDiff, Nat.reduceLeDiff]
  refine OpS.rdD (eqGame_run q q hs) (⟨_, Try.func19, rfl, rfl⟩ : Enters Try.prog 19) rfl rfl (snap_two hP3.snap snapD_aG) rfl ?_
  simp (maxSteps := 1000000) (disch := omega) only [go_sem, Nat.reduceAdd, Nat.reduceMul, Nat.reduceSub, Nat.reduceEqDiff, Nat.reduceLeDiff]
  rw [look_mid3]
  simp (maxSteps := 1000000) (disch := omega) only [go_sem, Nat.reduceAdd, Nat.reduceMul, Nat.reduceSub, Nat.reduceEqDiff, Nat.reduceLeDiff]
  refine OpS.run (markGame_deep _ _ q S1 1 hP3 (by omega) hs) (⟨_, Try.func20, rfl, rfl⟩ : Enters Try.prog 20) rfl rfl ?_
  rintro _ H3 ⟨rfl, hp1, f3⟩
  have hG3 := hG2.frm f3 fun i hi hm => by
    have := hS2 i hi
    have := hS1 i hm
    omega
  have hb0 : look H3 0 g = some ⟨g, 1, cG q⟩ := by
    rw [f3.look fun hm => by have := hS1 0 hm; omega]
    exact look_zero
  have hb1 : look H3 1 gw = some ⟨gw, 5, cG q2⟩ := by
    rw [f3.look fun hm => by have := hS1 1 hm; omega]
    simp only [go_sem]
  have hb3 : look H3 (H1.length + 1 + H2.length + 1 + 1) g3 = some ⟨g3, 5, [.f (.int .i64 q2.task.size), d1, d2, d3, d4]⟩ := by
    rw [f3.look fun hm => by have := hS1 _ hm; omega]
    simp only [go_sem]
    exact look_end3
  simp (maxSteps := 1000000) (disch := omega) only [go_sem, lt_no, lt_yes, le_no, le_yes, eq_no, eq_yes, Nat.reduceAdd, Nat.reduceMul, Nat.reduceSub, Nat.reduceEqDiff, Nat.reduceLeDiff]
  rw [hb3]
  simp (maxSteps := 1000000) (disch := omega) only [go_sem, Nat.reduceAdd, Nat.reduceMul, Nat.reduceSub, Nat.reduceEqDiff, Nat.reduceLeDiff]
  rw [hb1]
  simp (maxSteps := 1000000) (disch := omega) only [go_sem, Nat.reduceAdd, Nat.reduceMul, Nat.reduceSub, Nat.reduceEqDiff, Nat.reduceLeDiff]
  refine OpS.rdD (eqGame_run q2 q2 hsg) (⟨_, Try.func19, rfl, rfl⟩ : Enters Try.prog 19) rfl rfl (snap_two hG3.snap snapD_aG) rfl ?_
  simp (maxSteps := 1000000) (disch := omega) only [go_sem, Nat.reduceAdd, Nat.reduceMul, Nat.reduceSub, Nat.reduceEqDiff, Nat.reduceLeDiff]
  rw [hb3]
  simp (maxSteps := 1000000) (disch := omega) only [go_sem, Nat.reduceAdd, Nat.reduceMul, Nat.reduceSub, Nat.reduceEqDiff, Nat.reduceLeDiff]
  refine OpS.run (markGame_deep _ _ q2 S2 1 hG3 (by omega) hsg) (⟨_, Try.func20, rfl, rfl⟩ : Enters Try.prog 20) rfl rfl ?_
  rintro _ H4 ⟨rfl, hG4, f4⟩
  have hb40 : look H4 0 g = some ⟨g, 1, cG q⟩ := by
    rw [f4.look fun hm => by have := hS2 0 hm; omega]
    exact hb0
  have hb41 : look H4 1 gw = some ⟨gw, 5, cG q2⟩ := by
    rw [f4.look fun hm => by have := hS2 1 hm; omega]
    exact hb1
  have hb43 : look H4 (H1.length + 1 + H2.length + 1 + 1) g3 = some ⟨g3, 5, [.f (.int .i64 q2.task.size), d1, d2, d3, d4]⟩ := by
    rw [f4.look fun hm => by have := hS2 _ hm; omega]
    exact hb3
  simp (maxSteps := 1000000) (disch := omega) only [go_sem, Nat.reduceAdd, Nat.reduceMul, Nat.reduceSub, Nat.reduceEqDiff, Nat.reduceLeDiff]
  rw [hb43]
  simp (maxSteps := 1000000) (disch := omega) only [go_sem, Nat.reduceAdd, Nat.reduceMul, Nat.reduceSub, Nat.reduceEqDiff, Nat.reduceLeDiff]
  refine OpS.rdD (heldGame_run q2 1 (by omega) hsg) (⟨_, Try.func29, rfl, rfl⟩ : Enters Try.prog 29) rfl rfl (snap_two hG4.snap snapD_int) rfl ?_
  simp (maxSteps := 1000000) (disch := omega) only [go_sem, lt_no, lt_yes, le_no, le_yes, eq_no, eq_yes, Nat.reduceAdd, Nat.reduceMul, Nat.reduceSub, Nat.reduceEqDiff, Nat.reduceLeDiff]
  rw [hb40]
  simp (maxSteps := 1000000) (disch := omega) only [go_sem, Nat.reduceAdd, Nat.reduceMul, Nat.reduceSub, Nat.reduceEqDiff, Nat.reduceLeDiff]
  first | refine OpS.mk (toGame_run q hs) (⟨_, Try.func16, rfl, rfl⟩ : Enters Try.prog 16) rfl rfl rfl rfl rfl ?_ | refine Loud.mk (toGame_run q hs) (⟨_, Try.func16, rfl, rfl⟩ : Enters Try.prog 16) rfl rfl rfl rfl rfl ?_
  simp (maxSteps := 1000000) (disch := omega) only [go_sem, Nat.reduceAdd, Nat.reduceMul, Nat.reduceSub, Nat.reduceEqDiff, Nat.reduceLeDiff]
  first | refine OpS.mk (Reads.ownGB himpl) (⟨_, Try.func31, rfl, rfl⟩ : Enters Try.prog 31) rfl rfl rfl rfl rfl ?_ | refine Loud.mk (Reads.ownGB himpl) (⟨_, Try.func31, rfl, rfl⟩ : Enters Try.prog 31) rfl rfl rfl rfl rfl ?_
  simp (maxSteps := 1000000) (disch := omega) only [go_sem, Nat.reduceAdd, Nat.reduceMul, Nat.reduceSub, Nat.reduceEqDiff, Nat.reduceLeDiff]
  intro g4
  have hlen4 : H4.length = H1.length + 1 + H2.length + 1 + 1 + 1 := by
    rw [f4.1, f3.1]
    simp
    omega
  simp (maxSteps := 1000000) (disch := omega) only [go_sem, Nat.reduceAdd, Nat.reduceMul, Nat.reduceSub, Nat.reduceEqDiff, Nat.reduceLeDiff, look_last, set_last]
  rw [look_app_lt (by omega), hb41]
  simp (maxSteps := 1000000) (disch := omega) only [go_sem, Nat.reduceAdd, Nat.reduceMul, Nat.reduceSub, Nat.reduceEqDiff, Nat.reduceLeDiff]
  first | refine OpS.rd (eqGame_run q2 q2 hsg) (⟨_, Try.func19, rfl, rfl⟩ : Enters Try.prog 19) rfl rfl rfl rfl ?_ | refine Loud.rd (eqGame_run q2 q2 hsg) (⟨_, Try.func19, rfl, rfl⟩ : Enters Try.prog 19) rfl rfl rfl rfl ?_
  simp (maxSteps := 1000000) (disch := omega) only [go_sem, Nat.reduceAdd, Nat.reduceMul, Nat.reduceSub, Nat.reduceEqDiff, Nat.reduceLeDiff]
  rw [look_app_lt (by omega), hb43]
  simp (maxSteps := 1000000) (disch := omega) only [go_sem, Nat.reduceAdd, Nat.reduceMul, Nat.reduceSub, Nat.reduceEqDiff, Nat.reduceLeDiff]
  refine OpS.rdD (heldGame_run q2 1 (by omega) hsg) (⟨_, Try.func29, rfl, rfl⟩ : Enters Try.prog 29) rfl rfl (snap_two (hG4.app (H' := [some ⟨g4, 5, cG q2⟩])).snap snapD_int) rfl ?_
  simp (maxSteps := 1000000) (disch := omega) only [go_sem, lt_no, lt_yes, le_no, le_yes, eq_no, eq_yes, Nat.reduceAdd, Nat.reduceMul, Nat.reduceSub, Nat.reduceEqDiff, Nat.reduceLeDiff]
set_option maxHeartbeats 2000000 in
theorem law_GamePut (q : Gam) (cell value : Int) (h1 : okG q) (_ : (Lit.int .i64 cell).wf = true) (_ : (Lit.int .i64 value).wf = true) : Reads Try.prog 6 [aG q, int cell, int value] (bool true) := by
  refine RunCall.cw (c := _) Try.func6 rfl (n := 106) Try.ntmps6 (rs := [.tmp 6]) rfl ?_
  simp only [List.length_cons, List.length_nil, Nat.reduceAdd, Nat.reduceSub, List.replicate, List.cons_append, List.nil_append]
  simp (maxSteps := 1000000) (disch := omega) only [go_sem, Nat.reduceAdd, Nat.reduceMul, Nat.reduceSub, Nat.reduceEqDiff, Nat.reduceLeDiff]
  intro g
  first | refine OpS.rd (szGame_run q 1048576 (by omega) h1) (⟨_, Try.func14, rfl, rfl⟩ : Enters Try.prog 14) rfl rfl rfl rfl ?_ | refine Loud.rd (szGame_run q 1048576 (by omega) h1) (⟨_, Try.func14, rfl, rfl⟩ : Enters Try.prog 14) rfl rfl rfl rfl ?_
  simp (maxSteps := 1000000) (disch := omega) only [go_sem, Nat.reduceAdd, Nat.reduceMul, Nat.reduceSub, Nat.reduceEqDiff, Nat.reduceLeDiff]
  (first | with_reducible refine condK_dec (fun h => ?_) (fun h => ?_) | with_reducible refine condK_ndec (fun h => ?_) (fun h => ?_) | with_reducible refine condK_nb (fun h => ?_) (fun h => ?_) | refine condK_b (fun h => ?_) (fun h => ?_))
  · simp (maxSteps := 1000000) (disch := omega) only [go_sem, Nat.reduceAdd, Nat.reduceMul, Nat.reduceSub, Nat.reduceEqDiff, Nat.reduceLeDiff]
  obtain ⟨hw, _⟩ := szI_ok h
  have hs : smG q := smG_of (n := 1048576) (by omega) (by omega)
  have hwm := wMG_small q
  obtain ⟨hsg, hwg⟩ := gamePut_facts (cell := cell) (value := value) hs
  obtain ⟨q2, hq2⟩ : ∃ q2, q2 = gamePut q cell value := ⟨_, rfl⟩
  obtain ⟨rb, hrb⟩ : ∃ rb, rb = gamePutB q cell value := ⟨_, rfl⟩
  have hspec := sGamePut_run q cell value hs
  have himpl := GamePut_own q cell value hs
  rw [← hq2] at hsg hwg hspec himpl
  rw [← hrb] at hspec himpl
  clear hq2 hrb
  simp (maxSteps := 1000000) (disch := omega) only [go_sem, Nat.reduceAdd, Nat.reduceMul, Nat.reduceSub, Nat.reduceEqDiff, Nat.reduceLeDiff]
  first | refine OpS.mk (toGame_run q hs) (⟨_, Try.func16, rfl, rfl⟩ : Enters Try.prog 16) rfl rfl rfl rfl rfl ?_ | refine Loud.mk (toGame_run q hs) (⟨_, Try.func16, rfl, rfl⟩ : Enters Try.prog 16) rfl rfl rfl rfl rfl ?_
  simp (maxSteps := 1000000) (disch := omega) only [go_sem, Nat.reduceAdd, Nat.reduceMul, Nat.reduceSub, Nat.reduceEqDiff, Nat.reduceLeDiff]
  first | refine OpS.mk (hspec) (⟨_, Try.func32, rfl, rfl⟩ : Enters Try.prog 32) rfl rfl rfl rfl rfl ?_ | refine Loud.mk (hspec) (⟨_, Try.func32, rfl, rfl⟩ : Enters Try.prog 32) rfl rfl rfl rfl rfl ?_
  simp (maxSteps := 1000000) (disch := omega) only [go_sem, Nat.reduceAdd, Nat.reduceMul, Nat.reduceSub, Nat.reduceEqDiff, Nat.reduceLeDiff]
  intro gw
  refine OpS.mkG (toGame_deep q hs) (⟨_, Try.func16, rfl, rfl⟩ : Enters Try.prog 16) rfl rfl rfl ?_
  intro cs H1 S1 hP1 hS1
  simp only [List.length_cons, List.length_nil] at hS1
  obtain ⟨c1, c2, c3, c4, T1, T2, T3, T4, rfl, eS, k1, k2, k3, k4⟩ := hP1.ex
  simp (maxSteps := 1000000) (disch := omega) only [go_sem, Nat.reduceAdd, Nat.reduceMul, Nat.reduceSub, Nat.reduceEqDiff, Nat.reduceLeDiff, look_last, set_last]
  intro g2
  have hP2 := hP1.app (H' := [some ⟨g2, 5, [.f (.int .i64 q.task.size), c1, c2, c3, c4]⟩])
  refine OpS.mkDGB himpl (⟨_, Try.func33, rfl, rfl⟩ : Enters Try.prog 33) rfl rfl (snap_thr hP2.snap) ?_
  intro cs H2 S2 hG1 hS2
  simp only [List.length_cons, List.length_append, List.length_nil] at hS2
  obtain ⟨d1, d2, d3, d4, U1, U2, U3, U4, rfl, eU, m1, m2, m3, m4⟩ := hG1.ex
  simp (maxSteps := 1000000) (disch := omega) only [go_sem, Nat.reduceAdd, Nat.reduceMul, Nat.reduceSub, Nat.reduceEqDiff, Nat.reduceLeDiff, look_last, set_last]
  intro g3
  simp (maxSteps := 1000000) (disch := omega) only [go_sem, Nat.reduceAdd, Nat.reduceMul, Nat.reduceSub, Nat.reduceEqDiff, Nat.reduceLeDiff, look_end3, set_end3]
  have hG2 := hG1.app (H' := [some ⟨g3, 5, [.f (.int .i64 q2.task.size), d1, d2, d3, d4]⟩])
  refine OpS.rdD (eqGame_run q2 q2 hsg) (⟨_, Try.func19, rfl, rfl⟩ : Enters Try.prog 19) rfl rfl (snap_two hG2.snap snapD_aG) rfl ?_
  simp (maxSteps := 1000000) (disch := omega) only [go_sem, Nat.reduceAdd, Nat.reduceMul, Nat.reduceSub, Nat.reduceEqDiff, Nat.reduceLeDiff]
  have hP3 := (hP2.app (H' := H2)).app (H' := [some ⟨g3, 5, [.f (.int .i64 q2.task.size), d1, d2, d3, d4]⟩])
  refine drawP_lM [0, 1, 2] [] none [3, 4] [] [0, 0, 2, 7, 15] foll (by kernel_rfl) ?_
  simp (maxSteps := 1000000) (disch := omega) only [go_sem, Nat.reduceBEq, Bool.true_or, Nat.reduceAdd, Nat.reduceMul, Nat.reduceSub, Nat.reduceEqDiff, Nat.reduceLeDiff]
  rw [look_mid3]
  simp (maxSteps := 1000000) (disch := omega) only [go_sem, Nat.reduceAdd, Nat.reduceMul, Nat.reduceSub, Nat.reduceEqDiff, Nat.reduceLeDiff]
  refine Loud.mk (toGame_run q hs) (⟨_, Try.func16, rfl, rfl⟩ : Enters Try.prog 16) rfl rfl rfl rfl rfl ?_
  simp (maxSteps := 1000000) (disch := omega) only [go_sem, Nat.reduceAdd, Nat.reduceMul, Nat.reduceSub, Nat.reduceEqDiff, Nat.reduceLeDiff]
  refine OpS.rdD (eqGame_run q q hs) (⟨_, Try.func19, rfl, rfl⟩ : Enters Try.prog 19) rfl rfl (snap_two hP3.snap snapD_aG) rfl ?_
  simp (maxSteps := 1000000) (disch := omega) only [go_sem, Nat.reduceAdd, Nat.reduceMul, Nat.reduceSub, Nat.reduceEqDiff, Nat.reduceLeDiff]
  rw [look_mid3]
  simp (maxSteps := 1000000) (disch := omega) only [go_sem, Nat.reduceAdd, Nat.reduceMul, Nat.reduceSub, Nat.reduceEqDiff, Nat.reduceLeDiff]
  refine OpS.run (markGame_deep _ _ q S1 1 hP3 (by omega) hs) (⟨_, Try.func20, rfl, rfl⟩ : Enters Try.prog 20) rfl rfl ?_
  rintro _ H3 ⟨rfl, hp1, f3⟩
  have hG3 := hG2.frm f3 fun i hi hm => by
    have := hS2 i hi
    have := hS1 i hm
    omega
  have hb0 : look H3 0 g = some ⟨g, 1, cG q⟩ := by
    rw [f3.look fun hm => by have := hS1 0 hm; omega]
    exact look_zero
  have hb1 : look H3 1 gw = some ⟨gw, 5, cG q2⟩ := by
    rw [f3.look fun hm => by have := hS1 1 hm; omega]
    simp only [go_sem]
  have hb3 : look H3 (H1.length + 1 + H2.length + 1 + 1) g3 = some ⟨g3, 5, [.f (.int .i64 q2.task.size), d1, d2, d3, d4]⟩ := by
    rw [f3.look fun hm => by have := hS1 _ hm; omega]
    simp only [go_sem]
    exact look_end3
  simp (maxSteps := 1000000) (disch := omega) only [go_sem, lt_no, lt_yes, le_no, le_yes, eq_no, eq_yes, Nat.reduceAdd, Nat.reduceMul, Nat.reduceSub, Nat.reduceEqDiff, Nat.reduceLeDiff]
  rw [hb3]
  simp (maxSteps := 1000000) (disch := omega) only [go_sem, Nat.reduceAdd, Nat.reduceMul, Nat.reduceSub, Nat.reduceEqDiff, Nat.reduceLeDiff]
  rw [hb1]
  simp (maxSteps := 1000000) (disch := omega) only [go_sem, Nat.reduceAdd, Nat.reduceMul, Nat.reduceSub, Nat.reduceEqDiff, Nat.reduceLeDiff]
  refine OpS.rdD (eqGame_run q2 q2 hsg) (⟨_, Try.func19, rfl, rfl⟩ : Enters Try.prog 19) rfl rfl (snap_two hG3.snap snapD_aG) rfl ?_
  simp (maxSteps := 1000000) (disch := omega) only [go_sem, Nat.reduceAdd, Nat.reduceMul, Nat.reduceSub, Nat.reduceEqDiff, Nat.reduceLeDiff]
  rw [hb3]
  simp (maxSteps := 1000000) (disch := omega) only [go_sem, Nat.reduceAdd, Nat.reduceMul, Nat.reduceSub, Nat.reduceEqDiff, Nat.reduceLeDiff]
  refine OpS.run (markGame_deep _ _ q2 S2 1 hG3 (by omega) hsg) (⟨_, Try.func20, rfl, rfl⟩ : Enters Try.prog 20) rfl rfl ?_
  rintro _ H4 ⟨rfl, hG4, f4⟩
  have hb40 : look H4 0 g = some ⟨g, 1, cG q⟩ := by
    rw [f4.look fun hm => by have := hS2 0 hm; omega]
    exact hb0
  have hb41 : look H4 1 gw = some ⟨gw, 5, cG q2⟩ := by
    rw [f4.look fun hm => by have := hS2 1 hm; omega]
    exact hb1
  have hb43 : look H4 (H1.length + 1 + H2.length + 1 + 1) g3 = some ⟨g3, 5, [.f (.int .i64 q2.task.size), d1, d2, d3, d4]⟩ := by
    rw [f4.look fun hm => by have := hS2 _ hm; omega]
    exact hb3
  simp (maxSteps := 1000000) (disch := omega) only [go_sem, Nat.reduceAdd, Nat.reduceMul, Nat.reduceSub, Nat.reduceEqDiff, Nat.reduceLeDiff]
  rw [hb43]
  simp (maxSteps := 1000000) (disch := omega) only [go_sem, Nat.reduceAdd, Nat.reduceMul, Nat.reduceSub, Nat.reduceEqDiff, Nat.reduceLeDiff]
  refine OpS.rdD (heldGame_run q2 1 (by omega) hsg) (⟨_, Try.func29, rfl, rfl⟩ : Enters Try.prog 29) rfl rfl (snap_two hG4.snap snapD_int) rfl ?_
  simp (maxSteps := 1000000) (disch := omega) only [go_sem, lt_no, lt_yes, le_no, le_yes, eq_no, eq_yes, Nat.reduceAdd, Nat.reduceMul, Nat.reduceSub, Nat.reduceEqDiff, Nat.reduceLeDiff]
  rw [hb40]
  simp (maxSteps := 1000000) (disch := omega) only [go_sem, Nat.reduceAdd, Nat.reduceMul, Nat.reduceSub, Nat.reduceEqDiff, Nat.reduceLeDiff]
  first | refine OpS.mk (toGame_run q hs) (⟨_, Try.func16, rfl, rfl⟩ : Enters Try.prog 16) rfl rfl rfl rfl rfl ?_ | refine Loud.mk (toGame_run q hs) (⟨_, Try.func16, rfl, rfl⟩ : Enters Try.prog 16) rfl rfl rfl rfl rfl ?_
  simp (maxSteps := 1000000) (disch := omega) only [go_sem, Nat.reduceAdd, Nat.reduceMul, Nat.reduceSub, Nat.reduceEqDiff, Nat.reduceLeDiff]
  first | refine OpS.mk (Reads.ownGB himpl) (⟨_, Try.func33, rfl, rfl⟩ : Enters Try.prog 33) rfl rfl rfl rfl rfl ?_ | refine Loud.mk (Reads.ownGB himpl) (⟨_, Try.func33, rfl, rfl⟩ : Enters Try.prog 33) rfl rfl rfl rfl rfl ?_
  simp (maxSteps := 1000000) (disch := omega) only [go_sem, Nat.reduceAdd, Nat.reduceMul, Nat.reduceSub, Nat.reduceEqDiff, Nat.reduceLeDiff]
  intro g4
  have hlen4 : H4.length = H1.length + 1 + H2.length + 1 + 1 + 1 := by
    rw [f4.1, f3.1]
    simp
    omega
  simp (maxSteps := 1000000) (disch := omega) only [go_sem, Nat.reduceAdd, Nat.reduceMul, Nat.reduceSub, Nat.reduceEqDiff, Nat.reduceLeDiff, look_last, set_last]
  rw [look_app_lt (by omega), hb41]
  simp (maxSteps := 1000000) (disch := omega) only [go_sem, Nat.reduceAdd, Nat.reduceMul, Nat.reduceSub, Nat.reduceEqDiff, Nat.reduceLeDiff]
  first | refine OpS.rd (eqGame_run q2 q2 hsg) (⟨_, Try.func19, rfl, rfl⟩ : Enters Try.prog 19) rfl rfl rfl rfl ?_ | refine Loud.rd (eqGame_run q2 q2 hsg) (⟨_, Try.func19, rfl, rfl⟩ : Enters Try.prog 19) rfl rfl rfl rfl ?_
  simp (maxSteps := 1000000) (disch := omega) only [go_sem, Nat.reduceAdd, Nat.reduceMul, Nat.reduceSub, Nat.reduceEqDiff, Nat.reduceLeDiff]
  rw [look_app_lt (by omega), hb43]
  simp (maxSteps := 1000000) (disch := omega) only [go_sem, Nat.reduceAdd, Nat.reduceMul, Nat.reduceSub, Nat.reduceEqDiff, Nat.reduceLeDiff]
  refine OpS.rdD (heldGame_run q2 1 (by omega) hsg) (⟨_, Try.func29, rfl, rfl⟩ : Enters Try.prog 29) rfl rfl (snap_two (hG4.app (H' := [some ⟨g4, 5, cG q2⟩])).snap snapD_int) rfl ?_
  simp (maxSteps := 1000000) (disch := omega) only [go_sem, lt_no, lt_yes, le_no, le_yes, eq_no, eq_yes, Nat.reduceAdd, Nat.reduceMul, Nat.reduceSub, Nat.reduceEqDiff, Nat.reduceLeDiff]
end Go.Lg
