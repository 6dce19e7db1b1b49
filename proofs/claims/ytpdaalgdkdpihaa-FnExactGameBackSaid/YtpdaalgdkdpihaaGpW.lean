/- The law: the game that is begun is what the reference begins. -/
import Derived.Test.YtpdaalgdkdpihaaGpV
set_option linter.unusedSimpArgs false
set_option linter.unusedVariables false
set_option maxRecDepth 100000
namespace Go.Lg
open Go.Proofs

theorem gameOf_facts {p : Puz} (hx : smP p) : smG (gameOf p) ∧ wMG (gameOf p) ≤ 2 * wMP p := by
  unfold gameOf
  split
  · exact ⟨⟨hx, by simpa using hx.1, by simp⟩, by simp [wMG, wMP]; omega⟩
  · exact ⟨⟨⟨by simp, by simp, by simp⟩, by simp, by simp⟩, by simp [wMG, wMP, wM]⟩
theorem look_end3 {A B : Heap} {x : Option Blk} {g sz : Nat} {cs : List CV} : look (A ++ [x] ++ B ++ [some ⟨g, sz, cs⟩]) (A.length + 1 + B.length) g = some ⟨g, sz, cs⟩ := by
  have := look_last (H := A ++ [x] ++ B) (g := g) (sz := sz) (cs := cs)
  simpa only [List.length_append, List.length_singleton] using this
theorem set_end3 {A B : Heap} {x y z : Option Blk} : (A ++ [x] ++ B ++ [y]).set (A.length + 1 + B.length) z = A ++ [x] ++ B ++ [z] := by
  have := set_last (H := A ++ [x] ++ B) (x := y) (y := z)
  simpa only [List.length_append, List.length_singleton] using this
theorem look_mid3 {A B C : Heap} {g sz : Nat} {cs : List CV} : look (A ++ [some ⟨g, sz, cs⟩] ++ B ++ C) A.length g = some ⟨g, sz, cs⟩ := by
  rw [look_app_lt (by simp), look_app_lt (by simp), look_last]
set_option maxHeartbeats 2000000 in
theorem law_GameOf (p : Puz) (h1 : okP' p) : Reads Try.prog 4 [aP p] (bool true) := by
  refine RunCall.cw (c := _) Try.func4 rfl (n := 69) Try.ntmps4 (rs := [.tmp 2]) rfl ?_
  simp only [List.length_cons, List.length_nil, Nat.reduceAdd, Nat.reduceSub, List.replicate, List.cons_append, List.nil_append]
  simp (maxSteps := 1000000) (disch := omega) only [go_sem, Nat.reduceAdd, Nat.reduceMul, Nat.reduceSub, Nat.reduceEqDiff, Nat.reduceLeDiff]
  intro g
  first | refine OpS.rd (szPuzzle_run p 1048576 (by omega) h1) (⟨_, Try.func23, rfl, rfl⟩ : Enters Try.prog 23) rfl rfl rfl rfl ?_ | refine Loud.rd (szPuzzle_run p 1048576 (by omega) h1) (⟨_, Try.func23, rfl, rfl⟩ : Enters Try.prog 23) rfl rfl rfl rfl ?_
  simp (maxSteps := 1000000) (disch := omega) only [go_sem, Nat.reduceAdd, Nat.reduceMul, Nat.reduceSub, Nat.reduceEqDiff, Nat.reduceLeDiff]
  (first | with_reducible refine condK_dec (fun h => ?_) (fun h => ?_) | with_reducible refine condK_ndec (fun h => ?_) (fun h => ?_) | with_reducible refine condK_nb (fun h => ?_) (fun h => ?_) | refine condK_b (fun h => ?_) (fun h => ?_))
  · simp (maxSteps := 1000000) (disch := omega) only [go_sem, Nat.reduceAdd, Nat.reduceMul, Nat.reduceSub, Nat.reduceEqDiff, Nat.reduceLeDiff]
  obtain ⟨hw, _⟩ := szI_ok h
  have hs : smP p := smP_of (n := 1048576) (by omega) (by omega)
  have hwm : wMP p ≤ 2 * wP p := by
    have := wM_le p.rules
    unfold wMP wP
    omega
  obtain ⟨hsg, hwg⟩ := gameOf_facts hs
  simp (maxSteps := 1000000) (disch := omega) only [go_sem, Nat.reduceAdd, Nat.reduceMul, Nat.reduceSub, Nat.reduceEqDiff, Nat.reduceLeDiff]
  first | refine OpS.mk (toPuzzle_run p hs) (⟨_, Try.func25, rfl, rfl⟩ : Enters Try.prog 25) rfl rfl rfl rfl rfl ?_ | refine Loud.mk (toPuzzle_run p hs) (⟨_, Try.func25, rfl, rfl⟩ : Enters Try.prog 25) rfl rfl rfl rfl rfl ?_
  simp (maxSteps := 1000000) (disch := omega) only [go_sem, Nat.reduceAdd, Nat.reduceMul, Nat.reduceSub, Nat.reduceEqDiff, Nat.reduceLeDiff]
  first | refine OpS.mk (sGameOf_run p hs) (⟨_, Try.func24, rfl, rfl⟩ : Enters Try.prog 24) rfl rfl rfl rfl rfl ?_ | refine Loud.mk (sGameOf_run p hs) (⟨_, Try.func24, rfl, rfl⟩ : Enters Try.prog 24) rfl rfl rfl rfl rfl ?_
  simp (maxSteps := 1000000) (disch := omega) only [go_sem, Nat.reduceAdd, Nat.reduceMul, Nat.reduceSub, Nat.reduceEqDiff, Nat.reduceLeDiff]
  intro gw
  refine OpS.mkP (toPuzzle_deep p hs) (⟨_, Try.func25, rfl, rfl⟩ : Enters Try.prog 25) rfl rfl rfl ?_
  intro cs H1 S1 hP1 hS1
  simp only [List.length_cons, List.length_nil] at hS1
  obtain ⟨c1, c2, T1, T2, rfl, eS, k1, k2⟩ := hP1.ex
  simp (maxSteps := 1000000) (disch := omega) only [go_sem, Nat.reduceAdd, Nat.reduceMul, Nat.reduceSub, Nat.reduceEqDiff, Nat.reduceLeDiff, look_last, set_last]
  intro g2
  have hP2 := hP1.app (H' := [some ⟨g2, 3, [.f (.int .i64 p.size), c1, c2]⟩])
  refine OpS.mkDG (GameOf_own p hs) (⟨_, Try.func26, rfl, rfl⟩ : Enters Try.prog 26) rfl rfl (snap_one hP2.snap) ?_
  intro cs H2 S2 hG1 hS2
  simp only [List.length_cons, List.length_append, List.length_nil] at hS2
  obtain ⟨d1, d2, d3, d4, U1, U2, U3, U4, rfl, eU, m1, m2, m3, m4⟩ := hG1.ex
  simp (maxSteps := 1000000) (disch := omega) only [go_sem, Nat.reduceAdd, Nat.reduceMul, Nat.reduceSub, Nat.reduceEqDiff, Nat.reduceLeDiff, look_last, set_last]
  intro g3
  simp (maxSteps := 1000000) (disch := omega) only [go_sem, Nat.reduceAdd, Nat.reduceMul, Nat.reduceSub, Nat.reduceEqDiff, Nat.reduceLeDiff, look_end3, set_end3]
  have hG2 := hG1.app (H' := [some ⟨g3, 5, [.f (.int .i64 (gameOf p).task.size), d1, d2, d3, d4]⟩])
  refine OpS.rdD (eqGame_run (gameOf p) (gameOf p) hsg) (⟨_, Try.func19, rfl, rfl⟩ : Enters Try.prog 19) rfl rfl (snap_two hG2.snap snapD_aG) rfl ?_
  simp (maxSteps := 1000000) (disch := omega) only [go_sem, Nat.reduceAdd, Nat.reduceMul, Nat.reduceSub, Nat.reduceEqDiff, Nat.reduceLeDiff]
  have hP3 := (hP2.app (H' := H2)).app (H' := [some ⟨g3, 5, [.f (.int .i64 (gameOf p).task.size), d1, d2, d3, d4]⟩])
  refine drawP_lF [0, 1, 2] [] none [3, 4] [] foll (by kernel_rfl) ?_
  simp (maxSteps := 1000000) (disch := omega) only [go_sem, Nat.reduceBEq, Bool.true_or, Nat.reduceAdd, Nat.reduceMul, Nat.reduceSub, Nat.reduceEqDiff, Nat.reduceLeDiff]
  rw [look_mid3]
  simp (maxSteps := 1000000) (disch := omega) only [go_sem, Nat.reduceAdd, Nat.reduceMul, Nat.reduceSub, Nat.reduceEqDiff, Nat.reduceLeDiff]
  refine Loud.mk (toPuzzle_run p hs) (⟨_, Try.func25, rfl, rfl⟩ : Enters Try.prog 25) rfl rfl rfl rfl rfl ?_
  simp (maxSteps := 1000000) (disch := omega) only [go_sem, Nat.reduceAdd, Nat.reduceMul, Nat.reduceSub, Nat.reduceEqDiff, Nat.reduceLeDiff]
  refine OpS.rdD (eqPuzzle_run p p hs) (⟨_, Try.func27, rfl, rfl⟩ : Enters Try.prog 27) rfl rfl (snap_two hP3.snap snapD_aP) rfl ?_
  simp (maxSteps := 1000000) (disch := omega) only [go_sem, Nat.reduceAdd, Nat.reduceMul, Nat.reduceSub, Nat.reduceEqDiff, Nat.reduceLeDiff]
  rw [look_mid3]
  simp (maxSteps := 1000000) (disch := omega) only [go_sem, Nat.reduceAdd, Nat.reduceMul, Nat.reduceSub, Nat.reduceEqDiff, Nat.reduceLeDiff]
  refine OpS.run (markPuzzle_deep _ _ p S1 1 hP3 (by omega) hs) (⟨_, Try.func28, rfl, rfl⟩ : Enters Try.prog 28) rfl rfl ?_
  rintro _ H3 ⟨rfl, hp1, f3⟩
  have hG3 := hG2.frm f3 fun i hi hm => by
    have := hS2 i hi
    have := hS1 i hm
    omega
  have hb0 : look H3 0 g = some ⟨g, 1, cP p⟩ := by
    rw [f3.look fun hm => by have := hS1 0 hm; omega]
    exact look_zero
  have hb1 : look H3 1 gw = some ⟨gw, 5, cG (gameOf p)⟩ := by
    rw [f3.look fun hm => by have := hS1 1 hm; omega]
    simp only [go_sem]
  have hb3 : look H3 (H1.length + 1 + H2.length + 1 + 1) g3 = some ⟨g3, 5, [.f (.int .i64 (gameOf p).task.size), d1, d2, d3, d4]⟩ := by
    rw [f3.look fun hm => by have := hS1 _ hm; omega]
    simp only [go_sem]
    exact look_end3
  simp (maxSteps := 1000000) (disch := omega) only [go_sem, lt_no, lt_yes, le_no, le_yes, eq_no, eq_yes, Nat.reduceAdd, Nat.reduceMul, Nat.reduceSub, Nat.reduceEqDiff, Nat.reduceLeDiff]
  rw [hb3]
  simp (maxSteps := 1000000) (disch := omega) only [go_sem, Nat.reduceAdd, Nat.reduceMul, Nat.reduceSub, Nat.reduceEqDiff, Nat.reduceLeDiff]
  rw [hb1]
  simp (maxSteps := 1000000) (disch := omega) only [go_sem, Nat.reduceAdd, Nat.reduceMul, Nat.reduceSub, Nat.reduceEqDiff, Nat.reduceLeDiff]
  refine OpS.rdD (eqGame_run (gameOf p) (gameOf p) hsg) (⟨_, Try.func19, rfl, rfl⟩ : Enters Try.prog 19) rfl rfl (snap_two hG3.snap snapD_aG) rfl ?_
  simp (maxSteps := 1000000) (disch := omega) only [go_sem, Nat.reduceAdd, Nat.reduceMul, Nat.reduceSub, Nat.reduceEqDiff, Nat.reduceLeDiff]
  rw [hb3]
  simp (maxSteps := 1000000) (disch := omega) only [go_sem, Nat.reduceAdd, Nat.reduceMul, Nat.reduceSub, Nat.reduceEqDiff, Nat.reduceLeDiff]
  refine OpS.run (markGame_deep _ _ (gameOf p) S2 1 hG3 (by omega) hsg) (⟨_, Try.func20, rfl, rfl⟩ : Enters Try.prog 20) rfl rfl ?_
  rintro _ H4 ⟨rfl, hG4, f4⟩
  have hb40 : look H4 0 g = some ⟨g, 1, cP p⟩ := by
    rw [f4.look fun hm => by have := hS2 0 hm; omega]
    exact hb0
  have hb41 : look H4 1 gw = some ⟨gw, 5, cG (gameOf p)⟩ := by
    rw [f4.look fun hm => by have := hS2 1 hm; omega]
    exact hb1
  have hb43 : look H4 (H1.length + 1 + H2.length + 1 + 1) g3 = some ⟨g3, 5, [.f (.int .i64 (gameOf p).task.size), d1, d2, d3, d4]⟩ := by
    rw [f4.look fun hm => by have := hS2 _ hm; omega]
    exact hb3
  simp (maxSteps := 1000000) (disch := omega) only [go_sem, Nat.reduceAdd, Nat.reduceMul, Nat.reduceSub, Nat.reduceEqDiff, Nat.reduceLeDiff]
  rw [hb43]
  simp (maxSteps := 1000000) (disch := omega) only [go_sem, Nat.reduceAdd, Nat.reduceMul, Nat.reduceSub, Nat.reduceEqDiff, Nat.reduceLeDiff]
  refine OpS.rdD (heldGame_run (gameOf p) 1 (by omega) hsg) (⟨_, Try.func29, rfl, rfl⟩ : Enters Try.prog 29) rfl rfl (snap_two hG4.snap snapD_int) rfl ?_
  simp (maxSteps := 1000000) (disch := omega) only [go_sem, lt_no, lt_yes, le_no, le_yes, eq_no, eq_yes, Nat.reduceAdd, Nat.reduceMul, Nat.reduceSub, Nat.reduceEqDiff, Nat.reduceLeDiff]
  rw [hb40]
  simp (maxSteps := 1000000) (disch := omega) only [go_sem, Nat.reduceAdd, Nat.reduceMul, Nat.reduceSub, Nat.reduceEqDiff, Nat.reduceLeDiff]
  first | refine OpS.mk (toPuzzle_run p hs) (⟨_, Try.func25, rfl, rfl⟩ : Enters Try.prog 25) rfl rfl rfl rfl rfl ?_ | refine Loud.mk (toPuzzle_run p hs) (⟨_, Try.func25, rfl, rfl⟩ : Enters Try.prog 25) rfl rfl rfl rfl rfl ?_
  simp (maxSteps := 1000000) (disch := omega) only [go_sem, Nat.reduceAdd, Nat.reduceMul, Nat.reduceSub, Nat.reduceEqDiff, Nat.reduceLeDiff]
  first | refine OpS.mk (Reads.ownG (GameOf_own p hs)) (⟨_, Try.func26, rfl, rfl⟩ : Enters Try.prog 26) rfl rfl rfl rfl rfl ?_ | refine Loud.mk (Reads.ownG (GameOf_own p hs)) (⟨_, Try.func26, rfl, rfl⟩ : Enters Try.prog 26) rfl rfl rfl rfl rfl ?_
  simp (maxSteps := 1000000) (disch := omega) only [go_sem, Nat.reduceAdd, Nat.reduceMul, Nat.reduceSub, Nat.reduceEqDiff, Nat.reduceLeDiff]
  intro g4
  have hlen4 : H4.length = H1.length + 1 + H2.length + 1 + 1 + 1 := by
    rw [f4.1, f3.1]
    simp
    omega
  simp (maxSteps := 1000000) (disch := omega) only [go_sem, Nat.reduceAdd, Nat.reduceMul, Nat.reduceSub, Nat.reduceEqDiff, Nat.reduceLeDiff, look_last, set_last]
  rw [look_app_lt (by omega), hb41]
  simp (maxSteps := 1000000) (disch := omega) only [go_sem, Nat.reduceAdd, Nat.reduceMul, Nat.reduceSub, Nat.reduceEqDiff, Nat.reduceLeDiff]
  first | refine OpS.rd (eqGame_run (gameOf p) (gameOf p) hsg) (⟨_, Try.func19, rfl, rfl⟩ : Enters Try.prog 19) rfl rfl rfl rfl ?_ | refine Loud.rd (eqGame_run (gameOf p) (gameOf p) hsg) (⟨_, Try.func19, rfl, rfl⟩ : Enters Try.prog 19) rfl rfl rfl rfl ?_
  simp (maxSteps := 1000000) (disch := omega) only [go_sem, Nat.reduceAdd, Nat.reduceMul, Nat.reduceSub, Nat.reduceEqDiff, Nat.reduceLeDiff]
  rw [look_app_lt (by omega), hb43]
  simp (maxSteps := 1000000) (disch := omega) only [go_sem, Nat.reduceAdd, Nat.reduceMul, Nat.reduceSub, Nat.reduceEqDiff, Nat.reduceLeDiff]
  refine OpS.rdD (heldGame_run (gameOf p) 1 (by omega) hsg) (⟨_, Try.func29, rfl, rfl⟩ : Enters Try.prog 29) rfl rfl (snap_two (hG4.app (H' := [some ⟨g4, 5, cG (gameOf p)⟩])).snap snapD_int) rfl ?_
  simp (maxSteps := 1000000) (disch := omega) only [go_sem, lt_no, lt_yes, le_no, le_yes, eq_no, eq_yes, Nat.reduceAdd, Nat.reduceMul, Nat.reduceSub, Nat.reduceEqDiff, Nat.reduceLeDiff]
end Go.Lg
