/- GpT, GpU, GpQD, cut to what is needed. -/
import Derived.Test.YtapopcmgggfedaaVae3
import Derived.Test.YtapopcmgggfedaaVad7
open Nat(reduceAdd reduceMul reduceSub reduceEqDiff reduceLeDiff)
set_option linter.unusedSimpArgs false
set_option linter.unusedVariables false
set_option maxRecDepth 100000
namespace Go.Lg
open Go.Proofs
def ruleQ (r : Rul) : KV := fun v H => ∃ c S, v = .agg [.f (.int .i64 r.kind), c, .f (.int .i64 r.val)] ∧ OwnI H c r.cells S
theorem Reads.rule {P : Program} {f : FuncId} {args : List AV} {r : Rul} (h : RunCall P f args [] (ruleQ r)) : Reads P f args (aR r) :=
  Reads.ice h fun v H' ⟨c, S, h1, h2⟩ => by
    subst h1
    have e1 : ∀ n : Int, Lg.frzC H' (.f (.int .i64 n)) = some (.f (.int .i64 n)) := fun _ => rfl
    simp only [frzA, List.mapM_cons, List.mapM_nil, frz1, e1, h2.frzC, Option.map_some, Option.pure_def, Option.bind_eq_bind, Option.bind_some]
    try rfl
theorem l1OwnRule_own (r : Rul) (hx : r.cells.length ≤ 2 ^ 40) : RunCall Try.prog 60 [aR r] [] (ruleQ r) := by
  obtain ⟨k, cells, v⟩ := r
  simp only at hx
  rcases Nat.eq_zero_or_pos cells.length with h0 | h0
  · have : cells = [] := List.eq_nil_of_length_eq_zero h0
    subst this
    refine RunCall.cw (c := _) Try.func60 rfl (n := 11) Try.ntmps60 (rs := [.cell 2 58]) rfl ?_
    simp only[List.length_cons,List.length_nil,reduceAdd,reduceSub,List.replicate,List.cons_append,List.nil_append]
    simp(maxSteps:=999999)(disch:=omega)only[go_sem,reduceAdd,reduceMul,reduceSub,reduceEqDiff,reduceLeDiff]
    intro g g1 g2 g3
    show lessQ [some ⟨g, 1, cR ⟨k, [], v⟩⟩, some ⟨g1, 3, [.f (.int .i64 k), .own 3 g3 0 0 none, .f (.int .i64 v)]⟩, some ⟨g2, 3, [.f (.int .i64 k), .own 3 g3 0 0 none, .f (.int .i64 v)]⟩, some ⟨g3, 1, []⟩] (ruleQ ⟨k, [], v⟩) (.agg [.f (.int .i64 k), .own 3 g3 0 0 none, .f (.int .i64 v)])
    exact ⟨_, HLe.refl _, _, _, rfl, .o 3 g3 none [] [] (look_of (b := ⟨g3, 1, []⟩) rfl)⟩
  · refine RunCall.cw (c := _) Try.func60 rfl (n := 11) Try.ntmps60 (rs := [.cell 2 58]) rfl ?_
    simp only[List.length_cons,List.length_nil,reduceAdd,reduceSub,List.replicate,List.cons_append,List.nil_append]
    simp(maxSteps:=999999)(disch:=omega)only[go_sem,reduceAdd,reduceMul,reduceSub,reduceEqDiff,reduceLeDiff]
    intro g g1 g2 g3 g4
    rw [Nat.zero_add]
    exact ⟨_, HLe.refl _, _, _, rfl, .o 3 g4 none cells [] (by rw [List.append_nil]; exact look_of (b := ⟨g4, 1, cl (eI .i64) cells⟩) rfl)⟩
theorem l1OwnRule_run (r : Rul) (hx : r.cells.length ≤ 2 ^ 40) : Reads Try.prog 60 [aR r] (aR r) := Reads.rule (l1OwnRule_own r hx)
theorem l1OwnRuleList_own (rs : List Rul) (hx : smRs rs) : RunCall Try.prog 39 [rsl eR rs] [] (ownQ eR 3 rs) := by
  obtain ⟨hn, hc⟩ := hx
  refine RunCall.cw (c := _) Try.func39 rfl (n := 21) Try.ntmps39 (rs := [.tmp 2]) rfl ?_
  simp only[List.length_cons,List.length_nil,reduceAdd,reduceSub,List.replicate,List.cons_append,List.nil_append]
  simp(maxSteps:=999999)(disch:=omega)only[go_sem,reduceAdd,reduceMul,reduceSub,reduceEqDiff,reduceLeDiff]
  intro g
  refine loop_rule2 (fun (i g : Nat) => rs.length - i) (fun i g => i ≤ rs.length) (fun i g => [.k, .a, .a, .p (.c (.own 0 g 0 i none)), .p (int i), .a, .a, .a, .a, .a, .a, .a, .a, .a, .a, .a, .a, .a, .a, .a, .a]) (fun i g => [some ⟨g, 3, cl eR (rs.take i)⟩]) 0 g
    (Nat.zero_le _) (by simp(maxSteps:=999999)(disch:=omega)only[go_sem,reduceAdd,reduceMul,reduceSub,reduceEqDiff,reduceLeDiff]; rfl) (HLe.refl _) ?_
  intro i g hi
  simp(maxSteps:=999999)(disch:=omega)only[go_sem,reduceAdd,reduceMul,reduceSub,reduceEqDiff,reduceLeDiff]
  ((first|(with_reducible first|refine condK_dec ?_ ?_|refine condK_ndec ?_ ?_|refine condK_nb ?_ ?_)|refine condK_b ?_ ?_) <;> intro h)
  · have h : i < rs.length := by omega
    simp(maxSteps:=999999)(disch:=omega)only[go_sem,reduceAdd,reduceMul,reduceSub,reduceEqDiff,reduceLeDiff]
    first | refine OpS.mk (l1OwnRule_run (nth rs i) (hc _ (nth_mem h))) (⟨_, Try.func60, rfl, rfl⟩ : Enters Try.prog 60) rfl rfl rfl rfl rfl ?_ | refine Loud.mk (l1OwnRule_run (nth rs i) (hc _ (nth_mem h))) (⟨_, Try.func60, rfl, rfl⟩ : Enters Try.prog 60) rfl rfl rfl rfl rfl ?_
    simp(maxSteps:=999999)(disch:=omega)only[go_sem,reduceAdd,reduceMul,reduceSub,reduceEqDiff,reduceLeDiff]
    intro g1 g2
    refine ⟨i + 1, g2, ⟨h, by omega⟩, ⟨⟨rfl, rfl⟩, by push_cast; omega⟩, hle_eq ?_ (hle_nil _)⟩
    rw [take_succ_nth h, cl_append]
    rfl
  · have hi' : i = rs.length := by omega
    simp(maxSteps:=999999)(disch:=omega)only[go_sem,reduceAdd,reduceMul,reduceSub,reduceEqDiff,reduceLeDiff]
    subst hi'
    rw [List.take_length]
    exact lessQ_own (HLe.refl _)
theorem l1OwnRuleList_run (rs : List Rul) (hx : smRs rs) : Reads Try.prog 39 [rsl eR rs] (rsl eR rs) := Reads.own (l1OwnRuleList_own rs hx)
theorem l1OwnPuzzle_run (p : Puz) (hx : smP p) : Reads Try.prog 19 [aP p] (aP p) := by
  obtain ⟨n, gs, rs⟩ := p
  obtain ⟨hg, hr⟩ := hx
  simp only at hg hr
  refine Reads.iced ?_
  rcases Nat.eq_zero_or_pos gs.length with h0 | h0
  · refine RunCall.cw (c := _) Try.func19 rfl (n := 15) Try.ntmps19 (rs := [.cell 2 26]) rfl ?_
    simp only[List.length_cons,List.length_nil,reduceAdd,reduceSub,List.replicate,List.cons_append,List.nil_append]
    simp(maxSteps:=999999)(disch:=omega)only[go_sem,reduceAdd,reduceMul,reduceSub,reduceEqDiff,reduceLeDiff]
    intro g1 g2 g3 g4
    first | refine OpS.mk (l1OwnRuleList_run rs hr) (⟨_, Try.func39, rfl, rfl⟩ : Enters Try.prog 39) rfl rfl rfl rfl rfl ?_ | refine Loud.mk (l1OwnRuleList_run rs hr) (⟨_, Try.func39, rfl, rfl⟩ : Enters Try.prog 39) rfl rfl rfl rfl rfl ?_
    simp(maxSteps:=999999)(disch:=omega)only[go_sem,reduceAdd,reduceMul,reduceSub,reduceEqDiff,reduceLeDiff]
    have : gs = [] := List.eq_nil_of_length_eq_zero h0
    subst this
    exact lessQ_ice (by simp only [go_sem, List.mapM_cons, List.mapM_nil, frzA, frz1, frzC, frz, frz_cl, Option.pure_def, Option.bind_eq_bind, Option.bind_some] <;> rfl)
  · refine RunCall.cw (c := _) Try.func19 rfl (n := 15) Try.ntmps19 (rs := [.cell 2 26]) rfl ?_
    simp only[List.length_cons,List.length_nil,reduceAdd,reduceSub,List.replicate,List.cons_append,List.nil_append]
    simp(maxSteps:=999999)(disch:=omega)only[go_sem,reduceAdd,reduceMul,reduceSub,reduceEqDiff,reduceLeDiff]
    intro g1 g2 g3 g4 g5
    rw [Nat.zero_add]
    first | refine OpS.mk (l1OwnRuleList_run rs hr) (⟨_, Try.func39, rfl, rfl⟩ : Enters Try.prog 39) rfl rfl rfl rfl rfl ?_ | refine Loud.mk (l1OwnRuleList_run rs hr) (⟨_, Try.func39, rfl, rfl⟩ : Enters Try.prog 39) rfl rfl rfl rfl rfl ?_
    simp(maxSteps:=999999)(disch:=omega)only[go_sem,reduceAdd,reduceMul,reduceSub,reduceEqDiff,reduceLeDiff]
    exact lessQ_ice (by simp only [go_sem, List.mapM_cons, List.mapM_nil, frzA, frz1, frzC, frz, frz_cl, Option.pure_def, Option.bind_eq_bind, Option.bind_some] <;> rfl)
end Go.Lg

namespace Go.Lg
open Go.Proofs
attribute [-go_sem] lwF_cons
theorem sGameOf_run (p : Puz) (hx : smP p) : Reads Try.prog 7 [aP p] (aG (gameOf p)) := by
  have hg := hx.1
  have hr := hx.2.1
  refine Reads.iced ?_
  refine RunCall.cw (c := _) Try.func7 rfl (n := 25) Try.ntmps7 (rs := [.cell 2 29]) rfl ?_
  simp only[List.length_cons,List.length_nil,reduceAdd,reduceSub,List.replicate,List.cons_append,List.nil_append]
  simp(maxSteps:=999999)(disch:=omega)only[go_sem,reduceAdd,reduceMul,reduceSub,reduceEqDiff,reduceLeDiff]
  intro g1 g2
  refine OpS.mk (l1OwnPuzzle_run p hx) (⟨_, Try.func19, rfl, rfl⟩ : Enters Try.prog 19) rfl rfl rfl rfl rfl ?_
  simp(maxSteps:=999999)(disch:=omega)only[go_sem,reduceAdd,reduceMul,reduceSub,reduceEqDiff,reduceLeDiff]
  refine OpS.rd (sPuzzleValid_run p hx) (⟨_, Try.func20, rfl, rfl⟩ : Enters Try.prog 20) rfl rfl rfl rfl ?_
  simp(maxSteps:=999999)(disch:=omega)only[go_sem,reduceAdd,reduceMul,reduceSub,reduceEqDiff,reduceLeDiff]
  ((first|(with_reducible first|refine condK_dec ?_ ?_|refine condK_ndec ?_ ?_|refine condK_nb ?_ ?_)|refine condK_b ?_ ?_) <;> intro h)
  · simp(maxSteps:=999999)(disch:=omega)only[go_sem,reduceAdd,reduceMul,reduceSub,reduceEqDiff,reduceLeDiff]
    refine drawP_lF [0, 1, 2, 3, 4, 5, 6, 7, 8, 9, 11, 12, 13, 14, 10] [2, 5, 6, 9] (some 14) [15, 16] [] foll (by kernel_rfl) ?_
    rw [lwF_cons]
    simp(maxSteps:=999999)(disch:=omega)only[go_sem,reduceAdd,reduceMul,reduceSub,reduceEqDiff,reduceLeDiff]
    rw [lwF_cons]
    simp(maxSteps:=999999)(disch:=omega)only[go_sem,reduceAdd,reduceMul,reduceSub,reduceEqDiff,reduceLeDiff]
    rw [lwF_cons]
    simp(maxSteps:=999999)(disch:=omega)only[go_sem,reduceAdd,reduceMul,reduceSub,reduceEqDiff,reduceLeDiff]
    rw [lwF_cons]
    simp(maxSteps:=999999)(disch:=omega)only[go_sem,reduceAdd,reduceMul,reduceSub,reduceEqDiff,reduceLeDiff]
    rw [lwF_cons]
    simp(maxSteps:=999999)(disch:=omega)only[go_sem,reduceAdd,reduceMul,reduceSub,reduceEqDiff,reduceLeDiff]
    rw [lwF_cons]
    simp(maxSteps:=999999)(disch:=omega)only[go_sem,reduceAdd,reduceMul,reduceSub,reduceEqDiff,reduceLeDiff]
    rw [lwF_cons]
    simp(maxSteps:=999999)(disch:=omega)only[go_sem,reduceAdd,reduceMul,reduceSub,reduceEqDiff,reduceLeDiff]
    rw [lwF_cons]
    simp(maxSteps:=999999)(disch:=omega)only[go_sem,reduceAdd,reduceMul,reduceSub,reduceEqDiff,reduceLeDiff]
    rw [lwF_cons]
    simp(maxSteps:=999999)(disch:=omega)only[go_sem,reduceAdd,reduceMul,reduceSub,reduceEqDiff,reduceLeDiff]
    rw [lwF_cons]
    simp(maxSteps:=999999)(disch:=omega)only[go_sem,reduceAdd,reduceMul,reduceSub,reduceEqDiff,reduceLeDiff]
    rw [lwF_cons]
    simp(maxSteps:=999999)(disch:=omega)only[go_sem,reduceAdd,reduceMul,reduceSub,reduceEqDiff,reduceLeDiff]
    rw [lwF_cons]
    simp(maxSteps:=999999)(disch:=omega)only[go_sem,reduceAdd,reduceMul,reduceSub,reduceEqDiff,reduceLeDiff]
    rw [lwF_cons]
    simp(maxSteps:=999999)(disch:=omega)only[go_sem,reduceAdd,reduceMul,reduceSub,reduceEqDiff,reduceLeDiff]
    rw [lwF_cons]
    simp(maxSteps:=999999)(disch:=omega)only[go_sem,reduceAdd,reduceMul,reduceSub,reduceEqDiff,reduceLeDiff]
    rw [lwF_cons]
    simp(maxSteps:=999999)(disch:=omega)only[go_sem,reduceAdd,reduceMul,reduceSub,reduceEqDiff,reduceLeDiff]
    refine ⟨⟨fl_length _, by omega, by omega⟩, ⟨fl_length _, by omega, by omega⟩, fun g => ?_⟩
    unfold gameOf
    rw [if_pos h]
    have e : aG ⟨p, List.replicate p.given.length 0, []⟩ = .agg [.f (.int .i64 p.size), .f (fints p.given), .f (fsl eR p.rules), .f (.sl p.given.length (fl (eI .i64) (List.replicate p.given.length 0))), .f (fints [])] := by
      show AV.agg [_, _, _, .f (.sl (List.replicate p.given.length (0 : Int)).length _), _] = _
      rw [List.length_replicate]
    rw [e]
    have et : List.take (p.given.length * 1) (cl (eI .i64) (List.replicate p.given.length (0 : Int))) = cl (eI .i64) (List.replicate p.given.length 0) := List.take_of_length_le (by rw [cl_length]; simp)
    exact lessQ_ice (by simp only [go_sem, List.mapM_cons, List.mapM_nil, frzA, frz1, frzC, frz, et, frz_cl, Option.pure_def, Option.bind_eq_bind, Option.bind_some] <;> rfl)
  · simp(maxSteps:=999999)(disch:=omega)only[go_sem,reduceAdd,reduceMul,reduceSub,reduceEqDiff,reduceLeDiff]
    unfold gameOf
    rw [if_neg (by rw [h]; simp)]
    exact lessQ_ice (by simp only [go_sem, List.mapM_cons, List.mapM_nil, frzA, frz1, frzC, frz, frz_cl, Option.pure_def, Option.bind_eq_bind, Option.bind_some] <;> rfl)
end Go.Lg

namespace Go.Lg
open Go.Proofs
theorem new_sm' {p : Puz} (h : smP p) : smG (gameOf p) := by
  unfold gameOf
  split
  · exact ⟨h, by rw [List.length_replicate]; exact h.1, by simp⟩
  · exact ⟨⟨by simp, by simp, by simp⟩, by simp, by simp⟩
set_option maxHeartbeats 2000000 in
theorem law_FnGameSolve (code : List Int) (hl : code.length ≤ 9223372036854775807) (hw : ∀ x ∈ code, (Lit.int .u8 x).wf = true) : Reads Try.prog 3 [rsl (eI .u8) code] (bool true) := by
  refine RunCall.cw (c := _) Try.func3 rfl (n := 52) Try.ntmps3 (rs := [.tmp 2]) rfl ?_
  simp only[List.length_cons,List.length_nil,reduceAdd,reduceSub,List.replicate,List.cons_append,List.nil_append]
  simp(maxSteps:=999999)(disch:=omega)only[go_sem,reduceAdd,reduceMul,reduceSub,reduceEqDiff,reduceLeDiff]
  ((first|(with_reducible first|refine condK_dec ?_ ?_|refine condK_ndec ?_ ?_|refine condK_nb ?_ ?_)|refine condK_b ?_ ?_) <;> intro h1)
  · simp(maxSteps:=999999)(disch:=omega)only[go_sem,reduceAdd,reduceMul,reduceSub,reduceEqDiff,reduceLeDiff]
  simp(maxSteps:=999999)(disch:=omega)only[go_sem,reduceAdd,reduceMul,reduceSub,reduceEqDiff,reduceLeDiff]
  refine OpS.mkF (DrawGameOf_run code (wf_u8' hw) (by omega)) (⟨_, Try.func4, rfl, rfl⟩ : Enters Try.prog 4) rfl rfl rfl ?_
  rintro _ ⟨p, rfl, hp⟩
  refine ⟨rfl, rfl, ?_⟩
  have hs := hp.sm
  have hgl := hp.1
  have hsG := new_sm' hs
  have hbb : decide (gameOf p = gameOf p) = true := decide_eq_true rfl
  simp(maxSteps:=999999)(disch:=omega)only[go_sem,reduceAdd,reduceMul,reduceSub,reduceEqDiff,reduceLeDiff]
  intro g
  first | refine OpS.mk (Reads.ownG (GameOf_own p hs)) (⟨_, Try.func5, rfl, rfl⟩ : Enters Try.prog 5) rfl rfl rfl rfl rfl ?_ | refine Loud.mk (Reads.ownG (GameOf_own p hs)) (⟨_, Try.func5, rfl, rfl⟩ : Enters Try.prog 5) rfl rfl rfl rfl rfl ?_
  simp(maxSteps:=999999)(disch:=omega)only[go_sem,reduceAdd,reduceMul,reduceSub,reduceEqDiff,reduceLeDiff]
  intro g2
  refine drawP_q foll (by kernel_rfl) ?_
  simp(maxSteps:=999999)(disch:=omega)only[go_sem,Nat.reduceBEq,Bool.true_or,reduceAdd,reduceMul,reduceSub,reduceEqDiff,reduceLeDiff]
  refine quietW.mk (sGameOf_run p hs) (⟨_, Try.func7, rfl, rfl⟩ : Enters Try.prog 7) rfl rfl rfl rfl rfl ?_
  simp(maxSteps:=999999)(disch:=omega)only[go_sem,reduceAdd,reduceMul,reduceSub,reduceEqDiff,reduceLeDiff]
  refine quietW.rd (sameGame_run (gameOf p) (gameOf p) hsG) (⟨_, Try.func6, rfl, rfl⟩ : Enters Try.prog 6) rfl rfl rfl rfl ?_
  simp(maxSteps:=999999)(disch:=omega)only[go_sem,reduceAdd,reduceMul,reduceSub,reduceEqDiff,reduceLeDiff]
  first | refine OpS.mk (GradePuzzle_run p hs) (⟨_, Try.func8, rfl, rfl⟩ : Enters Try.prog 8) rfl rfl rfl rfl rfl ?_ | refine Loud.mk (GradePuzzle_run p hs) (⟨_, Try.func8, rfl, rfl⟩ : Enters Try.prog 8) rfl rfl rfl rfl rfl ?_
  simp(maxSteps:=999999)(disch:=omega)only[go_sem,reduceAdd,reduceMul,reduceSub,reduceEqDiff,reduceLeDiff]
  by_cases hgr : 1 ≤ gradeV p ∧ gradeV p ≤ 4
  rotate_left
  · by_cases h1 : gradeV p < 1
    · have d1 : decide (gradeV p < 1) = true := decide_eq_true h1
      simp(maxSteps:=999999)(disch:=omega)only[go_sem,reduceAdd,reduceMul,reduceSub,reduceEqDiff,reduceLeDiff, d1]
      first | refine OpS.rd (aliveF_run) (⟨_, Try.func9, rfl, rfl⟩ : Enters Try.prog 9) rfl rfl rfl rfl ?_ | refine Loud.rd (aliveF_run) (⟨_, Try.func9, rfl, rfl⟩ : Enters Try.prog 9) rfl rfl rfl rfl ?_
      simp(maxSteps:=999999)(disch:=omega)only[go_sem,reduceAdd,reduceMul,reduceSub,reduceEqDiff,reduceLeDiff]
    · have d1 : decide (gradeV p < 1) = false := decide_eq_false h1
      have d2 : decide (4 < gradeV p) = true := decide_eq_true (by omega)
      simp(maxSteps:=999999)(disch:=omega)only[go_sem,reduceAdd,reduceMul,reduceSub,reduceEqDiff,reduceLeDiff, d1, d2]
      first | refine OpS.rd (aliveF_run) (⟨_, Try.func9, rfl, rfl⟩ : Enters Try.prog 9) rfl rfl rfl rfl ?_ | refine Loud.rd (aliveF_run) (⟨_, Try.func9, rfl, rfl⟩ : Enters Try.prog 9) rfl rfl rfl rfl ?_
      simp(maxSteps:=999999)(disch:=omega)only[go_sem,reduceAdd,reduceMul,reduceSub,reduceEqDiff,reduceLeDiff]
  have d1 : decide (gradeV p < 1) = false := decide_eq_false (by omega)
  have d2 : decide (4 < gradeV p) = false := decide_eq_false (by omega)
  obtain ⟨k1, k2⟩ := solve_facts hgr
  have hgb : gridFilled p.given p.size ≤ 2 ^ 40 ∧ -1 ≤ gridFilled p.given p.size := by
    unfold gridFilled
    split
    · have : p.given.countP (fun v => decide (0 < v)) ≤ p.given.length := List.countP_le_length
      omega
    · omega
  have hfl : (folV p p.given).length ≤ 2 ^ 40 := by have := folV_len p p.given; omega
  simp(maxSteps:=999999)(disch:=omega)only[go_sem,reduceAdd,reduceMul,reduceSub,reduceEqDiff,reduceLeDiff, d1, d2]
  first | refine OpS.mk (folQ_rd (FollowHints_own p p.given hs (by omega))) (⟨_, Try.func10, rfl, rfl⟩ : Enters Try.prog 10) rfl rfl rfl rfl rfl ?_ | refine Loud.mk (folQ_rd (FollowHints_own p p.given hs (by omega))) (⟨_, Try.func10, rfl, rfl⟩ : Enters Try.prog 10) rfl rfl rfl rfl rfl ?_
  simp(maxSteps:=999999)(disch:=omega)only[go_sem,reduceAdd,reduceMul,reduceSub,reduceEqDiff,reduceLeDiff]
  refine drawP_q foll (by kernel_rfl) ?_
  simp(maxSteps:=999999)(disch:=omega)only[go_sem,Nat.reduceBEq,Bool.true_or,reduceAdd,reduceMul,reduceSub,reduceEqDiff,reduceLeDiff]
  refine quietW.rd (PuzzleSolved_gen p (folV p p.given) hs hfl) (⟨_, Try.func11, rfl, rfl⟩ : Enters Try.prog 11) rfl rfl rfl rfl ?_
  simp(maxSteps:=999999)(disch:=omega)only[go_sem,reduceAdd,reduceMul,reduceSub,reduceEqDiff,reduceLeDiff]
  rw [k1]
  simp(maxSteps:=999999)(disch:=omega)only[go_sem,reduceAdd,reduceMul,reduceSub,reduceEqDiff,reduceLeDiff]
  refine quietW.rd (GridFilled_run p.given p.size (by omega)) (⟨_, Try.func12, rfl, rfl⟩ : Enters Try.prog 12) rfl rfl rfl rfl ?_
  simp(maxSteps:=999999)(disch:=omega)only[go_sem,reduceAdd,reduceMul,reduceSub,reduceEqDiff,reduceLeDiff]
  first | exact k2 | (rw [wrap_of (by omega)]; exact k2)
end Go.Lg
