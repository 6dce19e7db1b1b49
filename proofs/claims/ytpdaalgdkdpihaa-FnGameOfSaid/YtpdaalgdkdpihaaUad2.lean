/- GpS, GpT, GpU, GpN, cut to what is needed. -/
import Derived.Test.YtpdaalgdkdpihaaUad1
import Derived.Test.YtpdaalgdkdpihaaUad0
import Derived.Test.YtpdaalgdkdpihaaUab5
import Derived.Test.YtpdaalgdkdpihaaUab3
open Nat(reduceAdd reduceMul reduceSub reduceEqDiff reduceLeDiff)
set_option linter.unusedSimpArgs false
set_option linter.unusedVariables false
set_option maxRecDepth 100000
namespace Go.Lg
open Go.Proofs
def wkC : CV → CV
  | .f .nil => .f (.sl 0 [])
  | c => c
theorem VC.wk {w : World} {X : Cx} {H : Heap} {c : CV} {v : Value} (h : VC w X H c v) : VC w X H (wkC c) v := by
  unfold wkC
  split
  · have h : VF w X.I .nil v := h
    cases h
    exact VF.sl0 none 0
  · exact h
theorem VA.wkAgg {w : World} {X : Cx} {H : Heap} {cs : List CV} {u : Value} (h : VA w X H (.agg cs) u) : VA w X H (.agg (cs.map wkC)) u := by
  cases h with
  | agg _ vs hs h =>
    refine .agg _ vs (by simpa using hs) fun j hj => ?_
    obtain ⟨x, h1, h2⟩ := h j (by simpa using hj)
    refine ⟨x, h1, ?_⟩
    rw [List.getElem_map]
    exact h2.wk
theorem OwnI.wkc {H : Heap} {c : CV} {xs : List Int} {S : List Nat} (h : OwnI H c xs S) : wkC c = c := by cases h <;> rfl
theorem OwnR.wkc {H : Heap} {c : CV} {xs : List Rul} {S : List Nat} (h : OwnR H c xs S) : wkC c = c := by cases h <;> rfl
def gamQ0 (q : Gam) : KV := fun v H => ∃ cs S, v = .agg cs ∧ OwnG H (cs.map wkC) q S
theorem RunCall.gam {P : Program} {f : FuncId} {args : List AV} {H : Heap} {q : Gam} (h : RunCall P f args H (gamQ0 q)) : RunCall P f args H (gamQ q) :=
  h.wk fun v H' ⟨cs, S, h1, h2⟩ => ⟨_, fun w X u hu => by subst h1; exact hu.wkAgg, _, S, rfl, h2⟩
def gameOf (p : Puz) : Gam := if puzzleValid p = true then ⟨p, List.replicate p.given.length 0, []⟩ else ⟨⟨0, [], []⟩, [], []⟩
theorem GameOf_own (p : Puz) (hx : smP p) : RunCall Try.prog 26 [aP p] [] (gamQ (gameOf p)) := by
  refine RunCall.gam ?_
  have hg := hx.1
  refine RunCall.cw (c := _) Try.func26 rfl (n := 14) Try.ntmps26 (rs := [.cell 2 34]) rfl ?_
  simp only [List.length_cons, List.length_nil, Nat.reduceAdd, Nat.reduceSub, List.replicate, List.cons_append, List.nil_append]
  simp(maxSteps:=999999)(disch:=omega)only[go_sem,reduceAdd,reduceMul,reduceSub,reduceEqDiff,reduceLeDiff]
  intro g1 g2
  refine OpS.rd (PuzzleValid_run p hx) (⟨_, Try.func55, rfl, rfl⟩ : Enters Try.prog 55) rfl rfl rfl rfl ?_
  simp(maxSteps:=999999)(disch:=omega)only[go_sem,reduceAdd,reduceMul,reduceSub,reduceEqDiff,reduceLeDiff]
  ((first | with_reducible refine condK_dec ?_ ?_ | with_reducible refine condK_ndec ?_ ?_ | with_reducible refine condK_nb ?_ ?_ | refine condK_b ?_ ?_) <;> intro h)
  · simp(maxSteps:=999999)(disch:=omega)only[go_sem,reduceAdd,reduceMul,reduceSub,reduceEqDiff,reduceLeDiff]
    refine drawP_lF [0, 2, 3, 4, 5, 1] [] (some 5) [6, 7] [] foll (by kernel_rfl) ?_
    simp (maxSteps := 1000000) (disch := omega) only [go_sem, Nat.reduceBEq, Bool.true_or, Nat.reduceAdd, Nat.reduceMul, Nat.reduceSub, Nat.reduceEqDiff, Nat.reduceLeDiff]
    refine Loud.mkP (copyPuzzle_puz p hx) (⟨_, Try.func56, rfl, rfl⟩ : Enters Try.prog 56) rfl rfl rfl ?_
    rintro _ H1 _ ⟨⟨c1, c2, S1, S2, rfl, rfl, k1, k2⟩, kn⟩ hS
    simp(maxSteps:=999999)(disch:=omega)only[go_sem,reduceAdd,reduceMul,reduceSub,reduceEqDiff,reduceLeDiff]
    intro g
    simp only [List.length_append, List.length_cons, List.length_nil] at hS
    have hz : OwnI (some ⟨g1, 1, cP p⟩ :: some ⟨g2, 5, [.f (.int .i64 p.size), c1, c2, .own (H1.length + 1 + 1) g 0 p.given.length none, .f .nil]⟩ :: (H1 ++ [some ⟨g, 1, cl (eI .i64) (List.replicate p.given.length 0)⟩]))
        (.own (H1.length + 1 + 1) g 0 p.given.length none) (List.replicate p.given.length 0) [H1.length + 1 + 1] := by
      have := OwnI.o (H := some ⟨g1, 1, cP p⟩ :: some ⟨g2, 5, [.f (.int .i64 p.size), c1, c2, .own (H1.length + 1 + 1) g 0 p.given.length none, .f .nil]⟩ :: (H1 ++ [some ⟨g, 1, cl (eI .i64) (List.replicate p.given.length 0)⟩])) (H1.length + 1 + 1) g none (List.replicate p.given.length 0) [] (by rw [List.append_nil]; exact look_of (b := ⟨g, 1, cl (eI .i64) (List.replicate p.given.length 0)⟩) (by simp))
      rw [List.length_replicate] at this
      exact this
    refine ⟨_, HLe.refl _, _, S1 ++ (S2 ++ ([H1.length + 1 + 1] ++ [])), rfl, ?_⟩
    unfold gameOf
    rw [if_pos h]
    simp only [List.map_cons, List.map_nil, k1.wkc, k2.wkc, hz.wkc]
    refine OwnG.of (p := p) (S1 := S1) (S2 := S2) ⟨⟨_, _, _, _, rfl, rfl, k1.same fun k hk => ?_, k2.same fun k hk => ?_⟩, kn⟩ hz .e (nodup4 (n1 := H1.length + 2) (n2 := H1.length + 3) kn (by simp) (by simp) (fun k hk => ?_) (fun k hk => ?_) (by simp) (by omega))
    · have := hS k (by simp [hk])
      simp only [List.cons_append, List.nil_append]
      rw [cons2 (by omega), cons2 (by omega), List.getElem?_append_left (by omega)]
    · have := hS k (by simp [hk])
      simp only [List.cons_append, List.nil_append]
      rw [cons2 (by omega), cons2 (by omega), List.getElem?_append_left (by omega)]
    · have := hS k hk; omega
    · simp at hk; omega
  · simp(maxSteps:=999999)(disch:=omega)only[go_sem,reduceAdd,reduceMul,reduceSub,reduceEqDiff,reduceLeDiff]
    refine ⟨_, HLe.refl _, _, [], rfl, ?_⟩
    unfold gameOf
    rw [if_neg (by rw [h]; simp)]
    exact ⟨⟨_, _, _, _, [], [], [], [], rfl, rfl, .e, .e, .e, .e⟩, by simp⟩
end Go.Lg

set_option linter.unusedSimpArgs false
set_option linter.unusedVariables false
set_option maxRecDepth 100000
namespace Go.Lg
open Go.Proofs
def ruleQ (r : Rul) : KV := fun v H => ∃ c S, v = .agg [.f (.int .i64 r.kind), c, .f (.int .i64 r.val)] ∧ OwnI H c r.cells S
theorem Reads.rule {P : Program} {f : FuncId} {args : List AV} {r : Rul} (h : RunCall P f args [] (ruleQ r)) : Reads P f args (aR r) :=
  Reads.ice h fun v H' ⟨c, S, h1, h2⟩ => by
    subst h1
    have e1 : ∀ n : Int, Lg.frzC H' (.f (.int .i64 n)) = some (.f (.int .i64 n)) := fun _ => rfl
    simp only [frzA, List.mapM_cons, List.mapM_nil, frz1, e1, h2.frzC, Option.map_some, Option.pure_def, Option.bind_eq_bind, Option.bind_some]
    try rfl
theorem l1OwnRule_own (r : Rul) (hx : r.cells.length ≤ 2 ^ 40) : RunCall Try.prog 94 [aR r] [] (ruleQ r) := by
  obtain ⟨k, cells, v⟩ := r
  simp only at hx
  rcases Nat.eq_zero_or_pos cells.length with h0 | h0
  · have : cells = [] := List.eq_nil_of_length_eq_zero h0
    subst this
    refine RunCall.cw (c := _) Try.func94 rfl (n := 11) Try.ntmps94 (rs := [.cell 2 81]) rfl ?_
    simp only [List.length_cons, List.length_nil, Nat.reduceAdd, Nat.reduceSub, List.replicate, List.cons_append, List.nil_append]
    simp(maxSteps:=999999)(disch:=omega)only[go_sem,reduceAdd,reduceMul,reduceSub,reduceEqDiff,reduceLeDiff]
    intro g g1 g2 g3
    show lessQ [some ⟨g, 1, cR ⟨k, [], v⟩⟩, some ⟨g1, 3, [.f (.int .i64 k), .own 3 g3 0 0 none, .f (.int .i64 v)]⟩, some ⟨g2, 3, [.f (.int .i64 k), .own 3 g3 0 0 none, .f (.int .i64 v)]⟩, some ⟨g3, 1, []⟩] (ruleQ ⟨k, [], v⟩) (.agg [.f (.int .i64 k), .own 3 g3 0 0 none, .f (.int .i64 v)])
    exact ⟨_, HLe.refl _, _, _, rfl, .o 3 g3 none [] [] (look_of (b := ⟨g3, 1, []⟩) rfl)⟩
  · refine RunCall.cw (c := _) Try.func94 rfl (n := 11) Try.ntmps94 (rs := [.cell 2 81]) rfl ?_
    simp only [List.length_cons, List.length_nil, Nat.reduceAdd, Nat.reduceSub, List.replicate, List.cons_append, List.nil_append]
    simp(maxSteps:=999999)(disch:=omega)only[go_sem,reduceAdd,reduceMul,reduceSub,reduceEqDiff,reduceLeDiff]
    intro g g1 g2 g3 g4
    rw [Nat.zero_add]
    exact ⟨_, HLe.refl _, _, _, rfl, .o 3 g4 none cells [] (by rw [List.append_nil]; exact look_of (b := ⟨g4, 1, cl (eI .i64) cells⟩) rfl)⟩
theorem l1OwnRule_run (r : Rul) (hx : r.cells.length ≤ 2 ^ 40) : Reads Try.prog 94 [aR r] (aR r) := Reads.rule (l1OwnRule_own r hx)
theorem l1OwnRuleList_own (rs : List Rul) (hx : smRs rs) : RunCall Try.prog 75 [rsl eR rs] [] (ownQ eR 3 rs) := by
  obtain ⟨hn, hc⟩ := hx
  refine RunCall.cw (c := _) Try.func75 rfl (n := 21) Try.ntmps75 (rs := [.tmp 2]) rfl ?_
  simp only [List.length_cons, List.length_nil, Nat.reduceAdd, Nat.reduceSub, List.replicate, List.cons_append, List.nil_append]
  simp(maxSteps:=999999)(disch:=omega)only[go_sem,reduceAdd,reduceMul,reduceSub,reduceEqDiff,reduceLeDiff]
  intro g
  refine loop_rule2 (fun (i g : Nat) => rs.length - i) (fun i g => i ≤ rs.length) (fun i g => [.k, .a, .a, .p (.c (.own 0 g 0 i none)), .p (int i), .a, .a, .a, .a, .a, .a, .a, .a, .a, .a, .a, .a, .a, .a, .a, .a]) (fun i g => [some ⟨g, 3, cl eR (rs.take i)⟩]) 0 g
    (Nat.zero_le _) (by simp(maxSteps:=999999)(disch:=omega)only[go_sem,reduceAdd,reduceMul,reduceSub,reduceEqDiff,reduceLeDiff]; rfl) (HLe.refl _) ?_
  intro i g hi
  simp(maxSteps:=999999)(disch:=omega)only[go_sem,reduceAdd,reduceMul,reduceSub,reduceEqDiff,reduceLeDiff]
  ((first | with_reducible refine condK_dec ?_ ?_ | with_reducible refine condK_ndec ?_ ?_ | with_reducible refine condK_nb ?_ ?_ | refine condK_b ?_ ?_) <;> intro h)
  · have h : i < rs.length := by omega
    simp(maxSteps:=999999)(disch:=omega)only[go_sem,reduceAdd,reduceMul,reduceSub,reduceEqDiff,reduceLeDiff]
    first | refine OpS.mk (l1OwnRule_run (nth rs i) (hc _ (nth_mem h))) (⟨_, Try.func94, rfl, rfl⟩ : Enters Try.prog 94) rfl rfl rfl rfl rfl ?_ | refine Loud.mk (l1OwnRule_run (nth rs i) (hc _ (nth_mem h))) (⟨_, Try.func94, rfl, rfl⟩ : Enters Try.prog 94) rfl rfl rfl rfl rfl ?_
    simp(maxSteps:=999999)(disch:=omega)only[go_sem,reduceAdd,reduceMul,reduceSub,reduceEqDiff,reduceLeDiff]
    intro g1 g2
    refine ⟨i + 1, g2, ⟨h, by omega⟩, ⟨⟨rfl, rfl⟩, by push_cast; omega⟩, hle_eq ?_ (hle_nil _)⟩
    rw [take_succ_nth h, cl_append]
    rfl
  · have hi' : i = rs.length := by omega
    simp(maxSteps:=999999)(disch:=omega)only[go_sem,reduceAdd,reduceMul,reduceSub,reduceEqDiff,reduceLeDiff]
    subst hi'
    rw [List.take_length]
    exact lessQ_own (HLe.refl _)
theorem l1OwnRuleList_run (rs : List Rul) (hx : smRs rs) : Reads Try.prog 75 [rsl eR rs] (rsl eR rs) := Reads.own (l1OwnRuleList_own rs hx)
theorem l1OwnPuzzle_run (p : Puz) (hx : smP p) : Reads Try.prog 53 [aP p] (aP p) := by
  obtain ⟨n, gs, rs⟩ := p
  obtain ⟨hg, hr⟩ := hx
  simp only at hg hr
  refine Reads.iced ?_
  rcases Nat.eq_zero_or_pos gs.length with h0 | h0
  · refine RunCall.cw (c := _) Try.func53 rfl (n := 15) Try.ntmps53 (rs := [.cell 2 32]) rfl ?_
    simp only [List.length_cons, List.length_nil, Nat.reduceAdd, Nat.reduceSub, List.replicate, List.cons_append, List.nil_append]
    simp(maxSteps:=999999)(disch:=omega)only[go_sem,reduceAdd,reduceMul,reduceSub,reduceEqDiff,reduceLeDiff]
    intro g1 g2 g3 g4
    first | refine OpS.mk (l1OwnRuleList_run rs hr) (⟨_, Try.func75, rfl, rfl⟩ : Enters Try.prog 75) rfl rfl rfl rfl rfl ?_ | refine Loud.mk (l1OwnRuleList_run rs hr) (⟨_, Try.func75, rfl, rfl⟩ : Enters Try.prog 75) rfl rfl rfl rfl rfl ?_
    simp(maxSteps:=999999)(disch:=omega)only[go_sem,reduceAdd,reduceMul,reduceSub,reduceEqDiff,reduceLeDiff]
    have : gs = [] := List.eq_nil_of_length_eq_zero h0
    subst this
    exact lessQ_ice (by simp only [go_sem, List.mapM_cons, List.mapM_nil, frzA, frz1, frzC, frz, frz_cl, Option.pure_def, Option.bind_eq_bind, Option.bind_some] <;> rfl)
  · refine RunCall.cw (c := _) Try.func53 rfl (n := 15) Try.ntmps53 (rs := [.cell 2 32]) rfl ?_
    simp only [List.length_cons, List.length_nil, Nat.reduceAdd, Nat.reduceSub, List.replicate, List.cons_append, List.nil_append]
    simp(maxSteps:=999999)(disch:=omega)only[go_sem,reduceAdd,reduceMul,reduceSub,reduceEqDiff,reduceLeDiff]
    intro g1 g2 g3 g4 g5
    rw [Nat.zero_add]
    first | refine OpS.mk (l1OwnRuleList_run rs hr) (⟨_, Try.func75, rfl, rfl⟩ : Enters Try.prog 75) rfl rfl rfl rfl rfl ?_ | refine Loud.mk (l1OwnRuleList_run rs hr) (⟨_, Try.func75, rfl, rfl⟩ : Enters Try.prog 75) rfl rfl rfl rfl rfl ?_
    simp(maxSteps:=999999)(disch:=omega)only[go_sem,reduceAdd,reduceMul,reduceSub,reduceEqDiff,reduceLeDiff]
    exact lessQ_ice (by simp only [go_sem, List.mapM_cons, List.mapM_nil, frzA, frz1, frzC, frz, frz_cl, Option.pure_def, Option.bind_eq_bind, Option.bind_some] <;> rfl)
end Go.Lg

set_option linter.unusedSimpArgs false
set_option linter.unusedVariables false
set_option maxRecDepth 100000
namespace Go.Lg
open Go.Proofs
attribute [-go_sem] lwF_cons
theorem sGameOf_run (p : Puz) (hx : smP p) : Reads Try.prog 24 [aP p] (aG (gameOf p)) := by
  have hg := hx.1
  have hr := hx.2.1
  refine Reads.iced ?_
  refine RunCall.cw (c := _) Try.func24 rfl (n := 25) Try.ntmps24 (rs := [.cell 2 34]) rfl ?_
  simp only [List.length_cons, List.length_nil, Nat.reduceAdd, Nat.reduceSub, List.replicate, List.cons_append, List.nil_append]
  simp(maxSteps:=999999)(disch:=omega)only[go_sem,reduceAdd,reduceMul,reduceSub,reduceEqDiff,reduceLeDiff]
  intro g1 g2
  refine OpS.mk (l1OwnPuzzle_run p hx) (⟨_, Try.func53, rfl, rfl⟩ : Enters Try.prog 53) rfl rfl rfl rfl rfl ?_
  simp(maxSteps:=999999)(disch:=omega)only[go_sem,reduceAdd,reduceMul,reduceSub,reduceEqDiff,reduceLeDiff]
  refine OpS.rd (sPuzzleValid_run p hx) (⟨_, Try.func36, rfl, rfl⟩ : Enters Try.prog 36) rfl rfl rfl rfl ?_
  simp(maxSteps:=999999)(disch:=omega)only[go_sem,reduceAdd,reduceMul,reduceSub,reduceEqDiff,reduceLeDiff]
  ((first | with_reducible refine condK_dec ?_ ?_ | with_reducible refine condK_ndec ?_ ?_ | with_reducible refine condK_nb ?_ ?_ | refine condK_b ?_ ?_) <;> intro h)
  · simp(maxSteps:=999999)(disch:=omega)only[go_sem,reduceAdd,reduceMul,reduceSub,reduceEqDiff,reduceLeDiff]
    refine drawP_lF [0, 1, 2, 3, 4, 5, 6, 7, 8, 9, 11, 12, 13, 14, 10] [2, 5, 6, 9] (some 14) [15, 16] [] foll (by kernel_rfl) ?_
    rw [lwF_cons]
    simp(maxSteps:=999999)(disch:=omega)only[go_sem,reduceAdd,reduceMul,reduceSub,reduceEqDiff,reduceLeDiff]
    rw [lwF_cons]
    simp(maxSteps:=999999)(disch:=omega)only[go_sem,reduceAdd,reduceMul,reduceSub,reduceEqDiff,reduceLeDiff]
    rw [lwF_cons]
    simp(maxSteps:=999999)(disch:=omega)only[go_sem,reduceAdd,reduceMul,reduceSub,reduceEqDiff,reduceLeDiff]
    rw [lwF_cons]
    simp(maxSteps:=999999)(disch:=omega)only[go_sem,reduceAdd,reduceMul,reduceSub,reduceEqDiff,reduceLeDiff]
    rw [lwF_cons]
    simp(maxSteps:=999999)(disch:=omega)only[go_sem,reduceAdd,reduceMul,reduceSub,reduceEqDiff,reduceLeDiff]
    rw [lwF_cons]
    simp(maxSteps:=999999)(disch:=omega)only[go_sem,reduceAdd,reduceMul,reduceSub,reduceEqDiff,reduceLeDiff]
    rw [lwF_cons]
    simp(maxSteps:=999999)(disch:=omega)only[go_sem,reduceAdd,reduceMul,reduceSub,reduceEqDiff,reduceLeDiff]
    rw [lwF_cons]
    simp(maxSteps:=999999)(disch:=omega)only[go_sem,reduceAdd,reduceMul,reduceSub,reduceEqDiff,reduceLeDiff]
    rw [lwF_cons]
    simp(maxSteps:=999999)(disch:=omega)only[go_sem,reduceAdd,reduceMul,reduceSub,reduceEqDiff,reduceLeDiff]
    rw [lwF_cons]
    simp(maxSteps:=999999)(disch:=omega)only[go_sem,reduceAdd,reduceMul,reduceSub,reduceEqDiff,reduceLeDiff]
    rw [lwF_cons]
    simp(maxSteps:=999999)(disch:=omega)only[go_sem,reduceAdd,reduceMul,reduceSub,reduceEqDiff,reduceLeDiff]
    rw [lwF_cons]
    simp(maxSteps:=999999)(disch:=omega)only[go_sem,reduceAdd,reduceMul,reduceSub,reduceEqDiff,reduceLeDiff]
    rw [lwF_cons]
    simp(maxSteps:=999999)(disch:=omega)only[go_sem,reduceAdd,reduceMul,reduceSub,reduceEqDiff,reduceLeDiff]
    rw [lwF_cons]
    simp(maxSteps:=999999)(disch:=omega)only[go_sem,reduceAdd,reduceMul,reduceSub,reduceEqDiff,reduceLeDiff]
    rw [lwF_cons]
    simp(maxSteps:=999999)(disch:=omega)only[go_sem,reduceAdd,reduceMul,reduceSub,reduceEqDiff,reduceLeDiff]
    refine ⟨⟨fl_length _, by omega, by omega⟩, ⟨fl_length _, by omega, by omega⟩, fun g => ?_⟩
    unfold gameOf
    rw [if_pos h]
    have e : aG ⟨p, List.replicate p.given.length 0, []⟩ = .agg [.f (.int .i64 p.size), .f (fints p.given), .f (fsl eR p.rules), .f (.sl p.given.length (fl (eI .i64) (List.replicate p.given.length 0))), .f (fints [])] := by
      show AV.agg [_, _, _, .f (.sl (List.replicate p.given.length (0 : Int)).length _), _] = _
      rw [List.length_replicate]
    rw [e]
    have et : List.take (p.given.length * 1) (cl (eI .i64) (List.replicate p.given.length (0 : Int))) = cl (eI .i64) (List.replicate p.given.length 0) := List.take_of_length_le (by rw [cl_length]; simp)
    exact lessQ_ice (by simp only [go_sem, List.mapM_cons, List.mapM_nil, frzA, frz1, frzC, frz, et, frz_cl, Option.pure_def, Option.bind_eq_bind, Option.bind_some] <;> rfl)
  · simp(maxSteps:=999999)(disch:=omega)only[go_sem,reduceAdd,reduceMul,reduceSub,reduceEqDiff,reduceLeDiff]
    unfold gameOf
    rw [if_neg (by rw [h]; simp)]
    exact lessQ_ice (by simp only [go_sem, List.mapM_cons, List.mapM_nil, frzA, frz1, frzC, frz, frz_cl, Option.pure_def, Option.bind_eq_bind, Option.bind_some] <;> rfl)
end Go.Lg

set_option linter.unusedSimpArgs false
set_option linter.unusedVariables false
set_option maxRecDepth 100000
namespace Go.Lg
open Go.Proofs
def bothG (a b : List Int) : List Int := (List.range a.length).map fun i : Nat => max (nth a i) (nth b i)
def bothOk (a b : List Int) : Bool := decide (∀ i : Nat, i < a.length → ¬ (0 < nth a i ∧ 0 < nth b i ∧ nth a i ≠ nth b i))
theorem bothG_length (a b : List Int) : (bothG a b).length = a.length := by simp [bothG]
theorem bothG_nth {a b : List Int} {i : Nat} (h : i < a.length) : nth (bothG a b) i = max (nth a i) (nth b i) := by
  rw [nth_eq (by rw [bothG_length]; omega)]; simp [bothG]
def bothQ (a b : List Int) : KV := fun r H => (bothOk a b = true → ∃ g, r = .tup [.c (.own 0 g 0 a.length none), bool true] ∧ H = [some ⟨g, 1, cl (eI .i64) (bothG a b)⟩]) ∧ (bothOk a b = false → r = .tup [.c (.f (.sl 0 [])), bool false] ∧ H = [])
theorem bothGrids_own (a b : List Int) (hx : a.length ≤ 2 ^ 40) (hb : a.length = b.length) : RunCall Try.prog 51 [ints a, ints b] [] (bothQ a b) := by
  refine RunCall.nz ?_
  refine RunCall.cw (c := _) Try.func51 rfl (n := 47) Try.ntmps51 (rs := [.tmp 4, .tmp 5]) rfl ?_
  simp only [List.length_cons, List.length_nil, Nat.reduceAdd, Nat.reduceSub, List.replicate, List.cons_append, List.nil_append]
  simp(maxSteps:=999999)(disch:=omega)only[go_sem,reduceAdd,reduceMul,reduceSub,reduceEqDiff,reduceLeDiff]
  intro g
  refine loop_rule2 (fun (i : Nat) (ys : List Int) => a.length - i) (fun i ys => i ≤ a.length ∧ ys.length = a.length ∧ (∀ j : Nat, j < i → nth ys j = max (nth a j) (nth b j)) ∧ ∀ j : Nat, j < i → ¬ (0 < nth a j ∧ 0 < nth b j ∧ nth a j ≠ nth b j)) (fun i _ => [.a, .k, .a, .a, .a, .a, .k, .a, .a, .a, .a, .a, .k, .k, .p (int i), .a, .a, .a, .a, .a, .a, .a, .a, .a, .a, .a, .a, .a, .a, .a, .a, .a, .a, .a, .a, .a, .a, .a, .a, .a, .a, .a, .a, .a, .a, .a, .a]) (fun _ ys => [some ⟨g, 1, cl (eI .i64) ys⟩]) 0 (List.replicate a.length 0)
    ⟨Nat.zero_le _, List.length_replicate, fun j hj => absurd hj (Nat.not_lt_zero _), fun j hj => absurd hj (Nat.not_lt_zero _)⟩ (by simp(maxSteps:=999999)(disch:=omega)only[go_sem,reduceAdd,reduceMul,reduceSub,reduceEqDiff,reduceLeDiff]; rfl) (HLe.refl _) ?_
  rintro i ys ⟨hi, hl, hall, hok⟩
  simp(maxSteps:=999999)(disch:=omega)only[go_sem,reduceAdd,reduceMul,reduceSub,reduceEqDiff,reduceLeDiff]
  ((first | with_reducible refine condK_dec ?_ ?_ | with_reducible refine condK_ndec ?_ ?_ | with_reducible refine condK_nb ?_ ?_ | refine condK_b ?_ ?_) <;> intro h)
  · have h : i < a.length := by omega
    have no : 0 < nth a i ∧ 0 < nth b i ∧ nth a i ≠ nth b i → bothOk a b = false := fun h2 => by
      simp only [bothOk, decide_eq_false_iff_not]; exact fun h3 => h3 i h h2
    have nx : ∀ v, v = max (nth a i) (nth b i) → ∀ j : Nat, j < i + 1 → nth (ys.set i v) j = max (nth a j) (nth b j) := fun v hv j hj => by
      rw [nth_set _ _ _ _ (by omega) (by omega)]
      split
      · rename_i he; rw [hv, he]
      · exact hall j (by omega)
    simp(maxSteps:=999999)(disch:=omega)only[go_sem,reduceAdd,reduceMul,reduceSub,reduceEqDiff,reduceLeDiff]
    repeat' (first | ((first | with_reducible refine guardK_dec ?_ ?_ | with_reducible refine guardK_ndec ?_ ?_ | with_reducible refine guardK_nb ?_ ?_ | with_reducible refine guardK_split ?_ ?_ | with_reducible refine guardQ_dec ?_ ?_ | with_reducible refine guardL_dec ?_ ?_ | with_reducible refine guardQ_ndec ?_ ?_ | with_reducible refine guardL_ndec ?_ ?_ | with_reducible refine guardQ_nb ?_ ?_ | with_reducible refine guardL_nb ?_ ?_ | with_reducible refine guardQ_split ?_ ?_ | with_reducible refine guardL_split ?_ ?_) <;> intro hg <;> simp(maxSteps:=999999)(disch:=omega)only[go_sem,reduceAdd,reduceMul,reduceSub,reduceEqDiff,reduceLeDiff, hg]) | (((first | with_reducible refine condK_dec ?_ ?_ | with_reducible refine condK_ndec ?_ ?_ | with_reducible refine condK_nb ?_ ?_ | refine condK_b ?_ ?_) <;> intro hg) <;> simp(maxSteps:=999999)(disch:=omega)only[go_sem,reduceAdd,reduceMul,reduceSub,reduceEqDiff,reduceLeDiff]))
    all_goals first
      | exact ⟨i + 1, ys.set i (max (nth a i) (nth b i)), ⟨⟨h, by simp [hl], nx _ rfl, all_step hok fun h2 => by omega⟩, by omega⟩, by omega, HLe.refl _⟩
      | (exact ⟨[], hle_nil _, fun h2 => (by rw [no ⟨by omega, by omega, by omega⟩] at h2; cases h2), fun _ => ⟨rfl, rfl⟩⟩)
  · simp(maxSteps:=999999)(disch:=omega)only[go_sem,reduceAdd,reduceMul,reduceSub,reduceEqDiff,reduceLeDiff]
    have hb1 : bothOk a b = true := by simp only [bothOk, decide_eq_true_eq]; exact fun j hj => hok j (by omega)
    have : ys = bothG a b := ext_nth (by rw [hl, bothG_length]) fun j hj => by rw [hall j (by omega), bothG_nth (by omega)]
    subst this
    exact ⟨_, HLe.refl _, fun _ => ⟨g, rfl, rfl⟩, fun h2 => (by rw [hb1] at h2; cases h2)⟩
theorem bothOk_game {q : Gam} (h : gameOk q) : bothOk q.task.given q.put = true := by
  simp only [bothOk, decide_eq_true_eq]
  rintro i hi ⟨h1, h2, h3⟩
  by_cases hi2 : i < q.put.length
  · have := (h.2.2 i (mem_filledAt.2 ⟨by omega, by omega, h2⟩)).2
    omega
  · have : nth q.put i = 0 := by simp [nth, List.getD, List.getElem?_eq_none (Nat.le_of_not_lt hi2)]
    omega
theorem gameValid_facts {q : Gam} (h : gameValid q = true) : puzzleValid q.task = true ∧ gridValid q.put q.task.size = true ∧ q.moves.length ≤ 40 ∧ gameOk q ∧ q.put.length = q.task.given.length ∧ q.put.length ≤ 16 := by
  simp only [gameValid, Bool.and_eq_true, decide_eq_true_eq] at h
  obtain ⟨h1, h2, h3, h4⟩ := h
  have a1 := gridValid_bound h2
  have a2 := gridValid_bound (puzzleValid_grid h1)
  exact ⟨h1, h2, h3, h4, by have := a1.2.2.1; have := a2.2.2.1; omega, a1.2.2.2.1⟩
def gameGrid (q : Gam) : List Int := if gameValid q then bothG q.task.given q.put else []
theorem gameGrid_length {q : Gam} (h : gameValid q = true) : (gameGrid q).length = q.task.given.length := by simp [gameGrid, h, bothG_length]
theorem GameGrid_own (q : Gam) (hx : smG q) : RunCall Try.prog 17 [aG q] [] (ownIQ (gameGrid q)) := by
  refine RunCall.nz ?_
  refine RunCall.cw (c := _) Try.func17 rfl (n := 18) Try.ntmps17 (rs := [.tmp 2]) rfl ?_
  simp only [List.length_cons, List.length_nil, Nat.reduceAdd, Nat.reduceSub, List.replicate, List.cons_append, List.nil_append]
  simp(maxSteps:=999999)(disch:=omega)only[go_sem,reduceAdd,reduceMul,reduceSub,reduceEqDiff,reduceLeDiff]
  intro g
  first | refine OpS.rd (GameValid_run q hx) (⟨_, Try.func38, rfl, rfl⟩ : Enters Try.prog 38) rfl rfl rfl rfl ?_ | refine Loud.rd (GameValid_run q hx) (⟨_, Try.func38, rfl, rfl⟩ : Enters Try.prog 38) rfl rfl rfl rfl ?_
  simp(maxSteps:=999999)(disch:=omega)only[go_sem,reduceAdd,reduceMul,reduceSub,reduceEqDiff,reduceLeDiff]
  ((first | with_reducible refine condK_dec ?_ ?_ | with_reducible refine condK_ndec ?_ ?_ | with_reducible refine condK_nb ?_ ?_ | refine condK_b ?_ ?_) <;> intro h)
  · obtain ⟨h1, h2, h3, h4, h5, h6⟩ := gameValid_facts h
    have hl := gameGrid_length h
    have hg : gameGrid q = bothG q.task.given q.put := by simp [gameGrid, h]
    simp(maxSteps:=999999)(disch:=omega)only[go_sem,reduceAdd,reduceMul,reduceSub,reduceEqDiff,reduceLeDiff]
    refine OpS.mkQ (bothGrids_own q.task.given q.put hx.1.1 h5.symm) (⟨_, Try.func51, rfl, rfl⟩ : Enters Try.prog 51) rfl rfl rfl ?_
    rintro _ _ ⟨hy, hn⟩
    obtain ⟨g2, rfl, rfl⟩ := hy (bothOk_game h4)
    refine ⟨rfl, ?_⟩
    simp(maxSteps:=999999)(disch:=omega)only[go_sem,reduceAdd,reduceMul,reduceSub,reduceEqDiff,reduceLeDiff]
    rw [← hl, ← hg]
    exact ⟨_, hle_none _ _ _ (HLe.refl _), _, _, rfl, OwnI.o 1 g2 none _ [] (by rw [List.append_nil]; simp only [go_sem]), scalH_none (scalH_ints scal_none)⟩
  · simp(maxSteps:=999999)(disch:=omega)only[go_sem,reduceAdd,reduceMul,reduceSub,reduceEqDiff,reduceLeDiff]
    have hg : gameGrid q = [] := by simp [gameGrid, h]
    rw [hg]
    exact ⟨[], hle_nil _, _, _, rfl, ownI_nil, scal_none⟩
end Go.Lg
