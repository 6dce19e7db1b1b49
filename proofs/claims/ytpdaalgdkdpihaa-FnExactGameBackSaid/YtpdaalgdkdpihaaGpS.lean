/- Games that are begun. -/
import Derived.Test.YtpdaalgdkdpihaaGpR
set_option linter.unusedSimpArgs false
set_option linter.unusedVariables false
set_option maxRecDepth 100000
namespace Go.Lg
open Go.Proofs

/-- A nil cell, told as an empty slice. -/
def wkC : CV → CV
  | .f .nil => .f (.sl 0 [])
  | c => c
theorem VC.wk {w : World} {X : Cx} {H : Heap} {c : CV} {v : Value} (h : VC w X H c v) : VC w X H (wkC c) v := by
  unfold wkC
  split
  · have h : VF w X.I .nil v := h
    cases h
    exact VF.sl0 none 0
  · exact h
theorem VA.wkAgg {w : World} {X : Cx} {H : Heap} {cs : List CV} {u : Value} (h : VA w X H (.agg cs) u) : VA w X H (.agg (cs.map wkC)) u := by
  cases h with
  | agg _ vs hs h =>
    refine .agg _ vs (by simpa using hs) fun j hj => ?_
    obtain ⟨x, h1, h2⟩ := h j (by simpa using hj)
    refine ⟨x, h1, ?_⟩
    rw [List.getElem_map]
    exact h2.wk
theorem OwnI.wkc {H : Heap} {c : CV} {xs : List Int} {S : List Nat} (h : OwnI H c xs S) : wkC c = c := by cases h <;> rfl
theorem OwnR.wkc {H : Heap} {c : CV} {xs : List Rul} {S : List Nat} (h : OwnR H c xs S) : wkC c = c := by cases h <;> rfl
/-- A result is a game of the call's own, where nil counts as empty. -/
def gamQ0 (q : Gam) : KV := fun v H => ∃ cs S, v = .agg cs ∧ OwnG H (cs.map wkC) q S
theorem RunCall.gam {P : Program} {f : FuncId} {args : List AV} {H : Heap} {q : Gam} (h : RunCall P f args H (gamQ0 q)) : RunCall P f args H (gamQ q) :=
  h.wk fun v H' ⟨cs, S, h1, h2⟩ => ⟨_, fun w X u hu => by subst h1; exact hu.wkAgg, _, S, rfl, h2⟩
def gameOf (p : Puz) : Gam := if puzzleValid p = true then ⟨p, List.replicate p.given.length 0, []⟩ else ⟨⟨0, [], []⟩, [], []⟩

theorem GameOf_own (p : Puz) (hx : smP p) : RunCall Try.prog 26 [aP p] [] (gamQ (gameOf p)) := by
  refine RunCall.gam ?_
  have hg := hx.1
  refine RunCall.cw (c := _) Try.func26 rfl (n := 14) Try.ntmps26 (rs := [.cell 2 34]) rfl ?_
  simp only [List.length_cons, List.length_nil, Nat.reduceAdd, Nat.reduceSub, List.replicate, List.cons_append, List.nil_append]
  simp (maxSteps := 1000000) (disch := omega) only [go_sem, Nat.reduceAdd, Nat.reduceMul, Nat.reduceSub, Nat.reduceEqDiff, Nat.reduceLeDiff]
  intro g1 g2
  refine OpS.rd (PuzzleValid_run p hx) (⟨_, Try.func55, rfl, rfl⟩ : Enters Try.prog 55) rfl rfl rfl rfl ?_
  simp (maxSteps := 1000000) (disch := omega) only [go_sem, Nat.reduceAdd, Nat.reduceMul, Nat.reduceSub, Nat.reduceEqDiff, Nat.reduceLeDiff]
  (first | with_reducible refine condK_dec (fun h => ?_) (fun h => ?_) | with_reducible refine condK_ndec (fun h => ?_) (fun h => ?_) | with_reducible refine condK_nb (fun h => ?_) (fun h => ?_) | refine condK_b (fun h => ?_) (fun h => ?_))
  · simp (maxSteps := 1000000) (disch := omega) only [go_sem, Nat.reduceAdd, Nat.reduceMul, Nat.reduceSub, Nat.reduceEqDiff, Nat.reduceLeDiff]
    refine drawP_lF [0, 2, 3, 4, 5, 1] [] (some 5) [6, 7] [] foll (by kernel_rfl) ?_
    simp (maxSteps := 1000000) (disch := omega) only [go_sem, Nat.reduceBEq, Bool.true_or, Nat.reduceAdd, Nat.reduceMul, Nat.reduceSub, Nat.reduceEqDiff, Nat.reduceLeDiff]
    refine Loud.mkP (copyPuzzle_puz p hx) (⟨_, Try.func56, rfl, rfl⟩ : Enters Try.prog 56) rfl rfl rfl ?_
    rintro _ H1 _ ⟨⟨c1, c2, S1, S2, rfl, rfl, k1, k2⟩, kn⟩ hS
    simp (maxSteps := 1000000) (disch := omega) only [go_sem, Nat.reduceAdd, Nat.reduceMul, Nat.reduceSub, Nat.reduceEqDiff, Nat.reduceLeDiff]
    intro g
    simp only [List.length_append, List.length_cons, List.length_nil] at hS
    have hz : OwnI (some ⟨g1, 1, cP p⟩ :: some ⟨g2, 5, [.f (.int .i64 p.size), c1, c2, .own (H1.length + 1 + 1) g 0 p.given.length none, .f .nil]⟩ :: (H1 ++ [some ⟨g, 1, cl (eI .i64) (List.replicate p.given.length 0)⟩]))
        (.own (H1.length + 1 + 1) g 0 p.given.length none) (List.replicate p.given.length 0) [H1.length + 1 + 1] := by
      have := OwnI.o (H := some ⟨g1, 1, cP p⟩ :: some ⟨g2, 5, [.f (.int .i64 p.size), c1, c2, .own (H1.length + 1 + 1) g 0 p.given.length none, .f .nil]⟩ :: (H1 ++ [some ⟨g, 1, cl (eI .i64) (List.replicate p.given.length 0)⟩])) (H1.length + 1 + 1) g none (List.replicate p.given.length 0) [] (by rw [List.append_nil]; exact look_of (b := ⟨g, 1, cl (eI .i64) (List.replicate p.given.length 0)⟩) (by simp))
      rw [List.length_replicate] at this
      exact this
    refine ⟨_, HLe.refl _, _, S1 ++ (S2 ++ ([H1.length + 1 + 1] ++ [])), rfl, ?_⟩
    unfold gameOf
    rw [if_pos h]
    simp only [List.map_cons, List.map_nil, k1.wkc, k2.wkc, hz.wkc]
    refine OwnG.of (p := p) (S1 := S1) (S2 := S2) ⟨⟨_, _, _, _, rfl, rfl, k1.same fun k hk => ?_, k2.same fun k hk => ?_⟩, kn⟩ hz .e (nodup4 (n1 := H1.length + 2) (n2 := H1.length + 3) kn (by simp) (by simp) (fun k hk => ?_) (fun k hk => ?_) (by simp) (by omega))
    · have := hS k (by simp [hk])
      simp only [List.cons_append, List.nil_append]
      rw [cons2 (by omega), cons2 (by omega), List.getElem?_append_left (by omega)]
    · have := hS k (by simp [hk])
      simp only [List.cons_append, List.nil_append]
      rw [cons2 (by omega), cons2 (by omega), List.getElem?_append_left (by omega)]
    · have := hS k hk; omega
    · simp at hk; omega
  · simp (maxSteps := 1000000) (disch := omega) only [go_sem, Nat.reduceAdd, Nat.reduceMul, Nat.reduceSub, Nat.reduceEqDiff, Nat.reduceLeDiff]
    refine ⟨_, HLe.refl _, _, [], rfl, ?_⟩
    unfold gameOf
    rw [if_neg (by rw [h]; simp)]
    exact ⟨⟨_, _, _, _, [], [], [], [], rfl, rfl, .e, .e, .e, .e⟩, by simp⟩
