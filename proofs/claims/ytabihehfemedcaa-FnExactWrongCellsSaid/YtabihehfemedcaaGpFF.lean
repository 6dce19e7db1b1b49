/- Wrong cells, as the program tells them, and their law. -/
import Derived.Test.YtabihehfemedcaaGpFE
import Derived.Test.YtabihehfemedcaaGpM
set_option linter.unusedSimpArgs false
set_option linter.unusedVariables false
set_option maxRecDepth 100000
namespace Go.Lg
open Go.Proofs

theorem lessQ_ownI {H : Heap} {c : CV} {xs : List Int} {S : List Nat} (h : OwnI H c xs S) : lessQ H (ownIQ xs) (.c c) :=
  ⟨keepH S H, keepH_le _ _, c, S, rfl, h.same fun i hi => keepH_get hi (h.lt i hi), scalH_keep h.blk⟩
def countV (p : Puz) (most : Int) : Int := if puzzleValid p = true ∧ 1 ≤ most ∧ most ≤ 600 then (allS p most.toNat).length else -1
def firstV (p : Puz) : List Int := nth (allS p 1) 0
theorem allS_no {p : Puz} (h : ¬ puzzleValid p = true) (most : Nat) : allS p most = [] := by unfold allS; rw [if_neg (fun h' => h h'.1)]
theorem CountSolutions_run (p : Puz) (most : Int) (hx : smP p) : Reads Try.prog 57 [aP p, int most] (int (countV p most)) := by
  refine RunCall.cw (c := _) Try.func57 rfl (n := 22) Try.ntmps57 (rs := [.tmp 4]) rfl ?_
  simp only [List.length_cons, List.length_nil, Nat.reduceAdd, Nat.reduceSub, List.replicate, List.cons_append, List.nil_append]
  simp (maxSteps := 1000000) (disch := omega) only [go_sem, Nat.reduceAdd, Nat.reduceMul, Nat.reduceSub, Nat.reduceEqDiff, Nat.reduceLeDiff]
  intro g
  first | refine OpS.rd (PuzzleValid_run p hx) (⟨_, Try.func83, rfl, rfl⟩ : Enters Try.prog 83) rfl rfl rfl rfl ?_ | refine Loud.rd (PuzzleValid_run p hx) (⟨_, Try.func83, rfl, rfl⟩ : Enters Try.prog 83) rfl rfl rfl rfl ?_
  simp (maxSteps := 1000000) (disch := omega) only [go_sem, Nat.reduceAdd, Nat.reduceMul, Nat.reduceSub, Nat.reduceEqDiff, Nat.reduceLeDiff]
  (first | with_reducible refine guardK_dec (fun h1 => ?_) (fun h1 => ?_) <;> simp (maxSteps := 1000000) (disch := omega) only [go_sem, Nat.reduceAdd, Nat.reduceMul, Nat.reduceSub, Nat.reduceEqDiff, Nat.reduceLeDiff, h1] | with_reducible refine guardK_ndec (fun h1 => ?_) (fun h1 => ?_) <;> simp (maxSteps := 1000000) (disch := omega) only [go_sem, Nat.reduceAdd, Nat.reduceMul, Nat.reduceSub, Nat.reduceEqDiff, Nat.reduceLeDiff, h1] | with_reducible refine guardK_nb (fun h1 => ?_) (fun h1 => ?_) <;> simp (maxSteps := 1000000) (disch := omega) only [go_sem, Nat.reduceAdd, Nat.reduceMul, Nat.reduceSub, Nat.reduceEqDiff, Nat.reduceLeDiff, h1] | with_reducible refine guardK_split (fun h1 => ?_) (fun h1 => ?_) <;> simp (maxSteps := 1000000) (disch := omega) only [go_sem, Nat.reduceAdd, Nat.reduceMul, Nat.reduceSub, Nat.reduceEqDiff, Nat.reduceLeDiff, h1] | with_reducible refine guardQ_dec (fun h1 => ?_) (fun h1 => ?_) <;> simp (maxSteps := 1000000) (disch := omega) only [go_sem, Nat.reduceAdd, Nat.reduceMul, Nat.reduceSub, Nat.reduceEqDiff, Nat.reduceLeDiff, h1] | with_reducible refine guardL_dec (fun h1 => ?_) (fun h1 => ?_) <;> simp (maxSteps := 1000000) (disch := omega) only [go_sem, Nat.reduceAdd, Nat.reduceMul, Nat.reduceSub, Nat.reduceEqDiff, Nat.reduceLeDiff, h1] | with_reducible refine guardQ_ndec (fun h1 => ?_) (fun h1 => ?_) <;> simp (maxSteps := 1000000) (disch := omega) only [go_sem, Nat.reduceAdd, Nat.reduceMul, Nat.reduceSub, Nat.reduceEqDiff, Nat.reduceLeDiff, h1] | with_reducible refine guardL_ndec (fun h1 => ?_) (fun h1 => ?_) <;> simp (maxSteps := 1000000) (disch := omega) only [go_sem, Nat.reduceAdd, Nat.reduceMul, Nat.reduceSub, Nat.reduceEqDiff, Nat.reduceLeDiff, h1] | with_reducible refine guardQ_nb (fun h1 => ?_) (fun h1 => ?_) <;> simp (maxSteps := 1000000) (disch := omega) only [go_sem, Nat.reduceAdd, Nat.reduceMul, Nat.reduceSub, Nat.reduceEqDiff, Nat.reduceLeDiff, h1] | with_reducible refine guardL_nb (fun h1 => ?_) (fun h1 => ?_) <;> simp (maxSteps := 1000000) (disch := omega) only [go_sem, Nat.reduceAdd, Nat.reduceMul, Nat.reduceSub, Nat.reduceEqDiff, Nat.reduceLeDiff, h1] | with_reducible refine guardQ_split (fun h1 => ?_) (fun h1 => ?_) <;> simp (maxSteps := 1000000) (disch := omega) only [go_sem, Nat.reduceAdd, Nat.reduceMul, Nat.reduceSub, Nat.reduceEqDiff, Nat.reduceLeDiff, h1] | with_reducible refine guardL_split (fun h1 => ?_) (fun h1 => ?_) <;> simp (maxSteps := 1000000) (disch := omega) only [go_sem, Nat.reduceAdd, Nat.reduceMul, Nat.reduceSub, Nat.reduceEqDiff, Nat.reduceLeDiff, h1])
  rotate_left
  · unfold countV
    rw [if_neg (fun h => by rw [h.1] at h1; cases h1)]
  (first | with_reducible refine guardK_dec (fun h2 => ?_) (fun h2 => ?_) <;> simp (maxSteps := 1000000) (disch := omega) only [go_sem, Nat.reduceAdd, Nat.reduceMul, Nat.reduceSub, Nat.reduceEqDiff, Nat.reduceLeDiff, h2] | with_reducible refine guardK_ndec (fun h2 => ?_) (fun h2 => ?_) <;> simp (maxSteps := 1000000) (disch := omega) only [go_sem, Nat.reduceAdd, Nat.reduceMul, Nat.reduceSub, Nat.reduceEqDiff, Nat.reduceLeDiff, h2] | with_reducible refine guardK_nb (fun h2 => ?_) (fun h2 => ?_) <;> simp (maxSteps := 1000000) (disch := omega) only [go_sem, Nat.reduceAdd, Nat.reduceMul, Nat.reduceSub, Nat.reduceEqDiff, Nat.reduceLeDiff, h2] | with_reducible refine guardK_split (fun h2 => ?_) (fun h2 => ?_) <;> simp (maxSteps := 1000000) (disch := omega) only [go_sem, Nat.reduceAdd, Nat.reduceMul, Nat.reduceSub, Nat.reduceEqDiff, Nat.reduceLeDiff, h2] | with_reducible refine guardQ_dec (fun h2 => ?_) (fun h2 => ?_) <;> simp (maxSteps := 1000000) (disch := omega) only [go_sem, Nat.reduceAdd, Nat.reduceMul, Nat.reduceSub, Nat.reduceEqDiff, Nat.reduceLeDiff, h2] | with_reducible refine guardL_dec (fun h2 => ?_) (fun h2 => ?_) <;> simp (maxSteps := 1000000) (disch := omega) only [go_sem, Nat.reduceAdd, Nat.reduceMul, Nat.reduceSub, Nat.reduceEqDiff, Nat.reduceLeDiff, h2] | with_reducible refine guardQ_ndec (fun h2 => ?_) (fun h2 => ?_) <;> simp (maxSteps := 1000000) (disch := omega) only [go_sem, Nat.reduceAdd, Nat.reduceMul, Nat.reduceSub, Nat.reduceEqDiff, Nat.reduceLeDiff, h2] | with_reducible refine guardL_ndec (fun h2 => ?_) (fun h2 => ?_) <;> simp (maxSteps := 1000000) (disch := omega) only [go_sem, Nat.reduceAdd, Nat.reduceMul, Nat.reduceSub, Nat.reduceEqDiff, Nat.reduceLeDiff, h2] | with_reducible refine guardQ_nb (fun h2 => ?_) (fun h2 => ?_) <;> simp (maxSteps := 1000000) (disch := omega) only [go_sem, Nat.reduceAdd, Nat.reduceMul, Nat.reduceSub, Nat.reduceEqDiff, Nat.reduceLeDiff, h2] | with_reducible refine guardL_nb (fun h2 => ?_) (fun h2 => ?_) <;> simp (maxSteps := 1000000) (disch := omega) only [go_sem, Nat.reduceAdd, Nat.reduceMul, Nat.reduceSub, Nat.reduceEqDiff, Nat.reduceLeDiff, h2] | with_reducible refine guardQ_split (fun h2 => ?_) (fun h2 => ?_) <;> simp (maxSteps := 1000000) (disch := omega) only [go_sem, Nat.reduceAdd, Nat.reduceMul, Nat.reduceSub, Nat.reduceEqDiff, Nat.reduceLeDiff, h2] | with_reducible refine guardL_split (fun h2 => ?_) (fun h2 => ?_) <;> simp (maxSteps := 1000000) (disch := omega) only [go_sem, Nat.reduceAdd, Nat.reduceMul, Nat.reduceSub, Nat.reduceEqDiff, Nat.reduceLeDiff, h2])
  · unfold countV
    rw [if_neg (by omega)]
  (first | with_reducible refine condK_dec (fun h3 => ?_) (fun h3 => ?_) | with_reducible refine condK_ndec (fun h3 => ?_) (fun h3 => ?_) | with_reducible refine condK_nb (fun h3 => ?_) (fun h3 => ?_) | refine condK_b (fun h3 => ?_) (fun h3 => ?_))
  · simp (maxSteps := 1000000) (disch := omega) only [go_sem, Nat.reduceAdd, Nat.reduceMul, Nat.reduceSub, Nat.reduceEqDiff, Nat.reduceLeDiff]
    unfold countV
    rw [if_neg (by omega)]
  obtain ⟨k, rfl⟩ : ∃ k : Nat, most = k := ⟨most.toNat, by omega⟩
  simp (maxSteps := 1000000) (disch := omega) only [go_sem, Nat.reduceAdd, Nat.reduceMul, Nat.reduceSub, Nat.reduceEqDiff, Nat.reduceLeDiff]
  first | refine OpS.mk (first_all h1 k (by omega)) (⟨_, Try.func84, rfl, rfl⟩ : Enters Try.prog 84) rfl rfl rfl rfl rfl ?_ | refine Loud.mk (first_all h1 k (by omega)) (⟨_, Try.func84, rfl, rfl⟩ : Enters Try.prog 84) rfl rfl rfl rfl rfl ?_
  simp (maxSteps := 1000000) (disch := omega) only [go_sem, Nat.reduceAdd, Nat.reduceMul, Nat.reduceSub, Nat.reduceEqDiff, Nat.reduceLeDiff]
  unfold countV
  rw [if_pos ⟨h1, by omega, by omega⟩, Int.toNat_natCast]
theorem onlyOne_run (p : Puz) (hx : smP p) : Reads Try.prog 89 [aP p] (bool (decide (countV p 2 = 1))) := by
  refine RunCall.cw (c := _) Try.func89 rfl (n := 6) Try.ntmps89 (rs := [.tmp 2]) rfl ?_
  simp only [List.length_cons, List.length_nil, Nat.reduceAdd, Nat.reduceSub, List.replicate, List.cons_append, List.nil_append]
  simp (maxSteps := 1000000) (disch := omega) only [go_sem, Nat.reduceAdd, Nat.reduceMul, Nat.reduceSub, Nat.reduceEqDiff, Nat.reduceLeDiff]
  intro g
  first | refine OpS.rd (CountSolutions_run p 2 hx) (⟨_, Try.func57, rfl, rfl⟩ : Enters Try.prog 57) rfl rfl rfl rfl ?_ | refine Loud.rd (CountSolutions_run p 2 hx) (⟨_, Try.func57, rfl, rfl⟩ : Enters Try.prog 57) rfl rfl rfl rfl ?_
  simp (maxSteps := 1000000) (disch := omega) only [go_sem, Nat.reduceAdd, Nat.reduceMul, Nat.reduceSub, Nat.reduceEqDiff, Nat.reduceLeDiff]
theorem SolveFirst_run (p : Puz) (hx : smP p) : Reads Try.prog 54 [aP p] (.tup [ints (firstV p), bool (decide (0 < (allS p 1).length))]) := by
  refine Reads.iced ?_
  refine RunCall.cw (c := _) Try.func54 rfl (n := 18) Try.ntmps54 (rs := [.tmp 2, .tmp 3]) rfl ?_
  simp only [List.length_cons, List.length_nil, Nat.reduceAdd, Nat.reduceSub, List.replicate, List.cons_append, List.nil_append]
  simp (maxSteps := 1000000) (disch := omega) only [go_sem, Nat.reduceAdd, Nat.reduceMul, Nat.reduceSub, Nat.reduceEqDiff, Nat.reduceLeDiff]
  intro g
  first | refine OpS.rd (PuzzleValid_run p hx) (⟨_, Try.func83, rfl, rfl⟩ : Enters Try.prog 83) rfl rfl rfl rfl ?_ | refine Loud.rd (PuzzleValid_run p hx) (⟨_, Try.func83, rfl, rfl⟩ : Enters Try.prog 83) rfl rfl rfl rfl ?_
  simp (maxSteps := 1000000) (disch := omega) only [go_sem, Nat.reduceAdd, Nat.reduceMul, Nat.reduceSub, Nat.reduceEqDiff, Nat.reduceLeDiff]
  (first | with_reducible refine condK_dec (fun h1 => ?_) (fun h1 => ?_) | with_reducible refine condK_ndec (fun h1 => ?_) (fun h1 => ?_) | with_reducible refine condK_nb (fun h1 => ?_) (fun h1 => ?_) | refine condK_b (fun h1 => ?_) (fun h1 => ?_))
  rotate_left
  · simp (maxSteps := 1000000) (disch := omega) only [go_sem, Nat.reduceAdd, Nat.reduceMul, Nat.reduceSub, Nat.reduceEqDiff, Nat.reduceLeDiff]
    unfold firstV
    rw [allS_no (by rw [h1]; simp)]
    exact lessQ_ice rfl
  simp (maxSteps := 1000000) (disch := omega) only [go_sem, Nat.reduceAdd, Nat.reduceMul, Nat.reduceSub, Nat.reduceEqDiff, Nat.reduceLeDiff]
  first | refine OpS.mk (first_all h1 1 (by omega)) (⟨_, Try.func84, rfl, rfl⟩ : Enters Try.prog 84) rfl rfl rfl rfl rfl ?_ | refine Loud.mk (first_all h1 1 (by omega)) (⟨_, Try.func84, rfl, rfl⟩ : Enters Try.prog 84) rfl rfl rfl rfl rfl ?_
  simp (maxSteps := 1000000) (disch := omega) only [go_sem, Nat.reduceAdd, Nat.reduceMul, Nat.reduceSub, Nat.reduceEqDiff, Nat.reduceLeDiff]
  (first | with_reducible refine condK_dec (fun h2 => ?_) (fun h2 => ?_) | with_reducible refine condK_ndec (fun h2 => ?_) (fun h2 => ?_) | with_reducible refine condK_nb (fun h2 => ?_) (fun h2 => ?_) | refine condK_b (fun h2 => ?_) (fun h2 => ?_))
  · simp (maxSteps := 1000000) (disch := omega) only [go_sem, Nat.reduceAdd, Nat.reduceMul, Nat.reduceSub, Nat.reduceEqDiff, Nat.reduceLeDiff]
    have h2 : allS p 1 = [] := List.eq_nil_of_length_eq_zero (by omega)
    unfold firstV
    rw [h2]
    exact lessQ_ice rfl
  · simp (maxSteps := 1000000) (disch := omega) only [go_sem, Nat.reduceAdd, Nat.reduceMul, Nat.reduceSub, Nat.reduceEqDiff, Nat.reduceLeDiff]
    unfold firstV
    rw [decide_eq_true (by omega)]
    exact lessQ_ice rfl
theorem one_facts {p : Puz} (h : countV p 2 = 1) : puzzleValid p = true ∧ ∃ s, allS p 2 = [s] ∧ firstV p = s ∧ s.length = p.given.length := by
  unfold countV at h
  by_cases hv : puzzleValid p = true
  · rw [if_pos ⟨hv, by omega, by omega⟩] at h
    have h : (allS p 2).length = 1 := by have : ((2 : Int)).toNat = 2 := rfl; rw [this] at h; omega
    obtain ⟨s, hs⟩ := List.length_eq_one_iff.1 h
    refine ⟨hv, s, hs, ?_, allS_cell hv (most := 2) (by rw [hs]; simp)⟩
    have e : allS p 1 = [s] := by
      have e2 : allS p 1 = (allS p 2).take 1 := by
        unfold allS
        split
        · rw [List.take_take]; rfl
        · rfl
      rw [e2, hs]; rfl
    unfold firstV
    rw [e]; rfl
  · rw [if_neg (fun h' => hv h'.1)] at h
    omega
theorem not_one {p : Puz} (h : ¬ countV p 2 = 1) (xs : List Int) : wrongV p xs = [] := by
  unfold wrongV
  split
  · rename_i hv
    unfold countV at h
    rw [if_pos ⟨hv.1, by omega, by omega⟩] at h
    have : ((2 : Int)).toNat = 2 := rfl
    rw [this] at h
    match hL : allS p 2 with
    | [] => rfl
    | [s] => rw [hL] at h; simp at h
    | _ :: _ :: _ => rfl
  · rfl
theorem WrongCells_own (p : Puz) (xs : List Int) (hx : smP p) (hl : xs.length ≤ 2 ^ 40) : RunCall Try.prog 41 [aP p, ints xs] [] (ownIQ (wrongV p xs)) := by
  refine RunCall.nz ?_
  refine RunCall.cw (c := _) Try.func41 rfl (n := 49) Try.ntmps41 (rs := [.tmp 4]) rfl ?_
  simp only [List.length_cons, List.length_nil, Nat.reduceAdd, Nat.reduceSub, List.replicate, List.cons_append, List.nil_append]
  simp (maxSteps := 1000000) (disch := omega) only [go_sem, Nat.reduceAdd, Nat.reduceMul, Nat.reduceSub, Nat.reduceEqDiff, Nat.reduceLeDiff]
  intro g0
  first | refine OpS.rd (onlyOne_run p hx) (⟨_, Try.func89, rfl, rfl⟩ : Enters Try.prog 89) rfl rfl rfl rfl ?_ | refine Loud.rd (onlyOne_run p hx) (⟨_, Try.func89, rfl, rfl⟩ : Enters Try.prog 89) rfl rfl rfl rfl ?_
  simp (maxSteps := 1000000) (disch := omega) only [go_sem, Nat.reduceAdd, Nat.reduceMul, Nat.reduceSub, Nat.reduceEqDiff, Nat.reduceLeDiff]
  (first | with_reducible refine guardK_dec (fun h1 => ?_) (fun h1 => ?_) <;> simp (maxSteps := 1000000) (disch := omega) only [go_sem, Nat.reduceAdd, Nat.reduceMul, Nat.reduceSub, Nat.reduceEqDiff, Nat.reduceLeDiff, h1] | with_reducible refine guardK_ndec (fun h1 => ?_) (fun h1 => ?_) <;> simp (maxSteps := 1000000) (disch := omega) only [go_sem, Nat.reduceAdd, Nat.reduceMul, Nat.reduceSub, Nat.reduceEqDiff, Nat.reduceLeDiff, h1] | with_reducible refine guardK_nb (fun h1 => ?_) (fun h1 => ?_) <;> simp (maxSteps := 1000000) (disch := omega) only [go_sem, Nat.reduceAdd, Nat.reduceMul, Nat.reduceSub, Nat.reduceEqDiff, Nat.reduceLeDiff, h1] | with_reducible refine guardK_split (fun h1 => ?_) (fun h1 => ?_) <;> simp (maxSteps := 1000000) (disch := omega) only [go_sem, Nat.reduceAdd, Nat.reduceMul, Nat.reduceSub, Nat.reduceEqDiff, Nat.reduceLeDiff, h1] | with_reducible refine guardQ_dec (fun h1 => ?_) (fun h1 => ?_) <;> simp (maxSteps := 1000000) (disch := omega) only [go_sem, Nat.reduceAdd, Nat.reduceMul, Nat.reduceSub, Nat.reduceEqDiff, Nat.reduceLeDiff, h1] | with_reducible refine guardL_dec (fun h1 => ?_) (fun h1 => ?_) <;> simp (maxSteps := 1000000) (disch := omega) only [go_sem, Nat.reduceAdd, Nat.reduceMul, Nat.reduceSub, Nat.reduceEqDiff, Nat.reduceLeDiff, h1] | with_reducible refine guardQ_ndec (fun h1 => ?_) (fun h1 => ?_) <;> simp (maxSteps := 1000000) (disch := omega) only [go_sem, Nat.reduceAdd, Nat.reduceMul, Nat.reduceSub, Nat.reduceEqDiff, Nat.reduceLeDiff, h1] | with_reducible refine guardL_ndec (fun h1 => ?_) (fun h1 => ?_) <;> simp (maxSteps := 1000000) (disch := omega) only [go_sem, Nat.reduceAdd, Nat.reduceMul, Nat.reduceSub, Nat.reduceEqDiff, Nat.reduceLeDiff, h1] | with_reducible refine guardQ_nb (fun h1 => ?_) (fun h1 => ?_) <;> simp (maxSteps := 1000000) (disch := omega) only [go_sem, Nat.reduceAdd, Nat.reduceMul, Nat.reduceSub, Nat.reduceEqDiff, Nat.reduceLeDiff, h1] | with_reducible refine guardL_nb (fun h1 => ?_) (fun h1 => ?_) <;> simp (maxSteps := 1000000) (disch := omega) only [go_sem, Nat.reduceAdd, Nat.reduceMul, Nat.reduceSub, Nat.reduceEqDiff, Nat.reduceLeDiff, h1] | with_reducible refine guardQ_split (fun h1 => ?_) (fun h1 => ?_) <;> simp (maxSteps := 1000000) (disch := omega) only [go_sem, Nat.reduceAdd, Nat.reduceMul, Nat.reduceSub, Nat.reduceEqDiff, Nat.reduceLeDiff, h1] | with_reducible refine guardL_split (fun h1 => ?_) (fun h1 => ?_) <;> simp (maxSteps := 1000000) (disch := omega) only [go_sem, Nat.reduceAdd, Nat.reduceMul, Nat.reduceSub, Nat.reduceEqDiff, Nat.reduceLeDiff, h1])
  rotate_left
  · rw [not_one h1]
    exact lessQ_ownI .e
  first | refine OpS.rd (GridValid_run xs p.size (by omega)) (⟨_, Try.func87, rfl, rfl⟩ : Enters Try.prog 87) rfl rfl rfl rfl ?_ | refine Loud.rd (GridValid_run xs p.size (by omega)) (⟨_, Try.func87, rfl, rfl⟩ : Enters Try.prog 87) rfl rfl rfl rfl ?_
  simp (maxSteps := 1000000) (disch := omega) only [go_sem, Nat.reduceAdd, Nat.reduceMul, Nat.reduceSub, Nat.reduceEqDiff, Nat.reduceLeDiff]
  (first | with_reducible refine condK_dec (fun h2 => ?_) (fun h2 => ?_) | with_reducible refine condK_ndec (fun h2 => ?_) (fun h2 => ?_) | with_reducible refine condK_nb (fun h2 => ?_) (fun h2 => ?_) | refine condK_b (fun h2 => ?_) (fun h2 => ?_))
  rotate_left
  · simp (maxSteps := 1000000) (disch := omega) only [go_sem, Nat.reduceAdd, Nat.reduceMul, Nat.reduceSub, Nat.reduceEqDiff, Nat.reduceLeDiff]
    unfold wrongV
    rw [if_neg (fun h => by rw [h.2] at h2; cases h2)]
    exact lessQ_ownI .e
  obtain ⟨hv, s, hs, hf, hsl⟩ := one_facts h1
  obtain ⟨hp, hg, ha, hlen, hl4, hl16⟩ := grd_facts hv h2
  have hV : wrongV p xs = wrongL s xs xs.length := by unfold wrongV; rw [if_pos ⟨hv, h2⟩, hs]; rfl
  have hgv := hg.val
  simp (maxSteps := 1000000) (disch := omega) only [go_sem, Nat.reduceAdd, Nat.reduceMul, Nat.reduceSub, Nat.reduceEqDiff, Nat.reduceLeDiff]
  first | refine OpS.mk (SolveFirst_run p hx) (⟨_, Try.func54, rfl, rfl⟩ : Enters Try.prog 54) rfl rfl rfl rfl rfl ?_ | refine Loud.mk (SolveFirst_run p hx) (⟨_, Try.func54, rfl, rfl⟩ : Enters Try.prog 54) rfl rfl rfl rfl rfl ?_
  simp (maxSteps := 1000000) (disch := omega) only [go_sem, Nat.reduceAdd, Nat.reduceMul, Nat.reduceSub, Nat.reduceEqDiff, Nat.reduceLeDiff]
  rw [hf, hV]
  intro g1
  refine loop_rule2 (fun (k g : Nat) => xs.length - k) (fun k g => k ≤ xs.length) (fun k g => [.a, .a, .a, .a, .a, .k, .a, .p (.c (.own 1 g 0 (wrongL s xs k).length none)), .a, .a, .a, .a, .a, .a, .a, .a, .a, .a, .a, .a, .a, .a, .a, .a, .a, .a, .k, .k, .p (int k), .a, .a, .a, .a, .a, .a, .a, .a, .a, .a, .a, .a, .a, .a, .a, .a, .a, .a, .a, .a]) (fun k g => [some ⟨g0, 1, cP p⟩, some ⟨g, 1, cl (eI .i64) (wrongL s xs k)⟩]) 0 g1 (Nat.zero_le _) (by simp (maxSteps := 1000000) (disch := omega) only [go_sem, Nat.reduceAdd, Nat.reduceMul, Nat.reduceSub, Nat.reduceEqDiff, Nat.reduceLeDiff]; simp [wrongL]) (HLe.refl _) ?_
  intro k g hk
  have hwl := wrongL_len s xs k
  simp (maxSteps := 1000000) (disch := omega) only [go_sem, Nat.reduceAdd, Nat.reduceMul, Nat.reduceSub, Nat.reduceEqDiff, Nat.reduceLeDiff]
  (first | with_reducible refine condK_dec (fun c1 => ?_) (fun c1 => ?_) | with_reducible refine condK_ndec (fun c1 => ?_) (fun c1 => ?_) | with_reducible refine condK_nb (fun c1 => ?_) (fun c1 => ?_) | refine condK_b (fun c1 => ?_) (fun c1 => ?_))
  · have c1 : k < xs.length := by omega
    have hsucc := wrongL_succ (s := s) c1
    simp (maxSteps := 1000000) (disch := omega) only [go_sem, Nat.reduceAdd, Nat.reduceMul, Nat.reduceSub, Nat.reduceEqDiff, Nat.reduceLeDiff]
    (first | with_reducible refine guardK_dec (fun a => ?_) (fun a => ?_) <;> simp (maxSteps := 1000000) (disch := omega) only [go_sem, Nat.reduceAdd, Nat.reduceMul, Nat.reduceSub, Nat.reduceEqDiff, Nat.reduceLeDiff, a] | with_reducible refine guardK_ndec (fun a => ?_) (fun a => ?_) <;> simp (maxSteps := 1000000) (disch := omega) only [go_sem, Nat.reduceAdd, Nat.reduceMul, Nat.reduceSub, Nat.reduceEqDiff, Nat.reduceLeDiff, a] | with_reducible refine guardK_nb (fun a => ?_) (fun a => ?_) <;> simp (maxSteps := 1000000) (disch := omega) only [go_sem, Nat.reduceAdd, Nat.reduceMul, Nat.reduceSub, Nat.reduceEqDiff, Nat.reduceLeDiff, a] | with_reducible refine guardK_split (fun a => ?_) (fun a => ?_) <;> simp (maxSteps := 1000000) (disch := omega) only [go_sem, Nat.reduceAdd, Nat.reduceMul, Nat.reduceSub, Nat.reduceEqDiff, Nat.reduceLeDiff, a] | with_reducible refine guardQ_dec (fun a => ?_) (fun a => ?_) <;> simp (maxSteps := 1000000) (disch := omega) only [go_sem, Nat.reduceAdd, Nat.reduceMul, Nat.reduceSub, Nat.reduceEqDiff, Nat.reduceLeDiff, a] | with_reducible refine guardL_dec (fun a => ?_) (fun a => ?_) <;> simp (maxSteps := 1000000) (disch := omega) only [go_sem, Nat.reduceAdd, Nat.reduceMul, Nat.reduceSub, Nat.reduceEqDiff, Nat.reduceLeDiff, a] | with_reducible refine guardQ_ndec (fun a => ?_) (fun a => ?_) <;> simp (maxSteps := 1000000) (disch := omega) only [go_sem, Nat.reduceAdd, Nat.reduceMul, Nat.reduceSub, Nat.reduceEqDiff, Nat.reduceLeDiff, a] | with_reducible refine guardL_ndec (fun a => ?_) (fun a => ?_) <;> simp (maxSteps := 1000000) (disch := omega) only [go_sem, Nat.reduceAdd, Nat.reduceMul, Nat.reduceSub, Nat.reduceEqDiff, Nat.reduceLeDiff, a] | with_reducible refine guardQ_nb (fun a => ?_) (fun a => ?_) <;> simp (maxSteps := 1000000) (disch := omega) only [go_sem, Nat.reduceAdd, Nat.reduceMul, Nat.reduceSub, Nat.reduceEqDiff, Nat.reduceLeDiff, a] | with_reducible refine guardL_nb (fun a => ?_) (fun a => ?_) <;> simp (maxSteps := 1000000) (disch := omega) only [go_sem, Nat.reduceAdd, Nat.reduceMul, Nat.reduceSub, Nat.reduceEqDiff, Nat.reduceLeDiff, a] | with_reducible refine guardQ_split (fun a => ?_) (fun a => ?_) <;> simp (maxSteps := 1000000) (disch := omega) only [go_sem, Nat.reduceAdd, Nat.reduceMul, Nat.reduceSub, Nat.reduceEqDiff, Nat.reduceLeDiff, a] | with_reducible refine guardL_split (fun a => ?_) (fun a => ?_) <;> simp (maxSteps := 1000000) (disch := omega) only [go_sem, Nat.reduceAdd, Nat.reduceMul, Nat.reduceSub, Nat.reduceEqDiff, Nat.reduceLeDiff, a])
    · (first | with_reducible refine condK_dec (fun b => ?_) (fun b => ?_) | with_reducible refine condK_ndec (fun b => ?_) (fun b => ?_) | with_reducible refine condK_nb (fun b => ?_) (fun b => ?_) | refine condK_b (fun b => ?_) (fun b => ?_))
      · simp (maxSteps := 1000000) (disch := omega) only [go_sem, Nat.reduceAdd, Nat.reduceMul, Nat.reduceSub, Nat.reduceEqDiff, Nat.reduceLeDiff]
        rw [if_neg (fun h => h.2 b), List.append_nil] at hsucc
        refine ⟨k + 1, g, ⟨by omega, by omega⟩, ⟨by rw [hsucc]; exact ⟨rfl, rfl⟩, by push_cast; omega⟩, by rw [hsucc]; exact HLe.refl _⟩
      · simp (maxSteps := 1000000) (disch := omega) only [go_sem, Nat.reduceAdd, Nat.reduceMul, Nat.reduceSub, Nat.reduceEqDiff, Nat.reduceLeDiff]
        intro g2 g3
        rw [if_pos ⟨a, b⟩] at hsucc
        refine ⟨k + 1, g3, ⟨by omega, by omega⟩, ⟨by rw [hsucc, List.length_append]; exact ⟨rfl, rfl⟩, by push_cast; omega⟩, by rw [hsucc]; exact HLe.app [_, _] [_]⟩
    · rw [if_neg (fun h => a h.1), List.append_nil] at hsucc
      refine ⟨k + 1, g, ⟨by omega, by omega⟩, ⟨by rw [hsucc]; exact ⟨rfl, rfl⟩, by push_cast; omega⟩, by rw [hsucc]; exact HLe.refl _⟩
  · have hke : k = xs.length := by omega
    subst hke
    simp (maxSteps := 1000000) (disch := omega) only [go_sem, Nat.reduceAdd, Nat.reduceMul, Nat.reduceSub, Nat.reduceEqDiff, Nat.reduceLeDiff]
    exact lessQ_ownI (OwnI.o (H := [some ⟨g0, 1, cP p⟩, some ⟨g, 1, cl (eI .i64) (wrongL s xs xs.length)⟩]) 1 g none _ [] (by rw [List.append_nil]; simp only [go_sem]))
theorem toIntS_ownI (xs : List Int) (hx : xs.length ≤ 2 ^ 40) : RunCall Try.prog 35 [ints xs] [] (ownIQ xs) :=
  (toIntS_own xs hx).mono fun r H ⟨g, h1, h2⟩ => by
    subst h1 h2
    exact ⟨_, _, rfl, OwnI.o 0 g none xs [] (by rw [List.append_nil]; simp only [go_sem]), scalH_ints scal_none⟩
theorem wrongV_len (p : Puz) (xs : List Int) : (wrongV p xs).length ≤ xs.length := by
  unfold wrongV
  split
  · match allS p 2 with
    | [] => simp [wrongO]
    | [s] => exact wrongL_len _ _ _
    | _ :: _ :: _ => simp [wrongO]
  · simp
theorem wMP_small (p : Puz) : wMP p ≤ 2 * wP p := by
  have := wM_le p.rules
  unfold wMP wP
  omega
set_option maxHeartbeats 2000000 in
theorem law_WrongCells (p : Puz) (xs : List Int) (h1 : okP' p) (h2 : xs.length ≤ 9223372036854775807) (_ : ∀ x ∈ xs, (Lit.int .i64 x).wf = true) : Reads Try.prog 10 [aP p, ints xs] (bool true) := by
  refine RunCall.cw (c := _) Try.func10 rfl (n := 90) Try.ntmps10 (rs := [.tmp 4]) rfl ?_
  simp only [List.length_cons, List.length_nil, Nat.reduceAdd, Nat.reduceSub, List.replicate, List.cons_append, List.nil_append]
  simp (maxSteps := 1000000) (disch := omega) only [go_sem, Nat.reduceAdd, Nat.reduceMul, Nat.reduceSub, Nat.reduceEqDiff, Nat.reduceLeDiff]
  intro g
  (first | with_reducible refine condK_dec (fun h0 => ?_) (fun h0 => ?_) | with_reducible refine condK_ndec (fun h0 => ?_) (fun h0 => ?_) | with_reducible refine condK_nb (fun h0 => ?_) (fun h0 => ?_) | refine condK_b (fun h0 => ?_) (fun h0 => ?_))
  · simp (maxSteps := 1000000) (disch := omega) only [go_sem, Nat.reduceAdd, Nat.reduceMul, Nat.reduceSub, Nat.reduceEqDiff, Nat.reduceLeDiff]
  have hl : xs.length ≤ 2 ^ 40 := by omega
  simp (maxSteps := 1000000) (disch := omega) only [go_sem, Nat.reduceAdd, Nat.reduceMul, Nat.reduceSub, Nat.reduceEqDiff, Nat.reduceLeDiff]
  first | refine OpS.rd (szPuzzle_run p 1048576 (by omega) h1) (⟨_, Try.func29, rfl, rfl⟩ : Enters Try.prog 29) rfl rfl rfl rfl ?_ | refine Loud.rd (szPuzzle_run p 1048576 (by omega) h1) (⟨_, Try.func29, rfl, rfl⟩ : Enters Try.prog 29) rfl rfl rfl rfl ?_
  simp (maxSteps := 1000000) (disch := omega) only [go_sem, Nat.reduceAdd, Nat.reduceMul, Nat.reduceSub, Nat.reduceEqDiff, Nat.reduceLeDiff]
  have hb := szI_le (n := wP p) (left := 1048576) (by omega)
  (first | with_reducible refine condK_dec (fun h => ?_) (fun h => ?_) | with_reducible refine condK_ndec (fun h => ?_) (fun h => ?_) | with_reducible refine condK_nb (fun h => ?_) (fun h => ?_) | refine condK_b (fun h => ?_) (fun h => ?_))
  · simp (maxSteps := 1000000) (disch := omega) only [go_sem, Nat.reduceAdd, Nat.reduceMul, Nat.reduceSub, Nat.reduceEqDiff, Nat.reduceLeDiff]
  obtain ⟨hw, hw2⟩ := szI_ok h
  have hs := smP_of (p := p) (n := 1048576) (by omega) (by omega)
  have hwm := wMP_small p
  have hgl : (wrongV p xs).length ≤ 2 ^ 20 := by have := wrongV_len p xs; omega
  have hspec := sWrongCells_run p xs hs hl
  have himpl := WrongCells_own p xs hs hl
  generalize wrongV p xs = R at hgl hspec himpl
  have hR : R.length ≤ 2 ^ 40 := by omega
  simp (maxSteps := 1000000) (disch := omega) only [go_sem, Nat.reduceAdd, Nat.reduceMul, Nat.reduceSub, Nat.reduceEqDiff, Nat.reduceLeDiff]
  first | refine OpS.mk (toPuzzle_run p hs) (⟨_, Try.func31, rfl, rfl⟩ : Enters Try.prog 31) rfl rfl rfl rfl rfl ?_ | refine Loud.mk (toPuzzle_run p hs) (⟨_, Try.func31, rfl, rfl⟩ : Enters Try.prog 31) rfl rfl rfl rfl rfl ?_
  simp (maxSteps := 1000000) (disch := omega) only [go_sem, Nat.reduceAdd, Nat.reduceMul, Nat.reduceSub, Nat.reduceEqDiff, Nat.reduceLeDiff]
  first | refine OpS.mk (toIntS_run xs hl) (⟨_, Try.func35, rfl, rfl⟩ : Enters Try.prog 35) rfl rfl rfl rfl rfl ?_ | refine Loud.mk (toIntS_run xs hl) (⟨_, Try.func35, rfl, rfl⟩ : Enters Try.prog 35) rfl rfl rfl rfl rfl ?_
  simp (maxSteps := 1000000) (disch := omega) only [go_sem, Nat.reduceAdd, Nat.reduceMul, Nat.reduceSub, Nat.reduceEqDiff, Nat.reduceLeDiff]
  first | refine OpS.mk (hspec) (⟨_, Try.func40, rfl, rfl⟩ : Enters Try.prog 40) rfl rfl rfl rfl rfl ?_ | refine Loud.mk (hspec) (⟨_, Try.func40, rfl, rfl⟩ : Enters Try.prog 40) rfl rfl rfl rfl rfl ?_
  simp (maxSteps := 1000000) (disch := omega) only [go_sem, Nat.reduceAdd, Nat.reduceMul, Nat.reduceSub, Nat.reduceEqDiff, Nat.reduceLeDiff]
  refine OpS.mkP (toPuzzle_deep p hs) (⟨_, Try.func31, rfl, rfl⟩ : Enters Try.prog 31) rfl rfl rfl ?_
  intro cs H1 S1 hP1 hS1
  simp only [List.length_cons, List.length_nil] at hS1
  obtain ⟨c1, c2, T1, T2, rfl, eS, k1, k2⟩ := hP1.ex
  simp (maxSteps := 1000000) (disch := omega) only [go_sem, Nat.reduceAdd, Nat.reduceMul, Nat.reduceSub, Nat.reduceEqDiff, Nat.reduceLeDiff, look_last, set_last]
  intro g2
  have hP2 := hP1.app (H' := [some ⟨g2, 3, [.f (.int .i64 p.size), c1, c2]⟩])
  refine OpS.mkI (toIntS_ownI xs hl) (⟨_, Try.func35, rfl, rfl⟩ : Enters Try.prog 35) rfl rfl rfl ?_
  intro cx H2 S2 hX1 hS2
  simp only [List.length_cons, List.length_append, List.length_nil] at hS2
  have hP3 := hP2.app (H' := H2)
  simp (maxSteps := 1000000) (disch := omega) only [go_sem, Nat.reduceAdd, Nat.reduceMul, Nat.reduceSub, Nat.reduceEqDiff, Nat.reduceLeDiff]
  rw [look_app_lt (by simp), look_last]
  simp (maxSteps := 1000000) (disch := omega) only [go_sem, Nat.reduceAdd, Nat.reduceMul, Nat.reduceSub, Nat.reduceEqDiff, Nat.reduceLeDiff]
  obtain ⟨HA, hHA⟩ : ∃ HA : Heap, HA = some ⟨g, 1, cP p⟩ :: (H1 ++ [some ⟨g2, 3, [.f (.int .i64 p.size), c1, c2]⟩] ++ H2) := ⟨_, rfl⟩
  have hA0 : look HA 0 g = some ⟨g, 1, cP p⟩ := by rw [hHA]; exact look_zero
  have hA1 : look HA (H1.length + 1) g2 = some ⟨g2, 3, [.f (.int .i64 p.size), c1, c2]⟩ := by
    rw [hHA, look_succ, look_app_lt (by simp)]
    exact look_last
  have hAl : HA.length = H1.length + 2 + H2.length := by rw [hHA]; simp; omega
  have hPA : OwnP HA [.f (.int .i64 p.size), c1, c2] p S1 := by rw [hHA]; exact hP3
  have hXA : OwnI HA cx xs S2 := by rw [hHA]; exact hX1
  rw [← hHA]
  clear hHA hP3 hX1 hP2 hP1
  refine OpS.mkDI himpl (⟨_, Try.func41, rfl, rfl⟩ : Enters Try.prog 41) rfl rfl (snap_two hPA.snap hXA.snap) ?_
  intro c H3 S3 hI1 hS3
  have hS3 : ∀ i ∈ S3, HA.length ≤ i ∧ i < HA.length + H3.length := hS3
  obtain ⟨HB, hHB⟩ : ∃ HB : Heap, HB = HA ++ H3 := ⟨_, rfl⟩
  have hB0 : look HB 0 g = some ⟨g, 1, cP p⟩ := by rw [hHB]; exact look_appL hA0
  have hB1 : look HB (H1.length + 1) g2 = some ⟨g2, 3, [.f (.int .i64 p.size), c1, c2]⟩ := by rw [hHB]; exact look_appL hA1
  have hPB : OwnP HB [.f (.int .i64 p.size), c1, c2] p S1 := by rw [hHB]; exact hPA.app
  have hXB : OwnI HB cx xs S2 := by rw [hHB]; exact hXA.app
  have hIB : OwnI HB c R S3 := by rw [hHB]; exact hI1
  simp (maxSteps := 1000000) (disch := omega) only [go_sem, Nat.reduceAdd, Nat.reduceMul, Nat.reduceSub, Nat.reduceEqDiff, Nat.reduceLeDiff]
  rw [← hHB]
  clear hHB hI1
  refine OpS.rdD (eqIntS_run R R hR) (⟨_, Try.func37, rfl, rfl⟩ : Enters Try.prog 37) rfl rfl (snap_two hIB.snap snapD_ints) rfl ?_
  simp (maxSteps := 1000000) (disch := omega) only [go_sem, Nat.reduceAdd, Nat.reduceMul, Nat.reduceSub, Nat.reduceEqDiff, Nat.reduceLeDiff]
  refine drawP_lF [0, 1, 2] [] none [3, 4] [] foll (by kernel_rfl) ?_
  simp (maxSteps := 1000000) (disch := omega) only [go_sem, Nat.reduceBEq, Bool.true_or, Nat.reduceAdd, Nat.reduceMul, Nat.reduceSub, Nat.reduceEqDiff, Nat.reduceLeDiff]
  simp (maxSteps := 1000000) (disch := omega) only [go_sem, Nat.reduceAdd, Nat.reduceMul, Nat.reduceSub, Nat.reduceEqDiff, Nat.reduceLeDiff, hB1, hB0]
  refine Loud.mk (toPuzzle_run p hs) (⟨_, Try.func31, rfl, rfl⟩ : Enters Try.prog 31) rfl rfl rfl rfl rfl ?_
  simp (maxSteps := 1000000) (disch := omega) only [go_sem, Nat.reduceAdd, Nat.reduceMul, Nat.reduceSub, Nat.reduceEqDiff, Nat.reduceLeDiff]
  refine OpS.rdD (eqPuzzle_run p p hs) (⟨_, Try.func33, rfl, rfl⟩ : Enters Try.prog 33) rfl rfl (snap_two hPB.snap snapD_aP) rfl ?_
  simp (maxSteps := 1000000) (disch := omega) only [go_sem, Nat.reduceAdd, Nat.reduceMul, Nat.reduceSub, Nat.reduceEqDiff, Nat.reduceLeDiff]
  first | refine OpS.mk (toIntS_run xs hl) (⟨_, Try.func35, rfl, rfl⟩ : Enters Try.prog 35) rfl rfl rfl rfl rfl ?_ | refine Loud.mk (toIntS_run xs hl) (⟨_, Try.func35, rfl, rfl⟩ : Enters Try.prog 35) rfl rfl rfl rfl rfl ?_
  simp (maxSteps := 1000000) (disch := omega) only [go_sem, Nat.reduceAdd, Nat.reduceMul, Nat.reduceSub, Nat.reduceEqDiff, Nat.reduceLeDiff]
  refine OpS.rdD (eqIntS_run xs xs hl) (⟨_, Try.func37, rfl, rfl⟩ : Enters Try.prog 37) rfl rfl (snap_two hXB.snap snapD_ints) rfl ?_
  simp (maxSteps := 1000000) (disch := omega) only [go_sem, Nat.reduceAdd, Nat.reduceMul, Nat.reduceSub, Nat.reduceEqDiff, Nat.reduceLeDiff, hB1]
  refine OpS.run (markPuzzle_deep _ _ p S1 1 hPB (by omega) hs) (⟨_, Try.func42, rfl, rfl⟩ : Enters Try.prog 42) rfl rfl ?_
  rintro _ H4 ⟨rfl, hp4, f4⟩
  have hX4 := hXB.frm f4 fun i hi hm => by
    have := hS2 i hi
    have := hS1 i hm
    omega
  have hI4 := hIB.frm f4 fun i hi hm => by
    have := hS3 i hi
    have := hS1 i hm
    omega
  have hb4 : look H4 0 g = some ⟨g, 1, cP p⟩ := by
    rw [f4.look fun hm => by have := hS1 0 hm; omega]
    exact hB0
  simp (maxSteps := 1000000) (disch := omega) only [go_sem, Nat.reduceAdd, Nat.reduceMul, Nat.reduceSub, Nat.reduceEqDiff, Nat.reduceLeDiff]
  refine OpS.run (markIntS_deep H4 cx xs S2 _ hX4 (by omega) hl) (⟨_, Try.func43, rfl, rfl⟩ : Enters Try.prog 43) rfl rfl ?_
  rintro _ H5 ⟨rfl, hx5, f5⟩
  have hI5 := hI4.frm f5 fun i hi hm => by
    have := hS3 i hi
    have := hS2 i hm
    omega
  have hb5 : look H5 0 g = some ⟨g, 1, cP p⟩ := by
    rw [f5.look fun hm => by have := hS2 0 hm; omega]
    exact hb4
  simp (maxSteps := 1000000) (disch := omega) only [go_sem, lt_no, lt_yes, le_no, le_yes, eq_no, eq_yes, Nat.reduceAdd, Nat.reduceMul, Nat.reduceSub, Nat.reduceEqDiff, Nat.reduceLeDiff]
  refine OpS.rdD (eqIntS_run R R hR) (⟨_, Try.func37, rfl, rfl⟩ : Enters Try.prog 37) rfl rfl (snap_two hI5.snap snapD_ints) rfl ?_
  simp (maxSteps := 1000000) (disch := omega) only [go_sem, Nat.reduceAdd, Nat.reduceMul, Nat.reduceSub, Nat.reduceEqDiff, Nat.reduceLeDiff]
  refine OpS.run (markIntS_deep H5 c R S3 1 hI5 (by omega) hR) (⟨_, Try.func43, rfl, rfl⟩ : Enters Try.prog 43) rfl rfl ?_
  rintro _ H6 ⟨rfl, hI6, f6⟩
  have hb6 : look H6 0 g = some ⟨g, 1, cP p⟩ := by
    rw [f6.look fun hm => by have := hS3 0 hm; omega]
    exact hb5
  simp (maxSteps := 1000000) (disch := omega) only [go_sem, Nat.reduceAdd, Nat.reduceMul, Nat.reduceSub, Nat.reduceEqDiff, Nat.reduceLeDiff]
  refine OpS.rdD (heldIntS_run R.length 1 (by omega) (by omega)) (⟨_, Try.func44, rfl, rfl⟩ : Enters Try.prog 44) rfl rfl (snap_two hI6.snap snapD_int) rfl ?_
  simp (maxSteps := 1000000) (disch := omega) only [go_sem, lt_no, lt_yes, le_no, le_yes, eq_no, eq_yes, Nat.reduceAdd, Nat.reduceMul, Nat.reduceSub, Nat.reduceEqDiff, Nat.reduceLeDiff]
  rw [hb6]
  simp (maxSteps := 1000000) (disch := omega) only [go_sem, Nat.reduceAdd, Nat.reduceMul, Nat.reduceSub, Nat.reduceEqDiff, Nat.reduceLeDiff]
  first | refine OpS.mk (toPuzzle_run p hs) (⟨_, Try.func31, rfl, rfl⟩ : Enters Try.prog 31) rfl rfl rfl rfl rfl ?_ | refine Loud.mk (toPuzzle_run p hs) (⟨_, Try.func31, rfl, rfl⟩ : Enters Try.prog 31) rfl rfl rfl rfl rfl ?_
  simp (maxSteps := 1000000) (disch := omega) only [go_sem, Nat.reduceAdd, Nat.reduceMul, Nat.reduceSub, Nat.reduceEqDiff, Nat.reduceLeDiff]
  first | refine OpS.mk (toIntS_run xs hl) (⟨_, Try.func35, rfl, rfl⟩ : Enters Try.prog 35) rfl rfl rfl rfl rfl ?_ | refine Loud.mk (toIntS_run xs hl) (⟨_, Try.func35, rfl, rfl⟩ : Enters Try.prog 35) rfl rfl rfl rfl rfl ?_
  simp (maxSteps := 1000000) (disch := omega) only [go_sem, Nat.reduceAdd, Nat.reduceMul, Nat.reduceSub, Nat.reduceEqDiff, Nat.reduceLeDiff]
  first | refine OpS.mk (Reads.ownI himpl) (⟨_, Try.func41, rfl, rfl⟩ : Enters Try.prog 41) rfl rfl rfl rfl rfl ?_ | refine Loud.mk (Reads.ownI himpl) (⟨_, Try.func41, rfl, rfl⟩ : Enters Try.prog 41) rfl rfl rfl rfl rfl ?_
  simp (maxSteps := 1000000) (disch := omega) only [go_sem, Nat.reduceAdd, Nat.reduceMul, Nat.reduceSub, Nat.reduceEqDiff, Nat.reduceLeDiff]
  first | refine OpS.rd (eqIntS_run R R hR) (⟨_, Try.func37, rfl, rfl⟩ : Enters Try.prog 37) rfl rfl rfl rfl ?_ | refine Loud.rd (eqIntS_run R R hR) (⟨_, Try.func37, rfl, rfl⟩ : Enters Try.prog 37) rfl rfl rfl rfl ?_
  simp (maxSteps := 1000000) (disch := omega) only [go_sem, Nat.reduceAdd, Nat.reduceMul, Nat.reduceSub, Nat.reduceEqDiff, Nat.reduceLeDiff]
  refine OpS.rdD (heldIntS_run R.length 1 (by omega) (by omega)) (⟨_, Try.func44, rfl, rfl⟩ : Enters Try.prog 44) rfl rfl (snap_two hI6.snap snapD_int) rfl ?_
  simp (maxSteps := 1000000) (disch := omega) only [go_sem, lt_no, lt_yes, le_no, le_yes, eq_no, eq_yes, Nat.reduceAdd, Nat.reduceMul, Nat.reduceSub, Nat.reduceEqDiff, Nat.reduceLeDiff]
end Go.Lg
