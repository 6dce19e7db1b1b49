/- GpFF, GpHA, GpIA, cut to what is needed. -/
import Derived.Test.YtcopagjhklcokaaQad7
import Derived.Test.YtcopagjhklcokaaQad0
import Derived.Test.YtcopagjhklcokaaQad2
set_option linter.unusedSimpArgs false
set_option linter.unusedVariables false
set_option maxRecDepth 100000
namespace Go.Lg
open Go.Proofs
theorem lessQ_ownI {H : Heap} {c : CV} {xs : List Int} {S : List Nat} (h : OwnI H c xs S) : lessQ H (ownIQ xs) (.c c) :=
  ⟨keepH S H, keepH_le _ _, c, S, rfl, h.same fun i hi => keepH_get hi (h.lt i hi), scalH_keep h.blk⟩
def countV (p : Puz) (most : Int) : Int := if puzzleValid p = true ∧ 1 ≤ most ∧ most ≤ 600 then (allS p most.toNat).length else -1
def firstV (p : Puz) : List Int := nth (allS p 1) 0
theorem allS_no {p : Puz} (h : ¬ puzzleValid p = true) (most : Nat) : allS p most = [] := by unfold allS; rw [if_neg (fun h' => h h'.1)]
theorem CountSolutions_run (p : Puz) (most : Int) (hx : smP p) : Reads Try.prog 19 [aP p, int most] (int (countV p most)) := by
  refine RunCall.cw (c := _) Try.func19 rfl (n := 22) Try.ntmps19 (rs := [.tmp 4]) rfl ?_
  simp only [List.length_cons, List.length_nil, Nat.reduceAdd, Nat.reduceSub, List.replicate, List.cons_append, List.nil_append]
  simp (maxSteps := 1000000) (disch := omega) only [go_sem, Nat.reduceAdd, Nat.reduceMul, Nat.reduceSub, Nat.reduceEqDiff, Nat.reduceLeDiff]
  intro g
  first | refine OpS.rd (PuzzleValid_run p hx) (⟨_, Try.func66, rfl, rfl⟩ : Enters Try.prog 66) rfl rfl rfl rfl ?_ | refine Loud.rd (PuzzleValid_run p hx) (⟨_, Try.func66, rfl, rfl⟩ : Enters Try.prog 66) rfl rfl rfl rfl ?_
  simp (maxSteps := 1000000) (disch := omega) only [go_sem, Nat.reduceAdd, Nat.reduceMul, Nat.reduceSub, Nat.reduceEqDiff, Nat.reduceLeDiff]
  (first | with_reducible refine guardK_dec (fun h1 => ?_) (fun h1 => ?_) <;> simp (maxSteps := 1000000) (disch := omega) only [go_sem, Nat.reduceAdd, Nat.reduceMul, Nat.reduceSub, Nat.reduceEqDiff, Nat.reduceLeDiff, h1] | with_reducible refine guardK_ndec (fun h1 => ?_) (fun h1 => ?_) <;> simp (maxSteps := 1000000) (disch := omega) only [go_sem, Nat.reduceAdd, Nat.reduceMul, Nat.reduceSub, Nat.reduceEqDiff, Nat.reduceLeDiff, h1] | with_reducible refine guardK_nb (fun h1 => ?_) (fun h1 => ?_) <;> simp (maxSteps := 1000000) (disch := omega) only [go_sem, Nat.reduceAdd, Nat.reduceMul, Nat.reduceSub, Nat.reduceEqDiff, Nat.reduceLeDiff, h1] | with_reducible refine guardK_split (fun h1 => ?_) (fun h1 => ?_) <;> simp (maxSteps := 1000000) (disch := omega) only [go_sem, Nat.reduceAdd, Nat.reduceMul, Nat.reduceSub, Nat.reduceEqDiff, Nat.reduceLeDiff, h1] | with_reducible refine guardQ_dec (fun h1 => ?_) (fun h1 => ?_) <;> simp (maxSteps := 1000000) (disch := omega) only [go_sem, Nat.reduceAdd, Nat.reduceMul, Nat.reduceSub, Nat.reduceEqDiff, Nat.reduceLeDiff, h1] | with_reducible refine guardL_dec (fun h1 => ?_) (fun h1 => ?_) <;> simp (maxSteps := 1000000) (disch := omega) only [go_sem, Nat.reduceAdd, Nat.reduceMul, Nat.reduceSub, Nat.reduceEqDiff, Nat.reduceLeDiff, h1] | with_reducible refine guardQ_ndec (fun h1 => ?_) (fun h1 => ?_) <;> simp (maxSteps := 1000000) (disch := omega) only [go_sem, Nat.reduceAdd, Nat.reduceMul, Nat.reduceSub, Nat.reduceEqDiff, Nat.reduceLeDiff, h1] | with_reducible refine guardL_ndec (fun h1 => ?_) (fun h1 => ?_) <;> simp (maxSteps := 1000000) (disch := omega) only [go_sem, Nat.reduceAdd, Nat.reduceMul, Nat.reduceSub, Nat.reduceEqDiff, Nat.reduceLeDiff, h1] | with_reducible refine guardQ_nb (fun h1 => ?_) (fun h1 => ?_) <;> simp (maxSteps := 1000000) (disch := omega) only [go_sem, Nat.reduceAdd, Nat.reduceMul, Nat.reduceSub, Nat.reduceEqDiff, Nat.reduceLeDiff, h1] | with_reducible refine guardL_nb (fun h1 => ?_) (fun h1 => ?_) <;> simp (maxSteps := 1000000) (disch := omega) only [go_sem, Nat.reduceAdd, Nat.reduceMul, Nat.reduceSub, Nat.reduceEqDiff, Nat.reduceLeDiff, h1] | with_reducible refine guardQ_split (fun h1 => ?_) (fun h1 => ?_) <;> simp (maxSteps := 1000000) (disch := omega) only [go_sem, Nat.reduceAdd, Nat.reduceMul, Nat.reduceSub, Nat.reduceEqDiff, Nat.reduceLeDiff, h1] | with_reducible refine guardL_split (fun h1 => ?_) (fun h1 => ?_) <;> simp (maxSteps := 1000000) (disch := omega) only [go_sem, Nat.reduceAdd, Nat.reduceMul, Nat.reduceSub, Nat.reduceEqDiff, Nat.reduceLeDiff, h1])
  rotate_left
  · unfold countV
    rw [if_neg (fun h => by rw [h.1] at h1; cases h1)]
  (first | with_reducible refine guardK_dec (fun h2 => ?_) (fun h2 => ?_) <;> simp (maxSteps := 1000000) (disch := omega) only [go_sem, Nat.reduceAdd, Nat.reduceMul, Nat.reduceSub, Nat.reduceEqDiff, Nat.reduceLeDiff, h2] | with_reducible refine guardK_ndec (fun h2 => ?_) (fun h2 => ?_) <;> simp (maxSteps := 1000000) (disch := omega) only [go_sem, Nat.reduceAdd, Nat.reduceMul, Nat.reduceSub, Nat.reduceEqDiff, Nat.reduceLeDiff, h2] | with_reducible refine guardK_nb (fun h2 => ?_) (fun h2 => ?_) <;> simp (maxSteps := 1000000) (disch := omega) only [go_sem, Nat.reduceAdd, Nat.reduceMul, Nat.reduceSub, Nat.reduceEqDiff, Nat.reduceLeDiff, h2] | with_reducible refine guardK_split (fun h2 => ?_) (fun h2 => ?_) <;> simp (maxSteps := 1000000) (disch := omega) only [go_sem, Nat.reduceAdd, Nat.reduceMul, Nat.reduceSub, Nat.reduceEqDiff, Nat.reduceLeDiff, h2] | with_reducible refine guardQ_dec (fun h2 => ?_) (fun h2 => ?_) <;> simp (maxSteps := 1000000) (disch := omega) only [go_sem, Nat.reduceAdd, Nat.reduceMul, Nat.reduceSub, Nat.reduceEqDiff, Nat.reduceLeDiff, h2] | with_reducible refine guardL_dec (fun h2 => ?_) (fun h2 => ?_) <;> simp (maxSteps := 1000000) (disch := omega) only [go_sem, Nat.reduceAdd, Nat.reduceMul, Nat.reduceSub, Nat.reduceEqDiff, Nat.reduceLeDiff, h2] | with_reducible refine guardQ_ndec (fun h2 => ?_) (fun h2 => ?_) <;> simp (maxSteps := 1000000) (disch := omega) only [go_sem, Nat.reduceAdd, Nat.reduceMul, Nat.reduceSub, Nat.reduceEqDiff, Nat.reduceLeDiff, h2] | with_reducible refine guardL_ndec (fun h2 => ?_) (fun h2 => ?_) <;> simp (maxSteps := 1000000) (disch := omega) only [go_sem, Nat.reduceAdd, Nat.reduceMul, Nat.reduceSub, Nat.reduceEqDiff, Nat.reduceLeDiff, h2] | with_reducible refine guardQ_nb (fun h2 => ?_) (fun h2 => ?_) <;> simp (maxSteps := 1000000) (disch := omega) only [go_sem, Nat.reduceAdd, Nat.reduceMul, Nat.reduceSub, Nat.reduceEqDiff, Nat.reduceLeDiff, h2] | with_reducible refine guardL_nb (fun h2 => ?_) (fun h2 => ?_) <;> simp (maxSteps := 1000000) (disch := omega) only [go_sem, Nat.reduceAdd, Nat.reduceMul, Nat.reduceSub, Nat.reduceEqDiff, Nat.reduceLeDiff, h2] | with_reducible refine guardQ_split (fun h2 => ?_) (fun h2 => ?_) <;> simp (maxSteps := 1000000) (disch := omega) only [go_sem, Nat.reduceAdd, Nat.reduceMul, Nat.reduceSub, Nat.reduceEqDiff, Nat.reduceLeDiff, h2] | with_reducible refine guardL_split (fun h2 => ?_) (fun h2 => ?_) <;> simp (maxSteps := 1000000) (disch := omega) only [go_sem, Nat.reduceAdd, Nat.reduceMul, Nat.reduceSub, Nat.reduceEqDiff, Nat.reduceLeDiff, h2])
  · unfold countV
    rw [if_neg (by omega)]
  (first | with_reducible refine condK_dec (fun h3 => ?_) (fun h3 => ?_) | with_reducible refine condK_ndec (fun h3 => ?_) (fun h3 => ?_) | with_reducible refine condK_nb (fun h3 => ?_) (fun h3 => ?_) | refine condK_b (fun h3 => ?_) (fun h3 => ?_))
  · simp (maxSteps := 1000000) (disch := omega) only [go_sem, Nat.reduceAdd, Nat.reduceMul, Nat.reduceSub, Nat.reduceEqDiff, Nat.reduceLeDiff]
    unfold countV
    rw [if_neg (by omega)]
  obtain ⟨k, rfl⟩ : ∃ k : Nat, most = k := ⟨most.toNat, by omega⟩
  simp (maxSteps := 1000000) (disch := omega) only [go_sem, Nat.reduceAdd, Nat.reduceMul, Nat.reduceSub, Nat.reduceEqDiff, Nat.reduceLeDiff]
  first | refine OpS.mk (first_all h1 k (by omega)) (⟨_, Try.func67, rfl, rfl⟩ : Enters Try.prog 67) rfl rfl rfl rfl rfl ?_ | refine Loud.mk (first_all h1 k (by omega)) (⟨_, Try.func67, rfl, rfl⟩ : Enters Try.prog 67) rfl rfl rfl rfl rfl ?_
  simp (maxSteps := 1000000) (disch := omega) only [go_sem, Nat.reduceAdd, Nat.reduceMul, Nat.reduceSub, Nat.reduceEqDiff, Nat.reduceLeDiff]
  unfold countV
  rw [if_pos ⟨h1, by omega, by omega⟩, Int.toNat_natCast]
theorem onlyOne_run (p : Puz) (hx : smP p) : Reads Try.prog 60 [aP p] (bool (decide (countV p 2 = 1))) := by
  refine RunCall.cw (c := _) Try.func60 rfl (n := 6) Try.ntmps60 (rs := [.tmp 2]) rfl ?_
  simp only [List.length_cons, List.length_nil, Nat.reduceAdd, Nat.reduceSub, List.replicate, List.cons_append, List.nil_append]
  simp (maxSteps := 1000000) (disch := omega) only [go_sem, Nat.reduceAdd, Nat.reduceMul, Nat.reduceSub, Nat.reduceEqDiff, Nat.reduceLeDiff]
  intro g
  first | refine OpS.rd (CountSolutions_run p 2 hx) (⟨_, Try.func19, rfl, rfl⟩ : Enters Try.prog 19) rfl rfl rfl rfl ?_ | refine Loud.rd (CountSolutions_run p 2 hx) (⟨_, Try.func19, rfl, rfl⟩ : Enters Try.prog 19) rfl rfl rfl rfl ?_
  simp (maxSteps := 1000000) (disch := omega) only [go_sem, Nat.reduceAdd, Nat.reduceMul, Nat.reduceSub, Nat.reduceEqDiff, Nat.reduceLeDiff]
theorem SolveFirst_run (p : Puz) (hx : smP p) : Reads Try.prog 20 [aP p] (.tup [ints (firstV p), bool (decide (0 < (allS p 1).length))]) := by
  refine Reads.iced ?_
  refine RunCall.cw (c := _) Try.func20 rfl (n := 18) Try.ntmps20 (rs := [.tmp 2, .tmp 3]) rfl ?_
  simp only [List.length_cons, List.length_nil, Nat.reduceAdd, Nat.reduceSub, List.replicate, List.cons_append, List.nil_append]
  simp (maxSteps := 1000000) (disch := omega) only [go_sem, Nat.reduceAdd, Nat.reduceMul, Nat.reduceSub, Nat.reduceEqDiff, Nat.reduceLeDiff]
  intro g
  first | refine OpS.rd (PuzzleValid_run p hx) (⟨_, Try.func66, rfl, rfl⟩ : Enters Try.prog 66) rfl rfl rfl rfl ?_ | refine Loud.rd (PuzzleValid_run p hx) (⟨_, Try.func66, rfl, rfl⟩ : Enters Try.prog 66) rfl rfl rfl rfl ?_
  simp (maxSteps := 1000000) (disch := omega) only [go_sem, Nat.reduceAdd, Nat.reduceMul, Nat.reduceSub, Nat.reduceEqDiff, Nat.reduceLeDiff]
  (first | with_reducible refine condK_dec (fun h1 => ?_) (fun h1 => ?_) | with_reducible refine condK_ndec (fun h1 => ?_) (fun h1 => ?_) | with_reducible refine condK_nb (fun h1 => ?_) (fun h1 => ?_) | refine condK_b (fun h1 => ?_) (fun h1 => ?_))
  rotate_left
  · simp (maxSteps := 1000000) (disch := omega) only [go_sem, Nat.reduceAdd, Nat.reduceMul, Nat.reduceSub, Nat.reduceEqDiff, Nat.reduceLeDiff]
    unfold firstV
    rw [allS_no (by rw [h1]; simp)]
    exact lessQ_ice rfl
  simp (maxSteps := 1000000) (disch := omega) only [go_sem, Nat.reduceAdd, Nat.reduceMul, Nat.reduceSub, Nat.reduceEqDiff, Nat.reduceLeDiff]
  first | refine OpS.mk (first_all h1 1 (by omega)) (⟨_, Try.func67, rfl, rfl⟩ : Enters Try.prog 67) rfl rfl rfl rfl rfl ?_ | refine Loud.mk (first_all h1 1 (by omega)) (⟨_, Try.func67, rfl, rfl⟩ : Enters Try.prog 67) rfl rfl rfl rfl rfl ?_
  simp (maxSteps := 1000000) (disch := omega) only [go_sem, Nat.reduceAdd, Nat.reduceMul, Nat.reduceSub, Nat.reduceEqDiff, Nat.reduceLeDiff]
  (first | with_reducible refine condK_dec (fun h2 => ?_) (fun h2 => ?_) | with_reducible refine condK_ndec (fun h2 => ?_) (fun h2 => ?_) | with_reducible refine condK_nb (fun h2 => ?_) (fun h2 => ?_) | refine condK_b (fun h2 => ?_) (fun h2 => ?_))
  · simp (maxSteps := 1000000) (disch := omega) only [go_sem, Nat.reduceAdd, Nat.reduceMul, Nat.reduceSub, Nat.reduceEqDiff, Nat.reduceLeDiff]
    have h2 : allS p 1 = [] := List.eq_nil_of_length_eq_zero (by omega)
    unfold firstV
    rw [h2]
    exact lessQ_ice rfl
  · simp (maxSteps := 1000000) (disch := omega) only [go_sem, Nat.reduceAdd, Nat.reduceMul, Nat.reduceSub, Nat.reduceEqDiff, Nat.reduceLeDiff]
    unfold firstV
    rw [decide_eq_true (by omega)]
    exact lessQ_ice rfl
theorem one_facts {p : Puz} (h : countV p 2 = 1) : puzzleValid p = true ∧ ∃ s, allS p 2 = [s] ∧ firstV p = s ∧ s.length = p.given.length := by
  unfold countV at h
  by_cases hv : puzzleValid p = true
  · rw [if_pos ⟨hv, by omega, by omega⟩] at h
    have h : (allS p 2).length = 1 := by have : ((2 : Int)).toNat = 2 := rfl; rw [this] at h; omega
    obtain ⟨s, hs⟩ := List.length_eq_one_iff.1 h
    refine ⟨hv, s, hs, ?_, allS_cell hv (most := 2) (by rw [hs]; simp)⟩
    have e : allS p 1 = [s] := by
      have e2 : allS p 1 = (allS p 2).take 1 := by
        unfold allS
        split
        · rw [List.take_take]; rfl
        · rfl
      rw [e2, hs]; rfl
    unfold firstV
    rw [e]; rfl
  · rw [if_neg (fun h' => hv h'.1)] at h
    omega
theorem not_one {p : Puz} (h : ¬ countV p 2 = 1) (xs : List Int) : wrongV p xs = [] := by
  unfold wrongV
  split
  · rename_i hv
    unfold countV at h
    rw [if_pos ⟨hv.1, by omega, by omega⟩] at h
    have : ((2 : Int)).toNat = 2 := rfl
    rw [this] at h
    match hL : allS p 2 with
    | [] => rfl
    | [s] => rw [hL] at h; simp at h
    | _ :: _ :: _ => rfl
  · rfl
theorem WrongCells_own (p : Puz) (xs : List Int) (hx : smP p) (hl : xs.length ≤ 2 ^ 40) : RunCall Try.prog 23 [aP p, ints xs] [] (ownIQ (wrongV p xs)) := by
  refine RunCall.nz ?_
  refine RunCall.cw (c := _) Try.func23 rfl (n := 49) Try.ntmps23 (rs := [.tmp 4]) rfl ?_
  simp only [List.length_cons, List.length_nil, Nat.reduceAdd, Nat.reduceSub, List.replicate, List.cons_append, List.nil_append]
  simp (maxSteps := 1000000) (disch := omega) only [go_sem, Nat.reduceAdd, Nat.reduceMul, Nat.reduceSub, Nat.reduceEqDiff, Nat.reduceLeDiff]
  intro g0
  first | refine OpS.rd (onlyOne_run p hx) (⟨_, Try.func60, rfl, rfl⟩ : Enters Try.prog 60) rfl rfl rfl rfl ?_ | refine Loud.rd (onlyOne_run p hx) (⟨_, Try.func60, rfl, rfl⟩ : Enters Try.prog 60) rfl rfl rfl rfl ?_
  simp (maxSteps := 1000000) (disch := omega) only [go_sem, Nat.reduceAdd, Nat.reduceMul, Nat.reduceSub, Nat.reduceEqDiff, Nat.reduceLeDiff]
  (first | with_reducible refine guardK_dec (fun h1 => ?_) (fun h1 => ?_) <;> simp (maxSteps := 1000000) (disch := omega) only [go_sem, Nat.reduceAdd, Nat.reduceMul, Nat.reduceSub, Nat.reduceEqDiff, Nat.reduceLeDiff, h1] | with_reducible refine guardK_ndec (fun h1 => ?_) (fun h1 => ?_) <;> simp (maxSteps := 1000000) (disch := omega) only [go_sem, Nat.reduceAdd, Nat.reduceMul, Nat.reduceSub, Nat.reduceEqDiff, Nat.reduceLeDiff, h1] | with_reducible refine guardK_nb (fun h1 => ?_) (fun h1 => ?_) <;> simp (maxSteps := 1000000) (disch := omega) only [go_sem, Nat.reduceAdd, Nat.reduceMul, Nat.reduceSub, Nat.reduceEqDiff, Nat.reduceLeDiff, h1] | with_reducible refine guardK_split (fun h1 => ?_) (fun h1 => ?_) <;> simp (maxSteps := 1000000) (disch := omega) only [go_sem, Nat.reduceAdd, Nat.reduceMul, Nat.reduceSub, Nat.reduceEqDiff, Nat.reduceLeDiff, h1] | with_reducible refine guardQ_dec (fun h1 => ?_) (fun h1 => ?_) <;> simp (maxSteps := 1000000) (disch := omega) only [go_sem, Nat.reduceAdd, Nat.reduceMul, Nat.reduceSub, Nat.reduceEqDiff, Nat.reduceLeDiff, h1] | with_reducible refine guardL_dec (fun h1 => ?_) (fun h1 => ?_) <;> simp (maxSteps := 1000000) (disch := omega) only [go_sem, Nat.reduceAdd, Nat.reduceMul, Nat.reduceSub, Nat.reduceEqDiff, Nat.reduceLeDiff, h1] | with_reducible refine guardQ_ndec (fun h1 => ?_) (fun h1 => ?_) <;> simp (maxSteps := 1000000) (disch := omega) only [go_sem, Nat.reduceAdd, Nat.reduceMul, Nat.reduceSub, Nat.reduceEqDiff, Nat.reduceLeDiff, h1] | with_reducible refine guardL_ndec (fun h1 => ?_) (fun h1 => ?_) <;> simp (maxSteps := 1000000) (disch := omega) only [go_sem, Nat.reduceAdd, Nat.reduceMul, Nat.reduceSub, Nat.reduceEqDiff, Nat.reduceLeDiff, h1] | with_reducible refine guardQ_nb (fun h1 => ?_) (fun h1 => ?_) <;> simp (maxSteps := 1000000) (disch := omega) only [go_sem, Nat.reduceAdd, Nat.reduceMul, Nat.reduceSub, Nat.reduceEqDiff, Nat.reduceLeDiff, h1] | with_reducible refine guardL_nb (fun h1 => ?_) (fun h1 => ?_) <;> simp (maxSteps := 1000000) (disch := omega) only [go_sem, Nat.reduceAdd, Nat.reduceMul, Nat.reduceSub, Nat.reduceEqDiff, Nat.reduceLeDiff, h1] | with_reducible refine guardQ_split (fun h1 => ?_) (fun h1 => ?_) <;> simp (maxSteps := 1000000) (disch := omega) only [go_sem, Nat.reduceAdd, Nat.reduceMul, Nat.reduceSub, Nat.reduceEqDiff, Nat.reduceLeDiff, h1] | with_reducible refine guardL_split (fun h1 => ?_) (fun h1 => ?_) <;> simp (maxSteps := 1000000) (disch := omega) only [go_sem, Nat.reduceAdd, Nat.reduceMul, Nat.reduceSub, Nat.reduceEqDiff, Nat.reduceLeDiff, h1])
  rotate_left
  · rw [not_one h1]
    exact lessQ_ownI .e
  first | refine OpS.rd (GridValid_run xs p.size (by omega)) (⟨_, Try.func69, rfl, rfl⟩ : Enters Try.prog 69) rfl rfl rfl rfl ?_ | refine Loud.rd (GridValid_run xs p.size (by omega)) (⟨_, Try.func69, rfl, rfl⟩ : Enters Try.prog 69) rfl rfl rfl rfl ?_
  simp (maxSteps := 1000000) (disch := omega) only [go_sem, Nat.reduceAdd, Nat.reduceMul, Nat.reduceSub, Nat.reduceEqDiff, Nat.reduceLeDiff]
  (first | with_reducible refine condK_dec (fun h2 => ?_) (fun h2 => ?_) | with_reducible refine condK_ndec (fun h2 => ?_) (fun h2 => ?_) | with_reducible refine condK_nb (fun h2 => ?_) (fun h2 => ?_) | refine condK_b (fun h2 => ?_) (fun h2 => ?_))
  rotate_left
  · simp (maxSteps := 1000000) (disch := omega) only [go_sem, Nat.reduceAdd, Nat.reduceMul, Nat.reduceSub, Nat.reduceEqDiff, Nat.reduceLeDiff]
    unfold wrongV
    rw [if_neg (fun h => by rw [h.2] at h2; cases h2)]
    exact lessQ_ownI .e
  obtain ⟨hv, s, hs, hf, hsl⟩ := one_facts h1
  obtain ⟨hp, hg, ha, hlen, hl4, hl16⟩ := grd_facts hv h2
  have hV : wrongV p xs = wrongL s xs xs.length := by unfold wrongV; rw [if_pos ⟨hv, h2⟩, hs]; rfl
  have hgv := hg.val
  simp (maxSteps := 1000000) (disch := omega) only [go_sem, Nat.reduceAdd, Nat.reduceMul, Nat.reduceSub, Nat.reduceEqDiff, Nat.reduceLeDiff]
  first | refine OpS.mk (SolveFirst_run p hx) (⟨_, Try.func20, rfl, rfl⟩ : Enters Try.prog 20) rfl rfl rfl rfl rfl ?_ | refine Loud.mk (SolveFirst_run p hx) (⟨_, Try.func20, rfl, rfl⟩ : Enters Try.prog 20) rfl rfl rfl rfl rfl ?_
  simp (maxSteps := 1000000) (disch := omega) only [go_sem, Nat.reduceAdd, Nat.reduceMul, Nat.reduceSub, Nat.reduceEqDiff, Nat.reduceLeDiff]
  rw [hf, hV]
  intro g1
  refine loop_rule2 (fun (k g : Nat) => xs.length - k) (fun k g => k ≤ xs.length) (fun k g => [.a, .a, .a, .a, .a, .k, .a, .p (.c (.own 1 g 0 (wrongL s xs k).length none)), .a, .a, .a, .a, .a, .a, .a, .a, .a, .a, .a, .a, .a, .a, .a, .a, .a, .a, .k, .k, .p (int k), .a, .a, .a, .a, .a, .a, .a, .a, .a, .a, .a, .a, .a, .a, .a, .a, .a, .a, .a, .a]) (fun k g => [some ⟨g0, 1, cP p⟩, some ⟨g, 1, cl (eI .i64) (wrongL s xs k)⟩]) 0 g1 (Nat.zero_le _) (by simp (maxSteps := 1000000) (disch := omega) only [go_sem, Nat.reduceAdd, Nat.reduceMul, Nat.reduceSub, Nat.reduceEqDiff, Nat.reduceLeDiff]; simp [wrongL]) (HLe.refl _) ?_
  intro k g hk
  have hwl := wrongL_len s xs k
  simp (maxSteps := 1000000) (disch := omega) only [go_sem, Nat.reduceAdd, Nat.reduceMul, Nat.reduceSub, Nat.reduceEqDiff, Nat.reduceLeDiff]
  (first | with_reducible refine condK_dec (fun c1 => ?_) (fun c1 => ?_) | with_reducible refine condK_ndec (fun c1 => ?_) (fun c1 => ?_) | with_reducible refine condK_nb (fun c1 => ?_) (fun c1 => ?_) | refine condK_b (fun c1 => ?_) (fun c1 => ?_))
  · have c1 : k < xs.length := by omega
    have hsucc := wrongL_succ (s := s) c1
    simp (maxSteps := 1000000) (disch := omega) only [go_sem, Nat.reduceAdd, Nat.reduceMul, Nat.reduceSub, Nat.reduceEqDiff, Nat.reduceLeDiff]
    (first | with_reducible refine guardK_dec (fun a => ?_) (fun a => ?_) <;> simp (maxSteps := 1000000) (disch := omega) only [go_sem, Nat.reduceAdd, Nat.reduceMul, Nat.reduceSub, Nat.reduceEqDiff, Nat.reduceLeDiff, a] | with_reducible refine guardK_ndec (fun a => ?_) (fun a => ?_) <;> simp (maxSteps := 1000000) (disch := omega) only [go_sem, Nat.reduceAdd, Nat.reduceMul, Nat.reduceSub, Nat.reduceEqDiff, Nat.reduceLeDiff, a] | with_reducible refine guardK_nb (fun a => ?_) (fun a => ?_) <;> simp (maxSteps := 1000000) (disch := omega) only [go_sem, Nat.reduceAdd, Nat.reduceMul, Nat.reduceSub, Nat.reduceEqDiff, Nat.reduceLeDiff, a] | with_reducible refine guardK_split (fun a => ?_) (fun a => ?_) <;> simp (maxSteps := 1000000) (disch := omega) only [go_sem, Nat.reduceAdd, Nat.reduceMul, Nat.reduceSub, Nat.reduceEqDiff, Nat.reduceLeDiff, a] | with_reducible refine guardQ_dec (fun a => ?_) (fun a => ?_) <;> simp (maxSteps := 1000000) (disch := omega) only [go_sem, Nat.reduceAdd, Nat.reduceMul, Nat.reduceSub, Nat.reduceEqDiff, Nat.reduceLeDiff, a] | with_reducible refine guardL_dec (fun a => ?_) (fun a => ?_) <;> simp (maxSteps := 1000000) (disch := omega) only [go_sem, Nat.reduceAdd, Nat.reduceMul, Nat.reduceSub, Nat.reduceEqDiff, Nat.reduceLeDiff, a] | with_reducible refine guardQ_ndec (fun a => ?_) (fun a => ?_) <;> simp (maxSteps := 1000000) (disch := omega) only [go_sem, Nat.reduceAdd, Nat.reduceMul, Nat.reduceSub, Nat.reduceEqDiff, Nat.reduceLeDiff, a] | with_reducible refine guardL_ndec (fun a => ?_) (fun a => ?_) <;> simp (maxSteps := 1000000) (disch := omega) only [go_sem, Nat.reduceAdd, Nat.reduceMul, Nat.reduceSub, Nat.reduceEqDiff, Nat.reduceLeDiff, a] | with_reducible refine guardQ_nb (fun a => ?_) (fun a => ?_) <;> simp (maxSteps := 1000000) (disch := omega) only [go_sem, Nat.reduceAdd, Nat.reduceMul, Nat.reduceSub, Nat.reduceEqDiff, Nat.reduceLeDiff, a] | with_reducible refine guardL_nb (fun a => ?_) (fun a => ?_) <;> simp (maxSteps := 1000000) (disch := omega) only [go_sem, Nat.reduceAdd, Nat.reduceMul, Nat.reduceSub, Nat.reduceEqDiff, Nat.reduceLeDiff, a] | with_reducible refine guardQ_split (fun a => ?_) (fun a => ?_) <;> simp (maxSteps := 1000000) (disch := omega) only [go_sem, Nat.reduceAdd, Nat.reduceMul, Nat.reduceSub, Nat.reduceEqDiff, Nat.reduceLeDiff, a] | with_reducible refine guardL_split (fun a => ?_) (fun a => ?_) <;> simp (maxSteps := 1000000) (disch := omega) only [go_sem, Nat.reduceAdd, Nat.reduceMul, Nat.reduceSub, Nat.reduceEqDiff, Nat.reduceLeDiff, a])
    · (first | with_reducible refine condK_dec (fun b => ?_) (fun b => ?_) | with_reducible refine condK_ndec (fun b => ?_) (fun b => ?_) | with_reducible refine condK_nb (fun b => ?_) (fun b => ?_) | refine condK_b (fun b => ?_) (fun b => ?_))
      · simp (maxSteps := 1000000) (disch := omega) only [go_sem, Nat.reduceAdd, Nat.reduceMul, Nat.reduceSub, Nat.reduceEqDiff, Nat.reduceLeDiff]
        rw [if_neg (fun h => h.2 b), List.append_nil] at hsucc
        refine ⟨k + 1, g, ⟨by omega, by omega⟩, ⟨by rw [hsucc]; exact ⟨rfl, rfl⟩, by push_cast; omega⟩, by rw [hsucc]; exact HLe.refl _⟩
      · simp (maxSteps := 1000000) (disch := omega) only [go_sem, Nat.reduceAdd, Nat.reduceMul, Nat.reduceSub, Nat.reduceEqDiff, Nat.reduceLeDiff]
        intro g2 g3
        rw [if_pos ⟨a, b⟩] at hsucc
        refine ⟨k + 1, g3, ⟨by omega, by omega⟩, ⟨by rw [hsucc, List.length_append]; exact ⟨rfl, rfl⟩, by push_cast; omega⟩, by rw [hsucc]; exact HLe.app [_, _] [_]⟩
    · rw [if_neg (fun h => a h.1), List.append_nil] at hsucc
      refine ⟨k + 1, g, ⟨by omega, by omega⟩, ⟨by rw [hsucc]; exact ⟨rfl, rfl⟩, by push_cast; omega⟩, by rw [hsucc]; exact HLe.refl _⟩
  · have hke : k = xs.length := by omega
    subst hke
    simp (maxSteps := 1000000) (disch := omega) only [go_sem, Nat.reduceAdd, Nat.reduceMul, Nat.reduceSub, Nat.reduceEqDiff, Nat.reduceLeDiff]
    exact lessQ_ownI (OwnI.o (H := [some ⟨g0, 1, cP p⟩, some ⟨g, 1, cl (eI .i64) (wrongL s xs xs.length)⟩]) 1 g none _ [] (by rw [List.append_nil]; simp only [go_sem]))
theorem wrongV_len (p : Puz) (xs : List Int) : (wrongV p xs).length ≤ xs.length := by
  unfold wrongV
  split
  · match allS p 2 with
    | [] => simp [wrongO]
    | [s] => exact wrongL_len _ _ _
    | _ :: _ :: _ => simp [wrongO]
  · simp
end Go.Lg

set_option linter.unusedSimpArgs false
set_option linter.unusedVariables false
set_option maxRecDepth 100000
namespace Go.Lg
open Go.Proofs
def Full (n : Nat) (s : List Int) : Prop := GrdN s n ∧ ∀ k : Nat, k < n * n → 0 < nth s k
def ExtG (xs s : List Int) : Prop := ∀ k : Nat, 0 < nth xs k → nth s k = nth xs k
instance (xs s : List Int) : Decidable (ExtG xs s) := decidable_of_iff (∀ k, k < xs.length → 0 < nth xs (k : Int) → nth s (k : Int) = nth xs (k : Int)) ⟨fun h k hk => by
  by_cases hl : k < xs.length
  · exact h k hl hk
  · rw [nth_over (by omega)] at hk; omega, fun h k _ => h k⟩
theorem ExtG.refl (xs : List Int) : ExtG xs xs := fun _ _ => rfl
theorem ExtG.trans {a b c : List Int} (h : ExtG a b) (k : ExtG b c) : ExtG a c := fun i hi => by
  have := h i hi
  rw [k i (by omega), this]
theorem ExtG.set {xs : List Int} {i : Nat} {v : Int} (hi : i < xs.length) (h0 : ¬ 0 < nth xs i) : ExtG xs (xs.set i v) := fun k hk => by
  rw [nth_setN _ _ _ _ hi, if_neg (fun h => by subst h; exact h0 hk)]
theorem ExtG.of_set {xs s : List Int} {i : Nat} {v : Int} (hi : i < xs.length) (h : ExtG xs s) (hv : nth s i = v) : ExtG (xs.set i v) s := fun k hk => by
  rw [nth_setN _ _ _ _ hi] at hk ⊢
  split
  · rename_i hki; subst hki; exact hv
  · rename_i hki; rw [if_neg hki] at hk; exact h k hk
theorem sols_fit (p : Puz) (n : Nat) : ∀ (m : Nat) (xs : List Int), fitsL p xs n = true → ∀ s ∈ sols p n m xs, fitsL p s n = true
  | 0, xs, hf, s, hs => by rw [sols, List.mem_singleton] at hs; subst hs; exact hf
  | m + 1, xs, hf, s, hs => by
    rw [sols_succ p n m xs rfl] at hs
    split at hs
    · exact sols_fit p n m xs hf s hs
    · obtain ⟨v, hv, hs⟩ := List.mem_flatMap.1 hs
      split at hs
      · rename_i h; exact sols_fit p n m _ h s hs
      · simp at hs
theorem mem_vals {n v : Nat} (h : 1 ≤ v ∧ v ≤ n) : v ∈ vals n 1 := by
  unfold vals
  rw [Nat.sub_self, List.drop_zero, List.mem_map]
  exact ⟨v - 1, List.mem_range.2 (by omega), by omega⟩
theorem vals_nodup (n : Nat) : (vals n 1).Nodup := by
  unfold vals
  rw [Nat.sub_self, List.drop_zero]
  exact List.pairwise_map.2 ((List.nodup_range (n := n)).imp fun h => by omega)
theorem sols_complete {p : Puz} {n : Nat} (hp : PuzN p n) {s : List Int} (hs : Full n s) (hf : fitsL p s n = true) : ∀ (m : Nat) (xs : List Int), m ≤ n * n → GrdN xs n → (∀ k : Nat, k < n * n - m → 0 < nth xs k) → ExtG xs s → s ∈ sols p n m xs
  | 0, xs, hm, hg, hk, he => by
    rw [sols, List.mem_singleton]
    refine ext_nth (by rw [hs.1.len, hg.len]) fun j hj => he j (hk j (by rw [hs.1.len] at hj; omega))
  | m + 1, xs, hm, hg, hk, he => by
    have hxl := hg.len
    obtain ⟨i, hi⟩ : ∃ i, i = xs.length - (m + 1) := ⟨_, rfl⟩
    have hil : i < xs.length := by omega
    rw [sols_succ p n m xs hi.symm]
    split
    · rename_i h0
      refine sols_complete hp hs hf m xs (by omega) hg (fun k hk' => ?_) he
      by_cases hki : k = i
      · rw [hki]; exact h0
      · exact hk k (by omega)
    · rename_i h0
      have hv := hs.1.val i (by rw [hs.1.len]; omega)
      have hv0 := hs.2 i (by omega)
      obtain ⟨v, hvv⟩ : ∃ v : Nat, nth s i = v := ⟨(nth s i).toNat, by omega⟩
      refine List.mem_flatMap.2 ⟨v, mem_vals (by omega), ?_⟩
      have hes := ExtG.of_set (v := (v : Int)) hil he hvv
      have hgs := hg.set (v := v) hil (by omega)
      rw [if_pos (fits_mono hp hgs hs.1 hes hf)]
      refine sols_complete hp hs hf m _ (by omega) hgs (fun k hk' => ?_) hes
      rw [nth_setN _ _ _ _ hil]
      split
      · omega
      · exact hk k (by omega)
theorem sols_nodup (p : Puz) {n : Nat} : ∀ (m : Nat) (xs : List Int), m ≤ n * n → GrdN xs n → (∀ k : Nat, k < n * n - m → 0 < nth xs k) → (sols p n m xs).Nodup
  | 0, xs, _, _, _ => by rw [sols]; simp
  | m + 1, xs, hm, hg, hk => by
    have hxl := hg.len
    obtain ⟨i, hi⟩ : ∃ i, i = xs.length - (m + 1) := ⟨_, rfl⟩
    have hil : i < xs.length := by omega
    rw [sols_succ p n m xs hi.symm]
    split
    · rename_i h0
      refine sols_nodup p m xs (by omega) hg fun k hk' => ?_
      by_cases hki : k = i
      · rw [hki]; exact h0
      · exact hk k (by omega)
    · have hkv : ∀ v : Nat, 1 ≤ v → ∀ k : Nat, k < n * n - m → 0 < nth (xs.set i (v : Int)) k := fun v hv k hk' => by
        rw [nth_setN _ _ _ _ hil]
        split
        · omega
        · exact hk k (by omega)
      rw [List.Nodup, List.pairwise_flatMap]
      refine ⟨fun v hv => ?_, (vals_nodup n).imp_of_mem fun {a b} ha hb hab x hx y hy hxy => ?_⟩
      · have hvb := vals_mem hv
        split
        · exact sols_nodup p m _ (by omega) (hg.set hil hvb.2) (hkv v hvb.1)
        · simp
      · subst hxy
        have hav := vals_mem ha
        have hbv := vals_mem hb
        split at hx
        · split at hy
          · have h1 := (sols_full p m _ (by omega) (hg.set hil hav.2) (hkv a hav.1) x hx).2.2 i (by rw [nth_setN _ _ _ _ hil, if_pos rfl]; omega)
            have h2 := (sols_full p m _ (by omega) (hg.set hil hbv.2) (hkv b hbv.1) x hy).2.2 i (by rw [nth_setN _ _ _ _ hil, if_pos rfl]; omega)
            rw [nth_setN _ _ _ _ hil, if_pos rfl] at h1 h2
            omega
          · simp at hy
        · simp at hx
def allL (p : Puz) : List (List Int) := if puzzleValid p = true ∧ fitsL p p.given p.size.toNat = true then sols p p.size.toNat (p.size.toNat * p.size.toNat) p.given else []
theorem allS_take (p : Puz) (most : Nat) : allS p most = (allL p).take most := by
  unfold allS allL
  split
  · rfl
  · simp
def IsSol (p : Puz) (s : List Int) : Prop := Full p.size.toNat s ∧ ExtG p.given s ∧ fitsL p s p.size.toNat = true
theorem puz_facts {p : Puz} (hv : puzzleValid p = true) : PuzN p p.size.toNat ∧ GrdN p.given p.size.toNat := by
  obtain ⟨hp, hz⟩ := PuzN.of hv
  exact ⟨hp, GrdN.of hp.hn (xs := p.given) (by rw [hz]; exact puzzleValid_grid' hv)⟩
theorem allL_mem {p : Puz} (hv : puzzleValid p = true) (s : List Int) : s ∈ allL p ↔ IsSol p s := by
  obtain ⟨hp, hg⟩ := puz_facts hv
  unfold allL
  constructor
  · intro h
    split at h
    · rename_i hf
      obtain ⟨q1, q2, q3⟩ := sols_full p _ _ (Nat.le_refl _) hg (fun k hk => absurd hk (by omega)) s h
      exact ⟨⟨q1, q2⟩, q3, sols_fit p _ _ _ hf.2 s h⟩
    · simp at h
  · rintro ⟨h1, h2, h3⟩
    rw [if_pos ⟨hv, fits_mono hp hg h1.1 h2 h3⟩]
    exact sols_complete hp h1 h3 _ _ (Nat.le_refl _) hg (fun k hk => absurd hk (by omega)) h2
theorem allL_nodup (p : Puz) : (allL p).Nodup := by
  unfold allL
  split
  · rename_i h
    exact sols_nodup p _ _ (Nat.le_refl _) (puz_facts h.1).2 (fun k hk => absurd hk (by omega))
  · simp
theorem nodup_le {α : Type} [DecidableEq α] : ∀ {a b : List α}, a.Nodup → (∀ x ∈ a, x ∈ b) → a.length ≤ b.length
  | [], _, _, _ => by simp
  | x :: a, b, hn, hs => by
    rw [List.nodup_cons] at hn
    have hx := hs x (by simp)
    have := nodup_le (a := a) (b := b.erase x) hn.2 fun y hy => by
      have hyb := hs y (by simp [hy])
      exact (List.mem_erase_of_ne (fun h => hn.1 (by rw [← h]; exact hy))).2 hyb
    rw [List.length_erase_of_mem hx] at this
    have := List.length_pos_of_mem hx
    simp only [List.length_cons]
    omega
theorem nodup_eq {α : Type} [DecidableEq α] {a b : List α} (ha : a.Nodup) (hb : b.Nodup) (h : ∀ x, x ∈ a ↔ x ∈ b) : a.length = b.length :=
  Nat.le_antisymm (nodup_le ha fun x hx => (h x).1 hx) (nodup_le hb fun x hx => (h x).2 hx)
theorem fin_mem {p : Puz} (hv : puzzleValid p = true) {xs : List Int} (hx : GrdN xs p.size.toNat) (s : List Int) : s ∈ (if fitsL p (withL p.given xs) p.size.toNat = true ∧ clear p xs = true then sols p p.size.toNat (p.size.toNat * p.size.toNat) (withL p.given xs) else []) ↔ IsSol p s ∧ ExtG xs s := by
  obtain ⟨hp, hg⟩ := puz_facts hv
  have hw := withL_grd hg hx
  have hlen : xs.length = p.given.length := by rw [hx.len, hg.len]
  constructor
  · intro h
    split at h
    · rename_i hf
      obtain ⟨q1, q2, q3⟩ := sols_full p _ _ (Nat.le_refl _) hw (fun k hk => absurd hk (by omega)) s h
      have hhas := clear_with hg hx hf.2
      refine ⟨⟨⟨q1, q2⟩, fun k hk => ?_, sols_fit p _ _ _ hf.1 s h⟩, fun k hk => ?_⟩
      · have := hhas k hk
        rw [q3 k (by omega), this]
      · have hkl : k < p.given.length := by
          by_cases hkl : k < xs.length
          · omega
          · rw [nth_over (by omega)] at hk; omega
        have e := withL_nth (b := xs) hkl
        rw [if_pos hk] at e
        rw [q3 k (by omega), e]
    · simp at h
  · rintro ⟨⟨h1, h2, h3⟩, h4⟩
    have hc : clear p xs = true := by
      simp only [clear, decide_eq_true_eq]
      rintro k hk ⟨a, b, c⟩
      have := h2 k a
      have := h4 k b
      omega
    have hew : ExtG (withL p.given xs) s := fun k hk => by
      by_cases hkl : k < p.given.length
      · rw [withL_nth hkl] at hk ⊢
        split
        · rename_i h; exact h4 k h
        · rename_i h; rw [if_neg h] at hk; exact h2 k hk
      · rw [nth_over (by rw [withL_len]; omega)] at hk; omega
    rw [if_pos ⟨fits_mono hp hw h1.1 hew h3, hc⟩]
    exact sols_complete hp h1 h3 _ _ (Nat.le_refl _) hw (fun k hk => absurd hk (by omega)) hew
theorem fin_nodup {p : Puz} (hv : puzzleValid p = true) {xs : List Int} (hx : GrdN xs p.size.toNat) : (if fitsL p (withL p.given xs) p.size.toNat = true ∧ clear p xs = true then sols p p.size.toNat (p.size.toNat * p.size.toNat) (withL p.given xs) else []).Nodup := by
  obtain ⟨hp, hg⟩ := puz_facts hv
  split
  · exact sols_nodup p _ _ (Nat.le_refl _) (withL_grd hg hx) (fun k hk => absurd hk (by omega))
  · simp
def extL (p : Puz) (xs : List Int) : List (List Int) := (allL p).filter fun s => decide (ExtG xs s)
theorem fin_len {p : Puz} (hv : puzzleValid p = true) {xs : List Int} (hx : GrdN xs p.size.toNat) (most : Nat) : (finL p p.size.toNat xs most).length = min most (extL p xs).length := by
  have h := nodup_eq (fin_nodup hv hx) ((allL_nodup p).filter _) (b := extL p xs) fun s => by
    rw [fin_mem hv hx, extL, List.mem_filter, allL_mem hv, decide_eq_true_eq]
  rw [← h]
  unfold finL
  split
  · rw [List.length_take]
  · simp
end Go.Lg

set_option linter.unusedSimpArgs false
set_option linter.unusedVariables false
set_option maxRecDepth 100000
namespace Go.Lg
open Go.Proofs
theorem can_ext {p : Puz} (hv : puzzleValid p = true) {xs : List Int} (hx : GrdN xs p.size.toNat) : canV p xs = decide (0 < (extL p xs).length) := by
  have hz : ((p.size.toNat : Nat) : Int) = p.size := (PuzN.of hv).2
  unfold canV
  rw [if_pos ⟨hv, by have := hx.valid (PuzN.of hv).1.hn; rwa [hz] at this⟩, fin_len hv hx, decide_eq_decide]
  omega
end Go.Lg
