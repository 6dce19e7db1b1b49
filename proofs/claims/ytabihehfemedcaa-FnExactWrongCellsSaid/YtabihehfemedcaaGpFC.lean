/- Counts and wrong cells, as the spec tells them. -/
import Derived.Test.YtabihehfemedcaaGpFB
set_option linter.unusedSimpArgs false
set_option linter.unusedVariables false
set_option maxRecDepth 100000
namespace Go.Lg
open Go.Proofs

def canV (p : Puz) (xs : List Int) : Bool := if puzzleValid p = true ∧ gridValid xs p.size = true then decide ((finL p p.size.toNat xs 1).length = 1) else false
theorem canV_finish (p : Puz) (xs : List Int) : canV p xs = decide (finishV p xs 1 = 1) := by
  unfold canV finishV
  by_cases h : puzzleValid p = true ∧ gridValid xs p.size = true
  · rw [if_pos h, if_pos ⟨h.1, h.2, by omega, by omega⟩]
    rw [decide_eq_decide]
    have e : (1 : Int).toNat = 1 := rfl
    rw [e]
    omega
  · rw [if_neg h, if_neg (fun h' => h ⟨h'.1, h'.2.1⟩)]
    rfl
theorem withP_sm {p : Puz} {xs : List Int} (h : smP p) : smP (withP p xs) := ⟨by show (withL p.given xs).length ≤ _; rw [withL_len]; exact h.1, h.2⟩
theorem grd_facts {p : Puz} {xs : List Int} (h1 : puzzleValid p = true) (h2 : gridValid xs p.size = true) : PuzN p p.size.toNat ∧ GrdN xs p.size.toNat ∧ GrdN p.given p.size.toNat ∧ p.given.length = xs.length ∧ 4 ≤ xs.length ∧ xs.length ≤ 16 := by
  obtain ⟨hp, hz⟩ := PuzN.of h1
  have hg := GrdN.of hp.hn (xs := xs) (by rw [hz]; exact h2)
  have ha := GrdN.of hp.hn (xs := p.given) (by rw [hz]; exact puzzleValid_grid' h1)
  have hsq : 4 ≤ p.size.toNat * p.size.toNat ∧ p.size.toNat * p.size.toNat ≤ 16 := by
    have := hp.hn
    rcases this with h | h | h <;> rw [h] <;> omega
  have := hg.len
  have := ha.len
  exact ⟨hp, hg, ha, by omega, by omega, by omega⟩
theorem sFinishCount_run (p : Puz) (xs : List Int) (most : Int) (hx : smP p) (hl : xs.length ≤ 2 ^ 40) : Reads Try.prog 34 [aP p, ints xs, int most] (int (finishV p xs most)) := by
  refine RunCall.cw (c := _) Try.func34 rfl (n := 32) Try.ntmps34 (rs := [.tmp 6]) rfl ?_
  simp only [List.length_cons, List.length_nil, Nat.reduceAdd, Nat.reduceSub, List.replicate, List.cons_append, List.nil_append]
  simp (maxSteps := 1000000) (disch := omega) only [go_sem, Nat.reduceAdd, Nat.reduceMul, Nat.reduceSub, Nat.reduceEqDiff, Nat.reduceLeDiff]
  intro g
  first | refine OpS.rd (sPuzzleValid_run p hx) (⟨_, Try.func52, rfl, rfl⟩ : Enters Try.prog 52) rfl rfl rfl rfl ?_ | refine Loud.rd (sPuzzleValid_run p hx) (⟨_, Try.func52, rfl, rfl⟩ : Enters Try.prog 52) rfl rfl rfl rfl ?_
  simp (maxSteps := 1000000) (disch := omega) only [go_sem, Nat.reduceAdd, Nat.reduceMul, Nat.reduceSub, Nat.reduceEqDiff, Nat.reduceLeDiff]
  (first | with_reducible refine guardK_dec (fun h1 => ?_) (fun h1 => ?_) <;> simp (maxSteps := 1000000) (disch := omega) only [go_sem, Nat.reduceAdd, Nat.reduceMul, Nat.reduceSub, Nat.reduceEqDiff, Nat.reduceLeDiff, h1] | with_reducible refine guardK_ndec (fun h1 => ?_) (fun h1 => ?_) <;> simp (maxSteps := 1000000) (disch := omega) only [go_sem, Nat.reduceAdd, Nat.reduceMul, Nat.reduceSub, Nat.reduceEqDiff, Nat.reduceLeDiff, h1] | with_reducible refine guardK_nb (fun h1 => ?_) (fun h1 => ?_) <;> simp (maxSteps := 1000000) (disch := omega) only [go_sem, Nat.reduceAdd, Nat.reduceMul, Nat.reduceSub, Nat.reduceEqDiff, Nat.reduceLeDiff, h1] | with_reducible refine guardK_split (fun h1 => ?_) (fun h1 => ?_) <;> simp (maxSteps := 1000000) (disch := omega) only [go_sem, Nat.reduceAdd, Nat.reduceMul, Nat.reduceSub, Nat.reduceEqDiff, Nat.reduceLeDiff, h1] | with_reducible refine guardQ_dec (fun h1 => ?_) (fun h1 => ?_) <;> simp (maxSteps := 1000000) (disch := omega) only [go_sem, Nat.reduceAdd, Nat.reduceMul, Nat.reduceSub, Nat.reduceEqDiff, Nat.reduceLeDiff, h1] | with_reducible refine guardL_dec (fun h1 => ?_) (fun h1 => ?_) <;> simp (maxSteps := 1000000) (disch := omega) only [go_sem, Nat.reduceAdd, Nat.reduceMul, Nat.reduceSub, Nat.reduceEqDiff, Nat.reduceLeDiff, h1] | with_reducible refine guardQ_ndec (fun h1 => ?_) (fun h1 => ?_) <;> simp (maxSteps := 1000000) (disch := omega) only [go_sem, Nat.reduceAdd, Nat.reduceMul, Nat.reduceSub, Nat.reduceEqDiff, Nat.reduceLeDiff, h1] | with_reducible refine guardL_ndec (fun h1 => ?_) (fun h1 => ?_) <;> simp (maxSteps := 1000000) (disch := omega) only [go_sem, Nat.reduceAdd, Nat.reduceMul, Nat.reduceSub, Nat.reduceEqDiff, Nat.reduceLeDiff, h1] | with_reducible refine guardQ_nb (fun h1 => ?_) (fun h1 => ?_) <;> simp (maxSteps := 1000000) (disch := omega) only [go_sem, Nat.reduceAdd, Nat.reduceMul, Nat.reduceSub, Nat.reduceEqDiff, Nat.reduceLeDiff, h1] | with_reducible refine guardL_nb (fun h1 => ?_) (fun h1 => ?_) <;> simp (maxSteps := 1000000) (disch := omega) only [go_sem, Nat.reduceAdd, Nat.reduceMul, Nat.reduceSub, Nat.reduceEqDiff, Nat.reduceLeDiff, h1] | with_reducible refine guardQ_split (fun h1 => ?_) (fun h1 => ?_) <;> simp (maxSteps := 1000000) (disch := omega) only [go_sem, Nat.reduceAdd, Nat.reduceMul, Nat.reduceSub, Nat.reduceEqDiff, Nat.reduceLeDiff, h1] | with_reducible refine guardL_split (fun h1 => ?_) (fun h1 => ?_) <;> simp (maxSteps := 1000000) (disch := omega) only [go_sem, Nat.reduceAdd, Nat.reduceMul, Nat.reduceSub, Nat.reduceEqDiff, Nat.reduceLeDiff, h1])
  rotate_left
  · unfold finishV
    rw [if_neg (fun h => by rw [h.1] at h1; cases h1)]
  first | refine OpS.rd (sGridValid_run xs p.size hl) (⟨_, Try.func53, rfl, rfl⟩ : Enters Try.prog 53) rfl rfl rfl rfl ?_ | refine Loud.rd (sGridValid_run xs p.size hl) (⟨_, Try.func53, rfl, rfl⟩ : Enters Try.prog 53) rfl rfl rfl rfl ?_
  simp (maxSteps := 1000000) (disch := omega) only [go_sem, Nat.reduceAdd, Nat.reduceMul, Nat.reduceSub, Nat.reduceEqDiff, Nat.reduceLeDiff]
  (first | with_reducible refine guardK_dec (fun h2 => ?_) (fun h2 => ?_) <;> simp (maxSteps := 1000000) (disch := omega) only [go_sem, Nat.reduceAdd, Nat.reduceMul, Nat.reduceSub, Nat.reduceEqDiff, Nat.reduceLeDiff, h2] | with_reducible refine guardK_ndec (fun h2 => ?_) (fun h2 => ?_) <;> simp (maxSteps := 1000000) (disch := omega) only [go_sem, Nat.reduceAdd, Nat.reduceMul, Nat.reduceSub, Nat.reduceEqDiff, Nat.reduceLeDiff, h2] | with_reducible refine guardK_nb (fun h2 => ?_) (fun h2 => ?_) <;> simp (maxSteps := 1000000) (disch := omega) only [go_sem, Nat.reduceAdd, Nat.reduceMul, Nat.reduceSub, Nat.reduceEqDiff, Nat.reduceLeDiff, h2] | with_reducible refine guardK_split (fun h2 => ?_) (fun h2 => ?_) <;> simp (maxSteps := 1000000) (disch := omega) only [go_sem, Nat.reduceAdd, Nat.reduceMul, Nat.reduceSub, Nat.reduceEqDiff, Nat.reduceLeDiff, h2] | with_reducible refine guardQ_dec (fun h2 => ?_) (fun h2 => ?_) <;> simp (maxSteps := 1000000) (disch := omega) only [go_sem, Nat.reduceAdd, Nat.reduceMul, Nat.reduceSub, Nat.reduceEqDiff, Nat.reduceLeDiff, h2] | with_reducible refine guardL_dec (fun h2 => ?_) (fun h2 => ?_) <;> simp (maxSteps := 1000000) (disch := omega) only [go_sem, Nat.reduceAdd, Nat.reduceMul, Nat.reduceSub, Nat.reduceEqDiff, Nat.reduceLeDiff, h2] | with_reducible refine guardQ_ndec (fun h2 => ?_) (fun h2 => ?_) <;> simp (maxSteps := 1000000) (disch := omega) only [go_sem, Nat.reduceAdd, Nat.reduceMul, Nat.reduceSub, Nat.reduceEqDiff, Nat.reduceLeDiff, h2] | with_reducible refine guardL_ndec (fun h2 => ?_) (fun h2 => ?_) <;> simp (maxSteps := 1000000) (disch := omega) only [go_sem, Nat.reduceAdd, Nat.reduceMul, Nat.reduceSub, Nat.reduceEqDiff, Nat.reduceLeDiff, h2] | with_reducible refine guardQ_nb (fun h2 => ?_) (fun h2 => ?_) <;> simp (maxSteps := 1000000) (disch := omega) only [go_sem, Nat.reduceAdd, Nat.reduceMul, Nat.reduceSub, Nat.reduceEqDiff, Nat.reduceLeDiff, h2] | with_reducible refine guardL_nb (fun h2 => ?_) (fun h2 => ?_) <;> simp (maxSteps := 1000000) (disch := omega) only [go_sem, Nat.reduceAdd, Nat.reduceMul, Nat.reduceSub, Nat.reduceEqDiff, Nat.reduceLeDiff, h2] | with_reducible refine guardQ_split (fun h2 => ?_) (fun h2 => ?_) <;> simp (maxSteps := 1000000) (disch := omega) only [go_sem, Nat.reduceAdd, Nat.reduceMul, Nat.reduceSub, Nat.reduceEqDiff, Nat.reduceLeDiff, h2] | with_reducible refine guardL_split (fun h2 => ?_) (fun h2 => ?_) <;> simp (maxSteps := 1000000) (disch := omega) only [go_sem, Nat.reduceAdd, Nat.reduceMul, Nat.reduceSub, Nat.reduceEqDiff, Nat.reduceLeDiff, h2])
  rotate_left
  · unfold finishV
    rw [if_neg (fun h => by rw [h.2.1] at h2; cases h2)]
  first | refine OpS.rd (l1In_run _ _ _) (⟨_, Try.func66, rfl, rfl⟩ : Enters Try.prog 66) rfl rfl rfl rfl ?_ | refine Loud.rd (l1In_run _ _ _) (⟨_, Try.func66, rfl, rfl⟩ : Enters Try.prog 66) rfl rfl rfl rfl ?_
  simp (maxSteps := 1000000) (disch := omega) only [go_sem, Nat.reduceAdd, Nat.reduceMul, Nat.reduceSub, Nat.reduceEqDiff, Nat.reduceLeDiff]
  (first | with_reducible refine condK_dec (fun h3 => ?_) (fun h3 => ?_) | with_reducible refine condK_ndec (fun h3 => ?_) (fun h3 => ?_) | with_reducible refine condK_nb (fun h3 => ?_) (fun h3 => ?_) | refine condK_b (fun h3 => ?_) (fun h3 => ?_))
  rotate_left
  · simp (maxSteps := 1000000) (disch := omega) only [go_sem, Nat.reduceAdd, Nat.reduceMul, Nat.reduceSub, Nat.reduceEqDiff, Nat.reduceLeDiff]
    unfold finishV
    rw [if_neg (by omega)]
  obtain ⟨hp, hg, ha, hlen, hl4, hl16⟩ := grd_facts h1 h2
  obtain ⟨k, rfl⟩ : ∃ k : Nat, most = k := ⟨most.toNat, by omega⟩
  have hV : finishV p xs k = (finL p p.size.toNat xs k).length := by unfold finishV; rw [if_pos ⟨h1, h2, h3⟩, Int.toNat_natCast]
  rw [hV, finL_spec hp h1 hg]
  simp (maxSteps := 1000000) (disch := omega) only [go_sem, Nat.reduceAdd, Nat.reduceMul, Nat.reduceSub, Nat.reduceEqDiff, Nat.reduceLeDiff]
  first | refine OpS.rd (sPuzzleFits_run p xs hx hl) (⟨_, Try.func85, rfl, rfl⟩ : Enters Try.prog 85) rfl rfl rfl rfl ?_ | refine Loud.rd (sPuzzleFits_run p xs hx hl) (⟨_, Try.func85, rfl, rfl⟩ : Enters Try.prog 85) rfl rfl rfl rfl ?_
  simp (maxSteps := 1000000) (disch := omega) only [go_sem, Nat.reduceAdd, Nat.reduceMul, Nat.reduceSub, Nat.reduceEqDiff, Nat.reduceLeDiff]
  rw [h1, h2, Bool.true_and, Bool.true_and]
  (first | with_reducible refine condK_dec (fun h4 => ?_) (fun h4 => ?_) | with_reducible refine condK_ndec (fun h4 => ?_) (fun h4 => ?_) | with_reducible refine condK_nb (fun h4 => ?_) (fun h4 => ?_) | refine condK_b (fun h4 => ?_) (fun h4 => ?_))
  rotate_left
  · simp (maxSteps := 1000000) (disch := omega) only [go_sem, Nat.reduceAdd, Nat.reduceMul, Nat.reduceSub, Nat.reduceEqDiff, Nat.reduceLeDiff]
    rw [if_neg (by rw [h4]; simp)]
    rfl
  rw [if_pos h4]
  simp (maxSteps := 1000000) (disch := omega) only [go_sem, Nat.reduceAdd, Nat.reduceMul, Nat.reduceSub, Nat.reduceEqDiff, Nat.reduceLeDiff]
  first | refine OpS.mk (l23With_run p xs (by omega) (by omega) (by omega)) (⟨_, Try.func86, rfl, rfl⟩ : Enters Try.prog 86) rfl rfl rfl rfl rfl ?_ | refine Loud.mk (l23With_run p xs (by omega) (by omega) (by omega)) (⟨_, Try.func86, rfl, rfl⟩ : Enters Try.prog 86) rfl rfl rfl rfl rfl ?_
  simp (maxSteps := 1000000) (disch := omega) only [go_sem, Nat.reduceAdd, Nat.reduceMul, Nat.reduceSub, Nat.reduceEqDiff, Nat.reduceLeDiff]
  have hle := allS_len (withP p xs) k
  first | refine OpS.mk (l5All_run (withP p xs) k (by omega) (withP_sm hx)) (⟨_, Try.func81, rfl, rfl⟩ : Enters Try.prog 81) rfl rfl rfl rfl rfl ?_ | refine Loud.mk (l5All_run (withP p xs) k (by omega) (withP_sm hx)) (⟨_, Try.func81, rfl, rfl⟩ : Enters Try.prog 81) rfl rfl rfl rfl rfl ?_
  simp (maxSteps := 1000000) (disch := omega) only [go_sem, Nat.reduceAdd, Nat.reduceMul, Nat.reduceSub, Nat.reduceEqDiff, Nat.reduceLeDiff]
theorem sCanFinish_run (p : Puz) (xs : List Int) (hx : smP p) (hl : xs.length ≤ 2 ^ 40) : Reads Try.prog 38 [aP p, ints xs] (bool (canV p xs)) := by
  refine RunCall.cw (c := _) Try.func38 rfl (n := 15) Try.ntmps38 (rs := [.tmp 4]) rfl ?_
  simp only [List.length_cons, List.length_nil, Nat.reduceAdd, Nat.reduceSub, List.replicate, List.cons_append, List.nil_append]
  simp (maxSteps := 1000000) (disch := omega) only [go_sem, Nat.reduceAdd, Nat.reduceMul, Nat.reduceSub, Nat.reduceEqDiff, Nat.reduceLeDiff]
  intro g
  first | refine OpS.rd (sPuzzleFits_run p xs hx hl) (⟨_, Try.func85, rfl, rfl⟩ : Enters Try.prog 85) rfl rfl rfl rfl ?_ | refine Loud.rd (sPuzzleFits_run p xs hx hl) (⟨_, Try.func85, rfl, rfl⟩ : Enters Try.prog 85) rfl rfl rfl rfl ?_
  simp (maxSteps := 1000000) (disch := omega) only [go_sem, Nat.reduceAdd, Nat.reduceMul, Nat.reduceSub, Nat.reduceEqDiff, Nat.reduceLeDiff]
  cases hc : (puzzleValid p && (gridValid xs p.size && fitsL p xs p.size.toNat)) with
  | false =>
    simp (maxSteps := 1000000) (disch := omega) only [go_sem, Nat.reduceAdd, Nat.reduceMul, Nat.reduceSub, Nat.reduceEqDiff, Nat.reduceLeDiff]
    unfold canV
    by_cases h : puzzleValid p = true ∧ gridValid xs p.size = true
    · rw [if_pos h]
      obtain ⟨hp, hg, _⟩ := grd_facts h.1 h.2
      rw [h.1, h.2, Bool.true_and, Bool.true_and] at hc
      rw [finL_spec hp h.1 hg, if_neg (by rw [hc]; simp)]
      rfl
    · rw [if_neg h]
  | true =>
    simp only [Bool.and_eq_true] at hc
    obtain ⟨h1, h2, h4⟩ := hc
    obtain ⟨hp, hg, ha, hlen, hl4, hl16⟩ := grd_facts h1 h2
    have hV : canV p xs = decide ((finL p p.size.toNat xs 1).length = 1) := by unfold canV; rw [if_pos ⟨h1, h2⟩]
    rw [hV, finL_spec hp h1 hg, if_pos h4]
    simp (maxSteps := 1000000) (disch := omega) only [go_sem, Nat.reduceAdd, Nat.reduceMul, Nat.reduceSub, Nat.reduceEqDiff, Nat.reduceLeDiff]
    first | refine OpS.mk (l23With_run p xs (by omega) (by omega) (by omega)) (⟨_, Try.func86, rfl, rfl⟩ : Enters Try.prog 86) rfl rfl rfl rfl rfl ?_ | refine Loud.mk (l23With_run p xs (by omega) (by omega) (by omega)) (⟨_, Try.func86, rfl, rfl⟩ : Enters Try.prog 86) rfl rfl rfl rfl rfl ?_
    simp (maxSteps := 1000000) (disch := omega) only [go_sem, Nat.reduceAdd, Nat.reduceMul, Nat.reduceSub, Nat.reduceEqDiff, Nat.reduceLeDiff]
    have hle := allS_len (withP p xs) 1
    first | refine OpS.mk (l5All_run (withP p xs) 1 (by omega) (withP_sm hx)) (⟨_, Try.func81, rfl, rfl⟩ : Enters Try.prog 81) rfl rfl rfl rfl rfl ?_ | refine Loud.mk (l5All_run (withP p xs) 1 (by omega) (withP_sm hx)) (⟨_, Try.func81, rfl, rfl⟩ : Enters Try.prog 81) rfl rfl rfl rfl rfl ?_
    simp (maxSteps := 1000000) (disch := omega) only [go_sem, Nat.reduceAdd, Nat.reduceMul, Nat.reduceSub, Nat.reduceEqDiff, Nat.reduceLeDiff]
    rw [decide_eq_decide]
    omega
theorem wrongL_succ {s xs : List Int} {k : Nat} (h : k < xs.length) : wrongL s xs (k + 1) = wrongL s xs k ++ if 0 < nth xs k ∧ nth xs k ≠ nth s k then [(k : Int)] else [] := by
  unfold wrongL
  rw [List.take_succ_eq_append_getElem (by simpa using h), List.flatMap_append]
  simp
theorem wrongL_len (s xs : List Int) (k : Nat) : (wrongL s xs k).length ≤ k := by
  unfold wrongL
  rw [List.length_flatMap]
  have : ∀ (l : List Nat), (l.map fun (i : Nat) => (if 0 < nth xs i ∧ nth xs i ≠ nth s i then [(i : Int)] else []).length).sum ≤ l.length := by
    intro l
    induction l with
    | nil => simp
    | cons v l ih =>
      simp only [List.map_cons, List.sum_cons, List.length_cons]
      have : (if 0 < nth xs (v : Int) ∧ nth xs v ≠ nth s v then [(v : Int)] else []).length ≤ 1 := by split <;> simp
      omega
  refine Nat.le_trans (this _) ?_
  rw [List.length_take, List.length_range]
  omega
theorem wrongL_0 (s xs : List Int) : wrongL s xs 0 = [] := by simp [wrongL]
theorem ice_own1 {g : Nat} {b : Blk} {xs : List Int} : lessQ [some b, some ⟨g, 1, cl (eI .i64) xs⟩] (iceQ (ints xs)) (.c (.own 1 g 0 xs.length none)) := by
  have hown : OwnI [some b, some ⟨g, 1, cl (eI .i64) xs⟩] (.own 1 g 0 xs.length none) xs [1] := OwnI.o (H := [some b, some ⟨g, 1, cl (eI .i64) xs⟩]) 1 g none xs [] (by rw [List.append_nil]; simp only [go_sem])
  exact lessQ_ice (by simp only [frzA, frz1, hown.frzC, Option.map_some])
theorem sWrongCells_run (p : Puz) (xs : List Int) (hx : smP p) (hl : xs.length ≤ 2 ^ 40) : Reads Try.prog 40 [aP p, ints xs] (ints (wrongV p xs)) := by
  have hle := allS_len p 2
  refine Reads.iced ?_
  refine RunCall.cw (c := _) Try.func40 rfl (n := 56) Try.ntmps40 (rs := [.tmp 4]) rfl ?_
  simp only [List.length_cons, List.length_nil, Nat.reduceAdd, Nat.reduceSub, List.replicate, List.cons_append, List.nil_append]
  simp (maxSteps := 1000000) (disch := omega) only [go_sem, Nat.reduceAdd, Nat.reduceMul, Nat.reduceSub, Nat.reduceEqDiff, Nat.reduceLeDiff]
  intro g0 g1
  first | refine OpS.rd (sPuzzleValid_run p hx) (⟨_, Try.func52, rfl, rfl⟩ : Enters Try.prog 52) rfl rfl rfl rfl ?_ | refine Loud.rd (sPuzzleValid_run p hx) (⟨_, Try.func52, rfl, rfl⟩ : Enters Try.prog 52) rfl rfl rfl rfl ?_
  simp (maxSteps := 1000000) (disch := omega) only [go_sem, Nat.reduceAdd, Nat.reduceMul, Nat.reduceSub, Nat.reduceEqDiff, Nat.reduceLeDiff]
  (first | with_reducible refine guardK_dec (fun h1 => ?_) (fun h1 => ?_) <;> simp (maxSteps := 1000000) (disch := omega) only [go_sem, Nat.reduceAdd, Nat.reduceMul, Nat.reduceSub, Nat.reduceEqDiff, Nat.reduceLeDiff, h1] | with_reducible refine guardK_ndec (fun h1 => ?_) (fun h1 => ?_) <;> simp (maxSteps := 1000000) (disch := omega) only [go_sem, Nat.reduceAdd, Nat.reduceMul, Nat.reduceSub, Nat.reduceEqDiff, Nat.reduceLeDiff, h1] | with_reducible refine guardK_nb (fun h1 => ?_) (fun h1 => ?_) <;> simp (maxSteps := 1000000) (disch := omega) only [go_sem, Nat.reduceAdd, Nat.reduceMul, Nat.reduceSub, Nat.reduceEqDiff, Nat.reduceLeDiff, h1] | with_reducible refine guardK_split (fun h1 => ?_) (fun h1 => ?_) <;> simp (maxSteps := 1000000) (disch := omega) only [go_sem, Nat.reduceAdd, Nat.reduceMul, Nat.reduceSub, Nat.reduceEqDiff, Nat.reduceLeDiff, h1] | with_reducible refine guardQ_dec (fun h1 => ?_) (fun h1 => ?_) <;> simp (maxSteps := 1000000) (disch := omega) only [go_sem, Nat.reduceAdd, Nat.reduceMul, Nat.reduceSub, Nat.reduceEqDiff, Nat.reduceLeDiff, h1] | with_reducible refine guardL_dec (fun h1 => ?_) (fun h1 => ?_) <;> simp (maxSteps := 1000000) (disch := omega) only [go_sem, Nat.reduceAdd, Nat.reduceMul, Nat.reduceSub, Nat.reduceEqDiff, Nat.reduceLeDiff, h1] | with_reducible refine guardQ_ndec (fun h1 => ?_) (fun h1 => ?_) <;> simp (maxSteps := 1000000) (disch := omega) only [go_sem, Nat.reduceAdd, Nat.reduceMul, Nat.reduceSub, Nat.reduceEqDiff, Nat.reduceLeDiff, h1] | with_reducible refine guardL_ndec (fun h1 => ?_) (fun h1 => ?_) <;> simp (maxSteps := 1000000) (disch := omega) only [go_sem, Nat.reduceAdd, Nat.reduceMul, Nat.reduceSub, Nat.reduceEqDiff, Nat.reduceLeDiff, h1] | with_reducible refine guardQ_nb (fun h1 => ?_) (fun h1 => ?_) <;> simp (maxSteps := 1000000) (disch := omega) only [go_sem, Nat.reduceAdd, Nat.reduceMul, Nat.reduceSub, Nat.reduceEqDiff, Nat.reduceLeDiff, h1] | with_reducible refine guardL_nb (fun h1 => ?_) (fun h1 => ?_) <;> simp (maxSteps := 1000000) (disch := omega) only [go_sem, Nat.reduceAdd, Nat.reduceMul, Nat.reduceSub, Nat.reduceEqDiff, Nat.reduceLeDiff, h1] | with_reducible refine guardQ_split (fun h1 => ?_) (fun h1 => ?_) <;> simp (maxSteps := 1000000) (disch := omega) only [go_sem, Nat.reduceAdd, Nat.reduceMul, Nat.reduceSub, Nat.reduceEqDiff, Nat.reduceLeDiff, h1] | with_reducible refine guardL_split (fun h1 => ?_) (fun h1 => ?_) <;> simp (maxSteps := 1000000) (disch := omega) only [go_sem, Nat.reduceAdd, Nat.reduceMul, Nat.reduceSub, Nat.reduceEqDiff, Nat.reduceLeDiff, h1])
  rotate_left
  · unfold wrongV
    rw [if_neg (fun h => by rw [h.1] at h1; cases h1)]
    exact ice_own1 (xs := [])
  first | refine OpS.rd (sGridValid_run xs p.size hl) (⟨_, Try.func53, rfl, rfl⟩ : Enters Try.prog 53) rfl rfl rfl rfl ?_ | refine Loud.rd (sGridValid_run xs p.size hl) (⟨_, Try.func53, rfl, rfl⟩ : Enters Try.prog 53) rfl rfl rfl rfl ?_
  simp (maxSteps := 1000000) (disch := omega) only [go_sem, Nat.reduceAdd, Nat.reduceMul, Nat.reduceSub, Nat.reduceEqDiff, Nat.reduceLeDiff]
  (first | with_reducible refine condK_dec (fun h2 => ?_) (fun h2 => ?_) | with_reducible refine condK_ndec (fun h2 => ?_) (fun h2 => ?_) | with_reducible refine condK_nb (fun h2 => ?_) (fun h2 => ?_) | refine condK_b (fun h2 => ?_) (fun h2 => ?_))
  rotate_left
  · simp (maxSteps := 1000000) (disch := omega) only [go_sem, Nat.reduceAdd, Nat.reduceMul, Nat.reduceSub, Nat.reduceEqDiff, Nat.reduceLeDiff]
    unfold wrongV
    rw [if_neg (fun h => by rw [h.2] at h2; cases h2)]
    exact ice_own1 (xs := [])
  obtain ⟨hp, hg, ha, hlen, hl4, hl16⟩ := grd_facts h1 h2
  simp (maxSteps := 1000000) (disch := omega) only [go_sem, Nat.reduceAdd, Nat.reduceMul, Nat.reduceSub, Nat.reduceEqDiff, Nat.reduceLeDiff]
  first | refine OpS.mk (l5All_run p 2 (by omega) hx) (⟨_, Try.func81, rfl, rfl⟩ : Enters Try.prog 81) rfl rfl rfl rfl rfl ?_ | refine Loud.mk (l5All_run p 2 (by omega) hx) (⟨_, Try.func81, rfl, rfl⟩ : Enters Try.prog 81) rfl rfl rfl rfl rfl ?_
  simp (maxSteps := 1000000) (disch := omega) only [go_sem, Nat.reduceAdd, Nat.reduceMul, Nat.reduceSub, Nat.reduceEqDiff, Nat.reduceLeDiff]
  have hcell := fun s hs => allS_cell (most := 2) (s := s) h1 hs
  have hV : wrongV p xs = wrongO (allS p 2) xs := by unfold wrongV; rw [if_pos ⟨h1, h2⟩]
  rw [hV]
  generalize allS p 2 = L at hle hcell
  by_cases hL : L.length = 1
  · obtain ⟨s, rfl⟩ := List.length_eq_one_iff.1 hL
    have hsl := hcell s (by simp)
    have hs0 : nth [s] (0 : Int) = s := rfl
    refine loop_rule2 (fun (k g : Nat) => xs.length - k) (fun k g => k ≤ xs.length) (fun k g => [.a, .k, .a, .a, .a, .p (.c (.own 1 g 0 (wrongL s xs k).length none)), .k, .p (int k), .a, .a, .a, .a, .a, .a, .a, .a, .a, .a, .a, .a, .a, .a, .a, .a, .a, .a, .a, .a, .a, .a, .a, .a, .a, .a, .a, .a, .a, .a, .a, .a, .a, .a, .a, .a, .a, .a, .a, .a, .a, .a, .a, .a, .a, .a, .a, .a]) (fun k g => [some ⟨g0, 1, cP p⟩, some ⟨g, 1, cl (eI .i64) (wrongL s xs k)⟩]) 0 g1 (Nat.zero_le _) (by simp (maxSteps := 1000000) (disch := omega) only [go_sem, Nat.reduceAdd, Nat.reduceMul, Nat.reduceSub, Nat.reduceEqDiff, Nat.reduceLeDiff]; simp [wrongL]) (HLe.refl _) ?_
    intro k g hk
    have hwl := wrongL_len s xs k
    simp (maxSteps := 1000000) (disch := omega) only [go_sem, Nat.reduceAdd, Nat.reduceMul, Nat.reduceSub, Nat.reduceEqDiff, Nat.reduceLeDiff]
    (first | with_reducible refine guardK_dec (fun c1 => ?_) (fun c1 => ?_) <;> simp (maxSteps := 1000000) (disch := omega) only [go_sem, Nat.reduceAdd, Nat.reduceMul, Nat.reduceSub, Nat.reduceEqDiff, Nat.reduceLeDiff, c1] | with_reducible refine guardK_ndec (fun c1 => ?_) (fun c1 => ?_) <;> simp (maxSteps := 1000000) (disch := omega) only [go_sem, Nat.reduceAdd, Nat.reduceMul, Nat.reduceSub, Nat.reduceEqDiff, Nat.reduceLeDiff, c1] | with_reducible refine guardK_nb (fun c1 => ?_) (fun c1 => ?_) <;> simp (maxSteps := 1000000) (disch := omega) only [go_sem, Nat.reduceAdd, Nat.reduceMul, Nat.reduceSub, Nat.reduceEqDiff, Nat.reduceLeDiff, c1] | with_reducible refine guardK_split (fun c1 => ?_) (fun c1 => ?_) <;> simp (maxSteps := 1000000) (disch := omega) only [go_sem, Nat.reduceAdd, Nat.reduceMul, Nat.reduceSub, Nat.reduceEqDiff, Nat.reduceLeDiff, c1] | with_reducible refine guardQ_dec (fun c1 => ?_) (fun c1 => ?_) <;> simp (maxSteps := 1000000) (disch := omega) only [go_sem, Nat.reduceAdd, Nat.reduceMul, Nat.reduceSub, Nat.reduceEqDiff, Nat.reduceLeDiff, c1] | with_reducible refine guardL_dec (fun c1 => ?_) (fun c1 => ?_) <;> simp (maxSteps := 1000000) (disch := omega) only [go_sem, Nat.reduceAdd, Nat.reduceMul, Nat.reduceSub, Nat.reduceEqDiff, Nat.reduceLeDiff, c1] | with_reducible refine guardQ_ndec (fun c1 => ?_) (fun c1 => ?_) <;> simp (maxSteps := 1000000) (disch := omega) only [go_sem, Nat.reduceAdd, Nat.reduceMul, Nat.reduceSub, Nat.reduceEqDiff, Nat.reduceLeDiff, c1] | with_reducible refine guardL_ndec (fun c1 => ?_) (fun c1 => ?_) <;> simp (maxSteps := 1000000) (disch := omega) only [go_sem, Nat.reduceAdd, Nat.reduceMul, Nat.reduceSub, Nat.reduceEqDiff, Nat.reduceLeDiff, c1] | with_reducible refine guardQ_nb (fun c1 => ?_) (fun c1 => ?_) <;> simp (maxSteps := 1000000) (disch := omega) only [go_sem, Nat.reduceAdd, Nat.reduceMul, Nat.reduceSub, Nat.reduceEqDiff, Nat.reduceLeDiff, c1] | with_reducible refine guardL_nb (fun c1 => ?_) (fun c1 => ?_) <;> simp (maxSteps := 1000000) (disch := omega) only [go_sem, Nat.reduceAdd, Nat.reduceMul, Nat.reduceSub, Nat.reduceEqDiff, Nat.reduceLeDiff, c1] | with_reducible refine guardQ_split (fun c1 => ?_) (fun c1 => ?_) <;> simp (maxSteps := 1000000) (disch := omega) only [go_sem, Nat.reduceAdd, Nat.reduceMul, Nat.reduceSub, Nat.reduceEqDiff, Nat.reduceLeDiff, c1] | with_reducible refine guardL_split (fun c1 => ?_) (fun c1 => ?_) <;> simp (maxSteps := 1000000) (disch := omega) only [go_sem, Nat.reduceAdd, Nat.reduceMul, Nat.reduceSub, Nat.reduceEqDiff, Nat.reduceLeDiff, c1])
    · have c1 : k < xs.length := by omega
      (first | with_reducible refine condK_dec (fun c2 => ?_) (fun c2 => ?_) | with_reducible refine condK_ndec (fun c2 => ?_) (fun c2 => ?_) | with_reducible refine condK_nb (fun c2 => ?_) (fun c2 => ?_) | refine condK_b (fun c2 => ?_) (fun c2 => ?_))
      rotate_left
      · exfalso; omega
      have hsucc := wrongL_succ (s := s) c1
      simp (maxSteps := 1000000) (disch := omega) only [go_sem, Nat.reduceAdd, Nat.reduceMul, Nat.reduceSub, Nat.reduceEqDiff, Nat.reduceLeDiff]
      by_cases a : 0 < nth xs k
      · by_cases b : nth xs k = nth s k
        · refine drawP_q foll (by kernel_rfl) ?_
          simp (maxSteps := 1000000) (disch := omega) only [go_sem, Nat.reduceAdd, Nat.reduceMul, Nat.reduceSub, Nat.reduceEqDiff, Nat.reduceLeDiff, lt_yes, lt_no, eq_yes, eq_no, hs0]
          rw [if_neg (fun h => h.2 b), List.append_nil] at hsucc
          refine ⟨k + 1, g, ⟨by omega, by omega⟩, ⟨by rw [hsucc]; exact ⟨rfl, rfl⟩, by push_cast; omega⟩, by rw [hsucc]; exact HLe.refl _⟩
        · refine drawP_q foll (by kernel_rfl) ?_
          simp (maxSteps := 1000000) (disch := omega) only [go_sem, Nat.reduceAdd, Nat.reduceMul, Nat.reduceSub, Nat.reduceEqDiff, Nat.reduceLeDiff, lt_yes, lt_no, eq_yes, eq_no, hs0]
          intro g2 g3
          rw [if_pos ⟨a, b⟩] at hsucc
          refine ⟨k + 1, g3, ⟨by omega, by omega⟩, ⟨by rw [hsucc, List.length_append]; exact ⟨rfl, rfl⟩, by push_cast; omega⟩, by rw [hsucc]; exact HLe.app [_, _] [_]⟩
      · refine drawP_q foll (by kernel_rfl) ?_
        simp (maxSteps := 1000000) (disch := omega) only [go_sem, Nat.reduceAdd, Nat.reduceMul, Nat.reduceSub, Nat.reduceEqDiff, Nat.reduceLeDiff, lt_yes, lt_no, eq_yes, eq_no, hs0]
        rw [if_neg (fun h => a h.1), List.append_nil] at hsucc
        refine ⟨k + 1, g, ⟨by omega, by omega⟩, ⟨by rw [hsucc]; exact ⟨rfl, rfl⟩, by push_cast; omega⟩, by rw [hsucc]; exact HLe.refl _⟩
    · have hke : k = xs.length := by omega
      have e : wrongO [s] xs = wrongL s xs k := by rw [hke]; rfl
      rw [e]
      exact ice_own1
  · have e : wrongO L xs = [] := by
      match L, hL with
      | [], _ => rfl
      | [s], h => exact absurd rfl h
      | _ :: _ :: _, _ => rfl
    rw [e]
    refine loop_rule2 (fun (k g : Nat) => xs.length - k) (fun k g => k = 0) (fun k g => [.a, .k, .a, .a, .a, .p (.c (.own 1 g 0 0 none)), .k, .p (int k), .a, .a, .a, .a, .a, .a, .a, .a, .a, .a, .a, .a, .a, .a, .a, .a, .a, .a, .a, .a, .a, .a, .a, .a, .a, .a, .a, .a, .a, .a, .a, .a, .a, .a, .a, .a, .a, .a, .a, .a, .a, .a, .a, .a, .a, .a, .a, .a]) (fun k g => [some ⟨g0, 1, cP p⟩, some ⟨g, 1, []⟩]) 0 g1 rfl (by simp (maxSteps := 1000000) (disch := omega) only [go_sem, Nat.reduceAdd, Nat.reduceMul, Nat.reduceSub, Nat.reduceEqDiff, Nat.reduceLeDiff]; rfl) (HLe.refl _) ?_
    intro k g hk
    simp (maxSteps := 1000000) (disch := omega) only [go_sem, Nat.reduceAdd, Nat.reduceMul, Nat.reduceSub, Nat.reduceEqDiff, Nat.reduceLeDiff]
    (first | with_reducible refine guardK_dec (fun c1 => ?_) (fun c1 => ?_) <;> simp (maxSteps := 1000000) (disch := omega) only [go_sem, Nat.reduceAdd, Nat.reduceMul, Nat.reduceSub, Nat.reduceEqDiff, Nat.reduceLeDiff, c1] | with_reducible refine guardK_ndec (fun c1 => ?_) (fun c1 => ?_) <;> simp (maxSteps := 1000000) (disch := omega) only [go_sem, Nat.reduceAdd, Nat.reduceMul, Nat.reduceSub, Nat.reduceEqDiff, Nat.reduceLeDiff, c1] | with_reducible refine guardK_nb (fun c1 => ?_) (fun c1 => ?_) <;> simp (maxSteps := 1000000) (disch := omega) only [go_sem, Nat.reduceAdd, Nat.reduceMul, Nat.reduceSub, Nat.reduceEqDiff, Nat.reduceLeDiff, c1] | with_reducible refine guardK_split (fun c1 => ?_) (fun c1 => ?_) <;> simp (maxSteps := 1000000) (disch := omega) only [go_sem, Nat.reduceAdd, Nat.reduceMul, Nat.reduceSub, Nat.reduceEqDiff, Nat.reduceLeDiff, c1] | with_reducible refine guardQ_dec (fun c1 => ?_) (fun c1 => ?_) <;> simp (maxSteps := 1000000) (disch := omega) only [go_sem, Nat.reduceAdd, Nat.reduceMul, Nat.reduceSub, Nat.reduceEqDiff, Nat.reduceLeDiff, c1] | with_reducible refine guardL_dec (fun c1 => ?_) (fun c1 => ?_) <;> simp (maxSteps := 1000000) (disch := omega) only [go_sem, Nat.reduceAdd, Nat.reduceMul, Nat.reduceSub, Nat.reduceEqDiff, Nat.reduceLeDiff, c1] | with_reducible refine guardQ_ndec (fun c1 => ?_) (fun c1 => ?_) <;> simp (maxSteps := 1000000) (disch := omega) only [go_sem, Nat.reduceAdd, Nat.reduceMul, Nat.reduceSub, Nat.reduceEqDiff, Nat.reduceLeDiff, c1] | with_reducible refine guardL_ndec (fun c1 => ?_) (fun c1 => ?_) <;> simp (maxSteps := 1000000) (disch := omega) only [go_sem, Nat.reduceAdd, Nat.reduceMul, Nat.reduceSub, Nat.reduceEqDiff, Nat.reduceLeDiff, c1] | with_reducible refine guardQ_nb (fun c1 => ?_) (fun c1 => ?_) <;> simp (maxSteps := 1000000) (disch := omega) only [go_sem, Nat.reduceAdd, Nat.reduceMul, Nat.reduceSub, Nat.reduceEqDiff, Nat.reduceLeDiff, c1] | with_reducible refine guardL_nb (fun c1 => ?_) (fun c1 => ?_) <;> simp (maxSteps := 1000000) (disch := omega) only [go_sem, Nat.reduceAdd, Nat.reduceMul, Nat.reduceSub, Nat.reduceEqDiff, Nat.reduceLeDiff, c1] | with_reducible refine guardQ_split (fun c1 => ?_) (fun c1 => ?_) <;> simp (maxSteps := 1000000) (disch := omega) only [go_sem, Nat.reduceAdd, Nat.reduceMul, Nat.reduceSub, Nat.reduceEqDiff, Nat.reduceLeDiff, c1] | with_reducible refine guardL_split (fun c1 => ?_) (fun c1 => ?_) <;> simp (maxSteps := 1000000) (disch := omega) only [go_sem, Nat.reduceAdd, Nat.reduceMul, Nat.reduceSub, Nat.reduceEqDiff, Nat.reduceLeDiff, c1])
    · (first | with_reducible refine condK_dec (fun c2 => ?_) (fun c2 => ?_) | with_reducible refine condK_ndec (fun c2 => ?_) (fun c2 => ?_) | with_reducible refine condK_nb (fun c2 => ?_) (fun c2 => ?_) | refine condK_b (fun c2 => ?_) (fun c2 => ?_))
      · exfalso; omega
      simp (maxSteps := 1000000) (disch := omega) only [go_sem, Nat.reduceAdd, Nat.reduceMul, Nat.reduceSub, Nat.reduceEqDiff, Nat.reduceLeDiff]
      exact ice_own1 (xs := [])
    · exact ice_own1 (xs := [])
end Go.Lg
