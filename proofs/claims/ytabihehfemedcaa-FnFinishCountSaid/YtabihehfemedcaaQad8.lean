/- GpFD, cut to what is needed. -/
import Derived.Test.YtabihehfemedcaaQad2
import Derived.Test.YtabihehfemedcaaQad7
set_option linter.unusedSimpArgs false
set_option linter.unusedVariables false
set_option maxRecDepth 100000
namespace Go.Lg
open Go.Proofs
theorem ext_given (p : Puz) : Ext p p.given := fun k h => by omega
theorem ext_with {p : Puz} {xs : List Int} : Ext p (withL p.given xs) := fun k h => by
  by_cases hk : k < p.given.length
  · rw [withL_nth hk] at h
    split at h
    · omega
    · omega
  · rw [nth_over (by omega)]; exact Int.le_refl _
theorem allS_first {p : Puz} (hv : puzzleValid p = true) (most : Nat) : (if fitsL p p.given p.size.toNat = true then (sols p p.size.toNat (p.size.toNat * p.size.toNat) p.given).take most else []) = allS p most := by
  unfold allS
  by_cases h : fitsL p p.given p.size.toNat = true
  · rw [if_pos h, if_pos ⟨hv, h⟩]
  · rw [if_neg h, if_neg (fun h' => h h'.2)]
theorem first_all {p : Puz} (hv : puzzleValid p = true) (most : Nat) (hmo : 1 ≤ most ∧ most ≤ 600) : Reads Try.prog 84 [aP p, ints p.given, int most] (rsl eL (allS p most)) := by
  obtain ⟨hp, hz⟩ := PuzN.of hv
  have hg := GrdN.of hp.hn (xs := p.given) (by rw [hz]; exact puzzleValid_grid' hv)
  have := firstSolutions_run hp hv most hmo p.given hg (ext_given p)
  rwa [allS_first hv] at this
theorem forcedL_all {L : List (List Int)} {c v : Int} (h0 : 0 < L.length) (h : ∀ j : Nat, j < L.length → nth (nth L j) c = v) : forcedL L c = v := by
  cases L with
  | nil => simp at h0
  | cons s L =>
    have hs := h 0 h0
    have e0 : nth (s :: L) ((0 : Nat) : Int) = s := rfl
    rw [e0] at hs
    rw [forcedL_cons, if_pos]
    · exact hs
    · intro x hx
      obtain ⟨j, hj, rfl⟩ := List.mem_iff_getElem.1 hx
      have := h (j + 1) (by simp; exact hj)
      rw [nth_eq (xs := s :: L) (e := ((j + 1 : Nat) : Int)) (by simp only [List.length_cons]; omega)] at this
      simp only [Int.toNat_natCast, List.getElem_cons_succ] at this
      rw [this, hs]
theorem forcedL_ne {L : List (List Int)} {c : Int} {i j : Nat} (hi : i < L.length) (hj : j < L.length) (h : nth (nth L i) c ≠ nth (nth L j) c) : forcedL L c = 0 := by
  cases L with
  | nil => simp at hi
  | cons s L =>
    rw [forcedL_cons, if_neg]
    intro hall
    have hk : ∀ k : Nat, k < (s :: L).length → nth (nth (s :: L) k) c = nth s c := fun k hk => by
      rw [nth_eq (xs := s :: L) (e := (k : Int)) (by omega)]
      cases k with
      | zero => rfl
      | succ k => 
        simp only [Int.toNat_natCast, List.getElem_cons_succ]
        exact hall _ (List.getElem_mem _)
    exact h ((hk i hi).trans (hk j hj).symm)
theorem ForcedValue_run (p : Puz) (c : Int) (hx : smP p) : Reads Try.prog 32 [aP p, int c] (int (forcedV p c)) := by
  have hgl := hx.1
  have hle := allS_len p 600
  refine RunCall.cw (c := _) Try.func32 rfl (n := 47) Try.ntmps32 (rs := [.tmp 4]) rfl ?_
  simp only [List.length_cons, List.length_nil, Nat.reduceAdd, Nat.reduceSub, List.replicate, List.cons_append, List.nil_append]
  simp (maxSteps := 1000000) (disch := omega) only [go_sem, Nat.reduceAdd, Nat.reduceMul, Nat.reduceSub, Nat.reduceEqDiff, Nat.reduceLeDiff]
  intro g
  first | refine OpS.rd (PuzzleValid_run p hx) (⟨_, Try.func83, rfl, rfl⟩ : Enters Try.prog 83) rfl rfl rfl rfl ?_ | refine Loud.rd (PuzzleValid_run p hx) (⟨_, Try.func83, rfl, rfl⟩ : Enters Try.prog 83) rfl rfl rfl rfl ?_
  simp (maxSteps := 1000000) (disch := omega) only [go_sem, Nat.reduceAdd, Nat.reduceMul, Nat.reduceSub, Nat.reduceEqDiff, Nat.reduceLeDiff]
  (first | with_reducible refine guardK_dec (fun h1 => ?_) (fun h1 => ?_) <;> simp (maxSteps := 1000000) (disch := omega) only [go_sem, Nat.reduceAdd, Nat.reduceMul, Nat.reduceSub, Nat.reduceEqDiff, Nat.reduceLeDiff, h1] | with_reducible refine guardK_ndec (fun h1 => ?_) (fun h1 => ?_) <;> simp (maxSteps := 1000000) (disch := omega) only [go_sem, Nat.reduceAdd, Nat.reduceMul, Nat.reduceSub, Nat.reduceEqDiff, Nat.reduceLeDiff, h1] | with_reducible refine guardK_nb (fun h1 => ?_) (fun h1 => ?_) <;> simp (maxSteps := 1000000) (disch := omega) only [go_sem, Nat.reduceAdd, Nat.reduceMul, Nat.reduceSub, Nat.reduceEqDiff, Nat.reduceLeDiff, h1] | with_reducible refine guardK_split (fun h1 => ?_) (fun h1 => ?_) <;> simp (maxSteps := 1000000) (disch := omega) only [go_sem, Nat.reduceAdd, Nat.reduceMul, Nat.reduceSub, Nat.reduceEqDiff, Nat.reduceLeDiff, h1] | with_reducible refine guardQ_dec (fun h1 => ?_) (fun h1 => ?_) <;> simp (maxSteps := 1000000) (disch := omega) only [go_sem, Nat.reduceAdd, Nat.reduceMul, Nat.reduceSub, Nat.reduceEqDiff, Nat.reduceLeDiff, h1] | with_reducible refine guardL_dec (fun h1 => ?_) (fun h1 => ?_) <;> simp (maxSteps := 1000000) (disch := omega) only [go_sem, Nat.reduceAdd, Nat.reduceMul, Nat.reduceSub, Nat.reduceEqDiff, Nat.reduceLeDiff, h1] | with_reducible refine guardQ_ndec (fun h1 => ?_) (fun h1 => ?_) <;> simp (maxSteps := 1000000) (disch := omega) only [go_sem, Nat.reduceAdd, Nat.reduceMul, Nat.reduceSub, Nat.reduceEqDiff, Nat.reduceLeDiff, h1] | with_reducible refine guardL_ndec (fun h1 => ?_) (fun h1 => ?_) <;> simp (maxSteps := 1000000) (disch := omega) only [go_sem, Nat.reduceAdd, Nat.reduceMul, Nat.reduceSub, Nat.reduceEqDiff, Nat.reduceLeDiff, h1] | with_reducible refine guardQ_nb (fun h1 => ?_) (fun h1 => ?_) <;> simp (maxSteps := 1000000) (disch := omega) only [go_sem, Nat.reduceAdd, Nat.reduceMul, Nat.reduceSub, Nat.reduceEqDiff, Nat.reduceLeDiff, h1] | with_reducible refine guardL_nb (fun h1 => ?_) (fun h1 => ?_) <;> simp (maxSteps := 1000000) (disch := omega) only [go_sem, Nat.reduceAdd, Nat.reduceMul, Nat.reduceSub, Nat.reduceEqDiff, Nat.reduceLeDiff, h1] | with_reducible refine guardQ_split (fun h1 => ?_) (fun h1 => ?_) <;> simp (maxSteps := 1000000) (disch := omega) only [go_sem, Nat.reduceAdd, Nat.reduceMul, Nat.reduceSub, Nat.reduceEqDiff, Nat.reduceLeDiff, h1] | with_reducible refine guardL_split (fun h1 => ?_) (fun h1 => ?_) <;> simp (maxSteps := 1000000) (disch := omega) only [go_sem, Nat.reduceAdd, Nat.reduceMul, Nat.reduceSub, Nat.reduceEqDiff, Nat.reduceLeDiff, h1])
  rotate_left
  · unfold forcedV
    rw [if_neg (fun h => by rw [h.1] at h1; cases h1)]
  (first | with_reducible refine guardK_dec (fun h2 => ?_) (fun h2 => ?_) <;> simp (maxSteps := 1000000) (disch := omega) only [go_sem, Nat.reduceAdd, Nat.reduceMul, Nat.reduceSub, Nat.reduceEqDiff, Nat.reduceLeDiff, h2] | with_reducible refine guardK_ndec (fun h2 => ?_) (fun h2 => ?_) <;> simp (maxSteps := 1000000) (disch := omega) only [go_sem, Nat.reduceAdd, Nat.reduceMul, Nat.reduceSub, Nat.reduceEqDiff, Nat.reduceLeDiff, h2] | with_reducible refine guardK_nb (fun h2 => ?_) (fun h2 => ?_) <;> simp (maxSteps := 1000000) (disch := omega) only [go_sem, Nat.reduceAdd, Nat.reduceMul, Nat.reduceSub, Nat.reduceEqDiff, Nat.reduceLeDiff, h2] | with_reducible refine guardK_split (fun h2 => ?_) (fun h2 => ?_) <;> simp (maxSteps := 1000000) (disch := omega) only [go_sem, Nat.reduceAdd, Nat.reduceMul, Nat.reduceSub, Nat.reduceEqDiff, Nat.reduceLeDiff, h2] | with_reducible refine guardQ_dec (fun h2 => ?_) (fun h2 => ?_) <;> simp (maxSteps := 1000000) (disch := omega) only [go_sem, Nat.reduceAdd, Nat.reduceMul, Nat.reduceSub, Nat.reduceEqDiff, Nat.reduceLeDiff, h2] | with_reducible refine guardL_dec (fun h2 => ?_) (fun h2 => ?_) <;> simp (maxSteps := 1000000) (disch := omega) only [go_sem, Nat.reduceAdd, Nat.reduceMul, Nat.reduceSub, Nat.reduceEqDiff, Nat.reduceLeDiff, h2] | with_reducible refine guardQ_ndec (fun h2 => ?_) (fun h2 => ?_) <;> simp (maxSteps := 1000000) (disch := omega) only [go_sem, Nat.reduceAdd, Nat.reduceMul, Nat.reduceSub, Nat.reduceEqDiff, Nat.reduceLeDiff, h2] | with_reducible refine guardL_ndec (fun h2 => ?_) (fun h2 => ?_) <;> simp (maxSteps := 1000000) (disch := omega) only [go_sem, Nat.reduceAdd, Nat.reduceMul, Nat.reduceSub, Nat.reduceEqDiff, Nat.reduceLeDiff, h2] | with_reducible refine guardQ_nb (fun h2 => ?_) (fun h2 => ?_) <;> simp (maxSteps := 1000000) (disch := omega) only [go_sem, Nat.reduceAdd, Nat.reduceMul, Nat.reduceSub, Nat.reduceEqDiff, Nat.reduceLeDiff, h2] | with_reducible refine guardL_nb (fun h2 => ?_) (fun h2 => ?_) <;> simp (maxSteps := 1000000) (disch := omega) only [go_sem, Nat.reduceAdd, Nat.reduceMul, Nat.reduceSub, Nat.reduceEqDiff, Nat.reduceLeDiff, h2] | with_reducible refine guardQ_split (fun h2 => ?_) (fun h2 => ?_) <;> simp (maxSteps := 1000000) (disch := omega) only [go_sem, Nat.reduceAdd, Nat.reduceMul, Nat.reduceSub, Nat.reduceEqDiff, Nat.reduceLeDiff, h2] | with_reducible refine guardL_split (fun h2 => ?_) (fun h2 => ?_) <;> simp (maxSteps := 1000000) (disch := omega) only [go_sem, Nat.reduceAdd, Nat.reduceMul, Nat.reduceSub, Nat.reduceEqDiff, Nat.reduceLeDiff, h2])
  · unfold forcedV
    rw [if_neg (by omega)]
  (first | with_reducible refine condK_dec (fun h3 => ?_) (fun h3 => ?_) | with_reducible refine condK_ndec (fun h3 => ?_) (fun h3 => ?_) | with_reducible refine condK_nb (fun h3 => ?_) (fun h3 => ?_) | refine condK_b (fun h3 => ?_) (fun h3 => ?_))
  · simp (maxSteps := 1000000) (disch := omega) only [go_sem, Nat.reduceAdd, Nat.reduceMul, Nat.reduceSub, Nat.reduceEqDiff, Nat.reduceLeDiff]
    unfold forcedV
    rw [if_neg (by omega)]
  simp (maxSteps := 1000000) (disch := omega) only [go_sem, Nat.reduceAdd, Nat.reduceMul, Nat.reduceSub, Nat.reduceEqDiff, Nat.reduceLeDiff]
  first | refine OpS.mk (first_all h1 600 (by omega)) (⟨_, Try.func84, rfl, rfl⟩ : Enters Try.prog 84) rfl rfl rfl rfl rfl ?_ | refine Loud.mk (first_all h1 600 (by omega)) (⟨_, Try.func84, rfl, rfl⟩ : Enters Try.prog 84) rfl rfl rfl rfl rfl ?_
  simp (maxSteps := 1000000) (disch := omega) only [go_sem, Nat.reduceAdd, Nat.reduceMul, Nat.reduceSub, Nat.reduceEqDiff, Nat.reduceLeDiff]
  have hcell := fun s hs => allS_cell (most := 600) (s := s) h1 hs
  have hpos : ∀ s ∈ allS p 600, 0 < nth s c := fun s hs => by
    obtain ⟨k, rfl⟩ : ∃ k : Nat, c = k := ⟨c.toNat, by omega⟩
    exact (allS_full s hs).2 k (by omega)
  have hV : forcedV p c = forcedL (allS p 600) c := by unfold forcedV; rw [if_pos ⟨h1, by omega⟩]
  rw [hV]
  generalize allS p 600 = L at hle hcell hpos
  have hmem : ∀ j : Nat, j < L.length → (nth L j).length = p.given.length := fun j hj => hcell _ (nth_mem hj)
  have hp0 : ∀ j : Nat, j < L.length → 0 < nth (nth L j) c := fun j hj => hpos _ (nth_mem hj)
  refine loop_rule2 (fun (k : Nat) (v : Int) => L.length - k) (fun k v => k ≤ L.length ∧ (k = 0 → v = 0) ∧ ∀ j : Nat, j < k → nth (nth L j) c = v) (fun k v => [.a, .k, .a, .a, .a, .p (int v), .a, .a, .a, .a, .a, .a, .a, .a, .a, .a, .a, .a, .a, .a, .a, .a, .a, .a, .a, .k, .k, .p (int k), .a, .a, .a, .a, .a, .a, .a, .a, .a, .a, .a, .a, .a, .a, .a, .a, .a, .a, .a]) (fun _ _ => []) 0 0 ⟨Nat.zero_le _, fun _ => rfl, fun j h => by omega⟩ (by simp (maxSteps := 1000000) (disch := omega) only [go_sem, Nat.reduceAdd, Nat.reduceMul, Nat.reduceSub, Nat.reduceEqDiff, Nat.reduceLeDiff]; rfl) (hle_nil _) ?_
  rintro k v ⟨hk, hv0, hall⟩
  simp (maxSteps := 1000000) (disch := omega) only [go_sem, Nat.reduceAdd, Nat.reduceMul, Nat.reduceSub, Nat.reduceEqDiff, Nat.reduceLeDiff]
  (first | with_reducible refine condK_dec (fun c1 => ?_) (fun c1 => ?_) | with_reducible refine condK_ndec (fun c1 => ?_) (fun c1 => ?_) | with_reducible refine condK_nb (fun c1 => ?_) (fun c1 => ?_) | refine condK_b (fun c1 => ?_) (fun c1 => ?_))
  · have c1 : k < L.length := by omega
    have e1 := hmem k c1
    have e2 := hp0 k c1
    simp (maxSteps := 1000000) (disch := omega) only [go_sem, Nat.reduceAdd, Nat.reduceMul, Nat.reduceSub, Nat.reduceEqDiff, Nat.reduceLeDiff]
    (first | with_reducible refine guardK_dec (fun c2 => ?_) (fun c2 => ?_) <;> simp (maxSteps := 1000000) (disch := omega) only [go_sem, Nat.reduceAdd, Nat.reduceMul, Nat.reduceSub, Nat.reduceEqDiff, Nat.reduceLeDiff, c2] | with_reducible refine guardK_ndec (fun c2 => ?_) (fun c2 => ?_) <;> simp (maxSteps := 1000000) (disch := omega) only [go_sem, Nat.reduceAdd, Nat.reduceMul, Nat.reduceSub, Nat.reduceEqDiff, Nat.reduceLeDiff, c2] | with_reducible refine guardK_nb (fun c2 => ?_) (fun c2 => ?_) <;> simp (maxSteps := 1000000) (disch := omega) only [go_sem, Nat.reduceAdd, Nat.reduceMul, Nat.reduceSub, Nat.reduceEqDiff, Nat.reduceLeDiff, c2] | with_reducible refine guardK_split (fun c2 => ?_) (fun c2 => ?_) <;> simp (maxSteps := 1000000) (disch := omega) only [go_sem, Nat.reduceAdd, Nat.reduceMul, Nat.reduceSub, Nat.reduceEqDiff, Nat.reduceLeDiff, c2] | with_reducible refine guardQ_dec (fun c2 => ?_) (fun c2 => ?_) <;> simp (maxSteps := 1000000) (disch := omega) only [go_sem, Nat.reduceAdd, Nat.reduceMul, Nat.reduceSub, Nat.reduceEqDiff, Nat.reduceLeDiff, c2] | with_reducible refine guardL_dec (fun c2 => ?_) (fun c2 => ?_) <;> simp (maxSteps := 1000000) (disch := omega) only [go_sem, Nat.reduceAdd, Nat.reduceMul, Nat.reduceSub, Nat.reduceEqDiff, Nat.reduceLeDiff, c2] | with_reducible refine guardQ_ndec (fun c2 => ?_) (fun c2 => ?_) <;> simp (maxSteps := 1000000) (disch := omega) only [go_sem, Nat.reduceAdd, Nat.reduceMul, Nat.reduceSub, Nat.reduceEqDiff, Nat.reduceLeDiff, c2] | with_reducible refine guardL_ndec (fun c2 => ?_) (fun c2 => ?_) <;> simp (maxSteps := 1000000) (disch := omega) only [go_sem, Nat.reduceAdd, Nat.reduceMul, Nat.reduceSub, Nat.reduceEqDiff, Nat.reduceLeDiff, c2] | with_reducible refine guardQ_nb (fun c2 => ?_) (fun c2 => ?_) <;> simp (maxSteps := 1000000) (disch := omega) only [go_sem, Nat.reduceAdd, Nat.reduceMul, Nat.reduceSub, Nat.reduceEqDiff, Nat.reduceLeDiff, c2] | with_reducible refine guardL_nb (fun c2 => ?_) (fun c2 => ?_) <;> simp (maxSteps := 1000000) (disch := omega) only [go_sem, Nat.reduceAdd, Nat.reduceMul, Nat.reduceSub, Nat.reduceEqDiff, Nat.reduceLeDiff, c2] | with_reducible refine guardQ_split (fun c2 => ?_) (fun c2 => ?_) <;> simp (maxSteps := 1000000) (disch := omega) only [go_sem, Nat.reduceAdd, Nat.reduceMul, Nat.reduceSub, Nat.reduceEqDiff, Nat.reduceLeDiff, c2] | with_reducible refine guardL_split (fun c2 => ?_) (fun c2 => ?_) <;> simp (maxSteps := 1000000) (disch := omega) only [go_sem, Nat.reduceAdd, Nat.reduceMul, Nat.reduceSub, Nat.reduceEqDiff, Nat.reduceLeDiff, c2])
    · have hk0 : k = 0 := by
        by_cases h : k = 0
        · exact h
        · have := hall (k - 1) (by omega)
          have := hp0 (k - 1) (by omega)
          omega
      subst hk0
      exact ⟨1, nth (nth L ((0 : Nat) : Int)) c, ⟨⟨by omega, fun h => by omega, fun j hj => by rw [show j = 0 by omega]⟩, by omega⟩, ⟨rfl, rfl⟩, hle_nil _⟩
    · have hk0 : k ≠ 0 := fun h => c2 (hv0 h)
      (first | with_reducible refine condK_dec (fun c3 => ?_) (fun c3 => ?_) | with_reducible refine condK_ndec (fun c3 => ?_) (fun c3 => ?_) | with_reducible refine condK_nb (fun c3 => ?_) (fun c3 => ?_) | refine condK_b (fun c3 => ?_) (fun c3 => ?_))
      · simp (maxSteps := 1000000) (disch := omega) only [go_sem, Nat.reduceAdd, Nat.reduceMul, Nat.reduceSub, Nat.reduceEqDiff, Nat.reduceLeDiff]
        exact ⟨k + 1, v, ⟨⟨by omega, fun h => by omega, fun j hj => by
          by_cases hjk : j = k
          · rw [hjk]; exact c3
          · exact hall j (by omega)⟩, by omega⟩, ⟨c3, by push_cast; omega⟩, hle_nil _⟩
      · simp (maxSteps := 1000000) (disch := omega) only [go_sem, Nat.reduceAdd, Nat.reduceMul, Nat.reduceSub, Nat.reduceEqDiff, Nat.reduceLeDiff]
        rw [forcedL_ne (i := k) (j := 0) c1 (by omega) (by rw [hall 0 (by omega)]; exact c3)]
  · simp (maxSteps := 1000000) (disch := omega) only [go_sem, Nat.reduceAdd, Nat.reduceMul, Nat.reduceSub, Nat.reduceEqDiff, Nat.reduceLeDiff]
    by_cases h0 : L.length = 0
    · have : L = [] := List.eq_nil_of_length_eq_zero h0
      subst this
      rw [hv0 (by simp at hk; exact hk)]
      rfl
    · rw [forcedL_all (by omega) fun j hj => hall j (by omega)]
theorem clear_short {p : Puz} {xs : List Int} {k : Nat} (hk : xs.length = k) (h : ∀ j : Nat, j < k → ¬ (0 < nth p.given j ∧ 0 < nth xs j ∧ nth xs j ≠ nth p.given j)) : clear p xs = true := by
  simp only [clear, decide_eq_true_eq]
  exact fun j hj => h j (by omega)
def bothT (a b : List Int) (k : Nat) : List Int := (withL a b).take k ++ List.replicate (a.length - k) 0
theorem bothT_0 (a b : List Int) : bothT a b 0 = List.replicate a.length 0 := by simp [bothT]
theorem bothT_len {a b : List Int} {k : Nat} : (bothT a b k).length = a.length ∨ a.length < k := by
  by_cases h : a.length < k
  · exact .inr h
  · left; simp [bothT, withL_len]; omega
theorem bothT_all {a b : List Int} {k : Nat} (h : a.length = k) : bothT a b k = withL a b := by
  unfold bothT
  rw [List.take_of_length_le (by rw [withL_len]; omega), h, Nat.sub_self, List.replicate_zero, List.append_nil]
theorem bothT_set {a b : List Int} {k : Nat} {v : Int} (h : k < a.length) (hv : v = if 0 < nth b k then nth b k else nth a k) : (bothT a b k).set k v = bothT a b (k + 1) := by
  have e : (withL a b).take (k + 1) = (withL a b).take k ++ [v] := by rw [take_succ_nth (by rw [withL_len]; exact h), withL_nth h, hv]
  unfold bothT
  rw [e, List.set_append_right _ _ (by rw [List.length_take, withL_len]; omega), List.length_take, withL_len, Nat.min_eq_left (by omega), Nat.sub_self, show a.length - k = (a.length - (k + 1)) + 1 by omega, List.replicate_succ, List.set_cons_zero, List.append_assoc]
  rfl
theorem bothGrids_run (p : Puz) (xs : List Int) (hl : xs.length = p.given.length) (hl2 : xs.length ≤ 16) (h0 : ∀ k : Nat, k < xs.length → 0 ≤ nth xs k ∧ 0 ≤ nth p.given k) : Reads Try.prog 88 [ints p.given, ints xs] (.tup [ints (if clear p xs = true then withL p.given xs else []), bool (clear p xs)]) := by
  refine Reads.iced ?_
  refine RunCall.cw (c := _) Try.func88 rfl (n := 47) Try.ntmps88 (rs := [.tmp 4, .tmp 5]) rfl ?_
  simp only [List.length_cons, List.length_nil, Nat.reduceAdd, Nat.reduceSub, List.replicate, List.cons_append, List.nil_append]
  simp (maxSteps := 1000000) (disch := omega) only [go_sem, Nat.reduceAdd, Nat.reduceMul, Nat.reduceSub, Nat.reduceEqDiff, Nat.reduceLeDiff]
  intro g
  refine loop_rule (fun k : Nat => xs.length - k) (fun k => k ≤ xs.length ∧ ∀ j : Nat, j < k → ¬ (0 < nth p.given j ∧ 0 < nth xs j ∧ nth xs j ≠ nth p.given j)) (fun k => [.a, .k, .a, .a, .a, .a, .k, .a, .a, .a, .a, .a, .k, .k, .p (int k), .a, .a, .a, .a, .a, .a, .a, .a, .a, .a, .a, .a, .a, .a, .a, .a, .a, .a, .a, .a, .a, .a, .a, .a, .a, .a, .a, .a, .a, .a, .a, .a]) (fun k => [some ⟨g, 1, cl (eI .i64) (bothT p.given xs k)⟩]) 0 ⟨Nat.zero_le _, fun j hj => absurd hj (Nat.not_lt_zero _)⟩ (by simp (maxSteps := 1000000) (disch := omega) only [go_sem, Nat.reduceAdd, Nat.reduceMul, Nat.reduceSub, Nat.reduceEqDiff, Nat.reduceLeDiff]; rfl) (by rw [bothT_0]; exact HLe.refl _) ?_
  rintro k ⟨hk, hno⟩
  have hbl := bothT_len (a := p.given) (b := xs) (k := k)
  simp (maxSteps := 1000000) (disch := omega) only [go_sem, Nat.reduceAdd, Nat.reduceMul, Nat.reduceSub, Nat.reduceEqDiff, Nat.reduceLeDiff]
  (first | with_reducible refine condK_dec (fun c1 => ?_) (fun c1 => ?_) | with_reducible refine condK_ndec (fun c1 => ?_) (fun c1 => ?_) | with_reducible refine condK_nb (fun c1 => ?_) (fun c1 => ?_) | refine condK_b (fun c1 => ?_) (fun c1 => ?_))
  · have c1 : k < xs.length := by omega
    have hx0 := h0 k c1
    have hbl : (bothT p.given xs k).length = p.given.length := by omega
    have hgo : ¬ (0 < nth p.given k ∧ 0 < nth xs k ∧ nth xs k ≠ nth p.given k) → ∀ j : Nat, j < k + 1 → ¬ (0 < nth p.given j ∧ 0 < nth xs j ∧ nth xs j ≠ nth p.given j) := fun h j hj => by
      by_cases hjk : j = k
      · rw [hjk]; exact h
      · exact hno j (by omega)
    have hset : ∀ v : Int, v = max (nth p.given k) (nth xs k) → ¬ (0 < nth p.given k ∧ 0 < nth xs k ∧ nth xs k ≠ nth p.given k) → (bothT p.given xs k).set k v = bothT p.given xs (k + 1) := fun v hv h => bothT_set (by omega) (by
      rw [hv]
      by_cases a : 0 < nth xs k
      · rw [if_pos a]
        by_cases b : 0 < nth p.given k
        · have : nth xs k = nth p.given k := by
            by_cases e : nth xs k = nth p.given k
            · exact e
            · exact absurd ⟨b, a, e⟩ h
          omega
        · omega
      · rw [if_neg a]
        omega)
    simp (maxSteps := 1000000) (disch := omega) only [go_sem, Nat.reduceAdd, Nat.reduceMul, Nat.reduceSub, Nat.reduceEqDiff, Nat.reduceLeDiff]
    rw [Int.toNat_natCast]
    (first | with_reducible refine guardK_dec (fun d1 => ?_) (fun d1 => ?_) <;> simp (maxSteps := 1000000) (disch := omega) only [go_sem, Nat.reduceAdd, Nat.reduceMul, Nat.reduceSub, Nat.reduceEqDiff, Nat.reduceLeDiff, d1] | with_reducible refine guardK_ndec (fun d1 => ?_) (fun d1 => ?_) <;> simp (maxSteps := 1000000) (disch := omega) only [go_sem, Nat.reduceAdd, Nat.reduceMul, Nat.reduceSub, Nat.reduceEqDiff, Nat.reduceLeDiff, d1] | with_reducible refine guardK_nb (fun d1 => ?_) (fun d1 => ?_) <;> simp (maxSteps := 1000000) (disch := omega) only [go_sem, Nat.reduceAdd, Nat.reduceMul, Nat.reduceSub, Nat.reduceEqDiff, Nat.reduceLeDiff, d1] | with_reducible refine guardK_split (fun d1 => ?_) (fun d1 => ?_) <;> simp (maxSteps := 1000000) (disch := omega) only [go_sem, Nat.reduceAdd, Nat.reduceMul, Nat.reduceSub, Nat.reduceEqDiff, Nat.reduceLeDiff, d1] | with_reducible refine guardQ_dec (fun d1 => ?_) (fun d1 => ?_) <;> simp (maxSteps := 1000000) (disch := omega) only [go_sem, Nat.reduceAdd, Nat.reduceMul, Nat.reduceSub, Nat.reduceEqDiff, Nat.reduceLeDiff, d1] | with_reducible refine guardL_dec (fun d1 => ?_) (fun d1 => ?_) <;> simp (maxSteps := 1000000) (disch := omega) only [go_sem, Nat.reduceAdd, Nat.reduceMul, Nat.reduceSub, Nat.reduceEqDiff, Nat.reduceLeDiff, d1] | with_reducible refine guardQ_ndec (fun d1 => ?_) (fun d1 => ?_) <;> simp (maxSteps := 1000000) (disch := omega) only [go_sem, Nat.reduceAdd, Nat.reduceMul, Nat.reduceSub, Nat.reduceEqDiff, Nat.reduceLeDiff, d1] | with_reducible refine guardL_ndec (fun d1 => ?_) (fun d1 => ?_) <;> simp (maxSteps := 1000000) (disch := omega) only [go_sem, Nat.reduceAdd, Nat.reduceMul, Nat.reduceSub, Nat.reduceEqDiff, Nat.reduceLeDiff, d1] | with_reducible refine guardQ_nb (fun d1 => ?_) (fun d1 => ?_) <;> simp (maxSteps := 1000000) (disch := omega) only [go_sem, Nat.reduceAdd, Nat.reduceMul, Nat.reduceSub, Nat.reduceEqDiff, Nat.reduceLeDiff, d1] | with_reducible refine guardL_nb (fun d1 => ?_) (fun d1 => ?_) <;> simp (maxSteps := 1000000) (disch := omega) only [go_sem, Nat.reduceAdd, Nat.reduceMul, Nat.reduceSub, Nat.reduceEqDiff, Nat.reduceLeDiff, d1] | with_reducible refine guardQ_split (fun d1 => ?_) (fun d1 => ?_) <;> simp (maxSteps := 1000000) (disch := omega) only [go_sem, Nat.reduceAdd, Nat.reduceMul, Nat.reduceSub, Nat.reduceEqDiff, Nat.reduceLeDiff, d1] | with_reducible refine guardL_split (fun d1 => ?_) (fun d1 => ?_) <;> simp (maxSteps := 1000000) (disch := omega) only [go_sem, Nat.reduceAdd, Nat.reduceMul, Nat.reduceSub, Nat.reduceEqDiff, Nat.reduceLeDiff, d1])
    · (first | with_reducible refine guardK_dec (fun d2 => ?_) (fun d2 => ?_) <;> simp (maxSteps := 1000000) (disch := omega) only [go_sem, Nat.reduceAdd, Nat.reduceMul, Nat.reduceSub, Nat.reduceEqDiff, Nat.reduceLeDiff, d2] | with_reducible refine guardK_ndec (fun d2 => ?_) (fun d2 => ?_) <;> simp (maxSteps := 1000000) (disch := omega) only [go_sem, Nat.reduceAdd, Nat.reduceMul, Nat.reduceSub, Nat.reduceEqDiff, Nat.reduceLeDiff, d2] | with_reducible refine guardK_nb (fun d2 => ?_) (fun d2 => ?_) <;> simp (maxSteps := 1000000) (disch := omega) only [go_sem, Nat.reduceAdd, Nat.reduceMul, Nat.reduceSub, Nat.reduceEqDiff, Nat.reduceLeDiff, d2] | with_reducible refine guardK_split (fun d2 => ?_) (fun d2 => ?_) <;> simp (maxSteps := 1000000) (disch := omega) only [go_sem, Nat.reduceAdd, Nat.reduceMul, Nat.reduceSub, Nat.reduceEqDiff, Nat.reduceLeDiff, d2] | with_reducible refine guardQ_dec (fun d2 => ?_) (fun d2 => ?_) <;> simp (maxSteps := 1000000) (disch := omega) only [go_sem, Nat.reduceAdd, Nat.reduceMul, Nat.reduceSub, Nat.reduceEqDiff, Nat.reduceLeDiff, d2] | with_reducible refine guardL_dec (fun d2 => ?_) (fun d2 => ?_) <;> simp (maxSteps := 1000000) (disch := omega) only [go_sem, Nat.reduceAdd, Nat.reduceMul, Nat.reduceSub, Nat.reduceEqDiff, Nat.reduceLeDiff, d2] | with_reducible refine guardQ_ndec (fun d2 => ?_) (fun d2 => ?_) <;> simp (maxSteps := 1000000) (disch := omega) only [go_sem, Nat.reduceAdd, Nat.reduceMul, Nat.reduceSub, Nat.reduceEqDiff, Nat.reduceLeDiff, d2] | with_reducible refine guardL_ndec (fun d2 => ?_) (fun d2 => ?_) <;> simp (maxSteps := 1000000) (disch := omega) only [go_sem, Nat.reduceAdd, Nat.reduceMul, Nat.reduceSub, Nat.reduceEqDiff, Nat.reduceLeDiff, d2] | with_reducible refine guardQ_nb (fun d2 => ?_) (fun d2 => ?_) <;> simp (maxSteps := 1000000) (disch := omega) only [go_sem, Nat.reduceAdd, Nat.reduceMul, Nat.reduceSub, Nat.reduceEqDiff, Nat.reduceLeDiff, d2] | with_reducible refine guardL_nb (fun d2 => ?_) (fun d2 => ?_) <;> simp (maxSteps := 1000000) (disch := omega) only [go_sem, Nat.reduceAdd, Nat.reduceMul, Nat.reduceSub, Nat.reduceEqDiff, Nat.reduceLeDiff, d2] | with_reducible refine guardQ_split (fun d2 => ?_) (fun d2 => ?_) <;> simp (maxSteps := 1000000) (disch := omega) only [go_sem, Nat.reduceAdd, Nat.reduceMul, Nat.reduceSub, Nat.reduceEqDiff, Nat.reduceLeDiff, d2] | with_reducible refine guardL_split (fun d2 => ?_) (fun d2 => ?_) <;> simp (maxSteps := 1000000) (disch := omega) only [go_sem, Nat.reduceAdd, Nat.reduceMul, Nat.reduceSub, Nat.reduceEqDiff, Nat.reduceLeDiff, d2])
      · (first | with_reducible refine condK_dec (fun d3 => ?_) (fun d3 => ?_) | with_reducible refine condK_ndec (fun d3 => ?_) (fun d3 => ?_) | with_reducible refine condK_nb (fun d3 => ?_) (fun d3 => ?_) | refine condK_b (fun d3 => ?_) (fun d3 => ?_))
        · simp (maxSteps := 1000000) (disch := omega) only [go_sem, Nat.reduceAdd, Nat.reduceMul, Nat.reduceSub, Nat.reduceEqDiff, Nat.reduceLeDiff]
          refine ⟨k + 1, ⟨⟨by omega, hgo fun h => h.2.2 d3.symm⟩, by omega⟩, by push_cast; omega, ?_⟩
          rw [hset _ rfl (fun h => h.2.2 d3.symm)]
          exact HLe.refl _
        · simp (maxSteps := 1000000) (disch := omega) only [go_sem, Nat.reduceAdd, Nat.reduceMul, Nat.reduceSub, Nat.reduceEqDiff, Nat.reduceLeDiff]
          have : clear p xs = false := by
            simp only [clear, decide_eq_false_iff_not]
            exact fun h => h k c1 ⟨d1, d2, fun h => d3 h.symm⟩
          rw [this]
          exact lessQ_ice rfl
      · refine ⟨k + 1, ⟨⟨by omega, hgo fun h => d2 h.2.1⟩, by omega⟩, by push_cast; omega, ?_⟩
        rw [hset _ rfl (fun h => d2 h.2.1)]
        exact HLe.refl _
    · refine ⟨k + 1, ⟨⟨by omega, hgo fun h => d1 h.1⟩, by omega⟩, by push_cast; omega, ?_⟩
      rw [hset _ rfl (fun h => d1 h.1)]
      exact HLe.refl _
  · have hke : p.given.length = k := by omega
    simp (maxSteps := 1000000) (disch := omega) only [go_sem, Nat.reduceAdd, Nat.reduceMul, Nat.reduceSub, Nat.reduceEqDiff, Nat.reduceLeDiff]
    rw [clear_short (by omega) hno, if_pos rfl, bothT_all hke]
    have hown : OwnI [some ⟨g, 1, cl (eI .i64) (withL p.given xs)⟩] (.own 0 g 0 p.given.length none) (withL p.given xs) [0] := by
      have := OwnI.o (H := [some ⟨g, 1, cl (eI .i64) (withL p.given xs)⟩]) 0 g none (withL p.given xs) [] (by rw [List.append_nil]; simp only [go_sem])
      rwa [withL_len] at this
    have hf := hown.frzC
    refine lessQ_ice ?_
    show (([_, _] : List AV).mapM (frz1 _)).map AV.tup = _
    simp only [List.mapM_cons, List.mapM_nil, frz1, hf, Option.bind_eq_bind, Option.pure_def, Option.map_some]
    rfl
theorem FinishCount_run (p : Puz) (xs : List Int) (most : Int) (hx : smP p) (hl : xs.length ≤ 2 ^ 40) : Reads Try.prog 36 [aP p, ints xs, int most] (int (finishV p xs most)) := by
  refine RunCall.cw (c := _) Try.func36 rfl (n := 41) Try.ntmps36 (rs := [.tmp 6]) rfl ?_
  simp only [List.length_cons, List.length_nil, Nat.reduceAdd, Nat.reduceSub, List.replicate, List.cons_append, List.nil_append]
  simp (maxSteps := 1000000) (disch := omega) only [go_sem, Nat.reduceAdd, Nat.reduceMul, Nat.reduceSub, Nat.reduceEqDiff, Nat.reduceLeDiff]
  intro g
  first | refine OpS.rd (PuzzleValid_run p hx) (⟨_, Try.func83, rfl, rfl⟩ : Enters Try.prog 83) rfl rfl rfl rfl ?_ | refine Loud.rd (PuzzleValid_run p hx) (⟨_, Try.func83, rfl, rfl⟩ : Enters Try.prog 83) rfl rfl rfl rfl ?_
  simp (maxSteps := 1000000) (disch := omega) only [go_sem, Nat.reduceAdd, Nat.reduceMul, Nat.reduceSub, Nat.reduceEqDiff, Nat.reduceLeDiff]
  (first | with_reducible refine guardK_dec (fun h1 => ?_) (fun h1 => ?_) <;> simp (maxSteps := 1000000) (disch := omega) only [go_sem, Nat.reduceAdd, Nat.reduceMul, Nat.reduceSub, Nat.reduceEqDiff, Nat.reduceLeDiff, h1] | with_reducible refine guardK_ndec (fun h1 => ?_) (fun h1 => ?_) <;> simp (maxSteps := 1000000) (disch := omega) only [go_sem, Nat.reduceAdd, Nat.reduceMul, Nat.reduceSub, Nat.reduceEqDiff, Nat.reduceLeDiff, h1] | with_reducible refine guardK_nb (fun h1 => ?_) (fun h1 => ?_) <;> simp (maxSteps := 1000000) (disch := omega) only [go_sem, Nat.reduceAdd, Nat.reduceMul, Nat.reduceSub, Nat.reduceEqDiff, Nat.reduceLeDiff, h1] | with_reducible refine guardK_split (fun h1 => ?_) (fun h1 => ?_) <;> simp (maxSteps := 1000000) (disch := omega) only [go_sem, Nat.reduceAdd, Nat.reduceMul, Nat.reduceSub, Nat.reduceEqDiff, Nat.reduceLeDiff, h1] | with_reducible refine guardQ_dec (fun h1 => ?_) (fun h1 => ?_) <;> simp (maxSteps := 1000000) (disch := omega) only [go_sem, Nat.reduceAdd, Nat.reduceMul, Nat.reduceSub, Nat.reduceEqDiff, Nat.reduceLeDiff, h1] | with_reducible refine guardL_dec (fun h1 => ?_) (fun h1 => ?_) <;> simp (maxSteps := 1000000) (disch := omega) only [go_sem, Nat.reduceAdd, Nat.reduceMul, Nat.reduceSub, Nat.reduceEqDiff, Nat.reduceLeDiff, h1] | with_reducible refine guardQ_ndec (fun h1 => ?_) (fun h1 => ?_) <;> simp (maxSteps := 1000000) (disch := omega) only [go_sem, Nat.reduceAdd, Nat.reduceMul, Nat.reduceSub, Nat.reduceEqDiff, Nat.reduceLeDiff, h1] | with_reducible refine guardL_ndec (fun h1 => ?_) (fun h1 => ?_) <;> simp (maxSteps := 1000000) (disch := omega) only [go_sem, Nat.reduceAdd, Nat.reduceMul, Nat.reduceSub, Nat.reduceEqDiff, Nat.reduceLeDiff, h1] | with_reducible refine guardQ_nb (fun h1 => ?_) (fun h1 => ?_) <;> simp (maxSteps := 1000000) (disch := omega) only [go_sem, Nat.reduceAdd, Nat.reduceMul, Nat.reduceSub, Nat.reduceEqDiff, Nat.reduceLeDiff, h1] | with_reducible refine guardL_nb (fun h1 => ?_) (fun h1 => ?_) <;> simp (maxSteps := 1000000) (disch := omega) only [go_sem, Nat.reduceAdd, Nat.reduceMul, Nat.reduceSub, Nat.reduceEqDiff, Nat.reduceLeDiff, h1] | with_reducible refine guardQ_split (fun h1 => ?_) (fun h1 => ?_) <;> simp (maxSteps := 1000000) (disch := omega) only [go_sem, Nat.reduceAdd, Nat.reduceMul, Nat.reduceSub, Nat.reduceEqDiff, Nat.reduceLeDiff, h1] | with_reducible refine guardL_split (fun h1 => ?_) (fun h1 => ?_) <;> simp (maxSteps := 1000000) (disch := omega) only [go_sem, Nat.reduceAdd, Nat.reduceMul, Nat.reduceSub, Nat.reduceEqDiff, Nat.reduceLeDiff, h1])
  rotate_left
  · unfold finishV
    rw [if_neg (fun h => by rw [h.1] at h1; cases h1)]
  first | refine OpS.rd (GridValid_run xs p.size (by omega)) (⟨_, Try.func87, rfl, rfl⟩ : Enters Try.prog 87) rfl rfl rfl rfl ?_ | refine Loud.rd (GridValid_run xs p.size (by omega)) (⟨_, Try.func87, rfl, rfl⟩ : Enters Try.prog 87) rfl rfl rfl rfl ?_
  simp (maxSteps := 1000000) (disch := omega) only [go_sem, Nat.reduceAdd, Nat.reduceMul, Nat.reduceSub, Nat.reduceEqDiff, Nat.reduceLeDiff]
  (first | with_reducible refine guardK_dec (fun h2 => ?_) (fun h2 => ?_) <;> simp (maxSteps := 1000000) (disch := omega) only [go_sem, Nat.reduceAdd, Nat.reduceMul, Nat.reduceSub, Nat.reduceEqDiff, Nat.reduceLeDiff, h2] | with_reducible refine guardK_ndec (fun h2 => ?_) (fun h2 => ?_) <;> simp (maxSteps := 1000000) (disch := omega) only [go_sem, Nat.reduceAdd, Nat.reduceMul, Nat.reduceSub, Nat.reduceEqDiff, Nat.reduceLeDiff, h2] | with_reducible refine guardK_nb (fun h2 => ?_) (fun h2 => ?_) <;> simp (maxSteps := 1000000) (disch := omega) only [go_sem, Nat.reduceAdd, Nat.reduceMul, Nat.reduceSub, Nat.reduceEqDiff, Nat.reduceLeDiff, h2] | with_reducible refine guardK_split (fun h2 => ?_) (fun h2 => ?_) <;> simp (maxSteps := 1000000) (disch := omega) only [go_sem, Nat.reduceAdd, Nat.reduceMul, Nat.reduceSub, Nat.reduceEqDiff, Nat.reduceLeDiff, h2] | with_reducible refine guardQ_dec (fun h2 => ?_) (fun h2 => ?_) <;> simp (maxSteps := 1000000) (disch := omega) only [go_sem, Nat.reduceAdd, Nat.reduceMul, Nat.reduceSub, Nat.reduceEqDiff, Nat.reduceLeDiff, h2] | with_reducible refine guardL_dec (fun h2 => ?_) (fun h2 => ?_) <;> simp (maxSteps := 1000000) (disch := omega) only [go_sem, Nat.reduceAdd, Nat.reduceMul, Nat.reduceSub, Nat.reduceEqDiff, Nat.reduceLeDiff, h2] | with_reducible refine guardQ_ndec (fun h2 => ?_) (fun h2 => ?_) <;> simp (maxSteps := 1000000) (disch := omega) only [go_sem, Nat.reduceAdd, Nat.reduceMul, Nat.reduceSub, Nat.reduceEqDiff, Nat.reduceLeDiff, h2] | with_reducible refine guardL_ndec (fun h2 => ?_) (fun h2 => ?_) <;> simp (maxSteps := 1000000) (disch := omega) only [go_sem, Nat.reduceAdd, Nat.reduceMul, Nat.reduceSub, Nat.reduceEqDiff, Nat.reduceLeDiff, h2] | with_reducible refine guardQ_nb (fun h2 => ?_) (fun h2 => ?_) <;> simp (maxSteps := 1000000) (disch := omega) only [go_sem, Nat.reduceAdd, Nat.reduceMul, Nat.reduceSub, Nat.reduceEqDiff, Nat.reduceLeDiff, h2] | with_reducible refine guardL_nb (fun h2 => ?_) (fun h2 => ?_) <;> simp (maxSteps := 1000000) (disch := omega) only [go_sem, Nat.reduceAdd, Nat.reduceMul, Nat.reduceSub, Nat.reduceEqDiff, Nat.reduceLeDiff, h2] | with_reducible refine guardQ_split (fun h2 => ?_) (fun h2 => ?_) <;> simp (maxSteps := 1000000) (disch := omega) only [go_sem, Nat.reduceAdd, Nat.reduceMul, Nat.reduceSub, Nat.reduceEqDiff, Nat.reduceLeDiff, h2] | with_reducible refine guardL_split (fun h2 => ?_) (fun h2 => ?_) <;> simp (maxSteps := 1000000) (disch := omega) only [go_sem, Nat.reduceAdd, Nat.reduceMul, Nat.reduceSub, Nat.reduceEqDiff, Nat.reduceLeDiff, h2])
  rotate_left
  · unfold finishV
    rw [if_neg (fun h => by rw [h.2.1] at h2; cases h2)]
  (first | with_reducible refine guardK_dec (fun h3 => ?_) (fun h3 => ?_) <;> simp (maxSteps := 1000000) (disch := omega) only [go_sem, Nat.reduceAdd, Nat.reduceMul, Nat.reduceSub, Nat.reduceEqDiff, Nat.reduceLeDiff, h3] | with_reducible refine guardK_ndec (fun h3 => ?_) (fun h3 => ?_) <;> simp (maxSteps := 1000000) (disch := omega) only [go_sem, Nat.reduceAdd, Nat.reduceMul, Nat.reduceSub, Nat.reduceEqDiff, Nat.reduceLeDiff, h3] | with_reducible refine guardK_nb (fun h3 => ?_) (fun h3 => ?_) <;> simp (maxSteps := 1000000) (disch := omega) only [go_sem, Nat.reduceAdd, Nat.reduceMul, Nat.reduceSub, Nat.reduceEqDiff, Nat.reduceLeDiff, h3] | with_reducible refine guardK_split (fun h3 => ?_) (fun h3 => ?_) <;> simp (maxSteps := 1000000) (disch := omega) only [go_sem, Nat.reduceAdd, Nat.reduceMul, Nat.reduceSub, Nat.reduceEqDiff, Nat.reduceLeDiff, h3] | with_reducible refine guardQ_dec (fun h3 => ?_) (fun h3 => ?_) <;> simp (maxSteps := 1000000) (disch := omega) only [go_sem, Nat.reduceAdd, Nat.reduceMul, Nat.reduceSub, Nat.reduceEqDiff, Nat.reduceLeDiff, h3] | with_reducible refine guardL_dec (fun h3 => ?_) (fun h3 => ?_) <;> simp (maxSteps := 1000000) (disch := omega) only [go_sem, Nat.reduceAdd, Nat.reduceMul, Nat.reduceSub, Nat.reduceEqDiff, Nat.reduceLeDiff, h3] | with_reducible refine guardQ_ndec (fun h3 => ?_) (fun h3 => ?_) <;> simp (maxSteps := 1000000) (disch := omega) only [go_sem, Nat.reduceAdd, Nat.reduceMul, Nat.reduceSub, Nat.reduceEqDiff, Nat.reduceLeDiff, h3] | with_reducible refine guardL_ndec (fun h3 => ?_) (fun h3 => ?_) <;> simp (maxSteps := 1000000) (disch := omega) only [go_sem, Nat.reduceAdd, Nat.reduceMul, Nat.reduceSub, Nat.reduceEqDiff, Nat.reduceLeDiff, h3] | with_reducible refine guardQ_nb (fun h3 => ?_) (fun h3 => ?_) <;> simp (maxSteps := 1000000) (disch := omega) only [go_sem, Nat.reduceAdd, Nat.reduceMul, Nat.reduceSub, Nat.reduceEqDiff, Nat.reduceLeDiff, h3] | with_reducible refine guardL_nb (fun h3 => ?_) (fun h3 => ?_) <;> simp (maxSteps := 1000000) (disch := omega) only [go_sem, Nat.reduceAdd, Nat.reduceMul, Nat.reduceSub, Nat.reduceEqDiff, Nat.reduceLeDiff, h3] | with_reducible refine guardQ_split (fun h3 => ?_) (fun h3 => ?_) <;> simp (maxSteps := 1000000) (disch := omega) only [go_sem, Nat.reduceAdd, Nat.reduceMul, Nat.reduceSub, Nat.reduceEqDiff, Nat.reduceLeDiff, h3] | with_reducible refine guardL_split (fun h3 => ?_) (fun h3 => ?_) <;> simp (maxSteps := 1000000) (disch := omega) only [go_sem, Nat.reduceAdd, Nat.reduceMul, Nat.reduceSub, Nat.reduceEqDiff, Nat.reduceLeDiff, h3])
  · unfold finishV
    rw [if_neg (by omega)]
  (first | with_reducible refine condK_dec (fun h4 => ?_) (fun h4 => ?_) | with_reducible refine condK_ndec (fun h4 => ?_) (fun h4 => ?_) | with_reducible refine condK_nb (fun h4 => ?_) (fun h4 => ?_) | refine condK_b (fun h4 => ?_) (fun h4 => ?_))
  · simp (maxSteps := 1000000) (disch := omega) only [go_sem, Nat.reduceAdd, Nat.reduceMul, Nat.reduceSub, Nat.reduceEqDiff, Nat.reduceLeDiff]
    unfold finishV
    rw [if_neg (by omega)]
  obtain ⟨hp, hg, ha, hlen, hl4, hl16⟩ := grd_facts h1 h2
  obtain ⟨k, rfl⟩ : ∃ k : Nat, most = k := ⟨most.toNat, by omega⟩
  have hV : finishV p xs k = (finL p p.size.toNat xs k).length := by unfold finishV; rw [if_pos ⟨h1, h2, by omega, by omega⟩, Int.toNat_natCast]
  rw [hV]
  simp (maxSteps := 1000000) (disch := omega) only [go_sem, Nat.reduceAdd, Nat.reduceMul, Nat.reduceSub, Nat.reduceEqDiff, Nat.reduceLeDiff]
  first | refine OpS.mk (bothGrids_run p xs hlen.symm hl16 (fun k hk => ⟨(hg.val k hk).1, (ha.val k (by omega)).1⟩)) (⟨_, Try.func88, rfl, rfl⟩ : Enters Try.prog 88) rfl rfl rfl rfl rfl ?_ | refine Loud.mk (bothGrids_run p xs hlen.symm hl16 (fun k hk => ⟨(hg.val k hk).1, (ha.val k (by omega)).1⟩)) (⟨_, Try.func88, rfl, rfl⟩ : Enters Try.prog 88) rfl rfl rfl rfl rfl ?_
  simp (maxSteps := 1000000) (disch := omega) only [go_sem, Nat.reduceAdd, Nat.reduceMul, Nat.reduceSub, Nat.reduceEqDiff, Nat.reduceLeDiff]
  (first | with_reducible refine condK_dec (fun h5 => ?_) (fun h5 => ?_) | with_reducible refine condK_ndec (fun h5 => ?_) (fun h5 => ?_) | with_reducible refine condK_nb (fun h5 => ?_) (fun h5 => ?_) | refine condK_b (fun h5 => ?_) (fun h5 => ?_))
  rotate_left
  · simp (maxSteps := 1000000) (disch := omega) only [go_sem, Nat.reduceAdd, Nat.reduceMul, Nat.reduceSub, Nat.reduceEqDiff, Nat.reduceLeDiff]
    have : finL p p.size.toNat xs k = [] := by unfold finL; rw [if_neg (fun h => by rw [h.2] at h5; cases h5)]
    rw [this]
    rfl
  rw [if_pos h5]
  simp (maxSteps := 1000000) (disch := omega) only [go_sem, Nat.reduceAdd, Nat.reduceMul, Nat.reduceSub, Nat.reduceEqDiff, Nat.reduceLeDiff]
  first | refine OpS.mk (firstSolutions_run hp h1 k (by omega) (withL p.given xs) (withL_grd ha hg) ext_with) (⟨_, Try.func84, rfl, rfl⟩ : Enters Try.prog 84) rfl rfl rfl rfl rfl ?_ | refine Loud.mk (firstSolutions_run hp h1 k (by omega) (withL p.given xs) (withL_grd ha hg) ext_with) (⟨_, Try.func84, rfl, rfl⟩ : Enters Try.prog 84) rfl rfl rfl rfl rfl ?_
  simp (maxSteps := 1000000) (disch := omega) only [go_sem, Nat.reduceAdd, Nat.reduceMul, Nat.reduceSub, Nat.reduceEqDiff, Nat.reduceLeDiff]
  unfold finL
  by_cases hf : fitsL p (withL p.given xs) p.size.toNat = true
  · rw [if_pos hf, if_pos ⟨hf, h5⟩]
  · rw [if_neg hf, if_neg (fun h => hf h.1)]
theorem CanFinish_run (p : Puz) (xs : List Int) (hx : smP p) (hl : xs.length ≤ 2 ^ 40) : Reads Try.prog 39 [aP p, ints xs] (bool (canV p xs)) := by
  rw [canV_finish]
  refine RunCall.cw (c := _) Try.func39 rfl (n := 9) Try.ntmps39 (rs := [.tmp 4]) rfl ?_
  simp only [List.length_cons, List.length_nil, Nat.reduceAdd, Nat.reduceSub, List.replicate, List.cons_append, List.nil_append]
  simp (maxSteps := 1000000) (disch := omega) only [go_sem, Nat.reduceAdd, Nat.reduceMul, Nat.reduceSub, Nat.reduceEqDiff, Nat.reduceLeDiff]
  intro g
  first | refine OpS.rd (FinishCount_run p xs 1 hx hl) (⟨_, Try.func36, rfl, rfl⟩ : Enters Try.prog 36) rfl rfl rfl rfl ?_ | refine Loud.rd (FinishCount_run p xs 1 hx hl) (⟨_, Try.func36, rfl, rfl⟩ : Enters Try.prog 36) rfl rfl rfl rfl ?_
  simp (maxSteps := 1000000) (disch := omega) only [go_sem, Nat.reduceAdd, Nat.reduceMul, Nat.reduceSub, Nat.reduceEqDiff, Nat.reduceLeDiff]
end Go.Lg
