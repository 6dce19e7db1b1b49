/- GpFD, cut to what is needed. -/
import Derived.Test.YtcopagjhklcokaaRcd5
import Derived.Test.YtcopagjhklcokaaRcd6
open Nat(reduceAdd reduceMul reduceSub reduceEqDiff reduceLeDiff)
set_option linter.unusedSimpArgs false
set_option linter.unusedVariables false
set_option maxRecDepth 100000
namespace Go.Lg
open Go.Proofs
theorem ext_with {p : Puz} {xs : List Int} : Ext p (withL p.given xs) := fun k h => by
  by_cases hk : k < p.given.length
  · rw [withL_nth hk] at h
    split at h
    · omega
    · omega
  · rw [nth_over (by omega)]; exact Int.le_refl _
theorem clear_short {p : Puz} {xs : List Int} {k : Nat} (hk : xs.length = k) (h : ∀ j : Nat, j < k → ¬ (0 < nth p.given j ∧ 0 < nth xs j ∧ nth xs j ≠ nth p.given j)) : clear p xs = true := by
  simp only [clear, decide_eq_true_eq]
  exact fun j hj => h j (by omega)
def bothT (a b : List Int) (k : Nat) : List Int := (withL a b).take k ++ List.replicate (a.length - k) 0
theorem bothT_0 (a b : List Int) : bothT a b 0 = List.replicate a.length 0 := by simp [bothT]
theorem bothT_len {a b : List Int} {k : Nat} : (bothT a b k).length = a.length ∨ a.length < k := by
  by_cases h : a.length < k
  · exact .inr h
  · left; simp [bothT, withL_len]; omega
theorem bothT_all {a b : List Int} {k : Nat} (h : a.length = k) : bothT a b k = withL a b := by
  unfold bothT
  rw [List.take_of_length_le (by rw [withL_len]; omega), h, Nat.sub_self, List.replicate_zero, List.append_nil]
theorem bothT_set {a b : List Int} {k : Nat} {v : Int} (h : k < a.length) (hv : v = if 0 < nth b k then nth b k else nth a k) : (bothT a b k).set k v = bothT a b (k + 1) := by
  have e : (withL a b).take (k + 1) = (withL a b).take k ++ [v] := by rw [take_succ_nth (by rw [withL_len]; exact h), withL_nth h, hv]
  unfold bothT
  rw [e, List.set_append_right _ _ (by rw [List.length_take, withL_len]; omega), List.length_take, withL_len, Nat.min_eq_left (by omega), Nat.sub_self, show a.length - k = (a.length - (k + 1)) + 1 by omega, List.replicate_succ, List.set_cons_zero, List.append_assoc]
  rfl
theorem bothGrids_run (p : Puz) (xs : List Int) (hl : xs.length = p.given.length) (hl2 : xs.length ≤ 16) (h0 : ∀ k : Nat, k < xs.length → 0 ≤ nth xs k ∧ 0 ≤ nth p.given k) : Reads Try.prog 83 [ints p.given, ints xs] (.tup [ints (if clear p xs = true then withL p.given xs else []), bool (clear p xs)]) := by
  refine Reads.iced ?_
  refine RunCall.cw (c := _) Try.func83 rfl (n := 47) Try.ntmps83 (rs := [.tmp 4, .tmp 5]) rfl ?_
  simp only [List.length_cons, List.length_nil, Nat.reduceAdd, Nat.reduceSub, List.replicate, List.cons_append, List.nil_append]
  simp(maxSteps:=999999)(disch:=omega)only[go_sem,reduceAdd,reduceMul,reduceSub,reduceEqDiff,reduceLeDiff]
  intro g
  refine loop_rule (fun k : Nat => xs.length - k) (fun k => k ≤ xs.length ∧ ∀ j : Nat, j < k → ¬ (0 < nth p.given j ∧ 0 < nth xs j ∧ nth xs j ≠ nth p.given j)) (fun k => [.a, .k, .a, .a, .a, .a, .k, .a, .a, .a, .a, .a, .k, .k, .p (int k), .a, .a, .a, .a, .a, .a, .a, .a, .a, .a, .a, .a, .a, .a, .a, .a, .a, .a, .a, .a, .a, .a, .a, .a, .a, .a, .a, .a, .a, .a, .a, .a]) (fun k => [some ⟨g, 1, cl (eI .i64) (bothT p.given xs k)⟩]) 0 ⟨Nat.zero_le _, fun j hj => absurd hj (Nat.not_lt_zero _)⟩ (by simp(maxSteps:=999999)(disch:=omega)only[go_sem,reduceAdd,reduceMul,reduceSub,reduceEqDiff,reduceLeDiff]; rfl) (by rw [bothT_0]; exact HLe.refl _) ?_
  rintro k ⟨hk, hno⟩
  have hbl := bothT_len (a := p.given) (b := xs) (k := k)
  simp(maxSteps:=999999)(disch:=omega)only[go_sem,reduceAdd,reduceMul,reduceSub,reduceEqDiff,reduceLeDiff]
  ((first | with_reducible refine condK_dec ?_ ?_ | with_reducible refine condK_ndec ?_ ?_ | with_reducible refine condK_nb ?_ ?_ | refine condK_b ?_ ?_) <;> intro c1)
  · have c1 : k < xs.length := by omega
    have hx0 := h0 k c1
    have hbl : (bothT p.given xs k).length = p.given.length := by omega
    have hgo : ¬ (0 < nth p.given k ∧ 0 < nth xs k ∧ nth xs k ≠ nth p.given k) → ∀ j : Nat, j < k + 1 → ¬ (0 < nth p.given j ∧ 0 < nth xs j ∧ nth xs j ≠ nth p.given j) := fun h j hj => by
      by_cases hjk : j = k
      · rw [hjk]; exact h
      · exact hno j (by omega)
    have hset : ∀ v : Int, v = max (nth p.given k) (nth xs k) → ¬ (0 < nth p.given k ∧ 0 < nth xs k ∧ nth xs k ≠ nth p.given k) → (bothT p.given xs k).set k v = bothT p.given xs (k + 1) := fun v hv h => bothT_set (by omega) (by
      rw [hv]
      by_cases a : 0 < nth xs k
      · rw [if_pos a]
        by_cases b : 0 < nth p.given k
        · have : nth xs k = nth p.given k := by
            by_cases e : nth xs k = nth p.given k
            · exact e
            · exact absurd ⟨b, a, e⟩ h
          omega
        · omega
      · rw [if_neg a]
        omega)
    simp(maxSteps:=999999)(disch:=omega)only[go_sem,reduceAdd,reduceMul,reduceSub,reduceEqDiff,reduceLeDiff]
    rw [Int.toNat_natCast]
    ((first | with_reducible refine guardK_dec ?_ ?_ | with_reducible refine guardK_ndec ?_ ?_ | with_reducible refine guardK_nb ?_ ?_ | with_reducible refine guardK_split ?_ ?_ | with_reducible refine guardQ_dec ?_ ?_ | with_reducible refine guardL_dec ?_ ?_ | with_reducible refine guardQ_ndec ?_ ?_ | with_reducible refine guardL_ndec ?_ ?_ | with_reducible refine guardQ_nb ?_ ?_ | with_reducible refine guardL_nb ?_ ?_ | with_reducible refine guardQ_split ?_ ?_ | with_reducible refine guardL_split ?_ ?_) <;> intro d1 <;> simp(maxSteps:=999999)(disch:=omega)only[go_sem,reduceAdd,reduceMul,reduceSub,reduceEqDiff,reduceLeDiff, d1])
    · ((first | with_reducible refine guardK_dec ?_ ?_ | with_reducible refine guardK_ndec ?_ ?_ | with_reducible refine guardK_nb ?_ ?_ | with_reducible refine guardK_split ?_ ?_ | with_reducible refine guardQ_dec ?_ ?_ | with_reducible refine guardL_dec ?_ ?_ | with_reducible refine guardQ_ndec ?_ ?_ | with_reducible refine guardL_ndec ?_ ?_ | with_reducible refine guardQ_nb ?_ ?_ | with_reducible refine guardL_nb ?_ ?_ | with_reducible refine guardQ_split ?_ ?_ | with_reducible refine guardL_split ?_ ?_) <;> intro d2 <;> simp(maxSteps:=999999)(disch:=omega)only[go_sem,reduceAdd,reduceMul,reduceSub,reduceEqDiff,reduceLeDiff, d2])
      · ((first | with_reducible refine condK_dec ?_ ?_ | with_reducible refine condK_ndec ?_ ?_ | with_reducible refine condK_nb ?_ ?_ | refine condK_b ?_ ?_) <;> intro d3)
        · simp(maxSteps:=999999)(disch:=omega)only[go_sem,reduceAdd,reduceMul,reduceSub,reduceEqDiff,reduceLeDiff]
          refine ⟨k + 1, ⟨⟨by omega, hgo fun h => h.2.2 d3.symm⟩, by omega⟩, by push_cast; omega, ?_⟩
          rw [hset _ rfl (fun h => h.2.2 d3.symm)]
          exact HLe.refl _
        · simp(maxSteps:=999999)(disch:=omega)only[go_sem,reduceAdd,reduceMul,reduceSub,reduceEqDiff,reduceLeDiff]
          have : clear p xs = false := by
            simp only [clear, decide_eq_false_iff_not]
            exact fun h => h k c1 ⟨d1, d2, fun h => d3 h.symm⟩
          rw [this]
          exact lessQ_ice rfl
      · refine ⟨k + 1, ⟨⟨by omega, hgo fun h => d2 h.2.1⟩, by omega⟩, by push_cast; omega, ?_⟩
        rw [hset _ rfl (fun h => d2 h.2.1)]
        exact HLe.refl _
    · refine ⟨k + 1, ⟨⟨by omega, hgo fun h => d1 h.1⟩, by omega⟩, by push_cast; omega, ?_⟩
      rw [hset _ rfl (fun h => d1 h.1)]
      exact HLe.refl _
  · have hke : p.given.length = k := by omega
    simp(maxSteps:=999999)(disch:=omega)only[go_sem,reduceAdd,reduceMul,reduceSub,reduceEqDiff,reduceLeDiff]
    rw [clear_short (by omega) hno, if_pos rfl, bothT_all hke]
    have hown : OwnI [some ⟨g, 1, cl (eI .i64) (withL p.given xs)⟩] (.own 0 g 0 p.given.length none) (withL p.given xs) [0] := by
      have := OwnI.o (H := [some ⟨g, 1, cl (eI .i64) (withL p.given xs)⟩]) 0 g none (withL p.given xs) [] (by rw [List.append_nil]; simp only [go_sem])
      rwa [withL_len] at this
    have hf := hown.frzC
    refine lessQ_ice ?_
    show (([_, _] : List AV).mapM (frz1 _)).map AV.tup = _
    simp only [List.mapM_cons, List.mapM_nil, frz1, hf, Option.bind_eq_bind, Option.pure_def, Option.map_some]
    rfl
theorem FinishCount_run (p : Puz) (xs : List Int) (most : Int) (hx : smP p) (hl : xs.length ≤ 2 ^ 40) : Reads Try.prog 52 [aP p, ints xs, int most] (int (finishV p xs most)) := by
  refine RunCall.cw (c := _) Try.func52 rfl (n := 41) Try.ntmps52 (rs := [.tmp 6]) rfl ?_
  simp only [List.length_cons, List.length_nil, Nat.reduceAdd, Nat.reduceSub, List.replicate, List.cons_append, List.nil_append]
  simp(maxSteps:=999999)(disch:=omega)only[go_sem,reduceAdd,reduceMul,reduceSub,reduceEqDiff,reduceLeDiff]
  intro g
  first | refine OpS.rd (PuzzleValid_run p hx) (⟨_, Try.func66, rfl, rfl⟩ : Enters Try.prog 66) rfl rfl rfl rfl ?_ | refine Loud.rd (PuzzleValid_run p hx) (⟨_, Try.func66, rfl, rfl⟩ : Enters Try.prog 66) rfl rfl rfl rfl ?_
  simp(maxSteps:=999999)(disch:=omega)only[go_sem,reduceAdd,reduceMul,reduceSub,reduceEqDiff,reduceLeDiff]
  ((first | with_reducible refine guardK_dec ?_ ?_ | with_reducible refine guardK_ndec ?_ ?_ | with_reducible refine guardK_nb ?_ ?_ | with_reducible refine guardK_split ?_ ?_ | with_reducible refine guardQ_dec ?_ ?_ | with_reducible refine guardL_dec ?_ ?_ | with_reducible refine guardQ_ndec ?_ ?_ | with_reducible refine guardL_ndec ?_ ?_ | with_reducible refine guardQ_nb ?_ ?_ | with_reducible refine guardL_nb ?_ ?_ | with_reducible refine guardQ_split ?_ ?_ | with_reducible refine guardL_split ?_ ?_) <;> intro h1 <;> simp(maxSteps:=999999)(disch:=omega)only[go_sem,reduceAdd,reduceMul,reduceSub,reduceEqDiff,reduceLeDiff, h1])
  rotate_left
  · unfold finishV
    rw [if_neg (fun h => by rw [h.1] at h1; cases h1)]
  first | refine OpS.rd (GridValid_run xs p.size (by omega)) (⟨_, Try.func69, rfl, rfl⟩ : Enters Try.prog 69) rfl rfl rfl rfl ?_ | refine Loud.rd (GridValid_run xs p.size (by omega)) (⟨_, Try.func69, rfl, rfl⟩ : Enters Try.prog 69) rfl rfl rfl rfl ?_
  simp(maxSteps:=999999)(disch:=omega)only[go_sem,reduceAdd,reduceMul,reduceSub,reduceEqDiff,reduceLeDiff]
  ((first | with_reducible refine guardK_dec ?_ ?_ | with_reducible refine guardK_ndec ?_ ?_ | with_reducible refine guardK_nb ?_ ?_ | with_reducible refine guardK_split ?_ ?_ | with_reducible refine guardQ_dec ?_ ?_ | with_reducible refine guardL_dec ?_ ?_ | with_reducible refine guardQ_ndec ?_ ?_ | with_reducible refine guardL_ndec ?_ ?_ | with_reducible refine guardQ_nb ?_ ?_ | with_reducible refine guardL_nb ?_ ?_ | with_reducible refine guardQ_split ?_ ?_ | with_reducible refine guardL_split ?_ ?_) <;> intro h2 <;> simp(maxSteps:=999999)(disch:=omega)only[go_sem,reduceAdd,reduceMul,reduceSub,reduceEqDiff,reduceLeDiff, h2])
  rotate_left
  · unfold finishV
    rw [if_neg (fun h => by rw [h.2.1] at h2; cases h2)]
  ((first | with_reducible refine guardK_dec ?_ ?_ | with_reducible refine guardK_ndec ?_ ?_ | with_reducible refine guardK_nb ?_ ?_ | with_reducible refine guardK_split ?_ ?_ | with_reducible refine guardQ_dec ?_ ?_ | with_reducible refine guardL_dec ?_ ?_ | with_reducible refine guardQ_ndec ?_ ?_ | with_reducible refine guardL_ndec ?_ ?_ | with_reducible refine guardQ_nb ?_ ?_ | with_reducible refine guardL_nb ?_ ?_ | with_reducible refine guardQ_split ?_ ?_ | with_reducible refine guardL_split ?_ ?_) <;> intro h3 <;> simp(maxSteps:=999999)(disch:=omega)only[go_sem,reduceAdd,reduceMul,reduceSub,reduceEqDiff,reduceLeDiff, h3])
  · unfold finishV
    rw [if_neg (by omega)]
  ((first | with_reducible refine condK_dec ?_ ?_ | with_reducible refine condK_ndec ?_ ?_ | with_reducible refine condK_nb ?_ ?_ | refine condK_b ?_ ?_) <;> intro h4)
  · simp(maxSteps:=999999)(disch:=omega)only[go_sem,reduceAdd,reduceMul,reduceSub,reduceEqDiff,reduceLeDiff]
    unfold finishV
    rw [if_neg (by omega)]
  obtain ⟨hp, hg, ha, hlen, hl4, hl16⟩ := grd_facts h1 h2
  obtain ⟨k, rfl⟩ : ∃ k : Nat, most = k := ⟨most.toNat, by omega⟩
  have hV : finishV p xs k = (finL p p.size.toNat xs k).length := by unfold finishV; rw [if_pos ⟨h1, h2, by omega, by omega⟩, Int.toNat_natCast]
  rw [hV]
  simp(maxSteps:=999999)(disch:=omega)only[go_sem,reduceAdd,reduceMul,reduceSub,reduceEqDiff,reduceLeDiff]
  first | refine OpS.mk (bothGrids_run p xs hlen.symm hl16 (fun k hk => ⟨(hg.val k hk).1, (ha.val k (by omega)).1⟩)) (⟨_, Try.func83, rfl, rfl⟩ : Enters Try.prog 83) rfl rfl rfl rfl rfl ?_ | refine Loud.mk (bothGrids_run p xs hlen.symm hl16 (fun k hk => ⟨(hg.val k hk).1, (ha.val k (by omega)).1⟩)) (⟨_, Try.func83, rfl, rfl⟩ : Enters Try.prog 83) rfl rfl rfl rfl rfl ?_
  simp(maxSteps:=999999)(disch:=omega)only[go_sem,reduceAdd,reduceMul,reduceSub,reduceEqDiff,reduceLeDiff]
  ((first | with_reducible refine condK_dec ?_ ?_ | with_reducible refine condK_ndec ?_ ?_ | with_reducible refine condK_nb ?_ ?_ | refine condK_b ?_ ?_) <;> intro h5)
  rotate_left
  · simp(maxSteps:=999999)(disch:=omega)only[go_sem,reduceAdd,reduceMul,reduceSub,reduceEqDiff,reduceLeDiff]
    have : finL p p.size.toNat xs k = [] := by unfold finL; rw [if_neg (fun h => by rw [h.2] at h5; cases h5)]
    rw [this]
    rfl
  rw [if_pos h5]
  simp(maxSteps:=999999)(disch:=omega)only[go_sem,reduceAdd,reduceMul,reduceSub,reduceEqDiff,reduceLeDiff]
  first | refine OpS.mk (firstSolutions_run hp h1 k (by omega) (withL p.given xs) (withL_grd ha hg) ext_with) (⟨_, Try.func67, rfl, rfl⟩ : Enters Try.prog 67) rfl rfl rfl rfl rfl ?_ | refine Loud.mk (firstSolutions_run hp h1 k (by omega) (withL p.given xs) (withL_grd ha hg) ext_with) (⟨_, Try.func67, rfl, rfl⟩ : Enters Try.prog 67) rfl rfl rfl rfl rfl ?_
  simp(maxSteps:=999999)(disch:=omega)only[go_sem,reduceAdd,reduceMul,reduceSub,reduceEqDiff,reduceLeDiff]
  unfold finL
  by_cases hf : fitsL p (withL p.given xs) p.size.toNat = true
  · rw [if_pos hf, if_pos ⟨hf, h5⟩]
  · rw [if_neg hf, if_neg (fun h => hf h.1)]
theorem CanFinish_run (p : Puz) (xs : List Int) (hx : smP p) (hl : xs.length ≤ 2 ^ 40) : Reads Try.prog 27 [aP p, ints xs] (bool (canV p xs)) := by
  rw [canV_finish]
  refine RunCall.cw (c := _) Try.func27 rfl (n := 9) Try.ntmps27 (rs := [.tmp 4]) rfl ?_
  simp only [List.length_cons, List.length_nil, Nat.reduceAdd, Nat.reduceSub, List.replicate, List.cons_append, List.nil_append]
  simp(maxSteps:=999999)(disch:=omega)only[go_sem,reduceAdd,reduceMul,reduceSub,reduceEqDiff,reduceLeDiff]
  intro g
  first | refine OpS.rd (FinishCount_run p xs 1 hx hl) (⟨_, Try.func52, rfl, rfl⟩ : Enters Try.prog 52) rfl rfl rfl rfl ?_ | refine Loud.rd (FinishCount_run p xs 1 hx hl) (⟨_, Try.func52, rfl, rfl⟩ : Enters Try.prog 52) rfl rfl rfl rfl ?_
  simp(maxSteps:=999999)(disch:=omega)only[go_sem,reduceAdd,reduceMul,reduceSub,reduceEqDiff,reduceLeDiff]
end Go.Lg
