/- GpMK, cut to what is needed. -/
import Derived.Test.YtcopagjhklcokaaSbd3
import Derived.Test.YtcopagjhklcokaaSbd5
import Derived.Test.YtcopagjhklcokaaSbc1
import Derived.Test.YtcopagjhklcokaaSbc6
import Derived.Test.YtcopagjhklcokaaSbd7
open Nat(reduceAdd reduceMul reduceSub reduceEqDiff reduceLeDiff)
set_option linter.unusedSimpArgs false
set_option linter.unusedVariables false
set_option maxRecDepth 100000
namespace Go.Lg
open Go.Proofs
def fitsV (p : Puz) (xs : List Int) : Bool := puzzleValid p && (gridValid xs p.size && fitsL p xs p.size.toNat)
theorem sum_le_mul : ∀ (l : List Nat) (b : Nat), (∀ x ∈ l, x ≤ b) → l.sum ≤ b * l.length
  | [], b, _ => by simp
  | x :: l, b, h => by
    have h1 := sum_le_mul l b fun y hy => h y (by simp [hy])
    have h2 := h x (by simp)
    simp only [List.sum_cons, List.length_cons, Nat.mul_add, Nat.mul_one]
    omega
theorem MsN.sum {ms : List Nat} {n : Nat} (hn : n = 2 ∨ n = 3 ∨ n = 4) (h : MsN ms n) : ms.sum ≤ 480 := by
  have h1 := sum_le_mul ms 30 fun x hx => by have := (h.val x hx).1; have := pow_n hn; omega
  have h2 : ms.length ≤ 16 := by rw [h.len]; rcases hn with rfl | rfl | rfl <;> omega
  omega
theorem SquareFits_gen (xs : List Int) (n : Int) (hx : xs.length ≤ 2 ^ 40) : Reads Try.prog 122 [ints xs, int n] (bool (gridValid xs n && !clash xs n.toNat)) := by
  cases h : gridValid xs n with
  | true =>
    have hb := gridValid_bound h
    obtain ⟨m, rfl⟩ : ∃ m : Nat, n = m := ⟨n.toNat, by omega⟩
    have hn : m = 2 ∨ m = 3 ∨ m = 4 := by omega
    have := SquareFits_run hn xs (GrdN.of hn h)
    rw [Int.toNat_natCast, Bool.true_and]
    exact this
  | false =>
    refine RunCall.cw (c := _) Try.func122 rfl (n := 47) Try.ntmps122 (rs := [.tmp 4]) rfl ?_
    simp only [List.length_cons, List.length_nil, Nat.reduceAdd, Nat.reduceSub, List.replicate, List.cons_append, List.nil_append]
    simp(maxSteps:=999999)(disch:=omega)only[go_sem,reduceAdd,reduceMul,reduceSub,reduceEqDiff,reduceLeDiff]
    first | refine OpS.rd (GridValid_run xs n (by omega)) (⟨_, Try.func69, rfl, rfl⟩ : Enters Try.prog 69) rfl rfl rfl rfl ?_ | refine Loud.rd (GridValid_run xs n (by omega)) (⟨_, Try.func69, rfl, rfl⟩ : Enters Try.prog 69) rfl rfl rfl rfl ?_
    simp(maxSteps:=999999)(disch:=omega)only[go_sem,reduceAdd,reduceMul,reduceSub,reduceEqDiff,reduceLeDiff]
    ((first | with_reducible refine condK_dec ?_ ?_ | with_reducible refine condK_ndec ?_ ?_ | with_reducible refine condK_nb ?_ ?_ | refine condK_b ?_ ?_) <;> intro c1)
    · exfalso; rw [h] at c1; cases c1
    · simp(maxSteps:=999999)(disch:=omega)only[go_sem,reduceAdd,reduceMul,reduceSub,reduceEqDiff,reduceLeDiff]
      rfl
theorem PuzzleFits_gen (p : Puz) (xs : List Int) (hx : smP p) (hl : xs.length ≤ 2 ^ 40) : Reads Try.prog 82 [aP p, ints xs] (bool (fitsV p xs)) := by
  by_cases h : puzzleValid p = true ∧ gridValid xs p.size = true
  · obtain ⟨hp, hg, ha, _⟩ := grd_facts h.1 h.2
    have := PuzzleFits_run hp h.1 xs hg
    unfold fitsV
    rw [h.1, h.2, Bool.true_and, Bool.true_and]
    exact this
  · have e : fitsV p xs = false := by
      unfold fitsV
      cases h1 : puzzleValid p
      · rfl
      · cases h2 : gridValid xs p.size
        · rfl
        · exact absurd ⟨h1, h2⟩ h
    rw [e]
    refine RunCall.cw (c := _) Try.func82 rfl (n := 60) Try.ntmps82 (rs := [.tmp 4]) rfl ?_
    simp only [List.length_cons, List.length_nil, Nat.reduceAdd, Nat.reduceSub, List.replicate, List.cons_append, List.nil_append]
    simp(maxSteps:=999999)(disch:=omega)only[go_sem,reduceAdd,reduceMul,reduceSub,reduceEqDiff,reduceLeDiff]
    intro g
    first | refine OpS.rd (PuzzleValid_run p hx) (⟨_, Try.func66, rfl, rfl⟩ : Enters Try.prog 66) rfl rfl rfl rfl ?_ | refine Loud.rd (PuzzleValid_run p hx) (⟨_, Try.func66, rfl, rfl⟩ : Enters Try.prog 66) rfl rfl rfl rfl ?_
    simp(maxSteps:=999999)(disch:=omega)only[go_sem,reduceAdd,reduceMul,reduceSub,reduceEqDiff,reduceLeDiff]
    ((first | with_reducible refine guardK_dec ?_ ?_ | with_reducible refine guardK_ndec ?_ ?_ | with_reducible refine guardK_nb ?_ ?_ | with_reducible refine guardK_split ?_ ?_ | with_reducible refine guardQ_dec ?_ ?_ | with_reducible refine guardL_dec ?_ ?_ | with_reducible refine guardQ_ndec ?_ ?_ | with_reducible refine guardL_ndec ?_ ?_ | with_reducible refine guardQ_nb ?_ ?_ | with_reducible refine guardL_nb ?_ ?_ | with_reducible refine guardQ_split ?_ ?_ | with_reducible refine guardL_split ?_ ?_) <;> intro c1 <;> simp(maxSteps:=999999)(disch:=omega)only[go_sem,reduceAdd,reduceMul,reduceSub,reduceEqDiff,reduceLeDiff, c1])
    have c2 : (gridValid xs p.size && !clash xs p.size.toNat) = false := by
      cases h2 : gridValid xs p.size
      · rfl
      · exact absurd ⟨c1, h2⟩ h
    first | refine OpS.rd (SquareFits_gen xs p.size hl) (⟨_, Try.func122, rfl, rfl⟩ : Enters Try.prog 122) rfl rfl rfl rfl ?_ | refine Loud.rd (SquareFits_gen xs p.size hl) (⟨_, Try.func122, rfl, rfl⟩ : Enters Try.prog 122) rfl rfl rfl rfl ?_
    simp(maxSteps:=999999)(disch:=omega)only[go_sem,reduceAdd,reduceMul,reduceSub,reduceEqDiff,reduceLeDiff]
    rw [c2]
    simp(maxSteps:=999999)(disch:=omega)only[go_sem,reduceAdd,reduceMul,reduceSub,reduceEqDiff,reduceLeDiff]
end Go.Lg
