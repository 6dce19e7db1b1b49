/- GpEE, GpEG, GpJC, GpHA, GpKA, cut to what is needed. -/
import Derived.Test.YtabihehfemedcaaQec5
import Derived.Test.YtabihehfemedcaaQec1
import Derived.Test.YtabihehfemedcaaQec4
import Derived.Test.YtabihehfemedcaaQec2
import Derived.Test.YtabihehfemedcaaQeb5
import Derived.Test.YtabihehfemedcaaQeb3
set_option linter.unusedSimpArgs false
set_option linter.unusedVariables false
set_option maxRecDepth 100000
namespace Go.Lg
open Go.Proofs
theorem PuzN.sm {p : Puz} {n : Nat} (hp : PuzN p n) : smP p := by
  have hsq : n * n ≤ 16 := by rcases hp.hn with rfl | rfl | rfl <;> omega
  have := hp.len
  have := hp.rl
  refine ⟨by omega, by omega, fun r hr => ?_⟩
  have := (ruleValid_facts (hp.rv r hr)).1
  omega
theorem PuzzleFits_run {p : Puz} {n : Nat} (hp : PuzN p n) (hv : puzzleValid p = true) (xs : List Int) (hg : GrdN xs n) : Reads Try.prog 55 [aP p, ints xs] (bool (fitsL p xs n)) := by
  have hn := hp.hn
  have hz := hp.size
  have hgl := hp.len
  have hxl := hg.len
  have hrl := hp.rl
  have hsq : n * n ≤ 16 := by rcases hn with rfl | rfl | rfl <;> omega
  refine RunCall.cw (c := _) Try.func55 rfl (n := 60) Try.ntmps55 (rs := [.tmp 4]) rfl ?_
  simp only [List.length_cons, List.length_nil, Nat.reduceAdd, Nat.reduceSub, List.replicate, List.cons_append, List.nil_append]
  simp (maxSteps := 1000000) (disch := omega) only [go_sem, Nat.reduceAdd, Nat.reduceMul, Nat.reduceSub, Nat.reduceEqDiff, Nat.reduceLeDiff]
  intro g
  first | refine OpS.rd (PuzzleValid_run p hp.sm) (⟨_, Try.func83, rfl, rfl⟩ : Enters Try.prog 83) rfl rfl rfl rfl ?_ | refine Loud.rd (PuzzleValid_run p hp.sm) (⟨_, Try.func83, rfl, rfl⟩ : Enters Try.prog 83) rfl rfl rfl rfl ?_
  simp (maxSteps := 1000000) (disch := omega) only [go_sem, Nat.reduceAdd, Nat.reduceMul, Nat.reduceSub, Nat.reduceEqDiff, Nat.reduceLeDiff]
  (first | with_reducible refine guardK_dec (fun c1 => ?_) (fun c1 => ?_) <;> simp (maxSteps := 1000000) (disch := omega) only [go_sem, Nat.reduceAdd, Nat.reduceMul, Nat.reduceSub, Nat.reduceEqDiff, Nat.reduceLeDiff, c1] | with_reducible refine guardK_ndec (fun c1 => ?_) (fun c1 => ?_) <;> simp (maxSteps := 1000000) (disch := omega) only [go_sem, Nat.reduceAdd, Nat.reduceMul, Nat.reduceSub, Nat.reduceEqDiff, Nat.reduceLeDiff, c1] | with_reducible refine guardK_nb (fun c1 => ?_) (fun c1 => ?_) <;> simp (maxSteps := 1000000) (disch := omega) only [go_sem, Nat.reduceAdd, Nat.reduceMul, Nat.reduceSub, Nat.reduceEqDiff, Nat.reduceLeDiff, c1] | with_reducible refine guardK_split (fun c1 => ?_) (fun c1 => ?_) <;> simp (maxSteps := 1000000) (disch := omega) only [go_sem, Nat.reduceAdd, Nat.reduceMul, Nat.reduceSub, Nat.reduceEqDiff, Nat.reduceLeDiff, c1] | with_reducible refine guardQ_dec (fun c1 => ?_) (fun c1 => ?_) <;> simp (maxSteps := 1000000) (disch := omega) only [go_sem, Nat.reduceAdd, Nat.reduceMul, Nat.reduceSub, Nat.reduceEqDiff, Nat.reduceLeDiff, c1] | with_reducible refine guardL_dec (fun c1 => ?_) (fun c1 => ?_) <;> simp (maxSteps := 1000000) (disch := omega) only [go_sem, Nat.reduceAdd, Nat.reduceMul, Nat.reduceSub, Nat.reduceEqDiff, Nat.reduceLeDiff, c1] | with_reducible refine guardQ_ndec (fun c1 => ?_) (fun c1 => ?_) <;> simp (maxSteps := 1000000) (disch := omega) only [go_sem, Nat.reduceAdd, Nat.reduceMul, Nat.reduceSub, Nat.reduceEqDiff, Nat.reduceLeDiff, c1] | with_reducible refine guardL_ndec (fun c1 => ?_) (fun c1 => ?_) <;> simp (maxSteps := 1000000) (disch := omega) only [go_sem, Nat.reduceAdd, Nat.reduceMul, Nat.reduceSub, Nat.reduceEqDiff, Nat.reduceLeDiff, c1] | with_reducible refine guardQ_nb (fun c1 => ?_) (fun c1 => ?_) <;> simp (maxSteps := 1000000) (disch := omega) only [go_sem, Nat.reduceAdd, Nat.reduceMul, Nat.reduceSub, Nat.reduceEqDiff, Nat.reduceLeDiff, c1] | with_reducible refine guardL_nb (fun c1 => ?_) (fun c1 => ?_) <;> simp (maxSteps := 1000000) (disch := omega) only [go_sem, Nat.reduceAdd, Nat.reduceMul, Nat.reduceSub, Nat.reduceEqDiff, Nat.reduceLeDiff, c1] | with_reducible refine guardQ_split (fun c1 => ?_) (fun c1 => ?_) <;> simp (maxSteps := 1000000) (disch := omega) only [go_sem, Nat.reduceAdd, Nat.reduceMul, Nat.reduceSub, Nat.reduceEqDiff, Nat.reduceLeDiff, c1] | with_reducible refine guardL_split (fun c1 => ?_) (fun c1 => ?_) <;> simp (maxSteps := 1000000) (disch := omega) only [go_sem, Nat.reduceAdd, Nat.reduceMul, Nat.reduceSub, Nat.reduceEqDiff, Nat.reduceLeDiff, c1])
  rotate_left
  · exfalso; rw [hv] at c1; cases c1
  have hsf := SquareFits_run hn xs hg
  rw [← hz] at hsf
  first | refine OpS.rd (hsf) (⟨_, Try.func98, rfl, rfl⟩ : Enters Try.prog 98) rfl rfl rfl rfl ?_ | refine Loud.rd (hsf) (⟨_, Try.func98, rfl, rfl⟩ : Enters Try.prog 98) rfl rfl rfl rfl ?_
  simp (maxSteps := 1000000) (disch := omega) only [go_sem, Nat.reduceAdd, Nat.reduceMul, Nat.reduceSub, Nat.reduceEqDiff, Nat.reduceLeDiff]
  (first | with_reducible refine condK_dec (fun c2 => ?_) (fun c2 => ?_) | with_reducible refine condK_ndec (fun c2 => ?_) (fun c2 => ?_) | with_reducible refine condK_nb (fun c2 => ?_) (fun c2 => ?_) | refine condK_b (fun c2 => ?_) (fun c2 => ?_))
  rotate_left
  · have c2 : clash xs n = true := by simpa using c2
    simp (maxSteps := 1000000) (disch := omega) only [go_sem, Nat.reduceAdd, Nat.reduceMul, Nat.reduceSub, Nat.reduceEqDiff, Nat.reduceLeDiff]
    simp [fitsL, c2]
  have c2 : clash xs n = false := by simpa using c2
  simp (maxSteps := 1000000) (disch := omega) only [go_sem, Nat.reduceAdd, Nat.reduceMul, Nat.reduceSub, Nat.reduceEqDiff, Nat.reduceLeDiff]
  refine loop_rule (fun k : Nat => xs.length - k) (fun k => k ≤ xs.length ∧ ∀ j : Nat, j < k → ¬ (0 < nth p.given j ∧ 0 < nth xs j ∧ nth xs j ≠ nth p.given j)) (fun k => [.a, .k, .k, .a, .a, .a, .a, .a, .a, .a, .a, .a, .a, .a, .a, .a, .a, .a, .a, .k, .k, .p (int k), .a, .a, .a, .a, .a, .a, .a, .a, .a, .a, .a, .a, .a, .a, .a, .a, .a, .a, .a, .a, .a, .a, .a, .a, .a, .a, .a, .a, .a, .a, .a, .a, .a, .a, .a, .a, .a, .a]) (fun _ => [some ⟨g, 1, cP p⟩]) 0 ⟨Nat.zero_le _, fun j hj => absurd hj (Nat.not_lt_zero _)⟩ (by simp (maxSteps := 1000000) (disch := omega) only [go_sem, Nat.reduceAdd, Nat.reduceMul, Nat.reduceSub, Nat.reduceEqDiff, Nat.reduceLeDiff]; rfl) (HLe.refl _) ?_
  rintro k ⟨hk, hno⟩
  simp (maxSteps := 1000000) (disch := omega) only [go_sem, Nat.reduceAdd, Nat.reduceMul, Nat.reduceSub, Nat.reduceEqDiff, Nat.reduceLeDiff]
  (first | with_reducible refine condK_dec (fun h1 => ?_) (fun h1 => ?_) | with_reducible refine condK_ndec (fun h1 => ?_) (fun h1 => ?_) | with_reducible refine condK_nb (fun h1 => ?_) (fun h1 => ?_) | refine condK_b (fun h1 => ?_) (fun h1 => ?_))
  · have h1 : k < xs.length := by omega
    have hgo : ¬ (0 < nth p.given k ∧ 0 < nth xs k ∧ nth xs k ≠ nth p.given k) → ∀ j : Nat, j < k + 1 → ¬ (0 < nth p.given j ∧ 0 < nth xs j ∧ nth xs j ≠ nth p.given j) := fun h j hj => by
      by_cases hjk : j = k
      · rw [hjk]; exact h
      · exact hno j (by omega)
    simp (maxSteps := 1000000) (disch := omega) only [go_sem, Nat.reduceAdd, Nat.reduceMul, Nat.reduceSub, Nat.reduceEqDiff, Nat.reduceLeDiff]
    (first | with_reducible refine guardK_dec (fun d1 => ?_) (fun d1 => ?_) <;> simp (maxSteps := 1000000) (disch := omega) only [go_sem, Nat.reduceAdd, Nat.reduceMul, Nat.reduceSub, Nat.reduceEqDiff, Nat.reduceLeDiff, d1] | with_reducible refine guardK_ndec (fun d1 => ?_) (fun d1 => ?_) <;> simp (maxSteps := 1000000) (disch := omega) only [go_sem, Nat.reduceAdd, Nat.reduceMul, Nat.reduceSub, Nat.reduceEqDiff, Nat.reduceLeDiff, d1] | with_reducible refine guardK_nb (fun d1 => ?_) (fun d1 => ?_) <;> simp (maxSteps := 1000000) (disch := omega) only [go_sem, Nat.reduceAdd, Nat.reduceMul, Nat.reduceSub, Nat.reduceEqDiff, Nat.reduceLeDiff, d1] | with_reducible refine guardK_split (fun d1 => ?_) (fun d1 => ?_) <;> simp (maxSteps := 1000000) (disch := omega) only [go_sem, Nat.reduceAdd, Nat.reduceMul, Nat.reduceSub, Nat.reduceEqDiff, Nat.reduceLeDiff, d1] | with_reducible refine guardQ_dec (fun d1 => ?_) (fun d1 => ?_) <;> simp (maxSteps := 1000000) (disch := omega) only [go_sem, Nat.reduceAdd, Nat.reduceMul, Nat.reduceSub, Nat.reduceEqDiff, Nat.reduceLeDiff, d1] | with_reducible refine guardL_dec (fun d1 => ?_) (fun d1 => ?_) <;> simp (maxSteps := 1000000) (disch := omega) only [go_sem, Nat.reduceAdd, Nat.reduceMul, Nat.reduceSub, Nat.reduceEqDiff, Nat.reduceLeDiff, d1] | with_reducible refine guardQ_ndec (fun d1 => ?_) (fun d1 => ?_) <;> simp (maxSteps := 1000000) (disch := omega) only [go_sem, Nat.reduceAdd, Nat.reduceMul, Nat.reduceSub, Nat.reduceEqDiff, Nat.reduceLeDiff, d1] | with_reducible refine guardL_ndec (fun d1 => ?_) (fun d1 => ?_) <;> simp (maxSteps := 1000000) (disch := omega) only [go_sem, Nat.reduceAdd, Nat.reduceMul, Nat.reduceSub, Nat.reduceEqDiff, Nat.reduceLeDiff, d1] | with_reducible refine guardQ_nb (fun d1 => ?_) (fun d1 => ?_) <;> simp (maxSteps := 1000000) (disch := omega) only [go_sem, Nat.reduceAdd, Nat.reduceMul, Nat.reduceSub, Nat.reduceEqDiff, Nat.reduceLeDiff, d1] | with_reducible refine guardL_nb (fun d1 => ?_) (fun d1 => ?_) <;> simp (maxSteps := 1000000) (disch := omega) only [go_sem, Nat.reduceAdd, Nat.reduceMul, Nat.reduceSub, Nat.reduceEqDiff, Nat.reduceLeDiff, d1] | with_reducible refine guardQ_split (fun d1 => ?_) (fun d1 => ?_) <;> simp (maxSteps := 1000000) (disch := omega) only [go_sem, Nat.reduceAdd, Nat.reduceMul, Nat.reduceSub, Nat.reduceEqDiff, Nat.reduceLeDiff, d1] | with_reducible refine guardL_split (fun d1 => ?_) (fun d1 => ?_) <;> simp (maxSteps := 1000000) (disch := omega) only [go_sem, Nat.reduceAdd, Nat.reduceMul, Nat.reduceSub, Nat.reduceEqDiff, Nat.reduceLeDiff, d1])
    · (first | with_reducible refine guardK_dec (fun d2 => ?_) (fun d2 => ?_) <;> simp (maxSteps := 1000000) (disch := omega) only [go_sem, Nat.reduceAdd, Nat.reduceMul, Nat.reduceSub, Nat.reduceEqDiff, Nat.reduceLeDiff, d2] | with_reducible refine guardK_ndec (fun d2 => ?_) (fun d2 => ?_) <;> simp (maxSteps := 1000000) (disch := omega) only [go_sem, Nat.reduceAdd, Nat.reduceMul, Nat.reduceSub, Nat.reduceEqDiff, Nat.reduceLeDiff, d2] | with_reducible refine guardK_nb (fun d2 => ?_) (fun d2 => ?_) <;> simp (maxSteps := 1000000) (disch := omega) only [go_sem, Nat.reduceAdd, Nat.reduceMul, Nat.reduceSub, Nat.reduceEqDiff, Nat.reduceLeDiff, d2] | with_reducible refine guardK_split (fun d2 => ?_) (fun d2 => ?_) <;> simp (maxSteps := 1000000) (disch := omega) only [go_sem, Nat.reduceAdd, Nat.reduceMul, Nat.reduceSub, Nat.reduceEqDiff, Nat.reduceLeDiff, d2] | with_reducible refine guardQ_dec (fun d2 => ?_) (fun d2 => ?_) <;> simp (maxSteps := 1000000) (disch := omega) only [go_sem, Nat.reduceAdd, Nat.reduceMul, Nat.reduceSub, Nat.reduceEqDiff, Nat.reduceLeDiff, d2] | with_reducible refine guardL_dec (fun d2 => ?_) (fun d2 => ?_) <;> simp (maxSteps := 1000000) (disch := omega) only [go_sem, Nat.reduceAdd, Nat.reduceMul, Nat.reduceSub, Nat.reduceEqDiff, Nat.reduceLeDiff, d2] | with_reducible refine guardQ_ndec (fun d2 => ?_) (fun d2 => ?_) <;> simp (maxSteps := 1000000) (disch := omega) only [go_sem, Nat.reduceAdd, Nat.reduceMul, Nat.reduceSub, Nat.reduceEqDiff, Nat.reduceLeDiff, d2] | with_reducible refine guardL_ndec (fun d2 => ?_) (fun d2 => ?_) <;> simp (maxSteps := 1000000) (disch := omega) only [go_sem, Nat.reduceAdd, Nat.reduceMul, Nat.reduceSub, Nat.reduceEqDiff, Nat.reduceLeDiff, d2] | with_reducible refine guardQ_nb (fun d2 => ?_) (fun d2 => ?_) <;> simp (maxSteps := 1000000) (disch := omega) only [go_sem, Nat.reduceAdd, Nat.reduceMul, Nat.reduceSub, Nat.reduceEqDiff, Nat.reduceLeDiff, d2] | with_reducible refine guardL_nb (fun d2 => ?_) (fun d2 => ?_) <;> simp (maxSteps := 1000000) (disch := omega) only [go_sem, Nat.reduceAdd, Nat.reduceMul, Nat.reduceSub, Nat.reduceEqDiff, Nat.reduceLeDiff, d2] | with_reducible refine guardQ_split (fun d2 => ?_) (fun d2 => ?_) <;> simp (maxSteps := 1000000) (disch := omega) only [go_sem, Nat.reduceAdd, Nat.reduceMul, Nat.reduceSub, Nat.reduceEqDiff, Nat.reduceLeDiff, d2] | with_reducible refine guardL_split (fun d2 => ?_) (fun d2 => ?_) <;> simp (maxSteps := 1000000) (disch := omega) only [go_sem, Nat.reduceAdd, Nat.reduceMul, Nat.reduceSub, Nat.reduceEqDiff, Nat.reduceLeDiff, d2])
      · (first | with_reducible refine condK_dec (fun d3 => ?_) (fun d3 => ?_) | with_reducible refine condK_ndec (fun d3 => ?_) (fun d3 => ?_) | with_reducible refine condK_nb (fun d3 => ?_) (fun d3 => ?_) | refine condK_b (fun d3 => ?_) (fun d3 => ?_))
        · simp (maxSteps := 1000000) (disch := omega) only [go_sem, Nat.reduceAdd, Nat.reduceMul, Nat.reduceSub, Nat.reduceEqDiff, Nat.reduceLeDiff]
          exact ⟨k + 1, ⟨⟨by omega, hgo fun h => h.2.2 d3⟩, by omega⟩, by push_cast; omega, HLe.refl _⟩
        · simp (maxSteps := 1000000) (disch := omega) only [go_sem, Nat.reduceAdd, Nat.reduceMul, Nat.reduceSub, Nat.reduceEqDiff, Nat.reduceLeDiff]
          have : clear p xs = false := by
            simp only [clear, decide_eq_false_iff_not]
            exact fun h => h k h1 ⟨d2, d1, d3⟩
          simp [fitsL, this]
      · exact ⟨k + 1, ⟨⟨by omega, hgo fun h => d2 h.1⟩, by omega⟩, by push_cast; omega, HLe.refl _⟩
    · exact ⟨k + 1, ⟨⟨by omega, hgo fun h => d1 h.2.1⟩, by omega⟩, by push_cast; omega, HLe.refl _⟩
  · have hcl : clear p xs = true := by
      simp only [clear, decide_eq_true_eq]
      exact fun j hj => hno j (by omega)
    simp (maxSteps := 1000000) (disch := omega) only [go_sem, Nat.reduceAdd, Nat.reduceMul, Nat.reduceSub, Nat.reduceEqDiff, Nat.reduceLeDiff]
    refine loop_rule (fun k : Nat => p.rules.length - k) (fun k => k ≤ p.rules.length ∧ ∀ j : Nat, j < k → canHold (nth p.rules j) xs n = true) (fun k => [.a, .k, .k, .a, .a, .a, .a, .a, .a, .a, .a, .a, .a, .a, .a, .a, .a, .a, .a, .a, .a, .a, .a, .a, .a, .a, .a, .a, .a, .a, .a, .a, .a, .a, .a, .a, .a, .a, .a, .a, .a, .a, .a, .a, .a, .a, .a, .k, .k, .p (int k), .a, .a, .a, .a, .a, .a, .a, .a, .a, .a]) (fun _ => [some ⟨g, 1, cP p⟩]) 0 ⟨Nat.zero_le _, fun j hj => absurd hj (Nat.not_lt_zero _)⟩ (by simp (maxSteps := 1000000) (disch := omega) only [go_sem, Nat.reduceAdd, Nat.reduceMul, Nat.reduceSub, Nat.reduceEqDiff, Nat.reduceLeDiff]; rfl) (HLe.refl _) ?_
    rintro i ⟨hi, hyes⟩
    simp (maxSteps := 1000000) (disch := omega) only [go_sem, Nat.reduceAdd, Nat.reduceMul, Nat.reduceSub, Nat.reduceEqDiff, Nat.reduceLeDiff]
    (first | with_reducible refine condK_dec (fun h2 => ?_) (fun h2 => ?_) | with_reducible refine condK_ndec (fun h2 => ?_) (fun h2 => ?_) | with_reducible refine condK_nb (fun h2 => ?_) (fun h2 => ?_) | refine condK_b (fun h2 => ?_) (fun h2 => ?_))
    · have h2 : i < p.rules.length := by omega
      have hmem : nth p.rules i ∈ p.rules := nth_mem h2
      simp (maxSteps := 1000000) (disch := omega) only [go_sem, Nat.reduceAdd, Nat.reduceMul, Nat.reduceSub, Nat.reduceEqDiff, Nat.reduceLeDiff]
      intro g2
      have hch := canHold_run hn (nth p.rules i) xs (hp.rv _ hmem) hg
      rw [← hz] at hch
      first | refine OpS.rd (hch) (⟨_, Try.func99, rfl, rfl⟩ : Enters Try.prog 99) rfl rfl rfl rfl ?_ | refine Loud.rd (hch) (⟨_, Try.func99, rfl, rfl⟩ : Enters Try.prog 99) rfl rfl rfl rfl ?_
      simp (maxSteps := 1000000) (disch := omega) only [go_sem, Nat.reduceAdd, Nat.reduceMul, Nat.reduceSub, Nat.reduceEqDiff, Nat.reduceLeDiff]
      (first | with_reducible refine condK_dec (fun h3 => ?_) (fun h3 => ?_) | with_reducible refine condK_ndec (fun h3 => ?_) (fun h3 => ?_) | with_reducible refine condK_nb (fun h3 => ?_) (fun h3 => ?_) | refine condK_b (fun h3 => ?_) (fun h3 => ?_))
      · simp (maxSteps := 1000000) (disch := omega) only [go_sem, Nat.reduceAdd, Nat.reduceMul, Nat.reduceSub, Nat.reduceEqDiff, Nat.reduceLeDiff]
        refine ⟨i + 1, ⟨⟨by omega, fun j hj => ?_⟩, by omega⟩, by push_cast; omega, HLe.app _ _⟩
        by_cases hji : j = i
        · rw [hji]; exact h3
        · exact hyes j (by omega)
      · simp (maxSteps := 1000000) (disch := omega) only [go_sem, Nat.reduceAdd, Nat.reduceMul, Nat.reduceSub, Nat.reduceEqDiff, Nat.reduceLeDiff]
        have : p.rules.all (fun r => canHold r xs n) = false := by
          rw [List.all_eq_false]
          exact ⟨_, hmem, by rw [h3]; simp⟩
        simp [fitsL, this]
    · have hall : p.rules.all (fun r => canHold r xs n) = true := by
        rw [List.all_eq_true]
        intro r hr
        obtain ⟨j, hj, rfl⟩ := List.mem_iff_getElem.1 hr
        have := hyes j (by omega)
        rwa [nth_eq (by omega)] at this
      simp (maxSteps := 1000000) (disch := omega) only [go_sem, Nat.reduceAdd, Nat.reduceMul, Nat.reduceSub, Nat.reduceEqDiff, Nat.reduceLeDiff]
      simp [fitsL, hcl, hall, c2]
end Go.Lg

set_option linter.unusedSimpArgs false
set_option linter.unusedVariables false
set_option maxRecDepth 100000
namespace Go.Lg
open Go.Proofs
attribute [-go_sem] appendM lwF_cons
structure Cap where
  gp : Nat
  gpg : Nat
  tb : Nat
  tbg : Nat
  ty : Nat
  tyg : Nat
  sz : Nat
  szg : Nat
  pb : Nat
  pbg : Nat
  mid : Nat
  mg : Nat
  pid : Nat
  pg : Nat
  gid : Nat
  gg : Nat
def Cap.ids (c : Cap) : List Nat := [c.gp, c.tb, c.ty, c.sz, c.pb, c.mid]
structure TryH (ft fy : FuncId) (p : Puz) (n most : Nat) (c : Cap) (H : Heap) : Prop where
  g : look H c.gp c.gpg = some ⟨c.gpg, 1, [.own c.gid c.gg 0 (n * n) none]⟩
  t : look H c.tb c.tbg = some ⟨c.tbg, 1, [.fn ft [(c.pid, c.pg), (c.mid, c.mg)]]⟩
  y : look H c.ty c.tyg = some ⟨c.tyg, 1, [.fn fy [(c.gp, c.gpg), (c.tb, c.tbg), (c.ty, c.tyg), (c.sz, c.szg), (c.pb, c.pbg)]]⟩
  z : look H c.sz c.szg = some ⟨c.szg, 1, [.f (.int .i64 n)]⟩
  b : look H c.pb c.pbg = some ⟨c.pbg, 1, cP p⟩
  m : look H c.mid c.mg = some ⟨c.mg, 1, [.f (.int .i64 most)]⟩
theorem TryH.same {ft fy : FuncId} {p : Puz} {n most : Nat} {c : Cap} {H H' : Heap} (h : TryH ft fy p n most c H) (hs : ∀ k ∈ c.ids, H'[k]? = H[k]?) : TryH ft fy p n most c H' := by
  have k : ∀ i g b, i ∈ c.ids → look H i g = b → look H' i g = b := fun i g b hi he => by unfold look at *; rw [hs i hi]; exact he
  exact ⟨k _ _ _ (by simp [Cap.ids]) h.g, k _ _ _ (by simp [Cap.ids]) h.t, k _ _ _ (by simp [Cap.ids]) h.y, k _ _ _ (by simp [Cap.ids]) h.z, k _ _ _ (by simp [Cap.ids]) h.b, k _ _ _ (by simp [Cap.ids]) h.m⟩
theorem TryH.lt {ft fy : FuncId} {p : Puz} {n most : Nat} {c : Cap} {H : Heap} (h : TryH ft fy p n most c H) : ∀ k ∈ c.ids, k < H.length := by
  intro k hk
  have hl : ∀ {i g : Nat} {b : Blk}, look H i g = some b → i < H.length := fun h => (List.getElem?_eq_some_iff.1 (look_some h).1).1
  simp only [Cap.ids, List.mem_cons, List.not_mem_nil, or_false] at hk
  rcases hk with rfl | rfl | rfl | rfl | rfl | rfl
  · exact hl h.g
  · exact hl h.t
  · exact hl h.y
  · exact hl h.z
  · exact hl h.b
  · exact hl h.m
end Go.Lg

set_option linter.unusedSimpArgs false
set_option linter.unusedVariables false
set_option maxRecDepth 100000
namespace Go.Lg
open Go.Proofs
attribute [-go_sem] appendM lwF_cons
structure OwnP0 (H : Heap) (c r : CV) (p : Puz) (S1 S2 : List Nat) : Prop where
  g : OwnI H c p.given S1
  rr : (r = .f .nil ∧ p.rules = [] ∧ S2 = []) ∨ OwnR H r p.rules S2
  nd : (S1 ++ S2).Nodup
  l : limN r
theorem limN_shift {r : CV} {k : Nat} (h : limN r) : limN (shiftC k r) := by
  cases r with
  | f v => cases v <;> exact h
  | _ => exact h
section
variable {H H' : Heap} {c r : CV} {p : Puz} {S1 S2 : List Nat}
theorem OwnP0.same (h : OwnP0 H c r p S1 S2) (hs : ∀ i ∈ S1 ++ S2, H'[i]? = H[i]?) : OwnP0 H' c r p S1 S2 :=
  ⟨h.g.same fun i hi => hs i (by simp [hi]), h.rr.imp id fun k => k.same fun i hi => hs i (by simp [hi]), h.nd, h.l⟩
theorem OwnP0.lt (h : OwnP0 H c r p S1 S2) : ∀ i ∈ S1 ++ S2, i < H.length := fun i hi => by
  rcases List.mem_append.1 hi with hi | hi
  · exact h.g.lt i hi
  · rcases h.rr with ⟨_, _, rfl⟩ | k
    · simp at hi
    · exact k.lt i hi
theorem OwnP0.blk (h : OwnP0 H c r p S1 S2) : (∀ i ∈ S1 ++ S2, ∀ b, H[i]? = some (some b) → ∀ x ∈ b.cs, scalC x = true) ∧ scalC c = true ∧ scalC r = true := by
  refine ⟨fun i hi => ?_, h.g.scal1, ?_⟩
  · rcases List.mem_append.1 hi with hi | hi
    · exact h.g.blk i hi
    · rcases h.rr with ⟨_, _, rfl⟩ | k
      · simp at hi
      · exact k.blk i hi
  · rcases h.rr with ⟨rfl, _, _⟩ | k
    · rfl
    · exact k.scal1
theorem OwnP0.shift {H0 : Heap} (h : OwnP0 H c r p S1 S2) : OwnP0 (H0 ++ shiftH H0.length H) (shiftC H0.length c) (shiftC H0.length r) p (S1.map (· + H0.length)) (S2.map (· + H0.length)) := by
  refine ⟨h.g.shift, ?_, ?_, limN_shift h.l⟩
  · rcases h.rr with ⟨rfl, h1, rfl⟩ | k
    · exact .inl ⟨rfl, h1, rfl⟩
    · exact .inr k.shift
  · rw [← List.map_append]
    exact List.pairwise_map.2 (h.nd.imp fun h h' => h (by omega))
theorem OwnP0.snap (h : OwnP0 H c r p S1 S2) : [AV.agg [.f (.int .i64 p.size), c, r]].mapM (snapD H) = some [aP p] := by
  have e1 : ∀ x : Int, frzC H (.f (.int .i64 x)) = some (.f (.int .i64 x)) := fun _ => rfl
  have e2 := h.g.frzC
  have e3 : frzC H r = some (.f (fsl eR p.rules)) := by
    rcases h.rr with ⟨rfl, h1, _⟩ | k
    · rw [h1]; exact (OwnL.n (E := eR) (n := 3)).frzC
    · exact k.frzC
  simp only [snapD, List.mapM_cons, List.mapM_nil, e1, e2, e3, Option.bind_eq_bind, Option.pure_def, Option.bind_some, Option.map_some]
end
section
variable {P : Program} {o : Oper} {st : St} {K : KV} {fo : Operand} {xs : Array Operand} {ts : Array TypeId} {f : FuncId} {args args' : List AV} {p : Puz}
end
end Go.Lg

set_option linter.unusedSimpArgs false
set_option linter.unusedVariables false
set_option maxRecDepth 100000
namespace Go.Lg
open Go.Proofs
def Full (n : Nat) (s : List Int) : Prop := GrdN s n ∧ ∀ k : Nat, k < n * n → 0 < nth s k
def ExtG (xs s : List Int) : Prop := ∀ k : Nat, 0 < nth xs k → nth s k = nth xs k
instance (xs s : List Int) : Decidable (ExtG xs s) := decidable_of_iff (∀ k, k < xs.length → 0 < nth xs (k : Int) → nth s (k : Int) = nth xs (k : Int)) ⟨fun h k hk => by
  by_cases hl : k < xs.length
  · exact h k hl hk
  · rw [nth_over (by omega)] at hk; omega, fun h k _ => h k⟩
theorem ExtG.refl (xs : List Int) : ExtG xs xs := fun _ _ => rfl
theorem ExtG.trans {a b c : List Int} (h : ExtG a b) (k : ExtG b c) : ExtG a c := fun i hi => by
  have := h i hi
  rw [k i (by omega), this]
theorem ExtG.set {xs : List Int} {i : Nat} {v : Int} (hi : i < xs.length) (h0 : ¬ 0 < nth xs i) : ExtG xs (xs.set i v) := fun k hk => by
  rw [nth_setN _ _ _ _ hi, if_neg (fun h => by subst h; exact h0 hk)]
theorem grd_zeros {n : Nat} : GrdN (List.replicate (n * n) 0) n := ⟨by simp, fun k _ => by rw [nth_zeros]; omega⟩
end Go.Lg

set_option linter.unusedSimpArgs false
set_option linter.unusedVariables false
set_option maxRecDepth 100000
namespace Go.Lg
open Go.Proofs
def pairK (n k : Nat) : List (Int × Int) := (if k % n + 1 < n then [((k : Int), (k : Int) + 1)] else []) ++ (if k / n + 1 < n then [((k : Int), (k : Int) + (n : Int))] else [])
def pairsT (n k : Nat) : List (Int × Int) := (List.range k).flatMap (pairK n)
theorem pairsT_succ (n k : Nat) : pairsT n (k + 1) = pairsT n k ++ pairK n k := by
  unfold pairsT
  rw [List.range_succ, List.flatMap_append]
  simp
theorem pairsT_len (n : Nat) : ∀ k : Nat, (pairsT n k).length ≤ 2 * k
  | 0 => by simp [pairsT]
  | k + 1 => by
    have := pairsT_len n k
    rw [pairsT_succ, List.length_append]
    unfold pairK
    split <;> split <;> simp <;> omega
def pairsL (n : Nat) : List (Int × Int) := pairsT n (n * n)
theorem pairsL_len {n : Nat} (hn : n = 2 ∨ n = 3 ∨ n = 4) : (pairsL n).length = 2 * n * (n - 1) := by rcases hn with rfl | rfl | rfl <;> decide
theorem pair_mem {n : Nat} (hn : n = 2 ∨ n = 3 ∨ n = 4) {q : Int × Int} (h : q ∈ pairsL n) : ∃ a b : Nat, q = ((a : Int), (b : Int)) ∧ a < b ∧ b < n * n ∧ (a / n = b / n ∨ a % n = b % n) := by
  obtain ⟨k, hk, hq⟩ := List.mem_flatMap.1 h
  have hk : k < n * n := List.mem_range.1 hk
  unfold pairK at hq
  rcases List.mem_append.1 hq with hq | hq <;> split at hq
  · rename_i hc
    have hq : q = ((k : Int), (k : Int) + 1) := by simpa using hq
    refine ⟨k, k + 1, by rw [hq]; rfl, by omega, ?_, .inl ?_⟩ <;> rcases hn with rfl | rfl | rfl <;> omega
  · cases hq
  · rename_i hc
    have hq : q = ((k : Int), (k : Int) + (n : Int)) := by simpa using hq
    refine ⟨k, k + n, by rw [hq]; push_cast; rfl, ?_, ?_, .inr ?_⟩ <;> rcases hn with rfl | rfl | rfl <;> omega
  · cases hq
def solvedS (xs : List Int) (n : Int) : Bool := gridValid xs n && (!clash xs n.toNat && decide (gridFilled xs n = n * n))
theorem solvedS_full {xs : List Int} {z : Int} (h : solvedS xs z = true) : ∃ n : Nat, z = n ∧ (n = 2 ∨ n = 3 ∨ n = 4) ∧ Full n xs ∧ NC xs n := by
  simp only [solvedS, Bool.and_eq_true, decide_eq_true_eq, Bool.not_eq_true'] at h
  obtain ⟨h1, h2, h3⟩ := h
  have hb := gridValid_bound h1
  obtain ⟨n, rfl⟩ : ∃ n : Nat, z = n := ⟨z.toNat, by omega⟩
  have hn : n = 2 ∨ n = 3 ∨ n = 4 := by omega
  have hg := GrdN.of hn h1
  have h0 : ∀ c : Int, 0 ≤ nth xs c := fun c => by
    by_cases hc : c.toNat < xs.length
    · rw [nth_toNat]; exact (hg.val _ hc).1
    · rw [nth_toNat, nth_over (by omega)]; exact Int.le_refl _
  refine ⟨n, rfl, hn, ⟨hg, fun k hk => ?_⟩, (clash_nc hn h0).1 (by simpa using h2)⟩
  rw [gridFilled, if_pos h1] at h3
  have h4 : xs.countP (fun v => decide (0 < v)) = xs.length := by rw [hg.len]; exact_mod_cast h3
  have := List.countP_eq_length.1 h4 (nth xs k) (nth_mem (by rw [hg.len]; exact hk))
  simpa using this
def ruleHolds (r : Rul) (xs : List Int) (n : Int) : Bool := ruleValid r n && (gridValid xs n && (r.cells.all (fun c => decide (nth xs c ≠ 0)) && holdsV r (r.cells.map (nth xs))))
theorem two_valid {n : Nat} (hn : n = 2 ∨ n = 3 ∨ n = 4) {a b : Nat} (ha : a < n * n) (hb : b < n * n) (hab : a ≠ b) {k v : Int} (hk : k = 4 ∧ v = 0 ∨ k = 5 ∧ 0 ≤ v ∧ v < n) : ruleValid ⟨k, [(a : Int), (b : Int)], v⟩ n = true := by
  have hc : cellsOk [(a : Int), (b : Int)] n 2 := by
    intro j hj
    have ha' : (a : Int) < n * n := by exact_mod_cast ha
    have hb' : (b : Int) < n * n := by exact_mod_cast hb
    have : j = 0 ∨ j = 1 := by omega
    rcases this with rfl | rfl
    · exact ⟨⟨Int.natCast_nonneg a, ha'⟩, fun l hl => absurd hl (Nat.not_lt_zero _)⟩
    · refine ⟨⟨Int.natCast_nonneg b, hb'⟩, fun l hl => ?_⟩
      have : l = 0 := by omega
      subst this
      show (a : Int) ≠ (b : Int)
      omega
  rw [cellsOk_yes (by omega) hc]
  rw [decide_eq_true_eq]
  unfold ruleShape
  simp only [List.length_cons, List.length_nil]
  omega
theorem two_holds {n : Nat} (hn : n = 2 ∨ n = 3 ∨ n = 4) {xs : List Int} (hf : Full n xs) {a b : Nat} (ha : a < n * n) (hb : b < n * n) {k v : Int} (hv : ruleValid ⟨k, [(a : Int), (b : Int)], v⟩ n = true) (hh : holdsV ⟨k, [(a : Int), (b : Int)], v⟩ [nth xs a, nth xs b] = true) :
    ruleHolds ⟨k, [(a : Int), (b : Int)], v⟩ xs n = true := by
  have h1 := hf.2 a ha
  have h2 := hf.2 b hb
  unfold ruleHolds
  rw [hv, hf.1.valid hn]
  simp only [List.all_cons, List.all_nil, List.map_cons, List.map_nil, hh, Bool.true_and, Bool.and_true, Bool.and_eq_true, decide_eq_true_eq]
  omega
def lessO (xs : List Int) (q : Int × Int) : Rul := if nth xs q.2 < nth xs q.1 then ⟨4, [q.2, q.1], 0⟩ else ⟨4, [q.1, q.2], 0⟩
def lessV (xs : List Int) (n many : Int) : List Rul := if solvedS xs n = true ∧ 0 ≤ many ∧ many ≤ 20 then ((pairsL n.toNat).take many.toNat).map (lessO xs) else []
theorem less_holds {n : Nat} (hn : n = 2 ∨ n = 3 ∨ n = 4) {xs : List Int} (hf : Full n xs) (hc : NC xs n) {q : Int × Int} (h : q ∈ pairsL n) : ruleHolds (lessO xs q) xs n = true := by
  obtain ⟨a, b, rfl, hab, hb, hl⟩ := pair_mem hn h
  have h1 := hf.2 a (by omega)
  have h2 := hc a b hab hb hl h1
  unfold lessO
  simp only
  split
  · rename_i h3
    refine two_holds hn hf hb (by omega) (two_valid hn hb (by omega) (by omega) (.inl ⟨rfl, rfl⟩)) ?_
    show decide (nth xs b < nth xs a) = true
    exact decide_eq_true h3
  · rename_i h3
    refine two_holds hn hf (by omega) hb (two_valid hn (by omega) hb (by omega) (.inl ⟨rfl, rfl⟩)) ?_
    show decide (nth xs a < nth xs b) = true
    exact decide_eq_true (by omega)
theorem lessV_holds {xs : List Int} {z m : Int} : ∀ r ∈ lessV xs z m, ruleHolds r xs z = true := by
  intro r hr
  unfold lessV at hr
  split at hr
  · rename_i h
    obtain ⟨n, rfl, hn, hf, hc⟩ := solvedS_full h.1
    obtain ⟨q, hq, rfl⟩ := List.mem_map.1 hr
    exact less_holds hn hf hc (List.mem_of_mem_take hq)
  · cases hr
theorem lessV_len {xs : List Int} {z m : Int} (h : solvedS xs z = true ∧ 0 ≤ m ∧ m ≤ 20) : ((lessV xs z m).length : Int) = min m (2 * z * (z - 1)) := by
  obtain ⟨n, rfl, hn, hf, hc⟩ := solvedS_full h.1
  unfold lessV
  rw [if_pos h, List.length_map, List.length_take, Int.toNat_natCast, pairsL_len hn]
  rcases hn with rfl | rfl | rfl <;> omega
theorem lessV_sm (xs : List Int) (z m : Int) : (lessV xs z m).length ≤ 20 ∧ ∀ r ∈ lessV xs z m, r.kind = 4 ∧ r.cells.length = 2 := by
  unfold lessV
  split
  · rename_i h
    refine ⟨by rw [List.length_map, List.length_take]; omega, fun r hr => ?_⟩
    obtain ⟨q, hq, rfl⟩ := List.mem_map.1 hr
    unfold lessO
    split <;> exact ⟨rfl, rfl⟩
  · exact ⟨Nat.zero_le _, fun r hr => by cases hr⟩
def dif (xs : List Int) (q : Int × Int) : Int := max (nth xs q.1 - nth xs q.2) (-(nth xs q.1 - nth xs q.2))
def apartF (xs : List Int) (b : Int) (l : List (Int × Int)) : List Rul := (l.filter fun q => decide (dif xs q = b)).map fun q => ⟨5, [q.1, q.2], b⟩
def apartV (xs : List Int) (n b : Int) : List Rul := if solvedS xs n = true ∧ 0 ≤ b ∧ b < n then (apartF xs b (pairsL n.toNat)).take 20 else []
theorem apartF_app (xs : List Int) (b : Int) (l m : List (Int × Int)) : apartF xs b (l ++ m) = apartF xs b l ++ apartF xs b m := by simp [apartF]
theorem apartF_one (xs : List Int) (b : Int) (q : Int × Int) : apartF xs b [q] = if dif xs q = b then [⟨5, [q.1, q.2], b⟩] else [] := by
  unfold apartF
  rw [List.filter_cons]
  by_cases h : dif xs q = b <;> simp [h]
theorem apartV_holds {xs : List Int} {z b : Int} : ∀ r ∈ apartV xs z b, ruleHolds r xs z = true := by
  intro r hr
  unfold apartV at hr
  split at hr
  · rename_i h
    obtain ⟨n, rfl, hn, hf, hc⟩ := solvedS_full h.1
    obtain ⟨q, hq, rfl⟩ := List.mem_map.1 (List.mem_of_mem_take hr)
    obtain ⟨hq, hd⟩ := List.mem_filter.1 hq
    obtain ⟨i, j, rfl, hab, hb, hl⟩ := pair_mem hn hq
    refine two_holds hn hf (by omega) hb (two_valid hn (by omega) hb (by omega) (.inr ⟨rfl, h.2⟩)) ?_
    show decide (max (nth xs i - nth xs j) (nth xs j - nth xs i) = b) = true
    have hd := of_decide_eq_true hd
    unfold dif at hd
    simp only at hd
    exact decide_eq_true (by omega)
  · cases hr
theorem apartV_sm (xs : List Int) (z b : Int) : (apartV xs z b).length ≤ 20 ∧ ∀ r ∈ apartV xs z b, r.kind = 5 ∧ r.cells.length = 2 ∧ r.val = b := by
  unfold apartV
  split
  · refine ⟨by rw [List.length_take]; omega, fun r hr => ?_⟩
    obtain ⟨q, hq, rfl⟩ := List.mem_map.1 (List.mem_of_mem_take hr)
    exact ⟨rfl, rfl, rfl⟩
  · exact ⟨Nat.zero_le _, fun r hr => by cases hr⟩
theorem apartF_len (xs : List Int) (b : Int) (l : List (Int × Int)) : (apartF xs b l).length ≤ l.length := by
  unfold apartF
  rw [List.length_map]
  exact List.length_filter_le _ _
theorem dif_iff {xs : List Int} {q : Int × Int} {b : Int} (hb : 0 ≤ b) : dif xs q = b ↔ nth xs q.1 - nth xs q.2 = b ∨ nth xs q.2 - nth xs q.1 = b := by
  unfold dif
  omega
theorem mvals_pow {v : Nat} (h : 1 ≤ v ∧ v ≤ 4) : mvals (2 ^ v) 4 = [(v : Int)] := by
  have : v = 1 ∨ v = 2 ∨ v = 3 ∨ v = 4 := by omega
  rcases this with rfl | rfl | rfl | rfl <;> decide
theorem ways_full (r : Rul) : ∀ (vs : List Int) (pre : List Int) (o : List Nat), (∀ v ∈ vs, 1 ≤ v ∧ v ≤ 4) → ways r (vs.map fun v => 2 ^ v.toNat) pre o = if holdsV r (pre ++ vs) = true then orV o (pre ++ vs) else o
  | [], pre, o, _ => by simp [ways]
  | v :: vs, pre, o, h => by
    have hv := h v (by simp)
    obtain ⟨m, rfl⟩ : ∃ m : Nat, v = m := ⟨v.toNat, by omega⟩
    rw [List.map_cons, ways_cons, Int.toNat_natCast, mvals_pow (by omega)]
    simp only [List.foldl_cons, List.foldl_nil]
    rw [ways_full r vs _ _ (fun x hx => h x (by simp [hx])), List.append_assoc]
    rfl
theorem can_of_holds {r : Rul} {xs : List Int} {z : Int} {n : Nat} (hz : z = n) (hf : Full n xs) (h : ruleHolds r xs z = true) : canHold r xs n = true := by
  subst hz
  simp only [ruleHolds, Bool.and_eq_true] at h
  obtain ⟨h1, h2, h3, h4⟩ := h
  simp only [ruleValid, decide_eq_true_eq] at h1
  obtain ⟨hn, hco, hsh⟩ := h1
  have hcell : ∀ c ∈ r.cells, 1 ≤ nth xs c ∧ nth xs c ≤ 4 := fun c hc => by
    obtain ⟨j, hj, rfl⟩ := List.mem_iff_getElem.1 hc
    have hb := (hco j hj).1
    have e : nth r.cells j = r.cells[j] := by rw [nth_eq (by omega)]; rfl
    rw [e] at hb
    obtain ⟨m, hm⟩ : ∃ m : Nat, r.cells[j] = m := ⟨(r.cells[j]).toNat, by omega⟩
    rw [hm] at hb ⊢
    have hmn : m < n * n := by exact_mod_cast hb.2
    have := hf.2 m hmn
    have := hf.1.val m (by rw [hf.1.len]; exact hmn)
    omega
  unfold canHold
  have e : r.cells.map (maskAt xs n) = (r.cells.map (nth xs)).map fun v => 2 ^ v.toNat := by
    rw [List.map_map]
    refine List.map_congr_left fun c hc => ?_
    unfold maskAt
    rw [if_pos (by have := hcell c hc; omega)]
    rfl
  rw [e, ways_full r _ _ _ (fun v hv => by obtain ⟨c, hc, rfl⟩ := List.mem_map.1 hv; exact hcell c hc), List.nil_append, if_pos h4]
  have hlen : 1 ≤ r.cells.length := by unfold ruleShape at hsh; omega
  rcases hr : r.cells with _ | ⟨c, cs⟩
  · rw [hr] at hlen; simp at hlen
  · simp only [List.length_cons, List.replicate_succ, List.map_cons, orV, List.zipWith_cons_cons, List.getD_cons_zero]
    have h5 : (0 : Nat) ||| 2 ^ (nth xs c).toNat ≠ 0 := by
      rw [Nat.zero_or]
      exact Nat.ne_of_gt (Nat.two_pow_pos _)
    simp only [bne_iff_ne, ne_eq]; exact h5
end Go.Lg
