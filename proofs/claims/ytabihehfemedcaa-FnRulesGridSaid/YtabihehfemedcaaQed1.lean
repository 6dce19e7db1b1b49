/- GpKH, cut to what is needed. -/
import Derived.Test.YtabihehfemedcaaQed0
set_option linter.unusedSimpArgs false
set_option linter.unusedVariables false
set_option maxRecDepth 100000
namespace Go.Lg
open Go.Proofs
set_option maxHeartbeats 2000000 in
theorem sApartRules_run (xs : List Int) (n by_ : Int) (hx : xs.length ≤ 2 ^ 40) : Reads Try.prog 17 [ints xs, int n, int by_] (rsl eR (apartV xs n by_)) := by
  refine Reads.ice (Q := fun v H' => frzA H' v = some (rsl eR (apartV xs n by_))) ?_ (fun r H' h => h)
  have hemp : ∀ g : Nat, frzA [some ⟨g, 3, []⟩] (.c (.own 0 g 0 0 none)) = some (rsl eR []) := fun g => frzA_own (E := eR) (n := 3) (xs := []) look_zero
  refine RunCall.cw (c := _) Try.func17 rfl (n := 72) Try.ntmps17 (rs := [.tmp 6]) rfl ?_
  simp only [List.length_cons, List.length_nil, Nat.reduceAdd, Nat.reduceSub, List.replicate, List.cons_append, List.nil_append]
  simp (maxSteps := 1000000) (disch := omega) only [go_sem, Nat.reduceAdd, Nat.reduceMul, Nat.reduceSub, Nat.reduceEqDiff, Nat.reduceLeDiff]
  intro g
  first | refine OpS.rd (sSquareSolved_run xs n hx) (⟨_, Try.func19, rfl, rfl⟩ : Enters Try.prog 19) rfl rfl rfl rfl ?_ | refine Loud.rd (sSquareSolved_run xs n hx) (⟨_, Try.func19, rfl, rfl⟩ : Enters Try.prog 19) rfl rfl rfl rfl ?_
  simp (maxSteps := 1000000) (disch := omega) only [go_sem, Nat.reduceAdd, Nat.reduceMul, Nat.reduceSub, Nat.reduceEqDiff, Nat.reduceLeDiff]
  by_cases h0 : solvedS xs n = true ∧ 0 ≤ by_ ∧ by_ < n
  rotate_left
  · have e : apartV xs n by_ = [] := by unfold apartV; rw [if_neg h0]
    rw [e]
    cases hs : solvedS xs n with
    | false =>
      simp (maxSteps := 1000000) (disch := omega) only [go_sem, Nat.reduceAdd, Nat.reduceMul, Nat.reduceSub, Nat.reduceEqDiff, Nat.reduceLeDiff]
      exact ⟨_, HLe.refl _, hemp g⟩
    | true =>
      obtain ⟨m, rfl, hm, _⟩ := solvedS_full hs
      simp (maxSteps := 1000000) (disch := omega) only [go_sem, Nat.reduceAdd, Nat.reduceMul, Nat.reduceSub, Nat.reduceEqDiff, Nat.reduceLeDiff]
      first | refine OpS.rd (l1In_run _ _ _) (⟨_, Try.func66, rfl, rfl⟩ : Enters Try.prog 66) rfl rfl rfl rfl ?_ | refine Loud.rd (l1In_run _ _ _) (⟨_, Try.func66, rfl, rfl⟩ : Enters Try.prog 66) rfl rfl rfl rfl ?_
      simp (maxSteps := 1000000) (disch := omega) only [go_sem, Nat.reduceAdd, Nat.reduceMul, Nat.reduceSub, Nat.reduceEqDiff, Nat.reduceLeDiff]
      have d1 : decide (0 ≤ by_ ∧ by_ ≤ (m : Int) - 1) = false := decide_eq_false fun h => h0 ⟨hs, h.1, by omega⟩
      rw [d1]
      simp (maxSteps := 1000000) (disch := omega) only [go_sem, Nat.reduceAdd, Nat.reduceMul, Nat.reduceSub, Nat.reduceEqDiff, Nat.reduceLeDiff]
      exact ⟨_, HLe.refl _, hemp g⟩
  have e : apartV xs n by_ = (apartF xs by_ (pairsL n.toNat)).take 20 := by unfold apartV; rw [if_pos h0]
  obtain ⟨hs, hm1, hm2⟩ := h0
  rw [hs, e]
  obtain ⟨m, rfl, hm, hf, hc⟩ := solvedS_full hs
  have hsq : 4 ≤ m * m ∧ m * m ≤ 16 := by rcases hm with rfl | rfl | rfl <;> omega
  have hll : (pairsL m).length ≤ 24 := by rw [pairsL_len hm]; rcases hm with rfl | rfl | rfl <;> omega
  have hxl := hf.1.len
  rw [Int.toNat_natCast]
  simp (maxSteps := 1000000) (disch := omega) only [go_sem, Nat.reduceAdd, Nat.reduceMul, Nat.reduceSub, Nat.reduceEqDiff, Nat.reduceLeDiff]
  first | refine OpS.rd (l1In_run _ _ _) (⟨_, Try.func66, rfl, rfl⟩ : Enters Try.prog 66) rfl rfl rfl rfl ?_ | refine Loud.rd (l1In_run _ _ _) (⟨_, Try.func66, rfl, rfl⟩ : Enters Try.prog 66) rfl rfl rfl rfl ?_
  simp (maxSteps := 1000000) (disch := omega) only [go_sem, Nat.reduceAdd, Nat.reduceMul, Nat.reduceSub, Nat.reduceEqDiff, Nat.reduceLeDiff]
  rw [decide_eq_true (show 0 ≤ by_ ∧ by_ ≤ (m : Int) - 1 from ⟨hm1, by omega⟩)]
  simp (maxSteps := 1000000) (disch := omega) only [go_sem, Nat.reduceAdd, Nat.reduceMul, Nat.reduceSub, Nat.reduceEqDiff, Nat.reduceLeDiff]
  first | refine OpS.mk (l19Pairs_run hm) (⟨_, Try.func67, rfl, rfl⟩ : Enters Try.prog 67) rfl rfl rfl rfl rfl ?_ | refine Loud.mk (l19Pairs_run hm) (⟨_, Try.func67, rfl, rfl⟩ : Enters Try.prog 67) rfl rfl rfl rfl rfl ?_
  simp (maxSteps := 1000000) (disch := omega) only [go_sem, Nat.reduceAdd, Nat.reduceMul, Nat.reduceSub, Nat.reduceEqDiff, Nat.reduceLeDiff]
  have hpm : ∀ q ∈ pairsL m, ∃ a b : Nat, q = ((a : Int), (b : Int)) ∧ a < m * m ∧ b < m * m := fun q hq => by
    obtain ⟨a, b, h1, h2, h3, _⟩ := pair_mem hm hq
    exact ⟨a, b, h1, by omega, h3⟩
  generalize pairsL m = L at hll hpm ⊢
  have hLl : (L.map pairE).length = L.length := List.length_map _
  refine loop_rule2 (fun (k g : Nat) => L.length - k) (fun k g => k ≤ L.length) (fun k g => [.k, .a, .k, .a, .a, .a, .a, .p (.c (.own 0 g 0 (apartT xs by_ L k).length none)), .k, .p (int k), .a, .a, .a, .a, .a, .a, .a, .a, .a, .a, .a, .a, .a, .a, .a, .a, .a, .a, .a, .a, .a, .a, .a, .a, .a, .a, .a, .a, .a, .a, .a, .a, .a, .a, .a, .a, .a, .a, .a, .a, .a, .a, .a, .a, .a, .a, .a, .a, .a, .a, .a, .a, .a, .a, .a, .a, .a, .a, .a, .a, .a, .a]) (fun k g => [some ⟨g, 3, cl eR (apartT xs by_ L k)⟩]) 0 g (Nat.zero_le _) (by simp (maxSteps := 1000000) (disch := omega) only [go_sem, Nat.reduceAdd, Nat.reduceMul, Nat.reduceSub, Nat.reduceEqDiff, Nat.reduceLeDiff]; first | rfl | exact ⟨rfl, rfl⟩) (HLe.refl _) ?_
  intro k g hk
  have htl := apartT_len xs by_ L k
  have fin : ¬ (k < L.length ∧ (apartT xs by_ L k).length < 20) → frzA [some ⟨g, 3, cl eR (apartT xs by_ L k)⟩] (.c (.own 0 g 0 (apartT xs by_ L k).length none)) = some (rsl eR ((apartF xs by_ L).take 20)) := fun hn => by
    have : (apartF xs by_ L).take 20 = apartT xs by_ L k := by
      rcases Nat.lt_or_ge k L.length with h | h
      · have h20 : ¬ (apartT xs by_ L k).length < 20 := fun h' => hn ⟨h, h'⟩
        have e1 : apartF xs by_ L = apartF xs by_ (L.take k) ++ apartF xs by_ (L.drop k) := by rw [← apartF_app, List.take_append_drop]
        unfold apartT at h20 ⊢
        rw [List.length_take] at h20
        rw [e1, List.take_append_of_le_length (by omega)]
      · unfold apartT
        rw [List.take_of_length_le (l := L) h]
    rw [this]
    exact frzA_own (E := eR) (n := 3) look_zero
  have hs' := apartT_succ (xs := xs) (b := by_) (L := L) (k := k)
  generalize apartT xs by_ L k = A at htl fin hs' ⊢
  simp (maxSteps := 1000000) (disch := omega) only [go_sem, Nat.reduceAdd, Nat.reduceMul, Nat.reduceSub, Nat.reduceEqDiff, Nat.reduceLeDiff]
  (first | with_reducible refine guardK_dec (fun h1 => ?_) (fun h1 => ?_) <;> simp (maxSteps := 1000000) (disch := omega) only [go_sem, Nat.reduceAdd, Nat.reduceMul, Nat.reduceSub, Nat.reduceEqDiff, Nat.reduceLeDiff, h1] | with_reducible refine guardK_ndec (fun h1 => ?_) (fun h1 => ?_) <;> simp (maxSteps := 1000000) (disch := omega) only [go_sem, Nat.reduceAdd, Nat.reduceMul, Nat.reduceSub, Nat.reduceEqDiff, Nat.reduceLeDiff, h1] | with_reducible refine guardK_nb (fun h1 => ?_) (fun h1 => ?_) <;> simp (maxSteps := 1000000) (disch := omega) only [go_sem, Nat.reduceAdd, Nat.reduceMul, Nat.reduceSub, Nat.reduceEqDiff, Nat.reduceLeDiff, h1] | with_reducible refine guardK_split (fun h1 => ?_) (fun h1 => ?_) <;> simp (maxSteps := 1000000) (disch := omega) only [go_sem, Nat.reduceAdd, Nat.reduceMul, Nat.reduceSub, Nat.reduceEqDiff, Nat.reduceLeDiff, h1] | with_reducible refine guardQ_dec (fun h1 => ?_) (fun h1 => ?_) <;> simp (maxSteps := 1000000) (disch := omega) only [go_sem, Nat.reduceAdd, Nat.reduceMul, Nat.reduceSub, Nat.reduceEqDiff, Nat.reduceLeDiff, h1] | with_reducible refine guardL_dec (fun h1 => ?_) (fun h1 => ?_) <;> simp (maxSteps := 1000000) (disch := omega) only [go_sem, Nat.reduceAdd, Nat.reduceMul, Nat.reduceSub, Nat.reduceEqDiff, Nat.reduceLeDiff, h1] | with_reducible refine guardQ_ndec (fun h1 => ?_) (fun h1 => ?_) <;> simp (maxSteps := 1000000) (disch := omega) only [go_sem, Nat.reduceAdd, Nat.reduceMul, Nat.reduceSub, Nat.reduceEqDiff, Nat.reduceLeDiff, h1] | with_reducible refine guardL_ndec (fun h1 => ?_) (fun h1 => ?_) <;> simp (maxSteps := 1000000) (disch := omega) only [go_sem, Nat.reduceAdd, Nat.reduceMul, Nat.reduceSub, Nat.reduceEqDiff, Nat.reduceLeDiff, h1] | with_reducible refine guardQ_nb (fun h1 => ?_) (fun h1 => ?_) <;> simp (maxSteps := 1000000) (disch := omega) only [go_sem, Nat.reduceAdd, Nat.reduceMul, Nat.reduceSub, Nat.reduceEqDiff, Nat.reduceLeDiff, h1] | with_reducible refine guardL_nb (fun h1 => ?_) (fun h1 => ?_) <;> simp (maxSteps := 1000000) (disch := omega) only [go_sem, Nat.reduceAdd, Nat.reduceMul, Nat.reduceSub, Nat.reduceEqDiff, Nat.reduceLeDiff, h1] | with_reducible refine guardQ_split (fun h1 => ?_) (fun h1 => ?_) <;> simp (maxSteps := 1000000) (disch := omega) only [go_sem, Nat.reduceAdd, Nat.reduceMul, Nat.reduceSub, Nat.reduceEqDiff, Nat.reduceLeDiff, h1] | with_reducible refine guardL_split (fun h1 => ?_) (fun h1 => ?_) <;> simp (maxSteps := 1000000) (disch := omega) only [go_sem, Nat.reduceAdd, Nat.reduceMul, Nat.reduceSub, Nat.reduceEqDiff, Nat.reduceLeDiff, h1])
  rotate_left
  · exact ⟨_, HLe.refl _, fin (by omega)⟩
  (first | with_reducible refine condK_dec (fun h2 => ?_) (fun h2 => ?_) | with_reducible refine condK_ndec (fun h2 => ?_) (fun h2 => ?_) | with_reducible refine condK_nb (fun h2 => ?_) (fun h2 => ?_) | refine condK_b (fun h2 => ?_) (fun h2 => ?_))
  rotate_left
  · simp (maxSteps := 1000000) (disch := omega) only [go_sem, Nat.reduceAdd, Nat.reduceMul, Nat.reduceSub, Nat.reduceEqDiff, Nat.reduceLeDiff]
    exact ⟨_, HLe.refl _, fin (by omega)⟩
  have h1 : k < L.length := by omega
  have hs' := hs' h1
  obtain ⟨a, b, hq, ha, hb⟩ := hpm _ (nth_mem h1)
  have hqe : nth (L.map pairE) k = [(a : Int), (b : Int)] := by
    have e1 : nth L k = L[k] := by rw [nth_eq (by omega)]; rfl
    rw [nth_eq (by rw [hLl]; omega)]
    simp only [List.getElem_map, Int.toNat_natCast]
    rw [← e1, hq]
    rfl
  have hn0 : ∀ H, load1 H (.fp (fl (eI .i64) [(a : Int), (b : Int)]) (Int.toNat 0 * 1)) = some (int a) := fun _ => rfl
  have hn1 : ∀ H, load1 H (.fp (fl (eI .i64) [(a : Int), (b : Int)]) (Int.toNat 1 * 1)) = some (int b) := fun _ => rfl
  have hva := hf.1.val a (by omega)
  have hvb := hf.1.val b (by omega)
  have hdq : dif xs (nth L k) = max (nth xs a - nth xs b) (0 - (nth xs a - nth xs b)) := by rw [hq]; unfold dif; rw [Int.zero_sub]
  rw [hdq, hq] at hs'
  have hm4 : m ≤ 4 := by omega
  have h2 : A.length < 20 := by omega
  simp (maxSteps := 1000000) (disch := omega) only [go_sem, Nat.reduceAdd, Nat.reduceMul, Nat.reduceSub, Nat.reduceEqDiff, Nat.reduceLeDiff]
  refine drawP_q foll (by kernel_rfl) ?_
  simp (maxSteps := 1000000) (disch := omega) only [go_sem, Nat.reduceBEq, Bool.true_or, Nat.reduceAdd, Nat.reduceMul, Nat.reduceSub, Nat.reduceEqDiff, Nat.reduceLeDiff]
  simp (maxSteps := 1000000) (disch := omega) only [go_sem, Nat.reduceAdd, Nat.reduceMul, Nat.reduceSub, Nat.reduceEqDiff, Nat.reduceLeDiff, hqe, hn0, hn1]
  (first | with_reducible refine condK_dec (fun h3 => ?_) (fun h3 => ?_) | with_reducible refine condK_ndec (fun h3 => ?_) (fun h3 => ?_) | with_reducible refine condK_nb (fun h3 => ?_) (fun h3 => ?_) | refine condK_b (fun h3 => ?_) (fun h3 => ?_))
  · rw [if_pos ⟨h3, h2⟩] at hs'
    simp (maxSteps := 1000000) (disch := omega) only [go_sem, Nat.reduceAdd, Nat.reduceMul, Nat.reduceSub, Nat.reduceEqDiff, Nat.reduceLeDiff, hqe]
    intro g1 g2
    refine ⟨k + 1, g2, ⟨by omega, by omega⟩, ⟨by rw [hs', List.length_append]; exact ⟨rfl, rfl⟩, by push_cast; omega⟩, hle_eq (by rw [hs', cl_append]; rfl) (hle_nil _)⟩
  · rw [if_neg (fun h => h3 h.1)] at hs'
    simp (maxSteps := 1000000) (disch := omega) only [go_sem, Nat.reduceAdd, Nat.reduceMul, Nat.reduceSub, Nat.reduceEqDiff, Nat.reduceLeDiff]
    exact ⟨k + 1, g, ⟨by omega, by omega⟩, ⟨by rw [hs']; exact ⟨rfl, rfl⟩, by push_cast; omega⟩, by rw [hs']; exact HLe.refl _⟩
end Go.Lg
