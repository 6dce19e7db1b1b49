/- GpKJ, cut to what is needed. -/
import Derived.Test.YtabihehfemedcaaQed0
set_option linter.unusedSimpArgs false
set_option linter.unusedVariables false
set_option maxRecDepth 100000
namespace Go.Lg
open Go.Proofs
attribute [-go_sem] appendM lwF_cons
set_option maxHeartbeats 2000000 in
theorem sLessRules_run (xs : List Int) (n many : Int) (hx : xs.length ≤ 2 ^ 40) : Reads Try.prog 24 [ints xs, int n, int many] (rsl eR (lessV xs n many)) := by
  refine Reads.ice (Q := fun v H' => frzA H' v = some (rsl eR (lessV xs n many))) ?_ (fun r H' h => h)
  have hemp : ∀ g : Nat, frzA [some ⟨g, 3, []⟩] (.c (.own 0 g 0 0 none)) = some (rsl eR []) := fun g => frzA_own (E := eR) (n := 3) (xs := []) look_zero
  refine RunCall.cw (c := _) Try.func24 rfl (n := 78) Try.ntmps24 (rs := [.tmp 6]) rfl ?_
  simp only [List.length_cons, List.length_nil, Nat.reduceAdd, Nat.reduceSub, List.replicate, List.cons_append, List.nil_append]
  simp (maxSteps := 1000000) (disch := omega) only [go_sem, Nat.reduceAdd, Nat.reduceMul, Nat.reduceSub, Nat.reduceEqDiff, Nat.reduceLeDiff]
  intro g
  first | refine OpS.rd (sSquareSolved_run xs n hx) (⟨_, Try.func19, rfl, rfl⟩ : Enters Try.prog 19) rfl rfl rfl rfl ?_ | refine Loud.rd (sSquareSolved_run xs n hx) (⟨_, Try.func19, rfl, rfl⟩ : Enters Try.prog 19) rfl rfl rfl rfl ?_
  simp (maxSteps := 1000000) (disch := omega) only [go_sem, Nat.reduceAdd, Nat.reduceMul, Nat.reduceSub, Nat.reduceEqDiff, Nat.reduceLeDiff]
  by_cases h0 : solvedS xs n = true ∧ 0 ≤ many ∧ many ≤ 20
  rotate_left
  · have e : lessV xs n many = [] := by unfold lessV; rw [if_neg h0]
    rw [e]
    cases hs : solvedS xs n with
    | false =>
      simp (maxSteps := 1000000) (disch := omega) only [go_sem, Nat.reduceAdd, Nat.reduceMul, Nat.reduceSub, Nat.reduceEqDiff, Nat.reduceLeDiff]
      exact ⟨_, HLe.refl _, hemp g⟩
    | true =>
      simp (maxSteps := 1000000) (disch := omega) only [go_sem, Nat.reduceAdd, Nat.reduceMul, Nat.reduceSub, Nat.reduceEqDiff, Nat.reduceLeDiff]
      first | refine OpS.rd (l1In_run _ _ _) (⟨_, Try.func66, rfl, rfl⟩ : Enters Try.prog 66) rfl rfl rfl rfl ?_ | refine Loud.rd (l1In_run _ _ _) (⟨_, Try.func66, rfl, rfl⟩ : Enters Try.prog 66) rfl rfl rfl rfl ?_
      simp (maxSteps := 1000000) (disch := omega) only [go_sem, Nat.reduceAdd, Nat.reduceMul, Nat.reduceSub, Nat.reduceEqDiff, Nat.reduceLeDiff]
      have d1 : decide (0 ≤ many ∧ many ≤ 20) = false := decide_eq_false fun h => h0 ⟨hs, h⟩
      rw [d1]
      simp (maxSteps := 1000000) (disch := omega) only [go_sem, Nat.reduceAdd, Nat.reduceMul, Nat.reduceSub, Nat.reduceEqDiff, Nat.reduceLeDiff]
      exact ⟨_, HLe.refl _, hemp g⟩
  have e : lessV xs n many = ((pairsL n.toNat).take many.toNat).map (lessO xs) := by unfold lessV; rw [if_pos h0]
  obtain ⟨hs, hm1, hm2⟩ := h0
  rw [hs, e]
  obtain ⟨m, rfl, hm, hf, hc⟩ := solvedS_full hs
  have hsq : 4 ≤ m * m ∧ m * m ≤ 16 := by rcases hm with rfl | rfl | rfl <;> omega
  have hll : (pairsL m).length ≤ 24 := by rw [pairsL_len hm]; rcases hm with rfl | rfl | rfl <;> omega
  have hxl := hf.1.len
  rw [Int.toNat_natCast]
  simp (maxSteps := 1000000) (disch := omega) only [go_sem, Nat.reduceAdd, Nat.reduceMul, Nat.reduceSub, Nat.reduceEqDiff, Nat.reduceLeDiff]
  first | refine OpS.rd (l1In_run _ _ _) (⟨_, Try.func66, rfl, rfl⟩ : Enters Try.prog 66) rfl rfl rfl rfl ?_ | refine Loud.rd (l1In_run _ _ _) (⟨_, Try.func66, rfl, rfl⟩ : Enters Try.prog 66) rfl rfl rfl rfl ?_
  simp (maxSteps := 1000000) (disch := omega) only [go_sem, Nat.reduceAdd, Nat.reduceMul, Nat.reduceSub, Nat.reduceEqDiff, Nat.reduceLeDiff]
  rw [decide_eq_true (show 0 ≤ many ∧ many ≤ 20 from ⟨hm1, hm2⟩)]
  simp (maxSteps := 1000000) (disch := omega) only [go_sem, Nat.reduceAdd, Nat.reduceMul, Nat.reduceSub, Nat.reduceEqDiff, Nat.reduceLeDiff]
  first | refine OpS.mk (l19Pairs_run hm) (⟨_, Try.func67, rfl, rfl⟩ : Enters Try.prog 67) rfl rfl rfl rfl rfl ?_ | refine Loud.mk (l19Pairs_run hm) (⟨_, Try.func67, rfl, rfl⟩ : Enters Try.prog 67) rfl rfl rfl rfl rfl ?_
  simp (maxSteps := 1000000) (disch := omega) only [go_sem, Nat.reduceAdd, Nat.reduceMul, Nat.reduceSub, Nat.reduceEqDiff, Nat.reduceLeDiff]
  have hpm : ∀ q ∈ pairsL m, ∃ a b : Nat, q = ((a : Int), (b : Int)) ∧ a < m * m ∧ b < m * m := fun q hq => by
    obtain ⟨a, b, h1, h2, h3, _⟩ := pair_mem hm hq
    exact ⟨a, b, h1, by omega, h3⟩
  generalize pairsL m = L at hll hpm ⊢
  have hLl : (L.map pairE).length = L.length := List.length_map _
  obtain ⟨M, rfl⟩ : ∃ M : Nat, many = M := ⟨many.toNat, by omega⟩
  refine loop_rule2 (fun (k : Nat) (b : Nat × Heap × List RO) => L.length - k) (fun k b => (k ≤ L.length ∧ k ≤ M) ∧ RsO b.2.1 b.2.2 ((L.take k).map (lessO xs))) (fun k b => [.k, .a, .k, .a, .a, .a, .a, .p (.c (.own 0 b.1 0 k none)), .k, .p (int k), .a, .a, .a, .a, .a, .a, .a, .a, .a, .a, .a, .a, .a, .a, .a, .a, .a, .a, .a, .a, .a, .a, .a, .a, .a, .a, .a, .a, .a, .a, .a, .a, .a, .a, .a, .a, .a, .a, .a, .a, .a, .a, .a, .a, .a, .a, .a, .a, .a, .a, .a, .a, .a, .a, .a, .a, .a, .a, .a, .a, .a, .a, .a, .a, .a, .a, .a, .a]) (fun k b => some ⟨b.1, 3, kl kR b.2.2⟩ :: b.2.1) 0 (g, [], []) ⟨⟨Nat.zero_le _, Nat.zero_le _⟩, RsO.nil⟩ (by simp (maxSteps := 1000000) (disch := omega) only [go_sem, Nat.reduceAdd, Nat.reduceMul, Nat.reduceSub, Nat.reduceEqDiff, Nat.reduceLeDiff]; first | rfl | exact ⟨rfl, rfl⟩) (HLe.refl _) ?_
  rintro k ⟨g, T, l⟩ ⟨⟨hk, hkM⟩, hr⟩
  simp only at hr ⊢
  have hrl := hr.len
  rw [List.length_map, List.length_take, Nat.min_eq_left hk] at hrl
  have fin : ¬ (k < L.length ∧ k < M) → frzA (some ⟨g, 3, kl kR l⟩ :: T) (.c (.own 0 g 0 k none)) = some (rsl eR (List.map (lessO xs) (List.take M L))) := fun hn => by
    have hfr := hr.frzC (g := g) (lim := none) (ys := [])
    rw [List.append_nil, hrl] at hfr
    show Option.map AV.c (frzC _ _) = _
    rw [hfr]
    have : L.take M = L.take k := by
      rcases Nat.lt_or_ge k M with h | h
      · have : k = L.length := by omega
        rw [List.take_of_length_le (by omega), List.take_of_length_le (by omega)]
      · congr 1; omega
    rw [this]
    rfl
  simp (maxSteps := 1000000) (disch := omega) only [go_sem, Nat.reduceAdd, Nat.reduceMul, Nat.reduceSub, Nat.reduceEqDiff, Nat.reduceLeDiff]
  (first | with_reducible refine guardK_dec (fun h1 => ?_) (fun h1 => ?_) <;> simp (maxSteps := 1000000) (disch := omega) only [go_sem, Nat.reduceAdd, Nat.reduceMul, Nat.reduceSub, Nat.reduceEqDiff, Nat.reduceLeDiff, h1] | with_reducible refine guardK_ndec (fun h1 => ?_) (fun h1 => ?_) <;> simp (maxSteps := 1000000) (disch := omega) only [go_sem, Nat.reduceAdd, Nat.reduceMul, Nat.reduceSub, Nat.reduceEqDiff, Nat.reduceLeDiff, h1] | with_reducible refine guardK_nb (fun h1 => ?_) (fun h1 => ?_) <;> simp (maxSteps := 1000000) (disch := omega) only [go_sem, Nat.reduceAdd, Nat.reduceMul, Nat.reduceSub, Nat.reduceEqDiff, Nat.reduceLeDiff, h1] | with_reducible refine guardK_split (fun h1 => ?_) (fun h1 => ?_) <;> simp (maxSteps := 1000000) (disch := omega) only [go_sem, Nat.reduceAdd, Nat.reduceMul, Nat.reduceSub, Nat.reduceEqDiff, Nat.reduceLeDiff, h1] | with_reducible refine guardQ_dec (fun h1 => ?_) (fun h1 => ?_) <;> simp (maxSteps := 1000000) (disch := omega) only [go_sem, Nat.reduceAdd, Nat.reduceMul, Nat.reduceSub, Nat.reduceEqDiff, Nat.reduceLeDiff, h1] | with_reducible refine guardL_dec (fun h1 => ?_) (fun h1 => ?_) <;> simp (maxSteps := 1000000) (disch := omega) only [go_sem, Nat.reduceAdd, Nat.reduceMul, Nat.reduceSub, Nat.reduceEqDiff, Nat.reduceLeDiff, h1] | with_reducible refine guardQ_ndec (fun h1 => ?_) (fun h1 => ?_) <;> simp (maxSteps := 1000000) (disch := omega) only [go_sem, Nat.reduceAdd, Nat.reduceMul, Nat.reduceSub, Nat.reduceEqDiff, Nat.reduceLeDiff, h1] | with_reducible refine guardL_ndec (fun h1 => ?_) (fun h1 => ?_) <;> simp (maxSteps := 1000000) (disch := omega) only [go_sem, Nat.reduceAdd, Nat.reduceMul, Nat.reduceSub, Nat.reduceEqDiff, Nat.reduceLeDiff, h1] | with_reducible refine guardQ_nb (fun h1 => ?_) (fun h1 => ?_) <;> simp (maxSteps := 1000000) (disch := omega) only [go_sem, Nat.reduceAdd, Nat.reduceMul, Nat.reduceSub, Nat.reduceEqDiff, Nat.reduceLeDiff, h1] | with_reducible refine guardL_nb (fun h1 => ?_) (fun h1 => ?_) <;> simp (maxSteps := 1000000) (disch := omega) only [go_sem, Nat.reduceAdd, Nat.reduceMul, Nat.reduceSub, Nat.reduceEqDiff, Nat.reduceLeDiff, h1] | with_reducible refine guardQ_split (fun h1 => ?_) (fun h1 => ?_) <;> simp (maxSteps := 1000000) (disch := omega) only [go_sem, Nat.reduceAdd, Nat.reduceMul, Nat.reduceSub, Nat.reduceEqDiff, Nat.reduceLeDiff, h1] | with_reducible refine guardL_split (fun h1 => ?_) (fun h1 => ?_) <;> simp (maxSteps := 1000000) (disch := omega) only [go_sem, Nat.reduceAdd, Nat.reduceMul, Nat.reduceSub, Nat.reduceEqDiff, Nat.reduceLeDiff, h1])
  rotate_left
  · exact ⟨_, HLe.refl _, by rw [Int.toNat_natCast]; exact fin (by omega)⟩
  (first | with_reducible refine condK_dec (fun h2 => ?_) (fun h2 => ?_) | with_reducible refine condK_ndec (fun h2 => ?_) (fun h2 => ?_) | with_reducible refine condK_nb (fun h2 => ?_) (fun h2 => ?_) | refine condK_b (fun h2 => ?_) (fun h2 => ?_))
  rotate_left
  · simp (maxSteps := 1000000) (disch := omega) only [go_sem, Nat.reduceAdd, Nat.reduceMul, Nat.reduceSub, Nat.reduceEqDiff, Nat.reduceLeDiff]
    exact ⟨_, HLe.refl _, by rw [Int.toNat_natCast]; exact fin (by omega)⟩
  have h1 : k < L.length := by omega
  obtain ⟨a, b, hq, ha, hb⟩ := hpm _ (nth_mem h1)
  have hqe : nth (L.map pairE) k = [(a : Int), (b : Int)] := by
    have e1 : nth L k = L[k] := by rw [nth_eq (by omega)]; rfl
    rw [nth_eq (by rw [hLl]; omega)]
    simp only [List.getElem_map, Int.toNat_natCast]
    rw [← e1, hq]
    rfl
  have hn0 : ∀ H, load1 H (.fp (fl (eI .i64) [(a : Int), (b : Int)]) (Int.toNat 0 * 1)) = some (int a) := fun _ => rfl
  have hn1 : ∀ H, load1 H (.fp (fl (eI .i64) [(a : Int), (b : Int)]) (Int.toNat 1 * 1)) = some (int b) := fun _ => rfl
  obtain ⟨HA, hHA⟩ : ∃ HA : Heap, HA = some ⟨g, 3, kl kR l⟩ :: T := ⟨_, rfl⟩
  have hA0 : ∀ L : Heap, look (HA ++ L) 0 g = some ⟨g, 3, kl kR l⟩ := fun L => by rw [hHA]; exact look_appL look_zero
  rw [← hHA]
  simp (maxSteps := 1000000) (disch := omega) only [go_sem, Nat.reduceAdd, Nat.reduceMul, Nat.reduceSub, Nat.reduceEqDiff, Nat.reduceLeDiff, hqe, hn0, hn1]
  refine drawP_q foll (by kernel_rfl) ?_
  simp (maxSteps := 1000000) (disch := omega) only [go_sem, Nat.reduceBEq, Bool.true_or, Nat.reduceAdd, Nat.reduceMul, Nat.reduceSub, Nat.reduceEqDiff, Nat.reduceLeDiff]
  (first | with_reducible refine condK_dec (fun h3 => ?_) (fun h3 => ?_) | with_reducible refine condK_ndec (fun h3 => ?_) (fun h3 => ?_) | with_reducible refine condK_nb (fun h3 => ?_) (fun h3 => ?_) | refine condK_b (fun h3 => ?_) (fun h3 => ?_))
  · have hce : lessO xs (nth L k) = ⟨4, [(b : Int), (a : Int)], 0⟩ := by rw [hq]; exact if_pos h3
    simp (maxSteps := 1000000) (disch := omega) only [go_sem, Nat.reduceAdd, Nat.reduceMul, Nat.reduceSub, Nat.reduceEqDiff, Nat.reduceLeDiff, look_off, look_off0, set_off, set_off0, List.append_assoc, List.cons_append, List.nil_append, List.length_append, hqe, hn0, hn1]
    intro g3 g4
    refine appendM_kl (n := 3) (sliceOf_of' ti26 rfl ti29) ⟨rfl, rfl, by decide, by decide⟩ (by omega) (hA0 _) (by rw [kl_length, hrl]) (by rw [look_off]; exact look_of (b := ⟨g4, 3, [.f (.int .i64 4), .own HA.length g3 0 2 none, .f (.int .i64 0)]⟩) rfl) rfl ?_
    intro g5
    have hset : ∀ X : Heap, (HA ++ X).set 0 (some ⟨g5, 3, kl kR l ++ [.f (.int .i64 4), .own HA.length g3 0 2 none, .f (.int .i64 0)]⟩) = some ⟨g5, 3, kl kR (l ++ [⟨⟨4, [(b : Int), (a : Int)], 0⟩, .own (T.length + 1) g3 0 2 none, [T.length + 1]⟩])⟩ :: (T ++ X) := fun X => by
      rw [hHA, kl_append]
      rfl
    rw [hset]
    simp (maxSteps := 1000000) (disch := omega) only [go_sem, Nat.reduceAdd, Nat.reduceMul, Nat.reduceSub, Nat.reduceEqDiff, Nat.reduceLeDiff]
    refine ⟨k + 1, (g5, T ++ _, l ++ [⟨⟨4, [(b : Int), (a : Int)], 0⟩, .own (T.length + 1) g3 0 2 none, [T.length + 1]⟩]), ⟨⟨by omega, ?_⟩, by omega⟩, ?_, HLe.refl _⟩
    rotate_left
    · exact ⟨⟨rfl, rfl⟩, by push_cast; rfl⟩
    rw [take_succ_nth h1, List.map_append, List.map_singleton, hce]
    refine hr.add ?_
    refine OwnI.o (T.length + 1) g3 none [(b : Int), (a : Int)] [] ?_
    rw [List.append_nil]
    refine look_of (b := ⟨g3, 1, cl (eI .i64) [(b : Int), (a : Int)]⟩) ?_
    simp
    rfl
  · have hce : lessO xs (nth L k) = ⟨4, [(a : Int), (b : Int)], 0⟩ := by rw [hq]; exact if_neg h3
    simp (maxSteps := 1000000) (disch := omega) only [go_sem, Nat.reduceAdd, Nat.reduceMul, Nat.reduceSub, Nat.reduceEqDiff, Nat.reduceLeDiff, look_off, look_off0, set_off, set_off0, List.append_assoc, List.cons_append, List.nil_append, List.length_append, hqe, hn0, hn1]
    intro g3 g4
    refine appendM_kl (n := 3) (sliceOf_of' ti26 rfl ti29) ⟨rfl, rfl, by decide, by decide⟩ (by omega) (hA0 _) (by rw [kl_length, hrl]) (by rw [look_off]; exact look_of (b := ⟨g4, 3, [.f (.int .i64 4), .own HA.length g3 0 2 none, .f (.int .i64 0)]⟩) rfl) rfl ?_
    intro g5
    have hset : ∀ X : Heap, (HA ++ X).set 0 (some ⟨g5, 3, kl kR l ++ [.f (.int .i64 4), .own HA.length g3 0 2 none, .f (.int .i64 0)]⟩) = some ⟨g5, 3, kl kR (l ++ [⟨⟨4, [(a : Int), (b : Int)], 0⟩, .own (T.length + 1) g3 0 2 none, [T.length + 1]⟩])⟩ :: (T ++ X) := fun X => by
      rw [hHA, kl_append]
      rfl
    rw [hset]
    simp (maxSteps := 1000000) (disch := omega) only [go_sem, Nat.reduceAdd, Nat.reduceMul, Nat.reduceSub, Nat.reduceEqDiff, Nat.reduceLeDiff]
    refine ⟨k + 1, (g5, T ++ _, l ++ [⟨⟨4, [(a : Int), (b : Int)], 0⟩, .own (T.length + 1) g3 0 2 none, [T.length + 1]⟩]), ⟨⟨by omega, ?_⟩, by omega⟩, ?_, HLe.refl _⟩
    rotate_left
    · exact ⟨⟨rfl, rfl⟩, by push_cast; rfl⟩
    rw [take_succ_nth h1, List.map_append, List.map_singleton, hce]
    refine hr.add ?_
    refine OwnI.o (T.length + 1) g3 none [(a : Int), (b : Int)] [] ?_
    rw [List.append_nil]
    refine look_of (b := ⟨g3, 1, cl (eI .i64) [(a : Int), (b : Int)]⟩) ?_
    simp
    rfl
end Go.Lg
