/- GpKI, cut to what is needed. -/
import Derived.Test.YtabihehfemedcaaQec9
set_option linter.unusedSimpArgs false
set_option linter.unusedVariables false
set_option maxRecDepth 100000
namespace Go.Lg
open Go.Proofs
attribute [-go_sem] appendM lwF_cons
theorem take_one {α : Type} (A : List α) (r : α) (n : Nat) : (A ++ [r]).take n = if (A.take n).length < n then A.take n ++ [r] else A.take n := by
  rw [List.length_take]
  by_cases h : A.length < n
  · rw [if_pos (by omega), List.take_of_length_le (by simp; omega), List.take_of_length_le (by omega)]
  · rw [if_neg (by omega), List.take_append_of_le_length (by omega)]
def apartT (xs : List Int) (b : Int) (L : List (Int × Int)) (k : Nat) : List Rul := (apartF xs b (L.take k)).take 20
theorem apartT_succ {xs : List Int} {b : Int} {L : List (Int × Int)} {k : Nat} (h : k < L.length) : apartT xs b L (k + 1) = if dif xs (nth L k) = b ∧ (apartT xs b L k).length < 20 then apartT xs b L k ++ [⟨5, [(nth L k).1, (nth L k).2], b⟩] else apartT xs b L k := by
  unfold apartT
  rw [take_succ_nth h, apartF_app, apartF_one]
  by_cases hd : dif xs (nth L k) = b
  · rw [if_pos hd, take_one]
    simp only [hd, true_and]
  · rw [if_neg hd, List.append_nil, if_neg (fun h => hd h.1)]
theorem apartT_len (xs : List Int) (b : Int) (L : List (Int × Int)) (k : Nat) : (apartT xs b L k).length ≤ 20 := by
  unfold apartT
  rw [List.length_take]
  omega
set_option maxHeartbeats 2000000 in
theorem ApartRules_run (xs : List Int) (n by_ : Int) (hx : xs.length ≤ 2 ^ 40) : Reads Try.prog 16 [ints xs, int n, int by_] (rsl eR (apartV xs n by_)) := by
  refine Reads.ice (Q := fun v H' => frzA H' v = some (rsl eR (apartV xs n by_))) ?_ (fun r H' h => h)
  refine RunCall.cw (c := _) Try.func16 rfl (n := 66) Try.ntmps16 (rs := [.tmp 6]) rfl ?_
  simp only [List.length_cons, List.length_nil, Nat.reduceAdd, Nat.reduceSub, List.replicate, List.cons_append, List.nil_append]
  simp (maxSteps := 1000000) (disch := omega) only [go_sem, Nat.reduceAdd, Nat.reduceMul, Nat.reduceSub, Nat.reduceEqDiff, Nat.reduceLeDiff]
  first | refine OpS.rd (SquareSolved_run xs n hx) (⟨_, Try.func64, rfl, rfl⟩ : Enters Try.prog 64) rfl rfl rfl rfl ?_ | refine Loud.rd (SquareSolved_run xs n hx) (⟨_, Try.func64, rfl, rfl⟩ : Enters Try.prog 64) rfl rfl rfl rfl ?_
  simp (maxSteps := 1000000) (disch := omega) only [go_sem, Nat.reduceAdd, Nat.reduceMul, Nat.reduceSub, Nat.reduceEqDiff, Nat.reduceLeDiff]
  by_cases h0 : solvedS xs n = true ∧ 0 ≤ by_ ∧ by_ < n
  rotate_left
  · have e : apartV xs n by_ = [] := by unfold apartV; rw [if_neg h0]
    rw [e]
    cases hs : solvedS xs n with
    | false =>
      simp (maxSteps := 1000000) (disch := omega) only [go_sem, Nat.reduceAdd, Nat.reduceMul, Nat.reduceSub, Nat.reduceEqDiff, Nat.reduceLeDiff]
      exact ⟨_, HLe.refl _, rfl⟩
    | true =>
      simp (maxSteps := 1000000) (disch := omega) only [go_sem, Nat.reduceAdd, Nat.reduceMul, Nat.reduceSub, Nat.reduceEqDiff, Nat.reduceLeDiff]
      (first | with_reducible refine guardK_dec (fun h1 => ?_) (fun h1 => ?_) <;> simp (maxSteps := 1000000) (disch := omega) only [go_sem, Nat.reduceAdd, Nat.reduceMul, Nat.reduceSub, Nat.reduceEqDiff, Nat.reduceLeDiff, h1] | with_reducible refine guardK_ndec (fun h1 => ?_) (fun h1 => ?_) <;> simp (maxSteps := 1000000) (disch := omega) only [go_sem, Nat.reduceAdd, Nat.reduceMul, Nat.reduceSub, Nat.reduceEqDiff, Nat.reduceLeDiff, h1] | with_reducible refine guardK_nb (fun h1 => ?_) (fun h1 => ?_) <;> simp (maxSteps := 1000000) (disch := omega) only [go_sem, Nat.reduceAdd, Nat.reduceMul, Nat.reduceSub, Nat.reduceEqDiff, Nat.reduceLeDiff, h1] | with_reducible refine guardK_split (fun h1 => ?_) (fun h1 => ?_) <;> simp (maxSteps := 1000000) (disch := omega) only [go_sem, Nat.reduceAdd, Nat.reduceMul, Nat.reduceSub, Nat.reduceEqDiff, Nat.reduceLeDiff, h1] | with_reducible refine guardQ_dec (fun h1 => ?_) (fun h1 => ?_) <;> simp (maxSteps := 1000000) (disch := omega) only [go_sem, Nat.reduceAdd, Nat.reduceMul, Nat.reduceSub, Nat.reduceEqDiff, Nat.reduceLeDiff, h1] | with_reducible refine guardL_dec (fun h1 => ?_) (fun h1 => ?_) <;> simp (maxSteps := 1000000) (disch := omega) only [go_sem, Nat.reduceAdd, Nat.reduceMul, Nat.reduceSub, Nat.reduceEqDiff, Nat.reduceLeDiff, h1] | with_reducible refine guardQ_ndec (fun h1 => ?_) (fun h1 => ?_) <;> simp (maxSteps := 1000000) (disch := omega) only [go_sem, Nat.reduceAdd, Nat.reduceMul, Nat.reduceSub, Nat.reduceEqDiff, Nat.reduceLeDiff, h1] | with_reducible refine guardL_ndec (fun h1 => ?_) (fun h1 => ?_) <;> simp (maxSteps := 1000000) (disch := omega) only [go_sem, Nat.reduceAdd, Nat.reduceMul, Nat.reduceSub, Nat.reduceEqDiff, Nat.reduceLeDiff, h1] | with_reducible refine guardQ_nb (fun h1 => ?_) (fun h1 => ?_) <;> simp (maxSteps := 1000000) (disch := omega) only [go_sem, Nat.reduceAdd, Nat.reduceMul, Nat.reduceSub, Nat.reduceEqDiff, Nat.reduceLeDiff, h1] | with_reducible refine guardL_nb (fun h1 => ?_) (fun h1 => ?_) <;> simp (maxSteps := 1000000) (disch := omega) only [go_sem, Nat.reduceAdd, Nat.reduceMul, Nat.reduceSub, Nat.reduceEqDiff, Nat.reduceLeDiff, h1] | with_reducible refine guardQ_split (fun h1 => ?_) (fun h1 => ?_) <;> simp (maxSteps := 1000000) (disch := omega) only [go_sem, Nat.reduceAdd, Nat.reduceMul, Nat.reduceSub, Nat.reduceEqDiff, Nat.reduceLeDiff, h1] | with_reducible refine guardL_split (fun h1 => ?_) (fun h1 => ?_) <;> simp (maxSteps := 1000000) (disch := omega) only [go_sem, Nat.reduceAdd, Nat.reduceMul, Nat.reduceSub, Nat.reduceEqDiff, Nat.reduceLeDiff, h1])
      · exact ⟨_, HLe.refl _, rfl⟩
      · have h2 : n ≤ by_ := by
          by_cases hq : by_ < n
          · exact absurd ⟨hs, by omega, hq⟩ h0
          · omega
        have d2 : decide (n ≤ by_) = true := decide_eq_true h2
        simp (maxSteps := 1000000) (disch := omega) only [go_sem, Nat.reduceAdd, Nat.reduceMul, Nat.reduceSub, Nat.reduceEqDiff, Nat.reduceLeDiff, d2]
        exact ⟨_, HLe.refl _, rfl⟩
  have e : apartV xs n by_ = (apartF xs by_ (pairsL n.toNat)).take 20 := by unfold apartV; rw [if_pos h0]
  obtain ⟨hs, hm1, hm2⟩ := h0
  rw [hs, e]
  obtain ⟨m, rfl, hm, hf, hc⟩ := solvedS_full hs
  have hsq : 4 ≤ m * m ∧ m * m ≤ 16 := by rcases hm with rfl | rfl | rfl <;> omega
  have hll : (pairsL m).length ≤ 24 := by rw [pairsL_len hm]; rcases hm with rfl | rfl | rfl <;> omega
  have hxl := hf.1.len
  rw [Int.toNat_natCast]
  have d1 : decide (by_ < 0) = false := decide_eq_false (by omega)
  have d2 : decide ((m : Int) ≤ by_) = false := decide_eq_false (by omega)
  simp (maxSteps := 1000000) (disch := omega) only [go_sem, Nat.reduceAdd, Nat.reduceMul, Nat.reduceSub, Nat.reduceEqDiff, Nat.reduceLeDiff, d1, d2]
  intro g
  first | refine OpS.mk (neighbours_run hm) (⟨_, Try.func65, rfl, rfl⟩ : Enters Try.prog 65) rfl rfl rfl rfl rfl ?_ | refine Loud.mk (neighbours_run hm) (⟨_, Try.func65, rfl, rfl⟩ : Enters Try.prog 65) rfl rfl rfl rfl rfl ?_
  simp (maxSteps := 1000000) (disch := omega) only [go_sem, Nat.reduceAdd, Nat.reduceMul, Nat.reduceSub, Nat.reduceEqDiff, Nat.reduceLeDiff]
  have hpm : ∀ q ∈ pairsL m, ∃ a b : Nat, q = ((a : Int), (b : Int)) ∧ a < m * m ∧ b < m * m := fun q hq => by
    obtain ⟨a, b, h1, h2, h3, _⟩ := pair_mem hm hq
    exact ⟨a, b, h1, by omega, h3⟩
  generalize pairsL m = L at hll hpm ⊢
  refine loop_rule2 (fun (k : Nat) (b : Nat × Heap × List RO) => L.length - k) (fun k b => k ≤ L.length ∧ RsO b.2.1 b.2.2 (apartT xs by_ L k)) (fun k b => [.k, .a, .k, .a, .a, .a, .a, .p (.c (.own 0 b.1 0 b.2.2.length none)), .a, .a, .a, .a, .a, .a, .a, .a, .a, .a, .a, .a, .a, .a, .a, .a, .a, .a, .k, .k, .p (int k), .a, .a, .a, .a, .a, .a, .a, .a, .a, .a, .a, .a, .a, .a, .a, .a, .a, .a, .a, .a, .a, .a, .a, .a, .a, .a, .a, .a, .a, .a, .a, .a, .a, .a, .a, .a, .a]) (fun k b => some ⟨b.1, 3, kl kR b.2.2⟩ :: b.2.1) 0 (g, [], []) ⟨Nat.zero_le _, RsO.nil⟩ (by simp (maxSteps := 1000000) (disch := omega) only [go_sem, Nat.reduceAdd, Nat.reduceMul, Nat.reduceSub, Nat.reduceEqDiff, Nat.reduceLeDiff]; rfl) (HLe.refl _) ?_
  rintro k ⟨g, T, l⟩ ⟨hk, hr⟩
  simp only at hr ⊢
  have hrl := hr.len
  have htl := apartT_len xs by_ L k
  simp (maxSteps := 1000000) (disch := omega) only [go_sem, Nat.reduceAdd, Nat.reduceMul, Nat.reduceSub, Nat.reduceEqDiff, Nat.reduceLeDiff]
  (first | with_reducible refine condK_dec (fun h1 => ?_) (fun h1 => ?_) | with_reducible refine condK_ndec (fun h1 => ?_) (fun h1 => ?_) | with_reducible refine condK_nb (fun h1 => ?_) (fun h1 => ?_) | refine condK_b (fun h1 => ?_) (fun h1 => ?_))
  · have h1 : k < L.length := by omega
    obtain ⟨a, b, hq, ha, hb⟩ := hpm _ (nth_mem h1)
    obtain ⟨HA, hHA⟩ : ∃ HA : Heap, HA = some ⟨g, 3, kl kR l⟩ :: T := ⟨_, rfl⟩
    have hA0 : ∀ L : Heap, look (HA ++ L) 0 g = some ⟨g, 3, kl kR l⟩ := fun L => by rw [hHA]; exact look_appL look_zero
    rw [← hHA]
    have hst : setRange [CV.f (.int .i64 0), CV.f (.int .i64 0)] 0 (List.map CV.f (eP2 ((a : Int), (b : Int)))) = [CV.f (.int .i64 a), CV.f (.int .i64 b)] := rfl
    have hel : (eP2 ((a : Int), (b : Int))).length = 2 := rfl
    have hva := hf.1.val a (by omega)
    have hvb := hf.1.val b (by omega)
    have hs := apartT_succ (xs := xs) (b := by_) h1
    have hdq : dif xs (nth L k) = max (nth xs a - nth xs b) (0 - (nth xs a - nth xs b)) := by rw [hq]; unfold dif; rw [Int.zero_sub]
    rw [hdq, hq] at hs
    have hm4 : m ≤ 4 := by omega
    simp (maxSteps := 1000000) (disch := omega) only [go_sem, Nat.reduceAdd, Nat.reduceMul, Nat.reduceSub, Nat.reduceEqDiff, Nat.reduceLeDiff, look_off, look_off0, set_off, set_off0, List.append_assoc, List.cons_append, List.nil_append, List.length_append, hq, hst, hel]
    intro g2
    refine drawP_q foll (by kernel_rfl) ?_
    simp (maxSteps := 1000000) (disch := omega) only [go_sem, Nat.reduceBEq, Bool.true_or, Nat.reduceAdd, Nat.reduceMul, Nat.reduceSub, Nat.reduceEqDiff, Nat.reduceLeDiff]
    simp (maxSteps := 1000000) (disch := omega) only [go_sem, Nat.reduceAdd, Nat.reduceMul, Nat.reduceSub, Nat.reduceEqDiff, Nat.reduceLeDiff, look_off, look_off0, set_off, set_off0, List.append_assoc, List.cons_append, List.nil_append, List.length_append, Int.reduceToNat]
    (first | with_reducible refine guardK_dec (fun h2 => ?_) (fun h2 => ?_) <;> simp (maxSteps := 1000000) (disch := omega) only [go_sem, Nat.reduceAdd, Nat.reduceMul, Nat.reduceSub, Nat.reduceEqDiff, Nat.reduceLeDiff, h2] | with_reducible refine guardK_ndec (fun h2 => ?_) (fun h2 => ?_) <;> simp (maxSteps := 1000000) (disch := omega) only [go_sem, Nat.reduceAdd, Nat.reduceMul, Nat.reduceSub, Nat.reduceEqDiff, Nat.reduceLeDiff, h2] | with_reducible refine guardK_nb (fun h2 => ?_) (fun h2 => ?_) <;> simp (maxSteps := 1000000) (disch := omega) only [go_sem, Nat.reduceAdd, Nat.reduceMul, Nat.reduceSub, Nat.reduceEqDiff, Nat.reduceLeDiff, h2] | with_reducible refine guardK_split (fun h2 => ?_) (fun h2 => ?_) <;> simp (maxSteps := 1000000) (disch := omega) only [go_sem, Nat.reduceAdd, Nat.reduceMul, Nat.reduceSub, Nat.reduceEqDiff, Nat.reduceLeDiff, h2] | with_reducible refine guardQ_dec (fun h2 => ?_) (fun h2 => ?_) <;> simp (maxSteps := 1000000) (disch := omega) only [go_sem, Nat.reduceAdd, Nat.reduceMul, Nat.reduceSub, Nat.reduceEqDiff, Nat.reduceLeDiff, h2] | with_reducible refine guardL_dec (fun h2 => ?_) (fun h2 => ?_) <;> simp (maxSteps := 1000000) (disch := omega) only [go_sem, Nat.reduceAdd, Nat.reduceMul, Nat.reduceSub, Nat.reduceEqDiff, Nat.reduceLeDiff, h2] | with_reducible refine guardQ_ndec (fun h2 => ?_) (fun h2 => ?_) <;> simp (maxSteps := 1000000) (disch := omega) only [go_sem, Nat.reduceAdd, Nat.reduceMul, Nat.reduceSub, Nat.reduceEqDiff, Nat.reduceLeDiff, h2] | with_reducible refine guardL_ndec (fun h2 => ?_) (fun h2 => ?_) <;> simp (maxSteps := 1000000) (disch := omega) only [go_sem, Nat.reduceAdd, Nat.reduceMul, Nat.reduceSub, Nat.reduceEqDiff, Nat.reduceLeDiff, h2] | with_reducible refine guardQ_nb (fun h2 => ?_) (fun h2 => ?_) <;> simp (maxSteps := 1000000) (disch := omega) only [go_sem, Nat.reduceAdd, Nat.reduceMul, Nat.reduceSub, Nat.reduceEqDiff, Nat.reduceLeDiff, h2] | with_reducible refine guardL_nb (fun h2 => ?_) (fun h2 => ?_) <;> simp (maxSteps := 1000000) (disch := omega) only [go_sem, Nat.reduceAdd, Nat.reduceMul, Nat.reduceSub, Nat.reduceEqDiff, Nat.reduceLeDiff, h2] | with_reducible refine guardQ_split (fun h2 => ?_) (fun h2 => ?_) <;> simp (maxSteps := 1000000) (disch := omega) only [go_sem, Nat.reduceAdd, Nat.reduceMul, Nat.reduceSub, Nat.reduceEqDiff, Nat.reduceLeDiff, h2] | with_reducible refine guardL_split (fun h2 => ?_) (fun h2 => ?_) <;> simp (maxSteps := 1000000) (disch := omega) only [go_sem, Nat.reduceAdd, Nat.reduceMul, Nat.reduceSub, Nat.reduceEqDiff, Nat.reduceLeDiff, h2])
    · simp (maxSteps := 1000000) (disch := omega) only [go_sem, Nat.reduceAdd, Nat.reduceMul, Nat.reduceSub, Nat.reduceEqDiff, Nat.reduceLeDiff, look_off, look_off0, set_off, set_off0, List.append_assoc, List.cons_append, List.nil_append, List.length_append, hA0]
      (first | with_reducible refine condK_dec (fun h3 => ?_) (fun h3 => ?_) | with_reducible refine condK_ndec (fun h3 => ?_) (fun h3 => ?_) | with_reducible refine condK_nb (fun h3 => ?_) (fun h3 => ?_) | refine condK_b (fun h3 => ?_) (fun h3 => ?_))
      · rw [if_pos ⟨h2, by omega⟩] at hs
        simp (maxSteps := 1000000) (disch := omega) only [go_sem, Nat.reduceAdd, Nat.reduceMul, Nat.reduceSub, Nat.reduceEqDiff, Nat.reduceLeDiff, look_off, look_off0, set_off, set_off0, List.append_assoc, List.cons_append, List.nil_append, List.length_append, Int.reduceToNat]
        have hrl' : l.length ≤ 24 := by omega
        have hrl := rfl (a := l.length)
        intro g3 g4
        refine appendM_kl (n := 3) (sliceOf_of' ti26 rfl ti29) ⟨rfl, rfl, by decide, by decide⟩ (by omega) (hA0 _) (by rw [kl_length, hrl]) (by rw [look_off]; exact look_of (b := ⟨g4, 3, [.f (.int .i64 5), .own (HA.length + 1) g3 0 2 none, .f (.int .i64 by_)]⟩) rfl) rfl ?_
        intro g5
        have hset : ∀ X : Heap, (HA ++ X).set 0 (some ⟨g5, 3, kl kR l ++ [.f (.int .i64 5), .own (HA.length + 1) g3 0 2 none, .f (.int .i64 by_)]⟩) = some ⟨g5, 3, kl kR (l ++ [⟨⟨5, [(a : Int), (b : Int)], by_⟩, .own (T.length + 2) g3 0 2 none, [T.length + 2]⟩])⟩ :: (T ++ X) := fun X => by
          rw [hHA, kl_append]
          rfl
        rw [hset]
        simp (maxSteps := 1000000) (disch := omega) only [go_sem, Nat.reduceAdd, Nat.reduceMul, Nat.reduceSub, Nat.reduceEqDiff, Nat.reduceLeDiff]
        refine ⟨k + 1, (g5, T ++ _, l ++ [⟨⟨5, [(a : Int), (b : Int)], by_⟩, .own (T.length + 2) g3 0 2 none, [T.length + 2]⟩]), ⟨⟨by omega, ?_⟩, by omega⟩, ?_, HLe.refl _⟩
        rotate_left
        · exact ⟨⟨rfl, by rw [List.length_append]; rfl⟩, by push_cast; rfl⟩
        rw [hs]
        refine hr.add ?_
        refine OwnI.o (T.length + 2) g3 none [(a : Int), (b : Int)] [] ?_
        rw [List.append_nil]
        refine look_of (b := ⟨g3, 1, cl (eI .i64) [(a : Int), (b : Int)]⟩) ?_
        simp
        rfl
      · rw [if_neg (by omega)] at hs
        simp (maxSteps := 1000000) (disch := omega) only [go_sem, Nat.reduceAdd, Nat.reduceMul, Nat.reduceSub, Nat.reduceEqDiff, Nat.reduceLeDiff, look_off, look_off0, set_off, set_off0, List.append_assoc, List.cons_append, List.nil_append, List.length_append]
        rw [hHA]
        exact ⟨k + 1, (g, T ++ _, l), ⟨⟨by omega, by rw [hs]; exact ⟨hr.r, fun o ho => (hr.o o ho).app⟩⟩, by omega⟩, ⟨⟨rfl, rfl⟩, by push_cast; rfl⟩, HLe.refl _⟩
    · rw [if_neg (fun h => h2 h.1)] at hs
      rw [hHA]
      exact ⟨k + 1, (g, T ++ _, l), ⟨⟨by omega, by rw [hs]; exact ⟨hr.r, fun o ho => (hr.o o ho).app⟩⟩, by omega⟩, ⟨⟨rfl, rfl⟩, by push_cast; rfl⟩, HLe.refl _⟩
  · have hke : k = L.length := by omega
    subst hke
    simp (maxSteps := 1000000) (disch := omega) only [go_sem, Nat.reduceAdd, Nat.reduceMul, Nat.reduceSub, Nat.reduceEqDiff, Nat.reduceLeDiff]
    refine ⟨_, HLe.refl _, ?_⟩
    have hfr := hr.frzC (g := g) (lim := none) (ys := [])
    rw [List.append_nil] at hfr
    show Option.map AV.c (frzC _ _) = _
    rw [hfr]
    unfold apartT
    rw [List.take_length]
    rfl
structure LO where
  xs : List Int
  c : CV
  i : List Nat
  deriving Inhabited
def kLs (o : LO) : List CV := [o.c]
instance : HSzK kLs 1 := ⟨fun _ => rfl⟩
structure LsO (T : Heap) (l : List LO) (ls : List (List Int)) : Prop where
  r : l.map (·.xs) = ls
  o : ∀ o ∈ l, OwnI (none :: T) o.c o.xs o.i
theorem LsO.nil : LsO [] [] [] := ⟨rfl, fun o h => by cases h⟩
theorem LsO.add {T X : Heap} {l : List LO} {ls : List (List Int)} (h : LsO T l ls) {o : LO} (ho : OwnI (none :: (T ++ X)) o.c o.xs o.i) : LsO (T ++ X) (l ++ [o]) (ls ++ [o.xs]) :=
  ⟨by rw [List.map_append, h.r]; rfl, fun o' hm => by
    rcases List.mem_append.1 hm with hm | hm
    · exact (h.o o' hm).app
    · have : o' = o := by simpa using hm
      rw [this]; exact ho⟩
theorem LsO.len {T : Heap} {l : List LO} {ls : List (List Int)} (h : LsO T l ls) : l.length = ls.length := by rw [← h.r, List.length_map]
theorem mapM_frz_kL {H : Heap} {n : Nat} (l : List LO) (h : ∀ o ∈ l, ∃ S, OwnI H o.c o.xs S) : (kl kLs l).mapM (frz H (n + 1)) = some (fl eL (l.map (·.xs))) := by
  induction l with
  | nil => rfl
  | cons o l ih =>
    obtain ⟨S, hS⟩ := h o (by simp)
    show (kLs o ++ kl kLs l).mapM _ = _
    rw [List.mapM_append, ih fun o' hm => h o' (by simp [hm])]
    simp only [kLs, List.mapM_cons, List.mapM_nil, hS.frz n, Option.bind_eq_bind, Option.pure_def, Option.bind_some, Option.map_some]
    rfl
theorem LsO.frzC {T : Heap} {l : List LO} {ls : List (List Int)} (h : LsO T l ls) {g : Nat} {lim : Option Nat} : Lg.frzC (some ⟨g, 1, kl kLs l⟩ :: T) (.own 0 g 0 l.length lim) = some (.f (.sl ls.length (fl eL ls))) := by
  have hl : (kl kLs l).length = l.length * 1 := kl_length l
  have e : ((kl kLs l).drop 0).take (l.length * 1) = kl kLs l := by rw [List.drop_zero, List.take_of_length_le (by omega)]
  have ho : ∀ o ∈ l, ∃ S, OwnI (some ⟨g, 1, kl kLs l⟩ :: T) o.c o.xs S := fun o hm => by
    have := h.o o hm
    have hz := this.nz
    exact ⟨o.i, this.same fun i hi => by
      cases i with
      | zero => exact absurd (hz 0 hi) (Nat.lt_irrefl _)
      | succ i => rfl⟩
  simp only [Lg.frzC, frz, look_zero, e, mapM_frz_kL l ho, Option.map_some]
  rw [h.r, h.len]
def pairE (q : Int × Int) : List Int := [q.1, q.2]
set_option maxHeartbeats 4000000 in
theorem l19Pairs_run {n : Nat} (hn : n = 2 ∨ n = 3 ∨ n = 4) : Reads Try.prog 67 [int n] (rsl eL ((pairsL n).map pairE)) := by
  have hsq : 4 ≤ n * n ∧ n * n ≤ 16 := by rcases hn with rfl | rfl | rfl <;> omega
  refine Reads.ice (Q := fun v H' => frzA H' v = some (rsl eL ((pairsL n).map pairE))) ?_ (fun r H' h => h)
  refine RunCall.cw (c := _) Try.func67 rfl (n := 41) Try.ntmps67 (rs := [.tmp 2]) rfl ?_
  simp only [List.length_cons, List.length_nil, Nat.reduceAdd, Nat.reduceSub, List.replicate, List.cons_append, List.nil_append]
  simp (maxSteps := 1000000) (disch := omega) only [go_sem, Nat.reduceAdd, Nat.reduceMul, Nat.reduceSub, Nat.reduceEqDiff, Nat.reduceLeDiff]
  intro g
  refine loop_rule2 (fun (k : Nat) (b : Nat × Heap × List LO) => n * n - k) (fun k b => k ≤ n * n ∧ LsO b.2.1 b.2.2 ((pairsT n k).map pairE)) (fun k b => [.k, .a, .a, .p (.c (.own 0 b.1 0 (pairsT n k).length none)), .p (int k), .a, .a, .a, .a, .a, .a, .a, .a, .a, .a, .a, .a, .a, .a, .a, .a, .a, .a, .a, .a, .a, .a, .a, .a, .a, .a, .a, .a, .a, .a, .a, .a, .a, .a, .a, .a]) (fun k b => some ⟨b.1, 1, kl kLs b.2.2⟩ :: b.2.1) 0 (g, [], []) ⟨Nat.zero_le _, LsO.nil⟩ (by simp (maxSteps := 1000000) (disch := omega) only [go_sem, Nat.reduceAdd, Nat.reduceMul, Nat.reduceSub, Nat.reduceEqDiff, Nat.reduceLeDiff]; exact ⟨rfl, rfl⟩) (HLe.refl _) ?_
  rintro k ⟨g, T, l⟩ ⟨hk, hr⟩
  simp only at hr ⊢
  have hrl := hr.len
  rw [List.length_map] at hrl
  have hpl := pairsT_len n k
  have hs := pairsT_succ n k
  have ht1 : (k : Int).tmod (n : Int) = ((k % n : Nat) : Int) := rfl
  have ht2 : (k : Int).tdiv (n : Int) = ((k / n : Nat) : Int) := rfl
  simp (maxSteps := 1000000) (disch := omega) only [go_sem, Nat.reduceAdd, Nat.reduceMul, Nat.reduceSub, Nat.reduceEqDiff, Nat.reduceLeDiff]
  (first | with_reducible refine condK_dec (fun h1 => ?_) (fun h1 => ?_) | with_reducible refine condK_ndec (fun h1 => ?_) (fun h1 => ?_) | with_reducible refine condK_nb (fun h1 => ?_) (fun h1 => ?_) | refine condK_b (fun h1 => ?_) (fun h1 => ?_))
  · have h1 : k < n * n := by omega
    have hkd : k / n < n := by rw [Nat.div_lt_iff_lt_mul (by omega)]; exact h1
    have hkm : k % n < n := Nat.mod_lt _ (by omega)
    have hp0 : pairK n k = (if k % n + 1 < n then [((k : Int), (k : Int) + 1)] else []) ++ (if k / n + 1 < n then [((k : Int), (k : Int) + (n : Int))] else []) := rfl
    generalize k % n = e at hp0 ht1 hkm
    generalize k / n = d at hp0 ht2 hkd
    obtain ⟨HA, hHA⟩ : ∃ HA : Heap, HA = some ⟨g, 1, kl kLs l⟩ :: T := ⟨_, rfl⟩
    have hA0 : ∀ L : Heap, look (HA ++ L) 0 g = some ⟨g, 1, kl kLs l⟩ := fun L => by rw [hHA]; exact look_appL look_zero
    rw [← hHA]
    generalize pairsT n k = A at hrl hpl hs hr ⊢
    simp (maxSteps := 1000000) (disch := omega) only [go_sem, Nat.reduceAdd, Nat.reduceMul, Nat.reduceSub, Nat.reduceEqDiff, Nat.reduceLeDiff, ht1, ht2]
    (first | with_reducible refine condK_dec (fun h2 => ?_) (fun h2 => ?_) | with_reducible refine condK_ndec (fun h2 => ?_) (fun h2 => ?_) | with_reducible refine condK_nb (fun h2 => ?_) (fun h2 => ?_) | refine condK_b (fun h2 => ?_) (fun h2 => ?_))
    · rw [if_pos (by omega)] at hp0
      simp (maxSteps := 1000000) (disch := omega) only [go_sem, Nat.reduceAdd, Nat.reduceMul, Nat.reduceSub, Nat.reduceEqDiff, Nat.reduceLeDiff, look_off, look_off0, set_off, set_off0, List.append_assoc, List.cons_append, List.nil_append, List.length_append, ht1, ht2]
      intro g3 g4
      refine appendM_kl (n := 1) (sliceOf_of' ti81 rfl ti23) ⟨rfl, rfl, by decide, by decide⟩ (by omega) (hA0 _) (by rw [kl_length]; omega) (by rw [look_off]; exact look_of (b := ⟨g4, 1, [CV.own HA.length g3 0 2 none]⟩) rfl) rfl ?_
      intro g5
      have hset : ∀ X : Heap, (HA ++ X).set 0 (some ⟨g5, 1, kl kLs l ++ [CV.own HA.length g3 0 2 none]⟩) = some ⟨g5, 1, kl kLs (l ++ [⟨[(k : Int), ((k : Int) + 1)], .own (T.length + 1) g3 0 2 none, [T.length + 1]⟩])⟩ :: (T ++ X) := fun X => by
        rw [hHA, kl_append]
        rfl
      rw [hset]
      have hr := hr.add (o := ⟨[(k : Int), ((k : Int) + 1)], .own (T.length + 1) g3 0 2 none, [T.length + 1]⟩) (X := [some ⟨g3, 1, [CV.f (FV.int .i64 (k : Int)), CV.f (FV.int .i64 ((k : Int) + 1))]⟩, some ⟨g4, 1, [CV.own HA.length g3 0 2 none]⟩]) (by
        refine OwnI.o (T.length + 1) g3 none [(k : Int), ((k : Int) + 1)] [] ?_
        rw [List.append_nil]
        refine look_of (b := ⟨g3, 1, cl (eI .i64) [(k : Int), ((k : Int) + 1)]⟩) ?_
        simp
        rfl)
      generalize l ++ [(⟨[(k : Int), ((k : Int) + 1)], .own (T.length + 1) g3 0 2 none, [T.length + 1]⟩ : LO)] = l at hr ⊢
      generalize T ++ [some (⟨g3, 1, [CV.f (FV.int .i64 (k : Int)), CV.f (FV.int .i64 ((k : Int) + 1))]⟩ : Blk), some ⟨g4, 1, [CV.own HA.length g3 0 2 none]⟩] = T at hr ⊢
      clear hset hA0 hrl
      have e0 : A.map pairE ++ [[(k : Int), ((k : Int) + 1)]] = (A ++ [((k : Int), ((k : Int) + 1))]).map pairE := by rw [List.map_append]; rfl
      rw [e0] at hr
      have e1 : A.length + 1 = (A ++ [((k : Int), ((k : Int) + 1))]).length := by simp
      rw [e1]
      have hpl2 : (A ++ [((k : Int), ((k : Int) + 1))]).length ≤ A.length + 1 := by simp
      clear e1 e0
      rw [hp0, ← List.append_assoc] at hs
      generalize A ++ [((k : Int), (k : Int) + 1)] = A at hs hr hpl2 ⊢
      clear hp0
      have hrl := hr.len
      rw [List.length_map] at hrl
      obtain ⟨HA, hHA⟩ : ∃ HA : Heap, HA = some ⟨g5, 1, kl kLs l⟩ :: T := ⟨_, rfl⟩
      have hA0 : ∀ L : Heap, look (HA ++ L) 0 g5 = some ⟨g5, 1, kl kLs l⟩ := fun L => by rw [hHA]; exact look_appL look_zero
      rw [← hHA]
      simp (maxSteps := 1000000) (disch := omega) only [go_sem, Nat.reduceAdd, Nat.reduceMul, Nat.reduceSub, Nat.reduceEqDiff, Nat.reduceLeDiff, ht1, ht2]
      (first | with_reducible refine condK_dec (fun h3 => ?_) (fun h3 => ?_) | with_reducible refine condK_ndec (fun h3 => ?_) (fun h3 => ?_) | with_reducible refine condK_nb (fun h3 => ?_) (fun h3 => ?_) | refine condK_b (fun h3 => ?_) (fun h3 => ?_))
      · rw [if_pos (by omega)] at hs
        simp (maxSteps := 1000000) (disch := omega) only [go_sem, Nat.reduceAdd, Nat.reduceMul, Nat.reduceSub, Nat.reduceEqDiff, Nat.reduceLeDiff, look_off, look_off0, set_off, set_off0, List.append_assoc, List.cons_append, List.nil_append, List.length_append]
        intro g3 g4
        refine appendM_kl (n := 1) (sliceOf_of' ti81 rfl ti23) ⟨rfl, rfl, by decide, by decide⟩ (by omega) (hA0 _) (by rw [kl_length]; omega) (by rw [look_off]; exact look_of (b := ⟨g4, 1, [CV.own HA.length g3 0 2 none]⟩) rfl) rfl ?_
        intro g5
        have hset : ∀ X : Heap, (HA ++ X).set 0 (some ⟨g5, 1, kl kLs l ++ [CV.own HA.length g3 0 2 none]⟩) = some ⟨g5, 1, kl kLs (l ++ [⟨[(k : Int), ((k : Int) + (n : Int))], .own (T.length + 1) g3 0 2 none, [T.length + 1]⟩])⟩ :: (T ++ X) := fun X => by
          rw [hHA, kl_append]
          rfl
        rw [hset]
        have hr := hr.add (o := ⟨[(k : Int), ((k : Int) + (n : Int))], .own (T.length + 1) g3 0 2 none, [T.length + 1]⟩) (X := [some ⟨g3, 1, [CV.f (FV.int .i64 (k : Int)), CV.f (FV.int .i64 ((k : Int) + (n : Int)))]⟩, some ⟨g4, 1, [CV.own HA.length g3 0 2 none]⟩]) (by
          refine OwnI.o (T.length + 1) g3 none [(k : Int), ((k : Int) + (n : Int))] [] ?_
          rw [List.append_nil]
          refine look_of (b := ⟨g3, 1, cl (eI .i64) [(k : Int), ((k : Int) + (n : Int))]⟩) ?_
          simp
          rfl)
        generalize l ++ [(⟨[(k : Int), ((k : Int) + (n : Int))], .own (T.length + 1) g3 0 2 none, [T.length + 1]⟩ : LO)] = l at hr ⊢
        generalize T ++ [some (⟨g3, 1, [CV.f (FV.int .i64 (k : Int)), CV.f (FV.int .i64 ((k : Int) + (n : Int)))]⟩ : Blk), some ⟨g4, 1, [CV.own HA.length g3 0 2 none]⟩] = T at hr ⊢
        clear hset hA0 hrl
        have e0 : A.map pairE ++ [[(k : Int), ((k : Int) + (n : Int))]] = (A ++ [((k : Int), ((k : Int) + (n : Int)))]).map pairE := by rw [List.map_append]; rfl
        rw [e0] at hr
        have e1 : A.length + 1 = (A ++ [((k : Int), ((k : Int) + (n : Int)))]).length := by simp
        rw [e1]
        have hpl2 : (A ++ [((k : Int), ((k : Int) + (n : Int)))]).length ≤ A.length + 1 := by simp
        clear e1 e0
        rw [← hs] at hr ⊢
        simp (maxSteps := 1000000) (disch := omega) only [go_sem, Nat.reduceAdd, Nat.reduceMul, Nat.reduceSub, Nat.reduceEqDiff, Nat.reduceLeDiff]
        exact ⟨k + 1, (g5, T, l), ⟨⟨by omega, hr⟩, by omega⟩, ⟨⟨rfl, rfl⟩, by push_cast; rfl⟩, HLe.refl _⟩
      · rw [if_neg (by omega), List.append_nil] at hs
        rw [← hs] at hr ⊢
        simp (maxSteps := 1000000) (disch := omega) only [go_sem, Nat.reduceAdd, Nat.reduceMul, Nat.reduceSub, Nat.reduceEqDiff, Nat.reduceLeDiff]
        rw [hHA]
        exact ⟨k + 1, (g5, T, l), ⟨⟨by omega, hr⟩, by omega⟩, ⟨⟨rfl, rfl⟩, by push_cast; rfl⟩, HLe.refl _⟩
    · rw [if_neg (by omega), List.nil_append] at hp0
      rw [hp0] at hs
      simp (maxSteps := 1000000) (disch := omega) only [go_sem, Nat.reduceAdd, Nat.reduceMul, Nat.reduceSub, Nat.reduceEqDiff, Nat.reduceLeDiff, ht1, ht2]
      (first | with_reducible refine condK_dec (fun h3 => ?_) (fun h3 => ?_) | with_reducible refine condK_ndec (fun h3 => ?_) (fun h3 => ?_) | with_reducible refine condK_nb (fun h3 => ?_) (fun h3 => ?_) | refine condK_b (fun h3 => ?_) (fun h3 => ?_))
      · rw [if_pos (by omega)] at hs
        simp (maxSteps := 1000000) (disch := omega) only [go_sem, Nat.reduceAdd, Nat.reduceMul, Nat.reduceSub, Nat.reduceEqDiff, Nat.reduceLeDiff, look_off, look_off0, set_off, set_off0, List.append_assoc, List.cons_append, List.nil_append, List.length_append]
        intro g3 g4
        refine appendM_kl (n := 1) (sliceOf_of' ti81 rfl ti23) ⟨rfl, rfl, by decide, by decide⟩ (by omega) (hA0 _) (by rw [kl_length]; omega) (by rw [look_off]; exact look_of (b := ⟨g4, 1, [CV.own HA.length g3 0 2 none]⟩) rfl) rfl ?_
        intro g5
        have hset : ∀ X : Heap, (HA ++ X).set 0 (some ⟨g5, 1, kl kLs l ++ [CV.own HA.length g3 0 2 none]⟩) = some ⟨g5, 1, kl kLs (l ++ [⟨[(k : Int), ((k : Int) + (n : Int))], .own (T.length + 1) g3 0 2 none, [T.length + 1]⟩])⟩ :: (T ++ X) := fun X => by
          rw [hHA, kl_append]
          rfl
        rw [hset]
        have hr := hr.add (o := ⟨[(k : Int), ((k : Int) + (n : Int))], .own (T.length + 1) g3 0 2 none, [T.length + 1]⟩) (X := [some ⟨g3, 1, [CV.f (FV.int .i64 (k : Int)), CV.f (FV.int .i64 ((k : Int) + (n : Int)))]⟩, some ⟨g4, 1, [CV.own HA.length g3 0 2 none]⟩]) (by
          refine OwnI.o (T.length + 1) g3 none [(k : Int), ((k : Int) + (n : Int))] [] ?_
          rw [List.append_nil]
          refine look_of (b := ⟨g3, 1, cl (eI .i64) [(k : Int), ((k : Int) + (n : Int))]⟩) ?_
          simp
          rfl)
        generalize l ++ [(⟨[(k : Int), ((k : Int) + (n : Int))], .own (T.length + 1) g3 0 2 none, [T.length + 1]⟩ : LO)] = l at hr ⊢
        generalize T ++ [some (⟨g3, 1, [CV.f (FV.int .i64 (k : Int)), CV.f (FV.int .i64 ((k : Int) + (n : Int)))]⟩ : Blk), some ⟨g4, 1, [CV.own HA.length g3 0 2 none]⟩] = T at hr ⊢
        clear hset hA0 hrl
        have e0 : A.map pairE ++ [[(k : Int), ((k : Int) + (n : Int))]] = (A ++ [((k : Int), ((k : Int) + (n : Int)))]).map pairE := by rw [List.map_append]; rfl
        rw [e0] at hr
        have e1 : A.length + 1 = (A ++ [((k : Int), ((k : Int) + (n : Int)))]).length := by simp
        rw [e1]
        have hpl2 : (A ++ [((k : Int), ((k : Int) + (n : Int)))]).length ≤ A.length + 1 := by simp
        clear e1 e0
        rw [← hs] at hr ⊢
        simp (maxSteps := 1000000) (disch := omega) only [go_sem, Nat.reduceAdd, Nat.reduceMul, Nat.reduceSub, Nat.reduceEqDiff, Nat.reduceLeDiff]
        exact ⟨k + 1, (g5, T, l), ⟨⟨by omega, hr⟩, by omega⟩, ⟨⟨rfl, rfl⟩, by push_cast; rfl⟩, HLe.refl _⟩
      · rw [if_neg (by omega), List.append_nil] at hs
        rw [← hs] at hr ⊢
        simp (maxSteps := 1000000) (disch := omega) only [go_sem, Nat.reduceAdd, Nat.reduceMul, Nat.reduceSub, Nat.reduceEqDiff, Nat.reduceLeDiff]
        rw [hHA]
        exact ⟨k + 1, (g, T, l), ⟨⟨by omega, hr⟩, by omega⟩, ⟨⟨rfl, rfl⟩, by push_cast; rfl⟩, HLe.refl _⟩
  · have hke : k = n * n := by omega
    subst hke
    simp (maxSteps := 1000000) (disch := omega) only [go_sem, Nat.reduceAdd, Nat.reduceMul, Nat.reduceSub, Nat.reduceEqDiff, Nat.reduceLeDiff]
    refine ⟨_, HLe.refl _, ?_⟩
    have hfr := hr.frzC (g := g) (lim := none)
    rw [hrl] at hfr
    show Option.map AV.c (frzC _ _) = _
    rw [show (pairsT n (n * n)).length = (pairsT n (n * n)).length from rfl, hfr]
    rfl
end Go.Lg
