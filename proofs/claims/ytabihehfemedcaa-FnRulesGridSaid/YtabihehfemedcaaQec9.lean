/- GpKE, cut to what is needed. -/
import Derived.Test.YtabihehfemedcaaQec8
import Derived.Test.YtabihehfemedcaaQec4
set_option linter.unusedSimpArgs false
set_option linter.unusedVariables false
set_option maxRecDepth 100000
namespace Go.Lg
open Go.Proofs
attribute [-go_sem] appendM lwF_cons
theorem appendM_kl {P : Program} {H : Heap} {t : TypeId} {ei : TI} {K : KV} {n : Nat} (ht : sliceOf P t = some ei) (hz : ei.zero.length = ei.size ∧ ei.size = n ∧ 0 < n ∧ ei.bytes ≤ 64) {oid og k sid sg : Nat} {lim : Option Nat} {cs cs' : List CV} (hk : k ≤ 2 ^ 40)
    (h1 : look H oid og = some ⟨og, n, cs⟩) (h2 : cs.length = k * n) (h3 : look H sid sg = some ⟨sg, n, cs'⟩) (h4 : cs'.length = n) (hK : ∀ g', K (.c (.own oid g' 0 (k + 1) none)) (H.set oid (some ⟨g', n, cs ++ cs'⟩))) : appendM P H t (.c (.own oid og 0 k none)) (.c (.own sid sg 0 1 lim)) K := by
  obtain ⟨hz1, rfl, hz3, hz4⟩ := hz
  have hb : (k + 1) * ei.bytes ≤ 140737488355328 := by
    have : (k + 1) * ei.bytes ≤ (k + 1) * 64 := Nat.mul_le_mul_left _ hz4
    omega
  have e1 : elems H ei.size (.c (.own oid og 0 k none)) = some (k, cs) := by
    simp only [elems, h1, List.drop_zero, if_true, List.take_of_length_le (Nat.le_of_eq h2)]
  have e2 : elems H ei.size (.c (.own sid sg 0 1 lim)) = some (1, cs') := by
    simp only [elems, h3, List.drop_zero, if_true, Nat.one_mul, List.take_of_length_le (Nat.le_of_eq h4)]
  unfold appendM
  simp only [ht, hz1, if_true, e1, e2]
  simp only [appM, h1, h2, if_true, okP]
  exact ⟨⟨by first | trivial | omega, hz3, trivial, by omega, hb⟩, hK⟩
structure RsO (T : Heap) (l : List RO) (rs : List Rul) : Prop where
  r : l.map (·.r) = rs
  o : ∀ o ∈ l, OwnI (none :: T) o.c o.r.cells o.i
theorem RsO.nil : RsO [] [] [] := ⟨rfl, fun o h => by cases h⟩
theorem RsO.add {T X : Heap} {l : List RO} {rs : List Rul} (h : RsO T l rs) {o : RO} (ho : OwnI (none :: (T ++ X)) o.c o.r.cells o.i) : RsO (T ++ X) (l ++ [o]) (rs ++ [o.r]) :=
  ⟨by rw [List.map_append, h.r]; rfl, fun o' hm => by
    rcases List.mem_append.1 hm with hm | hm
    · exact (h.o o' hm).app
    · have : o' = o := by simpa using hm
      rw [this]; exact ho⟩
theorem RsO.len {T : Heap} {l : List RO} {rs : List Rul} (h : RsO T l rs) : l.length = rs.length := by rw [← h.r, List.length_map]
theorem RsO.take {T : Heap} {l : List RO} {rs : List Rul} (h : RsO T l rs) (c : Nat) : RsO T (l.take c) (rs.take c) := ⟨by rw [List.map_take, h.r], fun o ho => h.o o (List.mem_of_mem_take ho)⟩
theorem mapM_frz_kR' {H : Heap} {n : Nat} (l : List RO) (h : ∀ o ∈ l, ∃ S, OwnI H o.c o.r.cells S) : (kl kR l).mapM (frz H (n + 1)) = some (fl eR (l.map (·.r))) := by
  induction l with
  | nil => rfl
  | cons o l ih =>
    obtain ⟨S, hS⟩ := h o (by simp)
    have e1 : ∀ x : Int, frz H (n + 1) (.f (.int .i64 x)) = some (.int .i64 x) := fun _ => rfl
    show (kR o ++ kl kR l).mapM _ = _
    rw [List.mapM_append, ih fun o' hm => h o' (by simp [hm])]
    simp only [kR, List.mapM_cons, List.mapM_nil, e1, hS.frz n, Option.bind_eq_bind, Option.pure_def, Option.bind_some, Option.map_some]
    rfl
theorem OwnI.nz {T : Heap} {c : CV} {xs : List Int} {S : List Nat} (h : OwnI (none :: T) c xs S) : ∀ i ∈ S, 0 < i := by
  cases h with
  | e => intro i hi; cases hi
  | o id g lim xs ys h =>
    intro i hi
    have : i = id := by simpa using hi
    subst this
    cases i with
    | zero => simp [look] at h
    | succ i => omega
theorem RsO.frzC {T : Heap} {l : List RO} {rs : List Rul} (h : RsO T l rs) {g : Nat} {lim : Option Nat} {ys : List CV} : Lg.frzC (some ⟨g, 3, kl kR l ++ ys⟩ :: T) (.own 0 g 0 l.length lim) = some (.f (fsl eR rs)) := by
  have hl : (kl kR l).length = l.length * 3 := kl_length l
  have e : ((kl kR l ++ ys).drop 0).take (l.length * 3) = kl kR l := by rw [List.drop_zero, List.take_append_of_le_length (by omega), List.take_of_length_le (by omega)]
  have ho : ∀ o ∈ l, ∃ S, OwnI (some ⟨g, 3, kl kR l ++ ys⟩ :: T) o.c o.r.cells S := fun o hm => by
    have := h.o o hm
    have hz := this.nz
    exact ⟨o.i, this.same fun i hi => by
      cases i with
      | zero => exact absurd (hz 0 hi) (Nat.lt_irrefl _)
      | succ i => rfl⟩
  simp only [Lg.frzC, frz, look_zero, e, mapM_frz_kR' l ho, Option.map_some]
  rw [h.r, fsl, h.len]
set_option maxHeartbeats 2000000 in
theorem LessRules_run (xs : List Int) (n many : Int) (hx : xs.length ≤ 2 ^ 40) : Reads Try.prog 23 [ints xs, int n, int many] (rsl eR (lessV xs n many)) := by
  refine Reads.ice (Q := fun v H' => frzA H' v = some (rsl eR (lessV xs n many))) ?_ (fun r H' h => h)
  refine RunCall.cw (c := _) Try.func23 rfl (n := 64) Try.ntmps23 (rs := [.tmp 6]) rfl ?_
  simp only [List.length_cons, List.length_nil, Nat.reduceAdd, Nat.reduceSub, List.replicate, List.cons_append, List.nil_append]
  simp (maxSteps := 1000000) (disch := omega) only [go_sem, Nat.reduceAdd, Nat.reduceMul, Nat.reduceSub, Nat.reduceEqDiff, Nat.reduceLeDiff]
  first | refine OpS.rd (SquareSolved_run xs n hx) (⟨_, Try.func64, rfl, rfl⟩ : Enters Try.prog 64) rfl rfl rfl rfl ?_ | refine Loud.rd (SquareSolved_run xs n hx) (⟨_, Try.func64, rfl, rfl⟩ : Enters Try.prog 64) rfl rfl rfl rfl ?_
  simp (maxSteps := 1000000) (disch := omega) only [go_sem, Nat.reduceAdd, Nat.reduceMul, Nat.reduceSub, Nat.reduceEqDiff, Nat.reduceLeDiff]
  by_cases h0 : solvedS xs n = true ∧ 0 ≤ many ∧ many ≤ 20
  rotate_left
  · have e : lessV xs n many = [] := by unfold lessV; rw [if_neg h0]
    rw [e]
    cases hs : solvedS xs n with
    | false =>
      simp (maxSteps := 1000000) (disch := omega) only [go_sem, Nat.reduceAdd, Nat.reduceMul, Nat.reduceSub, Nat.reduceEqDiff, Nat.reduceLeDiff]
      exact ⟨_, HLe.refl _, rfl⟩
    | true =>
      simp (maxSteps := 1000000) (disch := omega) only [go_sem, Nat.reduceAdd, Nat.reduceMul, Nat.reduceSub, Nat.reduceEqDiff, Nat.reduceLeDiff]
      (first | with_reducible refine guardK_dec (fun h1 => ?_) (fun h1 => ?_) <;> simp (maxSteps := 1000000) (disch := omega) only [go_sem, Nat.reduceAdd, Nat.reduceMul, Nat.reduceSub, Nat.reduceEqDiff, Nat.reduceLeDiff, h1] | with_reducible refine guardK_ndec (fun h1 => ?_) (fun h1 => ?_) <;> simp (maxSteps := 1000000) (disch := omega) only [go_sem, Nat.reduceAdd, Nat.reduceMul, Nat.reduceSub, Nat.reduceEqDiff, Nat.reduceLeDiff, h1] | with_reducible refine guardK_nb (fun h1 => ?_) (fun h1 => ?_) <;> simp (maxSteps := 1000000) (disch := omega) only [go_sem, Nat.reduceAdd, Nat.reduceMul, Nat.reduceSub, Nat.reduceEqDiff, Nat.reduceLeDiff, h1] | with_reducible refine guardK_split (fun h1 => ?_) (fun h1 => ?_) <;> simp (maxSteps := 1000000) (disch := omega) only [go_sem, Nat.reduceAdd, Nat.reduceMul, Nat.reduceSub, Nat.reduceEqDiff, Nat.reduceLeDiff, h1] | with_reducible refine guardQ_dec (fun h1 => ?_) (fun h1 => ?_) <;> simp (maxSteps := 1000000) (disch := omega) only [go_sem, Nat.reduceAdd, Nat.reduceMul, Nat.reduceSub, Nat.reduceEqDiff, Nat.reduceLeDiff, h1] | with_reducible refine guardL_dec (fun h1 => ?_) (fun h1 => ?_) <;> simp (maxSteps := 1000000) (disch := omega) only [go_sem, Nat.reduceAdd, Nat.reduceMul, Nat.reduceSub, Nat.reduceEqDiff, Nat.reduceLeDiff, h1] | with_reducible refine guardQ_ndec (fun h1 => ?_) (fun h1 => ?_) <;> simp (maxSteps := 1000000) (disch := omega) only [go_sem, Nat.reduceAdd, Nat.reduceMul, Nat.reduceSub, Nat.reduceEqDiff, Nat.reduceLeDiff, h1] | with_reducible refine guardL_ndec (fun h1 => ?_) (fun h1 => ?_) <;> simp (maxSteps := 1000000) (disch := omega) only [go_sem, Nat.reduceAdd, Nat.reduceMul, Nat.reduceSub, Nat.reduceEqDiff, Nat.reduceLeDiff, h1] | with_reducible refine guardQ_nb (fun h1 => ?_) (fun h1 => ?_) <;> simp (maxSteps := 1000000) (disch := omega) only [go_sem, Nat.reduceAdd, Nat.reduceMul, Nat.reduceSub, Nat.reduceEqDiff, Nat.reduceLeDiff, h1] | with_reducible refine guardL_nb (fun h1 => ?_) (fun h1 => ?_) <;> simp (maxSteps := 1000000) (disch := omega) only [go_sem, Nat.reduceAdd, Nat.reduceMul, Nat.reduceSub, Nat.reduceEqDiff, Nat.reduceLeDiff, h1] | with_reducible refine guardQ_split (fun h1 => ?_) (fun h1 => ?_) <;> simp (maxSteps := 1000000) (disch := omega) only [go_sem, Nat.reduceAdd, Nat.reduceMul, Nat.reduceSub, Nat.reduceEqDiff, Nat.reduceLeDiff, h1] | with_reducible refine guardL_split (fun h1 => ?_) (fun h1 => ?_) <;> simp (maxSteps := 1000000) (disch := omega) only [go_sem, Nat.reduceAdd, Nat.reduceMul, Nat.reduceSub, Nat.reduceEqDiff, Nat.reduceLeDiff, h1])
      · exact ⟨_, HLe.refl _, rfl⟩
      · have h2 : 20 < many := by
          by_cases hq : many ≤ 20
          · exact absurd ⟨hs, by omega, hq⟩ h0
          · omega
        have d2 : decide (20 < many) = true := decide_eq_true h2
        simp (maxSteps := 1000000) (disch := omega) only [go_sem, Nat.reduceAdd, Nat.reduceMul, Nat.reduceSub, Nat.reduceEqDiff, Nat.reduceLeDiff, d2]
        exact ⟨_, HLe.refl _, rfl⟩
  have e : lessV xs n many = ((pairsL n.toNat).take many.toNat).map (lessO xs) := by unfold lessV; rw [if_pos h0]
  obtain ⟨hs, hm1, hm2⟩ := h0
  rw [hs, e]
  obtain ⟨m, rfl, hm, hf, hc⟩ := solvedS_full hs
  have hsq : 4 ≤ m * m ∧ m * m ≤ 16 := by rcases hm with rfl | rfl | rfl <;> omega
  have hll : (pairsL m).length ≤ 24 := by rw [pairsL_len hm]; rcases hm with rfl | rfl | rfl <;> omega
  have hxl := hf.1.len
  rw [Int.toNat_natCast]
  have d1 : decide (many < 0) = false := decide_eq_false (by omega)
  have d2 : decide (20 < many) = false := decide_eq_false (by omega)
  simp (maxSteps := 1000000) (disch := omega) only [go_sem, Nat.reduceAdd, Nat.reduceMul, Nat.reduceSub, Nat.reduceEqDiff, Nat.reduceLeDiff, d1, d2]
  intro g
  first | refine OpS.mk (neighbours_run hm) (⟨_, Try.func65, rfl, rfl⟩ : Enters Try.prog 65) rfl rfl rfl rfl rfl ?_ | refine Loud.mk (neighbours_run hm) (⟨_, Try.func65, rfl, rfl⟩ : Enters Try.prog 65) rfl rfl rfl rfl rfl ?_
  simp (maxSteps := 1000000) (disch := omega) only [go_sem, Nat.reduceAdd, Nat.reduceMul, Nat.reduceSub, Nat.reduceEqDiff, Nat.reduceLeDiff]
  have hpm : ∀ q ∈ pairsL m, ∃ a b : Nat, q = ((a : Int), (b : Int)) ∧ a < m * m ∧ b < m * m := fun q hq => by
    obtain ⟨a, b, h1, h2, h3, _⟩ := pair_mem hm hq
    exact ⟨a, b, h1, by omega, h3⟩
  generalize pairsL m = L at hll hpm ⊢
  refine loop_rule2 (fun (k : Nat) (b : Nat × Heap × List RO) => L.length - k) (fun k b => k ≤ L.length ∧ RsO b.2.1 b.2.2 ((L.take k).map (lessO xs))) (fun k b => [.k, .a, .k, .a, .a, .a, .a, .p (.c (.own 0 b.1 0 k none)), .a, .a, .a, .a, .a, .a, .a, .a, .a, .a, .a, .a, .a, .a, .a, .a, .k, .k, .p (int k), .a, .a, .a, .a, .a, .a, .a, .a, .a, .a, .a, .a, .a, .a, .a, .a, .a, .a, .a, .a, .a, .a, .a, .a, .a, .a, .a, .a, .a, .a, .a, .a, .a, .a, .a, .a, .a]) (fun k b => some ⟨b.1, 3, kl kR b.2.2⟩ :: b.2.1) 0 (g, [], []) ⟨Nat.zero_le _, RsO.nil⟩ (by simp (maxSteps := 1000000) (disch := omega) only [go_sem, Nat.reduceAdd, Nat.reduceMul, Nat.reduceSub, Nat.reduceEqDiff, Nat.reduceLeDiff]; rfl) (HLe.refl _) ?_
  rintro k ⟨g, T, l⟩ ⟨hk, hr⟩
  simp only at hr ⊢
  have hrl := hr.len
  rw [List.length_map, List.length_take, Nat.min_eq_left hk] at hrl
  simp (maxSteps := 1000000) (disch := omega) only [go_sem, Nat.reduceAdd, Nat.reduceMul, Nat.reduceSub, Nat.reduceEqDiff, Nat.reduceLeDiff]
  (first | with_reducible refine condK_dec (fun h1 => ?_) (fun h1 => ?_) | with_reducible refine condK_ndec (fun h1 => ?_) (fun h1 => ?_) | with_reducible refine condK_nb (fun h1 => ?_) (fun h1 => ?_) | refine condK_b (fun h1 => ?_) (fun h1 => ?_))
  · have h1 : k < L.length := by omega
    obtain ⟨a, b, hq, ha, hb⟩ := hpm _ (nth_mem h1)
    obtain ⟨HA, hHA⟩ : ∃ HA : Heap, HA = some ⟨g, 3, kl kR l⟩ :: T := ⟨_, rfl⟩
    have hA0 : ∀ L : Heap, look (HA ++ L) 0 g = some ⟨g, 3, kl kR l⟩ := fun L => by rw [hHA]; exact look_appL look_zero
    rw [← hHA]
    have hst : setRange [CV.f (.int .i64 0), CV.f (.int .i64 0)] 0 (List.map CV.f (eP2 ((a : Int), (b : Int)))) = [CV.f (.int .i64 a), CV.f (.int .i64 b)] := rfl
    have hel : (eP2 ((a : Int), (b : Int))).length = 2 := rfl
    simp (maxSteps := 1000000) (disch := omega) only [go_sem, Nat.reduceAdd, Nat.reduceMul, Nat.reduceSub, Nat.reduceEqDiff, Nat.reduceLeDiff, look_off, look_off0, set_off, set_off0, List.append_assoc, List.cons_append, List.nil_append, List.length_append, hq, hst, hel]
    intro g2
    refine drawP_q foll (by kernel_rfl) ?_
    simp (maxSteps := 1000000) (disch := omega) only [go_sem, Nat.reduceBEq, Bool.true_or, Nat.reduceAdd, Nat.reduceMul, Nat.reduceSub, Nat.reduceEqDiff, Nat.reduceLeDiff]
    simp (maxSteps := 1000000) (disch := omega) only [go_sem, Nat.reduceAdd, Nat.reduceMul, Nat.reduceSub, Nat.reduceEqDiff, Nat.reduceLeDiff, look_off, look_off0, set_off, set_off0, List.append_assoc, List.cons_append, List.nil_append, List.length_append, Int.reduceToNat]
    (first | with_reducible refine condK_dec (fun h2 => ?_) (fun h2 => ?_) | with_reducible refine condK_ndec (fun h2 => ?_) (fun h2 => ?_) | with_reducible refine condK_nb (fun h2 => ?_) (fun h2 => ?_) | refine condK_b (fun h2 => ?_) (fun h2 => ?_))
    · have hce : lessO xs (nth L k) = ⟨4, [(b : Int), (a : Int)], 0⟩ := by rw [hq]; exact if_pos h2
      simp (maxSteps := 1000000) (disch := omega) only [go_sem, Nat.reduceAdd, Nat.reduceMul, Nat.reduceSub, Nat.reduceEqDiff, Nat.reduceLeDiff, look_off, look_off0, set_off, set_off0, List.append_assoc, List.cons_append, List.nil_append, List.length_append, Int.reduceToNat]
      intro g3 g4
      refine appendM_kl (n := 3) (sliceOf_of' ti26 rfl ti29) ⟨rfl, rfl, by decide, by decide⟩ (by omega) (hA0 _) (by rw [kl_length, hrl]) (by rw [look_off]; exact look_of (b := ⟨g4, 3, [.f (.int .i64 4), .own (HA.length + 1) g3 0 2 none, .f (.int .i64 0)]⟩) rfl) rfl ?_
      intro g5
      have hset : ∀ X : Heap, (HA ++ X).set 0 (some ⟨g5, 3, kl kR l ++ [.f (.int .i64 4), .own (HA.length + 1) g3 0 2 none, .f (.int .i64 0)]⟩) = some ⟨g5, 3, kl kR (l ++ [⟨⟨4, [(b : Int), (a : Int)], 0⟩, .own (T.length + 2) g3 0 2 none, [T.length + 2]⟩])⟩ :: (T ++ X) := fun X => by
        rw [hHA, kl_append]
        rfl
      rw [hset]
      simp (maxSteps := 1000000) (disch := omega) only [go_sem, Nat.reduceAdd, Nat.reduceMul, Nat.reduceSub, Nat.reduceEqDiff, Nat.reduceLeDiff]
      refine ⟨k + 1, (g5, T ++ _, l ++ [⟨⟨4, [(b : Int), (a : Int)], 0⟩, .own (T.length + 2) g3 0 2 none, [T.length + 2]⟩]), ⟨⟨by omega, ?_⟩, by omega⟩, ?_, HLe.refl _⟩
      rotate_left
      · exact ⟨⟨rfl, rfl⟩, by push_cast; rfl⟩
      rw [take_succ_nth h1, List.map_append, List.map_singleton, hce]
      refine hr.add ?_
      refine OwnI.o (T.length + 2) g3 none [(b : Int), (a : Int)] [] ?_
      rw [List.append_nil]
      refine look_of (b := ⟨g3, 1, cl (eI .i64) [(b : Int), (a : Int)]⟩) ?_
      simp
      rfl
    · have hce : lessO xs (nth L k) = ⟨4, [(a : Int), (b : Int)], 0⟩ := by rw [hq]; exact if_neg h2
      simp (maxSteps := 1000000) (disch := omega) only [go_sem, Nat.reduceAdd, Nat.reduceMul, Nat.reduceSub, Nat.reduceEqDiff, Nat.reduceLeDiff, look_off, look_off0, set_off, set_off0, List.append_assoc, List.cons_append, List.nil_append, List.length_append, Int.reduceToNat]
      intro g3 g4
      refine appendM_kl (n := 3) (sliceOf_of' ti26 rfl ti29) ⟨rfl, rfl, by decide, by decide⟩ (by omega) (hA0 _) (by rw [kl_length, hrl]) (by rw [look_off]; exact look_of (b := ⟨g4, 3, [.f (.int .i64 4), .own (HA.length + 1) g3 0 2 none, .f (.int .i64 0)]⟩) rfl) rfl ?_
      intro g5
      have hset : ∀ X : Heap, (HA ++ X).set 0 (some ⟨g5, 3, kl kR l ++ [.f (.int .i64 4), .own (HA.length + 1) g3 0 2 none, .f (.int .i64 0)]⟩) = some ⟨g5, 3, kl kR (l ++ [⟨⟨4, [(a : Int), (b : Int)], 0⟩, .own (T.length + 2) g3 0 2 none, [T.length + 2]⟩])⟩ :: (T ++ X) := fun X => by
        rw [hHA, kl_append]
        rfl
      rw [hset]
      simp (maxSteps := 1000000) (disch := omega) only [go_sem, Nat.reduceAdd, Nat.reduceMul, Nat.reduceSub, Nat.reduceEqDiff, Nat.reduceLeDiff]
      refine ⟨k + 1, (g5, T ++ _, l ++ [⟨⟨4, [(a : Int), (b : Int)], 0⟩, .own (T.length + 2) g3 0 2 none, [T.length + 2]⟩]), ⟨⟨by omega, ?_⟩, by omega⟩, ?_, HLe.refl _⟩
      rotate_left
      · exact ⟨⟨rfl, rfl⟩, by push_cast; rfl⟩
      rw [take_succ_nth h1, List.map_append, List.map_singleton, hce]
      refine hr.add ?_
      refine OwnI.o (T.length + 2) g3 none [(a : Int), (b : Int)] [] ?_
      rw [List.append_nil]
      refine look_of (b := ⟨g3, 1, cl (eI .i64) [(a : Int), (b : Int)]⟩) ?_
      simp
      rfl
  · have hke : k = L.length := by omega
    subst hke
    rw [List.take_length] at hr
    simp (maxSteps := 1000000) (disch := omega) only [go_sem, Nat.reduceAdd, Nat.reduceMul, Nat.reduceSub, Nat.reduceEqDiff, Nat.reduceLeDiff]
    obtain ⟨c, hc0⟩ : ∃ c : Nat, (min many (L.length : Int)).toNat = c := ⟨_, rfl⟩
    have hcl : c ≤ l.length := by omega
    have htk : List.take many.toNat L = L.take c := by
      rcases Nat.le_total many.toNat L.length with h | h
      · congr 1; omega
      · rw [List.take_of_length_le h, List.take_of_length_le (by omega)]
    have s1 := sliceR_gen ti26 rfl ti29 rfl (look_zero (g := g) (cs := kl kR l) (H := T)) (n := L.length) none (some c) none 0 c c rfl rfl rfl ⟨by omega, by omega, by rw [kl_length]; omega⟩ (fun h => by cases h)
    rw [hc0, s1, htk]
    simp (maxSteps := 1000000) (disch := omega) only [go_sem, Nat.reduceAdd, Nat.reduceMul, Nat.reduceSub, Nat.reduceEqDiff, Nat.reduceLeDiff]
    refine OpS.run (ClipR_run _ 0 g c _ look_zero (by rw [kl_length]; omega) (by omega)) (⟨_, Try.func73, rfl, rfl⟩ : Enters Try.prog 73) rfl rfl ?_
    rintro _ _ ⟨rfl, rfl⟩
    simp (maxSteps := 1000000) (disch := omega) only [go_sem, Nat.reduceAdd, Nat.reduceMul, Nat.reduceSub, Nat.reduceEqDiff, Nat.reduceLeDiff]
    refine ⟨_, HLe.refl _, ?_⟩
    have hk2 : kl kR l = kl kR (l.take c) ++ kl kR (l.drop c) := by rw [← kl_append, List.take_append_drop]
    have hfr := (hr.take c).frzC (g := g) (lim := some c) (ys := kl kR (l.drop c))
    rw [← hk2, List.length_take, Nat.min_eq_left hcl] at hfr
    show Option.map AV.c (frzC _ _) = _
    rw [hfr, List.map_take]
    rfl
end Go.Lg
