/- GpIC, cut to what is needed. -/
import Derived.Test.YtcopagjhklcokaaQad8
set_option linter.unusedSimpArgs false
set_option linter.unusedVariables false
set_option maxRecDepth 100000
namespace Go.Lg
open Go.Proofs
theorem flat_filter {β : Type} (P : Nat → Prop) [DecidablePred P] (f : Nat → β) : ∀ l : List Nat, (l.flatMap fun i => if P i then [f i] else []) = (l.filter fun i => decide (P i)).map f
  | [] => rfl
  | x :: l => by
    rw [List.flatMap_cons, flat_filter P f l, List.filter_cons]
    by_cases h : P x
    · simp [h]
    · simp [h]
theorem wrong_eq (s xs : List Int) : wrongL s xs xs.length = ((List.range xs.length).filter fun (i : Nat) => decide (0 < nth xs i ∧ nth xs i ≠ nth s i)).map fun (i : Nat) => (i : Int) := by
  unfold wrongL
  rw [List.take_of_length_le (by simp)]
  exact flat_filter (fun (i : Nat) => 0 < nth xs i ∧ nth xs i ≠ nth s i) (fun (i : Nat) => (i : Int)) _
theorem wrong_mem {s xs : List Int} {i : Nat} : (i : Int) ∈ wrongL s xs xs.length ↔ i < xs.length ∧ 0 < nth xs i ∧ nth xs i ≠ nth s i := by
  rw [wrong_eq, List.mem_map]
  constructor
  · rintro ⟨j, hj, he⟩
    have : j = i := by omega
    subst this
    rw [List.mem_filter, List.mem_range, decide_eq_true_eq] at hj
    exact hj
  · intro h
    exact ⟨i, by rw [List.mem_filter, List.mem_range, decide_eq_true_eq]; exact h, rfl⟩
theorem wrong_nat {s xs : List Int} {x : Int} (h : x ∈ wrongL s xs xs.length) : ∃ i : Nat, x = i := by
  rw [wrong_eq, List.mem_map] at h
  obtain ⟨j, _, rfl⟩ := h
  exact ⟨j, rfl⟩
theorem wrong_nodup (s xs : List Int) : (wrongL s xs xs.length).Nodup := by
  rw [wrong_eq]
  exact List.pairwise_map.2 ((List.nodup_range.filter _).imp fun h h' => h (by omega))
def zap (xs L : List Int) : List Int := L.foldl (fun g c => g.set c.toNat 0) xs
theorem zap_len : ∀ (L xs : List Int), (zap xs L).length = xs.length
  | [], _ => rfl
  | c :: L, xs => by
    show (zap (xs.set c.toNat 0) L).length = _
    rw [zap_len L, List.length_set]
theorem zap_nth : ∀ (L xs : List Int) (i : Nat), (∀ c ∈ L, 0 ≤ c) → nth (zap xs L) i = if (i : Int) ∈ L then 0 else nth xs i
  | [], xs, i, _ => by simp [zap]
  | c :: L, xs, i, h => by
    show nth (zap (xs.set c.toNat 0) L) i = _
    rw [zap_nth L _ i fun c hc => h c (by simp [hc])]
    obtain ⟨j, rfl⟩ : ∃ j : Nat, c = j := ⟨c.toNat, by have := h c (by simp); omega⟩
    have key : nth (xs.set ((j : Int)).toNat 0) i = if i = j then 0 else nth xs i := by
      rw [Int.toNat_natCast]
      by_cases hj : j < xs.length
      · exact nth_setN _ _ _ _ hj
      · rw [List.set_eq_of_length_le (by omega)]
        split
        · rename_i hij
          rw [nth_over (by omega)]
        · rfl
    rw [key]
    by_cases h1 : (i : Int) ∈ L
    · rw [if_pos h1, if_pos (by simp [h1])]
    · rw [if_neg h1]
      by_cases h2 : i = j
      · rw [if_pos h2, if_pos (by simp [h2])]
      · rw [if_neg h2, if_neg (by simp [h1]; omega)]
theorem zap_take {xs W : List Int} {k : Nat} (h : k < W.length) : zap xs (W.take (k + 1)) = (zap xs (W.take k)).set (nth W k).toNat 0 := by
  unfold zap
  rw [List.take_succ_eq_append_getElem h, List.foldl_append]
  rw [nth_eq (xs := W) (e := (k : Int)) (by omega)]
  rfl
theorem all_one {p : Puz} (h : countV p 2 = 1) : puzzleValid p = true ∧ ∃ s, allL p = [s] ∧ allS p 2 = [s] ∧ firstV p = s ∧ s.length = p.given.length := by
  obtain ⟨hv, s, h1, h2, h3⟩ := one_facts h
  refine ⟨hv, s, ?_, h1, h2, h3⟩
  have h4 := h1
  rw [allS_take] at h4
  have hl : ((allL p).take 2).length = 1 := by rw [h4]; rfl
  rw [List.length_take] at hl
  rwa [List.take_of_length_le (by omega)] at h4
theorem wrong_self (s : List Int) : wrongL s s s.length = [] := by
  rw [wrong_eq, List.filter_eq_nil_iff.2 fun i _ => by simp]
  rfl
theorem ext_wrong {s xs : List Int} : ExtG xs s ↔ wrongL s xs xs.length = [] := by
  rw [List.eq_nil_iff_forall_not_mem]
  constructor
  · intro h x hx
    obtain ⟨i, rfl⟩ := wrong_nat hx
    have := wrong_mem.1 hx
    exact this.2.2 (h i this.2.1).symm
  · intro h i hi
    by_cases hl : i < xs.length
    · by_cases he : nth s i = nth xs i
      · exact he
      · exact absurd (wrong_mem.2 ⟨hl, hi, Ne.symm he⟩) (h _)
    · rw [nth_over (by omega)] at hi; omega
theorem can_one' {p : Puz} {s : List Int} (hv : puzzleValid p = true) (ha : allL p = [s]) {xs : List Int} (hx : GrdN xs p.size.toNat) : canV p xs = decide ((wrongL s xs xs.length).length = 0) := by
  rw [can_ext hv hx, decide_eq_decide]
  unfold extL
  rw [ha, List.length_eq_zero_iff, ← ext_wrong]
  by_cases h : ExtG xs s
  · simp [h]
  · simp [h]
theorem zap_grd {xs L : List Int} {n : Nat} (hx : GrdN xs n) (h : ∀ c ∈ L, 0 ≤ c) : GrdN (zap xs L) n := ⟨by rw [zap_len]; exact hx.len, fun k hk => by
  rw [zap_len] at hk
  rw [zap_nth _ _ _ h]
  split
  · omega
  · exact hx.val k hk⟩
theorem zap_right {s xs : List Int} : wrongL s (zap xs (wrongL s xs xs.length)) (zap xs (wrongL s xs xs.length)).length = [] := by
  rw [← ext_wrong]
  intro i hi
  rw [zap_nth _ _ _ fun c hc => by obtain ⟨j, rfl⟩ := wrong_nat hc; omega] at hi ⊢
  split at hi
  · omega
  · rename_i hn
    rw [if_neg hn]
    by_cases hl : i < xs.length
    · by_cases he : nth s i = nth xs i
      · exact he
      · exact absurd (wrong_mem.2 ⟨hl, hi, Ne.symm he⟩) hn
    · rw [nth_over (by omega)] at hi; omega
set_option maxHeartbeats 2000000 in
theorem law_FnWrongCells (code : List Int) (hl : code.length ≤ 9223372036854775807) (hw : ∀ x ∈ code, (Lit.int .u8 x).wf = true) : Reads Try.prog 5 [rsl (eI .u8) code] (bool true) := by
  refine RunCall.cw (c := _) Try.func5 rfl (n := 111) Try.ntmps5 (rs := [.tmp 2]) rfl ?_
  simp only [List.length_cons, List.length_nil, Nat.reduceAdd, Nat.reduceSub, List.replicate, List.cons_append, List.nil_append]
  simp (maxSteps := 1000000) (disch := omega) only [go_sem, Nat.reduceAdd, Nat.reduceMul, Nat.reduceSub, Nat.reduceEqDiff, Nat.reduceLeDiff]
  (first | with_reducible refine condK_dec (fun h1 => ?_) (fun h1 => ?_) | with_reducible refine condK_ndec (fun h1 => ?_) (fun h1 => ?_) | with_reducible refine condK_nb (fun h1 => ?_) (fun h1 => ?_) | refine condK_b (fun h1 => ?_) (fun h1 => ?_))
  · simp (maxSteps := 1000000) (disch := omega) only [go_sem, Nat.reduceAdd, Nat.reduceMul, Nat.reduceSub, Nat.reduceEqDiff, Nat.reduceLeDiff]
  simp (maxSteps := 1000000) (disch := omega) only [go_sem, Nat.reduceAdd, Nat.reduceMul, Nat.reduceSub, Nat.reduceEqDiff, Nat.reduceLeDiff]
  refine OpS.mkF (DrawWrongCells_run code (wf_u8' hw) (by omega)) (⟨_, Try.func22, rfl, rfl⟩ : Enters Try.prog 22) rfl rfl rfl ?_
  rintro _ ⟨p, zs, rfl, hp, hz⟩
  refine ⟨rfl, rfl, ?_⟩
  have hs := hp.sm
  have hgl := hp.1
  have hwl : (wrongV p zs).length ≤ 16 := by have := wrongV_len p zs; omega
  simp (maxSteps := 1000000) (disch := omega) only [go_sem, Nat.reduceAdd, Nat.reduceMul, Nat.reduceSub, Nat.reduceEqDiff, Nat.reduceLeDiff]
  intro g
  first | refine OpS.mk (Reads.ownI (WrongCells_own p zs hs (by omega))) (⟨_, Try.func23, rfl, rfl⟩ : Enters Try.prog 23) rfl rfl rfl rfl rfl ?_ | refine Loud.mk (Reads.ownI (WrongCells_own p zs hs (by omega))) (⟨_, Try.func23, rfl, rfl⟩ : Enters Try.prog 23) rfl rfl rfl rfl rfl ?_
  simp (maxSteps := 1000000) (disch := omega) only [go_sem, Nat.reduceAdd, Nat.reduceMul, Nat.reduceSub, Nat.reduceEqDiff, Nat.reduceLeDiff]
  first | refine OpS.mk (sWrongCells_run p zs hs (by omega)) (⟨_, Try.func24, rfl, rfl⟩ : Enters Try.prog 24) rfl rfl rfl rfl rfl ?_ | refine Loud.mk (sWrongCells_run p zs hs (by omega)) (⟨_, Try.func24, rfl, rfl⟩ : Enters Try.prog 24) rfl rfl rfl rfl rfl ?_
  simp (maxSteps := 1000000) (disch := omega) only [go_sem, Nat.reduceAdd, Nat.reduceMul, Nat.reduceSub, Nat.reduceEqDiff, Nat.reduceLeDiff]
  first | refine OpS.rd (sameIntsF_run (wrongV p zs) (wrongV p zs) (by omega)) (⟨_, Try.func21, rfl, rfl⟩ : Enters Try.prog 21) rfl rfl rfl rfl ?_ | refine Loud.rd (sameIntsF_run (wrongV p zs) (wrongV p zs) (by omega)) (⟨_, Try.func21, rfl, rfl⟩ : Enters Try.prog 21) rfl rfl rfl rfl ?_
  simp (maxSteps := 1000000) (disch := omega) only [go_sem, Nat.reduceAdd, Nat.reduceMul, Nat.reduceSub, Nat.reduceEqDiff, Nat.reduceLeDiff]
  first | refine OpS.rd (sPuzzleValid_run p hs) (⟨_, Try.func25, rfl, rfl⟩ : Enters Try.prog 25) rfl rfl rfl rfl ?_ | refine Loud.rd (sPuzzleValid_run p hs) (⟨_, Try.func25, rfl, rfl⟩ : Enters Try.prog 25) rfl rfl rfl rfl ?_
  simp (maxSteps := 1000000) (disch := omega) only [go_sem, Nat.reduceAdd, Nat.reduceMul, Nat.reduceSub, Nat.reduceEqDiff, Nat.reduceLeDiff]
  (first | with_reducible refine guardK_dec (fun h2 => ?_) (fun h2 => ?_) <;> simp (maxSteps := 1000000) (disch := omega) only [go_sem, Nat.reduceAdd, Nat.reduceMul, Nat.reduceSub, Nat.reduceEqDiff, Nat.reduceLeDiff, h2] | with_reducible refine guardK_ndec (fun h2 => ?_) (fun h2 => ?_) <;> simp (maxSteps := 1000000) (disch := omega) only [go_sem, Nat.reduceAdd, Nat.reduceMul, Nat.reduceSub, Nat.reduceEqDiff, Nat.reduceLeDiff, h2] | with_reducible refine guardK_nb (fun h2 => ?_) (fun h2 => ?_) <;> simp (maxSteps := 1000000) (disch := omega) only [go_sem, Nat.reduceAdd, Nat.reduceMul, Nat.reduceSub, Nat.reduceEqDiff, Nat.reduceLeDiff, h2] | with_reducible refine guardK_split (fun h2 => ?_) (fun h2 => ?_) <;> simp (maxSteps := 1000000) (disch := omega) only [go_sem, Nat.reduceAdd, Nat.reduceMul, Nat.reduceSub, Nat.reduceEqDiff, Nat.reduceLeDiff, h2] | with_reducible refine guardQ_dec (fun h2 => ?_) (fun h2 => ?_) <;> simp (maxSteps := 1000000) (disch := omega) only [go_sem, Nat.reduceAdd, Nat.reduceMul, Nat.reduceSub, Nat.reduceEqDiff, Nat.reduceLeDiff, h2] | with_reducible refine guardL_dec (fun h2 => ?_) (fun h2 => ?_) <;> simp (maxSteps := 1000000) (disch := omega) only [go_sem, Nat.reduceAdd, Nat.reduceMul, Nat.reduceSub, Nat.reduceEqDiff, Nat.reduceLeDiff, h2] | with_reducible refine guardQ_ndec (fun h2 => ?_) (fun h2 => ?_) <;> simp (maxSteps := 1000000) (disch := omega) only [go_sem, Nat.reduceAdd, Nat.reduceMul, Nat.reduceSub, Nat.reduceEqDiff, Nat.reduceLeDiff, h2] | with_reducible refine guardL_ndec (fun h2 => ?_) (fun h2 => ?_) <;> simp (maxSteps := 1000000) (disch := omega) only [go_sem, Nat.reduceAdd, Nat.reduceMul, Nat.reduceSub, Nat.reduceEqDiff, Nat.reduceLeDiff, h2] | with_reducible refine guardQ_nb (fun h2 => ?_) (fun h2 => ?_) <;> simp (maxSteps := 1000000) (disch := omega) only [go_sem, Nat.reduceAdd, Nat.reduceMul, Nat.reduceSub, Nat.reduceEqDiff, Nat.reduceLeDiff, h2] | with_reducible refine guardL_nb (fun h2 => ?_) (fun h2 => ?_) <;> simp (maxSteps := 1000000) (disch := omega) only [go_sem, Nat.reduceAdd, Nat.reduceMul, Nat.reduceSub, Nat.reduceEqDiff, Nat.reduceLeDiff, h2] | with_reducible refine guardQ_split (fun h2 => ?_) (fun h2 => ?_) <;> simp (maxSteps := 1000000) (disch := omega) only [go_sem, Nat.reduceAdd, Nat.reduceMul, Nat.reduceSub, Nat.reduceEqDiff, Nat.reduceLeDiff, h2] | with_reducible refine guardL_split (fun h2 => ?_) (fun h2 => ?_) <;> simp (maxSteps := 1000000) (disch := omega) only [go_sem, Nat.reduceAdd, Nat.reduceMul, Nat.reduceSub, Nat.reduceEqDiff, Nat.reduceLeDiff, h2])
  rotate_left
  · have e : wrongV p zs = [] := by unfold wrongV; rw [if_neg (by rw [h2]; simp)]
    have hd : decide (((wrongV p zs).length : Int) = 0) = true := by rw [e]; rfl
    simp (maxSteps := 1000000) (disch := omega) only [go_sem, Nat.reduceAdd, Nat.reduceMul, Nat.reduceSub, Nat.reduceEqDiff, Nat.reduceLeDiff, hd]
    first | refine OpS.rd (aliveF_run) (⟨_, Try.func18, rfl, rfl⟩ : Enters Try.prog 18) rfl rfl rfl rfl ?_ | refine Loud.rd (aliveF_run) (⟨_, Try.func18, rfl, rfl⟩ : Enters Try.prog 18) rfl rfl rfl rfl ?_
    simp (maxSteps := 1000000) (disch := omega) only [go_sem, Nat.reduceAdd, Nat.reduceMul, Nat.reduceSub, Nat.reduceEqDiff, Nat.reduceLeDiff]
  first | refine OpS.rd (sGridValid_run zs p.size (by omega)) (⟨_, Try.func26, rfl, rfl⟩ : Enters Try.prog 26) rfl rfl rfl rfl ?_ | refine Loud.rd (sGridValid_run zs p.size (by omega)) (⟨_, Try.func26, rfl, rfl⟩ : Enters Try.prog 26) rfl rfl rfl rfl ?_
  simp (maxSteps := 1000000) (disch := omega) only [go_sem, Nat.reduceAdd, Nat.reduceMul, Nat.reduceSub, Nat.reduceEqDiff, Nat.reduceLeDiff]
  (first | with_reducible refine guardK_dec (fun h3 => ?_) (fun h3 => ?_) <;> simp (maxSteps := 1000000) (disch := omega) only [go_sem, Nat.reduceAdd, Nat.reduceMul, Nat.reduceSub, Nat.reduceEqDiff, Nat.reduceLeDiff, h3] | with_reducible refine guardK_ndec (fun h3 => ?_) (fun h3 => ?_) <;> simp (maxSteps := 1000000) (disch := omega) only [go_sem, Nat.reduceAdd, Nat.reduceMul, Nat.reduceSub, Nat.reduceEqDiff, Nat.reduceLeDiff, h3] | with_reducible refine guardK_nb (fun h3 => ?_) (fun h3 => ?_) <;> simp (maxSteps := 1000000) (disch := omega) only [go_sem, Nat.reduceAdd, Nat.reduceMul, Nat.reduceSub, Nat.reduceEqDiff, Nat.reduceLeDiff, h3] | with_reducible refine guardK_split (fun h3 => ?_) (fun h3 => ?_) <;> simp (maxSteps := 1000000) (disch := omega) only [go_sem, Nat.reduceAdd, Nat.reduceMul, Nat.reduceSub, Nat.reduceEqDiff, Nat.reduceLeDiff, h3] | with_reducible refine guardQ_dec (fun h3 => ?_) (fun h3 => ?_) <;> simp (maxSteps := 1000000) (disch := omega) only [go_sem, Nat.reduceAdd, Nat.reduceMul, Nat.reduceSub, Nat.reduceEqDiff, Nat.reduceLeDiff, h3] | with_reducible refine guardL_dec (fun h3 => ?_) (fun h3 => ?_) <;> simp (maxSteps := 1000000) (disch := omega) only [go_sem, Nat.reduceAdd, Nat.reduceMul, Nat.reduceSub, Nat.reduceEqDiff, Nat.reduceLeDiff, h3] | with_reducible refine guardQ_ndec (fun h3 => ?_) (fun h3 => ?_) <;> simp (maxSteps := 1000000) (disch := omega) only [go_sem, Nat.reduceAdd, Nat.reduceMul, Nat.reduceSub, Nat.reduceEqDiff, Nat.reduceLeDiff, h3] | with_reducible refine guardL_ndec (fun h3 => ?_) (fun h3 => ?_) <;> simp (maxSteps := 1000000) (disch := omega) only [go_sem, Nat.reduceAdd, Nat.reduceMul, Nat.reduceSub, Nat.reduceEqDiff, Nat.reduceLeDiff, h3] | with_reducible refine guardQ_nb (fun h3 => ?_) (fun h3 => ?_) <;> simp (maxSteps := 1000000) (disch := omega) only [go_sem, Nat.reduceAdd, Nat.reduceMul, Nat.reduceSub, Nat.reduceEqDiff, Nat.reduceLeDiff, h3] | with_reducible refine guardL_nb (fun h3 => ?_) (fun h3 => ?_) <;> simp (maxSteps := 1000000) (disch := omega) only [go_sem, Nat.reduceAdd, Nat.reduceMul, Nat.reduceSub, Nat.reduceEqDiff, Nat.reduceLeDiff, h3] | with_reducible refine guardQ_split (fun h3 => ?_) (fun h3 => ?_) <;> simp (maxSteps := 1000000) (disch := omega) only [go_sem, Nat.reduceAdd, Nat.reduceMul, Nat.reduceSub, Nat.reduceEqDiff, Nat.reduceLeDiff, h3] | with_reducible refine guardL_split (fun h3 => ?_) (fun h3 => ?_) <;> simp (maxSteps := 1000000) (disch := omega) only [go_sem, Nat.reduceAdd, Nat.reduceMul, Nat.reduceSub, Nat.reduceEqDiff, Nat.reduceLeDiff, h3])
  rotate_left
  · have e : wrongV p zs = [] := by unfold wrongV; rw [if_neg (by rw [h3]; simp)]
    have hd : decide (((wrongV p zs).length : Int) = 0) = true := by rw [e]; rfl
    simp (maxSteps := 1000000) (disch := omega) only [go_sem, Nat.reduceAdd, Nat.reduceMul, Nat.reduceSub, Nat.reduceEqDiff, Nat.reduceLeDiff, hd]
    first | refine OpS.rd (aliveF_run) (⟨_, Try.func18, rfl, rfl⟩ : Enters Try.prog 18) rfl rfl rfl rfl ?_ | refine Loud.rd (aliveF_run) (⟨_, Try.func18, rfl, rfl⟩ : Enters Try.prog 18) rfl rfl rfl rfl ?_
    simp (maxSteps := 1000000) (disch := omega) only [go_sem, Nat.reduceAdd, Nat.reduceMul, Nat.reduceSub, Nat.reduceEqDiff, Nat.reduceLeDiff]
  first | refine OpS.rd (CountSolutions_run p 2 hs) (⟨_, Try.func19, rfl, rfl⟩ : Enters Try.prog 19) rfl rfl rfl rfl ?_ | refine Loud.rd (CountSolutions_run p 2 hs) (⟨_, Try.func19, rfl, rfl⟩ : Enters Try.prog 19) rfl rfl rfl rfl ?_
  simp (maxSteps := 1000000) (disch := omega) only [go_sem, Nat.reduceAdd, Nat.reduceMul, Nat.reduceSub, Nat.reduceEqDiff, Nat.reduceLeDiff]
  (first | with_reducible refine condK_dec (fun h4 => ?_) (fun h4 => ?_) | with_reducible refine condK_ndec (fun h4 => ?_) (fun h4 => ?_) | with_reducible refine condK_nb (fun h4 => ?_) (fun h4 => ?_) | refine condK_b (fun h4 => ?_) (fun h4 => ?_))
  rotate_left
  · have e := not_one h4 zs
    have hd : decide (((wrongV p zs).length : Int) = 0) = true := by rw [e]; rfl
    simp (maxSteps := 1000000) (disch := omega) only [go_sem, Nat.reduceAdd, Nat.reduceMul, Nat.reduceSub, Nat.reduceEqDiff, Nat.reduceLeDiff, hd]
    first | refine OpS.rd (aliveF_run) (⟨_, Try.func18, rfl, rfl⟩ : Enters Try.prog 18) rfl rfl rfl rfl ?_ | refine Loud.rd (aliveF_run) (⟨_, Try.func18, rfl, rfl⟩ : Enters Try.prog 18) rfl rfl rfl rfl ?_
    simp (maxSteps := 1000000) (disch := omega) only [go_sem, Nat.reduceAdd, Nat.reduceMul, Nat.reduceSub, Nat.reduceEqDiff, Nat.reduceLeDiff]
  obtain ⟨hv, s, hall, hs2, hfv, hsl⟩ := all_one h4
  have hgf := grd_facts h2 h3
  have hW : wrongV p zs = wrongL s zs zs.length := by
    unfold wrongV
    rw [if_pos ⟨h2, h3⟩, hs2]
    rfl
  obtain ⟨W, hWd⟩ : ∃ W, W = wrongL s zs zs.length := ⟨_, rfl⟩
  rw [← hWd] at hW
  rw [hW]
  rw [hW] at hwl
  have hWn : ∀ c ∈ W, 0 ≤ c := fun c hc => by
    rw [hWd] at hc
    obtain ⟨j, rfl⟩ := wrong_nat hc
    omega
  simp (maxSteps := 1000000) (disch := omega) only [go_sem, Nat.reduceAdd, Nat.reduceMul, Nat.reduceSub, Nat.reduceEqDiff, Nat.reduceLeDiff]
  intro g1 g2
  refine loop_rule (fun k : Nat => W.length - k) (fun k => k ≤ W.length) (fun k => [.a, .a, .a, .k, .k, .k, .k, .p (int k), .a, .a, .a, .a, .a, .a, .a, .a, .a, .a, .a, .a, .a, .a, .a, .a, .a, .a, .a, .a, .a, .a, .a, .a, .a, .a, .a, .a, .a, .a, .a, .a, .a, .a, .a, .a, .a, .a, .a, .a, .a, .a, .a, .a, .a, .a, .a, .a, .a, .a, .a, .a, .a, .a, .a, .a, .a, .a, .a, .a, .a, .a, .a, .a, .a, .a, .a, .a, .a, .a, .a, .a, .a, .a, .a, .a, .a, .a, .a, .a, .a, .a, .a, .a, .a, .a, .a, .a, .a, .a, .a, .a, .a, .a, .a, .a, .a, .a, .a, .a, .a, .a, .a]) (fun k => [some ⟨g, 3, cP p⟩, some ⟨g2, 1, cl (eI .i64) (zap zs (W.take k))⟩]) 0 (Nat.zero_le _) (by simp (maxSteps := 1000000) (disch := omega) only [go_sem, Nat.reduceAdd, Nat.reduceMul, Nat.reduceSub, Nat.reduceEqDiff, Nat.reduceLeDiff]; rfl) (HLe.refl _) ?_
  intro k hk'
  have hzl : (zap zs (W.take k)).length = zs.length := zap_len _ _
  simp (maxSteps := 1000000) (disch := omega) only [go_sem, Nat.reduceAdd, Nat.reduceMul, Nat.reduceSub, Nat.reduceEqDiff, Nat.reduceLeDiff]
  (first | with_reducible refine condK_dec (fun h5 => ?_) (fun h5 => ?_) | with_reducible refine condK_ndec (fun h5 => ?_) (fun h5 => ?_) | with_reducible refine condK_nb (fun h5 => ?_) (fun h5 => ?_) | refine condK_b (fun h5 => ?_) (fun h5 => ?_))
  · have h5 : k < W.length := by omega
    obtain ⟨j, hj⟩ : ∃ j : Nat, nth W k = j := by
      refine wrong_nat (s := s) (xs := zs) ?_
      rw [← hWd, nth_eq (xs := W) (e := (k : Int)) (by omega)]
      exact List.getElem_mem _
    have hjW : (j : Int) ∈ W := by
      rw [← hj, nth_eq (xs := W) (e := (k : Int)) (by omega)]
      exact List.getElem_mem _
    have hjf : j < zs.length ∧ 0 < nth zs j ∧ nth zs j ≠ nth s j := by
      rw [hWd] at hjW
      exact wrong_mem.1 hjW
    have hjT : (j : Int) ∉ W.take k := fun hm => by
      have hn : W.Nodup := by rw [hWd]; exact wrong_nodup s zs
      obtain ⟨i, hi, he⟩ := List.mem_iff_getElem.1 hm
      rw [List.length_take] at hi
      rw [List.getElem_take] at he
      rw [nth_eq (xs := W) (e := (k : Int)) (by omega)] at hj
      have := (List.getElem_inj (h₀ := by omega) (h₁ := by omega) hn).1 (he.trans hj.symm)
      simp only [Int.toNat_natCast] at this
      omega
    have hzj : nth (zap zs (W.take k)) j = nth zs j := by
      rw [zap_nth _ _ _ fun c hc => hWn c (List.mem_of_mem_take hc), if_neg hjT]
    have hzp := zap_take (xs := zs) h5
    rw [hj, Int.toNat_natCast] at hzp
    have hd1 : decide ((j : Int) < 0) = false := decide_eq_false (by omega)
    have hd2 : decide ((zs.length : Int) ≤ j) = false := decide_eq_false (by omega)
    have hd3 : decide (nth (zap zs (W.take k)) j = 0) = false := decide_eq_false (by omega)
    simp (maxSteps := 1000000) (disch := omega) only [go_sem, Nat.reduceAdd, Nat.reduceMul, Nat.reduceSub, Nat.reduceEqDiff, Nat.reduceLeDiff, hj, hd1]
    simp only [Nat.zero_add]
    simp (maxSteps := 1000000) (disch := omega) only [go_sem, Nat.reduceAdd, Nat.reduceMul, Nat.reduceSub, Nat.reduceEqDiff, Nat.reduceLeDiff, hd2, hj]
    simp (maxSteps := 1000000) (disch := omega) only [go_sem, Nat.reduceAdd, Nat.reduceMul, Nat.reduceSub, Nat.reduceEqDiff, Nat.reduceLeDiff, hd3]
    exact ⟨k + 1, by omega, by push_cast; rfl, by rw [hzp, hj, Int.toNat_natCast]; exact HLe.refl _⟩
  · have hke : k = W.length := by omega
    simp (maxSteps := 1000000) (disch := omega) only [go_sem, Nat.reduceAdd, Nat.reduceMul, Nat.reduceSub, Nat.reduceEqDiff, Nat.reduceLeDiff]
    first | refine OpS.mk (SolveFirst_run p hs) (⟨_, Try.func20, rfl, rfl⟩ : Enters Try.prog 20) rfl rfl rfl rfl rfl ?_ | refine Loud.mk (SolveFirst_run p hs) (⟨_, Try.func20, rfl, rfl⟩ : Enters Try.prog 20) rfl rfl rfl rfl rfl ?_
    simp (maxSteps := 1000000) (disch := omega) only [go_sem, Nat.reduceAdd, Nat.reduceMul, Nat.reduceSub, Nat.reduceEqDiff, Nat.reduceLeDiff]
    have hown : ∀ lim, OwnI [some ⟨g, 3, cP p⟩, some ⟨g2, 1, cl (eI .i64) (zap zs (W.take k))⟩] (.own 1 g2 0 zs.length lim) (zap zs (W.take k)) [1] := fun lim => by
      have := OwnI.o (H := [some ⟨g, 3, cP p⟩, some ⟨g2, 1, cl (eI .i64) (zap zs (W.take k))⟩]) 1 g2 lim (zap zs (W.take k)) [] (by rw [List.append_nil]; exact look_of (b := ⟨g2, 1, cl (eI .i64) (zap zs (W.take k))⟩) rfl)
      rwa [zap_len] at this
    rw [Nat.zero_add]
    refine OpS.rdD (CanFinish_run p _ hs (by rw [zap_len]; omega)) (⟨_, Try.func27, rfl, rfl⟩ : Enters Try.prog 27) rfl rfl (snap_two rfl (hown _).snap) rfl ?_
    have hc1 : canV p (zap zs (W.take k)) = true := by
      rw [can_one' hv hall (zap_grd hgf.2.1 fun c hc => hWn c (List.mem_of_mem_take hc)), hke, List.take_length, hWd, zap_right]
      rfl
    have hc2 : wrongV p s = [] := by
      unfold wrongV
      rw [hs2]
      split
      · exact wrong_self s
      · rfl
    have hc3 : canV p zs = decide ((W.length : Int) = 0) := by
      rw [can_one' hv hall hgf.2.1, ← hWd, decide_eq_decide]
      omega
    rw [hc1]
    simp (maxSteps := 1000000) (disch := omega) only [go_sem, Nat.reduceAdd, Nat.reduceMul, Nat.reduceSub, Nat.reduceEqDiff, Nat.reduceLeDiff]
    rw [hfv]
    first | refine OpS.mk (Reads.ownI (WrongCells_own p s hs (by omega))) (⟨_, Try.func23, rfl, rfl⟩ : Enters Try.prog 23) rfl rfl rfl rfl rfl ?_ | refine Loud.mk (Reads.ownI (WrongCells_own p s hs (by omega))) (⟨_, Try.func23, rfl, rfl⟩ : Enters Try.prog 23) rfl rfl rfl rfl rfl ?_
    simp (maxSteps := 1000000) (disch := omega) only [go_sem, Nat.reduceAdd, Nat.reduceMul, Nat.reduceSub, Nat.reduceEqDiff, Nat.reduceLeDiff]
    rw [hc2]
    simp (maxSteps := 1000000) (disch := omega) only [go_sem, Nat.reduceAdd, Nat.reduceMul, Nat.reduceSub, Nat.reduceEqDiff, Nat.reduceLeDiff]
    have h00 : decide (((0 : Nat) : Int) = 0) = true := rfl
    simp (maxSteps := 1000000) (disch := omega) only [go_sem, Nat.reduceAdd, Nat.reduceMul, Nat.reduceSub, Nat.reduceEqDiff, Nat.reduceLeDiff, h00]
    first | refine OpS.rd (CanFinish_run p zs hs (by omega)) (⟨_, Try.func27, rfl, rfl⟩ : Enters Try.prog 27) rfl rfl rfl rfl ?_ | refine Loud.rd (CanFinish_run p zs hs (by omega)) (⟨_, Try.func27, rfl, rfl⟩ : Enters Try.prog 27) rfl rfl rfl rfl ?_
    simp (maxSteps := 1000000) (disch := omega) only [go_sem, Nat.reduceAdd, Nat.reduceMul, Nat.reduceSub, Nat.reduceEqDiff, Nat.reduceLeDiff]
    rw [hc3]
end Go.Lg
