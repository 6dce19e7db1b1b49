/- GpKD, cut to what is needed. -/
import Derived.Test.YtabihehfemedcaaQec7
set_option linter.unusedSimpArgs false
set_option linter.unusedVariables false
set_option maxRecDepth 100000
namespace Go.Lg
open Go.Proofs
theorem snapD_aR {H : Heap} {r : Rul} : snapD H (aR r) = some (aR r) := rfl
theorem holds_no {r : Rul} {xs : List Int} {n : Int} {k : Nat} (hk : k < r.cells.length) (h0 : nth xs (nth r.cells k) = 0) : ruleHolds r xs n = false := by
  unfold ruleHolds
  have : r.cells.all (fun c => decide (nth xs c ≠ 0)) = false := by
    rw [List.all_eq_false]
    exact ⟨nth r.cells k, nth_mem hk, by simpa using h0⟩
  rw [this, Bool.false_and, Bool.and_false, Bool.and_false]
theorem RuleHolds_run (r : Rul) (xs : List Int) (n : Int) (hr : r.cells.length ≤ 2 ^ 40) (hx : xs.length ≤ 2 ^ 40) : Reads Try.prog 72 [aR r, ints xs, int n] (bool (ruleHolds r xs n)) := by
  refine RunCall.cw (c := _) Try.func72 rfl (n := 44) Try.ntmps72 (rs := [.tmp 6]) rfl ?_
  simp only [List.length_cons, List.length_nil, Nat.reduceAdd, Nat.reduceSub, List.replicate, List.cons_append, List.nil_append]
  simp (maxSteps := 1000000) (disch := omega) only [go_sem, Nat.reduceAdd, Nat.reduceMul, Nat.reduceSub, Nat.reduceEqDiff, Nat.reduceLeDiff]
  intro g1
  first | refine OpS.rd (RuleValid_run r n hr) (⟨_, Try.func71, rfl, rfl⟩ : Enters Try.prog 71) rfl rfl rfl rfl ?_ | refine Loud.rd (RuleValid_run r n hr) (⟨_, Try.func71, rfl, rfl⟩ : Enters Try.prog 71) rfl rfl rfl rfl ?_
  simp (maxSteps := 1000000) (disch := omega) only [go_sem, Nat.reduceAdd, Nat.reduceMul, Nat.reduceSub, Nat.reduceEqDiff, Nat.reduceLeDiff]
  cases c0 : ruleValid r n with
  | false =>
    simp (maxSteps := 1000000) (disch := omega) only [go_sem, Nat.reduceAdd, Nat.reduceMul, Nat.reduceSub, Nat.reduceEqDiff, Nat.reduceLeDiff]
    unfold ruleHolds
    rw [c0, Bool.false_and]
  | true =>
    simp (maxSteps := 1000000) (disch := omega) only [go_sem, Nat.reduceAdd, Nat.reduceMul, Nat.reduceSub, Nat.reduceEqDiff, Nat.reduceLeDiff]
    first | refine OpS.rd (GridValid_run xs n (by omega)) (⟨_, Try.func87, rfl, rfl⟩ : Enters Try.prog 87) rfl rfl rfl rfl ?_ | refine Loud.rd (GridValid_run xs n (by omega)) (⟨_, Try.func87, rfl, rfl⟩ : Enters Try.prog 87) rfl rfl rfl rfl ?_
    simp (maxSteps := 1000000) (disch := omega) only [go_sem, Nat.reduceAdd, Nat.reduceMul, Nat.reduceSub, Nat.reduceEqDiff, Nat.reduceLeDiff]
    cases c1 : gridValid xs n with
    | false =>
      simp (maxSteps := 1000000) (disch := omega) only [go_sem, Nat.reduceAdd, Nat.reduceMul, Nat.reduceSub, Nat.reduceEqDiff, Nat.reduceLeDiff]
      unfold ruleHolds
      rw [c1, Bool.false_and, Bool.and_false]
    | true =>
      have hb := gridValid_bound c1
      obtain ⟨m, rfl⟩ : ∃ m : Nat, n = m := ⟨n.toNat, by omega⟩
      have hm : m = 2 ∨ m = 3 ∨ m = 4 := by omega
      have hg := GrdN.of hm c1
      obtain ⟨f1, f2, f3, f4⟩ := ruleValid_facts c0
      have hcell : ∀ k : Nat, k < r.cells.length → 0 ≤ nth r.cells k ∧ (nth r.cells k).toNat < xs.length ∧ 0 ≤ nth xs (nth r.cells k) ∧ nth xs (nth r.cells k) ≤ 4 := fun k hk => by
        have h := f3 _ (nth_mem hk)
        have h2 : (nth r.cells k).toNat < xs.length := by rw [hg.len]; omega
        have h3 := hg.val _ h2
        rw [← nth_toNat] at h3
        omega
      simp (maxSteps := 1000000) (disch := omega) only [go_sem, Nat.reduceAdd, Nat.reduceMul, Nat.reduceSub, Nat.reduceEqDiff, Nat.reduceLeDiff]
      intro g2
      refine loop_rule2 (fun (k g : Nat) => r.cells.length - k) (fun k g => k ≤ r.cells.length ∧ ∀ j : Nat, j < k → nth xs (nth r.cells j) ≠ 0) (fun k g => [.a, .k, .a, .k, .a, .a, .a, .p (.c (.own 1 g 0 k none)), .a, .a, .a, .a, .a, .a, .a, .a, .a, .a, .a, .a, .a, .a, .k, .k, .p (int k), .a, .a, .a, .a, .a, .a, .a, .a, .a, .a, .a, .a, .a, .a, .a, .a, .a, .a, .a]) (fun k g => [some ⟨g1, 1, cR r⟩, some ⟨g, 1, cl (eI .i64) ((r.cells.take k).map (nth xs))⟩]) 0 g2 ⟨Nat.zero_le _, fun j hj => absurd hj (Nat.not_lt_zero _)⟩ (by simp (maxSteps := 1000000) (disch := omega) only [go_sem, Nat.reduceAdd, Nat.reduceMul, Nat.reduceSub, Nat.reduceEqDiff, Nat.reduceLeDiff]; rfl) (HLe.refl _) ?_
      rintro k g ⟨hk, hno⟩
      have hlen : ((r.cells.take k).map (nth xs)).length = k := by rw [List.length_map, List.length_take]; omega
      simp (maxSteps := 1000000) (disch := omega) only [go_sem, Nat.reduceAdd, Nat.reduceMul, Nat.reduceSub, Nat.reduceEqDiff, Nat.reduceLeDiff]
      (first | with_reducible refine condK_dec (fun h1 => ?_) (fun h1 => ?_) | with_reducible refine condK_ndec (fun h1 => ?_) (fun h1 => ?_) | with_reducible refine condK_nb (fun h1 => ?_) (fun h1 => ?_) | refine condK_b (fun h1 => ?_) (fun h1 => ?_))
      · have h1 : k < r.cells.length := by omega
        obtain ⟨b1, b2, b3, b4⟩ := hcell k h1
        simp (maxSteps := 1000000) (disch := omega) only [go_sem, Nat.reduceAdd, Nat.reduceMul, Nat.reduceSub, Nat.reduceEqDiff, Nat.reduceLeDiff]
        (first | with_reducible refine condK_dec (fun h2 => ?_) (fun h2 => ?_) | with_reducible refine condK_ndec (fun h2 => ?_) (fun h2 => ?_) | with_reducible refine condK_nb (fun h2 => ?_) (fun h2 => ?_) | refine condK_b (fun h2 => ?_) (fun h2 => ?_))
        · simp (maxSteps := 1000000) (disch := omega) only [go_sem, Nat.reduceAdd, Nat.reduceMul, Nat.reduceSub, Nat.reduceEqDiff, Nat.reduceLeDiff]
          rw [holds_no h1 h2]
        · simp (maxSteps := 1000000) (disch := omega) only [go_sem, Nat.reduceAdd, Nat.reduceMul, Nat.reduceSub, Nat.reduceEqDiff, Nat.reduceLeDiff]
          intro g3 g4
          refine ⟨k + 1, g4, ⟨⟨by omega, fun j hj => ?_⟩, by omega⟩, ⟨⟨rfl, rfl⟩, by push_cast; omega⟩, hle_eq rfl (hle_eq (by rw [take_succ_nth h1, List.map_append]; rfl) (hle_nil _))⟩
          by_cases hjk : j = k
          · rw [hjk]; exact h2
          · exact hno j (by omega)
      · have hke : k = r.cells.length := by omega
        subst hke
        rw [List.take_length] at hlen ⊢
        have hown : OwnI [some ⟨g1, 1, cR r⟩, some ⟨g, 1, cl (eI .i64) (r.cells.map (nth xs))⟩] (.own 1 g 0 r.cells.length none) (r.cells.map (nth xs)) [1] := by
          have := OwnI.o (H := [some ⟨g1, 1, cR r⟩, some ⟨g, 1, cl (eI .i64) (r.cells.map (nth xs))⟩]) 1 g none (r.cells.map (nth xs)) [] (by rw [List.append_nil]; exact look_of (b := ⟨g, 1, cl (eI .i64) (r.cells.map (nth xs))⟩) rfl)
          rwa [hlen] at this
        have hget : ∀ (j : Nat) (hj : j < r.cells.length), nth r.cells (j : Int) = r.cells[j] := fun j hj => by rw [nth_eq (by omega)]; rfl
        have hvs : ∀ v ∈ r.cells.map (nth xs), 0 ≤ v ∧ v ≤ 4 := fun v hv => by
          obtain ⟨c, hc, rfl⟩ := List.mem_map.1 hv
          obtain ⟨j, hj, rfl⟩ := List.mem_iff_getElem.1 hc
          have := hcell j hj
          rw [hget j hj] at this
          exact ⟨this.2.2.1, this.2.2.2⟩
        have hkind : r.kind = 1 ∨ r.kind = 2 ∨ r.kind = 3 ∨ (r.kind = 4 ∨ r.kind = 5) ∧ 2 ≤ (r.cells.map (nth xs)).length := by
          simp only [ruleValid, decide_eq_true_eq] at c0
          have := c0.2.2
          unfold ruleShape at this
          omega
        have hall : ruleHolds r xs (m : Int) = holdsV r (r.cells.map (nth xs)) := by
          unfold ruleHolds
          have : r.cells.all (fun c => decide (nth xs c ≠ 0)) = true := by
            rw [List.all_eq_true]
            intro c hc
            obtain ⟨j, hj, rfl⟩ := List.mem_iff_getElem.1 hc
            have := hno j hj
            rw [hget j hj] at this
            exact decide_eq_true this
          rw [c0, c1, this, Bool.true_and, Bool.true_and, Bool.true_and]
        rw [hall]
        simp (maxSteps := 1000000) (disch := omega) only [go_sem, Nat.reduceAdd, Nat.reduceMul, Nat.reduceSub, Nat.reduceEqDiff, Nat.reduceLeDiff]
        refine OpS.rdD (valuesHold_run r _ (by rw [hlen]; omega) hvs hkind) (⟨_, Try.func105, rfl, rfl⟩ : Enters Try.prog 105) rfl rfl (snap_two snapD_aR hown.snap) rfl ?_
        simp (maxSteps := 1000000) (disch := omega) only [go_sem, Nat.reduceAdd, Nat.reduceMul, Nat.reduceSub, Nat.reduceEqDiff, Nat.reduceLeDiff]
theorem hold_run (rs : List Rul) (xs : List Int) (n : Int) (hrs : smRs rs) (hx : xs.length ≤ 2 ^ 40) : Reads Try.prog 21 [rsl eR rs, ints xs, int n] (bool (rs.all fun r => ruleHolds r xs n)) := by
  have hr1 := hrs.1
  refine RunCall.cw (c := _) Try.func21 rfl (n := 31) Try.ntmps21 (rs := [.tmp 6]) rfl ?_
  simp only [List.length_cons, List.length_nil, Nat.reduceAdd, Nat.reduceSub, List.replicate, List.cons_append, List.nil_append]
  simp (maxSteps := 1000000) (disch := omega) only [go_sem, Nat.reduceAdd, Nat.reduceMul, Nat.reduceSub, Nat.reduceEqDiff, Nat.reduceLeDiff]
  refine loop_rule (fun k : Nat => rs.length - k) (fun k => k ≤ rs.length ∧ ∀ j : Nat, j < k → ruleHolds (nth rs j) xs n = true) (fun k => [.k, .k, .k, .a, .a, .a, .a, .p (int k), .a, .a, .a, .a, .a, .a, .a, .a, .a, .a, .a, .a, .a, .a, .a, .a, .a, .a, .a, .a, .a, .a, .a]) (fun _ => []) 0 ⟨Nat.zero_le _, fun j hj => absurd hj (Nat.not_lt_zero _)⟩ (by simp (maxSteps := 1000000) (disch := omega) only [go_sem, Nat.reduceAdd, Nat.reduceMul, Nat.reduceSub, Nat.reduceEqDiff, Nat.reduceLeDiff]; rfl) (hle_nil _) ?_
  rintro k ⟨hk, hall⟩
  simp (maxSteps := 1000000) (disch := omega) only [go_sem, Nat.reduceAdd, Nat.reduceMul, Nat.reduceSub, Nat.reduceEqDiff, Nat.reduceLeDiff]
  (first | with_reducible refine condK_dec (fun h1 => ?_) (fun h1 => ?_) | with_reducible refine condK_ndec (fun h1 => ?_) (fun h1 => ?_) | with_reducible refine condK_nb (fun h1 => ?_) (fun h1 => ?_) | refine condK_b (fun h1 => ?_) (fun h1 => ?_))
  · have h1 : k < rs.length := by omega
    have hm := nth_mem (xs := rs) h1
    have hno : ruleHolds (nth rs k) xs n = false → (rs.all fun r => ruleHolds r xs n) = false := fun h => List.all_eq_false.2 ⟨_, hm, by rw [h]; simp⟩
    simp (maxSteps := 1000000) (disch := omega) only [go_sem, Nat.reduceAdd, Nat.reduceMul, Nat.reduceSub, Nat.reduceEqDiff, Nat.reduceLeDiff]
    first | refine OpS.rd (RuleValid_run (nth rs k) n (hrs.2 _ hm)) (⟨_, Try.func71, rfl, rfl⟩ : Enters Try.prog 71) rfl rfl rfl rfl ?_ | refine Loud.rd (RuleValid_run (nth rs k) n (hrs.2 _ hm)) (⟨_, Try.func71, rfl, rfl⟩ : Enters Try.prog 71) rfl rfl rfl rfl ?_
    simp (maxSteps := 1000000) (disch := omega) only [go_sem, Nat.reduceAdd, Nat.reduceMul, Nat.reduceSub, Nat.reduceEqDiff, Nat.reduceLeDiff]
    cases c0 : ruleValid (nth rs k) n with
    | false =>
      simp (maxSteps := 1000000) (disch := omega) only [go_sem, Nat.reduceAdd, Nat.reduceMul, Nat.reduceSub, Nat.reduceEqDiff, Nat.reduceLeDiff]
      rw [hno (by unfold ruleHolds; rw [c0, Bool.false_and])]
    | true =>
      simp (maxSteps := 1000000) (disch := omega) only [go_sem, Nat.reduceAdd, Nat.reduceMul, Nat.reduceSub, Nat.reduceEqDiff, Nat.reduceLeDiff]
      first | refine OpS.rd (RuleHolds_run (nth rs k) xs n (hrs.2 _ hm) hx) (⟨_, Try.func72, rfl, rfl⟩ : Enters Try.prog 72) rfl rfl rfl rfl ?_ | refine Loud.rd (RuleHolds_run (nth rs k) xs n (hrs.2 _ hm) hx) (⟨_, Try.func72, rfl, rfl⟩ : Enters Try.prog 72) rfl rfl rfl rfl ?_
      simp (maxSteps := 1000000) (disch := omega) only [go_sem, Nat.reduceAdd, Nat.reduceMul, Nat.reduceSub, Nat.reduceEqDiff, Nat.reduceLeDiff]
      cases c1 : ruleHolds (nth rs k) xs n with
      | false =>
        simp (maxSteps := 1000000) (disch := omega) only [go_sem, Nat.reduceAdd, Nat.reduceMul, Nat.reduceSub, Nat.reduceEqDiff, Nat.reduceLeDiff]
        rw [hno c1]
      | true =>
        simp (maxSteps := 1000000) (disch := omega) only [go_sem, Nat.reduceAdd, Nat.reduceMul, Nat.reduceSub, Nat.reduceEqDiff, Nat.reduceLeDiff]
        refine ⟨k + 1, ⟨⟨by omega, fun j hj => ?_⟩, by omega⟩, by push_cast; omega, hle_nil _⟩
        by_cases hjk : j = k
        · rw [hjk]; exact c1
        · exact hall j (by omega)
  · have hke : k = rs.length := by omega
    simp (maxSteps := 1000000) (disch := omega) only [go_sem, Nat.reduceAdd, Nat.reduceMul, Nat.reduceSub, Nat.reduceEqDiff, Nat.reduceLeDiff]
    symm
    rw [List.all_eq_true]
    intro r hr
    obtain ⟨j, hj, rfl⟩ := List.mem_iff_getElem.1 hr
    have := hall j (by omega)
    have hget : nth rs (j : Int) = rs[j] := by rw [nth_eq (by omega)]; rfl
    rw [hget] at this
    exact this
theorem RegionsValid_run (rs : List Int) (n : Int) (hl : rs.length ≤ 2 ^ 40) : Reads Try.prog 75 [ints rs, int n] (bool (regsOk rs n)) := by
  refine RunCall.cw (c := _) Try.func75 rfl (n := 32) Try.ntmps75 (rs := [.tmp 4]) rfl ?_
  simp only [List.length_cons, List.length_nil, Nat.reduceAdd, Nat.reduceSub, List.replicate, List.cons_append, List.nil_append]
  simp (maxSteps := 1000000) (disch := omega) only [go_sem, Nat.reduceAdd, Nat.reduceMul, Nat.reduceSub, Nat.reduceEqDiff, Nat.reduceLeDiff]
  first | refine OpS.rd (sizeOk_run n) (⟨_, Try.func103, rfl, rfl⟩ : Enters Try.prog 103) rfl rfl rfl rfl ?_ | refine Loud.rd (sizeOk_run n) (⟨_, Try.func103, rfl, rfl⟩ : Enters Try.prog 103) rfl rfl rfl rfl ?_
  simp (maxSteps := 1000000) (disch := omega) only [go_sem, Nat.reduceAdd, Nat.reduceMul, Nat.reduceSub, Nat.reduceEqDiff, Nat.reduceLeDiff]
  by_cases c0 : 2 ≤ n ∧ n ≤ 4
  rotate_left
  · rw [decide_eq_false c0]
    simp (maxSteps := 1000000) (disch := omega) only [go_sem, Nat.reduceAdd, Nat.reduceMul, Nat.reduceSub, Nat.reduceEqDiff, Nat.reduceLeDiff]
    unfold regsOk
    rw [eq_comm, decide_eq_false_iff_not]
    exact fun h => c0 ⟨h.2.1, h.2.2.1⟩
  have hnn := sq_bound c0
  rw [decide_eq_true c0]
  simp (maxSteps := 1000000) (disch := omega) only [go_sem, Nat.reduceAdd, Nat.reduceMul, Nat.reduceSub, Nat.reduceEqDiff, Nat.reduceLeDiff]
  (first | with_reducible refine condK_dec (fun c1 => ?_) (fun c1 => ?_) | with_reducible refine condK_ndec (fun c1 => ?_) (fun c1 => ?_) | with_reducible refine condK_nb (fun c1 => ?_) (fun c1 => ?_) | refine condK_b (fun c1 => ?_) (fun c1 => ?_))
  rotate_left
  · simp (maxSteps := 1000000) (disch := omega) only [go_sem, Nat.reduceAdd, Nat.reduceMul, Nat.reduceSub, Nat.reduceEqDiff, Nat.reduceLeDiff]
    unfold regsOk
    rw [eq_comm, decide_eq_false_iff_not]
    exact fun h => c1 h.2.2.2
  simp (maxSteps := 1000000) (disch := omega) only [go_sem, Nat.reduceAdd, Nat.reduceMul, Nat.reduceSub, Nat.reduceEqDiff, Nat.reduceLeDiff]
  refine loop_rule (fun k : Nat => rs.length - k) (fun k => k ≤ rs.length ∧ ∀ j : Nat, j < k → 0 ≤ nth rs j ∧ nth rs j ≤ n - 1) (fun k => [.a, .k, .a, .a, .a, .a, .a, .a, .a, .a, .a, .a, .a, .a, .a, .a, .a, .a, .k, .k, .p (int k), .a, .a, .a, .a, .a, .a, .a, .a, .a, .a, .a]) (fun _ => []) 0 ⟨Nat.zero_le _, fun j hj => absurd hj (Nat.not_lt_zero _)⟩ (by simp (maxSteps := 1000000) (disch := omega) only [go_sem, Nat.reduceAdd, Nat.reduceMul, Nat.reduceSub, Nat.reduceEqDiff, Nat.reduceLeDiff]; rfl) (hle_nil _) ?_
  rintro k ⟨hk, hall⟩
  simp (maxSteps := 1000000) (disch := omega) only [go_sem, Nat.reduceAdd, Nat.reduceMul, Nat.reduceSub, Nat.reduceEqDiff, Nat.reduceLeDiff]
  (first | with_reducible refine condK_dec (fun h1 => ?_) (fun h1 => ?_) | with_reducible refine condK_ndec (fun h1 => ?_) (fun h1 => ?_) | with_reducible refine condK_nb (fun h1 => ?_) (fun h1 => ?_) | refine condK_b (fun h1 => ?_) (fun h1 => ?_))
  · have h1 : k < rs.length := by omega
    have hno : ¬ (0 ≤ nth rs k ∧ nth rs k ≤ n - 1) → regsOk rs n = false := fun h => by
      unfold regsOk
      rw [decide_eq_false_iff_not]
      exact fun h' => h (h'.1 k h1)
    simp (maxSteps := 1000000) (disch := omega) only [go_sem, Nat.reduceAdd, Nat.reduceMul, Nat.reduceSub, Nat.reduceEqDiff, Nat.reduceLeDiff]
    (first | with_reducible refine guardK_dec (fun h2 => ?_) (fun h2 => ?_) <;> simp (maxSteps := 1000000) (disch := omega) only [go_sem, Nat.reduceAdd, Nat.reduceMul, Nat.reduceSub, Nat.reduceEqDiff, Nat.reduceLeDiff, h2] | with_reducible refine guardK_ndec (fun h2 => ?_) (fun h2 => ?_) <;> simp (maxSteps := 1000000) (disch := omega) only [go_sem, Nat.reduceAdd, Nat.reduceMul, Nat.reduceSub, Nat.reduceEqDiff, Nat.reduceLeDiff, h2] | with_reducible refine guardK_nb (fun h2 => ?_) (fun h2 => ?_) <;> simp (maxSteps := 1000000) (disch := omega) only [go_sem, Nat.reduceAdd, Nat.reduceMul, Nat.reduceSub, Nat.reduceEqDiff, Nat.reduceLeDiff, h2] | with_reducible refine guardK_split (fun h2 => ?_) (fun h2 => ?_) <;> simp (maxSteps := 1000000) (disch := omega) only [go_sem, Nat.reduceAdd, Nat.reduceMul, Nat.reduceSub, Nat.reduceEqDiff, Nat.reduceLeDiff, h2] | with_reducible refine guardQ_dec (fun h2 => ?_) (fun h2 => ?_) <;> simp (maxSteps := 1000000) (disch := omega) only [go_sem, Nat.reduceAdd, Nat.reduceMul, Nat.reduceSub, Nat.reduceEqDiff, Nat.reduceLeDiff, h2] | with_reducible refine guardL_dec (fun h2 => ?_) (fun h2 => ?_) <;> simp (maxSteps := 1000000) (disch := omega) only [go_sem, Nat.reduceAdd, Nat.reduceMul, Nat.reduceSub, Nat.reduceEqDiff, Nat.reduceLeDiff, h2] | with_reducible refine guardQ_ndec (fun h2 => ?_) (fun h2 => ?_) <;> simp (maxSteps := 1000000) (disch := omega) only [go_sem, Nat.reduceAdd, Nat.reduceMul, Nat.reduceSub, Nat.reduceEqDiff, Nat.reduceLeDiff, h2] | with_reducible refine guardL_ndec (fun h2 => ?_) (fun h2 => ?_) <;> simp (maxSteps := 1000000) (disch := omega) only [go_sem, Nat.reduceAdd, Nat.reduceMul, Nat.reduceSub, Nat.reduceEqDiff, Nat.reduceLeDiff, h2] | with_reducible refine guardQ_nb (fun h2 => ?_) (fun h2 => ?_) <;> simp (maxSteps := 1000000) (disch := omega) only [go_sem, Nat.reduceAdd, Nat.reduceMul, Nat.reduceSub, Nat.reduceEqDiff, Nat.reduceLeDiff, h2] | with_reducible refine guardL_nb (fun h2 => ?_) (fun h2 => ?_) <;> simp (maxSteps := 1000000) (disch := omega) only [go_sem, Nat.reduceAdd, Nat.reduceMul, Nat.reduceSub, Nat.reduceEqDiff, Nat.reduceLeDiff, h2] | with_reducible refine guardQ_split (fun h2 => ?_) (fun h2 => ?_) <;> simp (maxSteps := 1000000) (disch := omega) only [go_sem, Nat.reduceAdd, Nat.reduceMul, Nat.reduceSub, Nat.reduceEqDiff, Nat.reduceLeDiff, h2] | with_reducible refine guardL_split (fun h2 => ?_) (fun h2 => ?_) <;> simp (maxSteps := 1000000) (disch := omega) only [go_sem, Nat.reduceAdd, Nat.reduceMul, Nat.reduceSub, Nat.reduceEqDiff, Nat.reduceLeDiff, h2])
    · rw [hno (by omega)]
    · (first | with_reducible refine condK_dec (fun h3 => ?_) (fun h3 => ?_) | with_reducible refine condK_ndec (fun h3 => ?_) (fun h3 => ?_) | with_reducible refine condK_nb (fun h3 => ?_) (fun h3 => ?_) | refine condK_b (fun h3 => ?_) (fun h3 => ?_))
      · simp (maxSteps := 1000000) (disch := omega) only [go_sem, Nat.reduceAdd, Nat.reduceMul, Nat.reduceSub, Nat.reduceEqDiff, Nat.reduceLeDiff]
        rw [hno (by omega)]
      · simp (maxSteps := 1000000) (disch := omega) only [go_sem, Nat.reduceAdd, Nat.reduceMul, Nat.reduceSub, Nat.reduceEqDiff, Nat.reduceLeDiff]
        refine ⟨k + 1, ⟨⟨by omega, fun j hj => ?_⟩, by omega⟩, by push_cast; omega, hle_nil _⟩
        by_cases hjk : j = k
        · rw [hjk]; omega
        · exact hall j (by omega)
  · have hke : k = rs.length := by omega
    subst hke
    simp (maxSteps := 1000000) (disch := omega) only [go_sem, Nat.reduceAdd, Nat.reduceMul, Nat.reduceSub, Nat.reduceEqDiff, Nat.reduceLeDiff]
    unfold regsOk
    rw [eq_comm, decide_eq_true_eq]
    exact ⟨hall, c0.1, c0.2, c1⟩
theorem RegionCells_run (rs : List Int) (n a : Int) (hl : rs.length ≤ 2 ^ 30) (hv : regsOk rs n = true) (ha : 0 ≤ a ∧ a < n) : Reads Try.prog 76 [ints rs, int n, int a] (ints (regC rs a rs.length)) := by
  refine Reads.own ?_
  refine RunCall.cw (c := _) Try.func76 rfl (n := 40) Try.ntmps76 (rs := [.tmp 6]) rfl ?_
  simp only [List.length_cons, List.length_nil, Nat.reduceAdd, Nat.reduceSub, List.replicate, List.cons_append, List.nil_append]
  simp (maxSteps := 1000000) (disch := omega) only [go_sem, Nat.reduceAdd, Nat.reduceMul, Nat.reduceSub, Nat.reduceEqDiff, Nat.reduceLeDiff]
  first | refine OpS.rd (RegionsValid_run rs n (by omega)) (⟨_, Try.func75, rfl, rfl⟩ : Enters Try.prog 75) rfl rfl rfl rfl ?_ | refine Loud.rd (RegionsValid_run rs n (by omega)) (⟨_, Try.func75, rfl, rfl⟩ : Enters Try.prog 75) rfl rfl rfl rfl ?_
  simp (maxSteps := 1000000) (disch := omega) only [go_sem, Nat.reduceAdd, Nat.reduceMul, Nat.reduceSub, Nat.reduceEqDiff, Nat.reduceLeDiff]
  have d1 : decide (a < 0) = false := decide_eq_false (by omega)
  have d2 : decide (n ≤ a) = false := decide_eq_false (by omega)
  rw [hv]
  simp (maxSteps := 1000000) (disch := omega) only [go_sem, Nat.reduceAdd, Nat.reduceMul, Nat.reduceSub, Nat.reduceEqDiff, Nat.reduceLeDiff, d1, d2]
  intro g
  refine loop_rule2 (fun (k g : Nat) => rs.length - k) (fun k g => k ≤ rs.length) (fun k g => [.a, .a, .k, .a, .a, .a, .a, .p (.c (.own 0 g 0 (regC rs a k).length none)), .a, .a, .a, .a, .a, .a, .a, .a, .a, .a, .a, .a, .a, .a, .a, .a, .k, .k, .p (int k), .a, .a, .a, .a, .a, .a, .a, .a, .a, .a, .a, .a, .a]) (fun k g => [some ⟨g, 1, cl (eI .i64) (regC rs a k)⟩]) 0 g (Nat.zero_le _) (by simp (maxSteps := 1000000) (disch := omega) only [go_sem, Nat.reduceAdd, Nat.reduceMul, Nat.reduceSub, Nat.reduceEqDiff, Nat.reduceLeDiff]; simp [regC]) (HLe.refl _) ?_
  intro k g hk
  have hcl := regC_len rs a k
  simp (maxSteps := 1000000) (disch := omega) only [go_sem, Nat.reduceAdd, Nat.reduceMul, Nat.reduceSub, Nat.reduceEqDiff, Nat.reduceLeDiff]
  (first | with_reducible refine condK_dec (fun c1 => ?_) (fun c1 => ?_) | with_reducible refine condK_ndec (fun c1 => ?_) (fun c1 => ?_) | with_reducible refine condK_nb (fun c1 => ?_) (fun c1 => ?_) | refine condK_b (fun c1 => ?_) (fun c1 => ?_))
  · have c1 : k < rs.length := by omega
    have hs := regC_succ (a := a) c1
    simp (maxSteps := 1000000) (disch := omega) only [go_sem, Nat.reduceAdd, Nat.reduceMul, Nat.reduceSub, Nat.reduceEqDiff, Nat.reduceLeDiff]
    (first | with_reducible refine condK_dec (fun c2 => ?_) (fun c2 => ?_) | with_reducible refine condK_ndec (fun c2 => ?_) (fun c2 => ?_) | with_reducible refine condK_nb (fun c2 => ?_) (fun c2 => ?_) | refine condK_b (fun c2 => ?_) (fun c2 => ?_))
    · simp (maxSteps := 1000000) (disch := omega) only [go_sem, Nat.reduceAdd, Nat.reduceMul, Nat.reduceSub, Nat.reduceEqDiff, Nat.reduceLeDiff]
      intro g1 g2
      rw [if_pos c2] at hs
      refine ⟨k + 1, g2, ⟨by omega, by omega⟩, ⟨by rw [hs, List.length_append]; exact ⟨rfl, rfl⟩, by push_cast; omega⟩, hle_eq (by rw [hs]) (hle_nil _)⟩
    · simp (maxSteps := 1000000) (disch := omega) only [go_sem, Nat.reduceAdd, Nat.reduceMul, Nat.reduceSub, Nat.reduceEqDiff, Nat.reduceLeDiff]
      rw [if_neg c2, List.append_nil] at hs
      refine ⟨k + 1, g, ⟨by omega, by omega⟩, ⟨by rw [hs]; exact ⟨rfl, rfl⟩, by push_cast; omega⟩, by rw [hs]; exact HLe.refl _⟩
  · have hke : k = rs.length := by omega
    subst hke
    simp (maxSteps := 1000000) (disch := omega) only [go_sem, Nat.reduceAdd, Nat.reduceMul, Nat.reduceSub, Nat.reduceEqDiff, Nat.reduceLeDiff]
    exact lessQ_own (E := eI .i64) (n := 1) (HLe.refl _)
end Go.Lg
