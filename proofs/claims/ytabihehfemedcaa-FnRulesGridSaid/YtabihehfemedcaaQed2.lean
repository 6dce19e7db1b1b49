/- GpKK, cut to what is needed. -/
import Derived.Test.YtabihehfemedcaaQed1
set_option linter.unusedSimpArgs false
set_option linter.unusedVariables false
set_option maxRecDepth 100000
namespace Go.Lg
open Go.Proofs
theorem cage_take {xs rs : List Int} {n : Nat} (hf : Full n xs) (hl : rs.length = n * n) (hn : n ≤ 4) {a : Int} (h4 : (regC rs a rs.length).length ≤ 4) : (∀ j : Nat, 0 ≤ (((regC rs a rs.length).map (nth xs)).take j).sum ∧ (((regC rs a rs.length).map (nth xs)).take j).sum ≤ 16) ∧ (∀ j : Nat, 0 ≤ prodV (((regC rs a rs.length).map (nth xs)).take j) ∧ prodV (((regC rs a rs.length).map (nth xs)).take j) ≤ 256) ∧
    ∀ j : Nat, j < (regC rs a rs.length).length → 0 ≤ nth (regC rs a rs.length) j ∧ (nth (regC rs a rs.length) j).toNat < xs.length ∧ 0 ≤ nth xs (nth (regC rs a rs.length) j) ∧ nth xs (nth (regC rs a rs.length) j) ≤ 4 ∧ (((regC rs a rs.length).map (nth xs)).take (j + 1)).sum = (((regC rs a rs.length).map (nth xs)).take j).sum + nth xs (nth (regC rs a rs.length) j) ∧ prodV (((regC rs a rs.length).map (nth xs)).take (j + 1)) = prodV (((regC rs a rs.length).map (nth xs)).take j) * nth xs (nth (regC rs a rs.length) j) := by
  have hv := cage_vals hf hl a
  have hv4 : ∀ v ∈ (regC rs a rs.length).map (nth xs), 0 ≤ v ∧ v ≤ 4 := fun v hm => by have := hv v hm; omega
  have hlen : ((regC rs a rs.length).map (nth xs)).length ≤ 4 := by rw [List.length_map]; exact h4
  refine ⟨sum_take hlen hv4, prodV_take hlen hv4, fun j hj => ?_⟩
  have hm := nth_mem (xs := regC rs a rs.length) hj
  obtain ⟨i, hi, he, _⟩ := regC_mem (Nat.le_refl _) hm
  have hb := hv4 _ (List.mem_map_of_mem (f := nth xs) hm)
  have hg : nth ((regC rs a rs.length).map (nth xs)) j = nth xs (nth (regC rs a rs.length) j) := by
    rw [nth_eq (by rw [List.length_map]; omega)]
    simp only [List.getElem_map, Int.toNat_natCast]
    congr 1
    rw [nth_eq (by omega)]
    rfl
  have ht := take_succ_nth (xs := (regC rs a rs.length).map (nth xs)) (i := j) (by rw [List.length_map]; exact hj)
  rw [hg] at ht
  refine ⟨by omega, by have := hf.1.len; omega, hb.1, hb.2, ?_, ?_⟩
  · rw [ht]; simp
  · rw [ht, prodV_app]
theorem cageOk_not {rs : List Int} {n : Nat} {k : Nat} (hk : k < n) (h : 4 < (regC rs k rs.length).length) : cageOk rs n = false := by
  unfold cageOk
  rw [decide_eq_false_iff_not]
  intro h'
  have := h' k (by omega)
  omega
theorem frz_res {H : Heap} {id g : Nat} {rs : List Rul} {b : Bool} (h : look H id g = some ⟨g, 3, cl eR rs⟩) : frzA H (.tup [.c (.own id g 0 rs.length none), bool b]) = some (.tup [rsl eR rs, bool b]) := by
  have e1 := frzA_own (lim := none) h
  simp only [frzA, frz1, Option.map_eq_some_iff] at e1
  obtain ⟨y, e1, e2⟩ := e1
  cases e2
  have e3 : ∀ x, frzC H (.f (.bool x)) = some (.f (.bool x)) := fun x => rfl
  simp only [frzA, List.mapM_cons, List.mapM_nil, frz1, e1, e3, Option.pure_def, Option.bind_eq_bind, Option.bind_some, Option.map_some]
set_option maxHeartbeats 4000000 in
theorem CageRules_run (xs : List Int) (n : Int) (rs : List Int) (pr : Bool) (hx : xs.length ≤ 2 ^ 40) (hrs : rs.length ≤ 2 ^ 30) : Reads Try.prog 27 [ints xs, int n, ints rs, bool pr] (.tup [rsl eR (cageV xs n rs pr), bool (cageT xs n rs)]) := by
  refine Reads.ice (Q := fun v H' => frzA H' v = some (.tup [rsl eR (cageV xs n rs pr), bool (cageT xs n rs)])) ?_ (fun r H' h => h)
  have hnil : ∀ H : Heap, frzA H (.tup [.c (.f .nil), bool false]) = some (.tup [rsl eR [], bool false]) := fun H => rfl
  have hno : cageT xs n rs = false → cageV xs n rs pr = [] := fun h => by unfold cageV; rw [if_neg (by rw [h]; simp)]
  refine RunCall.cw (c := _) Try.func27 rfl (n := 77) Try.ntmps27 (rs := [.tmp 8, .tmp 9]) rfl ?_
  simp only [List.length_cons, List.length_nil, Nat.reduceAdd, Nat.reduceSub, List.replicate, List.cons_append, List.nil_append]
  simp (maxSteps := 1000000) (disch := omega) only [go_sem, Nat.reduceAdd, Nat.reduceMul, Nat.reduceSub, Nat.reduceEqDiff, Nat.reduceLeDiff]
  first | refine OpS.rd (SquareSolved_run xs n hx) (⟨_, Try.func64, rfl, rfl⟩ : Enters Try.prog 64) rfl rfl rfl rfl ?_ | refine Loud.rd (SquareSolved_run xs n hx) (⟨_, Try.func64, rfl, rfl⟩ : Enters Try.prog 64) rfl rfl rfl rfl ?_
  simp (maxSteps := 1000000) (disch := omega) only [go_sem, Nat.reduceAdd, Nat.reduceMul, Nat.reduceSub, Nat.reduceEqDiff, Nat.reduceLeDiff]
  cases h0 : solvedS xs n with
  | false =>
    have e : cageT xs n rs = false := by unfold cageT; rw [h0, Bool.false_and]
    rw [hno e, e]
    simp (maxSteps := 1000000) (disch := omega) only [go_sem, Nat.reduceAdd, Nat.reduceMul, Nat.reduceSub, Nat.reduceEqDiff, Nat.reduceLeDiff]
    exact ⟨_, HLe.refl _, hnil _⟩
  | true =>
    simp (maxSteps := 1000000) (disch := omega) only [go_sem, Nat.reduceAdd, Nat.reduceMul, Nat.reduceSub, Nat.reduceEqDiff, Nat.reduceLeDiff]
    first | refine OpS.rd (RegionsValid_run rs n (by omega)) (⟨_, Try.func75, rfl, rfl⟩ : Enters Try.prog 75) rfl rfl rfl rfl ?_ | refine Loud.rd (RegionsValid_run rs n (by omega)) (⟨_, Try.func75, rfl, rfl⟩ : Enters Try.prog 75) rfl rfl rfl rfl ?_
    simp (maxSteps := 1000000) (disch := omega) only [go_sem, Nat.reduceAdd, Nat.reduceMul, Nat.reduceSub, Nat.reduceEqDiff, Nat.reduceLeDiff]
    cases h1 : regsOk rs n with
    | false =>
      have e : cageT xs n rs = false := by unfold cageT; rw [h1, Bool.false_and, Bool.and_false]
      rw [hno e, e]
      simp (maxSteps := 1000000) (disch := omega) only [go_sem, Nat.reduceAdd, Nat.reduceMul, Nat.reduceSub, Nat.reduceEqDiff, Nat.reduceLeDiff]
      exact ⟨_, HLe.refl _, hnil _⟩
    | true =>
      have hc0 : cageT xs n rs = cageOk rs n := by unfold cageT; rw [h0, h1, Bool.true_and, Bool.true_and]
      have hv0 : cageOk rs n = true → cageV xs n rs pr = cageL xs rs pr n.toNat := fun h => by unfold cageV; rw [if_pos (by rw [hc0]; exact h)]
      rw [hc0] at hno ⊢
      clear hc0
      obtain ⟨m, rfl, hm, hf, hc⟩ := solvedS_full h0
      have hl : rs.length = m * m := by
        simp only [regsOk, decide_eq_true_eq] at h1
        exact_mod_cast h1.2.2.2
      have hm4 : m ≤ 4 := by omega
      rw [Int.toNat_natCast] at hv0
      simp (maxSteps := 1000000) (disch := omega) only [go_sem, Nat.reduceAdd, Nat.reduceMul, Nat.reduceSub, Nat.reduceEqDiff, Nat.reduceLeDiff]
      intro g
      refine loop_rule2 (fun (k g : Nat) => m - k) (fun k g => k ≤ m ∧ ∀ i : Nat, i < k → (regC rs i rs.length).length ≤ 4) (fun k g => [.k, .k, .k, .k, .a, .a, .a, .a, .a, .a, .p (.c (.own 0 g 0 (cageL xs rs pr k).length none)), .a, .a, .a, .a, .a, .a, .a, .a, .a, .a, .a, .a, .a, .a, .a, .k, .p (int k), .a, .a, .a, .a, .a, .a, .a, .a, .a, .a, .a, .a, .a, .a, .a, .a, .a, .a, .a, .a, .a, .a, .a, .a, .a, .a, .a, .a, .a, .a, .a, .a, .a, .a, .a, .a, .a, .a, .a, .a, .a, .a, .a, .a, .a, .a, .a, .a, .a]) (fun k g => [some ⟨g, 3, cl eR (cageL xs rs pr k)⟩]) 0 g ⟨Nat.zero_le _, fun i hi => absurd hi (Nat.not_lt_zero _)⟩ (by simp (maxSteps := 1000000) (disch := omega) only [go_sem, Nat.reduceAdd, Nat.reduceMul, Nat.reduceSub, Nat.reduceEqDiff, Nat.reduceLeDiff]; first | rfl | exact ⟨rfl, rfl⟩) (HLe.refl _) ?_
      rintro k g ⟨hk, hall⟩
      have hcl := cageL_len xs rs pr k
      have hsu := cageL_succ xs rs pr k
      generalize hA : cageL xs rs pr k = A at hcl hsu ⊢
      simp (maxSteps := 1000000) (disch := omega) only [go_sem, Nat.reduceAdd, Nat.reduceMul, Nat.reduceSub, Nat.reduceEqDiff, Nat.reduceLeDiff]
      (first | with_reducible refine condK_dec (fun h2 => ?_) (fun h2 => ?_) | with_reducible refine condK_ndec (fun h2 => ?_) (fun h2 => ?_) | with_reducible refine condK_nb (fun h2 => ?_) (fun h2 => ?_) | refine condK_b (fun h2 => ?_) (fun h2 => ?_))
      · have h2 : k < m := by omega
        simp (maxSteps := 1000000) (disch := omega) only [go_sem, Nat.reduceAdd, Nat.reduceMul, Nat.reduceSub, Nat.reduceEqDiff, Nat.reduceLeDiff]
        first | refine OpS.mk (RegionCells_run rs m k hrs h1 (by omega)) (⟨_, Try.func76, rfl, rfl⟩ : Enters Try.prog 76) rfl rfl rfl rfl rfl ?_ | refine Loud.mk (RegionCells_run rs m k hrs h1 (by omega)) (⟨_, Try.func76, rfl, rfl⟩ : Enters Try.prog 76) rfl rfl rfl rfl rfl ?_
        simp (maxSteps := 1000000) (disch := omega) only [go_sem, Nat.reduceAdd, Nat.reduceMul, Nat.reduceSub, Nat.reduceEqDiff, Nat.reduceLeDiff]
        intro g1
        have hcr : cageR xs rs pr k = if pr = true then ⟨3, regC rs k rs.length, prodV ((regC rs k rs.length).map (nth xs))⟩ else ⟨2, regC rs k rs.length, ((regC rs k rs.length).map (nth xs)).sum⟩ := rfl
        have hbad := cageOk_not (rs := rs) h2
        have hgood := cage_take hf hl hm4 (a := k)
        have hall2 : (regC rs k rs.length).length ≤ 4 → ∀ i : Nat, i < k + 1 → (regC rs i rs.length).length ≤ 4 := fun h i hi => by
          by_cases hik : i = k
          · rw [hik]; exact h
          · exact hall i (by omega)
        generalize regC rs k rs.length = C at hcr hbad hgood hall2 hsu ⊢
        cases pr with
        | true =>
          rw [if_pos rfl] at hcr
          simp (maxSteps := 1000000) (disch := omega) only [go_sem, Nat.reduceAdd, Nat.reduceMul, Nat.reduceSub, Nat.reduceEqDiff, Nat.reduceLeDiff]
          (first | with_reducible refine condK_dec (fun h3 => ?_) (fun h3 => ?_) | with_reducible refine condK_ndec (fun h3 => ?_) (fun h3 => ?_) | with_reducible refine condK_nb (fun h3 => ?_) (fun h3 => ?_) | refine condK_b (fun h3 => ?_) (fun h3 => ?_))
          · simp (maxSteps := 1000000) (disch := omega) only [go_sem, Nat.reduceAdd, Nat.reduceMul, Nat.reduceSub, Nat.reduceEqDiff, Nat.reduceLeDiff]
            have e := hbad (by omega)
            rw [hno e, e]
            exact ⟨_, HLe.refl _, hnil _⟩
          obtain ⟨q1, q2, q3⟩ := hgood (by omega)
          have hall2 := hall2 (by omega)
          have hCl : (C.map (nth xs)).length = C.length := List.length_map _
          simp (maxSteps := 1000000) (disch := omega) only [go_sem, Nat.reduceAdd, Nat.reduceMul, Nat.reduceSub, Nat.reduceEqDiff, Nat.reduceLeDiff]
          refine loop_rule (fun j : Nat => C.length - j) (fun j => j ≤ C.length) (fun j => [.k, .k, .k, .k, .a, .a, .a, .a, .a, .a, .k, .a, .k, .a, .a, .a, .a, .a, .a, .a, .a, .a, .a, .a, .a, .a, .k, .k, .a, .a, .a, .a, .a, .a, .a, .a, .a, .a, .a, .a, .a, .a, .a, .k, .k, .p (int j), .a, .a, .a, .a, .a, .a, .a, .a, .a, .a, .a, .a, .a, .a, .a, .a, .a, .a, .a, .a, .a, .a, .a, .a, .a, .a, .a, .a, .a, .a, .a]) (fun j => [some ⟨g, 3, cl eR A⟩, some ⟨g1, 3, [.f (.int .i64 3), .f (fints C), .f (.int .i64 (prodV ((C.map (nth xs)).take j)))]⟩]) 0 (Nat.zero_le _) (by simp (maxSteps := 1000000) (disch := omega) only [go_sem, Nat.reduceAdd, Nat.reduceMul, Nat.reduceSub, Nat.reduceEqDiff, Nat.reduceLeDiff]; rfl) (hle_eq rfl (hle_eq (by simp [prodV]) (hle_nil _))) ?_
          intro j hj
          simp (maxSteps := 1000000) (disch := omega) only [go_sem, Nat.reduceAdd, Nat.reduceMul, Nat.reduceSub, Nat.reduceEqDiff, Nat.reduceLeDiff]
          (first | with_reducible refine condK_dec (fun h4 => ?_) (fun h4 => ?_) | with_reducible refine condK_ndec (fun h4 => ?_) (fun h4 => ?_) | with_reducible refine condK_nb (fun h4 => ?_) (fun h4 => ?_) | refine condK_b (fun h4 => ?_) (fun h4 => ?_))
          · have h4 : j < C.length := by omega
            obtain ⟨w1, w2, w3, w4, w5, w6⟩ := q3 j h4
            have w7 := q1 j
            have w8 := q2 (j + 1)
            have w9 := q2 j
            rw [w6] at w8
            simp (maxSteps := 1000000) (disch := omega) only [go_sem, Nat.reduceAdd, Nat.reduceMul, Nat.reduceSub, Nat.reduceEqDiff, Nat.reduceLeDiff]
            refine drawP_lF [0, 1, 2, 3, 4, 5] [] none [6, 7, 8] [] foll (by kernel_rfl) ?_
            simp (maxSteps := 1000000) (disch := omega) only [go_sem, Nat.reduceBEq, Bool.true_or, Nat.reduceAdd, Nat.reduceMul, Nat.reduceSub, Nat.reduceEqDiff, Nat.reduceLeDiff]
            exact ⟨j + 1, ⟨by omega, by omega⟩, by push_cast; rfl, hle_eq rfl (hle_eq (by rw [w6]) (hle_nil _))⟩
          · have hje : j = C.length := by omega
            subst hje
            have e1 : (C.map (nth xs)).take C.length = C.map (nth xs) := List.take_of_length_le (by rw [List.length_map]; exact Nat.le_refl _)
            rw [e1]
            simp (maxSteps := 1000000) (disch := omega) only [go_sem, Nat.reduceAdd, Nat.reduceMul, Nat.reduceSub, Nat.reduceEqDiff, Nat.reduceLeDiff]
            (first | with_reducible refine condK_dec (fun h5 => ?_) (fun h5 => ?_) | with_reducible refine condK_ndec (fun h5 => ?_) (fun h5 => ?_) | with_reducible refine condK_nb (fun h5 => ?_) (fun h5 => ?_) | refine condK_b (fun h5 => ?_) (fun h5 => ?_))
            · rw [if_neg (by omega), hcr] at hsu
              simp (maxSteps := 1000000) (disch := omega) only [go_sem, Nat.reduceAdd, Nat.reduceMul, Nat.reduceSub, Nat.reduceEqDiff, Nat.reduceLeDiff]
              intro g3 g4
              refine ⟨k + 1, g4, ⟨⟨by omega, hall2⟩, by omega⟩, ⟨by rw [hsu, List.length_append]; exact ⟨rfl, rfl⟩, by push_cast; omega⟩, hle_eq (by rw [hsu, cl_append]; rfl) (hle_nil _)⟩
            · rw [if_pos (by omega), List.append_nil] at hsu
              simp (maxSteps := 1000000) (disch := omega) only [go_sem, Nat.reduceAdd, Nat.reduceMul, Nat.reduceSub, Nat.reduceEqDiff, Nat.reduceLeDiff]
              exact ⟨k + 1, g, ⟨⟨by omega, hall2⟩, by omega⟩, ⟨by rw [hsu]; exact ⟨rfl, rfl⟩, by push_cast; omega⟩, hle_eq (by rw [hsu]) (hle_nil _)⟩
        | false =>
          rw [if_neg (by decide)] at hcr
          simp (maxSteps := 1000000) (disch := omega) only [go_sem, Nat.reduceAdd, Nat.reduceMul, Nat.reduceSub, Nat.reduceEqDiff, Nat.reduceLeDiff]
          (first | with_reducible refine condK_dec (fun h3 => ?_) (fun h3 => ?_) | with_reducible refine condK_ndec (fun h3 => ?_) (fun h3 => ?_) | with_reducible refine condK_nb (fun h3 => ?_) (fun h3 => ?_) | refine condK_b (fun h3 => ?_) (fun h3 => ?_))
          · simp (maxSteps := 1000000) (disch := omega) only [go_sem, Nat.reduceAdd, Nat.reduceMul, Nat.reduceSub, Nat.reduceEqDiff, Nat.reduceLeDiff]
            have e := hbad (by omega)
            rw [hno e, e]
            exact ⟨_, HLe.refl _, hnil _⟩
          obtain ⟨q1, q2, q3⟩ := hgood (by omega)
          have hall2 := hall2 (by omega)
          have hCl : (C.map (nth xs)).length = C.length := List.length_map _
          simp (maxSteps := 1000000) (disch := omega) only [go_sem, Nat.reduceAdd, Nat.reduceMul, Nat.reduceSub, Nat.reduceEqDiff, Nat.reduceLeDiff]
          refine loop_rule (fun j : Nat => C.length - j) (fun j => j ≤ C.length) (fun j => [.k, .k, .k, .k, .a, .a, .a, .a, .a, .a, .k, .a, .k, .a, .a, .a, .a, .a, .a, .a, .a, .a, .a, .a, .a, .a, .k, .k, .a, .a, .a, .a, .a, .a, .a, .a, .a, .a, .a, .a, .a, .a, .a, .k, .k, .p (int j), .a, .a, .a, .a, .a, .a, .a, .a, .a, .a, .a, .a, .a, .a, .a, .a, .a, .a, .a, .a, .a, .a, .a, .a, .a, .a, .a, .a, .a, .a, .a]) (fun j => [some ⟨g, 3, cl eR A⟩, some ⟨g1, 3, [.f (.int .i64 2), .f (fints C), .f (.int .i64 (((C.map (nth xs)).take j).sum))]⟩]) 0 (Nat.zero_le _) (by simp (maxSteps := 1000000) (disch := omega) only [go_sem, Nat.reduceAdd, Nat.reduceMul, Nat.reduceSub, Nat.reduceEqDiff, Nat.reduceLeDiff]; rfl) (hle_eq rfl (hle_eq (by simp) (hle_nil _))) ?_
          intro j hj
          simp (maxSteps := 1000000) (disch := omega) only [go_sem, Nat.reduceAdd, Nat.reduceMul, Nat.reduceSub, Nat.reduceEqDiff, Nat.reduceLeDiff]
          (first | with_reducible refine condK_dec (fun h4 => ?_) (fun h4 => ?_) | with_reducible refine condK_ndec (fun h4 => ?_) (fun h4 => ?_) | with_reducible refine condK_nb (fun h4 => ?_) (fun h4 => ?_) | refine condK_b (fun h4 => ?_) (fun h4 => ?_))
          · have h4 : j < C.length := by omega
            obtain ⟨w1, w2, w3, w4, w5, w6⟩ := q3 j h4
            have w7 := q1 j
            have w8 := q2 (j + 1)
            have w9 := q2 j
            rw [w6] at w8
            simp (maxSteps := 1000000) (disch := omega) only [go_sem, Nat.reduceAdd, Nat.reduceMul, Nat.reduceSub, Nat.reduceEqDiff, Nat.reduceLeDiff]
            refine drawP_lF [0, 1, 2, 3, 4, 5] [] none [6, 7, 8] [] foll (by kernel_rfl) ?_
            simp (maxSteps := 1000000) (disch := omega) only [go_sem, Nat.reduceBEq, Bool.true_or, Nat.reduceAdd, Nat.reduceMul, Nat.reduceSub, Nat.reduceEqDiff, Nat.reduceLeDiff]
            exact ⟨j + 1, ⟨by omega, by omega⟩, by push_cast; rfl, hle_eq rfl (hle_eq (by rw [w5]) (hle_nil _))⟩
          · have hje : j = C.length := by omega
            subst hje
            have e1 : (C.map (nth xs)).take C.length = C.map (nth xs) := List.take_of_length_le (by rw [List.length_map]; exact Nat.le_refl _)
            rw [e1]
            simp (maxSteps := 1000000) (disch := omega) only [go_sem, Nat.reduceAdd, Nat.reduceMul, Nat.reduceSub, Nat.reduceEqDiff, Nat.reduceLeDiff]
            (first | with_reducible refine condK_dec (fun h5 => ?_) (fun h5 => ?_) | with_reducible refine condK_ndec (fun h5 => ?_) (fun h5 => ?_) | with_reducible refine condK_nb (fun h5 => ?_) (fun h5 => ?_) | refine condK_b (fun h5 => ?_) (fun h5 => ?_))
            · rw [if_neg (by omega), hcr] at hsu
              simp (maxSteps := 1000000) (disch := omega) only [go_sem, Nat.reduceAdd, Nat.reduceMul, Nat.reduceSub, Nat.reduceEqDiff, Nat.reduceLeDiff]
              intro g3 g4
              refine ⟨k + 1, g4, ⟨⟨by omega, hall2⟩, by omega⟩, ⟨by rw [hsu, List.length_append]; exact ⟨rfl, rfl⟩, by push_cast; omega⟩, hle_eq (by rw [hsu, cl_append]; rfl) (hle_nil _)⟩
            · rw [if_pos (by omega), List.append_nil] at hsu
              simp (maxSteps := 1000000) (disch := omega) only [go_sem, Nat.reduceAdd, Nat.reduceMul, Nat.reduceSub, Nat.reduceEqDiff, Nat.reduceLeDiff]
              exact ⟨k + 1, g, ⟨⟨by omega, hall2⟩, by omega⟩, ⟨by rw [hsu]; exact ⟨rfl, rfl⟩, by push_cast; omega⟩, hle_eq (by rw [hsu]) (hle_nil _)⟩
      · have hke : k = m := by omega
        subst hke
        have hok : cageOk rs k = true := by
          unfold cageOk
          rw [decide_eq_true_eq, Int.toNat_natCast]
          exact hall
        rw [hv0 hok, hok, hA]
        simp (maxSteps := 1000000) (disch := omega) only [go_sem, Nat.reduceAdd, Nat.reduceMul, Nat.reduceSub, Nat.reduceEqDiff, Nat.reduceLeDiff]
        exact ⟨_, HLe.refl _, frz_res look_zero⟩
set_option maxHeartbeats 4000000 in
theorem sCageRules_run (xs : List Int) (n : Int) (rs : List Int) (pr : Bool) (hx : xs.length ≤ 2 ^ 40) (hrs : rs.length ≤ 2 ^ 30) (hnb : -2 ^ 20 ≤ n ∧ n ≤ 2 ^ 20) : Reads Try.prog 28 [ints xs, int n, ints rs, bool pr] (.tup [rsl eR (cageV xs n rs pr), bool (cageT xs n rs)]) := by
  refine Reads.ice (Q := fun v H' => frzA H' v = some (.tup [rsl eR (cageV xs n rs pr), bool (cageT xs n rs)])) ?_ (fun r H' h => h)
  have hnil : ∀ g : Nat, frzA [some ⟨g, 3, []⟩] (.tup [.c (.own 0 g 0 0 none), bool false]) = some (.tup [rsl eR [], bool false]) := fun g => frz_res (rs := []) look_zero
  have hno : cageT xs n rs = false → cageV xs n rs pr = [] := fun h => by unfold cageV; rw [if_neg (by rw [h]; simp)]
  refine RunCall.cw (c := _) Try.func28 rfl (n := 84) Try.ntmps28 (rs := [.tmp 8, .tmp 9]) rfl ?_
  simp only [List.length_cons, List.length_nil, Nat.reduceAdd, Nat.reduceSub, List.replicate, List.cons_append, List.nil_append]
  simp (maxSteps := 1000000) (disch := omega) only [go_sem, Nat.reduceAdd, Nat.reduceMul, Nat.reduceSub, Nat.reduceEqDiff, Nat.reduceLeDiff]
  intro g
  first | refine OpS.rd (sSquareSolved_run xs n hx) (⟨_, Try.func19, rfl, rfl⟩ : Enters Try.prog 19) rfl rfl rfl rfl ?_ | refine Loud.rd (sSquareSolved_run xs n hx) (⟨_, Try.func19, rfl, rfl⟩ : Enters Try.prog 19) rfl rfl rfl rfl ?_
  simp (maxSteps := 1000000) (disch := omega) only [go_sem, Nat.reduceAdd, Nat.reduceMul, Nat.reduceSub, Nat.reduceEqDiff, Nat.reduceLeDiff]
  cases h0 : solvedS xs n with
  | false =>
    have e : cageT xs n rs = false := by unfold cageT; rw [h0, Bool.false_and]
    rw [hno e, e]
    simp (maxSteps := 1000000) (disch := omega) only [go_sem, Nat.reduceAdd, Nat.reduceMul, Nat.reduceSub, Nat.reduceEqDiff, Nat.reduceLeDiff]
    exact ⟨_, HLe.refl _, hnil _⟩
  | true =>
    simp (maxSteps := 1000000) (disch := omega) only [go_sem, Nat.reduceAdd, Nat.reduceMul, Nat.reduceSub, Nat.reduceEqDiff, Nat.reduceLeDiff]
    first | refine OpS.rd (sRegionsValid_run rs n (by omega) hnb) (⟨_, Try.func77, rfl, rfl⟩ : Enters Try.prog 77) rfl rfl rfl rfl ?_ | refine Loud.rd (sRegionsValid_run rs n (by omega) hnb) (⟨_, Try.func77, rfl, rfl⟩ : Enters Try.prog 77) rfl rfl rfl rfl ?_
    simp (maxSteps := 1000000) (disch := omega) only [go_sem, Nat.reduceAdd, Nat.reduceMul, Nat.reduceSub, Nat.reduceEqDiff, Nat.reduceLeDiff]
    cases h1 : regsOk rs n with
    | false =>
      have e : cageT xs n rs = false := by unfold cageT; rw [h1, Bool.false_and, Bool.and_false]
      rw [hno e, e]
      simp (maxSteps := 1000000) (disch := omega) only [go_sem, Nat.reduceAdd, Nat.reduceMul, Nat.reduceSub, Nat.reduceEqDiff, Nat.reduceLeDiff]
      exact ⟨_, HLe.refl _, hnil _⟩
    | true =>
      have hc0 : cageT xs n rs = cageOk rs n := by unfold cageT; rw [h0, h1, Bool.true_and, Bool.true_and]
      have hv0 : cageOk rs n = true → cageV xs n rs pr = cageL xs rs pr n.toNat := fun h => by unfold cageV; rw [if_pos (by rw [hc0]; exact h)]
      rw [hc0] at hno ⊢
      clear hc0
      obtain ⟨m, rfl, hm, hf, hc⟩ := solvedS_full h0
      have hl : rs.length = m * m := by
        simp only [regsOk, decide_eq_true_eq] at h1
        exact_mod_cast h1.2.2.2
      have hm4 : m ≤ 4 := by omega
      rw [Int.toNat_natCast] at hv0
      simp (maxSteps := 1000000) (disch := omega) only [go_sem, Nat.reduceAdd, Nat.reduceMul, Nat.reduceSub, Nat.reduceEqDiff, Nat.reduceLeDiff]
      refine loop_rule2 (fun (k g : Nat) => m - k) (fun k g => k ≤ m ∧ ∀ i : Nat, i < k → (regC rs i rs.length).length ≤ 4) (fun k g => [.k, .k, .k, .k, .a, .a, .a, .a, .a, .a, .p (.c (.own 0 g 0 (cageL xs rs pr k).length none)), .p (int k), .a, .a, .a, .a, .a, .a, .a, .a, .a, .a, .a, .a, .a, .a, .a, .a, .a, .a, .a, .a, .a, .a, .a, .a, .a, .a, .a, .a, .a, .a, .a, .a, .a, .a, .a, .a, .a, .a, .a, .a, .a, .a, .a, .a, .a, .a, .a, .a, .a, .a, .a, .a, .a, .a, .a, .a, .a, .a, .a, .a, .a, .a, .a, .a, .a, .a, .a, .a, .a, .a, .a, .a]) (fun k g => [some ⟨g, 3, cl eR (cageL xs rs pr k)⟩]) 0 g ⟨Nat.zero_le _, fun i hi => absurd hi (Nat.not_lt_zero _)⟩ (by simp (maxSteps := 1000000) (disch := omega) only [go_sem, Nat.reduceAdd, Nat.reduceMul, Nat.reduceSub, Nat.reduceEqDiff, Nat.reduceLeDiff]; first | rfl | exact ⟨rfl, rfl⟩) (HLe.refl _) ?_
      rintro k g ⟨hk, hall⟩
      have hcl := cageL_len xs rs pr k
      have hsu := cageL_succ xs rs pr k
      generalize hA : cageL xs rs pr k = A at hcl hsu ⊢
      simp (maxSteps := 1000000) (disch := omega) only [go_sem, Nat.reduceAdd, Nat.reduceMul, Nat.reduceSub, Nat.reduceEqDiff, Nat.reduceLeDiff]
      (first | with_reducible refine condK_dec (fun h2 => ?_) (fun h2 => ?_) | with_reducible refine condK_ndec (fun h2 => ?_) (fun h2 => ?_) | with_reducible refine condK_nb (fun h2 => ?_) (fun h2 => ?_) | refine condK_b (fun h2 => ?_) (fun h2 => ?_))
      · have h2 : k < m := by omega
        have hrun := sRegionCells_run rs m k hrs hnb
        have hrv : regV rs m k = regC rs k rs.length := by unfold regV; rw [if_pos h1]
        rw [hrv] at hrun
        simp (maxSteps := 1000000) (disch := omega) only [go_sem, Nat.reduceAdd, Nat.reduceMul, Nat.reduceSub, Nat.reduceEqDiff, Nat.reduceLeDiff]
        first | refine OpS.mk (hrun) (⟨_, Try.func78, rfl, rfl⟩ : Enters Try.prog 78) rfl rfl rfl rfl rfl ?_ | refine Loud.mk (hrun) (⟨_, Try.func78, rfl, rfl⟩ : Enters Try.prog 78) rfl rfl rfl rfl rfl ?_
        simp (maxSteps := 1000000) (disch := omega) only [go_sem, Nat.reduceAdd, Nat.reduceMul, Nat.reduceSub, Nat.reduceEqDiff, Nat.reduceLeDiff]
        have hcr : cageR xs rs pr k = if pr = true then ⟨3, regC rs k rs.length, prodV ((regC rs k rs.length).map (nth xs))⟩ else ⟨2, regC rs k rs.length, ((regC rs k rs.length).map (nth xs)).sum⟩ := rfl
        have hbad := cageOk_not (rs := rs) h2
        have hgood := cage_take hf hl hm4 (a := k)
        have hall2 : (regC rs k rs.length).length ≤ 4 → ∀ i : Nat, i < k + 1 → (regC rs i rs.length).length ≤ 4 := fun h i hi => by
          by_cases hik : i = k
          · rw [hik]; exact h
          · exact hall i (by omega)
        clear hrun hrv
        generalize regC rs k rs.length = C at hcr hbad hgood hall2 hsu ⊢
        (first | with_reducible refine condK_dec (fun h3 => ?_) (fun h3 => ?_) | with_reducible refine condK_ndec (fun h3 => ?_) (fun h3 => ?_) | with_reducible refine condK_nb (fun h3 => ?_) (fun h3 => ?_) | refine condK_b (fun h3 => ?_) (fun h3 => ?_))
        · simp (maxSteps := 1000000) (disch := omega) only [go_sem, Nat.reduceAdd, Nat.reduceMul, Nat.reduceSub, Nat.reduceEqDiff, Nat.reduceLeDiff]
          intro g4
          have e := hbad (by omega)
          rw [hno e, e]
          exact ⟨_, HLe.refl _, frz_res (rs := []) (look_of (b := ⟨g4, 3, []⟩) rfl)⟩
        obtain ⟨q1, q2, q3⟩ := hgood (by omega)
        have hall2 := hall2 (by omega)
        simp (maxSteps := 1000000) (disch := omega) only [go_sem, Nat.reduceAdd, Nat.reduceMul, Nat.reduceSub, Nat.reduceEqDiff, Nat.reduceLeDiff]
        refine loop_rule (fun j : Nat => C.length - j) (fun j => j ≤ C.length) (fun j => [.k, .k, .k, .k, .a, .a, .a, .a, .a, .a, .k, .k, .k, .p (int ((C.map (nth xs)).take j).sum), .p (int (prodV ((C.map (nth xs)).take j))), .p (int j), .a, .a, .a, .a, .a, .a, .a, .a, .a, .a, .a, .a, .a, .a, .a, .a, .a, .a, .a, .a, .a, .a, .a, .a, .a, .a, .a, .a, .a, .a, .a, .a, .a, .a, .a, .a, .a, .a, .a, .a, .a, .a, .a, .a, .a, .a, .a, .a, .a, .a, .a, .a, .a, .a, .a, .a, .a, .a, .a, .a, .a, .a, .a, .a, .a, .a, .a, .a]) (fun j => [some ⟨g, 3, cl eR A⟩]) 0 (Nat.zero_le _) (by simp (maxSteps := 1000000) (disch := omega) only [go_sem, Nat.reduceAdd, Nat.reduceMul, Nat.reduceSub, Nat.reduceEqDiff, Nat.reduceLeDiff]; first | rfl | exact ⟨rfl, rfl⟩ | simp [prodV]) (HLe.refl _) ?_
        intro j hj
        simp (maxSteps := 1000000) (disch := omega) only [go_sem, Nat.reduceAdd, Nat.reduceMul, Nat.reduceSub, Nat.reduceEqDiff, Nat.reduceLeDiff]
        (first | with_reducible refine condK_dec (fun h4 => ?_) (fun h4 => ?_) | with_reducible refine condK_ndec (fun h4 => ?_) (fun h4 => ?_) | with_reducible refine condK_nb (fun h4 => ?_) (fun h4 => ?_) | refine condK_b (fun h4 => ?_) (fun h4 => ?_))
        · have h4 : j < C.length := by omega
          obtain ⟨w1, w2, w3, w4, w5, w6⟩ := q3 j h4
          have w7 := q1 j
          have w8 := q2 (j + 1)
          have w9 := q2 j
          rw [w6] at w8
          simp (maxSteps := 1000000) (disch := omega) only [go_sem, Nat.reduceAdd, Nat.reduceMul, Nat.reduceSub, Nat.reduceEqDiff, Nat.reduceLeDiff]
          exact ⟨j + 1, ⟨by omega, by omega⟩, ⟨w5.symm, w6.symm, by push_cast; rfl⟩, HLe.refl _⟩
        · have hje : j = C.length := by omega
          subst hje
          have e1 : (C.map (nth xs)).take C.length = C.map (nth xs) := List.take_of_length_le (by rw [List.length_map]; exact Nat.le_refl _)
          rw [e1]
          simp (maxSteps := 1000000) (disch := omega) only [go_sem, Nat.reduceAdd, Nat.reduceMul, Nat.reduceSub, Nat.reduceEqDiff, Nat.reduceLeDiff]
          (first | with_reducible refine condK_dec (fun h5 => ?_) (fun h5 => ?_) | with_reducible refine condK_ndec (fun h5 => ?_) (fun h5 => ?_) | with_reducible refine condK_nb (fun h5 => ?_) (fun h5 => ?_) | refine condK_b (fun h5 => ?_) (fun h5 => ?_))
          · rw [if_pos (by omega), List.append_nil] at hsu
            simp (maxSteps := 1000000) (disch := omega) only [go_sem, Nat.reduceAdd, Nat.reduceMul, Nat.reduceSub, Nat.reduceEqDiff, Nat.reduceLeDiff]
            rw [blockK_miss _ _ rfl]
            simp (maxSteps := 1000000) (disch := omega) only [go_sem, Nat.reduceAdd, Nat.reduceMul, Nat.reduceSub, Nat.reduceEqDiff, Nat.reduceLeDiff]
            exact ⟨k + 1, g, ⟨⟨by omega, hall2⟩, by omega⟩, ⟨by rw [hsu]; exact ⟨rfl, rfl⟩, by push_cast; omega⟩, hle_eq (by rw [hsu]) (hle_nil _)⟩
          · rw [if_neg (by omega), hcr] at hsu
            cases pr with
            | true =>
              simp (maxSteps := 1000000) (disch := omega) only [go_sem, Nat.reduceAdd, Nat.reduceMul, Nat.reduceSub, Nat.reduceEqDiff, Nat.reduceLeDiff]
              intro g3 g4
              exact ⟨k + 1, g4, ⟨⟨by omega, hall2⟩, by omega⟩, ⟨by rw [hsu, List.length_append]; exact ⟨rfl, rfl⟩, by push_cast; omega⟩, hle_eq (by rw [hsu, cl_append]; rfl) (hle_nil _)⟩
            | false =>
              simp (maxSteps := 1000000) (disch := omega) only [go_sem, Nat.reduceAdd, Nat.reduceMul, Nat.reduceSub, Nat.reduceEqDiff, Nat.reduceLeDiff]
              intro g3 g4
              exact ⟨k + 1, g4, ⟨⟨by omega, hall2⟩, by omega⟩, ⟨by rw [hsu, List.length_append]; exact ⟨rfl, rfl⟩, by push_cast; omega⟩, hle_eq (by rw [hsu, cl_append]; rfl) (hle_nil _)⟩
      · have hke : k = m := by omega
        subst hke
        have hok : cageOk rs k = true := by
          unfold cageOk
          rw [decide_eq_true_eq, Int.toNat_natCast]
          exact hall
        rw [hv0 hok, hok, hA]
        simp (maxSteps := 1000000) (disch := omega) only [go_sem, Nat.reduceAdd, Nat.reduceMul, Nat.reduceSub, Nat.reduceEqDiff, Nat.reduceLeDiff]
        exact ⟨_, HLe.refl _, frz_res look_zero⟩
end Go.Lg
