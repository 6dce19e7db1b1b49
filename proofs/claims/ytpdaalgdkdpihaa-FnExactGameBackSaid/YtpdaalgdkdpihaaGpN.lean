/- The grids of games, and their law. -/
import Derived.Test.YtpdaalgdkdpihaaGpM
set_option linter.unusedSimpArgs false
set_option linter.unusedVariables false
set_option maxRecDepth 100000
namespace Go.Lg
open Go.Proofs

/-- Two grids in one. -/
def bothG (a b : List Int) : List Int := (List.range a.length).map fun i : Nat => max (nth a i) (nth b i)
def bothOk (a b : List Int) : Bool := decide (∀ i : Nat, i < a.length → ¬ (0 < nth a i ∧ 0 < nth b i ∧ nth a i ≠ nth b i))
theorem bothG_length (a b : List Int) : (bothG a b).length = a.length := by simp [bothG]
theorem bothG_nth {a b : List Int} {i : Nat} (h : i < a.length) : nth (bothG a b) i = max (nth a i) (nth b i) := by
  rw [nth_eq (by rw [bothG_length]; omega)]; simp [bothG]
/-- New and the call's own, or nothing; and whether. -/
def bothQ (a b : List Int) : KV := fun r H => (bothOk a b = true → ∃ g, r = .tup [.c (.own 0 g 0 a.length none), bool true] ∧ H = [some ⟨g, 1, cl (eI .i64) (bothG a b)⟩]) ∧ (bothOk a b = false → r = .tup [.c (.f (.sl 0 [])), bool false] ∧ H = [])
theorem bothGrids_run (a b : List Int) (hx : a.length ≤ 2 ^ 40) (hb : a.length = b.length) : RunCall Try.prog 51 [ints a, ints b] [] (bothQ a b) := by
  refine RunCall.nz ?_
  refine RunCall.cw (c := _) Try.func51 rfl (n := 47) Try.ntmps51 (rs := [.tmp 4, .tmp 5]) rfl ?_
  simp only [List.length_cons, List.length_nil, Nat.reduceAdd, Nat.reduceSub, List.replicate, List.cons_append, List.nil_append]
  simp (maxSteps := 1000000) (disch := omega) only [go_sem, Nat.reduceAdd, Nat.reduceMul, Nat.reduceSub, Nat.reduceEqDiff, Nat.reduceLeDiff]
  intro g
  refine loop_rule2 (fun (i : Nat) (ys : List Int) => a.length - i) (fun i ys => i ≤ a.length ∧ ys.length = a.length ∧ (∀ j : Nat, j < i → nth ys j = max (nth a j) (nth b j)) ∧ ∀ j : Nat, j < i → ¬ (0 < nth a j ∧ 0 < nth b j ∧ nth a j ≠ nth b j)) (fun i _ => [.a, .k, .a, .a, .a, .a, .k, .a, .a, .a, .a, .a, .k, .k, .p (int i), .a, .a, .a, .a, .a, .a, .a, .a, .a, .a, .a, .a, .a, .a, .a, .a, .a, .a, .a, .a, .a, .a, .a, .a, .a, .a, .a, .a, .a, .a, .a, .a]) (fun _ ys => [some ⟨g, 1, cl (eI .i64) ys⟩]) 0 (List.replicate a.length 0)
    ⟨Nat.zero_le _, List.length_replicate, fun j hj => absurd hj (Nat.not_lt_zero _), fun j hj => absurd hj (Nat.not_lt_zero _)⟩ (by simp (maxSteps := 1000000) (disch := omega) only [go_sem, Nat.reduceAdd, Nat.reduceMul, Nat.reduceSub, Nat.reduceEqDiff, Nat.reduceLeDiff]; rfl) (HLe.refl _) ?_
  rintro i ys ⟨hi, hl, hall, hok⟩
  simp (maxSteps := 1000000) (disch := omega) only [go_sem, Nat.reduceAdd, Nat.reduceMul, Nat.reduceSub, Nat.reduceEqDiff, Nat.reduceLeDiff]
  (first | with_reducible refine condK_dec (fun h => ?_) (fun h => ?_) | with_reducible refine condK_ndec (fun h => ?_) (fun h => ?_) | with_reducible refine condK_nb (fun h => ?_) (fun h => ?_) | refine condK_b (fun h => ?_) (fun h => ?_))
  · have h : i < a.length := by omega
    have no : 0 < nth a i ∧ 0 < nth b i ∧ nth a i ≠ nth b i → bothOk a b = false := fun h2 => by
      simp only [bothOk, decide_eq_false_iff_not]; exact fun h3 => h3 i h h2
    have nx : ∀ v, v = max (nth a i) (nth b i) → ∀ j : Nat, j < i + 1 → nth (ys.set i v) j = max (nth a j) (nth b j) := fun v hv j hj => by
      rw [nth_set _ _ _ _ (by omega) (by omega)]
      split
      · rename_i he; rw [hv, he]
      · exact hall j (by omega)
    simp (maxSteps := 1000000) (disch := omega) only [go_sem, Nat.reduceAdd, Nat.reduceMul, Nat.reduceSub, Nat.reduceEqDiff, Nat.reduceLeDiff]
    repeat' (first | (first | with_reducible refine guardK_dec (fun hg => ?_) (fun hg => ?_) <;> simp (maxSteps := 1000000) (disch := omega) only [go_sem, Nat.reduceAdd, Nat.reduceMul, Nat.reduceSub, Nat.reduceEqDiff, Nat.reduceLeDiff, hg] | with_reducible refine guardK_ndec (fun hg => ?_) (fun hg => ?_) <;> simp (maxSteps := 1000000) (disch := omega) only [go_sem, Nat.reduceAdd, Nat.reduceMul, Nat.reduceSub, Nat.reduceEqDiff, Nat.reduceLeDiff, hg] | with_reducible refine guardK_nb (fun hg => ?_) (fun hg => ?_) <;> simp (maxSteps := 1000000) (disch := omega) only [go_sem, Nat.reduceAdd, Nat.reduceMul, Nat.reduceSub, Nat.reduceEqDiff, Nat.reduceLeDiff, hg] | with_reducible refine guardK_split (fun hg => ?_) (fun hg => ?_) <;> simp (maxSteps := 1000000) (disch := omega) only [go_sem, Nat.reduceAdd, Nat.reduceMul, Nat.reduceSub, Nat.reduceEqDiff, Nat.reduceLeDiff, hg] | with_reducible refine guardQ_dec (fun hg => ?_) (fun hg => ?_) <;> simp (maxSteps := 1000000) (disch := omega) only [go_sem, Nat.reduceAdd, Nat.reduceMul, Nat.reduceSub, Nat.reduceEqDiff, Nat.reduceLeDiff, hg] | with_reducible refine guardL_dec (fun hg => ?_) (fun hg => ?_) <;> simp (maxSteps := 1000000) (disch := omega) only [go_sem, Nat.reduceAdd, Nat.reduceMul, Nat.reduceSub, Nat.reduceEqDiff, Nat.reduceLeDiff, hg] | with_reducible refine guardQ_ndec (fun hg => ?_) (fun hg => ?_) <;> simp (maxSteps := 1000000) (disch := omega) only [go_sem, Nat.reduceAdd, Nat.reduceMul, Nat.reduceSub, Nat.reduceEqDiff, Nat.reduceLeDiff, hg] | with_reducible refine guardL_ndec (fun hg => ?_) (fun hg => ?_) <;> simp (maxSteps := 1000000) (disch := omega) only [go_sem, Nat.reduceAdd, Nat.reduceMul, Nat.reduceSub, Nat.reduceEqDiff, Nat.reduceLeDiff, hg] | with_reducible refine guardQ_nb (fun hg => ?_) (fun hg => ?_) <;> simp (maxSteps := 1000000) (disch := omega) only [go_sem, Nat.reduceAdd, Nat.reduceMul, Nat.reduceSub, Nat.reduceEqDiff, Nat.reduceLeDiff, hg] | with_reducible refine guardL_nb (fun hg => ?_) (fun hg => ?_) <;> simp (maxSteps := 1000000) (disch := omega) only [go_sem, Nat.reduceAdd, Nat.reduceMul, Nat.reduceSub, Nat.reduceEqDiff, Nat.reduceLeDiff, hg] | with_reducible refine guardQ_split (fun hg => ?_) (fun hg => ?_) <;> simp (maxSteps := 1000000) (disch := omega) only [go_sem, Nat.reduceAdd, Nat.reduceMul, Nat.reduceSub, Nat.reduceEqDiff, Nat.reduceLeDiff, hg] | with_reducible refine guardL_split (fun hg => ?_) (fun hg => ?_) <;> simp (maxSteps := 1000000) (disch := omega) only [go_sem, Nat.reduceAdd, Nat.reduceMul, Nat.reduceSub, Nat.reduceEqDiff, Nat.reduceLeDiff, hg]) | ((first | with_reducible refine condK_dec (fun hg => ?_) (fun hg => ?_) | with_reducible refine condK_ndec (fun hg => ?_) (fun hg => ?_) | with_reducible refine condK_nb (fun hg => ?_) (fun hg => ?_) | refine condK_b (fun hg => ?_) (fun hg => ?_)) <;> simp (maxSteps := 1000000) (disch := omega) only [go_sem, Nat.reduceAdd, Nat.reduceMul, Nat.reduceSub, Nat.reduceEqDiff, Nat.reduceLeDiff]))
    all_goals first
      | exact ⟨i + 1, ys.set i (max (nth a i) (nth b i)), ⟨⟨h, by simp [hl], nx _ rfl, all_step hok fun h2 => by omega⟩, by omega⟩, by omega, HLe.refl _⟩
      | (exact ⟨[], hle_nil _, fun h2 => (by rw [no ⟨by omega, by omega, by omega⟩] at h2; cases h2), fun _ => ⟨rfl, rfl⟩⟩)
  · simp (maxSteps := 1000000) (disch := omega) only [go_sem, Nat.reduceAdd, Nat.reduceMul, Nat.reduceSub, Nat.reduceEqDiff, Nat.reduceLeDiff]
    have hb1 : bothOk a b = true := by simp only [bothOk, decide_eq_true_eq]; exact fun j hj => hok j (by omega)
    have : ys = bothG a b := ext_nth (by rw [hl, bothG_length]) fun j hj => by rw [hall j (by omega), bothG_nth (by omega)]
    subst this
    exact ⟨_, HLe.refl _, fun _ => ⟨g, rfl, rfl⟩, fun h2 => (by rw [hb1] at h2; cases h2)⟩
theorem bothOk_game {q : Gam} (h : gameOk q) : bothOk q.task.given q.put = true := by
  simp only [bothOk, decide_eq_true_eq]
  rintro i hi ⟨h1, h2, h3⟩
  by_cases hi2 : i < q.put.length
  · have := (h.2.2 i (mem_filledAt.2 ⟨by omega, by omega, h2⟩)).2
    omega
  · have : nth q.put i = 0 := by simp [nth, List.getD, List.getElem?_eq_none (Nat.le_of_not_lt hi2)]
    omega
theorem gameValid_facts {q : Gam} (h : gameValid q = true) : puzzleValid q.task = true ∧ gridValid q.put q.task.size = true ∧ q.moves.length ≤ 40 ∧ gameOk q ∧ q.put.length = q.task.given.length ∧ q.put.length ≤ 16 := by
  simp only [gameValid, Bool.and_eq_true, decide_eq_true_eq] at h
  obtain ⟨h1, h2, h3, h4⟩ := h
  have a1 := gridValid_bound h2
  have a2 := gridValid_bound (puzzleValid_grid h1)
  exact ⟨h1, h2, h3, h4, by have := a1.2.2.1; have := a2.2.2.1; omega, a1.2.2.2.1⟩
def gameGrid (q : Gam) : List Int := if gameValid q then bothG q.task.given q.put else []
theorem gameGrid_length {q : Gam} (h : gameValid q = true) : (gameGrid q).length = q.task.given.length := by simp [gameGrid, h, bothG_length]
theorem GameGrid_own (q : Gam) (hx : smG q) : RunCall Try.prog 17 [aG q] [] (ownIQ (gameGrid q)) := by
  refine RunCall.nz ?_
  refine RunCall.cw (c := _) Try.func17 rfl (n := 18) Try.ntmps17 (rs := [.tmp 2]) rfl ?_
  simp only [List.length_cons, List.length_nil, Nat.reduceAdd, Nat.reduceSub, List.replicate, List.cons_append, List.nil_append]
  simp (maxSteps := 1000000) (disch := omega) only [go_sem, Nat.reduceAdd, Nat.reduceMul, Nat.reduceSub, Nat.reduceEqDiff, Nat.reduceLeDiff]
  intro g
  first | refine OpS.rd (GameValid_run q hx) (⟨_, Try.func38, rfl, rfl⟩ : Enters Try.prog 38) rfl rfl rfl rfl ?_ | refine Loud.rd (GameValid_run q hx) (⟨_, Try.func38, rfl, rfl⟩ : Enters Try.prog 38) rfl rfl rfl rfl ?_
  simp (maxSteps := 1000000) (disch := omega) only [go_sem, Nat.reduceAdd, Nat.reduceMul, Nat.reduceSub, Nat.reduceEqDiff, Nat.reduceLeDiff]
  (first | with_reducible refine condK_dec (fun h => ?_) (fun h => ?_) | with_reducible refine condK_ndec (fun h => ?_) (fun h => ?_) | with_reducible refine condK_nb (fun h => ?_) (fun h => ?_) | refine condK_b (fun h => ?_) (fun h => ?_))
  · obtain ⟨h1, h2, h3, h4, h5, h6⟩ := gameValid_facts h
    have hl := gameGrid_length h
    have hg : gameGrid q = bothG q.task.given q.put := by simp [gameGrid, h]
    simp (maxSteps := 1000000) (disch := omega) only [go_sem, Nat.reduceAdd, Nat.reduceMul, Nat.reduceSub, Nat.reduceEqDiff, Nat.reduceLeDiff]
    refine OpS.mkQ (bothGrids_run q.task.given q.put hx.1.1 h5.symm) (⟨_, Try.func51, rfl, rfl⟩ : Enters Try.prog 51) rfl rfl rfl ?_
    rintro _ _ ⟨hy, hn⟩
    obtain ⟨g2, rfl, rfl⟩ := hy (bothOk_game h4)
    refine ⟨rfl, ?_⟩
    simp (maxSteps := 1000000) (disch := omega) only [go_sem, Nat.reduceAdd, Nat.reduceMul, Nat.reduceSub, Nat.reduceEqDiff, Nat.reduceLeDiff]
    rw [← hl, ← hg]
    exact ⟨_, hle_none _ _ _ (HLe.refl _), _, _, rfl, OwnI.o 1 g2 none _ [] (by rw [List.append_nil]; simp only [go_sem]), scalH_none (scalH_ints scal_none)⟩
  · simp (maxSteps := 1000000) (disch := omega) only [go_sem, Nat.reduceAdd, Nat.reduceMul, Nat.reduceSub, Nat.reduceEqDiff, Nat.reduceLeDiff]
    have hg : gameGrid q = [] := by simp [gameGrid, h]
    rw [hg]
    exact ⟨[], hle_nil _, _, _, rfl, ownI_nil, scal_none⟩
theorem sGameGrid_own (q : Gam) (hx : smG q) : RunCall Try.prog 15 [aG q] [] (ownIQ (gameGrid q)) := by
  refine RunCall.nz ?_
  refine RunCall.cw (c := _) Try.func15 rfl (n := 34) Try.ntmps15 (rs := [.tmp 2]) rfl ?_
  simp only [List.length_cons, List.length_nil, Nat.reduceAdd, Nat.reduceSub, List.replicate, List.cons_append, List.nil_append]
  simp (maxSteps := 1000000) (disch := omega) only [go_sem, Nat.reduceAdd, Nat.reduceMul, Nat.reduceSub, Nat.reduceEqDiff, Nat.reduceLeDiff]
  intro g
  first | refine OpS.rd (sGameValid_run q hx) (⟨_, Try.func41, rfl, rfl⟩ : Enters Try.prog 41) rfl rfl rfl rfl ?_ | refine Loud.rd (sGameValid_run q hx) (⟨_, Try.func41, rfl, rfl⟩ : Enters Try.prog 41) rfl rfl rfl rfl ?_
  simp (maxSteps := 1000000) (disch := omega) only [go_sem, Nat.reduceAdd, Nat.reduceMul, Nat.reduceSub, Nat.reduceEqDiff, Nat.reduceLeDiff]
  (first | with_reducible refine condK_dec (fun h => ?_) (fun h => ?_) | with_reducible refine condK_ndec (fun h => ?_) (fun h => ?_) | with_reducible refine condK_nb (fun h => ?_) (fun h => ?_) | refine condK_b (fun h => ?_) (fun h => ?_))
  · obtain ⟨h1, h2, h3, h4, h5, h6⟩ := gameValid_facts h
    have hl := gameGrid_length h
    have hg : gameGrid q = bothG q.task.given q.put := by simp [gameGrid, h]
    have hb1 := gridValid_bound h2
    have hb2 := gridValid_bound (puzzleValid_grid h1)
    have hsq := sq_bound ⟨hb1.1, hb1.2.1⟩
    have hpos : q.put.length ≠ 0 := by omega
    simp (maxSteps := 1000000) (disch := omega) only [go_sem, Nat.reduceAdd, Nat.reduceMul, Nat.reduceSub, Nat.reduceEqDiff, Nat.reduceLeDiff]
    intro g2 g3
    have hgv : ∀ j : Nat, j < q.put.length → nth q.put j + nth q.task.given j = max (nth q.task.given j) (nth q.put j) ∧ 0 ≤ nth q.put j ∧ nth q.put j ≤ 4 ∧ 0 ≤ nth q.task.given j ∧ nth q.task.given j ≤ 4 := fun j hj => by
      have := hb1.2.2.2.2 j hj
      have := hb2.2.2.2.2 j (by omega)
      by_cases hp : 0 < nth q.put j
      · have := (h4.2.2 j (mem_filledAt.2 ⟨by omega, by omega, hp⟩)).2
        omega
      · omega
    refine loop_rule2 (fun (i : Nat) (ys : List Int) => q.put.length - i) (fun i ys => i ≤ q.put.length ∧ ys.length = q.put.length ∧ (∀ j : Nat, j < i → nth ys j = max (nth q.task.given j) (nth q.put j)) ∧ ∀ j : Nat, i ≤ j → nth ys j = nth q.put j) (fun i _ => [.a, .k, .a, .k, .p (int i), .a, .a, .a, .a, .a, .a, .a, .a, .a, .a, .a, .a, .a, .a, .a, .a, .a, .a, .a, .a, .a, .a, .a, .a, .a, .a, .a, .a, .a]) (fun _ ys => [some ⟨g, 1, cG q⟩, some ⟨g3, 1, cl (eI .i64) ys⟩]) 0 q.put
      ⟨Nat.zero_le _, rfl, fun j hj => absurd hj (Nat.not_lt_zero _), fun j hj => rfl⟩ (by simp (maxSteps := 1000000) (disch := omega) only [go_sem, Nat.reduceAdd, Nat.reduceMul, Nat.reduceSub, Nat.reduceEqDiff, Nat.reduceLeDiff]; rfl) (HLe.refl _) ?_
    rintro i ys ⟨hi, hl2, hall, hkeep⟩
    simp (maxSteps := 1000000) (disch := omega) only [go_sem, Nat.reduceAdd, Nat.reduceMul, Nat.reduceSub, Nat.reduceEqDiff, Nat.reduceLeDiff]
    (first | with_reducible refine condK_dec (fun hi2 => ?_) (fun hi2 => ?_) | with_reducible refine condK_ndec (fun hi2 => ?_) (fun hi2 => ?_) | with_reducible refine condK_nb (fun hi2 => ?_) (fun hi2 => ?_) | refine condK_b (fun hi2 => ?_) (fun hi2 => ?_))
    · have hi2 : i < q.put.length := by omega
      have hki := hkeep i (Nat.le_refl _)
      have hgi := hgv i hi2
      simp (maxSteps := 1000000) (disch := omega) only [go_sem, Nat.reduceAdd, Nat.reduceMul, Nat.reduceSub, Nat.reduceEqDiff, Nat.reduceLeDiff]
      refine drawP_lF [0, 1, 2, 3, 4, 5, 6, 7, 8, 9, 10, 11, 12] [] none [13, 14] [] foll (by kernel_rfl) ?_
      simp (maxSteps := 1000000) (disch := omega) only [go_sem, Nat.reduceBEq, Bool.true_or, Nat.reduceAdd, Nat.reduceMul, Nat.reduceSub, Nat.reduceEqDiff, Nat.reduceLeDiff]
      refine ⟨i + 1, ys.set i (nth ys i + nth q.task.given i), ⟨⟨hi2, by simp [hl2], fun j hj => ?_, fun j hj => ?_⟩, by omega⟩, by omega, HLe.refl _⟩
      · rw [nth_set _ _ _ _ (by omega) (by omega)]
        split
        · rename_i he
          rw [he, hki]; exact hgi.1
        · exact hall j (by omega)
      · rw [nth_set _ _ _ _ (by omega) (by omega), if_neg (by omega)]
        exact hkeep j (by omega)
    · simp (maxSteps := 1000000) (disch := omega) only [go_sem, Nat.reduceAdd, Nat.reduceMul, Nat.reduceSub, Nat.reduceEqDiff, Nat.reduceLeDiff]
      have : ys = gameGrid q := ext_nth (by rw [hl2, hl]; exact h5) fun j hj => by rw [hall j (by omega), hg, bothG_nth (by omega)]
      subst this
      rw [h5, ← hl, Nat.zero_add]
      exact ⟨[none, some ⟨g3, 1, cl (eI .i64) (gameGrid q)⟩], hle_none _ _ _ (HLe.refl _), _, _, rfl, OwnI.o 1 g3 none _ [] (by rw [List.append_nil]; exact look_of (H := [none, some ⟨g3, 1, cl (eI .i64) (gameGrid q)⟩]) (id := 1) (b := ⟨g3, 1, cl (eI .i64) (gameGrid q)⟩) rfl), scalH_none (scalH_ints scal_none)⟩
  · simp (maxSteps := 1000000) (disch := omega) only [go_sem, Nat.reduceAdd, Nat.reduceMul, Nat.reduceSub, Nat.reduceEqDiff, Nat.reduceLeDiff]
    have hg : gameGrid q = [] := by simp [gameGrid, h]
    rw [hg]
    intro g2
    exact ⟨[none, some ⟨g2, 1, []⟩], hle_none _ _ _ (HLe.refl _), _, _, rfl, OwnI.o 1 g2 none [] [] (by simp only [go_sem]; rfl), scalH_none (scalH_ints (xs := []) scal_none)⟩
theorem wM_small {rs : List Rul} : wM rs ≤ 2 * wRs rs := wM_le rs
theorem wMG_small (q : Gam) : wMG q ≤ 2 * wG q := by
  have := wM_le q.task.rules
  unfold wMG wG wMP wP
  omega
set_option maxHeartbeats 2000000 in
theorem law_GameGrid (q : Gam) (h1 : okG q) : Reads Try.prog 3 [aG q] (bool true) := by
  refine RunCall.cw (c := _) Try.func3 rfl (n := 69) Try.ntmps3 (rs := [.tmp 2]) rfl ?_
  simp only [List.length_cons, List.length_nil, Nat.reduceAdd, Nat.reduceSub, List.replicate, List.cons_append, List.nil_append]
  simp (maxSteps := 1000000) (disch := omega) only [go_sem, Nat.reduceAdd, Nat.reduceMul, Nat.reduceSub, Nat.reduceEqDiff, Nat.reduceLeDiff]
  intro g
  first | refine OpS.rd (szGame_run q 1048576 (by omega) h1) (⟨_, Try.func14, rfl, rfl⟩ : Enters Try.prog 14) rfl rfl rfl rfl ?_ | refine Loud.rd (szGame_run q 1048576 (by omega) h1) (⟨_, Try.func14, rfl, rfl⟩ : Enters Try.prog 14) rfl rfl rfl rfl ?_
  simp (maxSteps := 1000000) (disch := omega) only [go_sem, Nat.reduceAdd, Nat.reduceMul, Nat.reduceSub, Nat.reduceEqDiff, Nat.reduceLeDiff]
  (first | with_reducible refine condK_dec (fun h => ?_) (fun h => ?_) | with_reducible refine condK_ndec (fun h => ?_) (fun h => ?_) | with_reducible refine condK_nb (fun h => ?_) (fun h => ?_) | refine condK_b (fun h => ?_) (fun h => ?_))
  · simp (maxSteps := 1000000) (disch := omega) only [go_sem, Nat.reduceAdd, Nat.reduceMul, Nat.reduceSub, Nat.reduceEqDiff, Nat.reduceLeDiff]
  obtain ⟨hw, _⟩ := szI_ok h
  have hs : smG q := smG_of (n := 1048576) (by omega) (by omega)
  have hwm := wMG_small q
  have hgl : (gameGrid q).length ≤ 2 ^ 40 := by
    unfold gameGrid
    split
    · rw [bothG_length]; exact hs.1.1
    · simp
  simp (maxSteps := 1000000) (disch := omega) only [go_sem, Nat.reduceAdd, Nat.reduceMul, Nat.reduceSub, Nat.reduceEqDiff, Nat.reduceLeDiff]
  first | refine OpS.mk (toGame_run q hs) (⟨_, Try.func16, rfl, rfl⟩ : Enters Try.prog 16) rfl rfl rfl rfl rfl ?_ | refine Loud.mk (toGame_run q hs) (⟨_, Try.func16, rfl, rfl⟩ : Enters Try.prog 16) rfl rfl rfl rfl rfl ?_
  simp (maxSteps := 1000000) (disch := omega) only [go_sem, Nat.reduceAdd, Nat.reduceMul, Nat.reduceSub, Nat.reduceEqDiff, Nat.reduceLeDiff]
  first | refine OpS.mk (Reads.ownI (sGameGrid_own q hs)) (⟨_, Try.func15, rfl, rfl⟩ : Enters Try.prog 15) rfl rfl rfl rfl rfl ?_ | refine Loud.mk (Reads.ownI (sGameGrid_own q hs)) (⟨_, Try.func15, rfl, rfl⟩ : Enters Try.prog 15) rfl rfl rfl rfl rfl ?_
  simp (maxSteps := 1000000) (disch := omega) only [go_sem, Nat.reduceAdd, Nat.reduceMul, Nat.reduceSub, Nat.reduceEqDiff, Nat.reduceLeDiff]
  refine OpS.mkG (toGame_deep q hs) (⟨_, Try.func16, rfl, rfl⟩ : Enters Try.prog 16) rfl rfl rfl ?_
  intro cs H1 S1 hG1 hS1
  simp only [List.length_cons, List.length_nil] at hS1
  obtain ⟨c1, c2, c3, c4, T1, T2, T3, T4, rfl, eS, k1, k2, k3, k4⟩ := hG1.ex
  simp (maxSteps := 1000000) (disch := omega) only [go_sem, Nat.reduceAdd, Nat.reduceMul, Nat.reduceSub, Nat.reduceEqDiff, Nat.reduceLeDiff, look_last, set_last]
  intro g2
  refine OpS.mkDI (GameGrid_own q hs) (⟨_, Try.func17, rfl, rfl⟩ : Enters Try.prog 17) rfl rfl (by
    have := (hG1.app (H' := [some ⟨g2, 5, [.f (.int .i64 q.task.size), c1, c2, c3, c4]⟩])).snap
    simp only [List.mapM_cons, List.mapM_nil, Option.pure_def, Option.bind_eq_bind]
    exact (congrArg (fun x => x.bind fun a => some [a]) this)) ?_
  intro c H2 S2 hI hS2
  simp only [List.length_cons, List.length_append, List.length_nil] at hS2
  simp (maxSteps := 1000000) (disch := omega) only [go_sem, Nat.reduceAdd, Nat.reduceMul, Nat.reduceSub, Nat.reduceEqDiff, Nat.reduceLeDiff]
  refine OpS.rdD (eqIntS_run (gameGrid q) (gameGrid q) hgl) (⟨_, Try.func18, rfl, rfl⟩ : Enters Try.prog 18) rfl rfl (snap_two hI.snap snapD_ints) rfl ?_
  simp (maxSteps := 1000000) (disch := omega) only [go_sem, Nat.reduceAdd, Nat.reduceMul, Nat.reduceSub, Nat.reduceEqDiff, Nat.reduceLeDiff]
  refine drawP_lF [0, 1, 2] [] none [3, 4] [] foll (by kernel_rfl) ?_
  simp (maxSteps := 1000000) (disch := omega) only [go_sem, Nat.reduceBEq, Bool.true_or, Nat.reduceAdd, Nat.reduceMul, Nat.reduceSub, Nat.reduceEqDiff, Nat.reduceLeDiff]
  rw [look_app_lt (by simp), look_last]
  simp (maxSteps := 1000000) (disch := omega) only [go_sem, Nat.reduceAdd, Nat.reduceMul, Nat.reduceSub, Nat.reduceEqDiff, Nat.reduceLeDiff]
  refine Loud.mk (toGame_run q hs) (⟨_, Try.func16, rfl, rfl⟩ : Enters Try.prog 16) rfl rfl rfl rfl rfl ?_
  simp (maxSteps := 1000000) (disch := omega) only [go_sem, Nat.reduceAdd, Nat.reduceMul, Nat.reduceSub, Nat.reduceEqDiff, Nat.reduceLeDiff]
  have hG2 : OwnG (some ⟨g, 1, cG q⟩ :: (H1 ++ [some ⟨g2, 5, [.f (.int .i64 q.task.size), c1, c2, c3, c4]⟩] ++ H2)) [.f (.int .i64 q.task.size), c1, c2, c3, c4] q S1 := (hG1.app (H' := [some ⟨g2, 5, [.f (.int .i64 q.task.size), c1, c2, c3, c4]⟩])).app (H' := H2)
  refine OpS.rdD (eqGame_run q q hs) (⟨_, Try.func19, rfl, rfl⟩ : Enters Try.prog 19) rfl rfl (snap_two hG2.snap snapD_aG) rfl ?_
  simp (maxSteps := 1000000) (disch := omega) only [go_sem, Nat.reduceAdd, Nat.reduceMul, Nat.reduceSub, Nat.reduceEqDiff, Nat.reduceLeDiff]
  rw [look_app_lt (by simp), look_last]
  simp (maxSteps := 1000000) (disch := omega) only [go_sem, Nat.reduceAdd, Nat.reduceMul, Nat.reduceSub, Nat.reduceEqDiff, Nat.reduceLeDiff]
  refine OpS.run (markGame_deep _ _ q S1 1 hG2 (by omega) hs) (⟨_, Try.func20, rfl, rfl⟩ : Enters Try.prog 20) rfl rfl ?_
  rintro _ H3 ⟨rfl, hq1, f3⟩
  have hI3 := hI.frm f3 fun i hi hm => by
    have := hS2 i hi
    have := hS1 i hm
    omega
  have hb3 : look H3 0 g = some ⟨g, 1, cG q⟩ := by
    rw [f3.look fun hm => by have := hS1 0 hm; omega]
    exact look_zero
  simp (maxSteps := 1000000) (disch := omega) only [go_sem, lt_no, lt_yes, le_no, le_yes, eq_no, eq_yes, Nat.reduceAdd, Nat.reduceMul, Nat.reduceSub, Nat.reduceEqDiff, Nat.reduceLeDiff]
  refine OpS.rdD (eqIntS_run (gameGrid q) (gameGrid q) hgl) (⟨_, Try.func18, rfl, rfl⟩ : Enters Try.prog 18) rfl rfl (snap_two hI3.snap snapD_ints) rfl ?_
  simp (maxSteps := 1000000) (disch := omega) only [go_sem, Nat.reduceAdd, Nat.reduceMul, Nat.reduceSub, Nat.reduceEqDiff, Nat.reduceLeDiff]
  refine OpS.run (markIntS_deep H3 c (gameGrid q) S2 1 hI3 (by omega) hgl) (⟨_, Try.func21, rfl, rfl⟩ : Enters Try.prog 21) rfl rfl ?_
  rintro _ H4 ⟨rfl, hI4, f4⟩
  have hb4 : look H4 0 g = some ⟨g, 1, cG q⟩ := by
    rw [f4.look fun hm => by have := hS2 0 hm; omega]
    exact hb3
  simp (maxSteps := 1000000) (disch := omega) only [go_sem, Nat.reduceAdd, Nat.reduceMul, Nat.reduceSub, Nat.reduceEqDiff, Nat.reduceLeDiff]
  refine OpS.rdD (heldIntS_run (gameGrid q).length 1 (by omega) (by omega)) (⟨_, Try.func22, rfl, rfl⟩ : Enters Try.prog 22) rfl rfl (snap_two hI4.snap snapD_int) rfl ?_
  simp (maxSteps := 1000000) (disch := omega) only [go_sem, lt_no, lt_yes, le_no, le_yes, eq_no, eq_yes, Nat.reduceAdd, Nat.reduceMul, Nat.reduceSub, Nat.reduceEqDiff, Nat.reduceLeDiff]
  rw [hb4]
  simp (maxSteps := 1000000) (disch := omega) only [go_sem, Nat.reduceAdd, Nat.reduceMul, Nat.reduceSub, Nat.reduceEqDiff, Nat.reduceLeDiff]
  first | refine OpS.mk (toGame_run q hs) (⟨_, Try.func16, rfl, rfl⟩ : Enters Try.prog 16) rfl rfl rfl rfl rfl ?_ | refine Loud.mk (toGame_run q hs) (⟨_, Try.func16, rfl, rfl⟩ : Enters Try.prog 16) rfl rfl rfl rfl rfl ?_
  simp (maxSteps := 1000000) (disch := omega) only [go_sem, Nat.reduceAdd, Nat.reduceMul, Nat.reduceSub, Nat.reduceEqDiff, Nat.reduceLeDiff]
  first | refine OpS.mk (Reads.ownI (GameGrid_own q hs)) (⟨_, Try.func17, rfl, rfl⟩ : Enters Try.prog 17) rfl rfl rfl rfl rfl ?_ | refine Loud.mk (Reads.ownI (GameGrid_own q hs)) (⟨_, Try.func17, rfl, rfl⟩ : Enters Try.prog 17) rfl rfl rfl rfl rfl ?_
  simp (maxSteps := 1000000) (disch := omega) only [go_sem, Nat.reduceAdd, Nat.reduceMul, Nat.reduceSub, Nat.reduceEqDiff, Nat.reduceLeDiff]
  first | refine OpS.rd (eqIntS_run (gameGrid q) (gameGrid q) hgl) (⟨_, Try.func18, rfl, rfl⟩ : Enters Try.prog 18) rfl rfl rfl rfl ?_ | refine Loud.rd (eqIntS_run (gameGrid q) (gameGrid q) hgl) (⟨_, Try.func18, rfl, rfl⟩ : Enters Try.prog 18) rfl rfl rfl rfl ?_
  simp (maxSteps := 1000000) (disch := omega) only [go_sem, Nat.reduceAdd, Nat.reduceMul, Nat.reduceSub, Nat.reduceEqDiff, Nat.reduceLeDiff]
  refine OpS.rdD (heldIntS_run (gameGrid q).length 1 (by omega) (by omega)) (⟨_, Try.func22, rfl, rfl⟩ : Enters Try.prog 22) rfl rfl (snap_two hI4.snap snapD_int) rfl ?_
  simp (maxSteps := 1000000) (disch := omega) only [go_sem, lt_no, lt_yes, le_no, le_yes, eq_no, eq_yes, Nat.reduceAdd, Nat.reduceMul, Nat.reduceSub, Nat.reduceEqDiff, Nat.reduceLeDiff]
end Go.Lg
