/- GpKB, GpKC, cut to what is needed. -/
import Derived.Test.YtabihehfemedcaaQec6
import Derived.Test.YtabihehfemedcaaQec1
import Derived.Test.YtabihehfemedcaaQeb5
set_option linter.unusedSimpArgs false
set_option linter.unusedVariables false
set_option maxRecDepth 100000
namespace Go.Lg
open Go.Proofs
theorem regC_mem {rs : List Int} {a c : Int} : ∀ {k : Nat}, k ≤ rs.length → c ∈ regC rs a k → ∃ i : Nat, i < k ∧ c = i ∧ nth rs i = a
  | 0, _, h => by simp [regC] at h
  | k + 1, hk, h => by
    rw [regC_succ (by omega)] at h
    rcases List.mem_append.1 h with h | h
    · obtain ⟨i, h1, h2, h3⟩ := regC_mem (by omega) h
      exact ⟨i, by omega, h2, h3⟩
    · split at h
      · rename_i hc
        exact ⟨k, by omega, by simpa using h, hc⟩
      · cases h
theorem regC_nodup {rs : List Int} {a : Int} : ∀ {k : Nat}, k ≤ rs.length → (regC rs a k).Nodup
  | 0, _ => by simp [regC]
  | k + 1, hk => by
    rw [regC_succ (by omega), List.nodup_append]
    refine ⟨regC_nodup (by omega), by split <;> simp, fun x hx y hy => ?_⟩
    obtain ⟨i, h1, h2, _⟩ := regC_mem (by omega) hx
    split at hy
    · have hy : y = k := by simpa using hy
      omega
    · cases hy
theorem cellsOk_of {cs : List Int} {n : Int} (hb : ∀ c ∈ cs, 0 ≤ c ∧ c < n * n) (hd : cs.Nodup) : cellsOk cs n cs.length := by
  intro j hj
  refine ⟨hb _ (nth_mem hj), fun l hl => ?_⟩
  have h := List.pairwise_iff_getElem.1 hd l j (by omega) hj hl
  rw [nth_eq (by omega), nth_eq (by omega)]
  exact h
def cageR (xs rs : List Int) (pr : Bool) (i : Nat) : Rul := if pr = true then ⟨3, regC rs i rs.length, prodV ((regC rs i rs.length).map (nth xs))⟩ else ⟨2, regC rs i rs.length, ((regC rs i rs.length).map (nth xs)).sum⟩
def cageL (xs rs : List Int) (pr : Bool) (k : Nat) : List Rul := (List.range k).flatMap fun (i : Nat) => if (regC rs i rs.length).length = 0 then [] else [cageR xs rs pr i]
def cageOk (rs : List Int) (n : Int) : Bool := decide (∀ i : Nat, i < n.toNat → (regC rs i rs.length).length ≤ 4)
def cageT (xs : List Int) (n : Int) (rs : List Int) : Bool := solvedS xs n && (regsOk rs n && cageOk rs n)
def cageV (xs : List Int) (n : Int) (rs : List Int) (pr : Bool) : List Rul := if cageT xs n rs = true then cageL xs rs pr n.toNat else []
theorem cageL_succ (xs rs : List Int) (pr : Bool) (k : Nat) : cageL xs rs pr (k + 1) = cageL xs rs pr k ++ if (regC rs k rs.length).length = 0 then [] else [cageR xs rs pr k] := by
  unfold cageL
  rw [List.range_succ, List.flatMap_append]
  simp
theorem cageL_len (xs rs : List Int) (pr : Bool) : ∀ k : Nat, (cageL xs rs pr k).length ≤ k
  | 0 => by simp [cageL]
  | k + 1 => by
    have := cageL_len xs rs pr k
    rw [cageL_succ, List.length_append]
    split <;> simp <;> omega
theorem cageR_cells (xs rs : List Int) (pr : Bool) (i : Nat) : (cageR xs rs pr i).cells = regC rs i rs.length := by unfold cageR; split <;> rfl
theorem cageR_kind (xs rs : List Int) (pr : Bool) (i : Nat) : (cageR xs rs pr i).kind = if pr = true then 3 else 2 := by unfold cageR; split <;> rfl
theorem cageR_val (xs rs : List Int) (pr : Bool) (i : Nat) : (cageR xs rs pr i).val = if pr = true then prodV ((regC rs i rs.length).map (nth xs)) else ((regC rs i rs.length).map (nth xs)).sum := by unfold cageR; split <;> rfl
theorem sum_pos {n : Int} (hn : 1 ≤ n) : ∀ (vs : List Int), (∀ v ∈ vs, 1 ≤ v ∧ v ≤ n) → (vs.length : Int) ≤ vs.sum ∧ vs.sum ≤ n * vs.length
  | [], _ => by simp
  | v :: vs, h => by
    have h1 := sum_pos hn vs fun x hx => h x (by simp [hx])
    have h2 := h v (by simp)
    simp only [List.sum_cons, List.length_cons]
    push_cast
    rw [Int.mul_add, Int.mul_one]
    omega
theorem prod_pos {n : Int} (hn : 1 ≤ n) (vs : List Int) : (∀ v ∈ vs, 1 ≤ v ∧ v ≤ n) → 1 ≤ prodV vs ∧ prodV vs ≤ n ^ vs.length := by
  induction hk : vs.length generalizing vs with
  | zero => intro _; have : vs = [] := List.eq_nil_of_length_eq_zero hk; subst this; simp [prodV]
  | succ k ih =>
    intro h
    rcases List.eq_nil_or_concat vs with rfl | ⟨ws, w, rfl⟩
    · simp at hk
    · have hw := h w (by simp)
      obtain ⟨h1, h2⟩ := ih ws (by simp at hk; omega) fun v hv => h v (by simp [hv])
      rw [List.concat_eq_append, prodV_app, Int.pow_succ]
      refine ⟨?_, Int.mul_le_mul h2 hw.2 (by omega) (Int.le_trans (by omega) h2)⟩
      have := Int.mul_le_mul h1 hw.1 (by omega) (by omega)
      simpa using this
theorem pow_four {n : Int} (hn : 2 ≤ n ∧ n ≤ 4) {k : Nat} (hk : k ≤ 4) : n ^ k ≤ n * n * n * n := by
  have h1 : n = 2 ∨ n = 3 ∨ n = 4 := by omega
  have h2 : k = 0 ∨ k = 1 ∨ k = 2 ∨ k = 3 ∨ k = 4 := by omega
  rcases h1 with rfl | rfl | rfl <;> rcases h2 with rfl | rfl | rfl | rfl | rfl <;> decide
theorem cage_facts {xs rs : List Int} {z : Int} (h : cageT xs z rs = true) : ∃ n : Nat, z = n ∧ (n = 2 ∨ n = 3 ∨ n = 4) ∧ Full n xs ∧ NC xs n ∧ rs.length = n * n ∧ (∀ k : Nat, k < rs.length → 0 ≤ nth rs k ∧ nth rs k < n) ∧ ∀ i : Nat, i < n → (regC rs i rs.length).length ≤ 4 := by
  simp only [cageT, Bool.and_eq_true] at h
  obtain ⟨h1, h2, h3⟩ := h
  obtain ⟨n, rfl, hn, hf, hc⟩ := solvedS_full h1
  simp only [regsOk, decide_eq_true_eq] at h2
  simp only [cageOk, decide_eq_true_eq, Int.toNat_natCast] at h3
  exact ⟨n, rfl, hn, hf, hc, by exact_mod_cast h2.2.2.2, fun k hk => by have := h2.1 k hk; omega, h3⟩
theorem cage_vals {xs rs : List Int} {n : Nat} (hf : Full n xs) (hl : rs.length = n * n) (a : Int) : ∀ v ∈ (regC rs a rs.length).map (nth xs), 1 ≤ v ∧ v ≤ n := by
  intro v hv
  obtain ⟨c, hc, rfl⟩ := List.mem_map.1 hv
  obtain ⟨i, hi, rfl, _⟩ := regC_mem (Nat.le_refl _) hc
  have := hf.2 i (by omega)
  have := hf.1.val i (by rw [hf.1.len]; omega)
  omega
theorem cage_holds {xs rs : List Int} {z : Int} {pr : Bool} (h : cageT xs z rs = true) : ∀ r ∈ cageV xs z rs pr, ruleHolds r xs z = true := by
  intro r hr
  unfold cageV at hr
  rw [if_pos h] at hr
  obtain ⟨n, rfl, hn, hf, hc, hl, hv, h4⟩ := cage_facts h
  obtain ⟨i, hi, hr⟩ := List.mem_flatMap.1 hr
  have hi : i < n := by simpa using hi
  split at hr
  · cases hr
  rename_i h0
  have hr : r = cageR xs rs pr i := by simpa using hr
  subst hr
  have h4 := h4 i hi
  have hvs := cage_vals hf hl i
  have hcs : ∀ c ∈ regC rs i rs.length, ∃ j : Nat, j < n * n ∧ c = j := fun c hc => by
    obtain ⟨j, hj, e, _⟩ := regC_mem (Nat.le_refl _) hc
    exact ⟨j, by omega, e⟩
  have hcell : cellsOk (regC rs i rs.length) n (regC rs i rs.length).length := cellsOk_of (fun c hc => by
    obtain ⟨j, hj, rfl⟩ := hcs c hc
    have : (j : Int) < n * n := by exact_mod_cast hj
    omega) (regC_nodup (Nat.le_refl _))
  have hn2 : 2 ≤ (n : Int) ∧ (n : Int) ≤ 4 := by omega
  have hs := sum_pos (by omega) _ hvs
  have hp := prod_pos (by omega) _ hvs
  rw [List.length_map] at hs hp
  have hpw := pow_four hn2 h4
  have hcu := cu_bound hn2
  have hsm : (n : Int) * (regC rs i rs.length).length ≤ n * n * n * n := by
    have : (n : Int) * ((regC rs i rs.length).length : Int) ≤ n * 4 := Int.mul_le_mul_of_nonneg_left (by omega) (by omega)
    omega
  have hval : ruleValid (cageR xs rs pr i) n = true := by
    have hc2 : cellsOk (cageR xs rs pr i).cells n (cageR xs rs pr i).cells.length := by rw [cageR_cells]; exact hcell
    rw [cellsOk_yes hn2 hc2]
    refine decide_eq_true (.inr (.inl ?_))
    rw [cageR_cells, cageR_kind, cageR_val]
    cases pr
    · refine ⟨.inl rfl, by omega, by omega, ?_, ?_⟩
      · show 1 ≤ ((regC rs i rs.length).map (nth xs)).sum
        omega
      · show ((regC rs i rs.length).map (nth xs)).sum ≤ _
        omega
    · refine ⟨.inr rfl, by omega, by omega, ?_, ?_⟩
      · show 1 ≤ prodV ((regC rs i rs.length).map (nth xs))
        omega
      · show prodV ((regC rs i rs.length).map (nth xs)) ≤ _
        omega
  unfold ruleHolds
  rw [hval, hf.1.valid hn, cageR_cells]
  have hall : (regC rs i rs.length).all (fun c => decide (nth xs c ≠ 0)) = true := by
    rw [List.all_eq_true]
    intro c hc
    have := hvs _ (List.mem_map_of_mem (f := nth xs) hc)
    exact decide_eq_true (by omega)
  rw [hall, Bool.true_and, Bool.true_and, Bool.true_and]
  unfold holdsV
  rw [cageR_kind, cageR_val]
  cases pr <;> simp
theorem sum_ite {m : Nat} {v : Int} : ∀ {n : Nat}, m < n → ((List.range n).map fun a : Nat => if (m : Int) = (a : Int) then v else 0).sum = v
  | 0, h => by omega
  | n + 1, h => by
    rw [List.range_succ, List.map_append, List.sum_append]
    simp only [List.map_cons, List.map_nil, List.sum_cons, List.sum_nil]
    by_cases hm : m = n
    · subst hm
      have hz : ∀ k : Nat, k ≤ m → ((List.range k).map fun a : Nat => if (m : Int) = (a : Int) then v else 0).sum = 0 := by
        intro k hk
        induction k with
        | zero => rfl
        | succ k ih =>
          rw [List.range_succ, List.map_append, List.sum_append, ih (by omega)]
          simp only [List.map_cons, List.map_nil, List.sum_cons, List.sum_nil]
          rw [if_neg (by omega)]
          rfl
      rw [hz m (Nat.le_refl _)]
      simp
    · rw [sum_ite (by omega), if_neg (by omega)]
      simp
theorem sum_add (f g : Nat → Int) : ∀ l : List Nat, (l.map fun a => f a + g a).sum = (l.map f).sum + (l.map g).sum
  | [] => rfl
  | a :: l => by simp only [List.map_cons, List.sum_cons]; rw [sum_add f g l]; omega
theorem sum_regions (f : Int → Int) {rs : List Int} {n : Nat} (hv : ∀ k : Nat, k < rs.length → 0 ≤ nth rs k ∧ nth rs k < n) : ∀ k : Nat, k ≤ rs.length → ((List.range n).map fun (a : Nat) => ((regC rs a k).map f).sum).sum = ((List.range k).map fun (i : Nat) => f i).sum
  | 0, _ => by
    have : ∀ l : List Nat, (l.map fun (a : Nat) => ((regC rs a 0).map f).sum).sum = 0 := by
      intro l
      induction l with
      | nil => rfl
      | cons a l ih => simp only [List.map_cons, List.sum_cons, ih]; simp [regC]
    rw [this]; rfl
  | k + 1, hk => by
    have h1 := sum_regions f hv k (by omega)
    obtain ⟨m, hm⟩ : ∃ m : Nat, nth rs k = m := ⟨(nth rs k).toNat, by have := hv k (by omega); omega⟩
    have hmn : m < n := by have := hv k (by omega); omega
    have e : (fun a : Nat => ((regC rs a (k + 1)).map f).sum) = fun a : Nat => ((regC rs a k).map f).sum + if (m : Int) = (a : Int) then f k else 0 := by
      funext a
      rw [regC_succ (by omega), List.map_append, List.sum_append, hm]
      split <;> simp
    rw [e, sum_add (fun a : Nat => ((regC rs a k).map f).sum) (fun a : Nat => if (m : Int) = (a : Int) then f k else 0), h1, sum_ite hmn, List.range_succ, List.map_append, List.sum_append]
    simp
theorem cageL_sum (g : Rul → Int) (xs rs : List Int) (pr : Bool) : ∀ k : Nat, ((cageL xs rs pr k).map g).sum = ((List.range k).map fun (i : Nat) => if (regC rs i rs.length).length = 0 then 0 else g (cageR xs rs pr i)).sum
  | 0 => by simp [cageL]
  | k + 1 => by
    rw [cageL_succ, List.map_append, List.sum_append, cageL_sum g xs rs pr k, List.range_succ, List.map_append, List.sum_append]
    congr 1
    simp only [List.map_cons, List.map_nil, List.sum_cons, List.sum_nil, Int.add_zero]
    split <;> simp
theorem sum_len (l : List Int) : (l.map fun _ : Int => (1 : Int)).sum = l.length := by
  induction l with
  | nil => rfl
  | cons a l ih => simp only [List.map_cons, List.sum_cons, ih, List.length_cons]; push_cast; omega
theorem cage_cells {xs rs : List Int} {z : Int} {pr : Bool} (h : cageT xs z rs = true) : ((cageV xs z rs pr).map fun r => (r.cells.length : Int)).sum = z * z := by
  unfold cageV
  rw [if_pos h]
  obtain ⟨n, rfl, hn, hf, hc, hl, hv, h4⟩ := cage_facts h
  rw [cageL_sum (fun r => (r.cells.length : Int)), Int.toNat_natCast]
  have e : (fun i : Nat => if (regC rs i rs.length).length = 0 then (0 : Int) else ((cageR xs rs pr i).cells.length : Int)) = fun i : Nat => ((regC rs i rs.length).map fun _ => (1 : Int)).sum := by
    funext i
    rw [sum_len, cageR_cells]
    split <;> omega
  rw [e, sum_regions (fun _ => 1) hv _ (Nat.le_refl _), hl]
  have : ∀ k : Nat, ((List.range k).map fun (_ : Nat) => (1 : Int)).sum = k := by
    intro k
    induction k with
    | zero => rfl
    | succ k ih => rw [List.range_succ, List.map_append, List.sum_append, ih]; simp
  rw [this]
  push_cast
  rfl
theorem row2 {a b : Int} (ha : 1 ≤ a ∧ a ≤ 2) (hb : 1 ≤ b ∧ b ≤ 2) (h1 : a ≠ b) : a + b = 3 := by omega
theorem row3 {a b c : Int} (ha : 1 ≤ a ∧ a ≤ 3) (hb : 1 ≤ b ∧ b ≤ 3) (hc : 1 ≤ c ∧ c ≤ 3) (h1 : a ≠ b) (h2 : a ≠ c) (h3 : b ≠ c) : a + (b + c) = 6 := by omega
theorem row4 {a b c d : Int} (ha : 1 ≤ a ∧ a ≤ 4) (hb : 1 ≤ b ∧ b ≤ 4) (hc : 1 ≤ c ∧ c ≤ 4) (hd : 1 ≤ d ∧ d ≤ 4) (h1 : a ≠ b) (h2 : a ≠ c) (h3 : a ≠ d) (h4 : b ≠ c) (h5 : b ≠ d) (h6 : c ≠ d) : a + (b + (c + d)) = 10 := by omega
theorem full_sum {xs : List Int} {n : Nat} (hn : n = 2 ∨ n = 3 ∨ n = 4) (hf : Full n xs) (hc : NC xs n) : ((List.range (n * n)).map fun (i : Nat) => nth xs i).sum = (n : Int) * n * (n + 1) / 2 := by
  have hb : ∀ k : Nat, k < n * n → 1 ≤ nth xs k ∧ nth xs k ≤ n := fun k hk => by
    have := hf.2 k hk
    have := hf.1.val k (by rw [hf.1.len]; exact hk)
    omega
  have hd : ∀ a b : Nat, a < b → b < n * n → a / n = b / n → nth xs a ≠ nth xs b := fun a b h1 h2 h3 => hc a b h1 h2 (.inl h3) (by have := hb a (by omega); omega)
  rcases hn with rfl | rfl | rfl
  · have r1 := row2 (hb 0 (by omega)) (hb 1 (by omega)) (hd 0 1 (by omega) (by omega) rfl)
    have r2 := row2 (hb 2 (by omega)) (hb 3 (by omega)) (hd 2 3 (by omega) (by omega) rfl)
    show nth xs (0 : Nat) + (nth xs (1 : Nat) + (nth xs (2 : Nat) + (nth xs (3 : Nat) + 0))) = 6
    omega
  · have r1 := row3 (hb 0 (by omega)) (hb 1 (by omega)) (hb 2 (by omega)) (hd 0 1 (by omega) (by omega) rfl) (hd 0 2 (by omega) (by omega) rfl) (hd 1 2 (by omega) (by omega) rfl)
    have r2 := row3 (hb 3 (by omega)) (hb 4 (by omega)) (hb 5 (by omega)) (hd 3 4 (by omega) (by omega) rfl) (hd 3 5 (by omega) (by omega) rfl) (hd 4 5 (by omega) (by omega) rfl)
    have r3 := row3 (hb 6 (by omega)) (hb 7 (by omega)) (hb 8 (by omega)) (hd 6 7 (by omega) (by omega) rfl) (hd 6 8 (by omega) (by omega) rfl) (hd 7 8 (by omega) (by omega) rfl)
    show nth xs (0 : Nat) + (nth xs (1 : Nat) + (nth xs (2 : Nat) + (nth xs (3 : Nat) + (nth xs (4 : Nat) + (nth xs (5 : Nat) + (nth xs (6 : Nat) + (nth xs (7 : Nat) + (nth xs (8 : Nat) + 0)))))))) = 18
    omega
  · have q : ∀ m : Nat, m < 4 → nth xs (4 * m : Nat) + (nth xs (4 * m + 1 : Nat) + (nth xs (4 * m + 2 : Nat) + nth xs (4 * m + 3 : Nat))) = 10 := fun m hm =>
      row4 (hb _ (by omega)) (hb _ (by omega)) (hb _ (by omega)) (hb _ (by omega)) (hd _ _ (by omega) (by omega) (by omega)) (hd _ _ (by omega) (by omega) (by omega)) (hd _ _ (by omega) (by omega) (by omega)) (hd _ _ (by omega) (by omega) (by omega)) (hd _ _ (by omega) (by omega) (by omega)) (hd _ _ (by omega) (by omega) (by omega))
    have q0 := q 0 (by omega)
    have q1 := q 1 (by omega)
    have q2 := q 2 (by omega)
    have q3 := q 3 (by omega)
    show nth xs (0 : Nat) + (nth xs (1 : Nat) + (nth xs (2 : Nat) + (nth xs (3 : Nat) + (nth xs (4 : Nat) + (nth xs (5 : Nat) + (nth xs (6 : Nat) + (nth xs (7 : Nat) + (nth xs (8 : Nat) + (nth xs (9 : Nat) + (nth xs (10 : Nat) + (nth xs (11 : Nat) + (nth xs (12 : Nat) + (nth xs (13 : Nat) + (nth xs (14 : Nat) + (nth xs (15 : Nat) + 0))))))))))))))) = 40
    simp only [Nat.mul_zero, Nat.zero_add, Nat.mul_one, Nat.reduceMul, Nat.reduceAdd] at q0 q1 q2 q3
    omega
theorem cage_sum {xs rs : List Int} {z : Int} (h : cageT xs z rs = true) : ((cageV xs z rs false).map fun r => r.val).sum = z * z * (z + 1) / 2 := by
  unfold cageV
  rw [if_pos h]
  obtain ⟨n, rfl, hn, hf, hc, hl, hv, h4⟩ := cage_facts h
  rw [cageL_sum (fun r => r.val), Int.toNat_natCast]
  have e : (fun i : Nat => if (regC rs i rs.length).length = 0 then (0 : Int) else (cageR xs rs false i).val) = fun i : Nat => ((regC rs i rs.length).map (nth xs)).sum := by
    funext i
    rw [cageR_val]
    split
    · rename_i h0
      rw [List.eq_nil_of_length_eq_zero h0]
      rfl
    · simp
  rw [e, sum_regions (nth xs) hv _ (Nat.le_refl _), hl, full_sum hn hf hc]
end Go.Lg

set_option linter.unusedSimpArgs false
set_option linter.unusedVariables false
set_option maxRecDepth 100000
namespace Go.Lg
open Go.Proofs
theorem SquareFits_gen (xs : List Int) (n : Int) (hx : xs.length ≤ 2 ^ 40) : Reads Try.prog 98 [ints xs, int n] (bool (gridValid xs n && !clash xs n.toNat)) := by
  cases h : gridValid xs n with
  | true =>
    have hb := gridValid_bound h
    obtain ⟨m, rfl⟩ : ∃ m : Nat, n = m := ⟨n.toNat, by omega⟩
    have hn : m = 2 ∨ m = 3 ∨ m = 4 := by omega
    have := SquareFits_run hn xs (GrdN.of hn h)
    rw [Int.toNat_natCast, Bool.true_and]
    exact this
  | false =>
    refine RunCall.cw (c := _) Try.func98 rfl (n := 47) Try.ntmps98 (rs := [.tmp 4]) rfl ?_
    simp only [List.length_cons, List.length_nil, Nat.reduceAdd, Nat.reduceSub, List.replicate, List.cons_append, List.nil_append]
    simp (maxSteps := 1000000) (disch := omega) only [go_sem, Nat.reduceAdd, Nat.reduceMul, Nat.reduceSub, Nat.reduceEqDiff, Nat.reduceLeDiff]
    first | refine OpS.rd (GridValid_run xs n (by omega)) (⟨_, Try.func87, rfl, rfl⟩ : Enters Try.prog 87) rfl rfl rfl rfl ?_ | refine Loud.rd (GridValid_run xs n (by omega)) (⟨_, Try.func87, rfl, rfl⟩ : Enters Try.prog 87) rfl rfl rfl rfl ?_
    simp (maxSteps := 1000000) (disch := omega) only [go_sem, Nat.reduceAdd, Nat.reduceMul, Nat.reduceSub, Nat.reduceEqDiff, Nat.reduceLeDiff]
    (first | with_reducible refine condK_dec (fun c1 => ?_) (fun c1 => ?_) | with_reducible refine condK_ndec (fun c1 => ?_) (fun c1 => ?_) | with_reducible refine condK_nb (fun c1 => ?_) (fun c1 => ?_) | refine condK_b (fun c1 => ?_) (fun c1 => ?_))
    · exfalso; rw [h] at c1; cases c1
    · simp (maxSteps := 1000000) (disch := omega) only [go_sem, Nat.reduceAdd, Nat.reduceMul, Nat.reduceSub, Nat.reduceEqDiff, Nat.reduceLeDiff]
      rfl
theorem sSquareFits_run (xs : List Int) (n : Int) (hx : xs.length ≤ 2 ^ 40) : Reads Try.prog 68 [ints xs, int n] (bool (gridValid xs n && !clash xs n.toNat)) := by
  refine RunCall.cw (c := _) Try.func68 rfl (n := 14) Try.ntmps68 (rs := [.tmp 4]) rfl ?_
  simp only [List.length_cons, List.length_nil, Nat.reduceAdd, Nat.reduceSub, List.replicate, List.cons_append, List.nil_append]
  simp (maxSteps := 1000000) (disch := omega) only [go_sem, Nat.reduceAdd, Nat.reduceMul, Nat.reduceSub, Nat.reduceEqDiff, Nat.reduceLeDiff]
  first | refine OpS.rd (sGridValid_run xs n hx) (⟨_, Try.func53, rfl, rfl⟩ : Enters Try.prog 53) rfl rfl rfl rfl ?_ | refine Loud.rd (sGridValid_run xs n hx) (⟨_, Try.func53, rfl, rfl⟩ : Enters Try.prog 53) rfl rfl rfl rfl ?_
  simp (maxSteps := 1000000) (disch := omega) only [go_sem, Nat.reduceAdd, Nat.reduceMul, Nat.reduceSub, Nat.reduceEqDiff, Nat.reduceLeDiff]
  cases h : gridValid xs n with
  | false =>
    simp (maxSteps := 1000000) (disch := omega) only [go_sem, Nat.reduceAdd, Nat.reduceMul, Nat.reduceSub, Nat.reduceEqDiff, Nat.reduceLeDiff]
    rfl
  | true =>
    have hb := gridValid_bound h
    obtain ⟨m, rfl⟩ : ∃ m : Nat, n = m := ⟨n.toNat, by omega⟩
    have hn : m = 2 ∨ m = 3 ∨ m = 4 := by omega
    have hg := GrdN.of hn h
    simp (maxSteps := 1000000) (disch := omega) only [go_sem, Nat.reduceAdd, Nat.reduceMul, Nat.reduceSub, Nat.reduceEqDiff, Nat.reduceLeDiff]
    first | refine OpS.rd (l2Clash_run hn xs hg.len (fun k hk => by have := hg.val k hk; omega)) (⟨_, Try.func102, rfl, rfl⟩ : Enters Try.prog 102) rfl rfl rfl rfl ?_ | refine Loud.rd (l2Clash_run hn xs hg.len (fun k hk => by have := hg.val k hk; omega)) (⟨_, Try.func102, rfl, rfl⟩ : Enters Try.prog 102) rfl rfl rfl rfl ?_
    simp (maxSteps := 1000000) (disch := omega) only [go_sem, Nat.reduceAdd, Nat.reduceMul, Nat.reduceSub, Nat.reduceEqDiff, Nat.reduceLeDiff]
    rw [Int.toNat_natCast]
theorem SquareSolved_run (xs : List Int) (n : Int) (hx : xs.length ≤ 2 ^ 40) : Reads Try.prog 64 [ints xs, int n] (bool (solvedS xs n)) := by
  refine RunCall.cw (c := _) Try.func64 rfl (n := 17) Try.ntmps64 (rs := [.tmp 4]) rfl ?_
  simp only [List.length_cons, List.length_nil, Nat.reduceAdd, Nat.reduceSub, List.replicate, List.cons_append, List.nil_append]
  simp (maxSteps := 1000000) (disch := omega) only [go_sem, Nat.reduceAdd, Nat.reduceMul, Nat.reduceSub, Nat.reduceEqDiff, Nat.reduceLeDiff]
  first | refine OpS.rd (SquareFits_gen xs n hx) (⟨_, Try.func98, rfl, rfl⟩ : Enters Try.prog 98) rfl rfl rfl rfl ?_ | refine Loud.rd (SquareFits_gen xs n hx) (⟨_, Try.func98, rfl, rfl⟩ : Enters Try.prog 98) rfl rfl rfl rfl ?_
  simp (maxSteps := 1000000) (disch := omega) only [go_sem, Nat.reduceAdd, Nat.reduceMul, Nat.reduceSub, Nat.reduceEqDiff, Nat.reduceLeDiff]
  unfold solvedS
  rw [← Bool.and_assoc]
  cases h : (gridValid xs n && !clash xs n.toNat) with
  | false =>
    simp (maxSteps := 1000000) (disch := omega) only [go_sem, Nat.reduceAdd, Nat.reduceMul, Nat.reduceSub, Nat.reduceEqDiff, Nat.reduceLeDiff]
    rw [Bool.false_and]
  | true =>
    have hv : gridValid xs n = true := by
      rw [Bool.and_eq_true] at h
      exact h.1
    have hb := gridValid_bound hv
    have hnn := sq_bound ⟨hb.1, hb.2.1⟩
    simp (maxSteps := 1000000) (disch := omega) only [go_sem, Nat.reduceAdd, Nat.reduceMul, Nat.reduceSub, Nat.reduceEqDiff, Nat.reduceLeDiff]
    first | refine OpS.rd (GridFilled_run xs n hx) (⟨_, Try.func70, rfl, rfl⟩ : Enters Try.prog 70) rfl rfl rfl rfl ?_ | refine Loud.rd (GridFilled_run xs n hx) (⟨_, Try.func70, rfl, rfl⟩ : Enters Try.prog 70) rfl rfl rfl rfl ?_
    simp (maxSteps := 1000000) (disch := omega) only [go_sem, Nat.reduceAdd, Nat.reduceMul, Nat.reduceSub, Nat.reduceEqDiff, Nat.reduceLeDiff]
theorem sSquareSolved_run (xs : List Int) (n : Int) (hx : xs.length ≤ 2 ^ 40) : Reads Try.prog 19 [ints xs, int n] (bool (solvedS xs n)) := by
  refine RunCall.cw (c := _) Try.func19 rfl (n := 17) Try.ntmps19 (rs := [.tmp 4]) rfl ?_
  simp only [List.length_cons, List.length_nil, Nat.reduceAdd, Nat.reduceSub, List.replicate, List.cons_append, List.nil_append]
  simp (maxSteps := 1000000) (disch := omega) only [go_sem, Nat.reduceAdd, Nat.reduceMul, Nat.reduceSub, Nat.reduceEqDiff, Nat.reduceLeDiff]
  first | refine OpS.rd (sSquareFits_run xs n hx) (⟨_, Try.func68, rfl, rfl⟩ : Enters Try.prog 68) rfl rfl rfl rfl ?_ | refine Loud.rd (sSquareFits_run xs n hx) (⟨_, Try.func68, rfl, rfl⟩ : Enters Try.prog 68) rfl rfl rfl rfl ?_
  simp (maxSteps := 1000000) (disch := omega) only [go_sem, Nat.reduceAdd, Nat.reduceMul, Nat.reduceSub, Nat.reduceEqDiff, Nat.reduceLeDiff]
  unfold solvedS
  rw [← Bool.and_assoc]
  cases h : (gridValid xs n && !clash xs n.toNat) with
  | false =>
    simp (maxSteps := 1000000) (disch := omega) only [go_sem, Nat.reduceAdd, Nat.reduceMul, Nat.reduceSub, Nat.reduceEqDiff, Nat.reduceLeDiff]
    rw [Bool.false_and]
  | true =>
    have hv : gridValid xs n = true := by
      rw [Bool.and_eq_true] at h
      exact h.1
    have hb := gridValid_bound hv
    have hnn := sq_bound ⟨hb.1, hb.2.1⟩
    simp (maxSteps := 1000000) (disch := omega) only [go_sem, Nat.reduceAdd, Nat.reduceMul, Nat.reduceSub, Nat.reduceEqDiff, Nat.reduceLeDiff]
    first | refine OpS.rd (sGridFilled_run xs n hx) (⟨_, Try.func69, rfl, rfl⟩ : Enters Try.prog 69) rfl rfl rfl rfl ?_ | refine Loud.rd (sGridFilled_run xs n hx) (⟨_, Try.func69, rfl, rfl⟩ : Enters Try.prog 69) rfl rfl rfl rfl ?_
    simp (maxSteps := 1000000) (disch := omega) only [go_sem, Nat.reduceAdd, Nat.reduceMul, Nat.reduceSub, Nat.reduceEqDiff, Nat.reduceLeDiff]
def eP2 (q : Int × Int) : List FV := [.int .i64 q.1, .int .i64 q.2]
instance : HSz eP2 2 := ⟨fun _ => rfl⟩
set_option maxHeartbeats 2000000 in
theorem neighbours_run {n : Nat} (hn : n = 2 ∨ n = 3 ∨ n = 4) : Reads Try.prog 65 [int n] (rsl eP2 (pairsL n)) := by
  have hsq : 4 ≤ n * n ∧ n * n ≤ 16 := by rcases hn with rfl | rfl | rfl <;> omega
  have hsq' : (n : Int) * n = ((n * n : Nat) : Int) := by push_cast; rfl
  refine Reads.own ?_
  refine RunCall.cw (c := _) Try.func65 rfl (n := 41) Try.ntmps65 (rs := [.tmp 2]) rfl ?_
  simp only [List.length_cons, List.length_nil, Nat.reduceAdd, Nat.reduceSub, List.replicate, List.cons_append, List.nil_append]
  simp (maxSteps := 1000000) (disch := omega) only [go_sem, Nat.reduceAdd, Nat.reduceMul, Nat.reduceSub, Nat.reduceEqDiff, Nat.reduceLeDiff]
  intro g
  refine loop_rule2 (fun (k g : Nat) => n * n - k) (fun k g => k ≤ n * n) (fun k g => [.k, .a, .a, .p (.c (.own 0 g 0 (pairsT n k).length none)), .a, .a, .a, .a, .k, .p (int k), .a, .a, .a, .a, .a, .a, .a, .a, .a, .a, .a, .a, .a, .a, .a, .a, .a, .a, .a, .a, .a, .a, .a, .a, .a, .a, .a, .a, .a, .a, .a]) (fun k g => [some ⟨g, 2, cl eP2 (pairsT n k)⟩]) 0 g (Nat.zero_le _) (by simp (maxSteps := 1000000) (disch := omega) only [go_sem, Nat.reduceAdd, Nat.reduceMul, Nat.reduceSub, Nat.reduceEqDiff, Nat.reduceLeDiff]; exact ⟨rfl, rfl⟩) (HLe.refl _) ?_
  intro k g hk
  have hpl := pairsT_len n k
  have hs := pairsT_succ n k
  have ht1 : (k : Int).tmod (n : Int) = ((k % n : Nat) : Int) := rfl
  have ht2 : (k : Int).tdiv (n : Int) = ((k / n : Nat) : Int) := rfl
  simp (maxSteps := 1000000) (disch := omega) only [go_sem, Nat.reduceAdd, Nat.reduceMul, Nat.reduceSub, Nat.reduceEqDiff, Nat.reduceLeDiff]
  (first | with_reducible refine condK_dec (fun h1 => ?_) (fun h1 => ?_) | with_reducible refine condK_ndec (fun h1 => ?_) (fun h1 => ?_) | with_reducible refine condK_nb (fun h1 => ?_) (fun h1 => ?_) | refine condK_b (fun h1 => ?_) (fun h1 => ?_))
  · have h1 : k < n * n := by omega
    have hkd : k / n < n := by rw [Nat.div_lt_iff_lt_mul (by omega)]; exact h1
    have hkm : k % n < n := Nat.mod_lt _ (by omega)
    have hp0 : pairK n k = (if k % n + 1 < n then [((k : Int), (k : Int) + 1)] else []) ++ (if k / n + 1 < n then [((k : Int), (k : Int) + (n : Int))] else []) := rfl
    generalize k % n = e at hp0 ht1 hkm
    generalize k / n = d at hp0 ht2 hkd
    simp (maxSteps := 1000000) (disch := omega) only [go_sem, Nat.reduceAdd, Nat.reduceMul, Nat.reduceSub, Nat.reduceEqDiff, Nat.reduceLeDiff, ht1, ht2]
    (first | with_reducible refine condK_dec (fun h2 => ?_) (fun h2 => ?_) | with_reducible refine condK_ndec (fun h2 => ?_) (fun h2 => ?_) | with_reducible refine condK_nb (fun h2 => ?_) (fun h2 => ?_) | refine condK_b (fun h2 => ?_) (fun h2 => ?_))
    · rw [if_pos (by omega)] at hp0
      simp (maxSteps := 1000000) (disch := omega) only [go_sem, Nat.reduceAdd, Nat.reduceMul, Nat.reduceSub, Nat.reduceEqDiff, Nat.reduceLeDiff, ht1, ht2]
      intro ga gb
      (first | with_reducible refine condK_dec (fun h3 => ?_) (fun h3 => ?_) | with_reducible refine condK_ndec (fun h3 => ?_) (fun h3 => ?_) | with_reducible refine condK_nb (fun h3 => ?_) (fun h3 => ?_) | refine condK_b (fun h3 => ?_) (fun h3 => ?_))
      · rw [if_pos (by omega)] at hp0
        simp (maxSteps := 1000000) (disch := omega) only [go_sem, Nat.reduceAdd, Nat.reduceMul, Nat.reduceSub, Nat.reduceEqDiff, Nat.reduceLeDiff]
        intro gc gd
        refine ⟨k + 1, gd, ⟨by omega, by omega⟩, ⟨by rw [hs, hp0, List.length_append]; exact ⟨rfl, rfl⟩, by push_cast; omega⟩, hle_eq (by rw [hs, hp0, ← List.append_assoc, cl_append, cl_append]; rfl) (hle_nil _)⟩
      · rw [if_neg (by omega), List.append_nil] at hp0
        simp (maxSteps := 1000000) (disch := omega) only [go_sem, Nat.reduceAdd, Nat.reduceMul, Nat.reduceSub, Nat.reduceEqDiff, Nat.reduceLeDiff]
        refine ⟨k + 1, gb, ⟨by omega, by omega⟩, ⟨by rw [hs, hp0, List.length_append]; exact ⟨rfl, rfl⟩, by push_cast; omega⟩, hle_eq (by rw [hs, hp0, cl_append]; rfl) (hle_nil _)⟩
    · rw [if_neg (by omega), List.nil_append] at hp0
      simp (maxSteps := 1000000) (disch := omega) only [go_sem, Nat.reduceAdd, Nat.reduceMul, Nat.reduceSub, Nat.reduceEqDiff, Nat.reduceLeDiff, ht1, ht2]
      (first | with_reducible refine condK_dec (fun h3 => ?_) (fun h3 => ?_) | with_reducible refine condK_ndec (fun h3 => ?_) (fun h3 => ?_) | with_reducible refine condK_nb (fun h3 => ?_) (fun h3 => ?_) | refine condK_b (fun h3 => ?_) (fun h3 => ?_))
      · rw [if_pos (by omega)] at hp0
        simp (maxSteps := 1000000) (disch := omega) only [go_sem, Nat.reduceAdd, Nat.reduceMul, Nat.reduceSub, Nat.reduceEqDiff, Nat.reduceLeDiff]
        intro gc gd
        refine ⟨k + 1, gd, ⟨by omega, by omega⟩, ⟨by rw [hs, hp0, List.length_append]; exact ⟨rfl, rfl⟩, by push_cast; omega⟩, hle_eq (by rw [hs, hp0, cl_append]; rfl) (hle_nil _)⟩
      · rw [if_neg (by omega)] at hp0
        simp (maxSteps := 1000000) (disch := omega) only [go_sem, Nat.reduceAdd, Nat.reduceMul, Nat.reduceSub, Nat.reduceEqDiff, Nat.reduceLeDiff]
        refine ⟨k + 1, g, ⟨by omega, by omega⟩, ⟨by rw [hs, hp0, List.append_nil]; exact ⟨rfl, rfl⟩, by push_cast; omega⟩, by rw [hs, hp0, List.append_nil]; exact HLe.refl _⟩
  · have hke : k = n * n := by omega
    subst hke
    simp (maxSteps := 1000000) (disch := omega) only [go_sem, Nat.reduceAdd, Nat.reduceMul, Nat.reduceSub, Nat.reduceEqDiff, Nat.reduceLeDiff]
    exact lessQ_own (E := eP2) (n := 2) (xs := pairsL n) (HLe.refl _)
end Go.Lg
