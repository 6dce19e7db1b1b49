/- Rules and grids, in plain words: what can hold, what fits, what the solutions are. -/
import Derived.Test.YtabihehfemedcaaGpCC
import Derived.Test.YtabihehfemedcaaLgPc
set_option linter.unusedSimpArgs false
set_option linter.unusedVariables false
set_option maxRecDepth 100000
namespace Go.Lg
open Go.Proofs

/-! ### rules -/
def prodV (vs : List Int) : Int := vs.foldl (fun a v => a * v) 1
/-- A rule holds for the values of its cells. -/
def holdsV (r : Rul) (vs : List Int) : Bool :=
  if r.kind = 1 then decide vs.Nodup else if r.kind = 2 then decide (vs.sum = r.val) else if r.kind = 3 then decide (prodV vs = r.val)
  else if r.kind = 4 then decide (nth vs 0 < nth vs 1) else decide (max (nth vs 0 - nth vs 1) (nth vs 1 - nth vs 0) = r.val)
/-- These values, too. -/
def orV (o : List Nat) (vs : List Int) : List Nat := o.zipWith (fun x v => x ||| 2 ^ v.toNat) vs
/-- The values that the cells have in some way. -/
def ways (r : Rul) : List Nat → List Int → List Nat → List Nat
  | [], pre, o => if holdsV r pre = true then orV o pre else o
  | m :: ms, pre, o => [1, 2, 3, 4].foldl (fun o (v : Nat) => if m.testBit v = true then ways r ms (pre ++ [(v : Int)]) o else o) o
def maskAt (xs : List Int) (n : Nat) (c : Int) : Nat := if 0 < nth xs c then 2 ^ (nth xs c).toNat else 2 ^ (n + 1) - 2
def canHold (r : Rul) (xs : List Int) (n : Nat) : Bool := (ways r (r.cells.map (maskAt xs n)) [] (List.replicate r.cells.length 0)).getD 0 0 != 0
theorem canHold_congr {r : Rul} {xs ys : List Int} {n : Nat} (h : ∀ c ∈ r.cells, nth xs c = nth ys c) : canHold r xs n = canHold r ys n := by
  unfold canHold
  rw [List.map_congr_left (f := maskAt xs n) (g := maskAt ys n) fun c hc => by unfold maskAt; rw [h c hc]]
/-! ### grids -/
def clear (p : Puz) (xs : List Int) : Bool := decide (∀ k : Nat, k < xs.length → ¬ (0 < nth p.given k ∧ 0 < nth xs k ∧ nth xs k ≠ nth p.given k))
def fitsL (p : Puz) (xs : List Int) (n : Nat) : Bool := clear p xs && (p.rules.all (fun r => canHold r xs n) && !clash xs n)
def cellFits (p : Puz) (xs : List Int) (n i : Nat) : Bool := decide (∀ j : Nat, j < n * n → j ≠ i → (j / n = i / n ∨ j % n = i % n) → nth xs j ≠ nth xs i) && p.rules.all (fun r => !r.cells.contains (i : Int) || canHold r xs n)
theorem nc_set {n : Nat} {xs : List Int} {i v : Nat} (h : NC xs n) (hl : xs.length = n * n) (hi : i < n * n) (hv : 1 ≤ v) (h0 : nth xs i = 0) :
    NC (xs.set i v) n ↔ ∀ j : Nat, j < n * n → j ≠ i → (j / n = i / n ∨ j % n = i % n) → nth (xs.set i (v : Int)) j ≠ v := by
  have hset : ∀ k : Nat, nth (xs.set i (v : Int)) k = if k = i then (v : Int) else nth xs k := fun k => nth_setN _ _ _ _ (by rw [hl]; exact hi)
  constructor
  · intro hc j hj hne hln
    rcases Nat.lt_or_ge j i with h1 | h1
    · have := hc j i h1 hi hln
      rw [hset i, if_pos rfl] at this
      intro he
      rw [he] at this
      exact this (by omega) rfl
    · have := hc i j (by omega) hj (hln.imp Eq.symm Eq.symm)
      rw [hset i, if_pos rfl] at this
      intro he
      rw [he] at this
      exact this (by omega) rfl
  · intro hc p q hpq hq hln hp
    by_cases hpi : p = i
    · subst hpi
      rw [hset p, if_pos rfl]
      exact fun he => hc q hq (by omega) (hln.imp Eq.symm Eq.symm) he.symm
    · by_cases hqi : q = i
      · subst hqi
        rw [hset q, if_pos rfl]
        exact hc p (by omega) hpi hln
      · rw [hset p, if_neg hpi] at hp ⊢
        rw [hset q, if_neg hqi]
        exact h p q hpq hq hln hp
theorem fits_step {p : Puz} {n : Nat} (hn : n = 2 ∨ n = 3 ∨ n = 4) {xs : List Int} {i v : Nat} (h : fitsL p xs n = true) (hl : xs.length = n * n) (hx : ∀ c : Int, 0 ≤ nth xs c) (hi : i < n * n) (hv : 1 ≤ v) (h0 : nth xs i = 0) (hg : nth p.given i ≤ 0) (hcs : ∀ r ∈ p.rules, ∀ c ∈ r.cells, 0 ≤ c) :
    fitsL p (xs.set i v) n = cellFits p (xs.set i v) n i := by
  have hset : ∀ k : Nat, nth (xs.set i (v : Int)) k = if k = i then (v : Int) else nth xs k := fun k => nth_setN _ _ _ _ (by rw [hl]; exact hi)
  have hx' : ∀ c : Int, 0 ≤ nth (xs.set i (v : Int)) c := fun c => by
    rw [nth_toNat, hset]
    split
    · omega
    · exact hx _
  simp only [fitsL, Bool.and_eq_true, clear, decide_eq_true_eq, Bool.not_eq_true', List.all_eq_true] at h
  obtain ⟨h1, h2, h3⟩ := h
  have hclear : clear p (xs.set i v) = true := by
    simp only [clear, decide_eq_true_eq]
    rintro k hk ⟨a, b, c⟩
    rw [hset] at b c
    by_cases hki : k = i
    · rw [hki] at a; omega
    · rw [if_neg hki] at b c
      exact h1 k (by simpa using hk) ⟨a, b, c⟩
  have hcl : (!clash (xs.set i (v : Int)) n) = decide (∀ j : Nat, j < n * n → j ≠ i → (j / n = i / n ∨ j % n = i % n) → nth (xs.set i (v : Int)) j ≠ nth (xs.set i (v : Int)) i) := by
    rw [Bool.eq_iff_iff, Bool.not_eq_true', clash_nc hn hx', nc_set ((clash_nc hn hx).1 h3) hl hi hv h0, decide_eq_true_eq, hset i, if_pos rfl]
  have hr : p.rules.all (fun r => canHold r (xs.set i (v : Int)) n) = p.rules.all (fun r => !r.cells.contains (i : Int) || canHold r (xs.set i (v : Int)) n) := by
    rw [Bool.eq_iff_iff]
    simp only [List.all_eq_true, Bool.or_eq_true, Bool.not_eq_true']
    constructor
    · exact fun k r hr => .inr (k r hr)
    · intro k r hr
      rcases k r hr with k | k
      · rw [← h2 r hr]
        refine canHold_congr fun c hc => ?_
        have hci : c ≠ (i : Int) := fun he => by rw [he] at hc; simp at k; exact k hc
        have hc0 := hcs r hr c hc
        obtain ⟨m, rfl⟩ : ∃ m : Nat, c = m := ⟨c.toNat, by omega⟩
        rw [hset, if_neg (by omega)]
      · exact k
  unfold fitsL cellFits
  rw [hclear, hr, hcl, Bool.true_and, Bool.and_comm]
/-- All grids that are full and fit, with the values of this one, in ascending order, from a cell on. -/
def sols (p : Puz) (n : Nat) : Nat → List Int → List (List Int)
  | 0, xs => [xs]
  | m + 1, xs => if 0 < nth xs ((xs.length - (m + 1) : Nat) : Int) then sols p n m xs else ((List.range n).map (· + 1)).flatMap fun (v : Nat) => if fitsL p (xs.set (xs.length - (m + 1)) (v : Int)) n = true then sols p n m (xs.set (xs.length - (m + 1)) (v : Int)) else []
end Go.Lg
