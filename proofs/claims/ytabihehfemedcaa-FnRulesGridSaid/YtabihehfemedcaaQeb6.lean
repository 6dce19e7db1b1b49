/- GpCC, LgR, LgT3, cut to what is needed. -/
import Derived.Test.YtabihehfemedcaaQeb5
import Derived.KernelRfl
import Derived.Test.YtabihehfemedcaaQeb1
import Derived.ProofKit
import Derived.OpenShut
import Derived.ShutString
import Derived.ChangeOld
import Derived.SizedLaws
import Derived.ChangeSlices
import Derived.Carry
set_option linter.unusedSimpArgs false
set_option linter.unusedVariables false
set_option maxRecDepth 100000
namespace Go.Lg
open Go.Proofs
def lineC (n line : Nat) : List Int := (List.range n).map fun k => if line < n then ((line * n + k : Nat) : Int) else ((k * n + line - n : Nat) : Int)
def clashC (xs : List Int) : List Int → Nat → Bool
  | [], _ => false
  | c :: cs, seen => if 0 < nth xs c && seen.testBit (nth xs c).toNat then true else clashC xs cs (seen ||| 2 ^ (nth xs c).toNat)
def clash (xs : List Int) (n : Nat) : Bool := (List.range (2 * n)).any fun line => clashC xs (lineC n line) 0
def srchV (n : Nat) (f : List Int → Nat → List Int × Nat) (xs : List Int) (i : Nat) : List Nat → Nat → List Int × Nat
  | [], l => ([], l)
  | v :: vs, l => if clash (xs.set i v) n = true then srchV n f xs i vs l else if (f (xs.set i v) l).1 ≠ [] then f (xs.set i v) l else srchV n f xs i vs (f (xs.set i v) l).2
def srch (n : Nat) : Nat → List Int → Nat → List Int × Nat
  | 0, xs, l => if l = 0 then (xs, 0) else ([], l - 1)
  | m + 1, xs, l => srchV n (srch n m) xs (xs.length - (m + 1)) ((List.range n).map (· + 1)) l
def cntV (n : Nat) (f : List Int → Nat) (xs : List Int) (i : Nat) : List Nat → Nat
  | [] => 0
  | v :: vs => (if clash (xs.set i v) n = true then 0 else f (xs.set i v)) + cntV n f xs i vs
def cntS (n : Nat) : Nat → List Int → Nat
  | 0, _ => 1
  | m + 1, xs => cntV n (cntS n m) xs (xs.length - (m + 1)) ((List.range n).map (· + 1))
def Found (xs : List Int) (c l : Nat) (r : List Int × Nat) : Prop := (l < c → r.1.length = xs.length ∧ r.1 ≠ []) ∧ (c ≤ l → r = ([], l - c))
theorem srchV_found (n : Nat) (f : List Int → Nat → List Int × Nat) (g : List Int → Nat) (xs : List Int) (i : Nat) (h : ∀ ys l, ys.length = xs.length → Found ys (g ys) l (f ys l)) : ∀ (vs : List Nat) (l : Nat), Found xs (cntV n g xs i vs) l (srchV n f xs i vs l)
  | [], l => ⟨fun h => by simp [cntV] at h, fun h => by simp [srchV, cntV]⟩
  | v :: vs, l => by
    have ih := fun l => srchV_found n f g xs i h vs l
    have hl : (xs.set i (v : Int)).length = xs.length := by simp
    obtain ⟨h1, h2⟩ := h (xs.set i v) l hl
    unfold srchV cntV
    by_cases hc : clash (xs.set i v) n = true
    · simp only [if_pos hc, Nat.zero_add]; exact ih l
    · simp only [if_neg hc]
      by_cases hlt : l < g (xs.set i v)
      · obtain ⟨k1, k2⟩ := h1 hlt
        rw [if_pos k2]
        exact ⟨fun _ => ⟨by rw [k1, hl], k2⟩, fun hle => by omega⟩
      · have e := h2 (by omega)
        rw [e]
        simp only [ne_eq, not_true_eq_false, if_false]
        obtain ⟨q1, q2⟩ := ih (l - g (xs.set i v))
        refine ⟨fun h => q1 (by omega), fun h => ?_⟩
        rw [q2 (by omega)]
        congr 1
        omega
theorem srch_found (n : Nat) : ∀ (m : Nat) (xs : List Int) (l : Nat), xs ≠ [] → Found xs (cntS n m xs) l (srch n m xs l)
  | 0, xs, l, hx => by
    unfold srch cntS
    refine ⟨fun h => ?_, fun h => ?_⟩
    · rw [if_pos (by omega)]; exact ⟨rfl, hx⟩
    · rw [if_neg (by omega)]
  | m + 1, xs, l, hx => by
    unfold srch cntS
    refine srchV_found n _ _ xs _ (fun ys l hl => srch_found n m ys l fun h0 => hx ?_) _ l
    rw [h0] at hl
    exact List.eq_nil_of_length_eq_zero hl.symm
theorem nth_setN (l : List Int) (i : Nat) (v : Int) (k : Nat) (h : i < l.length) : nth (l.set i v) (k : Int) = if k = i then v else nth l k := by
  rw [nth_set _ _ _ _ h (by omega)]
  by_cases hk : k = i
  · rw [if_pos (by omega), if_pos hk]
  · rw [if_neg (by omega), if_neg hk]
theorem clashC_false {ys : List Int} (h0 : ∀ c : Int, 0 ≤ nth ys c) : ∀ (cells : List Int) (seen : Nat), clashC ys cells seen = false ↔ (∀ c ∈ cells, 0 < nth ys c → seen.testBit (nth ys c).toNat = false) ∧ cells.Pairwise (fun c d => 0 < nth ys c → nth ys c ≠ nth ys d)
  | [], seen => by simp [clashC]
  | c :: cs, seen => by
    have ih := clashC_false h0 cs (seen ||| 2 ^ (nth ys c).toNat)
    have hc := h0 c
    unfold clashC
    by_cases hs : (decide (0 < nth ys c) && seen.testBit (nth ys c).toNat) = true
    · rw [if_pos hs]
      simp only [Bool.and_eq_true, decide_eq_true_eq] at hs
      refine ⟨fun h => (by cases h), fun h => ?_⟩
      have := h.1 c (by simp) hs.1
      rw [hs.2] at this
      cases this
    · rw [if_neg hs, ih]
      simp only [Bool.and_eq_true, decide_eq_true_eq, not_and, Bool.not_eq_true] at hs
      simp only [Nat.testBit_or, Nat.testBit_two_pow, Bool.or_eq_false_iff, decide_eq_false_iff_not, List.pairwise_cons, List.mem_cons]
      constructor
      · rintro ⟨h1, h2⟩
        refine ⟨fun d hd => ?_, fun d hd hp he => ?_, h2⟩
        · rcases hd with rfl | hd
          · exact hs
          · exact fun hp => (h1 d hd hp).1
        · have := (h1 d hd (by omega)).2
          omega
      · rintro ⟨h1, h2, h3⟩
        refine ⟨fun d hd hp => ⟨h1 d (.inr hd) hp, fun he => ?_⟩, h3⟩
        have := h0 d
        have := h2 d hd (by omega)
        omega
def NC (ys : List Int) (n : Nat) : Prop := ∀ p q : Nat, p < q → q < n * n → (p / n = q / n ∨ p % n = q % n) → 0 < nth ys p → nth ys p ≠ nth ys q
theorem pairwise_range {n : Nat} {f : Nat → Int} {R : Int → Int → Prop} : ((List.range n).map f).Pairwise R ↔ ∀ a b : Nat, a < b → b < n → R (f a) (f b) := by
  rw [List.pairwise_map, List.pairwise_iff_getElem]
  simp only [List.length_range, List.getElem_range]
  exact ⟨fun h a b hab hb => h a b (by omega) hb hab, fun h a b ha hb hab => h a b hab hb⟩
theorem clash_nc {ys : List Int} {n : Nat} (hn : n = 2 ∨ n = 3 ∨ n = 4) (h0 : ∀ c : Int, 0 ≤ nth ys c) : clash ys n = false ↔ NC ys n := by
  unfold clash lineC
  rw [List.any_eq_false]
  simp only [List.mem_range, Bool.not_eq_true]
  constructor
  · intro h p q hpq hq hl hp
    rcases hl with hl | hl
    · have h1 := ((clashC_false h0 _ 0).1 (h (p / n) (by rcases hn with rfl | rfl | rfl <;> omega))).2
      rw [pairwise_range] at h1
      have hr : p / n < n := by rcases hn with rfl | rfl | rfl <;> omega
      have := h1 (p % n) (q % n) (by rcases hn with rfl | rfl | rfl <;> omega) (by rcases hn with rfl | rfl | rfl <;> omega)
      rw [if_pos hr, if_pos hr] at this
      have e1 : p / n * n + p % n = p := by rcases hn with rfl | rfl | rfl <;> omega
      have e2 : p / n * n + q % n = q := by rcases hn with rfl | rfl | rfl <;> omega
      rw [e1, e2] at this
      exact this hp
    · have hc : p % n < n := by rcases hn with rfl | rfl | rfl <;> omega
      have h1 := ((clashC_false h0 _ 0).1 (h (n + p % n) (by omega))).2
      rw [pairwise_range] at h1
      have := h1 (p / n) (q / n) (by rcases hn with rfl | rfl | rfl <;> omega) (by rcases hn with rfl | rfl | rfl <;> omega)
      rw [if_neg (by omega), if_neg (by omega)] at this
      have e1 : p / n * n + (n + p % n) - n = p := by rcases hn with rfl | rfl | rfl <;> omega
      have e2 : q / n * n + (n + p % n) - n = q := by rcases hn with rfl | rfl | rfl <;> omega
      rw [e1, e2] at this
      exact this hp
  · intro h line hl
    rw [clashC_false h0]
    refine ⟨fun c _ _ => Nat.zero_testBit _, ?_⟩
    rw [pairwise_range]
    intro a b hab hb
    split
    · refine h (line * n + a) (line * n + b) (by omega) ?_ (.inl ?_)
      · rcases hn with rfl | rfl | rfl <;> omega
      · rcases hn with rfl | rfl | rfl <;> omega
    · refine h (a * n + line - n) (b * n + line - n) ?_ ?_ (.inr ?_)
      · rcases hn with rfl | rfl | rfl <;> omega
      · rcases hn with rfl | rfl | rfl <;> omega
      · rcases hn with rfl | rfl | rfl <;> omega
structure OkS (n : Nat) (xs : List Int) (i : Nat) : Prop where
  len : xs.length = n * n
  lo : ∀ k : Nat, k < i → 1 ≤ nth xs k ∧ nth xs k ≤ n
  hi : ∀ k : Nat, i ≤ k → nth xs k = 0
  nc : NC xs n
theorem nth_toNat (xs : List Int) (c : Int) : nth xs c = nth xs ((c.toNat : Nat) : Int) := by unfold nth; rw [Int.toNat_natCast]
theorem OkS.pos {n : Nat} {xs : List Int} {i : Nat} (h : OkS n xs i) (c : Int) : 0 ≤ nth xs c := by
  rw [nth_toNat]
  generalize c.toNat = k
  by_cases hk : k < i
  · have := (h.lo k hk).1; omega
  · rw [h.hi k (by omega)]; exact Int.le_refl 0
theorem clash_step {n : Nat} (hn : n = 2 ∨ n = 3 ∨ n = 4) {xs : List Int} {i v : Nat} (h : OkS n xs i) (hi : i < n * n) (hv : 1 ≤ v ∧ v ≤ n) :
    (clash (xs.set i v) n = false ↔ ∀ j : Nat, j < i → (j / n = i / n ∨ j % n = i % n) → nth xs j ≠ v) ∧ (clash (xs.set i v) n = false → OkS n (xs.set i v) (i + 1)) := by
  have hset : ∀ k : Nat, nth (xs.set i (v : Int)) k = if k = i then (v : Int) else nth xs k := fun k => nth_setN _ _ _ _ (by rw [h.len]; exact hi)
  have h0 : ∀ c : Int, 0 ≤ nth (xs.set i (v : Int)) c := fun c => by
    rw [nth_toNat, hset]
    split
    · omega
    · exact h.pos _
  have key : clash (xs.set i v) n = false ↔ ∀ j : Nat, j < i → (j / n = i / n ∨ j % n = i % n) → nth xs j ≠ v := by
    rw [clash_nc hn h0]
    constructor
    · intro hc j hj hl
      have := hc j i hj hi hl
      rw [hset, hset, if_neg (by omega), if_pos rfl] at this
      exact this (by have := (h.lo j hj).1; omega)
    · intro hc p q hpq hq hl hp
      rw [hset] at hp ⊢
      rw [hset]
      by_cases hpi : p = i
      · rw [if_pos hpi, if_neg (by omega), h.hi q (by omega)]; omega
      · rw [if_neg hpi] at hp ⊢
        by_cases hqi : q = i
        · rw [if_pos hqi]
          subst hqi
          exact hc p hpq hl
        · rw [if_neg hqi]
          exact h.nc p q hpq hq hl hp
  refine ⟨key, fun hc => ⟨by simp [h.len], fun k hk => ?_, fun k hk => ?_, (clash_nc hn h0).1 hc⟩⟩
  · rw [hset]
    split
    · omega
    · exact h.lo k (by omega)
  · rw [hset, if_neg (by omega)]
    exact h.hi k (by omega)
def sumV (f : Nat → Nat) : List Nat → Nat
  | [] => 0
  | v :: vs => f v + sumV f vs
theorem sumV_congr {f g : Nat → Nat} : ∀ (vs : List Nat), (∀ v ∈ vs, f v = g v) → sumV f vs = sumV g vs
  | [], _ => rfl
  | v :: vs, h => by simp only [sumV]; rw [h v (by simp), sumV_congr vs fun w hw => h w (by simp [hw])]
theorem cntV_sum (n : Nat) (f : List Int → Nat) (xs : List Int) (i : Nat) : ∀ vs, cntV n f xs i vs = sumV (fun v => if clash (xs.set i v) n = true then 0 else f (xs.set i v)) vs
  | [] => rfl
  | v :: vs => by simp only [cntV, sumV]; rw [cntV_sum n f xs i vs]
def cF (n : Nat) : Nat → Nat → Nat → Nat
  | 0, _, _ => 1
  | m + 1, R, C => sumV (fun v => if (R.testBit v || C.testBit (8 * ((n * n - (m + 1)) % n) + v)) = true then 0 else cF n m (if (n * n - (m + 1)) % n + 1 = n then 0 else R ||| 2 ^ v) (C ||| 2 ^ (8 * ((n * n - (m + 1)) % n) + v))) ((List.range n).map (· + 1))
structure InvS (n : Nat) (xs : List Int) (i R C : Nat) : Prop where
  row : ∀ v : Nat, 1 ≤ v → v ≤ n → (R.testBit v = true ↔ ∃ j : Nat, j < i ∧ j / n = i / n ∧ nth xs j = v)
  col : ∀ c v : Nat, c < n → 1 ≤ v → v ≤ n → (C.testBit (8 * c + v) = true ↔ ∃ j : Nat, j < i ∧ j % n = c ∧ nth xs j = v)
theorem cF_eq {n : Nat} (hn : n = 2 ∨ n = 3 ∨ n = 4) : ∀ (m i : Nat) (xs : List Int) (R C : Nat), i + m = n * n → OkS n xs i → InvS n xs i R C → cntS n m xs = cF n m R C
  | 0, _, _, _, _, _, _, _ => rfl
  | m + 1, i, xs, R, C, him, ho, hI => by
    have hi : i < n * n := by omega
    have e1 : xs.length - (m + 1) = i := by rw [ho.len]; omega
    have e2 : n * n - (m + 1) = i := by omega
    unfold cntS cF
    rw [cntV_sum, e1, e2]
    refine sumV_congr _ fun v hv => ?_
    obtain ⟨v', hv', rfl⟩ := List.mem_map.1 hv
    have hv2 : 1 ≤ v' + 1 ∧ v' + 1 ≤ n := by have := List.mem_range.1 hv'; omega
    generalize v' + 1 = v at hv2 ⊢
    obtain ⟨k1, k2⟩ := clash_step hn ho hi hv2
    have hcn : i % n < n := by rcases hn with rfl | rfl | rfl <;> omega
    have hcl : clash (xs.set i (v : Int)) n = (R.testBit v || C.testBit (8 * (i % n) + v)) := by
      rw [Bool.eq_iff_iff, Bool.or_eq_true, hI.row v hv2.1 hv2.2, hI.col _ v hcn hv2.1 hv2.2]
      constructor
      · intro hc
        have : ¬ ∀ j : Nat, j < i → (j / n = i / n ∨ j % n = i % n) → nth xs j ≠ v := fun h => by rw [k1.2 h] at hc; cases hc
        have : ∃ j : Nat, j < i ∧ (j / n = i / n ∨ j % n = i % n) ∧ nth xs j = v := Classical.byContradiction fun hno => this fun j hj hl he => hno ⟨j, hj, hl, he⟩
        obtain ⟨j, hj, hl, he⟩ := this
        rcases hl with hl | hl
        · exact .inl ⟨j, hj, hl, he⟩
        · exact .inr ⟨j, hj, hl, he⟩
      · intro hc
        cases hcc : clash (xs.set i (v : Int)) n with
        | true => rfl
        | false =>
          have := k1.1 hcc
          rcases hc with ⟨j, hj, hl, he⟩ | ⟨j, hj, hl, he⟩
          · exact absurd he (this j hj (.inl hl))
          · exact absurd he (this j hj (.inr hl))
    rw [hcl]
    by_cases hcc : (R.testBit v || C.testBit (8 * (i % n) + v)) = true
    · rw [if_pos hcc, if_pos hcc]
    · rw [if_neg hcc, if_neg hcc]
      have hcf : clash (xs.set i (v : Int)) n = false := by rw [hcl]; simpa using hcc
      have hset : ∀ k : Nat, k < i + 1 → nth (xs.set i (v : Int)) k = if k = i then (v : Int) else nth xs k := fun k hk => nth_setN _ _ _ _ (by rw [ho.len]; exact hi)
      refine cF_eq hn m (i + 1) _ _ _ (by omega) (k2 hcf) ⟨fun w hw1 hw2 => ?_, fun c w hc hw1 hw2 => ?_⟩
      · split
        · rename_i hend
          rw [Nat.zero_testBit]
          refine ⟨fun h => (by cases h), fun ⟨j, hj, hl, _⟩ => ?_⟩
          exfalso
          rcases hn with rfl | rfl | rfl <;> omega
        · rename_i hend
          have hrow : (i + 1) / n = i / n := by rcases hn with rfl | rfl | rfl <;> omega
          rw [Nat.testBit_or, Nat.testBit_two_pow, Bool.or_eq_true, hI.row w hw1 hw2, decide_eq_true_eq, hrow]
          constructor
          · rintro (⟨j, hj, hl, he⟩ | rfl)
            · exact ⟨j, by omega, hl, by rw [hset j (by omega), if_neg (by omega)]; exact he⟩
            · exact ⟨i, by omega, rfl, by rw [hset i (by omega), if_pos rfl]⟩
          · rintro ⟨j, hj, hl, he⟩
            rw [hset j hj] at he
            split at he
            · exact .inr (by omega)
            · exact .inl ⟨j, by omega, hl, he⟩
      · rw [Nat.testBit_or, Nat.testBit_two_pow, Bool.or_eq_true, hI.col c w hc hw1 hw2, decide_eq_true_eq]
        constructor
        · rintro (⟨j, hj, hl, he⟩ | he)
          · exact ⟨j, by omega, hl, by rw [hset j (by omega), if_neg (by omega)]; exact he⟩
          · exact ⟨i, by omega, by rcases hn with rfl | rfl | rfl <;> omega, by rw [hset i (by omega), if_pos rfl]; rcases hn with rfl | rfl | rfl <;> omega⟩
        · rintro ⟨j, hj, hl, he⟩
          rw [hset j hj] at he
          split at he
          · rename_i hji
            subst hji
            exact .inr (by omega)
          · exact .inl ⟨j, by omega, hl, he⟩
theorem nth_zeros (n : Nat) (c : Int) : nth (List.replicate n (0 : Int)) c = 0 := by
  simp only [nth, List.getD, List.getElem?_replicate]
  split <;> rfl
theorem okS_zeros (n : Nat) : OkS n (List.replicate (n * n) 0) 0 := ⟨by simp, fun k hk => by omega, fun k _ => nth_zeros _ _, fun p q _ _ _ h => by rw [nth_zeros] at h; omega⟩
theorem invS_zeros (n : Nat) : InvS n (List.replicate (n * n) 0) 0 0 0 := ⟨fun v _ _ => by rw [Nat.zero_testBit]; simp, fun c v _ _ _ => by rw [Nat.zero_testBit]; simp⟩
def manyS (n : Nat) : Nat := if n = 2 then 2 else if n = 3 then 12 else 576
theorem cF_two : cF 2 4 0 0 = 2 := by kernel_rfl
theorem cF_three : cF 3 9 0 0 = 12 := by kernel_rfl
theorem cF_four : cF 4 16 0 0 = 576 := by kernel_rfl
theorem cnt_many {n : Nat} (hn : n = 2 ∨ n = 3 ∨ n = 4) : cntS n (n * n) (List.replicate (n * n) 0) = manyS n := by
  rw [cF_eq hn (n * n) 0 _ 0 0 (by omega) (okS_zeros n) (invS_zeros n)]
  rcases hn with rfl | rfl | rfl
  · exact cF_two
  · exact cF_three
  · exact cF_four
end Go.Lg

set_option linter.unusedSimpArgs false
set_option linter.unusedVariables false
namespace Go.Lg
open Go.ChangeShapes Go.WideShapes Go.ChangeAt Go.RowKit
open Go.ChangeMaps (open_string)
def Cx.base (W : World) : Cx := ⟨fun _ => 0, fun _ => 0, fun b => b < W.heap.size, 0⟩
theorem base_rel (W : World) : HRel W (Cx.base W) [] := ⟨fun b hb => hb, fun id b hb => by simp at hb, fun id id' b b' hb => by simp at hb⟩
theorem Reads.below {P : Program} {f : FuncId} {args : List AV} {b : Bool} (h : Reads P f args (bool b)) {W : World} {vs : Array Value} (hv : VAs W (Cx.base W) [] args vs) :
    Calls P f vs W fun e W' => e = .returned (.bool b) ∧ Below W.heap.size W W' :=
  (h W (Cx.base W) vs (base_rel W) hv).mono fun e W' ⟨v, u, X', H', h1, h2, h3, h4, h5⟩ => by
    have h5 : v = bool b := h5
    subst h5
    refine ⟨by rw [h1, va_bool h2], h4.os, h4.tape, h4.output, h4.size, fun k hk => (h4.imm k hk).2⟩
theorem vas_one {W : World} {X : Cx} {H : Heap} {x : AV} {v : Value} (h : VA W X H x v) : VAs W X H [x] #[v] :=
  ⟨rfl, fun i hi => by
    have : i = 0 := by simpa using hi
    subst this; exact ⟨v, rfl, h⟩⟩
section
variable {H : Type} {enc : TypeId × Value → H} {P : Program} {W : World}
theorem fl_ints (k : IntKind) (xs : List Int) : fl (eI k) xs = xs.map (.int k) := by
  induction xs with
  | nil => rfl
  | cons x xs ih => simp only [fl, List.flatMap_cons, List.map_cons] at ih ⊢; rw [ih]; rfl
theorem read_ints {b0 : Nat} {r : Reach} {t e : TypeId} {k : IntKind} {v : Value} {d : DataW H} {ps : List MemPlace} (ht : P.underlying t = some (.slice e)) (he : P.underlying e = some (.int k)) (hc : P.cellsOf e = 1)
    (hval : Value.okWide P W r b0 t v) (h : DataW.Trod enc P W 0 (fun _ => true) true t v d ps) : ∃ xs : List Int, VA W (Cx.base W) [] (rsl (eI k) xs) v ∧ xs.length ≤ 9223372036854775807 ∧ ∀ x ∈ xs, (Lit.int k x).wf = true := by
  obtain ⟨a, len, cap, rfl⟩ := okWide_slice ht hval
  obtain ⟨fuel, hf⟩ := h
  rcases open_ints ht he hc hf with ⟨hcs, _⟩ | ⟨x, l, c, zs, hcs, _, hl, hm, hz, _, hcell, hwz⟩
  · simp [Value.cells] at hcs
    obtain ⟨rfl, rfl, rfl⟩ := hcs
    exact ⟨[], .c _ _ (VF.sl0 none 0), by simp, by simp⟩
  · simp [Value.cells] at hcs
    obtain ⟨rfl, rfl, rfl⟩ := hcs
    have hz : zs.length = cap := by simpa using hz
    have hlen : (zs.take len).length = len := by simp; omega
    refine ⟨zs.take len, ?_, by rw [hlen]; have : maxLen ≤ 9223372036854775807 := by decide
                                omega, fun y hy => hwz y (List.mem_of_mem_take hy)⟩
    by_cases h0 : len = 0
    · subst h0
      exact .c _ _ (VF.sl0 _ _)
    · have hlt : 0 < zs.length := by omega
      have hsp : x.spot = none := by
        have hx := hcell 0 hlt
        simp only [World.cell?] at hx
        split at hx
        · split at hx
          · cases hx
          · rename_i hsp; simpa [Addr.add] using hsp
        · cases hx
      obtain ⟨b, o, sp⟩ := x
      simp only at hsp
      subst hsp
      have hb : b < W.heap.size := World.block_lt_of_cell? W _ (hcell 0 hlt)
      have := VF.sl (w := W) (I := (Cx.base W).I) len (fl (eI k) (zs.take len)) b o cap (fun j => .int k (zs.getD j 0)) hl hb (fun j hj => by
        rw [fl_length, hlen] at hj
        have := hcell j (by omega)
        simpa [add_plain] using this) (fun j hj => by
        rw [fl_length, hlen] at hj
        have e : (fl (eI k) (zs.take len))[j]'(by rw [fl_length, hlen]; exact hj) = .int k (zs.getD j 0) := by
          simp only [fl_ints, List.getElem_map, List.getElem_take]
          simp [List.getD, List.getElem?_eq_getElem (show j < zs.length by omega)]
        rw [e]
        exact VF.int _ _)
      exact .c _ _ (by rw [fsl, hlen]; exact this)
end
end Go.Lg

set_option linter.unusedSimpArgs false
set_option linter.unusedVariables false
set_option maxRecDepth 100000
namespace Go.Lg
open Go.Proofs
theorem gridValid_bound {xs : List Int} {n : Int} (h : gridValid xs n = true) : 2 ≤ n ∧ n ≤ 4 ∧ (xs.length : Int) = n * n ∧ xs.length ≤ 16 ∧ ∀ j : Nat, j < xs.length → 0 ≤ nth xs j ∧ nth xs j ≤ n := by
  simp only [gridValid, decide_eq_true_eq] at h
  refine ⟨h.1, h.2.1, h.2.2.1, ?_, h.2.2.2⟩
  have : n = 2 ∨ n = 3 ∨ n = 4 := by omega
  rcases this with rfl | rfl | rfl <;> omega
theorem l1In_run (v a b : Int) : Reads Try.prog 66 [int v, int a, int b] (bool (decide (a ≤ v ∧ v ≤ b))) := by
  refine RunCall.cw (c := _) Try.func66 rfl (n := 15) Try.ntmps66 (rs := [.tmp 6]) rfl ?_
  simp only [List.length_cons, List.length_nil, Nat.reduceAdd, Nat.reduceSub, List.replicate, List.cons_append, List.nil_append]
  simp (maxSteps := 1000000) (disch := omega) only [go_sem, Nat.reduceAdd, Nat.reduceMul, Nat.reduceSub, Nat.reduceEqDiff, Nat.reduceLeDiff]
  refine guardK_split (fun h => ?_) (fun h => ?_) <;> simp (maxSteps := 1000000) (disch := omega) only [go_sem, Nat.reduceAdd, Nat.reduceMul, Nat.reduceSub, Nat.reduceEqDiff, Nat.reduceLeDiff, h] <;> simp at h <;> simp [h]
  omega
theorem sGridValid_run (xs : List Int) (n : Int) (hx : xs.length ≤ 2 ^ 40) : Reads Try.prog 53 [ints xs, int n] (bool (gridValid xs n)) := by
  refine RunCall.cw (c := _) Try.func53 rfl (n := 29) Try.ntmps53 (rs := [.tmp 4]) rfl ?_
  simp only [List.length_cons, List.length_nil, Nat.reduceAdd, Nat.reduceSub, List.replicate, List.cons_append, List.nil_append]
  simp (maxSteps := 1000000) (disch := omega) only [go_sem, Nat.reduceAdd, Nat.reduceMul, Nat.reduceSub, Nat.reduceEqDiff, Nat.reduceLeDiff]
  refine loop_rule (fun i : Nat => xs.length - i) (fun i => i ≤ xs.length ∧ ∀ j : Nat, j < i → 0 ≤ nth xs j ∧ nth xs j ≤ n) (fun i => [.k, .k, .a, .a, .a, .p (int i), .a, .a, .a, .a, .a, .a, .a, .a, .a, .a, .a, .a, .a, .a, .a, .a, .a, .a, .a, .a, .a, .a, .a]) (fun i => []) 0
    ⟨Nat.zero_le _, fun j hj => absurd hj (Nat.not_lt_zero _)⟩ (by simp (maxSteps := 1000000) (disch := omega) only [go_sem, Nat.reduceAdd, Nat.reduceMul, Nat.reduceSub, Nat.reduceEqDiff, Nat.reduceLeDiff]; rfl) (hle_nil _) ?_
  rintro i ⟨hi, hall⟩
  simp (maxSteps := 1000000) (disch := omega) only [go_sem, Nat.reduceAdd, Nat.reduceMul, Nat.reduceSub, Nat.reduceEqDiff, Nat.reduceLeDiff]
  refine condK_split (fun h => ?_) (fun h => ?_)
  · have h : i < xs.length := by simpa using h
    simp (maxSteps := 1000000) (disch := omega) only [go_sem, Nat.reduceAdd, Nat.reduceMul, Nat.reduceSub, Nat.reduceEqDiff, Nat.reduceLeDiff]
    refine OpS.rd (l1In_run _ _ _) (⟨_, Try.func66, rfl, rfl⟩ : Enters Try.prog 66) rfl rfl rfl rfl ?_
    simp (maxSteps := 1000000) (disch := omega) only [go_sem, Nat.reduceAdd, Nat.reduceMul, Nat.reduceSub, Nat.reduceEqDiff, Nat.reduceLeDiff]
    refine condK_split (fun h2 => ?_) (fun h2 => ?_) <;> simp (maxSteps := 1000000) (disch := omega) only [go_sem, Nat.reduceAdd, Nat.reduceMul, Nat.reduceSub, Nat.reduceEqDiff, Nat.reduceLeDiff]
    · simp at h2
      symm; simp [gridValid]; intro _ _ _; exact ⟨i, h, fun h => by omega⟩
    simp at h2
    refine ⟨i + 1, ⟨⟨h, fun j hj => ?_⟩, by omega⟩, by omega, hle_nil _⟩
    rcases Nat.lt_succ_iff_lt_or_eq.1 hj with h | rfl
    · exact hall j h
    · exact h2
  have h : ¬ i < xs.length := by simpa using h
  simp (maxSteps := 1000000) (disch := omega) only [go_sem, Nat.reduceAdd, Nat.reduceMul, Nat.reduceSub, Nat.reduceEqDiff, Nat.reduceLeDiff]
  refine OpS.rd (l1In_run _ _ _) (⟨_, Try.func66, rfl, rfl⟩ : Enters Try.prog 66) rfl rfl rfl rfl ?_
  simp (maxSteps := 1000000) (disch := omega) only [go_sem, Nat.reduceAdd, Nat.reduceMul, Nat.reduceSub, Nat.reduceEqDiff, Nat.reduceLeDiff]
  refine guardK_split (fun h2 => ?_) (fun h2 => ?_) <;> simp (maxSteps := 1000000) (disch := omega) only [go_sem, Nat.reduceAdd, Nat.reduceMul, Nat.reduceSub, Nat.reduceEqDiff, Nat.reduceLeDiff, h2]
  · have h2 : 2 ≤ n ∧ n ≤ 4 := by simpa using h2
    have hw : 4 ≤ n * n ∧ n * n ≤ 16 := by
      have : n = 2 ∨ n = 3 ∨ n = 4 := by omega
      rcases this with rfl | rfl | rfl <;> decide
    simp (maxSteps := 1000000) (disch := omega) only [go_sem, Nat.reduceAdd, Nat.reduceMul, Nat.reduceSub, Nat.reduceEqDiff, Nat.reduceLeDiff]
    simp only [gridValid, h2, true_and, decide_eq_decide]
    exact ⟨fun h3 => ⟨h3, fun j hj => hall j (by omega)⟩, fun h3 => h3.1⟩
  · simp at h2
    symm; simp [gridValid]; omega
end Go.Lg
