/- GpMA, GpK, GpP, GpEC, cut to what is needed. -/
import Derived.Test.YtapopcmgggfedaaGreatXbc5
import Derived.Test.YtapopcmgggfedaaGreatXbc1
import Derived.Test.YtapopcmgggfedaaGreatXbb4
import Derived.Test.YtapopcmgggfedaaGreatXbb3
import Derived.Test.YtapopcmgggfedaaGreatXbc2
open Nat renaming reduceAdd → zA, reduceMul → zM, reduceSub → zS, reduceEqDiff → zE, reduceLeDiff → zL
set_option linter.unusedSimpArgs false
set_option linter.unusedVariables false
set_option maxRecDepth 100000
namespace Go.Lg
open Go.Proofs
def mAt (ms : List Nat) (k : Nat) : Nat := ms.getD k 0
theorem nth_nats (ms : List Nat) (k : Nat) : nth (nats ms) k = ((mAt ms k : Nat) : Int) := by
  unfold nth nats mAt
  rw [Int.toNat_natCast]
  simp only [List.getD, List.getElem?_map]
  by_cases h : k < ms.length
  · rw [List.getElem?_eq_getElem h]; rfl
  · rw [List.getElem?_eq_none (by omega)]; rfl
theorem nats_len (ms : List Nat) : (nats ms).length = ms.length := by simp [nats]
theorem nats_set (ms : List Nat) (k v : Nat) : (nats ms).set k ((v : Nat) : Int) = nats (ms.set k v) := by simp [nats, List.map_set]
theorem setRange_nats {b : List Nat} {k v : Nat} (h : k < b.length) : setRange (cl (eI .i64) (nats b)) (0 + ((k : Nat) : Int).toNat * 1) [CV.f (.int .i64 ((v : Nat) : Int))] = cl (eI .i64) (nats (b.set k v)) := by
  rw [Int.toNat_natCast, ← nats_set]
  exact setRange_cl (E := eI .i64) (n := 1) (by rw [nats_len]; exact h)
theorem nats_tk {ms : List Nat} {k : Nat} (h : k < ms.length) : nats (ms.take (k + 1)) = nats (ms.take k) ++ [((mAt ms k : Nat) : Int)] := by
  have e : mAt ms k = ms[k] := by unfold mAt; simp [List.getD, List.getElem?_eq_getElem h]
  rw [e, List.take_succ_eq_append_getElem h]
  unfold nats
  rw [List.map_append]
  rfl
theorem nats_inj {a b : List Nat} : nats a = nats b ↔ a = b := by
  constructor
  · intro h
    exact (List.map_inj_right (fun x y h => by omega)).1 h
  · rintro rfl; rfl
theorem mAt_set {ms : List Nat} {k v i : Nat} (h : k < ms.length) : mAt (ms.set k v) i = if i = k then v else mAt ms i := by
  unfold mAt
  simp only [List.getD, List.getElem?_set]
  by_cases hi : k = i
  · subst hi; simp [h]
  · rw [if_neg hi, if_neg (Ne.symm hi)]
theorem mAt_over {ms : List Nat} {k : Nat} (h : ms.length ≤ k) : mAt ms k = 0 := by
  unfold mAt
  simp [List.getD, List.getElem?_eq_none h]
theorem mAt_mem {ms : List Nat} {k : Nat} (h : k < ms.length) : mAt ms k ∈ ms := by
  unfold mAt
  simp [List.getD, List.getElem?_eq_getElem h]
theorem mAt_ext {a b : List Nat} (hl : a.length = b.length) (h : ∀ k, k < a.length → mAt a k = mAt b k) : a = b := by
  refine List.ext_getElem hl fun i h1 h2 => ?_
  have := h i h1
  unfold mAt at this
  simpa [List.getD, List.getElem?_eq_getElem h1, List.getElem?_eq_getElem h2] using this
structure MsN (ms : List Nat) (n : Nat) : Prop where
  len : ms.length = n * n
  val : ∀ m ∈ ms, m ≤ 2 ^ (n + 1) - 2 ∧ m % 2 = 0
theorem MsN.at {ms : List Nat} {n : Nat} (h : MsN ms n) (k : Nat) : mAt ms k ≤ 2 ^ (n + 1) - 2 ∧ mAt ms k % 2 = 0 := by
  by_cases hk : k < ms.length
  · exact h.val _ (mAt_mem hk)
  · rw [mAt_over (by omega)]; exact ⟨Nat.zero_le _, rfl⟩
theorem pow_n {n : Nat} (hn : n = 2 ∨ n = 3 ∨ n = 4) : 8 ≤ 2 ^ (n + 1) ∧ 2 ^ (n + 1) ≤ 32 := by rcases hn with rfl | rfl | rfl <;> decide
theorem MsN.lt {ms : List Nat} {n : Nat} (hn : n = 2 ∨ n = 3 ∨ n = 4) (h : MsN ms n) (k : Nat) : mAt ms k ≤ 30 ∧ mAt ms k % 2 = 0 := by
  have := h.at k
  have := pow_n hn
  omega
theorem MsN.ok {ms : List Nat} {n : Nat} (h : MsN ms n) : MasksOk (nats ms) n := by
  refine ⟨by rw [nats_len]; exact h.len, fun k hk => ?_⟩
  have := h.at k
  rw [nth_nats]
  omega
theorem MsN.set {ms : List Nat} {n k v : Nat} (h : MsN ms n) (hv : v ≤ 2 ^ (n + 1) - 2 ∧ v % 2 = 0) : MsN (ms.set k v) n :=
  ⟨by rw [List.length_set]; exact h.len, fun m hm => by
    rcases List.mem_or_eq_of_mem_set hm with hm | rfl
    · exact h.val m hm
    · exact hv⟩
def onlyV (m : Nat) : Nat := if m = 2 then 1 else if m = 4 then 2 else if m = 8 then 3 else if m = 16 then 4 else 0
theorem onlyV_le (m : Nat) : onlyV m ≤ 4 := by
  unfold onlyV
  repeat' split
  all_goals omega
theorem mvals_only {m : Nat} (h : m ≤ 30 ∧ m % 2 = 0) : ((mvals m 4).length = 1 ↔ onlyV m ≠ 0) ∧ (onlyV m ≠ 0 → mvals m 4 = [(onlyV m : Int)] ∧ m = 2 ^ onlyV m) := by
  have key : ∀ k : Nat, k < 31 → ((mvals k 4).length = 1 ↔ onlyV k ≠ 0) ∨ k % 2 = 1 := by decide
  have key2 : ∀ k : Nat, k < 31 → onlyV k ≠ 0 → mvals k 4 = [(onlyV k : Int)] ∧ k = 2 ^ onlyV k := by decide
  exact ⟨(key m (by omega)).resolve_right (by omega), key2 m (by omega)⟩
def clr (o m : Nat) : Nat := o &&& (31 ^^^ m)
theorem clr_le (o m : Nat) : clr o m ≤ o := Nat.and_le_left
theorem clr_even {o m : Nat} (h : o % 2 = 0) : clr o m % 2 = 0 := by
  unfold clr
  have : (o &&& (31 ^^^ m)) % 2 = 0 := by
    have h1 : (o &&& (31 ^^^ m)).testBit 0 = false := by
      rw [Nat.testBit_and]
      have : o.testBit 0 = false := by simpa [Nat.testBit_zero] using h
      rw [this, Bool.false_and]
    rw [Nat.testBit_zero, decide_eq_false_iff_not] at h1
    omega
  exact this
theorem andNot_small {o m : Nat} (ho : o < 32) (hm : m < 32) : bitsI .andNot .i64 (o : Int) (m : Int) = ((clr o m : Nat) : Int) := by
  have key : ∀ a : Nat, a < 32 → ∀ b : Nat, b < 32 → bitsI .andNot .i64 (a : Int) (b : Int) = ((clr a b : Nat) : Int) := by decide +kernel
  exact key o ho m hm
theorem and_small {o v : Nat} (ho : o < 32) (hv : v ≤ 4) : bitsI .and .i64 (o : Int) ((2 ^ v : Nat) : Int) = ((clr o (31 ^^^ 2 ^ v) : Nat) : Int) := by
  have key : ∀ a : Nat, a < 32 → ∀ b : Nat, b < 5 → bitsI .and .i64 (a : Int) ((2 ^ b : Nat) : Int) = ((clr a (31 ^^^ 2 ^ b) : Nat) : Int) := by decide +kernel
  exact key o ho v (by omega)
theorem lt32_bit {o b : Nat} (ho : o < 32) (hb : 5 ≤ b) : o.testBit b = false := Nat.testBit_lt_two_pow (Nat.lt_of_lt_of_le ho (by have : (2 : Nat) ^ 5 ≤ 2 ^ b := Nat.pow_le_pow_right (by omega) hb; omega))
theorem clr_bit {o m b : Nat} (ho : o < 32) : (clr o m).testBit b = (o.testBit b && !m.testBit b) := by
  unfold clr
  rw [Nat.testBit_and, Nat.testBit_xor]
  by_cases hb : b < 5
  · have h31 : (31 : Nat).testBit b = true := by
      have : b = 0 ∨ b = 1 ∨ b = 2 ∨ b = 3 ∨ b = 4 := by omega
      rcases this with rfl | rfl | rfl | rfl | rfl <;> rfl
    rw [h31, Bool.true_xor]
  · rw [lt32_bit ho (by omega)]; rfl
def clrL (R : List (Nat × Nat)) (ms : List Nat) : List Nat := R.foldl (fun o q => o.set q.1 (clr (mAt o q.1) q.2)) ms
theorem clrL_app (R S : List (Nat × Nat)) (ms : List Nat) : clrL (R ++ S) ms = clrL S (clrL R ms) := by unfold clrL; rw [List.foldl_append]
theorem clrL_one (R : List (Nat × Nat)) (c m : Nat) (ms : List Nat) : clrL (R ++ [(c, m)]) ms = (clrL R ms).set c (clr (mAt (clrL R ms) c) m) := by rw [clrL_app]; rfl
theorem clrL_len (R : List (Nat × Nat)) : ∀ ms : List Nat, (clrL R ms).length = ms.length := by
  induction R with
  | nil => intro ms; rfl
  | cons q R ih => intro ms; show (clrL R _).length = _; rw [ih, List.length_set]
theorem clrL_ok {n : Nat} (R : List (Nat × Nat)) : ∀ {ms : List Nat}, MsN ms n → MsN (clrL R ms) n := by
  induction R with
  | nil => intro ms h; exact h
  | cons q R ih =>
    intro ms h
    refine ih (ms := ms.set q.1 _) (h.set ?_)
    have := h.at q.1
    have := clr_le (mAt ms q.1) q.2
    exact ⟨by omega, clr_even (h.at q.1).2⟩
theorem clrL_bit {R : List (Nat × Nat)} : ∀ {ms : List Nat}, (∀ k, mAt ms k < 32) → ∀ {c b : Nat}, c < ms.length → (mAt (clrL R ms) c).testBit b = ((mAt ms c).testBit b && R.all fun q => !(q.1 == c && q.2.testBit b)) := by
  induction R with
  | nil => intro ms _ c b _; simp [clrL]
  | cons q R ih =>
    intro ms h c b hc
    have hlt : ∀ k, mAt (ms.set q.1 (clr (mAt ms q.1) q.2)) k < 32 := fun k => by
      by_cases hq : q.1 < ms.length
      · rw [mAt_set hq]
        split
        · exact Nat.lt_of_le_of_lt (clr_le _ _) (h _)
        · exact h k
      · rw [List.set_eq_of_length_le (by omega)]; exact h k
    have e : clrL (q :: R) ms = clrL R (ms.set q.1 (clr (mAt ms q.1) q.2)) := rfl
    rw [e, ih hlt (by rw [List.length_set]; exact hc), List.all_cons]
    by_cases hq : q.1 = c
    · rw [mAt_set (by omega), if_pos hq.symm, ← hq, clr_bit (h _)]
      simp [Bool.and_assoc]
    · have : mAt (ms.set q.1 (clr (mAt ms q.1) q.2)) c = mAt ms c := by
        by_cases hq2 : q.1 < ms.length
        · rw [mAt_set hq2, if_neg (Ne.symm hq)]
        · rw [List.set_eq_of_length_le (by omega)]
      rw [this]
      have hb : (q.1 == c) = false := by simpa using hq
      rw [hb, Bool.false_and, Bool.not_false, Bool.true_and]
theorem clrL_ext {R S : List (Nat × Nat)} {ms : List Nat} (h : ∀ k, mAt ms k < 32) (hrs : ∀ q, q ∈ R ↔ q ∈ S) : clrL R ms = clrL S ms := by
  refine mAt_ext (by rw [clrL_len, clrL_len]) fun k hk => Nat.eq_of_testBit_eq fun b => ?_
  rw [clrL_len] at hk
  rw [clrL_bit h hk, clrL_bit h hk]
  congr 1
  rw [Bool.eq_iff_iff, List.all_eq_true, List.all_eq_true]
  exact ⟨fun hr q hq => hr q ((hrs q).2 hq), fun hr q hq => hr q ((hrs q).1 hq)⟩
theorem flat_succ {α : Type} (f : Nat → List α) (k : Nat) : (List.range (k + 1)).flatMap f = (List.range k).flatMap f ++ f k := by
  rw [List.range_succ, List.flatMap_append]
  simp
def sglI (ms : List Nat) (n i : Nat) (c : Nat) : List (Nat × Nat) := if c = i then [] else [(c, mAt ms i)]
def sglK (ms : List Nat) (n i k : Nat) : List (Nat × Nat) := sglI ms n i (i / n * n + k) ++ sglI ms n i (k * n + i % n)
def sglA (ms : List Nat) (n i : Nat) : List (Nat × Nat) := if onlyV (mAt ms i) = 0 then [] else (List.range n).flatMap (sglK ms n i)
def sglM (ms : List Nat) (n : Nat) : List Nat := clrL ((List.range (n * n)).flatMap (sglA ms n)) ms
def sglJ (ms : List Nat) (n i j : Nat) : List (Nat × Nat) := if j ≠ i ∧ (j / n = i / n ∨ j % n = i % n) then [(j, mAt ms i)] else []
def sglB (ms : List Nat) (n i : Nat) : List (Nat × Nat) := if onlyV (mAt ms i) = 0 then [] else (List.range (n * n)).flatMap (sglJ ms n i)
theorem sgl_cells {n : Nat} (hn : n = 2 ∨ n = 3 ∨ n = 4) {i : Nat} (hi : i < n * n) (j : Nat) : (∃ k : Nat, k < n ∧ (j = i / n * n + k ∨ j = k * n + i % n)) ↔ j < n * n ∧ (j / n = i / n ∨ j % n = i % n) := by
  constructor
  · rintro ⟨k, hk, rfl | rfl⟩
    · refine ⟨?_, .inl ?_⟩ <;> rcases hn with rfl | rfl | rfl <;> omega
    · refine ⟨?_, .inr ?_⟩ <;> rcases hn with rfl | rfl | rfl <;> omega
  · rintro ⟨hj, h | h⟩
    · refine ⟨j % n, Nat.mod_lt _ (by omega), .inl ?_⟩
      rcases hn with rfl | rfl | rfl <;> omega
    · refine ⟨j / n, by rw [Nat.div_lt_iff_lt_mul (by omega)]; exact hj, .inr ?_⟩
      rcases hn with rfl | rfl | rfl <;> omega
theorem sgl_mem {n : Nat} (hn : n = 2 ∨ n = 3 ∨ n = 4) (ms : List Nat) {i : Nat} (hi : i < n * n) (q : Nat × Nat) : q ∈ sglA ms n i ↔ q ∈ sglB ms n i := by
  unfold sglA sglB
  split
  · exact Iff.rfl
  have hc := sgl_cells hn hi
  have e1 : q ∈ (List.range n).flatMap (sglK ms n i) ↔ (q.1 ≠ i ∧ q.2 = mAt ms i) ∧ ∃ k : Nat, k < n ∧ (q.1 = i / n * n + k ∨ q.1 = k * n + i % n) := by
    rw [List.mem_flatMap]
    constructor
    · rintro ⟨k, hk, hq⟩
      have hk := List.mem_range.1 hk
      unfold sglK sglI at hq
      rcases List.mem_append.1 hq with hq | hq <;> split at hq
      · cases hq
      · rename_i h; have hq : q = (i / n * n + k, mAt ms i) := by simpa using hq
        subst hq; exact ⟨⟨h, rfl⟩, k, hk, .inl rfl⟩
      · cases hq
      · rename_i h; have hq : q = (k * n + i % n, mAt ms i) := by simpa using hq
        subst hq; exact ⟨⟨h, rfl⟩, k, hk, .inr rfl⟩
    · rintro ⟨⟨h1, h2⟩, k, hk, h3⟩
      refine ⟨k, List.mem_range.2 hk, ?_⟩
      obtain ⟨a, b⟩ := q
      simp only at h1 h2 h3
      subst h2
      unfold sglK sglI
      rcases h3 with h3 | h3
      · refine List.mem_append.2 (.inl ?_)
        rw [← h3, if_neg h1]; simp
      · refine List.mem_append.2 (.inr ?_)
        rw [← h3, if_neg h1]; simp
  have e2 : q ∈ (List.range (n * n)).flatMap (sglJ ms n i) ↔ (q.1 ≠ i ∧ q.2 = mAt ms i) ∧ q.1 < n * n ∧ (q.1 / n = i / n ∨ q.1 % n = i % n) := by
    rw [List.mem_flatMap]
    constructor
    · rintro ⟨j, hj, hq⟩
      have hj := List.mem_range.1 hj
      unfold sglJ at hq
      split at hq
      · rename_i h; have hq : q = (j, mAt ms i) := by simpa using hq
        subst hq; exact ⟨⟨h.1, rfl⟩, hj, h.2⟩
      · cases hq
    · rintro ⟨⟨h1, h2⟩, hj, h3⟩
      refine ⟨q.1, List.mem_range.2 hj, ?_⟩
      obtain ⟨a, b⟩ := q
      simp only at h1 h2 h3 hj ⊢
      subst h2
      unfold sglJ
      rw [if_pos ⟨h1, h3⟩]; simp
  rw [e1, e2, hc]
theorem sgl_same {n : Nat} (hn : n = 2 ∨ n = 3 ∨ n = 4) {ms : List Nat} (h : MsN ms n) : clrL ((List.range (n * n)).flatMap (sglB ms n)) ms = sglM ms n := by
  refine clrL_ext (fun k => by have := h.lt hn k; omega) fun q => ?_
  rw [List.mem_flatMap, List.mem_flatMap]
  constructor
  · rintro ⟨i, hi, hq⟩; exact ⟨i, hi, (sgl_mem hn ms (List.mem_range.1 hi) q).2 hq⟩
  · rintro ⟨i, hi, hq⟩; exact ⟨i, hi, (sgl_mem hn ms (List.mem_range.1 hi) q).1 hq⟩
end Go.Lg

namespace Go.Lg
open Go.Proofs
def filledAt (xs : List Int) : List Int := ((List.range xs.length).filter fun i : Nat => decide (0 < nth xs i)).map fun i : Nat => (i : Int)
def gameOk (g : Gam) : Prop := g.moves.Nodup ∧ (∀ c ∈ g.moves, c ∈ filledAt g.put) ∧ ∀ c ∈ filledAt g.put, c ∈ g.moves ∧ nth g.task.given c ≤ 0
instance (g : Gam) : Decidable (gameOk g) := by unfold gameOk; infer_instance
def eBo (b : Bool) : List FV := [.bool b]
instance : HSz eBo 1 := ⟨fun _ => rfl⟩
theorem eBo_0 (b : Bool) (d : FV) : (eBo b).getD 0 d = .bool b := rfl
theorem zerosBo (n : Nat) : zerosL (n * 1) [.f (.bool false)] = cl eBo (List.replicate n false) := by
  simp only [zerosL, Nat.mul_one, List.length_singleton, Nat.mod_one]
  induction n with
  | zero => rfl
  | succ n ih => rw [List.range_succ, List.map_append, ih, List.replicate_succ', cl_append]; rfl
theorem setBo {xs : List Bool} {e : Int} {v : Bool} (h : 0 ≤ e ∧ e < (xs.length : Int)) : setRange (cl eBo xs) (0 + e.toNat * 1) [.f (.bool v)] = cl eBo (xs.set e.toNat v) :=
  setRange_cl (E := eBo) (by omega)
attribute [go_sem] eBo_0 zerosBo setBo
end Go.Lg

namespace Go.Lg
open Go.Proofs
theorem binA_ne {P : Program} {H : Heap} {t e : TypeId} {ti : TI} {n : Nat} {cs : List FV} (ht : tinf P t = some ti) (hk : ti.k = .slice e) (hn : 0 < n) : binA P H .eql t (.c (.f (.sl n cs))) (.c (.f .nil)) = some (.c (.f (.bool false))) := by
  unfold binA
  simp only [ht, hk, isNilV, if_neg (show ¬ n = 0 by omega)]
  rfl
end Go.Lg

namespace Go.Lg
open Go.Proofs
theorem allValues_run {n : Nat} (hn : n = 2 ∨ n = 3 ∨ n = 4) : Reads Tryz.prog 33 [int n] (int ((2 ^ (n + 1) - 2 : Nat) : Int)) := by
  have hpw : (2 ^ (n + 1) : Nat) ≤ 32 ∧ 8 ≤ (2 ^ (n + 1) : Nat) := by rcases hn with rfl | rfl | rfl <;> omega
  refine RunCall.cw (c := _) Tryz.func33 rfl (n := 7) Tryz.ntmps33 (rs := [.tmp 2]) rfl ?_
  simp only[List.length_cons,List.length_nil,zA,zS,List.replicate,List.cons_append,List.nil_append]
  simp(maxSteps:=999999)(disch:=omega)only[go_sem,zA,zM,zS,zE,zL, shl_n hn]
  omega
theorem maskAt_lt {xs : List Int} {n : Nat} (hn : n = 2 ∨ n = 3 ∨ n = 4) {c : Int} (h : nth xs c ≤ 4) : maskAt xs n c < 32 := by
  unfold maskAt
  split
  · generalize nth xs c = v at *
    have : v.toNat = 0 ∨ v.toNat = 1 ∨ v.toNat = 2 ∨ v.toNat = 3 ∨ v.toNat = 4 := by omega
    rcases this with h | h | h | h | h <;> rw [h] <;> omega
  · rcases hn with rfl | rfl | rfl <;> omega
theorem canHold_run {n : Nat} (hn : n = 2 ∨ n = 3 ∨ n = 4) (r : Rul) (xs : List Int) (hr : ruleValid r n = true) (hg : GrdN xs n) : Reads Tryz.prog 92 [aR r, ints xs, int n] (bool (canHold r xs n)) := by
  obtain ⟨h1, h2, h3, _⟩ := ruleValid_facts hr
  have hxl := hg.len
  have hsq : n * n ≤ 16 := by rcases hn with rfl | rfl | rfl <;> omega
  have hpw : (2 ^ (n + 1) : Nat) ≤ 32 ∧ 8 ≤ (2 ^ (n + 1) : Nat) := by rcases hn with rfl | rfl | rfl <;> omega
  obtain ⟨os, hos⟩ : ∃ os, os = r.cells.map (maskAt xs n) := ⟨_, rfl⟩
  have hol : os.length = r.cells.length := by rw [hos]; simp
  have hnl : (nats os).length = os.length := nats_length os
  have hx4 : ∀ c ∈ r.cells, 0 ≤ nth xs c ∧ nth xs c ≤ n := fun c hc => by
    have := h3 c hc
    obtain ⟨k, rfl⟩ : ∃ k : Nat, c = k := ⟨c.toNat, by omega⟩
    exact hg.val k (by omega)
  have hob : ∀ m ∈ os, m < 32 := fun m hm => by
    rw [hos] at hm
    obtain ⟨c, hc, rfl⟩ := List.mem_map.1 hm
    have := hx4 c hc
    exact maskAt_lt hn (by omega)
  have hkind : r.kind = 1 ∨ r.kind = 2 ∨ r.kind = 3 ∨ (r.kind = 4 ∨ r.kind = 5) ∧ 2 ≤ os.length := by
    have hr' := hr
    simp only [ruleValid, decide_eq_true_eq] at hr'
    obtain ⟨_, _, k3⟩ := hr'
    unfold ruleShape at k3
    omega
  refine RunCall.cw (c := _) Tryz.func92 rfl (n := 43) Tryz.ntmps92 (rs := [.tmp 6]) rfl ?_
  simp only[List.length_cons,List.length_nil,zA,zS,List.replicate,List.cons_append,List.nil_append]
  simp(maxSteps:=999999)(disch:=omega)only[go_sem,zA,zM,zS,zE,zL]
  intro g1 g2
  refine loop_rule2 (fun (k g : Nat) => os.length - k) (fun k g => k ≤ os.length) (fun k g => [.a, .k, .k, .k, .a, .a, .a, .p (.c (.own 1 g 0 k none)), .a, .a, .a, .a, .k, .k, .p (int k), .a, .a, .a, .a, .a, .a, .a, .a, .a, .a, .a, .a, .a, .a, .a, .a, .a, .a, .a, .a, .a, .a, .a, .a, .a, .a, .a, .a]) (fun k g => [some ⟨g1, 1, cR r⟩, some ⟨g, 1, cl (eI .i64) ((nats os).take k)⟩]) 0 g2 (Nat.zero_le _) (by simp(maxSteps:=999999)(disch:=omega)only[go_sem,zA,zM,zS,zE,zL]; rfl) (HLe.refl _) ?_
  intro k g hk
  simp(maxSteps:=999999)(disch:=omega)only[go_sem,zA,zM,zS,zE,zL]
  ((first|(with_reducible first|refine condK_dec ?_ ?_|refine condK_ndec ?_ ?_|refine condK_nb ?_ ?_)|refine condK_b ?_ ?_) <;> intro c1)
  · have c1 : k < r.cells.length := by omega
    have hmem : nth r.cells k ∈ r.cells := nth_mem c1
    have hcb := h3 _ hmem
    have hcv := hx4 _ hmem
    have hM : (nats os).take (k + 1) = (nats os).take k ++ [((maskAt xs n (nth r.cells k) : Nat) : Int)] := by
      rw [take_succ_nth (by omega), nats_nth (by omega)]
      simp only [hos, List.getElem_map]
      rw [nth_eq (by omega)]
      rfl
    have htl : ((nats os).take k).length = k := by rw [List.length_take, hnl]; omega
    obtain ⟨c, hc⟩ : ∃ c : Nat, nth r.cells k = c := ⟨(nth r.cells k).toNat, by omega⟩
    rw [hc] at hcb hcv hM
    have hcl : c < xs.length := by omega
    simp(maxSteps:=999999)(disch:=omega)only[go_sem,zA,zM,zS,zE,zL, hc]
    ((first|(with_reducible first|refine condK_dec ?_ ?_|refine condK_ndec ?_ ?_|refine condK_nb ?_ ?_)|refine condK_b ?_ ?_) <;> intro c2)
    · have hz : maskAt xs n c = 2 ^ (nth xs c).toNat := by unfold maskAt; rw [if_pos c2]
      simp(maxSteps:=999999)(disch:=omega)only[go_sem,zA,zM,zS,zE,zL, shl_small (v := nth xs c) (by omega)]
      intro g3 g4
      refine ⟨k + 1, g4, ⟨by omega, by omega⟩, ⟨⟨rfl, rfl⟩, by push_cast; omega⟩, ?_⟩
      rw [hM, hz]
      exact HLe.app [_, _] [_]
    · have hz : maskAt xs n c = 2 ^ (n + 1) - 2 := by unfold maskAt; rw [if_neg c2]
      simp(maxSteps:=999999)(disch:=omega)only[go_sem,zA,zM,zS,zE,zL]
      first | refine OpS.rd (allValues_run hn) (⟨_, Tryz.func33, rfl, rfl⟩ : Enters Tryz.prog 33) rfl rfl rfl rfl ?_ | refine Loud.rd (allValues_run hn) (⟨_, Tryz.func33, rfl, rfl⟩ : Enters Tryz.prog 33) rfl rfl rfl rfl ?_
      simp(maxSteps:=999999)(disch:=omega)only[go_sem,zA,zM,zS,zE,zL]
      intro g3 g4
      refine ⟨k + 1, g4, ⟨by omega, by omega⟩, ⟨⟨rfl, rfl⟩, by push_cast; omega⟩, ?_⟩
      rw [hM, hz]
      exact HLe.app [_, _] [_]
  · have hke : k = os.length := by omega
    have hMe : (nats os).take k = nats os := List.take_of_length_le (by omega)
    simp(maxSteps:=999999)(disch:=omega)only[go_sem,zA,zM,zS,zE,zL]
    rw [hMe]
    have hown : OwnI [some ⟨g1, 1, cR r⟩, some ⟨g, 1, cl (eI .i64) (nats os)⟩] (.own 1 g 0 k none) (nats os) [1] := by
      have := OwnI.o (H := [some ⟨g1, 1, cR r⟩, some ⟨g, 1, cl (eI .i64) (nats os)⟩]) 1 g none (nats os) [] (by rw [List.append_nil]; simp only [go_sem])
      rwa [hnl, ← hke] at this
    refine OpS.mkDI (ruleMasks_own r os (by omega) hob hkind) (⟨_, Tryz.func102, rfl, rfl⟩ : Enters Tryz.prog 102) rfl rfl (snap_two rfl hown.snap) ?_
    intro c H2 S2 o2 hS2
    have hln : 0 < (nats (ways r os [] (List.replicate os.length 0))).length := by
      rw [nats_length, ways_len _ _ _ _ (by simp)]
      simp
      omega
    obtain ⟨id, g', lim, ys, rfl, rfl, hlk⟩ := o2.inv' hln
    have hch : canHold r xs n = ((ways r os [] (List.replicate os.length 0)).getD 0 0 != 0) := by unfold canHold; rw [hol, ← hos]
    rw [hch]
    have hld : ldP (some ⟨g', 1, cl (eI .i64) (nats (ways r os [] (List.replicate os.length 0)) ++ ys)⟩) 0 = some (int (((ways r os [] (List.replicate os.length 0)).getD 0 0 : Nat) : Int)) := by
      rw [nats_length] at hln
      obtain ⟨a, t, he⟩ := List.exists_cons_of_length_pos hln
      rw [he]
      rfl
    have hlk' : look (some ⟨g1, 1, cR r⟩ :: some ⟨g, 1, cl (eI .i64) (nats os)⟩ :: H2) id g' = some ⟨g', 1, cl (eI .i64) (nats (ways r os [] (List.replicate os.length 0)) ++ ys)⟩ := hlk
    have hl0 : 0 < (nats (ways r os [] (List.replicate os.length 0)) ++ ys).length := by simp only [List.length_append]; omega
    simp(maxSteps:=999999)(disch:=omega)only[go_sem,zA,zM,zS,zE,zL, hlk', Int.reduceToNat, hld]
    generalize (ways r os [] (List.replicate os.length 0)).getD 0 0 = x
    by_cases hx : x = 0
    · subst hx; rfl
    · rw [decide_eq_false (by omega)]
      simp [hx]
theorem iLineCells_own {n line : Nat} (hn : n = 2 ∨ n = 3 ∨ n = 4) (hl : line < 2 * n) : RunCall Tryz.prog 88 [int n, int line] [] (ownQ (eI .i64) 1 (lineC n line)) := by
  have hb : (line : Int) * n ≤ 28 ∧ 0 ≤ (line : Int) * n := by rcases hn with rfl | rfl | rfl <;> omega
  have hn4 : 2 ≤ n ∧ n ≤ 4 := by omega
  have hlen := lineC_length n line
  refine RunCall.cw (c := _) Tryz.func88 rfl (n := 49) Tryz.ntmps88 (rs := [.tmp 4]) rfl ?_
  simp only[List.length_cons,List.length_nil,zA,zS,List.replicate,List.cons_append,List.nil_append]
  simp(maxSteps:=999999)(disch:=omega)only[go_sem,zA,zM,zS,zE,zL]
  first | refine OpS.rd (sizeOk_run _) (⟨_, Tryz.func51, rfl, rfl⟩ : Enters Tryz.prog 51) rfl rfl rfl rfl ?_ | refine Loud.rd (sizeOk_run _) (⟨_, Tryz.func51, rfl, rfl⟩ : Enters Tryz.prog 51) rfl rfl rfl rfl ?_
  simp(maxSteps:=999999)(disch:=omega)only[go_sem,zA,zM,zS,zE,zL]
  ((with_reducible first|refine guardK_dec ?_ ?_|refine guardK_ndec ?_ ?_|refine guardK_nb ?_ ?_|refine guardK_split ?_ ?_|refine guardQ_dec ?_ ?_|refine guardL_dec ?_ ?_|refine guardQ_ndec ?_ ?_|refine guardL_ndec ?_ ?_|refine guardQ_nb ?_ ?_|refine guardL_nb ?_ ?_|refine guardQ_split ?_ ?_|refine guardL_split ?_ ?_) <;> intro a1 <;> simp(maxSteps:=999999)(disch:=omega)only[go_sem,zA,zM,zS,zE,zL, a1])
  rotate_left
  · exfalso; omega
  ((with_reducible first|refine guardK_dec ?_ ?_|refine guardK_ndec ?_ ?_|refine guardK_nb ?_ ?_|refine guardK_split ?_ ?_|refine guardQ_dec ?_ ?_|refine guardL_dec ?_ ?_|refine guardQ_ndec ?_ ?_|refine guardL_ndec ?_ ?_|refine guardQ_nb ?_ ?_|refine guardL_nb ?_ ?_|refine guardQ_split ?_ ?_|refine guardL_split ?_ ?_) <;> intro a2 <;> simp(maxSteps:=999999)(disch:=omega)only[go_sem,zA,zM,zS,zE,zL, a2])
  · exfalso; omega
  ((first|(with_reducible first|refine condK_dec ?_ ?_|refine condK_ndec ?_ ?_|refine condK_nb ?_ ?_)|refine condK_b ?_ ?_) <;> intro a3)
  · exfalso; omega
  simp(maxSteps:=999999)(disch:=omega)only[go_sem,zA,zM,zS,zE,zL]
  intro g
  refine loop_rule2 (fun (k g : Nat) => n - k) (fun k g => k ≤ n) (fun k g => [.k, .k, .a, .a, .a, .p (.c (.own 0 g 0 k none)), .a, .a, .a, .a, .a, .a, .a, .a, .a, .a, .a, .a, .a, .a, .a, .a, .k, .p (int k), .a, .a, .a, .a, .a, .a, .a, .a, .a, .a, .a, .a, .a, .a, .a, .a, .a, .a, .a, .a, .a, .a, .a, .a, .a]) (fun k g => [some ⟨g, 1, cl (eI .i64) ((lineC n line).take k)⟩]) 0 g
    (Nat.zero_le _) (by simp(maxSteps:=999999)(disch:=omega)only[go_sem,zA,zM,zS,zE,zL]; rfl) (HLe.refl _) ?_
  intro k g hk
  simp(maxSteps:=999999)(disch:=omega)only[go_sem,zA,zM,zS,zE,zL]
  ((first|(with_reducible first|refine condK_dec ?_ ?_|refine condK_ndec ?_ ?_|refine condK_nb ?_ ?_)|refine condK_b ?_ ?_) <;> intro h1)
  · have h1 : k < n := by omega
    have hkb : (k : Int) * n ≤ 16 ∧ 0 ≤ (k : Int) * n := by rcases hn with rfl | rfl | rfl <;> omega
    have hne := lineC_nth (line := line) h1
    simp(maxSteps:=999999)(disch:=omega)only[go_sem,zA,zM,zS,zE,zL]
    ((first|(with_reducible first|refine condK_dec ?_ ?_|refine condK_ndec ?_ ?_|refine condK_nb ?_ ?_)|refine condK_b ?_ ?_) <;> intro h4)
    · simp(maxSteps:=999999)(disch:=omega)only[go_sem,zA,zM,zS,zE,zL]
      intro g1 g2
      refine ⟨k + 1, g2, ⟨by omega, by omega⟩, ⟨⟨rfl, rfl⟩, by push_cast; omega⟩, hle_eq ?_ (hle_nil _)⟩
      rw [take_succ_nth (by omega), hne, if_pos (by omega)]
      push_cast
      rfl
    · simp(maxSteps:=999999)(disch:=omega)only[go_sem,zA,zM,zS,zE,zL]
      intro g1 g2
      refine ⟨k + 1, g2, ⟨by omega, by omega⟩, ⟨⟨rfl, rfl⟩, by push_cast; omega⟩, hle_eq ?_ (hle_nil _)⟩
      rw [take_succ_nth (by omega), hne, if_neg (by omega)]
      have : ((k * n + line - n : Nat) : Int) = (k : Int) * n + line - n := by
        have : n ≤ k * n + line := by omega
        omega
      rw [this]
  · have hi' : k = n := by omega
    subst hi'
    simp(maxSteps:=999999)(disch:=omega)only[go_sem,zA,zM,zS,zE,zL]
    rw [List.take_of_length_le (by omega)]
    have := lessQ_own (E := eI .i64) (n := 1) (g := g) (xs := lineC k line) (HLe.refl [some ⟨g, 1, cl (eI .i64) (lineC k line)⟩])
    rw [hlen] at this
    exact this
theorem iLineCells_run {n line : Nat} (hn : n = 2 ∨ n = 3 ∨ n = 4) (hl : line < 2 * n) : Reads Tryz.prog 88 [int n, int line] (ints (lineC n line)) := Reads.own (iLineCells_own hn hl)
end Go.Lg
