/- GpMA, GpK, GpA, GpL, GpP, cut to what is needed. -/
import Derived.Test.YtcopagjhklcokaaRfc0
import Derived.Test.YtcopagjhklcokaaRfc1
import Derived.Test.YtcopagjhklcokaaRfb4
import Derived.Test.YtcopagjhklcokaaRfb3
open Nat(reduceAdd reduceMul reduceSub reduceEqDiff reduceLeDiff)
set_option linter.unusedSimpArgs false
set_option linter.unusedVariables false
set_option maxRecDepth 100000
namespace Go.Lg
open Go.Proofs
def mAt (ms : List Nat) (k : Nat) : Nat := ms.getD k 0
theorem nth_nats (ms : List Nat) (k : Nat) : nth (nats ms) k = ((mAt ms k : Nat) : Int) := by
  unfold nth nats mAt
  rw [Int.toNat_natCast]
  simp only [List.getD, List.getElem?_map]
  by_cases h : k < ms.length
  · rw [List.getElem?_eq_getElem h]; rfl
  · rw [List.getElem?_eq_none (by omega)]; rfl
theorem nats_len (ms : List Nat) : (nats ms).length = ms.length := by simp [nats]
theorem nats_set (ms : List Nat) (k v : Nat) : (nats ms).set k ((v : Nat) : Int) = nats (ms.set k v) := by simp [nats, List.map_set]
theorem setRange_nats {b : List Nat} {k v : Nat} (h : k < b.length) : setRange (cl (eI .i64) (nats b)) (0 + ((k : Nat) : Int).toNat * 1) [CV.f (.int .i64 ((v : Nat) : Int))] = cl (eI .i64) (nats (b.set k v)) := by
  rw [Int.toNat_natCast, ← nats_set]
  exact setRange_cl (E := eI .i64) (n := 1) (by rw [nats_len]; exact h)
theorem nats_tk {ms : List Nat} {k : Nat} (h : k < ms.length) : nats (ms.take (k + 1)) = nats (ms.take k) ++ [((mAt ms k : Nat) : Int)] := by
  have e : mAt ms k = ms[k] := by unfold mAt; simp [List.getD, List.getElem?_eq_getElem h]
  rw [e, List.take_succ_eq_append_getElem h]
  unfold nats
  rw [List.map_append]
  rfl
theorem nats_inj {a b : List Nat} : nats a = nats b ↔ a = b := by
  constructor
  · intro h
    exact (List.map_inj_right (fun x y h => by omega)).1 h
  · rintro rfl; rfl
theorem mAt_set {ms : List Nat} {k v i : Nat} (h : k < ms.length) : mAt (ms.set k v) i = if i = k then v else mAt ms i := by
  unfold mAt
  simp only [List.getD, List.getElem?_set]
  by_cases hi : k = i
  · subst hi; simp [h]
  · rw [if_neg hi, if_neg (Ne.symm hi)]
theorem mAt_over {ms : List Nat} {k : Nat} (h : ms.length ≤ k) : mAt ms k = 0 := by
  unfold mAt
  simp [List.getD, List.getElem?_eq_none h]
theorem mAt_mem {ms : List Nat} {k : Nat} (h : k < ms.length) : mAt ms k ∈ ms := by
  unfold mAt
  simp [List.getD, List.getElem?_eq_getElem h]
theorem mAt_ext {a b : List Nat} (hl : a.length = b.length) (h : ∀ k, k < a.length → mAt a k = mAt b k) : a = b := by
  refine List.ext_getElem hl fun i h1 h2 => ?_
  have := h i h1
  unfold mAt at this
  simpa [List.getD, List.getElem?_eq_getElem h1, List.getElem?_eq_getElem h2] using this
structure MsN (ms : List Nat) (n : Nat) : Prop where
  len : ms.length = n * n
  val : ∀ m ∈ ms, m ≤ 2 ^ (n + 1) - 2 ∧ m % 2 = 0
theorem MsN.at {ms : List Nat} {n : Nat} (h : MsN ms n) (k : Nat) : mAt ms k ≤ 2 ^ (n + 1) - 2 ∧ mAt ms k % 2 = 0 := by
  by_cases hk : k < ms.length
  · exact h.val _ (mAt_mem hk)
  · rw [mAt_over (by omega)]; exact ⟨Nat.zero_le _, rfl⟩
theorem pow_n {n : Nat} (hn : n = 2 ∨ n = 3 ∨ n = 4) : 8 ≤ 2 ^ (n + 1) ∧ 2 ^ (n + 1) ≤ 32 := by rcases hn with rfl | rfl | rfl <;> decide
theorem MsN.lt {ms : List Nat} {n : Nat} (hn : n = 2 ∨ n = 3 ∨ n = 4) (h : MsN ms n) (k : Nat) : mAt ms k ≤ 30 ∧ mAt ms k % 2 = 0 := by
  have := h.at k
  have := pow_n hn
  omega
theorem MsN.ok {ms : List Nat} {n : Nat} (h : MsN ms n) : MasksOk (nats ms) n := by
  refine ⟨by rw [nats_len]; exact h.len, fun k hk => ?_⟩
  have := h.at k
  rw [nth_nats]
  omega
theorem MsN.set {ms : List Nat} {n k v : Nat} (h : MsN ms n) (hv : v ≤ 2 ^ (n + 1) - 2 ∧ v % 2 = 0) : MsN (ms.set k v) n :=
  ⟨by rw [List.length_set]; exact h.len, fun m hm => by
    rcases List.mem_or_eq_of_mem_set hm with hm | rfl
    · exact h.val m hm
    · exact hv⟩
def onlyV (m : Nat) : Nat := if m = 2 then 1 else if m = 4 then 2 else if m = 8 then 3 else if m = 16 then 4 else 0
theorem mvals_only {m : Nat} (h : m ≤ 30 ∧ m % 2 = 0) : ((mvals m 4).length = 1 ↔ onlyV m ≠ 0) ∧ (onlyV m ≠ 0 → mvals m 4 = [(onlyV m : Int)] ∧ m = 2 ^ onlyV m) := by
  have key : ∀ k : Nat, k < 31 → ((mvals k 4).length = 1 ↔ onlyV k ≠ 0) ∨ k % 2 = 1 := by decide
  have key2 : ∀ k : Nat, k < 31 → onlyV k ≠ 0 → mvals k 4 = [(onlyV k : Int)] ∧ k = 2 ^ onlyV k := by decide
  exact ⟨(key m (by omega)).resolve_right (by omega), key2 m (by omega)⟩
def clr (o m : Nat) : Nat := o &&& (31 ^^^ m)
theorem clr_le (o m : Nat) : clr o m ≤ o := Nat.and_le_left
theorem clr_even {o m : Nat} (h : o % 2 = 0) : clr o m % 2 = 0 := by
  unfold clr
  have : (o &&& (31 ^^^ m)) % 2 = 0 := by
    have h1 : (o &&& (31 ^^^ m)).testBit 0 = false := by
      rw [Nat.testBit_and]
      have : o.testBit 0 = false := by simpa [Nat.testBit_zero] using h
      rw [this, Bool.false_and]
    rw [Nat.testBit_zero, decide_eq_false_iff_not] at h1
    omega
  exact this
theorem andNot_small {o m : Nat} (ho : o < 32) (hm : m < 32) : bitsI .andNot .i64 (o : Int) (m : Int) = ((clr o m : Nat) : Int) := by
  have key : ∀ a : Nat, a < 32 → ∀ b : Nat, b < 32 → bitsI .andNot .i64 (a : Int) (b : Int) = ((clr a b : Nat) : Int) := by decide +kernel
  exact key o ho m hm
theorem and_small {o v : Nat} (ho : o < 32) (hv : v ≤ 4) : bitsI .and .i64 (o : Int) ((2 ^ v : Nat) : Int) = ((clr o (31 ^^^ 2 ^ v) : Nat) : Int) := by
  have key : ∀ a : Nat, a < 32 → ∀ b : Nat, b < 5 → bitsI .and .i64 (a : Int) ((2 ^ b : Nat) : Int) = ((clr a (31 ^^^ 2 ^ b) : Nat) : Int) := by decide +kernel
  exact key o ho v (by omega)
theorem lt32_bit {o b : Nat} (ho : o < 32) (hb : 5 ≤ b) : o.testBit b = false := Nat.testBit_lt_two_pow (Nat.lt_of_lt_of_le ho (by have : (2 : Nat) ^ 5 ≤ 2 ^ b := Nat.pow_le_pow_right (by omega) hb; omega))
theorem clr_bit {o m b : Nat} (ho : o < 32) : (clr o m).testBit b = (o.testBit b && !m.testBit b) := by
  unfold clr
  rw [Nat.testBit_and, Nat.testBit_xor]
  by_cases hb : b < 5
  · have h31 : (31 : Nat).testBit b = true := by
      have : b = 0 ∨ b = 1 ∨ b = 2 ∨ b = 3 ∨ b = 4 := by omega
      rcases this with rfl | rfl | rfl | rfl | rfl <;> rfl
    rw [h31, Bool.true_xor]
  · rw [lt32_bit ho (by omega)]; rfl
def clrL (R : List (Nat × Nat)) (ms : List Nat) : List Nat := R.foldl (fun o q => o.set q.1 (clr (mAt o q.1) q.2)) ms
theorem clrL_app (R S : List (Nat × Nat)) (ms : List Nat) : clrL (R ++ S) ms = clrL S (clrL R ms) := by unfold clrL; rw [List.foldl_append]
theorem clrL_one (R : List (Nat × Nat)) (c m : Nat) (ms : List Nat) : clrL (R ++ [(c, m)]) ms = (clrL R ms).set c (clr (mAt (clrL R ms) c) m) := by rw [clrL_app]; rfl
theorem clrL_len (R : List (Nat × Nat)) : ∀ ms : List Nat, (clrL R ms).length = ms.length := by
  induction R with
  | nil => intro ms; rfl
  | cons q R ih => intro ms; show (clrL R _).length = _; rw [ih, List.length_set]
theorem clrL_ok {n : Nat} (R : List (Nat × Nat)) : ∀ {ms : List Nat}, MsN ms n → MsN (clrL R ms) n := by
  induction R with
  | nil => intro ms h; exact h
  | cons q R ih =>
    intro ms h
    refine ih (ms := ms.set q.1 _) (h.set ?_)
    have := h.at q.1
    have := clr_le (mAt ms q.1) q.2
    exact ⟨by omega, clr_even (h.at q.1).2⟩
theorem clrL_bit {R : List (Nat × Nat)} : ∀ {ms : List Nat}, (∀ k, mAt ms k < 32) → ∀ {c b : Nat}, c < ms.length → (mAt (clrL R ms) c).testBit b = ((mAt ms c).testBit b && R.all fun q => !(q.1 == c && q.2.testBit b)) := by
  induction R with
  | nil => intro ms _ c b _; simp [clrL]
  | cons q R ih =>
    intro ms h c b hc
    have hlt : ∀ k, mAt (ms.set q.1 (clr (mAt ms q.1) q.2)) k < 32 := fun k => by
      by_cases hq : q.1 < ms.length
      · rw [mAt_set hq]
        split
        · exact Nat.lt_of_le_of_lt (clr_le _ _) (h _)
        · exact h k
      · rw [List.set_eq_of_length_le (by omega)]; exact h k
    have e : clrL (q :: R) ms = clrL R (ms.set q.1 (clr (mAt ms q.1) q.2)) := rfl
    rw [e, ih hlt (by rw [List.length_set]; exact hc), List.all_cons]
    by_cases hq : q.1 = c
    · rw [mAt_set (by omega), if_pos hq.symm, ← hq, clr_bit (h _)]
      simp [Bool.and_assoc]
    · have : mAt (ms.set q.1 (clr (mAt ms q.1) q.2)) c = mAt ms c := by
        by_cases hq2 : q.1 < ms.length
        · rw [mAt_set hq2, if_neg (Ne.symm hq)]
        · rw [List.set_eq_of_length_le (by omega)]
      rw [this]
      have hb : (q.1 == c) = false := by simpa using hq
      rw [hb, Bool.false_and, Bool.not_false, Bool.true_and]
theorem clrL_ext {R S : List (Nat × Nat)} {ms : List Nat} (h : ∀ k, mAt ms k < 32) (hrs : ∀ q, q ∈ R ↔ q ∈ S) : clrL R ms = clrL S ms := by
  refine mAt_ext (by rw [clrL_len, clrL_len]) fun k hk => Nat.eq_of_testBit_eq fun b => ?_
  rw [clrL_len] at hk
  rw [clrL_bit h hk, clrL_bit h hk]
  congr 1
  rw [Bool.eq_iff_iff, List.all_eq_true, List.all_eq_true]
  exact ⟨fun hr q hq => hr q ((hrs q).2 hq), fun hr q hq => hr q ((hrs q).1 hq)⟩
theorem flat_succ {α : Type} (f : Nat → List α) (k : Nat) : (List.range (k + 1)).flatMap f = (List.range k).flatMap f ++ f k := by
  rw [List.range_succ, List.flatMap_append]
  simp
def sglI (ms : List Nat) (n i : Nat) (c : Nat) : List (Nat × Nat) := if c = i then [] else [(c, mAt ms i)]
def sglK (ms : List Nat) (n i k : Nat) : List (Nat × Nat) := sglI ms n i (i / n * n + k) ++ sglI ms n i (k * n + i % n)
def sglA (ms : List Nat) (n i : Nat) : List (Nat × Nat) := if onlyV (mAt ms i) = 0 then [] else (List.range n).flatMap (sglK ms n i)
def sglM (ms : List Nat) (n : Nat) : List Nat := clrL ((List.range (n * n)).flatMap (sglA ms n)) ms
def sglJ (ms : List Nat) (n i j : Nat) : List (Nat × Nat) := if j ≠ i ∧ (j / n = i / n ∨ j % n = i % n) then [(j, mAt ms i)] else []
def sglB (ms : List Nat) (n i : Nat) : List (Nat × Nat) := if onlyV (mAt ms i) = 0 then [] else (List.range (n * n)).flatMap (sglJ ms n i)
theorem sgl_cells {n : Nat} (hn : n = 2 ∨ n = 3 ∨ n = 4) {i : Nat} (hi : i < n * n) (j : Nat) : (∃ k : Nat, k < n ∧ (j = i / n * n + k ∨ j = k * n + i % n)) ↔ j < n * n ∧ (j / n = i / n ∨ j % n = i % n) := by
  constructor
  · rintro ⟨k, hk, rfl | rfl⟩
    · refine ⟨?_, .inl ?_⟩ <;> rcases hn with rfl | rfl | rfl <;> omega
    · refine ⟨?_, .inr ?_⟩ <;> rcases hn with rfl | rfl | rfl <;> omega
  · rintro ⟨hj, h | h⟩
    · refine ⟨j % n, Nat.mod_lt _ (by omega), .inl ?_⟩
      rcases hn with rfl | rfl | rfl <;> omega
    · refine ⟨j / n, by rw [Nat.div_lt_iff_lt_mul (by omega)]; exact hj, .inr ?_⟩
      rcases hn with rfl | rfl | rfl <;> omega
theorem sgl_mem {n : Nat} (hn : n = 2 ∨ n = 3 ∨ n = 4) (ms : List Nat) {i : Nat} (hi : i < n * n) (q : Nat × Nat) : q ∈ sglA ms n i ↔ q ∈ sglB ms n i := by
  unfold sglA sglB
  split
  · exact Iff.rfl
  have hc := sgl_cells hn hi
  have e1 : q ∈ (List.range n).flatMap (sglK ms n i) ↔ (q.1 ≠ i ∧ q.2 = mAt ms i) ∧ ∃ k : Nat, k < n ∧ (q.1 = i / n * n + k ∨ q.1 = k * n + i % n) := by
    rw [List.mem_flatMap]
    constructor
    · rintro ⟨k, hk, hq⟩
      have hk := List.mem_range.1 hk
      unfold sglK sglI at hq
      rcases List.mem_append.1 hq with hq | hq <;> split at hq
      · cases hq
      · rename_i h; have hq : q = (i / n * n + k, mAt ms i) := by simpa using hq
        subst hq; exact ⟨⟨h, rfl⟩, k, hk, .inl rfl⟩
      · cases hq
      · rename_i h; have hq : q = (k * n + i % n, mAt ms i) := by simpa using hq
        subst hq; exact ⟨⟨h, rfl⟩, k, hk, .inr rfl⟩
    · rintro ⟨⟨h1, h2⟩, k, hk, h3⟩
      refine ⟨k, List.mem_range.2 hk, ?_⟩
      obtain ⟨a, b⟩ := q
      simp only at h1 h2 h3
      subst h2
      unfold sglK sglI
      rcases h3 with h3 | h3
      · refine List.mem_append.2 (.inl ?_)
        rw [← h3, if_neg h1]; simp
      · refine List.mem_append.2 (.inr ?_)
        rw [← h3, if_neg h1]; simp
  have e2 : q ∈ (List.range (n * n)).flatMap (sglJ ms n i) ↔ (q.1 ≠ i ∧ q.2 = mAt ms i) ∧ q.1 < n * n ∧ (q.1 / n = i / n ∨ q.1 % n = i % n) := by
    rw [List.mem_flatMap]
    constructor
    · rintro ⟨j, hj, hq⟩
      have hj := List.mem_range.1 hj
      unfold sglJ at hq
      split at hq
      · rename_i h; have hq : q = (j, mAt ms i) := by simpa using hq
        subst hq; exact ⟨⟨h.1, rfl⟩, hj, h.2⟩
      · cases hq
    · rintro ⟨⟨h1, h2⟩, hj, h3⟩
      refine ⟨q.1, List.mem_range.2 hj, ?_⟩
      obtain ⟨a, b⟩ := q
      simp only at h1 h2 h3 hj ⊢
      subst h2
      unfold sglJ
      rw [if_pos ⟨h1, h3⟩]; simp
  rw [e1, e2, hc]
theorem sgl_same {n : Nat} (hn : n = 2 ∨ n = 3 ∨ n = 4) {ms : List Nat} (h : MsN ms n) : clrL ((List.range (n * n)).flatMap (sglB ms n)) ms = sglM ms n := by
  refine clrL_ext (fun k => by have := h.lt hn k; omega) fun q => ?_
  rw [List.mem_flatMap, List.mem_flatMap]
  constructor
  · rintro ⟨i, hi, hq⟩; exact ⟨i, hi, (sgl_mem hn ms (List.mem_range.1 hi) q).2 hq⟩
  · rintro ⟨i, hi, hq⟩; exact ⟨i, hi, (sgl_mem hn ms (List.mem_range.1 hi) q).1 hq⟩
end Go.Lg

set_option linter.unusedSimpArgs false
set_option linter.unusedVariables false
set_option maxRecDepth 100000
namespace Go.Lg
open Go.Proofs
def filledAt (xs : List Int) : List Int := ((List.range xs.length).filter fun i : Nat => decide (0 < nth xs i)).map fun i : Nat => (i : Int)
def gameOk (g : Gam) : Prop := g.moves.Nodup ∧ (∀ c ∈ g.moves, c ∈ filledAt g.put) ∧ ∀ c ∈ filledAt g.put, c ∈ g.moves ∧ nth g.task.given c ≤ 0
instance (g : Gam) : Decidable (gameOk g) := by unfold gameOk; infer_instance
def eBo (b : Bool) : List FV := [.bool b]
instance : HSz eBo 1 := ⟨fun _ => rfl⟩
theorem eBo_0 (b : Bool) (d : FV) : (eBo b).getD 0 d = .bool b := rfl
theorem zerosBo (n : Nat) : zerosL (n * 1) [.f (.bool false)] = cl eBo (List.replicate n false) := by
  simp only [zerosL, Nat.mul_one, List.length_singleton, Nat.mod_one]
  induction n with
  | zero => rfl
  | succ n ih => rw [List.range_succ, List.map_append, ih, List.replicate_succ', cl_append]; rfl
theorem setBo {xs : List Bool} {e : Int} {v : Bool} (h : 0 ≤ e ∧ e < (xs.length : Int)) : setRange (cl eBo xs) (0 + e.toNat * 1) [.f (.bool v)] = cl eBo (xs.set e.toNat v) :=
  setRange_cl (E := eBo) (by omega)
attribute [go_sem] eBo_0 zerosBo setBo
end Go.Lg

set_option linter.unusedSimpArgs false
set_option linter.unusedVariables false
set_option maxRecDepth 100000
namespace Go.Lg
open Go.Proofs
theorem markNil_run (k : Int) : Reads Try.prog 39 [ints [], int k] (int k) := by
  refine RunCall.cw (c := _) Try.func39 rfl (n := 19) Try.ntmps39 (rs := [.tmp 4]) rfl ?_
  simp only [List.length_cons, List.length_nil, Nat.reduceAdd, Nat.reduceSub, List.replicate, List.cons_append, List.nil_append]
  simp(maxSteps:=999999)(disch:=omega)only[go_sem,reduceAdd,reduceMul,reduceSub,reduceEqDiff,reduceLeDiff]
  refine loop_rule (fun _ : Unit => 0) (fun _ => True) (fun _ => [.k, .p (int k), .a, .a, .a, .p (int 0), .a, .a, .a, .a, .a, .a, .a, .a, .a, .a, .a, .a, .a]) (fun _ => []) () trivial (by simp(maxSteps:=999999)(disch:=omega)only[go_sem,reduceAdd,reduceMul,reduceSub,reduceEqDiff,reduceLeDiff]) (hle_nil _) ?_
  intro _ _
  simp(maxSteps:=999999)(disch:=omega)only[go_sem,reduceAdd,reduceMul,reduceSub,reduceEqDiff,reduceLeDiff]
  simp only [show decide ((0 : Int) < ((0 : Nat) : Int)) = false from rfl]
  simp(maxSteps:=999999)(disch:=omega)only[go_sem,reduceAdd,reduceMul,reduceSub,reduceEqDiff,reduceLeDiff]
end Go.Lg

set_option linter.unusedSimpArgs false
set_option linter.unusedVariables false
set_option maxRecDepth 100000
namespace Go.Lg
open Go.Proofs
def toRuleQ (r : Rul) : KV := fun v H => ∃ g, v = .agg [.f (.int .i64 r.kind), .own 3 g 0 r.cells.length none, .f (.int .i64 r.val)] ∧ H = [none, none, none, some ⟨g, 1, cl (eI .i64) r.cells⟩]
theorem toRule_own (r : Rul) (hx : r.cells.length ≤ 2 ^ 40) : RunCall Try.prog 121 [aR r] [] (toRuleQ r) := by
  refine RunCall.cw (c := _) Try.func121 rfl (n := 15) Try.ntmps121 (rs := [.cell 2 32]) rfl ?_
  simp only [List.length_cons, List.length_nil, Nat.reduceAdd, Nat.reduceSub, List.replicate, List.cons_append, List.nil_append]
  simp(maxSteps:=999999)(disch:=omega)only[go_sem,reduceAdd,reduceMul,reduceSub,reduceEqDiff,reduceLeDiff]
  intro g1 g2 g3
  refine OpS.mkQ (toIntS_own r.cells hx) (⟨_, Try.func31, rfl, rfl⟩ : Enters Try.prog 31) rfl rfl rfl ?_
  rintro _ _ ⟨g, rfl, rfl⟩
  refine ⟨rfl, ?_⟩
  simp(maxSteps:=999999)(disch:=omega)only[go_sem,reduceAdd,reduceMul,reduceSub,reduceEqDiff,reduceLeDiff]
  exact ⟨_, hle_none _ _ _ (hle_none _ _ _ (hle_none _ _ _ (HLe.refl _))), g, rfl, rfl⟩
theorem cl_eRo_none (n : Nat) : cl eRo (List.replicate n none) = kl kRo (List.replicate n none) := by
  induction n with
  | zero => rfl
  | succ n ih =>
    simp only [List.replicate_succ, cl, fl, kl, List.flatMap_cons, List.map_append] at ih ⊢
    rw [ih]; rfl
theorem toRuleS_deep (rs : List Rul) (hn : rs.length ≤ 2 ^ 40) (hx : ∀ r ∈ rs, r.cells.length ≤ 2 ^ 40) : RunCall Try.prog 81 [rsl eR rs] [] (rulesQ rs) := by
  refine RunCall.cw (c := _) Try.func81 rfl (n := 23) Try.ntmps81 (rs := [.tmp 2]) rfl ?_
  simp only [List.length_cons, List.length_nil, Nat.reduceAdd, Nat.reduceSub, List.replicate, List.cons_append, List.nil_append]
  simp(maxSteps:=999999)(disch:=omega)only[go_sem,reduceAdd,reduceMul,reduceSub,reduceEqDiff,reduceLeDiff]
  intro g
  refine loop_rule2 (fun (i : Nat) (b : Heap × List RO) => rs.length - i) (fun i b => i ≤ rs.length ∧ b.2.length = i ∧ b.2.map (·.r) = rs.take i ∧ (∀ o ∈ b.2, OwnI (none :: b.1) o.c o.r.cells o.i) ∧ (b.2.flatMap (·.i)).Nodup ∧ ∀ x ∈ b.2.flatMap (·.i), 1 ≤ x ∧ x < b.1.length + 1)
    (fun i _ => [.k, .a, .a, .k, .p (int i), .a, .a, .a, .a, .a, .a, .a, .a, .a, .a, .a, .a, .a, .a, .a, .a, .a, .a]) (fun i b => some ⟨g, 3, kl kRo (b.2.map some ++ List.replicate (rs.length - i) none)⟩ :: b.1) 0 ([], [])
    ⟨Nat.zero_le _, rfl, rfl, by simp, by simp, by simp⟩ (by simp(maxSteps:=999999)(disch:=omega)only[go_sem,reduceAdd,reduceMul,reduceSub,reduceEqDiff,reduceLeDiff]; rfl) (hle_eq (cl_eRo_none _) (hle_nil _)) ?_
  rintro i ⟨T, l⟩ ⟨hi, hl, hm, ho, hnd, hlt⟩
  simp only at hl hm ho hnd hlt ⊢
  simp(maxSteps:=999999)(disch:=omega)only[go_sem,reduceAdd,reduceMul,reduceSub,reduceEqDiff,reduceLeDiff]
  ((first | with_reducible refine condK_dec ?_ ?_ | with_reducible refine condK_ndec ?_ ?_ | with_reducible refine condK_nb ?_ ?_ | refine condK_b ?_ ?_) <;> intro h)
  · have h : i < rs.length := by omega
    simp(maxSteps:=999999)(disch:=omega)only[go_sem,reduceAdd,reduceMul,reduceSub,reduceEqDiff,reduceLeDiff]
    refine OpS.mkQ (toRule_own (nth rs i) (hx _ (nth_mem h))) (⟨_, Try.func121, rfl, rfl⟩ : Enters Try.prog 121) rfl rfl rfl ?_
    rintro _ _ ⟨g2, rfl, rfl⟩
    refine ⟨rfl, ?_⟩
    simp(maxSteps:=999999)(disch:=omega)only[go_sem,reduceAdd,reduceMul,reduceSub,reduceEqDiff,reduceLeDiff, kl_length]
    have hlen : (l.map some ++ List.replicate (rs.length - i) (none : Option RO)).length = rs.length := by simp; omega
    refine ⟨i + 1, (T ++ [none, none, none, some ⟨g2, 1, cl (eI .i64) (nth rs i).cells⟩], l ++ [⟨nth rs i, .own (3 + (T.length + 1)) g2 0 (nth rs i).cells.length none, [T.length + 4]⟩]), ⟨⟨h, by simp [hl], ?_, fun o hm2 => ?_, ?_, fun x hx2 => ?_⟩, by omega⟩, by omega, hle_eq ?_ (HLe.refl _)⟩
    · rw [List.map_append, hm, take_succ_nth h]; rfl
    · rcases List.mem_append.1 hm2 with hm2 | hm2
      · exact (ho o hm2).app (H' := [none, none, none, some ⟨g2, 1, cl (eI .i64) (nth rs i).cells⟩])
      · have : o = ⟨nth rs i, .own (3 + (T.length + 1)) g2 0 (nth rs i).cells.length none, [T.length + 4]⟩ := by simpa using hm2
        subst this
        have e : 3 + (T.length + 1) = T.length + 4 := by omega
        simp only [e]
        refine OwnI.o (T.length + 4) g2 none _ [] ?_
        rw [List.append_nil]
        refine look_of (b := ⟨g2, 1, cl (eI .i64) (nth rs i).cells⟩) ?_
        simp
    · rw [List.flatMap_append, List.nodup_append]
      refine ⟨hnd, by simp, fun a ha b hb => ?_⟩
      have := hlt a ha
      have hb : b = T.length + 4 := by simpa using hb
      omega
    · rw [List.flatMap_append] at hx2
      simp only [List.length_append, List.length_cons, List.length_nil]
      rcases List.mem_append.1 hx2 with hx2 | hx2
      · have := hlt x hx2; omega
      · have : x = T.length + 4 := by simpa using hx2
        omega
    · have e2 : (l ++ [(⟨nth rs i, .own (3 + (T.length + 1)) g2 0 (nth rs i).cells.length none, [T.length + 4]⟩ : RO)]).map some ++ List.replicate (rs.length - (i + 1)) none = (l.map some ++ List.replicate (rs.length - i) none).set i (some ⟨nth rs i, .own (3 + (T.length + 1)) g2 0 (nth rs i).cells.length none, [T.length + 4]⟩) := by
        have e3 : rs.length - i = (rs.length - (i + 1)) + 1 := by omega
        rw [e3, List.replicate_succ, List.set_append_right _ _ (by simp; omega)]
        simp [hl]
      rw [e2]
      exact setRange_kl (E := kRo) (v := some ⟨nth rs i, .own (3 + (T.length + 1)) g2 0 (nth rs i).cells.length none, [T.length + 4]⟩) (by rw [hlen]; exact h)
  have hir : i = rs.length := by omega
  simp(maxSteps:=999999)(disch:=omega)only[go_sem,reduceAdd,reduceMul,reduceSub,reduceEqDiff,reduceLeDiff]
  subst hir
  rw [List.take_length] at hm
  refine ⟨_, HLe.refl _, .own 0 g 0 rs.length none, 0 :: l.flatMap (·.i), rfl, ?_⟩
  have key := OwnR.o (H := some ⟨g, 3, kl kRo (l.map some ++ List.replicate (rs.length - rs.length) none)⟩ :: T) 0 g none l [] (by
    rw [Nat.sub_self, List.replicate_zero, List.append_nil, List.append_nil, kl_kRo]; simp [look]) (fun o hm2 => by
    have := (ho o hm2)
    have hi0 : 0 ∉ o.i := fun h0 => by have := hlt 0 (List.mem_flatMap.2 ⟨o, hm2, h0⟩); omega
    exact this.frm (T := [0]) ⟨by simp, fun id hid => by cases id with
      | zero => simp at hid
      | succ id => rfl⟩ fun i hi => by simp; rintro rfl; exact hi0 hi) (List.nodup_cons.2 ⟨fun h0 => by have := hlt 0 h0; omega, hnd⟩) (by simp)
  rw [hm, hl] at key
  exact key
theorem toPuzzle_deep (p : Puz) (hx : smP p) : RunCall Try.prog 30 [aP p] [] (puzQ p) := by
  refine RunCall.cw (c := _) Try.func30 rfl (n := 16) Try.ntmps30 (rs := [.cell 2 26]) rfl ?_
  simp only [List.length_cons, List.length_nil, Nat.reduceAdd, Nat.reduceSub, List.replicate, List.cons_append, List.nil_append]
  simp(maxSteps:=999999)(disch:=omega)only[go_sem,reduceAdd,reduceMul,reduceSub,reduceEqDiff,reduceLeDiff]
  intro g1 g2 g3
  refine OpS.mkQ (toIntS_own p.given hx.1) (⟨_, Try.func31, rfl, rfl⟩ : Enters Try.prog 31) rfl rfl rfl ?_
  rintro _ _ ⟨g, rfl, rfl⟩
  refine ⟨rfl, ?_⟩
  simp(maxSteps:=999999)(disch:=omega)only[go_sem,reduceAdd,reduceMul,reduceSub,reduceEqDiff,reduceLeDiff]
  refine OpS.mkR (toRuleS_deep p.rules hx.2.1 hx.2.2) (⟨_, Try.func81, rfl, rfl⟩ : Enters Try.prog 81) rfl rfl rfl ?_
  intro c H' S hR hS
  simp only [List.length_cons, List.length_nil] at hS
  simp(maxSteps:=999999)(disch:=omega)only[go_sem,reduceAdd,reduceMul,reduceSub,reduceEqDiff,reduceLeDiff]
  refine ⟨_, HLe.refl _, _, [3] ++ S, rfl, ⟨_, _, _, _, rfl, rfl, OwnI.o 3 g none p.given [] (by rw [List.append_nil]; simp only [go_sem]), hR.frm (T := [1, 2]) ⟨rfl, fun id hid => ?_⟩ fun i hi => ?_⟩, ?_⟩
  · match id, hid with
    | 0, _ => rfl
    | 1, h => simp at h
    | 2, h => simp at h
    | _ + 3, _ => rfl
  · have := hS i hi; simp; omega
  · rw [List.nodup_append]
    refine ⟨by simp, hR.nd, fun a ha b hb he => ?_⟩
    have ha : a = 3 := by simpa using ha
    have := hS b hb
    omega
theorem markIntS_view (H : Heap) (id g : Nat) (lim : Option Nat) (xs ys : List Int) (k : Int) (hl : look H id g = some ⟨g, 1, cl (eI .i64) (xs ++ ys)⟩) (hk : 0 ≤ k ∧ k ≤ 2 ^ 50) (hx : xs.length ≤ 2 ^ 40) :
    RunCall Try.prog 39 [.c (.own id g 0 xs.length lim), int k] H (fun r H' => r = int (k + xs.length) ∧ H' = H.set id (some ⟨g, 1, cl (eI .i64) (marks k xs.length ++ ys)⟩)) := by
  refine RunCall.cw (c := _) Try.func39 rfl (n := 19) Try.ntmps39 (rs := [.tmp 4]) rfl ?_
  simp only [List.length_cons, List.length_nil, Nat.reduceAdd, Nat.reduceSub, List.replicate, List.cons_append, List.nil_append]
  simp(maxSteps:=999999)(disch:=omega)only[go_sem,reduceAdd,reduceMul,reduceSub,reduceEqDiff,reduceLeDiff]
  have hid : H[id]? = some (some ⟨g, 1, cl (eI .i64) (xs ++ ys)⟩) := (look_some hl).1
  have hlt : id < H.length := (List.getElem?_eq_some_iff.1 hid).1
  have hs : ∀ ys : List Int, look (H.set id (some ⟨g, 1, cl (eI .i64) ys⟩)) id g = some ⟨g, 1, cl (eI .i64) ys⟩ := fun ys => look_of (b := ⟨g, 1, cl (eI .i64) ys⟩) (by rw [List.getElem?_set_self hlt])
  refine loop_rule2 (fun (i : Nat) (zs : List Int) => xs.length - i) (fun i zs => i ≤ xs.length ∧ zs.length = xs.length + ys.length ∧ (∀ j : Nat, j < i → nth zs j = k + j) ∧ ∀ j : Nat, xs.length ≤ j → nth zs j = nth (xs ++ ys) j) (fun i _ => [.k, .p (int (k + i)), .a, .a, .a, .p (int i), .a, .a, .a, .a, .a, .a, .a, .a, .a, .a, .a, .a, .a]) (fun _ zs => H.set id (some ⟨g, 1, cl (eI .i64) zs⟩)) 0 (xs ++ ys)
    ⟨Nat.zero_le _, by simp, fun j hj => absurd hj (Nat.not_lt_zero _), fun j hj => rfl⟩ (by simp(maxSteps:=999999)(disch:=omega)only[go_sem,reduceAdd,reduceMul,reduceSub,reduceEqDiff,reduceLeDiff]; simp) (hle_set_same hid) ?_
  rintro i zs ⟨hi, hly, hall, hkeep⟩
  simp(maxSteps:=999999)(disch:=omega)only[go_sem,reduceAdd,reduceMul,reduceSub,reduceEqDiff,reduceLeDiff, hs]
  ((first | with_reducible refine condK_dec ?_ ?_ | with_reducible refine condK_ndec ?_ ?_ | with_reducible refine condK_nb ?_ ?_ | refine condK_b ?_ ?_) <;> intro h)
  · have h : i < xs.length := by omega
    simp(maxSteps:=999999)(disch:=omega)only[go_sem,reduceAdd,reduceMul,reduceSub,reduceEqDiff,reduceLeDiff, hs]
    refine ⟨i + 1, zs.set i (k + i), ⟨⟨h, by simp [hly], fun j hj => ?_, fun j hj => ?_⟩, by omega⟩, ⟨by push_cast; omega, by push_cast; omega⟩, by rw [List.set_set]; exact HLe.refl _⟩
    · rw [nth_set _ _ _ _ (by omega) (by omega)]
      split
      · omega
      · exact hall j (by omega)
    · rw [nth_set _ _ _ _ (by omega) (by omega), if_neg (by omega)]
      exact hkeep j hj
  have h : i = xs.length := by omega
  subst h
  simp(maxSteps:=999999)(disch:=omega)only[go_sem,reduceAdd,reduceMul,reduceSub,reduceEqDiff,reduceLeDiff]
  have : zs = marks k xs.length ++ ys := ext_nth (by rw [hly, List.length_append, marks_length]) fun j hj => by
    by_cases hj2 : j < xs.length
    · rw [hall j hj2, nth_eq (xs := marks k xs.length ++ ys) (by simp [marks_length]; omega)]
      have := marks_nth (k := k) hj2
      rw [nth_eq (by rw [marks_length]; omega)] at this
      rw [← this, List.getElem_append_left]
    · rw [hkeep j (by omega), nth_eq (by simp; omega), nth_eq (by simp [marks_length]; omega)]
      simp only [Int.toNat_natCast]
      rw [List.getElem_append_right (by omega), List.getElem_append_right (by rw [marks_length]; omega)]
      simp only [marks_length]
  subst this
  exact ⟨_, HLe.refl _, rfl, rfl⟩
theorem markIntS_deep (H : Heap) (c : CV) (xs : List Int) (S : List Nat) (k : Int) (h : OwnI H c xs S) (hk : 0 ≤ k ∧ k ≤ 2 ^ 50) (hx : xs.length ≤ 2 ^ 40) :
    RunCall Try.prog 39 [.c c, int k] H (fun r H' => r = int (k + xs.length) ∧ OwnI H' c (marks k xs.length) S ∧ Frm H H' S) := by
  cases h with
  | e =>
    refine (RunCall.frame rfl (markNil_run k) fun r H' h => by rw [h]; rfl).weaker ?_
    rintro r H2 ⟨r', H', rfl, rfl, rfl⟩
    refine ⟨H, HLe.app _ _, ?_, .e, Frm.refl _ _⟩
    simp [shiftA, shift1, shiftC]
  | o id g lim xs ys h =>
    refine (markIntS_view H id g lim xs ys k h hk hx).weaker ?_
    rintro r H2 ⟨rfl, rfl⟩
    have hlt : id < H.length := (List.getElem?_eq_some_iff.1 (look_some h).1).1
    refine ⟨_, HLe.refl _, rfl, ?_, Frm.set _ _ _⟩
    have := OwnI.o (H := H.set id (some ⟨g, 1, cl (eI .i64) (marks k xs.length ++ ys)⟩)) id g lim (marks k xs.length) ys (look_of (b := ⟨g, 1, cl (eI .i64) (marks k xs.length ++ ys)⟩) (by rw [List.getElem?_set_self hlt]))
    rw [marks_length] at this
    exact this
end Go.Lg

set_option linter.unusedSimpArgs false
set_option linter.unusedVariables false
set_option maxRecDepth 100000
namespace Go.Lg
open Go.Proofs
theorem binA_ne {P : Program} {H : Heap} {t e : TypeId} {ti : TI} {n : Nat} {cs : List FV} (ht : tinf P t = some ti) (hk : ti.k = .slice e) (hn : 0 < n) : binA P H .eql t (.c (.f (.sl n cs))) (.c (.f .nil)) = some (.c (.f (.bool false))) := by
  unfold binA
  simp only [ht, hk, isNilV, if_neg (show ¬ n = 0 by omega)]
  rfl
end Go.Lg
