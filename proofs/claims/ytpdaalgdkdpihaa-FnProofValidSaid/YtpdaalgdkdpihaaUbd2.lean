/- GpMK, GpTA, GpTE, GpTF, GpTG, cut to what is needed. -/
import Derived.Test.YtpdaalgdkdpihaaUbc8
import Derived.Test.YtpdaalgdkdpihaaUbc4
import Derived.Test.YtpdaalgdkdpihaaUbc2
import Derived.Test.YtpdaalgdkdpihaaUbc0
import Derived.Test.YtpdaalgdkdpihaaUbd1
import Derived.Test.YtpdaalgdkdpihaaUbc1
import Derived.Test.YtpdaalgdkdpihaaUbc6
import Derived.Test.YtpdaalgdkdpihaaUbc5
import Derived.Test.YtpdaalgdkdpihaaUbb8
import Derived.Test.YtpdaalgdkdpihaaUbb9
open Nat(reduceAdd reduceMul reduceSub reduceEqDiff reduceLeDiff)
set_option linter.unusedSimpArgs false
set_option linter.unusedVariables false
set_option maxRecDepth 100000
namespace Go.Lg
open Go.Proofs
theorem sum_le_mul : ∀ (l : List Nat) (b : Nat), (∀ x ∈ l, x ≤ b) → l.sum ≤ b * l.length
  | [], b, _ => by simp
  | x :: l, b, h => by
    have h1 := sum_le_mul l b fun y hy => h y (by simp [hy])
    have h2 := h x (by simp)
    simp only [List.sum_cons, List.length_cons, Nat.mul_add, Nat.mul_one]
    omega
theorem MsN.sum {ms : List Nat} {n : Nat} (hn : n = 2 ∨ n = 3 ∨ n = 4) (h : MsN ms n) : ms.sum ≤ 480 := by
  have h1 := sum_le_mul ms 30 fun x hx => by have := (h.val x hx).1; have := pow_n hn; omega
  have h2 : ms.length ≤ 16 := by rw [h.len]; rcases hn with rfl | rfl | rfl <;> omega
  omega
end Go.Lg

set_option linter.unusedSimpArgs false
set_option linter.unusedVariables false
set_option maxRecDepth 100000
namespace Go.Lg
open Go.Proofs
def onlyL (ms : List Nat) : List Nat := ms.map onlyV
def endM (p : Puz) (ms : List Nat) : Option Nat :=
  if (∃ m ∈ ms, m = 0) then some 0 else if (∀ m ∈ ms, onlyV m ≠ 0) then some (if solvedV p (nats (onlyL ms)) = true then 1 else 0) else none
theorem mvals_bit {m : Nat} {v : Int} (h : v ∈ mvals m 4) : ∃ u : Nat, v = u ∧ 1 ≤ u ∧ u ≤ 4 ∧ m.testBit u = true := by
  unfold mvals at h
  obtain ⟨u, hu, hx⟩ := List.mem_flatMap.1 h
  have := List.mem_of_mem_take hu
  split at hx
  · rename_i hb
    simp only [List.mem_singleton] at hx
    simp only [List.mem_cons, List.not_mem_nil, or_false] at this
    exact ⟨u, hx, by omega, by omega, hb⟩
  · simp at hx
theorem MsN.tried {ms : List Nat} {n k : Nat} {v : Int} (hm : MsN ms n) (hv : v ∈ mvals (mAt ms k) 4) : MsN (ms.set k (2 ^ v.toNat)) n := by
  obtain ⟨u, rfl, h1, h2, h3⟩ := mvals_bit hv
  have h4 := Nat.ge_two_pow_of_testBit h3
  have h5 := hm.at k
  refine hm.set ⟨by rw [Int.toNat_natCast]; omega, ?_⟩
  rw [Int.toNat_natCast]
  have : u = 1 ∨ u = 2 ∨ u = 3 ∨ u = 4 := by omega
  rcases this with rfl | rfl | rfl | rfl <;> rfl
end Go.Lg

set_option linter.unusedSimpArgs false
set_option linter.unusedVariables false
set_option maxRecDepth 100000
namespace Go.Lg
open Go.Proofs
theorem mvals_zero {m : Nat} (h : m ≤ 30 ∧ m % 2 = 0) : (mvals m 4).length = 0 ↔ m = 0 := by
  have key : ∀ a : Nat, a < 31 → a % 2 = 0 → ((mvals a 4).length = 0 ↔ a = 0) := by decide +kernel
  exact key m (by omega) h.2
theorem endM_is {p : Puz} {ms : List Nat} : endM p ms = if (∃ i : Nat, i < ms.length ∧ mAt ms i = 0) then some 0 else if (∀ i : Nat, i < ms.length → onlyV (mAt ms i) ≠ 0) then some (if solvedV p (nats (onlyL ms)) = true then 1 else 0) else none := by
  have h0 : (∃ m ∈ ms, m = 0) ↔ ∃ i : Nat, i < ms.length ∧ mAt ms i = 0 := by
    constructor
    · rintro ⟨m, hm, rfl⟩
      obtain ⟨i, hi, he⟩ := List.getElem_of_mem hm
      exact ⟨i, hi, by unfold mAt; simp [List.getD, List.getElem?_eq_getElem hi, he]⟩
    · rintro ⟨i, hi, he⟩
      exact ⟨_, mAt_mem hi, he⟩
  have h1 : (∀ m ∈ ms, onlyV m ≠ 0) ↔ ∀ i : Nat, i < ms.length → onlyV (mAt ms i) ≠ 0 := by
    constructor
    · intro h i hi; exact h _ (mAt_mem hi)
    · intro h m hm
      obtain ⟨i, hi, he⟩ := List.getElem_of_mem hm
      have := h i hi
      unfold mAt at this
      simpa [List.getD, List.getElem?_eq_getElem hi, he] using this
  unfold endM
  by_cases a : ∃ m ∈ ms, m = 0
  · rw [if_pos a, if_pos (h0.1 a)]
  · rw [if_neg a, if_neg (fun h => a (h0.2 h))]
    by_cases b : ∀ m ∈ ms, onlyV m ≠ 0
    · rw [if_pos b, if_pos (h1.1 b)]
    · rw [if_neg b, if_neg (fun h => b (h1.2 h))]
end Go.Lg

set_option linter.unusedSimpArgs false
set_option linter.unusedVariables false
set_option maxRecDepth 100000
namespace Go.Lg
open Go.Proofs
theorem puz_factsT {p : Puz} (hv : puzzleValid p = true) : PuzN p p.size.toNat ∧ GrdN p.given p.size.toNat := by
  obtain ⟨hp, hz⟩ := PuzN.of hv
  refine ⟨hp, ?_⟩
  simp only [puzzleValid, Bool.and_eq_true, decide_eq_true_eq] at hv
  exact GrdN.of hp.hn (by rw [hz]; exact hv.1)
end Go.Lg

set_option linter.unusedSimpArgs false
set_option linter.unusedVariables false
set_option maxRecDepth 100000
namespace Go.Lg
open Go.Proofs
attribute [-go_sem] appendM lwF_cons
def openK (ms : List Nat) : Nat := ((List.range ms.length).find? fun k => decide (onlyV (mAt ms k) = 0)).getD 0
def mkF (p : Puz) : Nat → List Nat → List Brn → List Brn
  | 0, _, out => out
  | f + 1, ms, out => if 200 < out.length then out else match endM p ms with
    | some _ => out
    | none => if nextM p ms ≠ 0 then mkF p f (narM p (nextM p ms) ms) (out ++ [⟨nextM p ms, 0⟩]) else (mvals (mAt ms (openK ms)) 4).foldl (fun o v => mkF p f (ms.set (openK ms) (2 ^ v.toNat)) o) (out ++ [⟨0, openK ms⟩])
theorem open_facts {p : Puz} {ms : List Nat} (h : endM p ms = none) : openK ms < ms.length ∧ onlyV (mAt ms (openK ms)) = 0 ∧ ∀ i : Nat, i < openK ms → onlyV (mAt ms i) ≠ 0 := by
  rw [endM_is] at h
  split at h
  · cases h
  split at h
  · cases h
  rename_i h1 h2
  simp only [Classical.not_forall] at h2
  obtain ⟨i, hi, hn⟩ := h2
  have hn : onlyV (mAt ms i) = 0 := by omega
  unfold openK
  cases e : (List.range ms.length).find? fun k => decide (onlyV (mAt ms k) = 0) with
  | none =>
    have := List.find?_eq_none.1 e i (List.mem_range.2 hi)
    simp [hn] at this
  | some k =>
    rw [List.find?_eq_some_iff_getElem] at e
    obtain ⟨e1, j, hj, e2, e3⟩ := e
    simp only [List.getElem_range] at e2 e3
    subst e2
    refine ⟨by simpa using hj, by simpa using e1, fun i hi => ?_⟩
    have := e3 i hi
    simpa using this
theorem mkF_fold_len {p : Puz} {f : Nat} (h : ∀ ms out, out.length ≤ 201 → (mkF p f ms out).length ≤ 201) (ms : List Nat) (k : Nat) : ∀ (vs : List Int) (out : List Brn), out.length ≤ 201 → (vs.foldl (fun o v => mkF p f (ms.set k (2 ^ v.toNat)) o) out).length ≤ 201
  | [], out, ho => ho
  | v :: vs, out, ho => mkF_fold_len h ms k vs _ (h _ _ ho)
theorem mkF_len (p : Puz) : ∀ (f : Nat) (ms : List Nat) (out : List Brn), out.length ≤ 201 → (mkF p f ms out).length ≤ 201
  | 0, _, _, h => h
  | f + 1, ms, out, h => by
    unfold mkF
    split
    · exact h
    · rename_i h2
      split
      · exact h
      · split
        · exact mkF_len p f _ _ (by simp; omega)
        · exact mkF_fold_len (mkF_len p f) _ _ _ _ (by simp; omega)
theorem mkF_fold_ge {p : Puz} {f : Nat} (h : ∀ ms out, out.length ≤ (mkF p f ms out).length) (ms : List Nat) (k : Nat) : ∀ (vs : List Int) (out : List Brn), out.length ≤ (vs.foldl (fun o v => mkF p f (ms.set k (2 ^ v.toNat)) o) out).length
  | [], out => Nat.le_refl _
  | v :: vs, out => Nat.le_trans (h _ _) (mkF_fold_ge h ms k vs _)
theorem mkF_ge (p : Puz) : ∀ (f : Nat) (ms : List Nat) (out : List Brn), out.length ≤ (mkF p f ms out).length
  | 0, _, _ => Nat.le_refl _
  | f + 1, ms, out => by
    unfold mkF
    split
    · exact Nat.le_refl _
    · split
      · exact Nat.le_refl _
      · split
        · exact Nat.le_trans (by simp) (mkF_ge p f _ _)
        · exact Nat.le_trans (by simp) (mkF_fold_ge (mkF_ge p f) _ _ _ _)
theorem fold_step {α β : Type} [Inhabited β] {F : α → β → α} {V : List β} {i : Nat} {o : α} (h : i < V.length) : (V.drop i).foldl F o = (V.drop (i + 1)).foldl F (F o (nth V i)) := by
  rw [List.drop_eq_getElem_cons h, nth_eq (by omega)]
  rfl
theorem mkF_full {p : Puz} {f : Nat} {ms : List Nat} {out : List Brn} (h : 200 < out.length) : mkF p f ms out = out := by
  cases f with
  | zero => rfl
  | succ f => unfold mkF; rw [if_pos h]
theorem mkF_end {p : Puz} {f m : Nat} {ms : List Nat} {out : List Brn} (h : endM p ms = some m) : mkF p f ms out = out := by
  cases f with
  | zero => rfl
  | succ f => unfold mkF; rw [h]; split <;> rfl
theorem mkF_go {p : Puz} {f : Nat} {ms : List Nat} {out : List Brn} (h0 : ¬ 200 < out.length) (h : endM p ms = none) : mkF p (f + 1) ms out = if nextM p ms ≠ 0 then mkF p f (narM p (nextM p ms) ms) (out ++ [⟨nextM p ms, 0⟩]) else (mvals (mAt ms (openK ms)) 4).foldl (fun o v => mkF p f (ms.set (openK ms) (2 ^ v.toNat)) o) (out ++ [⟨0, openK ms⟩]) := by
  conv => lhs; unfold mkF
  rw [if_neg h0, h]
abbrev brnH (g : Nat) (b : Brn) : Heap := [some ⟨g, 2, cB b⟩]
def mkQ (H : Heap) (id : Nat) (R : List Brn) : KV := fun v H' => ∃ g', v = .c (.own id g' 0 R.length none) ∧ look H' id g' = some ⟨g', 2, cl eB R⟩ ∧ Frm H H' [id]
structure MkI (H HI : Heap) (id g gb : Nat) (p : Puz) (out : List Brn) : Prop where
  cells : look HI id g = some ⟨g, 2, cl eB out⟩
  box : look HI H.length gb = some ⟨gb, 1, cP p⟩
  lt : id < H.length
  ln : H.length + 1 ≤ HI.length
  frm : ∀ i, i < H.length → i ≠ id → HI[i]? = H[i]?
theorem MkI.done {H HI : Heap} {id g gb : Nat} {p : Puz} {out : List Brn} (h : MkI H HI id g gb p out) : lessQ HI (mkQ H id out) (.c (.own id g 0 out.length none)) := by
  have hl := h.lt
  have hn := h.ln
  refine ⟨HI.take H.length, fun i b hb => ?_, g, rfl, ?_, by simp; omega, fun i hi => ?_⟩
  · by_cases hi : i < H.length
    · rwa [List.getElem?_take_of_lt hi] at hb
    · rw [List.getElem?_take_eq_none (by omega)] at hb; cases hb
  · have hc := h.cells
    unfold look at hc ⊢
    rw [List.getElem?_take_of_lt hl]
    exact hc
  · by_cases h2 : i < H.length
    · rw [List.getElem?_take_of_lt h2, h.frm i h2 (by simpa using hi)]
    · rw [List.getElem?_take_eq_none (by omega), List.getElem?_eq_none (by omega)]
theorem MkI.app {H HI H' : Heap} {id g gb : Nat} {p : Puz} {out : List Brn} (h : MkI H HI id g gb p out) : MkI H (HI ++ H') id g gb p out :=
  ⟨look_appL h.cells, look_appL h.box, h.lt, by have := h.ln; simp; omega, fun i h1 h2 => by rw [List.getElem?_append_left (by have := h.ln; omega)]; exact h.frm i h1 h2⟩
theorem MkI.put {H HI : Heap} {id g gb : Nat} {p : Puz} {out R : List Brn} (h : MkI H HI id g gb p out) (g' : Nat) : MkI H (HI.set id (some ⟨g', 2, cl eB R⟩)) id g' gb p R := by
  have hl := h.lt
  have hn := h.ln
  refine ⟨?_, ?_, hl, by simp; omega, fun i h1 h2 => by rw [List.getElem?_set_ne (Ne.symm h2)]; exact h.frm i h1 h2⟩
  · unfold look
    rw [List.getElem?_set_self (by omega)]
    simp
  · have hb := h.box
    unfold look at hb ⊢
    rw [List.getElem?_set_ne (by omega)]
    exact hb
theorem MkI.step {H HI H' : Heap} {id g g' gb : Nat} {p : Puz} {out R : List Brn} (h : MkI H HI id g gb p out) (hf : Frm HI H' [id]) (hc : look H' id g' = some ⟨g', 2, cl eB R⟩) : MkI H H' id g' gb p R := by
  have hl := h.lt
  have hn := h.ln
  refine ⟨hc, ?_, hl, by rw [hf.1]; exact hn, fun i h1 h2 => by rw [hf.2 i (by simpa using h2)]; exact h.frm i h1 h2⟩
  have hb := h.box
  unfold look at hb ⊢
  rw [hf.2 _ (by simp; omega)]
  exact hb
end Go.Lg
