/- GpDF, GpDG, GpDH, GpDJ, GpFA, GpEA, cut to what is needed. -/
import Derived.Test.YtcopagjhklcokaaRec0
import Derived.Test.YtcopagjhklcokaaRec1
open Nat(reduceAdd reduceMul reduceSub reduceEqDiff reduceLeDiff)
set_option linter.unusedSimpArgs false
set_option linter.unusedVariables false
set_option maxRecDepth 100000
namespace Go.Lg
open Go.Proofs
structure PuzN (p : Puz) (n : Nat) : Prop where
  hn : n = 2 ∨ n = 3 ∨ n = 4
  size : p.size = n
  len : p.given.length = n * n
  rl : p.rules.length ≤ 40
  rv : ∀ r ∈ p.rules, ruleValid r n = true
theorem PuzN.of {p : Puz} (h : puzzleValid p = true) : PuzN p p.size.toNat ∧ ((p.size.toNat : Nat) : Int) = p.size := by
  simp only [puzzleValid, Bool.and_eq_true, decide_eq_true_eq, List.all_eq_true] at h
  obtain ⟨h1, h2, h3⟩ := h
  have hb := gridValid_bound h1
  have hs : ((p.size.toNat : Nat) : Int) = p.size := by omega
  have hn : p.size.toNat = 2 ∨ p.size.toNat = 3 ∨ p.size.toNat = 4 := by omega
  refine ⟨⟨hn, hs.symm, ?_, by omega, fun r hr => by rw [hs]; exact h3 r hr⟩, hs⟩
  have := hb.2.2.1
  rw [← hs] at this
  exact_mod_cast this
structure GrdN (xs : List Int) (n : Nat) : Prop where
  len : xs.length = n * n
  val : ∀ k : Nat, k < xs.length → 0 ≤ nth xs k ∧ nth xs k ≤ n
theorem GrdN.valid {xs : List Int} {n : Nat} (hn : n = 2 ∨ n = 3 ∨ n = 4) (h : GrdN xs n) : gridValid xs n = true := by
  simp only [gridValid, decide_eq_true_eq]
  refine ⟨by omega, by omega, by rw [h.len]; push_cast; rfl, h.val⟩
theorem GrdN.of {xs : List Int} {n : Nat} (hn : n = 2 ∨ n = 3 ∨ n = 4) (h : gridValid xs n = true) : GrdN xs n := by
  have hb := gridValid_bound h
  exact ⟨by have := hb.2.2.1; rcases hn with rfl | rfl | rfl <;> omega, hb.2.2.2.2⟩
theorem l5Fits_run {p : Puz} {n : Nat} (hp : PuzN p n) (xs : List Int) (hg : GrdN xs n) : Reads Try.prog 115 [aP p, ints xs] (bool (fitsL p xs n)) := by
  have hn := hp.hn
  have hz := hp.size
  have hgl := hp.len
  have hxl := hg.len
  have hrl := hp.rl
  have hsq : n * n ≤ 16 := by rcases hn with rfl | rfl | rfl <;> omega
  have hgv := hg.valid hn
  refine RunCall.cw (c := _) Try.func115 rfl (n := 60) Try.ntmps115 (rs := [.tmp 4]) rfl ?_
  simp only [List.length_cons, List.length_nil, Nat.reduceAdd, Nat.reduceSub, List.replicate, List.cons_append, List.nil_append]
  simp(maxSteps:=999999)(disch:=omega)only[go_sem,reduceAdd,reduceMul,reduceSub,reduceEqDiff,reduceLeDiff]
  intro g
  refine loop_rule (fun k : Nat => xs.length - k) (fun k => k ≤ xs.length ∧ ∀ j : Nat, j < k → ¬ (0 < nth p.given j ∧ 0 < nth xs j ∧ nth xs j ≠ nth p.given j)) (fun k => [.a, .k, .k, .a, .a, .p (int k), .a, .a, .a, .a, .a, .a, .a, .a, .a, .a, .a, .a, .a, .a, .a, .a, .a, .a, .a, .a, .a, .a, .a, .a, .a, .a, .a, .a, .a, .a, .a, .a, .a, .a, .a, .a, .a, .a, .a, .a, .a, .a, .a, .a, .a, .a, .a, .a, .a, .a, .a, .a, .a, .a]) (fun _ => [some ⟨g, 1, cP p⟩]) 0 ⟨Nat.zero_le _, fun j hj => absurd hj (Nat.not_lt_zero _)⟩ (by simp(maxSteps:=999999)(disch:=omega)only[go_sem,reduceAdd,reduceMul,reduceSub,reduceEqDiff,reduceLeDiff]; rfl) (HLe.refl _) ?_
  rintro k ⟨hk, hno⟩
  simp(maxSteps:=999999)(disch:=omega)only[go_sem,reduceAdd,reduceMul,reduceSub,reduceEqDiff,reduceLeDiff]
  ((first | with_reducible refine condK_dec ?_ ?_ | with_reducible refine condK_ndec ?_ ?_ | with_reducible refine condK_nb ?_ ?_ | refine condK_b ?_ ?_) <;> intro h1)
  · have h1 : k < xs.length := by omega
    have hbad : (0 < nth p.given k ∧ 0 < nth xs k ∧ nth xs k ≠ nth p.given k) → false = fitsL p xs n := fun hb => by
      have : clear p xs = false := by
        simp only [clear, decide_eq_false_iff_not]
        exact fun h => h k h1 hb
      simp [fitsL, this]
    simp(maxSteps:=999999)(disch:=omega)only[go_sem,reduceAdd,reduceMul,reduceSub,reduceEqDiff,reduceLeDiff]
    have hgo : ¬ (0 < nth p.given k ∧ 0 < nth xs k ∧ nth xs k ≠ nth p.given k) → ∀ j : Nat, j < k + 1 → ¬ (0 < nth p.given j ∧ 0 < nth xs j ∧ nth xs j ≠ nth p.given j) := fun h j hj => by
      by_cases hjk : j = k
      · rw [hjk]; exact h
      · exact hno j (by omega)
    by_cases a : 0 < nth p.given k
    · by_cases b : 0 < nth xs k
      · by_cases c : nth xs k = nth p.given k
        · refine drawP_q foll (by kernel_rfl) ?_
          simp(maxSteps:=999999)(disch:=omega)only[go_sem,reduceAdd,reduceMul,reduceSub,reduceEqDiff,reduceLeDiff, lt_yes, lt_no, eq_yes, eq_no]
          exact ⟨k + 1, ⟨⟨by omega, hgo fun h => h.2.2 c⟩, by omega⟩, by push_cast; omega, HLe.refl _⟩
        · refine drawP_q foll (by kernel_rfl) ?_
          simp(maxSteps:=999999)(disch:=omega)only[go_sem,reduceAdd,reduceMul,reduceSub,reduceEqDiff,reduceLeDiff, lt_yes, lt_no, eq_yes, eq_no]
          exact hbad ⟨a, b, c⟩
      · refine drawP_q foll (by kernel_rfl) ?_
        simp(maxSteps:=999999)(disch:=omega)only[go_sem,reduceAdd,reduceMul,reduceSub,reduceEqDiff,reduceLeDiff, lt_yes, lt_no, eq_yes, eq_no]
        exact ⟨k + 1, ⟨⟨by omega, hgo fun h => b h.2.1⟩, by omega⟩, by push_cast; omega, HLe.refl _⟩
    · refine drawP_q foll (by kernel_rfl) ?_
      simp(maxSteps:=999999)(disch:=omega)only[go_sem,reduceAdd,reduceMul,reduceSub,reduceEqDiff,reduceLeDiff, lt_yes, lt_no, eq_yes, eq_no]
      exact ⟨k + 1, ⟨⟨by omega, hgo fun h => a h.1⟩, by omega⟩, by push_cast; omega, HLe.refl _⟩
  · have hcl : clear p xs = true := by
      simp only [clear, decide_eq_true_eq]
      exact fun j hj => hno j (by omega)
    simp(maxSteps:=999999)(disch:=omega)only[go_sem,reduceAdd,reduceMul,reduceSub,reduceEqDiff,reduceLeDiff]
    refine loop_rule (fun k : Nat => p.rules.length - k) (fun k => k ≤ p.rules.length ∧ ∀ j : Nat, j < k → canHold (nth p.rules j) xs n = true) (fun k => [.a, .k, .k, .a, .a, .a, .p (int k), .a, .a, .a, .a, .a, .a, .a, .a, .a, .a, .a, .a, .a, .a, .a, .a, .a, .a, .a, .a, .a, .a, .a, .a, .a, .a, .a, .a, .a, .a, .a, .a, .a, .a, .a, .a, .a, .a, .a, .a, .a, .a, .a, .a, .a, .a, .a, .a, .a, .a, .a, .a, .a]) (fun _ => [some ⟨g, 1, cP p⟩]) 0 ⟨Nat.zero_le _, fun j hj => absurd hj (Nat.not_lt_zero _)⟩ (by simp(maxSteps:=999999)(disch:=omega)only[go_sem,reduceAdd,reduceMul,reduceSub,reduceEqDiff,reduceLeDiff]; rfl) (HLe.refl _) ?_
    rintro i ⟨hi, hyes⟩
    simp(maxSteps:=999999)(disch:=omega)only[go_sem,reduceAdd,reduceMul,reduceSub,reduceEqDiff,reduceLeDiff]
    ((first | with_reducible refine condK_dec ?_ ?_ | with_reducible refine condK_ndec ?_ ?_ | with_reducible refine condK_nb ?_ ?_ | refine condK_b ?_ ?_) <;> intro h2)
    · have h2 : i < p.rules.length := by omega
      have hmem : nth p.rules i ∈ p.rules := nth_mem h2
      simp(maxSteps:=999999)(disch:=omega)only[go_sem,reduceAdd,reduceMul,reduceSub,reduceEqDiff,reduceLeDiff]
      refine drawP_lM [0, 1, 2, 3, 4, 5, 6, 7] [] none [8, 9] [] [0, 1, 0, 7, 15, 0, 0, 64, 255, 511] foll (by kernel_rfl) ?_
      simp (maxSteps := 1000000) (disch := omega) only [go_sem, Nat.reduceBEq, Bool.true_or, Nat.reduceAdd, Nat.reduceMul, Nat.reduceSub, Nat.reduceEqDiff, Nat.reduceLeDiff]
      have hrp := sRulePossible_run hn (nth p.rules i) xs (hp.rv _ hmem) hgv
      rw [← hz] at hrp
      first | refine OpS.rd (hrp) (⟨_, Try.func144, rfl, rfl⟩ : Enters Try.prog 144) rfl rfl rfl rfl ?_ | refine Loud.rd (hrp) (⟨_, Try.func144, rfl, rfl⟩ : Enters Try.prog 144) rfl rfl rfl rfl ?_
      simp(maxSteps:=999999)(disch:=omega)only[go_sem,reduceAdd,reduceMul,reduceSub,reduceEqDiff,reduceLeDiff]
      ((first | with_reducible refine condK_dec ?_ ?_ | with_reducible refine condK_ndec ?_ ?_ | with_reducible refine condK_nb ?_ ?_ | refine condK_b ?_ ?_) <;> intro h3)
      · simp(maxSteps:=999999)(disch:=omega)only[go_sem,reduceAdd,reduceMul,reduceSub,reduceEqDiff,reduceLeDiff]
        refine ⟨i + 1, ⟨⟨by omega, fun j hj => ?_⟩, by omega⟩, by push_cast; omega, HLe.refl _⟩
        by_cases hji : j = i
        · rw [hji]; exact h3
        · exact hyes j (by omega)
      · simp(maxSteps:=999999)(disch:=omega)only[go_sem,reduceAdd,reduceMul,reduceSub,reduceEqDiff,reduceLeDiff]
        have : p.rules.all (fun r => canHold r xs n) = false := by
          rw [List.all_eq_false]
          exact ⟨_, hmem, by rw [h3]; simp⟩
        simp [fitsL, this]
    · have hall : p.rules.all (fun r => canHold r xs n) = true := by
        rw [List.all_eq_true]
        intro r hr
        obtain ⟨j, hj, rfl⟩ := List.mem_iff_getElem.1 hr
        have := hyes j (by omega)
        rwa [nth_eq (by omega)] at this
      simp(maxSteps:=999999)(disch:=omega)only[go_sem,reduceAdd,reduceMul,reduceSub,reduceEqDiff,reduceLeDiff]
      have hcr := l2Clash_run hn xs hxl (fun k hk => by have := hg.val k hk; omega)
      rw [← hz] at hcr
      first | refine OpS.rd (hcr) (⟨_, Try.func145, rfl, rfl⟩ : Enters Try.prog 145) rfl rfl rfl rfl ?_ | refine Loud.rd (hcr) (⟨_, Try.func145, rfl, rfl⟩ : Enters Try.prog 145) rfl rfl rfl rfl ?_
      simp(maxSteps:=999999)(disch:=omega)only[go_sem,reduceAdd,reduceMul,reduceSub,reduceEqDiff,reduceLeDiff]
      simp [fitsL, hcl, hall]
end Go.Lg

set_option linter.unusedSimpArgs false
set_option linter.unusedVariables false
set_option maxRecDepth 100000
namespace Go.Lg
open Go.Proofs
theorem sPuzzleFits_run (p : Puz) (xs : List Int) (hx : smP p) (hl : xs.length ≤ 2 ^ 40) : Reads Try.prog 75 [aP p, ints xs] (bool (puzzleValid p && (gridValid xs p.size && fitsL p xs p.size.toNat))) := by
  refine RunCall.cw (c := _) Try.func75 rfl (n := 18) Try.ntmps75 (rs := [.tmp 4]) rfl ?_
  simp only [List.length_cons, List.length_nil, Nat.reduceAdd, Nat.reduceSub, List.replicate, List.cons_append, List.nil_append]
  simp(maxSteps:=999999)(disch:=omega)only[go_sem,reduceAdd,reduceMul,reduceSub,reduceEqDiff,reduceLeDiff]
  intro g
  first | refine OpS.rd (sPuzzleValid_run p hx) (⟨_, Try.func25, rfl, rfl⟩ : Enters Try.prog 25) rfl rfl rfl rfl ?_ | refine Loud.rd (sPuzzleValid_run p hx) (⟨_, Try.func25, rfl, rfl⟩ : Enters Try.prog 25) rfl rfl rfl rfl ?_
  simp(maxSteps:=999999)(disch:=omega)only[go_sem,reduceAdd,reduceMul,reduceSub,reduceEqDiff,reduceLeDiff]
  cases h1 : puzzleValid p with
  | false =>
    simp(maxSteps:=999999)(disch:=omega)only[go_sem,reduceAdd,reduceMul,reduceSub,reduceEqDiff,reduceLeDiff]
    rfl
  | true =>
    simp(maxSteps:=999999)(disch:=omega)only[go_sem,reduceAdd,reduceMul,reduceSub,reduceEqDiff,reduceLeDiff]
    first | refine OpS.rd (sGridValid_run xs p.size hl) (⟨_, Try.func26, rfl, rfl⟩ : Enters Try.prog 26) rfl rfl rfl rfl ?_ | refine Loud.rd (sGridValid_run xs p.size hl) (⟨_, Try.func26, rfl, rfl⟩ : Enters Try.prog 26) rfl rfl rfl rfl ?_
    simp(maxSteps:=999999)(disch:=omega)only[go_sem,reduceAdd,reduceMul,reduceSub,reduceEqDiff,reduceLeDiff]
    cases h2 : gridValid xs p.size with
    | false =>
      simp(maxSteps:=999999)(disch:=omega)only[go_sem,reduceAdd,reduceMul,reduceSub,reduceEqDiff,reduceLeDiff]
      rfl
    | true =>
      obtain ⟨hp, hs⟩ := PuzN.of h1
      have hg := GrdN.of hp.hn (by rw [hs]; exact h2)
      simp(maxSteps:=999999)(disch:=omega)only[go_sem,reduceAdd,reduceMul,reduceSub,reduceEqDiff,reduceLeDiff]
      first | refine OpS.rd (l5Fits_run hp xs hg) (⟨_, Try.func115, rfl, rfl⟩ : Enters Try.prog 115) rfl rfl rfl rfl ?_ | refine Loud.rd (l5Fits_run hp xs hg) (⟨_, Try.func115, rfl, rfl⟩ : Enters Try.prog 115) rfl rfl rfl rfl ?_
      simp(maxSteps:=999999)(disch:=omega)only[go_sem,reduceAdd,reduceMul,reduceSub,reduceEqDiff,reduceLeDiff]
structure OutL (H : Heap) (pid pg : Nat) (ls : List (List Int)) (S : List Nat) : Prop where
  ex : ∃ oid og cs, look H pid pg = some ⟨pg, 1, [.own oid og 0 ls.length none]⟩ ∧ look H oid og = some ⟨og, 1, cs⟩ ∧ oid ∈ S ∧ cs.length = ls.length ∧ ∀ i (h : i < ls.length), ∃ id g, cs[i]? = some (.own id g 0 ls[i].length none) ∧ look H id g = some ⟨g, 1, cl (eI .i64) ls[i]⟩ ∧ id ∈ S ∧ id ≠ oid
  pn : pid ∉ S
theorem OutL.same {H H' : Heap} {pid pg : Nat} {ls : List (List Int)} {S : List Nat} (h : OutL H pid pg ls S) (hs : ∀ i, i = pid ∨ i ∈ S → H'[i]? = H[i]?) : OutL H' pid pg ls S := by
  obtain ⟨⟨oid, og, cs, h1, h2, h3, h4, h5⟩, hn⟩ := h
  refine ⟨⟨oid, og, cs, by unfold look at *; rw [hs pid (.inl rfl)]; exact h1, by unfold look at *; rw [hs oid (.inr h3)]; exact h2, h3, h4, fun i hi => ?_⟩, hn⟩
  obtain ⟨id, g, k1, k2, k3, k4⟩ := h5 i hi
  exact ⟨id, g, k1, by unfold look at *; rw [hs id (.inr k3)]; exact k2, k3, k4⟩
end Go.Lg

set_option linter.unusedSimpArgs false
set_option linter.unusedVariables false
set_option maxRecDepth 100000
namespace Go.Lg
open Go.Proofs
attribute [-go_sem] appendM lwF_cons
def vals (n v : Nat) : List Nat := ((List.range n).map (· + 1)).drop (v - 1)
end Go.Lg

set_option linter.unusedSimpArgs false
set_option linter.unusedVariables false
set_option maxRecDepth 100000
namespace Go.Lg
open Go.Proofs
theorem mapM_of {α β : Type} {f : α → Option β} : ∀ (l : List α) (r : List β), l.length = r.length → (∀ i (h : i < l.length) (h' : i < r.length), f l[i] = some r[i]) → l.mapM f = some r
  | [], [], _, _ => rfl
  | [], _ :: _, h, _ => by simp at h
  | _ :: _, [], h, _ => by simp at h
  | a :: l, b :: r, hl, h => by
    have h0 := h 0 (by simp) (by simp)
    have ih := mapM_of l r (by simpa using hl) fun i h1 h2 => h (i + 1) (by simpa using h1) (by simpa using h2)
    simp only [List.getElem_cons_zero] at h0
    simp only [List.mapM_cons, h0, ih, Option.pure_def, Option.bind_eq_bind, Option.bind_some]
theorem OutL.frz {H : Heap} {pid pg : Nat} {ls : List (List Int)} {S : List Nat} (h : OutL H pid pg ls S) : ∃ oid og, look H pid pg = some ⟨pg, 1, [.own oid og 0 ls.length none]⟩ ∧ frzC H (.own oid og 0 ls.length none) = some (.f (fsl eL ls)) := by
  obtain ⟨⟨oid, og, cs, h1, h2, h3, h4, h5⟩, _⟩ := h
  refine ⟨oid, og, h1, ?_⟩
  have hm : cs.mapM (Lg.frz H 5) = some (ls.map fints) := by
    refine mapM_of _ _ (by simp [h4]) fun i hi hi' => ?_
    have hil : i < ls.length := by omega
    obtain ⟨id, g, k1, k2, k3, k4⟩ := h5 i hil
    have e : cs[i] = .own id g 0 ls[i].length none := by
      rw [List.getElem?_eq_getElem hi] at k1
      exact Option.some.inj k1
    rw [e, List.getElem_map]
    exact (OwnI.o (H := H) id g none ls[i] [] (by rw [List.append_nil]; exact k2)).frz 4
  have et : (cs.drop 0).take (ls.length * 1) = cs := by rw [List.drop_zero, List.take_of_length_le (by omega)]
  have ef : ls.map fints = fl eL ls := by
    have : ∀ l : List (List Int), l.map fints = fl eL l := fun l => by
      induction l with
      | nil => rfl
      | cons x l ih => simp only [List.map_cons, ih, fl, List.flatMap_cons, eL, List.cons_append, List.nil_append]
    exact this ls
  simp only [frzC, Lg.frz, h2, et, hm, Option.map_some, ef]
theorem puzzleValid_grid' {p : Puz} (h : puzzleValid p = true) : gridValid p.given p.size = true := by
  simp only [puzzleValid, Bool.and_eq_true] at h; exact h.1
end Go.Lg

set_option linter.unusedSimpArgs false
set_option linter.unusedVariables false
set_option maxRecDepth 100000
namespace Go.Lg
open Go.Proofs
theorem GrdN.set {xs : List Int} {n i v : Nat} (hg : GrdN xs n) (hi : i < xs.length) (hv : v ≤ n) : GrdN (xs.set i (v : Int)) n := ⟨by rw [List.length_set]; exact hg.len, fun k hk => by
  rw [List.length_set] at hk
  rw [nth_setN _ _ _ _ hi]
  split
  · omega
  · exact hg.val k hk⟩
def LeB (o o' : List Nat) : Prop := o.length = o'.length ∧ ∀ k b : Nat, (o.getD k 0).testBit b = true → (o'.getD k 0).testBit b = true
theorem LeB.refl (o : List Nat) : LeB o o := ⟨rfl, fun _ _ h => h⟩
theorem LeB.trans {a b c : List Nat} (h1 : LeB a b) (h2 : LeB b c) : LeB a c := ⟨h1.1.trans h2.1, fun k x h => h2.2 k x (h1.2 k x h)⟩
def Has (p : Puz) (xs : List Int) : Prop := ∀ k : Nat, 0 < nth p.given k → nth xs k = nth p.given k
theorem Has.clear {p : Puz} {xs : List Int} (h : Has p xs) : Lg.clear p xs = true := by
  simp only [Lg.clear, decide_eq_true_eq]
  exact fun k hk ⟨a, b, c⟩ => c (h k a)
theorem Has.set {p : Puz} {xs : List Int} (h : Has p xs) {i : Nat} {v : Int} (hi : i < xs.length) (h0 : ¬ 0 < nth xs i) : Has p (xs.set i v) := fun k hk => by
  rw [nth_setN _ _ _ _ hi]
  have := h k hk
  split
  · rename_i hki
    subst hki
    omega
  · exact this
end Go.Lg

set_option linter.unusedSimpArgs false
set_option linter.unusedVariables false
set_option maxRecDepth 100000
namespace Go.Lg
open Go.Proofs
theorem sub_len' {α : Type} (l : List α) (a b : Int) : (sub l a b).length ≤ l.length := by simp [sub]; omega
theorem valuesHold_run (r : Rul) (vs : List Int) (hl : vs.length ≤ 4) (hv : ∀ v ∈ vs, 0 ≤ v ∧ v ≤ 4) (hk : r.kind = 1 ∨ r.kind = 2 ∨ r.kind = 3 ∨ (r.kind = 4 ∨ r.kind = 5) ∧ 2 ≤ vs.length) : Reads Try.prog 161 [aR r, ints vs] (bool (holdsV r vs)) := by
  have hnv : ∀ k : Nat, k < vs.length → 0 ≤ nth vs k ∧ nth vs k ≤ 4 := fun k hk => hv _ (by rw [nth_eq (by omega)]; exact List.getElem_mem _)
  have hpt := prodV_take hl hv
  have hst := sum_take hl hv
  refine RunCall.cw (c := _) Try.func161 rfl (n := 76) Try.ntmps161 (rs := [.tmp 4]) rfl ?_
  simp only [List.length_cons, List.length_nil, Nat.reduceAdd, Nat.reduceSub, List.replicate, List.cons_append, List.nil_append]
  simp(maxSteps:=999999)(disch:=omega)only[go_sem,reduceAdd,reduceMul,reduceSub,reduceEqDiff,reduceLeDiff]
  intro g
  refine loop_rule (fun k : Nat => vs.length - k) (fun k => k ≤ vs.length ∧ (r.kind = 1 → (vs.take k).Nodup)) (fun k => [.a, .k, .k, .a, .a, .p (int (vs.take k).sum), .p (int (prodV (vs.take k))), .a, .a, .k, .k, .p (int k), .a, .a, .a, .a, .a, .a, .a, .a, .a, .a, .a, .a, .a, .a, .a, .a, .a, .a, .a, .a, .a, .a, .a, .a, .a, .a, .a, .a, .a, .a, .a, .a, .a, .a, .a, .a, .a, .a, .a, .a, .a, .a, .a, .a, .a, .a, .a, .a, .a, .a, .a, .a, .a, .a, .a, .a, .a, .a, .a, .a, .a, .a, .a, .a]) (fun _ => [some ⟨g, 1, cR r⟩]) 0 ⟨Nat.zero_le _, fun _ => by simp⟩ (by simp(maxSteps:=999999)(disch:=omega)only[go_sem,reduceAdd,reduceMul,reduceSub,reduceEqDiff,reduceLeDiff]; simp [prodV]) (HLe.refl _) ?_
  rintro k ⟨hk', hnd⟩
  simp(maxSteps:=999999)(disch:=omega)only[go_sem,reduceAdd,reduceMul,reduceSub,reduceEqDiff,reduceLeDiff]
  ((first | with_reducible refine condK_dec ?_ ?_ | with_reducible refine condK_ndec ?_ ?_ | with_reducible refine condK_nb ?_ ?_ | refine condK_b ?_ ?_) <;> intro h1)
  · have h1 : k < vs.length := by omega
    have e1 : (vs.take (k + 1)).sum = (vs.take k).sum + nth vs k := by rw [take_succ_nth h1]; simp
    have e2 : prodV (vs.take (k + 1)) = prodV (vs.take k) * nth vs k := by rw [take_succ_nth h1, prodV_app]
    have b1 := hst (k + 1)
    have b2 := hpt (k + 1)
    rw [e1] at b1
    rw [e2] at b2
    have hin : nth vs k ∈ vs.take k ↔ ∃ i : Nat, i < k ∧ nth vs i = nth vs k := by
      constructor
      · intro h
        obtain ⟨i, hi, he⟩ := List.mem_take_iff_getElem.1 h
        exact ⟨i, by omega, by rw [nth_eq (by omega)]; exact he⟩
      · rintro ⟨i, hi, he⟩
        rw [← he, nth_eq (by omega)]
        exact List.mem_take_iff_getElem.2 ⟨i, by omega, rfl⟩
    simp(maxSteps:=999999)(disch:=omega)only[go_sem,reduceAdd,reduceMul,reduceSub,reduceEqDiff,reduceLeDiff]
    ((first | with_reducible refine guardK_dec ?_ ?_ | with_reducible refine guardK_ndec ?_ ?_ | with_reducible refine guardK_nb ?_ ?_ | with_reducible refine guardK_split ?_ ?_ | with_reducible refine guardQ_dec ?_ ?_ | with_reducible refine guardL_dec ?_ ?_ | with_reducible refine guardQ_ndec ?_ ?_ | with_reducible refine guardL_ndec ?_ ?_ | with_reducible refine guardQ_nb ?_ ?_ | with_reducible refine guardL_nb ?_ ?_ | with_reducible refine guardQ_split ?_ ?_ | with_reducible refine guardL_split ?_ ?_) <;> intro d1 <;> simp(maxSteps:=999999)(disch:=omega)only[go_sem,reduceAdd,reduceMul,reduceSub,reduceEqDiff,reduceLeDiff, d1])
    · have hsub : sub vs 0 (k : Int) = vs.take k := by simp [sub]
      have hco := Contains_run (sub vs 0 (k : Int)) (nth vs k) (by have := sub_len' vs 0 (k : Int); omega)
      rw [hsub] at hco
      first | refine OpS.rd (hco) (⟨_, Try.func141, rfl, rfl⟩ : Enters Try.prog 141) rfl rfl rfl rfl ?_ | refine Loud.rd (hco) (⟨_, Try.func141, rfl, rfl⟩ : Enters Try.prog 141) rfl rfl rfl rfl ?_
      simp(maxSteps:=999999)(disch:=omega)only[go_sem,reduceAdd,reduceMul,reduceSub,reduceEqDiff,reduceLeDiff]
      ((first | with_reducible refine condK_dec ?_ ?_ | with_reducible refine condK_ndec ?_ ?_ | with_reducible refine condK_nb ?_ ?_ | refine condK_b ?_ ?_) <;> intro d2)
      · simp(maxSteps:=999999)(disch:=omega)only[go_sem,reduceAdd,reduceMul,reduceSub,reduceEqDiff,reduceLeDiff]
        have : ¬ vs.Nodup := fun hn => by
          have := (nodup_take h1).1 (hn.sublist (List.take_sublist _ _))
          obtain ⟨i, hi, he⟩ := hin.1 d2
          exact this.2 i hi he
        unfold holdsV
        rw [if_pos d1, decide_eq_false this]
      · simp(maxSteps:=999999)(disch:=omega)only[go_sem,reduceAdd,reduceMul,reduceSub,reduceEqDiff,reduceLeDiff]
        refine ⟨k + 1, ⟨⟨by omega, fun h => ?_⟩, by omega⟩, ⟨e1.symm, e2.symm, by push_cast; omega⟩, HLe.refl _⟩
        rw [nodup_take h1]
        exact ⟨hnd d1, fun i hi he => d2 (hin.2 ⟨i, hi, he⟩)⟩
    · refine ⟨k + 1, ⟨⟨by omega, fun h => by first | exact absurd h d1 | exact h.elim⟩, by omega⟩, ⟨e1.symm, e2.symm, by push_cast; omega⟩, HLe.refl _⟩
  · have hkl : vs.take k = vs := List.take_of_length_le (by omega)
    simp(maxSteps:=999999)(disch:=omega)only[go_sem,reduceAdd,reduceMul,reduceSub,reduceEqDiff,reduceLeDiff]
    rw [hkl] at hnd
    rw [hkl]
    ((first | with_reducible refine condK_dec ?_ ?_ | with_reducible refine condK_ndec ?_ ?_ | with_reducible refine condK_nb ?_ ?_ | refine condK_b ?_ ?_) <;> intro d2)
    · simp(maxSteps:=999999)(disch:=omega)only[go_sem,reduceAdd,reduceMul,reduceSub,reduceEqDiff,reduceLeDiff]
      unfold holdsV
      rw [if_neg (by omega), if_pos d2]
    simp(maxSteps:=999999)(disch:=omega)only[go_sem,reduceAdd,reduceMul,reduceSub,reduceEqDiff,reduceLeDiff]
    ((first | with_reducible refine condK_dec ?_ ?_ | with_reducible refine condK_ndec ?_ ?_ | with_reducible refine condK_nb ?_ ?_ | refine condK_b ?_ ?_) <;> intro d3)
    · simp(maxSteps:=999999)(disch:=omega)only[go_sem,reduceAdd,reduceMul,reduceSub,reduceEqDiff,reduceLeDiff]
      unfold holdsV
      rw [if_neg (by omega), if_neg d2, if_pos d3]
    simp(maxSteps:=999999)(disch:=omega)only[go_sem,reduceAdd,reduceMul,reduceSub,reduceEqDiff,reduceLeDiff]
    ((first | with_reducible refine condK_dec ?_ ?_ | with_reducible refine condK_ndec ?_ ?_ | with_reducible refine condK_nb ?_ ?_ | refine condK_b ?_ ?_) <;> intro d4)
    · have hl2 : 2 ≤ vs.length := by omega
      have v0 : 0 ≤ nth vs (0 : Int) ∧ nth vs (0 : Int) ≤ 4 := hnv 0 (by omega)
      have v1 : 0 ≤ nth vs (1 : Int) ∧ nth vs (1 : Int) ≤ 4 := hnv 1 (by omega)
      simp(maxSteps:=999999)(disch:=omega)only[go_sem,reduceAdd,reduceMul,reduceSub,reduceEqDiff,reduceLeDiff]
      refine drawP_q foll (by kernel_rfl) ?_
      simp (maxSteps := 1000000) (disch := omega) only [go_sem, Nat.reduceBEq, Bool.true_or, Nat.reduceAdd, Nat.reduceMul, Nat.reduceSub, Nat.reduceEqDiff, Nat.reduceLeDiff]
      unfold holdsV
      rw [if_neg (by omega), if_neg d2, if_neg d3, if_pos d4]
    simp(maxSteps:=999999)(disch:=omega)only[go_sem,reduceAdd,reduceMul,reduceSub,reduceEqDiff,reduceLeDiff]
    ((first | with_reducible refine condK_dec ?_ ?_ | with_reducible refine condK_ndec ?_ ?_ | with_reducible refine condK_nb ?_ ?_ | refine condK_b ?_ ?_) <;> intro d5)
    · have hl2 : 2 ≤ vs.length := by omega
      have v0 : 0 ≤ nth vs (0 : Int) ∧ nth vs (0 : Int) ≤ 4 := hnv 0 (by omega)
      have v1 : 0 ≤ nth vs (1 : Int) ∧ nth vs (1 : Int) ≤ 4 := hnv 1 (by omega)
      simp(maxSteps:=999999)(disch:=omega)only[go_sem,reduceAdd,reduceMul,reduceSub,reduceEqDiff,reduceLeDiff]
      refine drawP_q foll (by kernel_rfl) ?_
      simp (maxSteps := 1000000) (disch := omega) only [go_sem, Nat.reduceBEq, Bool.true_or, Nat.reduceAdd, Nat.reduceMul, Nat.reduceSub, Nat.reduceEqDiff, Nat.reduceLeDiff]
      unfold holdsV
      rw [if_neg (by omega), if_neg d2, if_neg d3, if_neg d4]
    · have d1 : r.kind = 1 := by omega
      simp(maxSteps:=999999)(disch:=omega)only[go_sem,reduceAdd,reduceMul,reduceSub,reduceEqDiff,reduceLeDiff]
      unfold holdsV
      rw [if_pos d1, decide_eq_true (hnd d1)]
end Go.Lg
