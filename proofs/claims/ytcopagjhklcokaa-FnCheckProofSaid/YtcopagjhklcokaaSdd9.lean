/- GpMK, GpTA, GpTB, cut to what is needed. -/
import Derived.Test.YtcopagjhklcokaaSdd4
import Derived.Test.YtcopagjhklcokaaSdd6
import Derived.Test.YtcopagjhklcokaaSdc2
import Derived.Test.YtcopagjhklcokaaSdc7
import Derived.Test.YtcopagjhklcokaaSdd8
import Derived.Test.YtcopagjhklcokaaSdc1
import Derived.Test.YtcopagjhklcokaaSdd0
open Nat(reduceAdd reduceMul reduceSub reduceEqDiff reduceLeDiff)
set_option linter.unusedSimpArgs false
set_option linter.unusedVariables false
set_option maxRecDepth 100000
namespace Go.Lg
open Go.Proofs
def fitsV (p : Puz) (xs : List Int) : Bool := puzzleValid p && (gridValid xs p.size && fitsL p xs p.size.toNat)
theorem sum_le_mul : ∀ (l : List Nat) (b : Nat), (∀ x ∈ l, x ≤ b) → l.sum ≤ b * l.length
  | [], b, _ => by simp
  | x :: l, b, h => by
    have h1 := sum_le_mul l b fun y hy => h y (by simp [hy])
    have h2 := h x (by simp)
    simp only [List.sum_cons, List.length_cons, Nat.mul_add, Nat.mul_one]
    omega
theorem MsN.sum {ms : List Nat} {n : Nat} (hn : n = 2 ∨ n = 3 ∨ n = 4) (h : MsN ms n) : ms.sum ≤ 480 := by
  have h1 := sum_le_mul ms 30 fun x hx => by have := (h.val x hx).1; have := pow_n hn; omega
  have h2 : ms.length ≤ 16 := by rw [h.len]; rcases hn with rfl | rfl | rfl <;> omega
  omega
theorem SquareFits_gen (xs : List Int) (n : Int) (hx : xs.length ≤ 2 ^ 40) : Reads Try.prog 122 [ints xs, int n] (bool (gridValid xs n && !clash xs n.toNat)) := by
  cases h : gridValid xs n with
  | true =>
    have hb := gridValid_bound h
    obtain ⟨m, rfl⟩ : ∃ m : Nat, n = m := ⟨n.toNat, by omega⟩
    have hn : m = 2 ∨ m = 3 ∨ m = 4 := by omega
    have := SquareFits_run hn xs (GrdN.of hn h)
    rw [Int.toNat_natCast, Bool.true_and]
    exact this
  | false =>
    refine RunCall.cw (c := _) Try.func122 rfl (n := 47) Try.ntmps122 (rs := [.tmp 4]) rfl ?_
    simp only[List.length_cons,List.length_nil,reduceAdd,reduceSub,List.replicate,List.cons_append,List.nil_append]
    simp(maxSteps:=999999)(disch:=omega)only[go_sem,reduceAdd,reduceMul,reduceSub,reduceEqDiff,reduceLeDiff]
    first | refine OpS.rd (GridValid_run xs n (by omega)) (⟨_, Try.func69, rfl, rfl⟩ : Enters Try.prog 69) rfl rfl rfl rfl ?_ | refine Loud.rd (GridValid_run xs n (by omega)) (⟨_, Try.func69, rfl, rfl⟩ : Enters Try.prog 69) rfl rfl rfl rfl ?_
    simp(maxSteps:=999999)(disch:=omega)only[go_sem,reduceAdd,reduceMul,reduceSub,reduceEqDiff,reduceLeDiff]
    ((first|(with_reducible first|refine condK_dec ?_ ?_|refine condK_ndec ?_ ?_|refine condK_nb ?_ ?_)|refine condK_b ?_ ?_) <;> intro c1)
    · exfalso; rw [h] at c1; cases c1
    · simp(maxSteps:=999999)(disch:=omega)only[go_sem,reduceAdd,reduceMul,reduceSub,reduceEqDiff,reduceLeDiff]
      rfl
theorem PuzzleFits_gen (p : Puz) (xs : List Int) (hx : smP p) (hl : xs.length ≤ 2 ^ 40) : Reads Try.prog 82 [aP p, ints xs] (bool (fitsV p xs)) := by
  by_cases h : puzzleValid p = true ∧ gridValid xs p.size = true
  · obtain ⟨hp, hg, ha, _⟩ := grd_facts h.1 h.2
    have := PuzzleFits_run hp h.1 xs hg
    unfold fitsV
    rw [h.1, h.2, Bool.true_and, Bool.true_and]
    exact this
  · have e : fitsV p xs = false := by
      unfold fitsV
      cases h1 : puzzleValid p
      · rfl
      · cases h2 : gridValid xs p.size
        · rfl
        · exact absurd ⟨h1, h2⟩ h
    rw [e]
    refine RunCall.cw (c := _) Try.func82 rfl (n := 60) Try.ntmps82 (rs := [.tmp 4]) rfl ?_
    simp only[List.length_cons,List.length_nil,reduceAdd,reduceSub,List.replicate,List.cons_append,List.nil_append]
    simp(maxSteps:=999999)(disch:=omega)only[go_sem,reduceAdd,reduceMul,reduceSub,reduceEqDiff,reduceLeDiff]
    intro g
    first | refine OpS.rd (PuzzleValid_run p hx) (⟨_, Try.func66, rfl, rfl⟩ : Enters Try.prog 66) rfl rfl rfl rfl ?_ | refine Loud.rd (PuzzleValid_run p hx) (⟨_, Try.func66, rfl, rfl⟩ : Enters Try.prog 66) rfl rfl rfl rfl ?_
    simp(maxSteps:=999999)(disch:=omega)only[go_sem,reduceAdd,reduceMul,reduceSub,reduceEqDiff,reduceLeDiff]
    ((with_reducible first|refine guardK_dec ?_ ?_|refine guardK_ndec ?_ ?_|refine guardK_nb ?_ ?_|refine guardK_split ?_ ?_|refine guardQ_dec ?_ ?_|refine guardL_dec ?_ ?_|refine guardQ_ndec ?_ ?_|refine guardL_ndec ?_ ?_|refine guardQ_nb ?_ ?_|refine guardL_nb ?_ ?_|refine guardQ_split ?_ ?_|refine guardL_split ?_ ?_) <;> intro c1 <;> simp(maxSteps:=999999)(disch:=omega)only[go_sem,reduceAdd,reduceMul,reduceSub,reduceEqDiff,reduceLeDiff, c1])
    have c2 : (gridValid xs p.size && !clash xs p.size.toNat) = false := by
      cases h2 : gridValid xs p.size
      · rfl
      · exact absurd ⟨c1, h2⟩ h
    first | refine OpS.rd (SquareFits_gen xs p.size hl) (⟨_, Try.func122, rfl, rfl⟩ : Enters Try.prog 122) rfl rfl rfl rfl ?_ | refine Loud.rd (SquareFits_gen xs p.size hl) (⟨_, Try.func122, rfl, rfl⟩ : Enters Try.prog 122) rfl rfl rfl rfl ?_
    simp(maxSteps:=999999)(disch:=omega)only[go_sem,reduceAdd,reduceMul,reduceSub,reduceEqDiff,reduceLeDiff]
    rw [c2]
    simp(maxSteps:=999999)(disch:=omega)only[go_sem,reduceAdd,reduceMul,reduceSub,reduceEqDiff,reduceLeDiff]
end Go.Lg

namespace Go.Lg
open Go.Proofs
def onlyL (ms : List Nat) : List Nat := ms.map onlyV
def endM (p : Puz) (ms : List Nat) : Option Nat :=
  if (∃ m ∈ ms, m = 0) then some 0 else if (∀ m ∈ ms, onlyV m ≠ 0) then some (if solvedV p (nats (onlyL ms)) = true then 1 else 0) else none
def tryL (c : List Nat → List Brn → Option (Nat × List Brn)) (ms : List Nat) (k : Nat) : List Int → List Brn → Nat → Option (Nat × List Brn)
  | [], bs, s => some (s, bs)
  | v :: vs, bs, s => match c (ms.set k (2 ^ v.toNat)) bs with
    | none => none
    | some (n, l) => tryL c ms k vs l (s + n)
def chkF (p : Puz) : Nat → List Nat → List Brn → Option (Nat × List Brn)
  | 0, _, _ => none
  | f + 1, ms, bs => match endM p ms with
    | some n => some (n, bs)
    | none => match bs with
      | [] => none
      | b :: r => if 0 < b.tech then chkF p f (narM p b.tech.toNat ms) r else tryL (chkF p f) ms b.cell.toNat (mvals (mAt ms b.cell.toNat) 4) r 0
theorem tryL_step {c : List Nat → List Brn → Option (Nat × List Brn)} {ms : List Nat} {k i s : Nat} {vals : List Int} {l : List Brn} (h : i < vals.length) :
    tryL c ms k (vals.drop i) l s = match c (ms.set k (2 ^ (nth vals i).toNat)) l with
      | none => none
      | some (n, l') => tryL c ms k (vals.drop (i + 1)) l' (s + n) := by
  rw [List.drop_eq_getElem_cons h, nth_eq (by omega)]
  rfl
theorem tryL_end {c : List Nat → List Brn → Option (Nat × List Brn)} {ms : List Nat} {k i s : Nat} {vals : List Int} {l : List Brn} (h : vals.length ≤ i) : tryL c ms k (vals.drop i) l s = some (s, l) := by
  rw [List.drop_eq_nil_of_le h]
  rfl
def ChkOk (bs : List Brn) : Option (Nat × List Brn) → Prop
  | none => True
  | some (n, l) => (∃ pre, bs = pre ++ l) ∧ n + 3 * l.length ≤ 3 * bs.length + 1
theorem tryL_ok {c : List Nat → List Brn → Option (Nat × List Brn)} (hc : ∀ ms bs, ChkOk bs (c ms bs)) (ms : List Nat) (k : Nat) (r : List Brn) (L : Nat) : ∀ (vs : List Int) (bs : List Brn) (s : Nat), (∃ pre, r = pre ++ bs) → s + 3 * bs.length + vs.length ≤ 3 * r.length + L →
    match tryL c ms k vs bs s with
    | none => True
    | some (n, l) => (∃ pre, r = pre ++ l) ∧ n + 3 * l.length ≤ 3 * r.length + L
  | [], bs, s, hp, hs => ⟨hp, by simpa using hs⟩
  | v :: vs, bs, s, hp, hs => by
    have h := hc (ms.set k (2 ^ v.toNat)) bs
    unfold tryL
    cases e : c (ms.set k (2 ^ v.toNat)) bs with
    | none => trivial
    | some q =>
      obtain ⟨n, l⟩ := q
      rw [e] at h
      obtain ⟨⟨pre, h1⟩, h2⟩ := h
      obtain ⟨pre2, h3⟩ := hp
      simp only [List.length_cons] at hs
      exact tryL_ok hc ms k r L vs l (s + n) ⟨pre2 ++ pre, by rw [h3, h1, List.append_assoc]⟩ (by omega)
theorem chkF_ok (p : Puz) : ∀ (f : Nat) (ms : List Nat) (bs : List Brn), ChkOk bs (chkF p f ms bs)
  | 0, _, _ => trivial
  | f + 1, ms, bs => by
    unfold chkF
    cases e : endM p ms with
    | some n =>
      refine ⟨⟨[], rfl⟩, ?_⟩
      unfold endM at e
      split at e
      · cases e; omega
      · split at e
        · cases e; split <;> omega
        · cases e
    | none =>
      cases bs with
      | nil => trivial
      | cons b r =>
        show ChkOk (b :: r) (if _ then _ else _)
        split
        · have h := chkF_ok p f (narM p b.tech.toNat ms) r
          cases e2 : chkF p f (narM p b.tech.toNat ms) r with
          | none => trivial
          | some q =>
            rw [e2] at h
            obtain ⟨⟨pre, h1⟩, h2⟩ := h
            exact ⟨⟨b :: pre, by rw [h1]; rfl⟩, by simp only [List.length_cons]; omega⟩
        · have h := tryL_ok (chkF_ok p f) ms b.cell.toNat r 4 (mvals (mAt ms b.cell.toNat) 4) r 0 ⟨[], rfl⟩ (by have := mvals_len (mAt ms b.cell.toNat) 4; omega)
          cases e2 : tryL (chkF p f) ms b.cell.toNat (mvals (mAt ms b.cell.toNat) 4) r 0 with
          | none => trivial
          | some q =>
            rw [e2] at h
            obtain ⟨⟨pre, h1⟩, h2⟩ := h
            exact ⟨⟨b :: pre, by rw [h1]; rfl⟩, by simp only [List.length_cons]; omega⟩
theorem mvals_bit {m : Nat} {v : Int} (h : v ∈ mvals m 4) : ∃ u : Nat, v = u ∧ 1 ≤ u ∧ u ≤ 4 ∧ m.testBit u = true := by
  unfold mvals at h
  obtain ⟨u, hu, hx⟩ := List.mem_flatMap.1 h
  have := List.mem_of_mem_take hu
  split at hx
  · rename_i hb
    simp only [List.mem_singleton] at hx
    simp only [List.mem_cons, List.not_mem_nil, or_false] at this
    exact ⟨u, hx, by omega, by omega, hb⟩
  · simp at hx
theorem MsN.tried {ms : List Nat} {n k : Nat} {v : Int} (hm : MsN ms n) (hv : v ∈ mvals (mAt ms k) 4) : MsN (ms.set k (2 ^ v.toNat)) n := by
  obtain ⟨u, rfl, h1, h2, h3⟩ := mvals_bit hv
  have h4 := Nat.ge_two_pow_of_testBit h3
  have h5 := hm.at k
  refine hm.set ⟨by rw [Int.toNat_natCast]; omega, ?_⟩
  rw [Int.toNat_natCast]
  have : u = 1 ∨ u = 2 ∨ u = 3 ∨ u = 4 := by omega
  rcases this with rfl | rfl | rfl | rfl <;> rfl
theorem onlyL_len (ms : List Nat) : (onlyL ms).length = ms.length := by simp [onlyL]
theorem onlyL_at (ms : List Nat) (k : Nat) : mAt (onlyL ms) k = onlyV (mAt ms k) := by
  unfold mAt onlyL
  simp only [List.getD, List.getElem?_map]
  cases ms[k]? <;> rfl
theorem onlyL_grd {ms : List Nat} {n : Nat} (hn : n = 2 ∨ n = 3 ∨ n = 4) (hm : MsN ms n) : GrdN (nats (onlyL ms)) n := by
  refine ⟨by rw [nats_len, onlyL_len]; exact hm.len, fun k hk => ?_⟩
  rw [nth_nats, onlyL_at]
  have h6 := hm.at k
  by_cases h0 : onlyV (mAt ms k) = 0
  · rw [h0]; omega
  · have h5 := (mvals_only (hm.lt hn k)).2 h0
    have hle := onlyV_le (mAt ms k)
    have h7 : 2 ^ onlyV (mAt ms k) ≤ 2 ^ (n + 1) - 2 := by rw [← h5.2]; exact h6.1
    generalize onlyV (mAt ms k) = v at *
    have : v = 1 ∨ v = 2 ∨ v = 3 ∨ v = 4 := by omega
    rcases hn with rfl | rfl | rfl <;> rcases this with rfl | rfl | rfl | rfl <;> simp at h7 ⊢
end Go.Lg

namespace Go.Lg
open Go.Proofs
theorem set_midk {α : Type} (A B : List α) (x y : α) {k : Nat} (h : A.length = k) : (A ++ x :: B).set k y = A ++ y :: B := by subst h; simp
theorem MasksGrid_run {n : Nat} (hn : n = 2 ∨ n = 3 ∨ n = 4) (ms : List Nat) (hm : MsN ms n) : Reads Try.prog 156 [ints (nats ms), int n] (ints (nats (onlyL ms))) := by
  have hsq : 4 ≤ n * n ∧ n * n ≤ 16 := by rcases hn with rfl | rfl | rfl <;> omega
  have hl : (nats ms).length = n * n := by rw [nats_len]; exact hm.len
  have hlm := hm.len
  have hlo : (onlyL ms).length = n * n := by rw [onlyL_len]; exact hm.len
  refine Reads.own ?_
  refine RunCall.cw (c := _) Try.func156 rfl (n := 29) Try.ntmps156 (rs := [.tmp 4]) rfl ?_
  simp only[List.length_cons,List.length_nil,reduceAdd,reduceSub,List.replicate,List.cons_append,List.nil_append]
  simp(maxSteps:=999999)(disch:=omega)only[go_sem,reduceAdd,reduceMul,reduceSub,reduceEqDiff,reduceLeDiff]
  first | refine OpS.rd (MasksValid_run hn ms hm) (⟨_, Try.func162, rfl, rfl⟩ : Enters Try.prog 162) rfl rfl rfl rfl ?_ | refine Loud.rd (MasksValid_run hn ms hm) (⟨_, Try.func162, rfl, rfl⟩ : Enters Try.prog 162) rfl rfl rfl rfl ?_
  simp(maxSteps:=999999)(disch:=omega)only[go_sem,reduceAdd,reduceMul,reduceSub,reduceEqDiff,reduceLeDiff]
  intro g
  -- the cells that are told already
  refine loop_rule (fun k : Nat => n * n - k) (fun k => k ≤ n * n) (fun k => [.a, .a, .a, .a, .a, .k, .a, .a, .a, .a, .a, .a, .a, .a, .a, .k, .k, .p (int k), .a, .a, .a, .a, .a, .a, .a, .a, .a, .a, .a]) (fun k => [some ⟨g, 1, cl (eI .i64) (nats ((onlyL ms).take k ++ List.replicate (n * n - k) 0))⟩]) 0 (Nat.zero_le _) (by simp(maxSteps:=999999)(disch:=omega)only[go_sem,reduceAdd,reduceMul,reduceSub,reduceEqDiff,reduceLeDiff]; rfl) (hle_eq (by rw [hl]; simp [nats]) (hle_nil _)) ?_
  intro k hk
  simp(maxSteps:=999999)(disch:=omega)only[go_sem,reduceAdd,reduceMul,reduceSub,reduceEqDiff,reduceLeDiff]
  ((first|(with_reducible first|refine condK_dec ?_ ?_|refine condK_ndec ?_ ?_|refine condK_nb ?_ ?_)|refine condK_b ?_ ?_) <;> intro c1)
  · have c1 : k < n * n := by omega
    have hmk := hm.lt hn k
    have hnk := nth_nats ms k
    have hlen : ((onlyL ms).take k ++ List.replicate (n * n - k) 0).length = n * n := by simp; omega
    have hsr := setRange_nats (b := (onlyL ms).take k ++ List.replicate (n * n - k) 0) (k := k) (v := onlyV (mAt ms k)) (by rw [hlen]; exact c1)
    have hset : ((onlyL ms).take k ++ List.replicate (n * n - k) 0).set k (onlyV (mAt ms k)) = (onlyL ms).take (k + 1) ++ List.replicate (n * n - (k + 1)) 0 := by
      have e : mAt (onlyL ms) k = (onlyL ms)[k]'(by omega) := by unfold mAt; simp [List.getD, List.getElem?_eq_getElem (show k < (onlyL ms).length by omega)]
      rw [show n * n - k = (n * n - (k + 1)) + 1 by omega, List.replicate_succ, List.take_succ_eq_append_getElem (by omega), ← e, onlyL_at, set_midk _ _ _ _ (by rw [List.length_take]; omega), List.append_assoc]
      rfl
    have hnl : (nats ((onlyL ms).take k ++ List.replicate (n * n - k) 0)).length = n * n := by rw [nats_len, hlen]
    simp(maxSteps:=999999)(disch:=omega)only[go_sem,reduceAdd,reduceMul,reduceSub,reduceEqDiff,reduceLeDiff, hnk]
    first | refine OpS.rd (onlyValue_run (mAt ms k) hmk.1) (⟨_, Try.func86, rfl, rfl⟩ : Enters Try.prog 86) rfl rfl rfl rfl ?_ | refine Loud.rd (onlyValue_run (mAt ms k) hmk.1) (⟨_, Try.func86, rfl, rfl⟩ : Enters Try.prog 86) rfl rfl rfl rfl ?_
    simp(maxSteps:=999999)(disch:=omega)only[go_sem,reduceAdd,reduceMul,reduceSub,reduceEqDiff,reduceLeDiff]
    exact ⟨k + 1, ⟨by omega, by omega⟩, by push_cast; rfl, by rw [Int.toNat_natCast, nats_set, hset]; exact HLe.refl _⟩
  · have hke : k = n * n := by omega
    have e : (onlyL ms).take k ++ List.replicate (n * n - k) 0 = onlyL ms := by rw [hke, Nat.sub_self, List.take_of_length_le (by omega)]; simp
    rw [e]
    have hl2 : (nats (onlyL ms)).length = n * n := by rw [nats_len]; exact hlo
    simp(maxSteps:=999999)(disch:=omega)only[go_sem,reduceAdd,reduceMul,reduceSub,reduceEqDiff,reduceLeDiff]
    rw [hl, ← hl2]
    exact lessQ_own (E := eI .i64) (n := 1) (HLe.refl _)
theorem sMasksGrid_run {n : Nat} (hn : n = 2 ∨ n = 3 ∨ n = 4) (ms : List Nat) (hm : MsN ms n) : Reads Try.prog 133 [ints (nats ms), int n] (ints (nats (onlyL ms))) := by
  have hsq : 4 ≤ n * n ∧ n * n ≤ 16 := by rcases hn with rfl | rfl | rfl <;> omega
  have hl : (nats ms).length = n * n := by rw [nats_len]; exact hm.len
  have hlm := hm.len
  have hlo : (onlyL ms).length = n * n := by rw [onlyL_len]; exact hm.len
  refine Reads.own ?_
  refine RunCall.cw (c := _) Try.func133 rfl (n := 37) Try.ntmps133 (rs := [.tmp 4]) rfl ?_
  simp only[List.length_cons,List.length_nil,reduceAdd,reduceSub,List.replicate,List.cons_append,List.nil_append]
  simp(maxSteps:=999999)(disch:=omega)only[go_sem,reduceAdd,reduceMul,reduceSub,reduceEqDiff,reduceLeDiff]
  intro g
  refine loop_rule2 (fun (k g : Nat) => n * n - k) (fun k g => k ≤ n * n) (fun k g => [.k, .k, .a, .a, .a, .p (.c (.own 0 g 0 (nats ((onlyL ms).take k)).length none)), .p (int k), .a, .a, .a, .a, .a, .a, .a, .a, .a, .a, .a, .a, .a, .a, .a, .a, .a, .a, .a, .a, .a, .a, .a, .a, .a, .a, .a, .a, .a, .a]) (fun k g => [some ⟨g, 1, cl (eI .i64) (nats ((onlyL ms).take k))⟩]) 0 g (Nat.zero_le _) (by simp(maxSteps:=999999)(disch:=omega)only[go_sem,reduceAdd,reduceMul,reduceSub,reduceEqDiff,reduceLeDiff]; exact ⟨rfl, rfl⟩) (HLe.refl _) ?_
  intro k g hk
  have htl : (nats ((onlyL ms).take k)).length ≤ 16 := by rw [nats_len, List.length_take]; omega
  simp(maxSteps:=999999)(disch:=omega)only[go_sem,reduceAdd,reduceMul,reduceSub,reduceEqDiff,reduceLeDiff]
  ((with_reducible first|refine guardK_dec ?_ ?_|refine guardK_ndec ?_ ?_|refine guardK_nb ?_ ?_|refine guardK_split ?_ ?_|refine guardQ_dec ?_ ?_|refine guardL_dec ?_ ?_|refine guardQ_ndec ?_ ?_|refine guardL_ndec ?_ ?_|refine guardQ_nb ?_ ?_|refine guardL_nb ?_ ?_|refine guardQ_split ?_ ?_|refine guardL_split ?_ ?_) <;> intro c1 <;> simp(maxSteps:=999999)(disch:=omega)only[go_sem,reduceAdd,reduceMul,reduceSub,reduceEqDiff,reduceLeDiff, c1])
  rotate_left
  · have hke : k = n * n := by omega
    rw [hke, List.take_of_length_le (by omega)]
    exact lessQ_own (E := eI .i64) (n := 1) (HLe.refl _)
  have c1 : k < n * n := by omega
  have hmk := hm.lt hn k
  have hnk := nth_nats ms k
  have hst := nats_tk (ms := onlyL ms) (k := k) (by omega)
  rw [onlyL_at] at hst
  have hmo := mvals_only hmk
  first | refine OpS.rd (sMasksValid_run hn (nats ms) hm.ok) (⟨_, Try.func116, rfl, rfl⟩ : Enters Try.prog 116) rfl rfl rfl rfl ?_ | refine Loud.rd (sMasksValid_run hn (nats ms) hm.ok) (⟨_, Try.func116, rfl, rfl⟩ : Enters Try.prog 116) rfl rfl rfl rfl ?_
  simp(maxSteps:=999999)(disch:=omega)only[go_sem,reduceAdd,reduceMul,reduceSub,reduceEqDiff,reduceLeDiff]
  simp(maxSteps:=999999)(disch:=omega)only[go_sem,reduceAdd,reduceMul,reduceSub,reduceEqDiff,reduceLeDiff, hnk]
  first | refine OpS.mk (MaskValues_run (mAt ms k) hmk) (⟨_, Try.func78, rfl, rfl⟩ : Enters Try.prog 78) rfl rfl rfl rfl rfl ?_ | refine Loud.mk (MaskValues_run (mAt ms k) hmk) (⟨_, Try.func78, rfl, rfl⟩ : Enters Try.prog 78) rfl rfl rfl rfl rfl ?_
  simp(maxSteps:=999999)(disch:=omega)only[go_sem,reduceAdd,reduceMul,reduceSub,reduceEqDiff,reduceLeDiff]
  ((first|(with_reducible first|refine condK_dec ?_ ?_|refine condK_ndec ?_ ?_|refine condK_nb ?_ ?_)|refine condK_b ?_ ?_) <;> intro c2)
  · have c2 : (mvals (mAt ms k) 4).length = 1 := by omega
    have e1 := hmo.2 (hmo.1.1 c2)
    rw [e1.1]
    have hn0 : ∀ H, load1 H (.fp (fl (eI .i64) [((onlyV (mAt ms k) : Nat) : Int)]) (Int.toNat 0 * 1)) = some (int (onlyV (mAt ms k) : Nat)) := fun _ => rfl
    simp(maxSteps:=999999)(disch:=omega)only[go_sem,reduceAdd,reduceMul,reduceSub,reduceEqDiff,reduceLeDiff, hn0]
    intro g1 g2
    refine ⟨k + 1, g2, ⟨by omega, by omega⟩, ⟨⟨rfl, by rw [hst, List.length_append]; try rfl⟩, by omega⟩, hle_eq (by rw [hst] <;> simp only [cl_append] <;> try rfl) (hle_nil _)⟩
  · have e0 : onlyV (mAt ms k) = 0 := by
      by_cases h : onlyV (mAt ms k) = 0
      · exact h
      · exact absurd (hmo.1.2 h) (by omega)
    rw [e0] at hst
    simp(maxSteps:=999999)(disch:=omega)only[go_sem,reduceAdd,reduceMul,reduceSub,reduceEqDiff,reduceLeDiff]
    intro g1 g2
    refine ⟨k + 1, g2, ⟨by omega, by omega⟩, ⟨⟨rfl, by rw [hst, List.length_append]; try rfl⟩, by omega⟩, hle_eq (by rw [hst] <;> simp only [cl_append] <;> try rfl) (hle_nil _)⟩
theorem PuzzleSolved_gen (p : Puz) (xs : List Int) (hx : smP p) (hl : xs.length ≤ 2 ^ 40) : Reads Try.prog 155 [aP p, ints xs] (bool (solvedV p xs)) := by
  refine RunCall.cw (c := _) Try.func155 rfl (n := 17) Try.ntmps155 (rs := [.tmp 4]) rfl ?_
  simp only[List.length_cons,List.length_nil,reduceAdd,reduceSub,List.replicate,List.cons_append,List.nil_append]
  simp(maxSteps:=999999)(disch:=omega)only[go_sem,reduceAdd,reduceMul,reduceSub,reduceEqDiff,reduceLeDiff]
  intro g
  first | refine OpS.rd (PuzzleFits_gen p xs hx hl) (⟨_, Try.func82, rfl, rfl⟩ : Enters Try.prog 82) rfl rfl rfl rfl ?_ | refine Loud.rd (PuzzleFits_gen p xs hx hl) (⟨_, Try.func82, rfl, rfl⟩ : Enters Try.prog 82) rfl rfl rfl rfl ?_
  simp(maxSteps:=999999)(disch:=omega)only[go_sem,reduceAdd,reduceMul,reduceSub,reduceEqDiff,reduceLeDiff]
  cases h : fitsV p xs with
  | false =>
    have e : solvedV p xs = false := by unfold solvedV; unfold fitsV at h; rw [h]; rfl
    rw [e]
    simp(maxSteps:=999999)(disch:=omega)only[go_sem,reduceAdd,reduceMul,reduceSub,reduceEqDiff,reduceLeDiff]
  | true =>
    have e : solvedV p xs = decide (gridFilled xs p.size = xs.length) := by unfold solvedV; unfold fitsV at h; rw [h]; rfl
    rw [e]
    simp(maxSteps:=999999)(disch:=omega)only[go_sem,reduceAdd,reduceMul,reduceSub,reduceEqDiff,reduceLeDiff]
    first | refine OpS.rd (GridFilled_run xs p.size hl) (⟨_, Try.func53, rfl, rfl⟩ : Enters Try.prog 53) rfl rfl rfl rfl ?_ | refine Loud.rd (GridFilled_run xs p.size hl) (⟨_, Try.func53, rfl, rfl⟩ : Enters Try.prog 53) rfl rfl rfl rfl ?_
    simp(maxSteps:=999999)(disch:=omega)only[go_sem,reduceAdd,reduceMul,reduceSub,reduceEqDiff,reduceLeDiff]
theorem tried_run {n : Nat} (hn : n = 2 ∨ n = 3 ∨ n = 4) (ms : List Nat) (hm : MsN ms n) (k v : Nat) (hk : k < n * n) (hv : v ≤ 4) : Reads Try.prog 132 [ints (nats ms), int k, int v] (ints (nats (ms.set k (2 ^ v)))) := by
  have hsq : 4 ≤ n * n ∧ n * n ≤ 16 := by rcases hn with rfl | rfl | rfl <;> omega
  have hl : (nats ms).length = n * n := by rw [nats_len]; exact hm.len
  have hlm := hm.len
  have hs := shl_small (v := (v : Int)) (by omega)
  rw [Int.toNat_natCast] at hs
  have hsr := setRange_nats (b := ms) (k := k) (v := 2 ^ v) (by omega)
  refine Reads.own ?_
  refine RunCall.cw (c := _) Try.func132 rfl (n := 16) Try.ntmps132 (rs := [.tmp 6]) rfl ?_
  simp only[List.length_cons,List.length_nil,reduceAdd,reduceSub,List.replicate,List.cons_append,List.nil_append]
  simp(maxSteps:=999999)(disch:=omega)only[go_sem,reduceAdd,reduceMul,reduceSub,reduceEqDiff,reduceLeDiff]
  refine OpS.mkQ (Clone_q (nats ms) (by omega) (fun h => by rw [h] at hl; simp at hl; omega)) (⟨_, Try.func106, rfl, rfl⟩ : Enters Try.prog 106) rfl rfl rfl ?_
  rintro _ _ ⟨g, rfl, rfl⟩
  refine ⟨rfl, ?_⟩
  simp(maxSteps:=999999)(disch:=omega)only[go_sem,reduceAdd,reduceMul,reduceSub,reduceEqDiff,reduceLeDiff, hs, hl, hsr]
  have hl2 : (nats (ms.set k (2 ^ v))).length = n * n := by rw [nats_len, List.length_set]; omega
  rw [← hl2]
  exact lessQ_own (E := eI .i64) (n := 1) (HLe.refl _)
theorem masksEnd_run {p : Puz} {n : Nat} (hp : PuzN p n) (ms : List Nat) (hm : MsN ms n) : Reads Try.prog 128 [aP p, ints (nats ms)] (.tup [int ((endM p ms).getD 0 : Nat), bool (endM p ms).isSome]) := by
  have hn := hp.hn
  have hsq : 4 ≤ n * n ∧ n * n ≤ 16 := by rcases hn with rfl | rfl | rfl <;> omega
  have hl : (nats ms).length = n * n := by rw [nats_len]; exact hm.len
  have hlm := hm.len
  refine RunCall.cw (c := _) Try.func128 rfl (n := 34) Try.ntmps128 (rs := [.tmp 4, .tmp 5]) rfl ?_
  simp only[List.length_cons,List.length_nil,reduceAdd,reduceSub,List.replicate,List.cons_append,List.nil_append]
  simp(maxSteps:=999999)(disch:=omega)only[go_sem,reduceAdd,reduceMul,reduceSub,reduceEqDiff,reduceLeDiff]
  intro g
  refine loop_rule (fun k : Nat => n * n - k) (fun k => k ≤ n * n ∧ ∀ i : Nat, i < k → mAt ms i ≠ 0) (fun k => [.a, .k, .k, .a, .a, .a, .p (bool (decide (∀ i : Nat, i < k → onlyV (mAt ms i) ≠ 0))), .a, .a, .k, .k, .p (int k), .a, .a, .a, .a, .a, .a, .a, .a, .a, .a, .a, .a, .a, .a, .a, .a, .a, .a, .a, .a, .a, .a]) (fun k => [some ⟨g, 1, cP p⟩]) 0 ⟨Nat.zero_le _, fun i h => by omega⟩ (by simp(maxSteps:=999999)(disch:=omega)only[go_sem,reduceAdd,reduceMul,reduceSub,reduceEqDiff,reduceLeDiff]; exact ⟨by simp, rfl⟩) (HLe.refl _) ?_
  rintro k ⟨hk, hno⟩
  simp(maxSteps:=999999)(disch:=omega)only[go_sem,reduceAdd,reduceMul,reduceSub,reduceEqDiff,reduceLeDiff]
  ((first|(with_reducible first|refine condK_dec ?_ ?_|refine condK_ndec ?_ ?_|refine condK_nb ?_ ?_)|refine condK_b ?_ ?_) <;> intro c1)
  · have c1 : k < n * n := by omega
    have hnk := nth_nats ms k
    simp(maxSteps:=999999)(disch:=omega)only[go_sem,reduceAdd,reduceMul,reduceSub,reduceEqDiff,reduceLeDiff, hnk]
    ((first|(with_reducible first|refine condK_dec ?_ ?_|refine condK_ndec ?_ ?_|refine condK_nb ?_ ?_)|refine condK_b ?_ ?_) <;> intro c2)
    · have c2 : mAt ms k = 0 := by omega
      have e : endM p ms = some 0 := by
        unfold endM
        rw [if_pos ⟨mAt ms k, mAt_mem (by omega), c2⟩]
      rw [e]
      simp(maxSteps:=999999)(disch:=omega)only[go_sem,reduceAdd,reduceMul,reduceSub,reduceEqDiff,reduceLeDiff]
      rfl
    · have c2 : mAt ms k ≠ 0 := by omega
      have hno2 : ∀ i : Nat, i < k + 1 → mAt ms i ≠ 0 := fun i hi => by
        by_cases h : i = k
        · rw [h]; exact c2
        · exact hno i (by omega)
      obtain ⟨b, hb⟩ : ∃ b : Bool, b = decide (∀ i : Nat, i < k → onlyV (mAt ms i) ≠ 0) := ⟨_, rfl⟩
      rw [← hb]
      cases b with
      | true =>
        have c3 := of_decide_eq_true hb.symm
        simp(maxSteps:=999999)(disch:=omega)only[go_sem,reduceAdd,reduceMul,reduceSub,reduceEqDiff,reduceLeDiff]
        first | refine OpS.rd (onlyValue_run (mAt ms k) (hm.lt hn k).1) (⟨_, Try.func86, rfl, rfl⟩ : Enters Try.prog 86) rfl rfl rfl rfl ?_ | refine Loud.rd (onlyValue_run (mAt ms k) (hm.lt hn k).1) (⟨_, Try.func86, rfl, rfl⟩ : Enters Try.prog 86) rfl rfl rfl rfl ?_
        simp(maxSteps:=999999)(disch:=omega)only[go_sem,reduceAdd,reduceMul,reduceSub,reduceEqDiff,reduceLeDiff]
        refine ⟨k + 1, ⟨⟨by omega, hno2⟩, by omega⟩, ⟨?_, by push_cast; rfl⟩, HLe.refl _⟩
        rw [Bool.eq_iff_iff, decide_eq_true_eq, decide_eq_true_eq]
        constructor
        · intro h i hi
          by_cases hik : i = k
          · rw [hik]; omega
          · exact c3 i (by omega)
        · intro h
          have := h k (by omega)
          omega
      | false =>
        have c3 := of_decide_eq_false hb.symm
        simp(maxSteps:=999999)(disch:=omega)only[go_sem,reduceAdd,reduceMul,reduceSub,reduceEqDiff,reduceLeDiff]
        refine ⟨k + 1, ⟨⟨by omega, hno2⟩, by omega⟩, ⟨?_, by push_cast; rfl⟩, HLe.refl _⟩
        symm
        rw [decide_eq_false_iff_not]
        exact fun h => c3 fun i hi => h i (by omega)
  · have hke : k = n * n := by omega
    have h0 : ¬ ∃ m ∈ ms, m = 0 := by
      rintro ⟨m, hmm, rfl⟩
      obtain ⟨i, hi, he⟩ := List.getElem_of_mem hmm
      refine hno i (by omega) ?_
      unfold mAt
      simp [List.getD, List.getElem?_eq_getElem hi, he]
    have ha : (∀ i : Nat, i < k → onlyV (mAt ms i) ≠ 0) ↔ ∀ m ∈ ms, onlyV m ≠ 0 := by
      constructor
      · intro h m hmm
        obtain ⟨i, hi, he⟩ := List.getElem_of_mem hmm
        have := h i (by omega)
        unfold mAt at this
        simpa [List.getD, List.getElem?_eq_getElem hi, he] using this
      · intro h i hi
        exact h _ (mAt_mem (by omega))
    have e : endM p ms = if (∀ i : Nat, i < k → onlyV (mAt ms i) ≠ 0) then some (if solvedV p (nats (onlyL ms)) = true then 1 else 0) else none := by
      unfold endM
      rw [if_neg h0]
      by_cases h : ∀ m ∈ ms, onlyV m ≠ 0
      · rw [if_pos h, if_pos (ha.2 h)]
      · rw [if_neg h, if_neg (fun h' => h (ha.1 h'))]
    rw [e]
    have hgl : (nats (onlyL ms)).length ≤ 2 ^ 40 := by rw [nats_len, onlyL_len]; omega
    have hz := hp.size
    have hmg := MasksGrid_run hn ms hm
    rw [← hz] at hmg
    obtain ⟨b, hb⟩ : ∃ b : Bool, b = decide (∀ i : Nat, i < k → onlyV (mAt ms i) ≠ 0) := ⟨_, rfl⟩
    rw [← hb]
    cases b with
    | true =>
      have c3 := of_decide_eq_true hb.symm
      rw [if_pos c3]
      simp(maxSteps:=999999)(disch:=omega)only[go_sem,reduceAdd,reduceMul,reduceSub,reduceEqDiff,reduceLeDiff]
      refine drawP_q foll (by kernel_rfl) ?_
      simp(maxSteps:=999999)(disch:=omega)only[go_sem,Nat.reduceBEq,Bool.true_or,reduceAdd,reduceMul,reduceSub,reduceEqDiff,reduceLeDiff]
      refine quietW.mk (hmg) (⟨_, Try.func156, rfl, rfl⟩ : Enters Try.prog 156) rfl rfl rfl rfl rfl ?_
      simp(maxSteps:=999999)(disch:=omega)only[go_sem,reduceAdd,reduceMul,reduceSub,reduceEqDiff,reduceLeDiff]
      refine quietW.rd (PuzzleSolved_gen p (nats (onlyL ms)) hp.sm hgl) (⟨_, Try.func155, rfl, rfl⟩ : Enters Try.prog 155) rfl rfl rfl rfl ?_
      simp(maxSteps:=999999)(disch:=omega)only[go_sem,reduceAdd,reduceMul,reduceSub,reduceEqDiff,reduceLeDiff]
      cases solvedV p (nats (onlyL ms))
      · simp(maxSteps:=999999)(disch:=omega)only[go_sem,reduceAdd,reduceMul,reduceSub,reduceEqDiff,reduceLeDiff]
        rfl
      · simp(maxSteps:=999999)(disch:=omega)only[go_sem,reduceAdd,reduceMul,reduceSub,reduceEqDiff,reduceLeDiff]
        rfl
    | false =>
      have c3 := of_decide_eq_false hb.symm
      rw [if_neg c3]
      simp(maxSteps:=999999)(disch:=omega)only[go_sem,reduceAdd,reduceMul,reduceSub,reduceEqDiff,reduceLeDiff]
      refine drawP_q foll (by kernel_rfl) ?_
      simp(maxSteps:=999999)(disch:=omega)only[go_sem,Nat.reduceBEq,Bool.true_or,reduceAdd,reduceMul,reduceSub,reduceEqDiff,reduceLeDiff]
      rfl
end Go.Lg
