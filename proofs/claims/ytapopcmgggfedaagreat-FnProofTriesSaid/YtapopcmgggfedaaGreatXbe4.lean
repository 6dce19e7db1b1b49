/- GpTA, GpTB, GpTD, GpTC, GpTE, GpTF, cut to what is needed. -/
import Derived.Test.YtapopcmgggfedaaGreatXbe0
import Derived.Test.YtapopcmgggfedaaGreatXbc1
import Derived.Test.YtapopcmgggfedaaGreatXbd9
import Derived.Test.YtapopcmgggfedaaGreatXbd0
import Derived.Test.YtapopcmgggfedaaGreatXbc5
import Derived.Test.YtapopcmgggfedaaGreatXbc6
import Derived.Test.YtapopcmgggfedaaGreatXbc9
import Derived.Test.YtapopcmgggfedaaGreatXbd5
import Derived.Test.YtapopcmgggfedaaGreatXbb8
import Derived.Test.YtapopcmgggfedaaGreatXbb9
open Nat renaming reduceAdd → zA, reduceMul → zM, reduceSub → zS, reduceEqDiff → zE, reduceLeDiff → zL
set_option linter.unusedSimpArgs false
set_option linter.unusedVariables false
set_option maxRecDepth 100000
namespace Go.Lg
open Go.Proofs
def onlyL (ms : List Nat) : List Nat := ms.map onlyV
def endM (p : Puz) (ms : List Nat) : Option Nat :=
  if (∃ m ∈ ms, m = 0) then some 0 else if (∀ m ∈ ms, onlyV m ≠ 0) then some (if solvedV p (nats (onlyL ms)) = true then 1 else 0) else none
def tryL (c : List Nat → List Brn → Option (Nat × List Brn)) (ms : List Nat) (k : Nat) : List Int → List Brn → Nat → Option (Nat × List Brn)
  | [], bs, s => some (s, bs)
  | v :: vs, bs, s => match c (ms.set k (2 ^ v.toNat)) bs with
    | none => none
    | some (n, l) => tryL c ms k vs l (s + n)
def chkF (p : Puz) : Nat → List Nat → List Brn → Option (Nat × List Brn)
  | 0, _, _ => none
  | f + 1, ms, bs => match endM p ms with
    | some n => some (n, bs)
    | none => match bs with
      | [] => none
      | b :: r => if 0 < b.tech then chkF p f (narM p b.tech.toNat ms) r else tryL (chkF p f) ms b.cell.toNat (mvals (mAt ms b.cell.toNat) 4) r 0
def ChkOk (bs : List Brn) : Option (Nat × List Brn) → Prop
  | none => True
  | some (n, l) => (∃ pre, bs = pre ++ l) ∧ n + 3 * l.length ≤ 3 * bs.length + 1
theorem tryL_ok {c : List Nat → List Brn → Option (Nat × List Brn)} (hc : ∀ ms bs, ChkOk bs (c ms bs)) (ms : List Nat) (k : Nat) (r : List Brn) (L : Nat) : ∀ (vs : List Int) (bs : List Brn) (s : Nat), (∃ pre, r = pre ++ bs) → s + 3 * bs.length + vs.length ≤ 3 * r.length + L →
    match tryL c ms k vs bs s with
    | none => True
    | some (n, l) => (∃ pre, r = pre ++ l) ∧ n + 3 * l.length ≤ 3 * r.length + L
  | [], bs, s, hp, hs => ⟨hp, by simpa using hs⟩
  | v :: vs, bs, s, hp, hs => by
    have h := hc (ms.set k (2 ^ v.toNat)) bs
    unfold tryL
    cases e : c (ms.set k (2 ^ v.toNat)) bs with
    | none => trivial
    | some q =>
      obtain ⟨n, l⟩ := q
      rw [e] at h
      obtain ⟨⟨pre, h1⟩, h2⟩ := h
      obtain ⟨pre2, h3⟩ := hp
      simp only [List.length_cons] at hs
      exact tryL_ok hc ms k r L vs l (s + n) ⟨pre2 ++ pre, by rw [h3, h1, List.append_assoc]⟩ (by omega)
theorem chkF_ok (p : Puz) : ∀ (f : Nat) (ms : List Nat) (bs : List Brn), ChkOk bs (chkF p f ms bs)
  | 0, _, _ => trivial
  | f + 1, ms, bs => by
    unfold chkF
    cases e : endM p ms with
    | some n =>
      refine ⟨⟨[], rfl⟩, ?_⟩
      unfold endM at e
      split at e
      · cases e; omega
      · split at e
        · cases e; split <;> omega
        · cases e
    | none =>
      cases bs with
      | nil => trivial
      | cons b r =>
        show ChkOk (b :: r) (if _ then _ else _)
        split
        · have h := chkF_ok p f (narM p b.tech.toNat ms) r
          cases e2 : chkF p f (narM p b.tech.toNat ms) r with
          | none => trivial
          | some q =>
            rw [e2] at h
            obtain ⟨⟨pre, h1⟩, h2⟩ := h
            exact ⟨⟨b :: pre, by rw [h1]; rfl⟩, by simp only [List.length_cons]; omega⟩
        · have h := tryL_ok (chkF_ok p f) ms b.cell.toNat r 4 (mvals (mAt ms b.cell.toNat) 4) r 0 ⟨[], rfl⟩ (by have := mvals_len (mAt ms b.cell.toNat) 4; omega)
          cases e2 : tryL (chkF p f) ms b.cell.toNat (mvals (mAt ms b.cell.toNat) 4) r 0 with
          | none => trivial
          | some q =>
            rw [e2] at h
            obtain ⟨⟨pre, h1⟩, h2⟩ := h
            exact ⟨⟨b :: pre, by rw [h1]; rfl⟩, by simp only [List.length_cons]; omega⟩
theorem mvals_bit {m : Nat} {v : Int} (h : v ∈ mvals m 4) : ∃ u : Nat, v = u ∧ 1 ≤ u ∧ u ≤ 4 ∧ m.testBit u = true := by
  unfold mvals at h
  obtain ⟨u, hu, hx⟩ := List.mem_flatMap.1 h
  have := List.mem_of_mem_take hu
  split at hx
  · rename_i hb
    simp only [List.mem_singleton] at hx
    simp only [List.mem_cons, List.not_mem_nil, or_false] at this
    exact ⟨u, hx, by omega, by omega, hb⟩
  · simp at hx
theorem MsN.tried {ms : List Nat} {n k : Nat} {v : Int} (hm : MsN ms n) (hv : v ∈ mvals (mAt ms k) 4) : MsN (ms.set k (2 ^ v.toNat)) n := by
  obtain ⟨u, rfl, h1, h2, h3⟩ := mvals_bit hv
  have h4 := Nat.ge_two_pow_of_testBit h3
  have h5 := hm.at k
  refine hm.set ⟨by rw [Int.toNat_natCast]; omega, ?_⟩
  rw [Int.toNat_natCast]
  have : u = 1 ∨ u = 2 ∨ u = 3 ∨ u = 4 := by omega
  rcases this with rfl | rfl | rfl | rfl <;> rfl
theorem onlyL_len (ms : List Nat) : (onlyL ms).length = ms.length := by simp [onlyL]
theorem onlyL_at (ms : List Nat) (k : Nat) : mAt (onlyL ms) k = onlyV (mAt ms k) := by
  unfold mAt onlyL
  simp only [List.getD, List.getElem?_map]
  cases ms[k]? <;> rfl
theorem onlyL_grd {ms : List Nat} {n : Nat} (hn : n = 2 ∨ n = 3 ∨ n = 4) (hm : MsN ms n) : GrdN (nats (onlyL ms)) n := by
  refine ⟨by rw [nats_len, onlyL_len]; exact hm.len, fun k hk => ?_⟩
  rw [nth_nats, onlyL_at]
  have h6 := hm.at k
  by_cases h0 : onlyV (mAt ms k) = 0
  · rw [h0]; omega
  · have h5 := (mvals_only (hm.lt hn k)).2 h0
    have hle := onlyV_le (mAt ms k)
    have h7 : 2 ^ onlyV (mAt ms k) ≤ 2 ^ (n + 1) - 2 := by rw [← h5.2]; exact h6.1
    generalize onlyV (mAt ms k) = v at *
    have : v = 1 ∨ v = 2 ∨ v = 3 ∨ v = 4 := by omega
    rcases hn with rfl | rfl | rfl <;> rcases this with rfl | rfl | rfl | rfl <;> simp at h7 ⊢
end Go.Lg

namespace Go.Lg
open Go.Proofs
theorem set_midk {α : Type} (A B : List α) (x y : α) {k : Nat} (h : A.length = k) : (A ++ x :: B).set k y = A ++ y :: B := by subst h; simp
theorem MasksGrid_run {n : Nat} (hn : n = 2 ∨ n = 3 ∨ n = 4) (ms : List Nat) (hm : MsN ms n) : Reads Tryz.prog 19 [ints (nats ms), int n] (ints (nats (onlyL ms))) := by
  have hsq : 4 ≤ n * n ∧ n * n ≤ 16 := by rcases hn with rfl | rfl | rfl <;> omega
  have hl : (nats ms).length = n * n := by rw [nats_len]; exact hm.len
  have hlm := hm.len
  have hlo : (onlyL ms).length = n * n := by rw [onlyL_len]; exact hm.len
  refine Reads.own ?_
  refine RunCall.cw (c := _) Tryz.func19 rfl (n := 29) Tryz.ntmps19 (rs := [.tmp 4]) rfl ?_
  simp only[List.length_cons,List.length_nil,zA,zS,List.replicate,List.cons_append,List.nil_append]
  simp(maxSteps:=999999)(disch:=omega)only[go_sem,zA,zM,zS,zE,zL]
  first | refine OpS.rd (MasksValid_run hn ms hm) (⟨_, Tryz.func30, rfl, rfl⟩ : Enters Tryz.prog 30) rfl rfl rfl rfl ?_ | refine Loud.rd (MasksValid_run hn ms hm) (⟨_, Tryz.func30, rfl, rfl⟩ : Enters Tryz.prog 30) rfl rfl rfl rfl ?_
  simp(maxSteps:=999999)(disch:=omega)only[go_sem,zA,zM,zS,zE,zL]
  intro g
  -- the cells that are told already
  refine loop_rule (fun k : Nat => n * n - k) (fun k => k ≤ n * n) (fun k => [.a, .a, .a, .a, .a, .k, .a, .a, .a, .a, .a, .a, .a, .a, .a, .k, .k, .p (int k), .a, .a, .a, .a, .a, .a, .a, .a, .a, .a, .a]) (fun k => [some ⟨g, 1, cl (eI .i64) (nats ((onlyL ms).take k ++ List.replicate (n * n - k) 0))⟩]) 0 (Nat.zero_le _) (by simp(maxSteps:=999999)(disch:=omega)only[go_sem,zA,zM,zS,zE,zL]; rfl) (hle_eq (by rw [hl]; simp [nats]) (hle_nil _)) ?_
  intro k hk
  simp(maxSteps:=999999)(disch:=omega)only[go_sem,zA,zM,zS,zE,zL]
  ((first|(with_reducible first|refine condK_dec ?_ ?_|refine condK_ndec ?_ ?_|refine condK_nb ?_ ?_)|refine condK_b ?_ ?_) <;> intro c1)
  · have c1 : k < n * n := by omega
    have hmk := hm.lt hn k
    have hnk := nth_nats ms k
    have hlen : ((onlyL ms).take k ++ List.replicate (n * n - k) 0).length = n * n := by simp; omega
    have hsr := setRange_nats (b := (onlyL ms).take k ++ List.replicate (n * n - k) 0) (k := k) (v := onlyV (mAt ms k)) (by rw [hlen]; exact c1)
    have hset : ((onlyL ms).take k ++ List.replicate (n * n - k) 0).set k (onlyV (mAt ms k)) = (onlyL ms).take (k + 1) ++ List.replicate (n * n - (k + 1)) 0 := by
      have e : mAt (onlyL ms) k = (onlyL ms)[k]'(by omega) := by unfold mAt; simp [List.getD, List.getElem?_eq_getElem (show k < (onlyL ms).length by omega)]
      rw [show n * n - k = (n * n - (k + 1)) + 1 by omega, List.replicate_succ, List.take_succ_eq_append_getElem (by omega), ← e, onlyL_at, set_midk _ _ _ _ (by rw [List.length_take]; omega), List.append_assoc]
      rfl
    have hnl : (nats ((onlyL ms).take k ++ List.replicate (n * n - k) 0)).length = n * n := by rw [nats_len, hlen]
    simp(maxSteps:=999999)(disch:=omega)only[go_sem,zA,zM,zS,zE,zL, hnk]
    first | refine OpS.rd (onlyValue_run (mAt ms k) hmk.1) (⟨_, Tryz.func34, rfl, rfl⟩ : Enters Tryz.prog 34) rfl rfl rfl rfl ?_ | refine Loud.rd (onlyValue_run (mAt ms k) hmk.1) (⟨_, Tryz.func34, rfl, rfl⟩ : Enters Tryz.prog 34) rfl rfl rfl rfl ?_
    simp(maxSteps:=999999)(disch:=omega)only[go_sem,zA,zM,zS,zE,zL]
    exact ⟨k + 1, ⟨by omega, by omega⟩, by push_cast; rfl, by rw [Int.toNat_natCast, nats_set, hset]; exact HLe.refl _⟩
  · have hke : k = n * n := by omega
    have e : (onlyL ms).take k ++ List.replicate (n * n - k) 0 = onlyL ms := by rw [hke, Nat.sub_self, List.take_of_length_le (by omega)]; simp
    rw [e]
    have hl2 : (nats (onlyL ms)).length = n * n := by rw [nats_len]; exact hlo
    simp(maxSteps:=999999)(disch:=omega)only[go_sem,zA,zM,zS,zE,zL]
    rw [hl, ← hl2]
    exact lessQ_own (E := eI .i64) (n := 1) (HLe.refl _)
theorem PuzzleSolved_gen (p : Puz) (xs : List Int) (hx : smP p) (hl : xs.length ≤ 2 ^ 40) : Reads Tryz.prog 56 [aP p, ints xs] (bool (solvedV p xs)) := by
  refine RunCall.cw (c := _) Tryz.func56 rfl (n := 17) Tryz.ntmps56 (rs := [.tmp 4]) rfl ?_
  simp only[List.length_cons,List.length_nil,zA,zS,List.replicate,List.cons_append,List.nil_append]
  simp(maxSteps:=999999)(disch:=omega)only[go_sem,zA,zM,zS,zE,zL]
  intro g
  first | refine OpS.rd (PuzzleFits_gen p xs hx hl) (⟨_, Tryz.func76, rfl, rfl⟩ : Enters Tryz.prog 76) rfl rfl rfl rfl ?_ | refine Loud.rd (PuzzleFits_gen p xs hx hl) (⟨_, Tryz.func76, rfl, rfl⟩ : Enters Tryz.prog 76) rfl rfl rfl rfl ?_
  simp(maxSteps:=999999)(disch:=omega)only[go_sem,zA,zM,zS,zE,zL]
  cases h : fitsV p xs with
  | false =>
    have e : solvedV p xs = false := by unfold solvedV; unfold fitsV at h; rw [h]; rfl
    rw [e]
    simp(maxSteps:=999999)(disch:=omega)only[go_sem,zA,zM,zS,zE,zL]
  | true =>
    have e : solvedV p xs = decide (gridFilled xs p.size = xs.length) := by unfold solvedV; unfold fitsV at h; rw [h]; rfl
    rw [e]
    simp(maxSteps:=999999)(disch:=omega)only[go_sem,zA,zM,zS,zE,zL]
    first | refine OpS.rd (GridFilled_run xs p.size hl) (⟨_, Tryz.func14, rfl, rfl⟩ : Enters Tryz.prog 14) rfl rfl rfl rfl ?_ | refine Loud.rd (GridFilled_run xs p.size hl) (⟨_, Tryz.func14, rfl, rfl⟩ : Enters Tryz.prog 14) rfl rfl rfl rfl ?_
    simp(maxSteps:=999999)(disch:=omega)only[go_sem,zA,zM,zS,zE,zL]
theorem tried_run {n : Nat} (hn : n = 2 ∨ n = 3 ∨ n = 4) (ms : List Nat) (hm : MsN ms n) (k v : Nat) (hk : k < n * n) (hv : v ≤ 4) : Reads Tryz.prog 39 [ints (nats ms), int k, int v] (ints (nats (ms.set k (2 ^ v)))) := by
  have hsq : 4 ≤ n * n ∧ n * n ≤ 16 := by rcases hn with rfl | rfl | rfl <;> omega
  have hl : (nats ms).length = n * n := by rw [nats_len]; exact hm.len
  have hlm := hm.len
  have hs := shl_small (v := (v : Int)) (by omega)
  rw [Int.toNat_natCast] at hs
  have hsr := setRange_nats (b := ms) (k := k) (v := 2 ^ v) (by omega)
  refine Reads.own ?_
  refine RunCall.cw (c := _) Tryz.func39 rfl (n := 16) Tryz.ntmps39 (rs := [.tmp 6]) rfl ?_
  simp only[List.length_cons,List.length_nil,zA,zS,List.replicate,List.cons_append,List.nil_append]
  simp(maxSteps:=999999)(disch:=omega)only[go_sem,zA,zM,zS,zE,zL]
  refine OpS.mkQ (Clone_q (nats ms) (by omega) (fun h => by rw [h] at hl; simp at hl; omega)) (⟨_, Tryz.func31, rfl, rfl⟩ : Enters Tryz.prog 31) rfl rfl rfl ?_
  rintro _ _ ⟨g, rfl, rfl⟩
  refine ⟨rfl, ?_⟩
  simp(maxSteps:=999999)(disch:=omega)only[go_sem,zA,zM,zS,zE,zL, hs, hl, hsr]
  have hl2 : (nats (ms.set k (2 ^ v))).length = n * n := by rw [nats_len, List.length_set]; omega
  rw [← hl2]
  exact lessQ_own (E := eI .i64) (n := 1) (HLe.refl _)
theorem masksEnd_run {p : Puz} {n : Nat} (hp : PuzN p n) (ms : List Nat) (hm : MsN ms n) : Reads Tryz.prog 35 [aP p, ints (nats ms)] (.tup [int ((endM p ms).getD 0 : Nat), bool (endM p ms).isSome]) := by
  have hn := hp.hn
  have hsq : 4 ≤ n * n ∧ n * n ≤ 16 := by rcases hn with rfl | rfl | rfl <;> omega
  have hl : (nats ms).length = n * n := by rw [nats_len]; exact hm.len
  have hlm := hm.len
  refine RunCall.cw (c := _) Tryz.func35 rfl (n := 34) Tryz.ntmps35 (rs := [.tmp 4, .tmp 5]) rfl ?_
  simp only[List.length_cons,List.length_nil,zA,zS,List.replicate,List.cons_append,List.nil_append]
  simp(maxSteps:=999999)(disch:=omega)only[go_sem,zA,zM,zS,zE,zL]
  intro g
  refine loop_rule (fun k : Nat => n * n - k) (fun k => k ≤ n * n ∧ ∀ i : Nat, i < k → mAt ms i ≠ 0) (fun k => [.a, .k, .k, .a, .a, .a, .p (bool (decide (∀ i : Nat, i < k → onlyV (mAt ms i) ≠ 0))), .a, .a, .k, .k, .p (int k), .a, .a, .a, .a, .a, .a, .a, .a, .a, .a, .a, .a, .a, .a, .a, .a, .a, .a, .a, .a, .a, .a]) (fun k => [some ⟨g, 1, cP p⟩]) 0 ⟨Nat.zero_le _, fun i h => by omega⟩ (by simp(maxSteps:=999999)(disch:=omega)only[go_sem,zA,zM,zS,zE,zL]; exact ⟨by simp, rfl⟩) (HLe.refl _) ?_
  rintro k ⟨hk, hno⟩
  simp(maxSteps:=999999)(disch:=omega)only[go_sem,zA,zM,zS,zE,zL]
  ((first|(with_reducible first|refine condK_dec ?_ ?_|refine condK_ndec ?_ ?_|refine condK_nb ?_ ?_)|refine condK_b ?_ ?_) <;> intro c1)
  · have c1 : k < n * n := by omega
    have hnk := nth_nats ms k
    simp(maxSteps:=999999)(disch:=omega)only[go_sem,zA,zM,zS,zE,zL, hnk]
    ((first|(with_reducible first|refine condK_dec ?_ ?_|refine condK_ndec ?_ ?_|refine condK_nb ?_ ?_)|refine condK_b ?_ ?_) <;> intro c2)
    · have c2 : mAt ms k = 0 := by omega
      have e : endM p ms = some 0 := by
        unfold endM
        rw [if_pos ⟨mAt ms k, mAt_mem (by omega), c2⟩]
      rw [e]
      simp(maxSteps:=999999)(disch:=omega)only[go_sem,zA,zM,zS,zE,zL]
      rfl
    · have c2 : mAt ms k ≠ 0 := by omega
      have hno2 : ∀ i : Nat, i < k + 1 → mAt ms i ≠ 0 := fun i hi => by
        by_cases h : i = k
        · rw [h]; exact c2
        · exact hno i (by omega)
      obtain ⟨b, hb⟩ : ∃ b : Bool, b = decide (∀ i : Nat, i < k → onlyV (mAt ms i) ≠ 0) := ⟨_, rfl⟩
      rw [← hb]
      cases b with
      | true =>
        have c3 := of_decide_eq_true hb.symm
        simp(maxSteps:=999999)(disch:=omega)only[go_sem,zA,zM,zS,zE,zL]
        first | refine OpS.rd (onlyValue_run (mAt ms k) (hm.lt hn k).1) (⟨_, Tryz.func34, rfl, rfl⟩ : Enters Tryz.prog 34) rfl rfl rfl rfl ?_ | refine Loud.rd (onlyValue_run (mAt ms k) (hm.lt hn k).1) (⟨_, Tryz.func34, rfl, rfl⟩ : Enters Tryz.prog 34) rfl rfl rfl rfl ?_
        simp(maxSteps:=999999)(disch:=omega)only[go_sem,zA,zM,zS,zE,zL]
        refine ⟨k + 1, ⟨⟨by omega, hno2⟩, by omega⟩, ⟨?_, by push_cast; rfl⟩, HLe.refl _⟩
        rw [Bool.eq_iff_iff, decide_eq_true_eq, decide_eq_true_eq]
        constructor
        · intro h i hi
          by_cases hik : i = k
          · rw [hik]; omega
          · exact c3 i (by omega)
        · intro h
          have := h k (by omega)
          omega
      | false =>
        have c3 := of_decide_eq_false hb.symm
        simp(maxSteps:=999999)(disch:=omega)only[go_sem,zA,zM,zS,zE,zL]
        refine ⟨k + 1, ⟨⟨by omega, hno2⟩, by omega⟩, ⟨?_, by push_cast; rfl⟩, HLe.refl _⟩
        symm
        rw [decide_eq_false_iff_not]
        exact fun h => c3 fun i hi => h i (by omega)
  · have hke : k = n * n := by omega
    have h0 : ¬ ∃ m ∈ ms, m = 0 := by
      rintro ⟨m, hmm, rfl⟩
      obtain ⟨i, hi, he⟩ := List.getElem_of_mem hmm
      refine hno i (by omega) ?_
      unfold mAt
      simp [List.getD, List.getElem?_eq_getElem hi, he]
    have ha : (∀ i : Nat, i < k → onlyV (mAt ms i) ≠ 0) ↔ ∀ m ∈ ms, onlyV m ≠ 0 := by
      constructor
      · intro h m hmm
        obtain ⟨i, hi, he⟩ := List.getElem_of_mem hmm
        have := h i (by omega)
        unfold mAt at this
        simpa [List.getD, List.getElem?_eq_getElem hi, he] using this
      · intro h i hi
        exact h _ (mAt_mem (by omega))
    have e : endM p ms = if (∀ i : Nat, i < k → onlyV (mAt ms i) ≠ 0) then some (if solvedV p (nats (onlyL ms)) = true then 1 else 0) else none := by
      unfold endM
      rw [if_neg h0]
      by_cases h : ∀ m ∈ ms, onlyV m ≠ 0
      · rw [if_pos h, if_pos (ha.2 h)]
      · rw [if_neg h, if_neg (fun h' => h (ha.1 h'))]
    rw [e]
    have hgl : (nats (onlyL ms)).length ≤ 2 ^ 40 := by rw [nats_len, onlyL_len]; omega
    have hz := hp.size
    have hmg := MasksGrid_run hn ms hm
    rw [← hz] at hmg
    obtain ⟨b, hb⟩ : ∃ b : Bool, b = decide (∀ i : Nat, i < k → onlyV (mAt ms i) ≠ 0) := ⟨_, rfl⟩
    rw [← hb]
    cases b with
    | true =>
      have c3 := of_decide_eq_true hb.symm
      rw [if_pos c3]
      simp(maxSteps:=999999)(disch:=omega)only[go_sem,zA,zM,zS,zE,zL]
      refine drawP_q foll (by kernel_rfl) ?_
      simp(maxSteps:=999999)(disch:=omega)only[go_sem,Nat.reduceBEq,Bool.true_or,zA,zM,zS,zE,zL]
      refine quietW.mk (hmg) (⟨_, Tryz.func19, rfl, rfl⟩ : Enters Tryz.prog 19) rfl rfl rfl rfl rfl ?_
      simp(maxSteps:=999999)(disch:=omega)only[go_sem,zA,zM,zS,zE,zL]
      refine quietW.rd (PuzzleSolved_gen p (nats (onlyL ms)) hp.sm hgl) (⟨_, Tryz.func56, rfl, rfl⟩ : Enters Tryz.prog 56) rfl rfl rfl rfl ?_
      simp(maxSteps:=999999)(disch:=omega)only[go_sem,zA,zM,zS,zE,zL]
      cases solvedV p (nats (onlyL ms))
      · simp(maxSteps:=999999)(disch:=omega)only[go_sem,zA,zM,zS,zE,zL]
        rfl
      · simp(maxSteps:=999999)(disch:=omega)only[go_sem,zA,zM,zS,zE,zL]
        rfl
    | false =>
      have c3 := of_decide_eq_false hb.symm
      rw [if_neg c3]
      simp(maxSteps:=999999)(disch:=omega)only[go_sem,zA,zM,zS,zE,zL]
      refine drawP_q foll (by kernel_rfl) ?_
      simp(maxSteps:=999999)(disch:=omega)only[go_sem,Nat.reduceBEq,Bool.true_or,zA,zM,zS,zE,zL]
      rfl
end Go.Lg

namespace Go.Lg
open Go.Proofs
theorem iMaskValues_run (m : Nat) (h : m ≤ 30 ∧ m % 2 = 0) : Reads Tryz.prog 38 [int m] (ints (mvals m 4)) := by
  have hav := allValues_run (n := 4) (by omega)
  have e30 : (((2 ^ (4 + 1) - 2 : Nat)) : Int) = 30 := rfl
  have e4 : ((4 : Nat) : Int) = 4 := rfl
  rw [e30, e4] at hav
  have hc : bitsI .andNot .i64 ((m : Nat) : Int) 30 = 0 := by
    have key : ∀ a : Nat, a < 31 → a % 2 = 0 → bitsI .andNot .i64 ((a : Nat) : Int) 30 = 0 := by decide +kernel
    exact key m (by omega) h.2
  have hbit : ∀ v : Nat, v ≤ 4 → decide (bitsI .and .i64 ((m >>> v : Nat) : Int) 1 = 1) = m.testBit v := by
    have key : ∀ a : Nat, a < 31 → ∀ v : Nat, v < 5 → decide (bitsI .and .i64 ((a >>> v : Nat) : Int) 1 = 1) = a.testBit v := by decide +kernel
    exact fun v hv => key m (by omega) v (by omega)
  refine Reads.own ?_
  refine RunCall.cw (c := _) Tryz.func38 rfl (n := 28) Tryz.ntmps38 (rs := [.tmp 2]) rfl ?_
  simp only[List.length_cons,List.length_nil,zA,zS,List.replicate,List.cons_append,List.nil_append]
  simp(maxSteps:=999999)(disch:=omega)only[go_sem,zA,zM,zS,zE,zL]
  ((with_reducible first|refine guardK_dec ?_ ?_|refine guardK_ndec ?_ ?_|refine guardK_nb ?_ ?_|refine guardK_split ?_ ?_|refine guardQ_dec ?_ ?_|refine guardL_dec ?_ ?_|refine guardQ_ndec ?_ ?_|refine guardL_ndec ?_ ?_|refine guardQ_nb ?_ ?_|refine guardL_nb ?_ ?_|refine guardQ_split ?_ ?_|refine guardL_split ?_ ?_) <;> intro c1 <;> simp(maxSteps:=999999)(disch:=omega)only[go_sem,zA,zM,zS,zE,zL, c1])
  · exfalso; omega
  first | refine OpS.rd (hav) (⟨_, Tryz.func33, rfl, rfl⟩ : Enters Tryz.prog 33) rfl rfl rfl rfl ?_ | refine Loud.rd (hav) (⟨_, Tryz.func33, rfl, rfl⟩ : Enters Tryz.prog 33) rfl rfl rfl rfl ?_
  simp(maxSteps:=999999)(disch:=omega)only[go_sem,zA,zM,zS,zE,zL]
  simp(maxSteps:=999999)(disch:=omega)only[go_sem,zA,zM,zS,zE,zL, hc]
  intro g
  refine loop_rule2 (fun (v g : Nat) => 5 - v) (fun v g => 1 ≤ v ∧ v ≤ 5) (fun v g => [.k, .a, .a, .p (.c (.own 0 g 0 (mvals m (v - 1)).length none)), .p (int v), .a, .a, .a, .a, .a, .a, .a, .a, .a, .a, .a, .a, .a, .a, .a, .a, .a, .a, .a, .a, .a, .a, .a]) (fun v g => [some ⟨g, 1, cl (eI .i64) (mvals m (v - 1))⟩]) 1 g ⟨by omega, by omega⟩ (by simp(maxSteps:=999999)(disch:=omega)only[go_sem,zA,zM,zS,zE,zL]; exact ⟨by simp [mvals], rfl⟩) (HLe.refl _) ?_
  rintro v g ⟨hv1, hv2⟩
  have hlen := mvals_len m (v - 1)
  simp(maxSteps:=999999)(disch:=omega)only[go_sem,zA,zM,zS,zE,zL]
  ((first|(with_reducible first|refine condK_dec ?_ ?_|refine condK_ndec ?_ ?_|refine condK_nb ?_ ?_)|refine condK_b ?_ ?_) <;> intro h1)
  · have hv4 : v ≤ 4 := by omega
    have hsucc := mvals_succ (m := m) (k := v - 1) (by omega)
    rw [show v - 1 + 1 = v by omega] at hsucc
    have hb := hbit v hv4
    simp(maxSteps:=999999)(disch:=omega)only[go_sem,zA,zM,zS,zE,zL, shr_small (s := m) (v := (v : Int)) (by omega)]
    rw [Int.toNat_natCast, hb]
    ((first|(with_reducible first|refine condK_dec ?_ ?_|refine condK_ndec ?_ ?_|refine condK_nb ?_ ?_)|refine condK_b ?_ ?_) <;> intro hb)
    · rw [if_pos hb] at hsucc
      simp(maxSteps:=999999)(disch:=omega)only[go_sem,zA,zM,zS,zE,zL]
      intro g1 g2
      refine ⟨v + 1, g2, ⟨⟨by omega, by omega⟩, by omega⟩, ⟨?_, by push_cast; omega⟩, hle_eq ?_ (hle_nil _)⟩
      · rw [show v + 1 - 1 = v by omega, hsucc, List.length_append]
        exact ⟨rfl, rfl⟩
      · rw [show v + 1 - 1 = v by omega, hsucc, cl_append]
    · rw [if_neg (by rw [hb]; simp), List.append_nil] at hsucc
      simp(maxSteps:=999999)(disch:=omega)only[go_sem,zA,zM,zS,zE,zL]
      refine ⟨v + 1, g, ⟨⟨by omega, by omega⟩, by omega⟩, ⟨?_, by push_cast; omega⟩, hle_eq ?_ (HLe.refl _)⟩
      · rw [show v + 1 - 1 = v by omega, hsucc]
        exact ⟨rfl, rfl⟩
      · rw [show v + 1 - 1 = v by omega, hsucc]
  · have hv5 : v = 5 := by omega
    subst hv5
    simp(maxSteps:=999999)(disch:=omega)only[go_sem,zA,zM,zS,zE,zL]
    exact lessQ_own (HLe.refl _)
end Go.Lg

namespace Go.Lg
open Go.Proofs
theorem chkF_some {p : Puz} {f : Nat} {ms : List Nat} {bs : List Brn} {m : Nat} (h : endM p ms = some m) : chkF p (f + 1) ms bs = some (m, bs) := by
  unfold chkF; rw [h]
theorem chkF_nil {p : Puz} {f : Nat} {ms : List Nat} (h : endM p ms = none) : chkF p (f + 1) ms [] = none := by
  unfold chkF; rw [h]
theorem chkF_cons {p : Puz} {f : Nat} {ms : List Nat} {b : Brn} {r : List Brn} (h : endM p ms = none) : chkF p (f + 1) ms (b :: r) = if 0 < b.tech then chkF p f (narM p b.tech.toNat ms) r else tryL (chkF p f) ms b.cell.toNat (mvals (mAt ms b.cell.toNat) 4) r 0 := by
  conv => lhs; unfold chkF
  rw [h]
end Go.Lg

namespace Go.Lg
open Go.Proofs
theorem mvals_zero {m : Nat} (h : m ≤ 30 ∧ m % 2 = 0) : (mvals m 4).length = 0 ↔ m = 0 := by
  have key : ∀ a : Nat, a < 31 → a % 2 = 0 → ((mvals a 4).length = 0 ↔ a = 0) := by decide +kernel
  exact key m (by omega) h.2
theorem endM_is {p : Puz} {ms : List Nat} : endM p ms = if (∃ i : Nat, i < ms.length ∧ mAt ms i = 0) then some 0 else if (∀ i : Nat, i < ms.length → onlyV (mAt ms i) ≠ 0) then some (if solvedV p (nats (onlyL ms)) = true then 1 else 0) else none := by
  have h0 : (∃ m ∈ ms, m = 0) ↔ ∃ i : Nat, i < ms.length ∧ mAt ms i = 0 := by
    constructor
    · rintro ⟨m, hm, rfl⟩
      obtain ⟨i, hi, he⟩ := List.getElem_of_mem hm
      exact ⟨i, hi, by unfold mAt; simp [List.getD, List.getElem?_eq_getElem hi, he]⟩
    · rintro ⟨i, hi, he⟩
      exact ⟨_, mAt_mem hi, he⟩
  have h1 : (∀ m ∈ ms, onlyV m ≠ 0) ↔ ∀ i : Nat, i < ms.length → onlyV (mAt ms i) ≠ 0 := by
    constructor
    · intro h i hi; exact h _ (mAt_mem hi)
    · intro h m hm
      obtain ⟨i, hi, he⟩ := List.getElem_of_mem hm
      have := h i hi
      unfold mAt at this
      simpa [List.getD, List.getElem?_eq_getElem hi, he] using this
  unfold endM
  by_cases a : ∃ m ∈ ms, m = 0
  · rw [if_pos a, if_pos (h0.1 a)]
  · rw [if_neg a, if_neg (fun h => a (h0.2 h))]
    by_cases b : ∀ m ∈ ms, onlyV m ≠ 0
    · rw [if_pos b, if_pos (h1.1 b)]
    · rw [if_neg b, if_neg (fun h => b (h1.2 h))]
end Go.Lg

namespace Go.Lg
open Go.Proofs
theorem puz_factsT {p : Puz} (hv : puzzleValid p = true) : PuzN p p.size.toNat ∧ GrdN p.given p.size.toNat := by
  obtain ⟨hp, hz⟩ := PuzN.of hv
  refine ⟨hp, ?_⟩
  simp only [puzzleValid, Bool.and_eq_true, decide_eq_true_eq] at hv
  exact GrdN.of hp.hn (by rw [hz]; exact hv.1)
def checkV (p : Puz) (pf : List Brn) : Int :=
  if proofValid p pf = true then match chkF p 201 (startM p) pf with
    | some (n, []) => n
    | _ => -1
  else -1
theorem proof_facts {p : Puz} {pf : List Brn} (h : proofValid p pf = true) : puzzleValid p = true ∧ pf.length ≤ 200 ∧ ∀ b ∈ pf, brnOk p.given.length b = true := by
  simp only [proofValid, Bool.and_eq_true, decide_eq_true_eq, List.all_eq_true] at h
  exact ⟨h.1, h.2.1, h.2.2⟩
end Go.Lg
