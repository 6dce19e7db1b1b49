/- GpMK, GpTA, cut to what is needed. -/
import Derived.Test.YtcopagjhklcokaaSad4
import Derived.Test.YtcopagjhklcokaaSad5
import Derived.Test.YtcopagjhklcokaaSad7
import Derived.Test.YtcopagjhklcokaaSac1
import Derived.Test.YtcopagjhklcokaaSac6
import Derived.Test.YtcopagjhklcokaaSae0
open Nat(reduceAdd reduceMul reduceSub reduceEqDiff reduceLeDiff)
set_option linter.unusedSimpArgs false
set_option linter.unusedVariables false
set_option maxRecDepth 100000
namespace Go.Lg
open Go.Proofs
def firstK (gv : List Int) (ms : List Nat) : Option Nat := (List.range ms.length).find? fun (k : Nat) => decide (onlyV (mAt ms k) ≠ 0 ∧ nth gv k = 0)
theorem firstK_some {gv : List Int} {ms : List Nat} {k : Nat} (hk : k < ms.length) (h : onlyV (mAt ms k) ≠ 0 ∧ nth gv k = 0) (hno : ∀ j : Nat, j < k → ¬ (onlyV (mAt ms j) ≠ 0 ∧ nth gv j = 0)) : firstK gv ms = some k := by
  unfold firstK
  rw [List.find?_eq_some_iff_getElem]
  exact ⟨decide_eq_true h, k, by simpa using hk, by simp, fun j hj => by
    simp only [List.getElem_range, Bool.not_eq_true', decide_eq_false_iff_not]
    exact hno j hj⟩
theorem firstK_none {gv : List Int} {ms : List Nat} (hno : ∀ j : Nat, j < ms.length → ¬ (onlyV (mAt ms j) ≠ 0 ∧ nth gv j = 0)) : firstK gv ms = none := by
  unfold firstK
  rw [List.find?_eq_none]
  intro j hj
  rw [decide_eq_true_eq]
  exact hno j (List.mem_range.1 hj)
def hintF (q : Puz) : Nat → List Nat → Option Hnt
  | 0, _ => none
  | f + 1, ms => if nextM q ms = 0 then none else match firstK q.given (narM q (nextM q ms) ms) with
    | some k => some ⟨nextM q ms, k, onlyV (mAt (narM q (nextM q ms) ms) k)⟩
    | none => hintF q f (narM q (nextM q ms) ms)
def fitsV (p : Puz) (xs : List Int) : Bool := puzzleValid p && (gridValid xs p.size && fitsL p xs p.size.toNat)
def hintO (p : Puz) (xs : List Int) : Option Hnt := if fitsV p xs = true then hintF (withP p xs) 1000 (startM (withP p xs)) else none
def hintV (p : Puz) (xs : List Int) : Hnt := (hintO p xs).getD ⟨0, 0, 0⟩
def hintB (p : Puz) (xs : List Int) : Bool := (hintO p xs).isSome
theorem sum_le_mul : ∀ (l : List Nat) (b : Nat), (∀ x ∈ l, x ≤ b) → l.sum ≤ b * l.length
  | [], b, _ => by simp
  | x :: l, b, h => by
    have h1 := sum_le_mul l b fun y hy => h y (by simp [hy])
    have h2 := h x (by simp)
    simp only [List.sum_cons, List.length_cons, Nat.mul_add, Nat.mul_one]
    omega
theorem MsN.sum {ms : List Nat} {n : Nat} (hn : n = 2 ∨ n = 3 ∨ n = 4) (h : MsN ms n) : ms.sum ≤ 480 := by
  have h1 := sum_le_mul ms 30 fun x hx => by have := (h.val x hx).1; have := pow_n hn; omega
  have h2 : ms.length ≤ 16 := by rw [h.len]; rcases hn with rfl | rfl | rfl <;> omega
  omega
theorem withP_valid {p : Puz} {n : Nat} {xs : List Int} (hp : PuzN p n) (hv : puzzleValid p = true) (hg : GrdN xs n) (ha : GrdN p.given n) : puzzleValid (withP p xs) = true ∧ PuzN (withP p xs) n ∧ GrdN (withP p xs).given n := by
  have hw : GrdN (withP p xs).given n := withL_grd ha hg
  have h1 : puzzleValid (withP p xs) = true := by
    simp only [puzzleValid, Bool.and_eq_true, decide_eq_true_eq] at hv ⊢
    refine ⟨?_, hv.2⟩
    have := hw.valid hp.hn
    rw [← hp.size] at this
    exact this
  refine ⟨h1, ?_, hw⟩
  have := (PuzN.of h1).1
  have e : (withP p xs).size.toNat = n := by show p.size.toNat = n; rw [hp.size]; rfl
  rwa [e] at this
theorem fitsV_facts {p : Puz} {xs : List Int} (h : fitsV p xs = true) : ∃ n : Nat, p.size = n ∧ PuzN p n ∧ puzzleValid p = true ∧ GrdN xs n ∧ GrdN p.given n ∧ fitsL p xs n = true ∧ clear p xs = true ∧ p.given.length = xs.length ∧ 4 ≤ xs.length ∧ xs.length ≤ 16 := by
  simp only [fitsV, Bool.and_eq_true] at h
  obtain ⟨h1, h2, h3⟩ := h
  obtain ⟨hp, hg, ha, hlen, hl4, hl16⟩ := grd_facts h1 h2
  refine ⟨p.size.toNat, (PuzN.of h1).2.symm, hp, h1, hg, ha, h3, ?_, hlen, hl4, hl16⟩
  simp only [fitsL, Bool.and_eq_true] at h3
  exact h3.1
theorem SquareFits_gen (xs : List Int) (n : Int) (hx : xs.length ≤ 2 ^ 40) : Reads Try.prog 122 [ints xs, int n] (bool (gridValid xs n && !clash xs n.toNat)) := by
  cases h : gridValid xs n with
  | true =>
    have hb := gridValid_bound h
    obtain ⟨m, rfl⟩ : ∃ m : Nat, n = m := ⟨n.toNat, by omega⟩
    have hn : m = 2 ∨ m = 3 ∨ m = 4 := by omega
    have := SquareFits_run hn xs (GrdN.of hn h)
    rw [Int.toNat_natCast, Bool.true_and]
    exact this
  | false =>
    refine RunCall.cw (c := _) Try.func122 rfl (n := 47) Try.ntmps122 (rs := [.tmp 4]) rfl ?_
    simp only [List.length_cons, List.length_nil, Nat.reduceAdd, Nat.reduceSub, List.replicate, List.cons_append, List.nil_append]
    simp(maxSteps:=999999)(disch:=omega)only[go_sem,reduceAdd,reduceMul,reduceSub,reduceEqDiff,reduceLeDiff]
    first | refine OpS.rd (GridValid_run xs n (by omega)) (⟨_, Try.func69, rfl, rfl⟩ : Enters Try.prog 69) rfl rfl rfl rfl ?_ | refine Loud.rd (GridValid_run xs n (by omega)) (⟨_, Try.func69, rfl, rfl⟩ : Enters Try.prog 69) rfl rfl rfl rfl ?_
    simp(maxSteps:=999999)(disch:=omega)only[go_sem,reduceAdd,reduceMul,reduceSub,reduceEqDiff,reduceLeDiff]
    ((first | with_reducible refine condK_dec ?_ ?_ | with_reducible refine condK_ndec ?_ ?_ | with_reducible refine condK_nb ?_ ?_ | refine condK_b ?_ ?_) <;> intro c1)
    · exfalso; rw [h] at c1; cases c1
    · simp(maxSteps:=999999)(disch:=omega)only[go_sem,reduceAdd,reduceMul,reduceSub,reduceEqDiff,reduceLeDiff]
      rfl
theorem PuzzleFits_gen (p : Puz) (xs : List Int) (hx : smP p) (hl : xs.length ≤ 2 ^ 40) : Reads Try.prog 82 [aP p, ints xs] (bool (fitsV p xs)) := by
  by_cases h : puzzleValid p = true ∧ gridValid xs p.size = true
  · obtain ⟨hp, hg, ha, _⟩ := grd_facts h.1 h.2
    have := PuzzleFits_run hp h.1 xs hg
    unfold fitsV
    rw [h.1, h.2, Bool.true_and, Bool.true_and]
    exact this
  · have e : fitsV p xs = false := by
      unfold fitsV
      cases h1 : puzzleValid p
      · rfl
      · cases h2 : gridValid xs p.size
        · rfl
        · exact absurd ⟨h1, h2⟩ h
    rw [e]
    refine RunCall.cw (c := _) Try.func82 rfl (n := 60) Try.ntmps82 (rs := [.tmp 4]) rfl ?_
    simp only [List.length_cons, List.length_nil, Nat.reduceAdd, Nat.reduceSub, List.replicate, List.cons_append, List.nil_append]
    simp(maxSteps:=999999)(disch:=omega)only[go_sem,reduceAdd,reduceMul,reduceSub,reduceEqDiff,reduceLeDiff]
    intro g
    first | refine OpS.rd (PuzzleValid_run p hx) (⟨_, Try.func66, rfl, rfl⟩ : Enters Try.prog 66) rfl rfl rfl rfl ?_ | refine Loud.rd (PuzzleValid_run p hx) (⟨_, Try.func66, rfl, rfl⟩ : Enters Try.prog 66) rfl rfl rfl rfl ?_
    simp(maxSteps:=999999)(disch:=omega)only[go_sem,reduceAdd,reduceMul,reduceSub,reduceEqDiff,reduceLeDiff]
    ((first | with_reducible refine guardK_dec ?_ ?_ | with_reducible refine guardK_ndec ?_ ?_ | with_reducible refine guardK_nb ?_ ?_ | with_reducible refine guardK_split ?_ ?_ | with_reducible refine guardQ_dec ?_ ?_ | with_reducible refine guardL_dec ?_ ?_ | with_reducible refine guardQ_ndec ?_ ?_ | with_reducible refine guardL_ndec ?_ ?_ | with_reducible refine guardQ_nb ?_ ?_ | with_reducible refine guardL_nb ?_ ?_ | with_reducible refine guardQ_split ?_ ?_ | with_reducible refine guardL_split ?_ ?_) <;> intro c1 <;> simp(maxSteps:=999999)(disch:=omega)only[go_sem,reduceAdd,reduceMul,reduceSub,reduceEqDiff,reduceLeDiff, c1])
    have c2 : (gridValid xs p.size && !clash xs p.size.toNat) = false := by
      cases h2 : gridValid xs p.size
      · rfl
      · exact absurd ⟨c1, h2⟩ h
    first | refine OpS.rd (SquareFits_gen xs p.size hl) (⟨_, Try.func122, rfl, rfl⟩ : Enters Try.prog 122) rfl rfl rfl rfl ?_ | refine Loud.rd (SquareFits_gen xs p.size hl) (⟨_, Try.func122, rfl, rfl⟩ : Enters Try.prog 122) rfl rfl rfl rfl ?_
    simp(maxSteps:=999999)(disch:=omega)only[go_sem,reduceAdd,reduceMul,reduceSub,reduceEqDiff,reduceLeDiff]
    rw [c2]
    simp(maxSteps:=999999)(disch:=omega)only[go_sem,reduceAdd,reduceMul,reduceSub,reduceEqDiff,reduceLeDiff]
theorem copyPuzzle_rd (p : Puz) (hx : smP p) : Reads Try.prog 61 [aP p] (aP p) :=
  Reads.ice (copyPuzzle_own p hx) fun v H' ⟨c, r, S1, S2, e, h1, h2, _⟩ => by
    subst e
    have e1 : ∀ x : Int, frzC H' (.f (.int .i64 x)) = some (.f (.int .i64 x)) := fun _ => rfl
    have e2 : frzC H' r = some (.f (fsl eR p.rules)) := by
      rcases h2 with ⟨rfl, h3, _⟩ | h2
      · rw [h3]; rfl
      · exact h2.frzC
    show (([_, _, _] : List CV).mapM (frzC H')).map AV.agg = _
    simp only [List.mapM_cons, List.mapM_nil, e1, e2, h1.frzC, Option.bind_eq_bind, Option.pure_def, Option.bind_some, Option.map_some]
set_option maxHeartbeats 4000000 in
theorem NextHint_run (p : Puz) (xs : List Int) (hx : smP p) (hl : xs.length ≤ 2 ^ 40) : Reads Try.prog 32 [aP p, ints xs] (.tup [aH (hintV p xs), bool (hintB p xs)]) := by
  refine RunCall.cw (c := _) Try.func32 rfl (n := 64) Try.ntmps32 (rs := [.cell 4 49, .tmp 5]) rfl ?_
  simp only [List.length_cons, List.length_nil, Nat.reduceAdd, Nat.reduceSub, List.replicate, List.cons_append, List.nil_append]
  simp(maxSteps:=999999)(disch:=omega)only[go_sem,reduceAdd,reduceMul,reduceSub,reduceEqDiff,reduceLeDiff]
  intro g0 g4
  first | refine OpS.rd (PuzzleFits_gen p xs hx hl) (⟨_, Try.func82, rfl, rfl⟩ : Enters Try.prog 82) rfl rfl rfl rfl ?_ | refine Loud.rd (PuzzleFits_gen p xs hx hl) (⟨_, Try.func82, rfl, rfl⟩ : Enters Try.prog 82) rfl rfl rfl rfl ?_
  simp(maxSteps:=999999)(disch:=omega)only[go_sem,reduceAdd,reduceMul,reduceSub,reduceEqDiff,reduceLeDiff]
  cases hf : fitsV p xs with
  | false =>
    have e : hintO p xs = none := by unfold hintO; rw [if_neg (by rw [hf]; simp)]
    have e1 : hintV p xs = ⟨0, 0, 0⟩ := by unfold hintV; rw [e]; rfl
    have e2 : hintB p xs = false := by unfold hintB; rw [e]; rfl
    rw [e1, e2]
    simp(maxSteps:=999999)(disch:=omega)only[go_sem,reduceAdd,reduceMul,reduceSub,reduceEqDiff,reduceLeDiff]
  | true =>
    obtain ⟨n, hz, hp, hv, hg, ha, hfl, hcl, hlen, hl4, hl16⟩ := fitsV_facts hf
    obtain ⟨qv, qp, qg⟩ := withP_valid hp hv hg ha
    have hbg := bothGrids_run p xs hlen.symm hl16 (fun k hk => ⟨(hg.val k hk).1, (ha.val k (by omega)).1⟩)
    rw [if_pos hcl, hcl] at hbg
    have hO : hintO p xs = hintF (withP p xs) 1000 (startM (withP p xs)) := by unfold hintO; rw [if_pos hf]
    simp(maxSteps:=999999)(disch:=omega)only[go_sem,reduceAdd,reduceMul,reduceSub,reduceEqDiff,reduceLeDiff]
    first | refine OpS.mk (copyPuzzle_rd p hx) (⟨_, Try.func61, rfl, rfl⟩ : Enters Try.prog 61) rfl rfl rfl rfl rfl ?_ | refine Loud.mk (copyPuzzle_rd p hx) (⟨_, Try.func61, rfl, rfl⟩ : Enters Try.prog 61) rfl rfl rfl rfl rfl ?_
    simp(maxSteps:=999999)(disch:=omega)only[go_sem,reduceAdd,reduceMul,reduceSub,reduceEqDiff,reduceLeDiff]
    intro g6
    first | refine OpS.mk (hbg) (⟨_, Try.func83, rfl, rfl⟩ : Enters Try.prog 83) rfl rfl rfl rfl rfl ?_ | refine Loud.mk (hbg) (⟨_, Try.func83, rfl, rfl⟩ : Enters Try.prog 83) rfl rfl rfl rfl rfl ?_
    simp(maxSteps:=999999)(disch:=omega)only[go_sem,reduceAdd,reduceMul,reduceSub,reduceEqDiff,reduceLeDiff]
    first | refine OpS.mk (StartMasks_run qp qv qg) (⟨_, Try.func84, rfl, rfl⟩ : Enters Try.prog 84) rfl rfl rfl rfl rfl ?_ | refine Loud.mk (StartMasks_run qp qv qg) (⟨_, Try.func84, rfl, rfl⟩ : Enters Try.prog 84) rfl rfl rfl rfl rfl ?_
    simp(maxSteps:=999999)(disch:=omega)only[go_sem,reduceAdd,reduceMul,reduceSub,reduceEqDiff,reduceLeDiff]
    have hsz : (withP p xs).size = n := hz
    have hgl : (withP p xs).given.length = n * n := qg.len
    have hsq : 4 ≤ n * n ∧ n * n ≤ 16 := by rcases hp.hn with rfl | rfl | rfl <;> omega
    refine loop_rule2 (fun (f : Nat) (b : List Nat) => f) (fun f b => MsN b n ∧ hintF (withP p xs) f b = hintO p xs ∧ b.sum < f) (fun f b => [.a, .a, .a, .a, .k, .a, .k, .p (ints (nats b)), .a, .a, .a, .a, .a, .a, .a, .a, .a, .a, .a, .a, .a, .a, .a, .a, .a, .a, .a, .a, .a, .a, .a, .a, .a, .a, .a, .a, .a, .a, .a, .a, .a, .a, .a, .a, .a, .a, .a, .a, .a, .a, .a, .a, .a, .a, .a, .a, .a, .a, .a, .a, .a, .a, .a, .a]) (fun _ _ => [some ⟨g0, 1, cP p⟩, some ⟨g4, 3, [.f (.int .i64 0), .f (.int .i64 0), .f (.int .i64 0)]⟩, some ⟨g6, 3, cP (withP p xs)⟩]) 1000 (startM (withP p xs)) ⟨startM_ok qp qg, hO.symm, by have := (startM_ok qp qg).sum hp.hn; omega⟩ (by simp(maxSteps:=999999)(disch:=omega)only[go_sem,reduceAdd,reduceMul,reduceSub,reduceEqDiff,reduceLeDiff]) (HLe.refl _) ?_
    rintro f ms ⟨hm, hO, hsum⟩
    obtain ⟨f, rfl⟩ : ∃ f', f = f' + 1 := ⟨f - 1, by omega⟩
    have hnr := nextRound_run qp qv ms hm
    have hok := narM_ok (p := withP p xs) (t := nextM (withP p xs) ms) hm
    have hle4 := nextM_le (withP p xs) ms
    have hdec := fun h => narM_sum (p := withP p xs) hm (nextM_ne (p := withP p xs) (ms := ms) h)
    have hOu : hintF (withP p xs) (f + 1) ms = if nextM (withP p xs) ms = 0 then none else match firstK (withP p xs).given (narM (withP p xs) (nextM (withP p xs) ms) ms) with
      | some k => some ⟨nextM (withP p xs) ms, k, onlyV (mAt (narM (withP p xs) (nextM (withP p xs) ms) ms) k)⟩
      | none => hintF (withP p xs) f (narM (withP p xs) (nextM (withP p xs) ms) ms) := rfl
    rw [hO] at hOu
    generalize hq : withP p xs = q at *
    generalize nextM q ms = t at *
    generalize narM q t ms = ms' at *
    simp(maxSteps:=999999)(disch:=omega)only[go_sem,reduceAdd,reduceMul,reduceSub,reduceEqDiff,reduceLeDiff]
    first | refine OpS.mk (hnr) (⟨_, Try.func85, rfl, rfl⟩ : Enters Try.prog 85) rfl rfl rfl rfl rfl ?_ | refine Loud.mk (hnr) (⟨_, Try.func85, rfl, rfl⟩ : Enters Try.prog 85) rfl rfl rfl rfl rfl ?_
    simp(maxSteps:=999999)(disch:=omega)only[go_sem,reduceAdd,reduceMul,reduceSub,reduceEqDiff,reduceLeDiff]
    ((first | with_reducible refine condK_dec ?_ ?_ | with_reducible refine condK_ndec ?_ ?_ | with_reducible refine condK_nb ?_ ?_ | refine condK_b ?_ ?_) <;> intro h1)
    · have h1 : t = 0 := by omega
      rw [if_pos h1] at hOu
      have e1 : hintV p xs = ⟨0, 0, 0⟩ := by unfold hintV; rw [hOu]; rfl
      have e2 : hintB p xs = false := by unfold hintB; rw [hOu]; rfl
      rw [e1, e2]
      simp(maxSteps:=999999)(disch:=omega)only[go_sem,reduceAdd,reduceMul,reduceSub,reduceEqDiff,reduceLeDiff]
    have h1 : t ≠ 0 := fun h => h1 (by rw [h]; rfl)
    rw [if_neg h1] at hOu
    rw [if_neg h1]
    have hml : (nats ms').length = n * n := by rw [nats_len]; exact hok.len
    simp(maxSteps:=999999)(disch:=omega)only[go_sem,reduceAdd,reduceMul,reduceSub,reduceEqDiff,reduceLeDiff]
    rw [hml]
    refine loop_rule (fun k : Nat => n * n - k) (fun k => k ≤ n * n ∧ ∀ j : Nat, j < k → ¬ (onlyV (mAt ms' j) ≠ 0 ∧ nth q.given j = 0)) (fun k => [.a, .a, .a, .a, .k, .a, .k, .k, .a, .k, .a, .a, .a, .a, .a, .a, .a, .a, .a, .a, .a, .a, .a, .a, .a, .a, .a, .a, .a, .a, .a, .a, .a, .a, .a, .a, .a, .a, .a, .a, .k, .k, .p (int k), .a, .a, .a, .a, .a, .a, .a, .a, .a, .a, .a, .a, .a, .a, .a, .a, .a, .a, .a, .a, .a]) (fun _ => [some ⟨g0, 1, cP p⟩, some ⟨g4, 3, [.f (.int .i64 0), .f (.int .i64 0), .f (.int .i64 0)]⟩, some ⟨g6, 3, cP q⟩]) 0 ⟨Nat.zero_le _, fun j hj => absurd hj (Nat.not_lt_zero _)⟩ (by simp(maxSteps:=999999)(disch:=omega)only[go_sem,reduceAdd,reduceMul,reduceSub,reduceEqDiff,reduceLeDiff]; rfl) (HLe.refl _) ?_
    rintro k ⟨hk, hno⟩
    simp(maxSteps:=999999)(disch:=omega)only[go_sem,reduceAdd,reduceMul,reduceSub,reduceEqDiff,reduceLeDiff]
    ((first | with_reducible refine condK_dec ?_ ?_ | with_reducible refine condK_ndec ?_ ?_ | with_reducible refine condK_nb ?_ ?_ | refine condK_b ?_ ?_) <;> intro h2)
    · have h2 : k < n * n := by omega
      have hmk := hok.lt hp.hn k
      have hnk := nth_nats ms' k
      have hgo : ¬ (onlyV (mAt ms' k) ≠ 0 ∧ nth q.given k = 0) → ∀ j : Nat, j < k + 1 → ¬ (onlyV (mAt ms' j) ≠ 0 ∧ nth q.given j = 0) := fun h j hj => by
        by_cases hjk : j = k
        · rw [hjk]; exact h
        · exact hno j (by omega)
      simp(maxSteps:=999999)(disch:=omega)only[go_sem,reduceAdd,reduceMul,reduceSub,reduceEqDiff,reduceLeDiff, hnk]
      first | refine OpS.rd (onlyValue_run (mAt ms' k) hmk.1) (⟨_, Try.func86, rfl, rfl⟩ : Enters Try.prog 86) rfl rfl rfl rfl ?_ | refine Loud.rd (onlyValue_run (mAt ms' k) hmk.1) (⟨_, Try.func86, rfl, rfl⟩ : Enters Try.prog 86) rfl rfl rfl rfl ?_
      simp(maxSteps:=999999)(disch:=omega)only[go_sem,reduceAdd,reduceMul,reduceSub,reduceEqDiff,reduceLeDiff]
      ((first | with_reducible refine guardK_dec ?_ ?_ | with_reducible refine guardK_ndec ?_ ?_ | with_reducible refine guardK_nb ?_ ?_ | with_reducible refine guardK_split ?_ ?_ | with_reducible refine guardQ_dec ?_ ?_ | with_reducible refine guardL_dec ?_ ?_ | with_reducible refine guardQ_ndec ?_ ?_ | with_reducible refine guardL_ndec ?_ ?_ | with_reducible refine guardQ_nb ?_ ?_ | with_reducible refine guardL_nb ?_ ?_ | with_reducible refine guardQ_split ?_ ?_ | with_reducible refine guardL_split ?_ ?_) <;> intro h3 <;> simp(maxSteps:=999999)(disch:=omega)only[go_sem,reduceAdd,reduceMul,reduceSub,reduceEqDiff,reduceLeDiff, h3])
      · ((first | with_reducible refine condK_dec ?_ ?_ | with_reducible refine condK_ndec ?_ ?_ | with_reducible refine condK_nb ?_ ?_ | refine condK_b ?_ ?_) <;> intro h4)
        · have hfs := firstK_some (gv := q.given) (by rw [hok.len]; exact h2) ⟨by omega, h4⟩ hno
          rw [hfs] at hOu
          have e1 : hintV p xs = ⟨t, k, onlyV (mAt ms' k)⟩ := by unfold hintV; rw [hOu]; rfl
          have e2 : hintB p xs = true := by unfold hintB; rw [hOu]; rfl
          rw [e1, e2]
          simp(maxSteps:=999999)(disch:=omega)only[go_sem,reduceAdd,reduceMul,reduceSub,reduceEqDiff,reduceLeDiff]
        · simp(maxSteps:=999999)(disch:=omega)only[go_sem,reduceAdd,reduceMul,reduceSub,reduceEqDiff,reduceLeDiff]
          exact ⟨k + 1, ⟨⟨by omega, hgo fun h => h4 h.2⟩, by omega⟩, by push_cast; rfl, HLe.refl _⟩
      · exact ⟨k + 1, ⟨⟨by omega, hgo fun h => h3 (by omega)⟩, by omega⟩, by push_cast; rfl, HLe.refl _⟩
    · have hke : k = n * n := by omega
      have hfn := firstK_none (gv := q.given) (ms := ms') fun j hj => hno j (by have := hok.len; omega)
      rw [hfn] at hOu
      simp(maxSteps:=999999)(disch:=omega)only[go_sem,reduceAdd,reduceMul,reduceSub,reduceEqDiff,reduceLeDiff]
      exact ⟨f, ms', ⟨⟨hok, hOu.symm, by have := hdec h1; omega⟩, by omega⟩, rfl, HLe.refl _⟩
end Go.Lg

set_option linter.unusedSimpArgs false
set_option linter.unusedVariables false
set_option maxRecDepth 100000
namespace Go.Lg
open Go.Proofs
def onlyL (ms : List Nat) : List Nat := ms.map onlyV
def endM (p : Puz) (ms : List Nat) : Option Nat :=
  if (∃ m ∈ ms, m = 0) then some 0 else if (∀ m ∈ ms, onlyV m ≠ 0) then some (if solvedV p (nats (onlyL ms)) = true then 1 else 0) else none
theorem mvals_bit {m : Nat} {v : Int} (h : v ∈ mvals m 4) : ∃ u : Nat, v = u ∧ 1 ≤ u ∧ u ≤ 4 ∧ m.testBit u = true := by
  unfold mvals at h
  obtain ⟨u, hu, hx⟩ := List.mem_flatMap.1 h
  have := List.mem_of_mem_take hu
  split at hx
  · rename_i hb
    simp only [List.mem_singleton] at hx
    simp only [List.mem_cons, List.not_mem_nil, or_false] at this
    exact ⟨u, hx, by omega, by omega, hb⟩
  · simp at hx
theorem MsN.tried {ms : List Nat} {n k : Nat} {v : Int} (hm : MsN ms n) (hv : v ∈ mvals (mAt ms k) 4) : MsN (ms.set k (2 ^ v.toNat)) n := by
  obtain ⟨u, rfl, h1, h2, h3⟩ := mvals_bit hv
  have h4 := Nat.ge_two_pow_of_testBit h3
  have h5 := hm.at k
  refine hm.set ⟨by rw [Int.toNat_natCast]; omega, ?_⟩
  rw [Int.toNat_natCast]
  have : u = 1 ∨ u = 2 ∨ u = 3 ∨ u = 4 := by omega
  rcases this with rfl | rfl | rfl | rfl <;> rfl
theorem onlyL_len (ms : List Nat) : (onlyL ms).length = ms.length := by simp [onlyL]
theorem onlyL_at (ms : List Nat) (k : Nat) : mAt (onlyL ms) k = onlyV (mAt ms k) := by
  unfold mAt onlyL
  simp only [List.getD, List.getElem?_map]
  cases ms[k]? <;> rfl
end Go.Lg
