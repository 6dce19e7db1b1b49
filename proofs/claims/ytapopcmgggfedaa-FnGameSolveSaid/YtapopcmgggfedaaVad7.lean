/- GpMK, GpMN, cut to what is needed. -/
import Derived.Test.YtapopcmgggfedaaVad1
import Derived.Test.YtapopcmgggfedaaVad3
import Derived.Test.YtapopcmgggfedaaVac1
import Derived.Test.YtapopcmgggfedaaVac6
import Derived.Test.YtapopcmgggfedaaVad6
open Nat(reduceAdd reduceMul reduceSub reduceEqDiff reduceLeDiff)
set_option linter.unusedSimpArgs false
set_option linter.unusedVariables false
set_option maxRecDepth 100000
namespace Go.Lg
open Go.Proofs
def firstK (gv : List Int) (ms : List Nat) : Option Nat := (List.range ms.length).find? fun (k : Nat) => decide (onlyV (mAt ms k) ≠ 0 ∧ nth gv k = 0)
theorem firstK_some {gv : List Int} {ms : List Nat} {k : Nat} (hk : k < ms.length) (h : onlyV (mAt ms k) ≠ 0 ∧ nth gv k = 0) (hno : ∀ j : Nat, j < k → ¬ (onlyV (mAt ms j) ≠ 0 ∧ nth gv j = 0)) : firstK gv ms = some k := by
  unfold firstK
  rw [List.find?_eq_some_iff_getElem]
  exact ⟨decide_eq_true h, k, by simpa using hk, by simp, fun j hj => by
    simp only [List.getElem_range, Bool.not_eq_true', decide_eq_false_iff_not]
    exact hno j hj⟩
theorem firstK_none {gv : List Int} {ms : List Nat} (hno : ∀ j : Nat, j < ms.length → ¬ (onlyV (mAt ms j) ≠ 0 ∧ nth gv j = 0)) : firstK gv ms = none := by
  unfold firstK
  rw [List.find?_eq_none]
  intro j hj
  rw [decide_eq_true_eq]
  exact hno j (List.mem_range.1 hj)
def hintF (q : Puz) : Nat → List Nat → Option Hnt
  | 0, _ => none
  | f + 1, ms => if nextM q ms = 0 then none else match firstK q.given (narM q (nextM q ms) ms) with
    | some k => some ⟨nextM q ms, k, onlyV (mAt (narM q (nextM q ms) ms) k)⟩
    | none => hintF q f (narM q (nextM q ms) ms)
def fitsV (p : Puz) (xs : List Int) : Bool := puzzleValid p && (gridValid xs p.size && fitsL p xs p.size.toNat)
def hintO (p : Puz) (xs : List Int) : Option Hnt := if fitsV p xs = true then hintF (withP p xs) 1000 (startM (withP p xs)) else none
def hintV (p : Puz) (xs : List Int) : Hnt := (hintO p xs).getD ⟨0, 0, 0⟩
def hintB (p : Puz) (xs : List Int) : Bool := (hintO p xs).isSome
theorem sum_le_mul : ∀ (l : List Nat) (b : Nat), (∀ x ∈ l, x ≤ b) → l.sum ≤ b * l.length
  | [], b, _ => by simp
  | x :: l, b, h => by
    have h1 := sum_le_mul l b fun y hy => h y (by simp [hy])
    have h2 := h x (by simp)
    simp only [List.sum_cons, List.length_cons, Nat.mul_add, Nat.mul_one]
    omega
theorem MsN.sum {ms : List Nat} {n : Nat} (hn : n = 2 ∨ n = 3 ∨ n = 4) (h : MsN ms n) : ms.sum ≤ 480 := by
  have h1 := sum_le_mul ms 30 fun x hx => by have := (h.val x hx).1; have := pow_n hn; omega
  have h2 : ms.length ≤ 16 := by rw [h.len]; rcases hn with rfl | rfl | rfl <;> omega
  omega
theorem withP_valid {p : Puz} {n : Nat} {xs : List Int} (hp : PuzN p n) (hv : puzzleValid p = true) (hg : GrdN xs n) (ha : GrdN p.given n) : puzzleValid (withP p xs) = true ∧ PuzN (withP p xs) n ∧ GrdN (withP p xs).given n := by
  have hw : GrdN (withP p xs).given n := withL_grd ha hg
  have h1 : puzzleValid (withP p xs) = true := by
    simp only [puzzleValid, Bool.and_eq_true, decide_eq_true_eq] at hv ⊢
    refine ⟨?_, hv.2⟩
    have := hw.valid hp.hn
    rw [← hp.size] at this
    exact this
  refine ⟨h1, ?_, hw⟩
  have := (PuzN.of h1).1
  have e : (withP p xs).size.toNat = n := by show p.size.toNat = n; rw [hp.size]; rfl
  rwa [e] at this
theorem fitsV_facts {p : Puz} {xs : List Int} (h : fitsV p xs = true) : ∃ n : Nat, p.size = n ∧ PuzN p n ∧ puzzleValid p = true ∧ GrdN xs n ∧ GrdN p.given n ∧ fitsL p xs n = true ∧ clear p xs = true ∧ p.given.length = xs.length ∧ 4 ≤ xs.length ∧ xs.length ≤ 16 := by
  simp only [fitsV, Bool.and_eq_true] at h
  obtain ⟨h1, h2, h3⟩ := h
  obtain ⟨hp, hg, ha, hlen, hl4, hl16⟩ := grd_facts h1 h2
  refine ⟨p.size.toNat, (PuzN.of h1).2.symm, hp, h1, hg, ha, h3, ?_, hlen, hl4, hl16⟩
  simp only [fitsL, Bool.and_eq_true] at h3
  exact h3.1
theorem SquareFits_gen (xs : List Int) (n : Int) (hx : xs.length ≤ 2 ^ 40) : Reads Try.prog 47 [ints xs, int n] (bool (gridValid xs n && !clash xs n.toNat)) := by
  cases h : gridValid xs n with
  | true =>
    have hb := gridValid_bound h
    obtain ⟨m, rfl⟩ : ∃ m : Nat, n = m := ⟨n.toNat, by omega⟩
    have hn : m = 2 ∨ m = 3 ∨ m = 4 := by omega
    have := SquareFits_run hn xs (GrdN.of hn h)
    rw [Int.toNat_natCast, Bool.true_and]
    exact this
  | false =>
    refine RunCall.cw (c := _) Try.func47 rfl (n := 47) Try.ntmps47 (rs := [.tmp 4]) rfl ?_
    simp only[List.length_cons,List.length_nil,reduceAdd,reduceSub,List.replicate,List.cons_append,List.nil_append]
    simp(maxSteps:=999999)(disch:=omega)only[go_sem,reduceAdd,reduceMul,reduceSub,reduceEqDiff,reduceLeDiff]
    first | refine OpS.rd (GridValid_run xs n (by omega)) (⟨_, Try.func27, rfl, rfl⟩ : Enters Try.prog 27) rfl rfl rfl rfl ?_ | refine Loud.rd (GridValid_run xs n (by omega)) (⟨_, Try.func27, rfl, rfl⟩ : Enters Try.prog 27) rfl rfl rfl rfl ?_
    simp(maxSteps:=999999)(disch:=omega)only[go_sem,reduceAdd,reduceMul,reduceSub,reduceEqDiff,reduceLeDiff]
    ((first|(with_reducible first|refine condK_dec ?_ ?_|refine condK_ndec ?_ ?_|refine condK_nb ?_ ?_)|refine condK_b ?_ ?_) <;> intro c1)
    · exfalso; rw [h] at c1; cases c1
    · simp(maxSteps:=999999)(disch:=omega)only[go_sem,reduceAdd,reduceMul,reduceSub,reduceEqDiff,reduceLeDiff]
      rfl
theorem PuzzleFits_gen (p : Puz) (xs : List Int) (hx : smP p) (hl : xs.length ≤ 2 ^ 40) : Reads Try.prog 25 [aP p, ints xs] (bool (fitsV p xs)) := by
  by_cases h : puzzleValid p = true ∧ gridValid xs p.size = true
  · obtain ⟨hp, hg, ha, _⟩ := grd_facts h.1 h.2
    have := PuzzleFits_run hp h.1 xs hg
    unfold fitsV
    rw [h.1, h.2, Bool.true_and, Bool.true_and]
    exact this
  · have e : fitsV p xs = false := by
      unfold fitsV
      cases h1 : puzzleValid p
      · rfl
      · cases h2 : gridValid xs p.size
        · rfl
        · exact absurd ⟨h1, h2⟩ h
    rw [e]
    refine RunCall.cw (c := _) Try.func25 rfl (n := 60) Try.ntmps25 (rs := [.tmp 4]) rfl ?_
    simp only[List.length_cons,List.length_nil,reduceAdd,reduceSub,List.replicate,List.cons_append,List.nil_append]
    simp(maxSteps:=999999)(disch:=omega)only[go_sem,reduceAdd,reduceMul,reduceSub,reduceEqDiff,reduceLeDiff]
    intro g
    first | refine OpS.rd (PuzzleValid_run p hx) (⟨_, Try.func15, rfl, rfl⟩ : Enters Try.prog 15) rfl rfl rfl rfl ?_ | refine Loud.rd (PuzzleValid_run p hx) (⟨_, Try.func15, rfl, rfl⟩ : Enters Try.prog 15) rfl rfl rfl rfl ?_
    simp(maxSteps:=999999)(disch:=omega)only[go_sem,reduceAdd,reduceMul,reduceSub,reduceEqDiff,reduceLeDiff]
    ((with_reducible first|refine guardK_dec ?_ ?_|refine guardK_ndec ?_ ?_|refine guardK_nb ?_ ?_|refine guardK_split ?_ ?_|refine guardQ_dec ?_ ?_|refine guardL_dec ?_ ?_|refine guardQ_ndec ?_ ?_|refine guardL_ndec ?_ ?_|refine guardQ_nb ?_ ?_|refine guardL_nb ?_ ?_|refine guardQ_split ?_ ?_|refine guardL_split ?_ ?_) <;> intro c1 <;> simp(maxSteps:=999999)(disch:=omega)only[go_sem,reduceAdd,reduceMul,reduceSub,reduceEqDiff,reduceLeDiff, c1])
    have c2 : (gridValid xs p.size && !clash xs p.size.toNat) = false := by
      cases h2 : gridValid xs p.size
      · rfl
      · exact absurd ⟨c1, h2⟩ h
    first | refine OpS.rd (SquareFits_gen xs p.size hl) (⟨_, Try.func47, rfl, rfl⟩ : Enters Try.prog 47) rfl rfl rfl rfl ?_ | refine Loud.rd (SquareFits_gen xs p.size hl) (⟨_, Try.func47, rfl, rfl⟩ : Enters Try.prog 47) rfl rfl rfl rfl ?_
    simp(maxSteps:=999999)(disch:=omega)only[go_sem,reduceAdd,reduceMul,reduceSub,reduceEqDiff,reduceLeDiff]
    rw [c2]
    simp(maxSteps:=999999)(disch:=omega)only[go_sem,reduceAdd,reduceMul,reduceSub,reduceEqDiff,reduceLeDiff]
theorem copyPuzzle_rd (p : Puz) (hx : smP p) : Reads Try.prog 16 [aP p] (aP p) :=
  Reads.ice (copyPuzzle_own p hx) fun v H' ⟨c, r, S1, S2, e, h1, h2, _⟩ => by
    subst e
    have e1 : ∀ x : Int, frzC H' (.f (.int .i64 x)) = some (.f (.int .i64 x)) := fun _ => rfl
    have e2 : frzC H' r = some (.f (fsl eR p.rules)) := by
      rcases h2 with ⟨rfl, h3, _⟩ | h2
      · rw [h3]; rfl
      · exact h2.frzC
    show (([_, _, _] : List CV).mapM (frzC H')).map AV.agg = _
    simp only [List.mapM_cons, List.mapM_nil, e1, e2, h1.frzC, Option.bind_eq_bind, Option.pure_def, Option.bind_some, Option.map_some]
set_option maxHeartbeats 4000000 in
theorem NextHint_run (p : Puz) (xs : List Int) (hx : smP p) (hl : xs.length ≤ 2 ^ 40) : Reads Try.prog 26 [aP p, ints xs] (.tup [aH (hintV p xs), bool (hintB p xs)]) := by
  refine RunCall.cw (c := _) Try.func26 rfl (n := 64) Try.ntmps26 (rs := [.cell 4 50, .tmp 5]) rfl ?_
  simp only[List.length_cons,List.length_nil,reduceAdd,reduceSub,List.replicate,List.cons_append,List.nil_append]
  simp(maxSteps:=999999)(disch:=omega)only[go_sem,reduceAdd,reduceMul,reduceSub,reduceEqDiff,reduceLeDiff]
  intro g0 g4
  first | refine OpS.rd (PuzzleFits_gen p xs hx hl) (⟨_, Try.func25, rfl, rfl⟩ : Enters Try.prog 25) rfl rfl rfl rfl ?_ | refine Loud.rd (PuzzleFits_gen p xs hx hl) (⟨_, Try.func25, rfl, rfl⟩ : Enters Try.prog 25) rfl rfl rfl rfl ?_
  simp(maxSteps:=999999)(disch:=omega)only[go_sem,reduceAdd,reduceMul,reduceSub,reduceEqDiff,reduceLeDiff]
  cases hf : fitsV p xs with
  | false =>
    have e : hintO p xs = none := by unfold hintO; rw [if_neg (by rw [hf]; simp)]
    have e1 : hintV p xs = ⟨0, 0, 0⟩ := by unfold hintV; rw [e]; rfl
    have e2 : hintB p xs = false := by unfold hintB; rw [e]; rfl
    rw [e1, e2]
    simp(maxSteps:=999999)(disch:=omega)only[go_sem,reduceAdd,reduceMul,reduceSub,reduceEqDiff,reduceLeDiff]
  | true =>
    obtain ⟨n, hz, hp, hv, hg, ha, hfl, hcl, hlen, hl4, hl16⟩ := fitsV_facts hf
    obtain ⟨qv, qp, qg⟩ := withP_valid hp hv hg ha
    have hbg := bothGrids_run p xs hlen.symm hl16 (fun k hk => ⟨(hg.val k hk).1, (ha.val k (by omega)).1⟩)
    rw [if_pos hcl, hcl] at hbg
    have hO : hintO p xs = hintF (withP p xs) 1000 (startM (withP p xs)) := by unfold hintO; rw [if_pos hf]
    simp(maxSteps:=999999)(disch:=omega)only[go_sem,reduceAdd,reduceMul,reduceSub,reduceEqDiff,reduceLeDiff]
    first | refine OpS.mk (copyPuzzle_rd p hx) (⟨_, Try.func16, rfl, rfl⟩ : Enters Try.prog 16) rfl rfl rfl rfl rfl ?_ | refine Loud.mk (copyPuzzle_rd p hx) (⟨_, Try.func16, rfl, rfl⟩ : Enters Try.prog 16) rfl rfl rfl rfl rfl ?_
    simp(maxSteps:=999999)(disch:=omega)only[go_sem,reduceAdd,reduceMul,reduceSub,reduceEqDiff,reduceLeDiff]
    intro g6
    first | refine OpS.mk (hbg) (⟨_, Try.func49, rfl, rfl⟩ : Enters Try.prog 49) rfl rfl rfl rfl rfl ?_ | refine Loud.mk (hbg) (⟨_, Try.func49, rfl, rfl⟩ : Enters Try.prog 49) rfl rfl rfl rfl rfl ?_
    simp(maxSteps:=999999)(disch:=omega)only[go_sem,reduceAdd,reduceMul,reduceSub,reduceEqDiff,reduceLeDiff]
    first | refine OpS.mk (StartMasks_run qp qv qg) (⟨_, Try.func23, rfl, rfl⟩ : Enters Try.prog 23) rfl rfl rfl rfl rfl ?_ | refine Loud.mk (StartMasks_run qp qv qg) (⟨_, Try.func23, rfl, rfl⟩ : Enters Try.prog 23) rfl rfl rfl rfl rfl ?_
    simp(maxSteps:=999999)(disch:=omega)only[go_sem,reduceAdd,reduceMul,reduceSub,reduceEqDiff,reduceLeDiff]
    have hsz : (withP p xs).size = n := hz
    have hgl : (withP p xs).given.length = n * n := qg.len
    have hsq : 4 ≤ n * n ∧ n * n ≤ 16 := by rcases hp.hn with rfl | rfl | rfl <;> omega
    refine loop_rule2 (fun (f : Nat) (b : List Nat) => f) (fun f b => MsN b n ∧ hintF (withP p xs) f b = hintO p xs ∧ b.sum < f) (fun f b => [.a, .a, .a, .a, .k, .a, .k, .p (ints (nats b)), .a, .a, .a, .a, .a, .a, .a, .a, .a, .a, .a, .a, .a, .a, .a, .a, .a, .a, .a, .a, .a, .a, .a, .a, .a, .a, .a, .a, .a, .a, .a, .a, .a, .a, .a, .a, .a, .a, .a, .a, .a, .a, .a, .a, .a, .a, .a, .a, .a, .a, .a, .a, .a, .a, .a, .a]) (fun _ _ => [some ⟨g0, 1, cP p⟩, some ⟨g4, 3, [.f (.int .i64 0), .f (.int .i64 0), .f (.int .i64 0)]⟩, some ⟨g6, 3, cP (withP p xs)⟩]) 1000 (startM (withP p xs)) ⟨startM_ok qp qg, hO.symm, by have := (startM_ok qp qg).sum hp.hn; omega⟩ (by simp(maxSteps:=999999)(disch:=omega)only[go_sem,reduceAdd,reduceMul,reduceSub,reduceEqDiff,reduceLeDiff]) (HLe.refl _) ?_
    rintro f ms ⟨hm, hO, hsum⟩
    obtain ⟨f, rfl⟩ : ∃ f', f = f' + 1 := ⟨f - 1, by omega⟩
    have hnr := nextRound_run qp qv ms hm
    have hok := narM_ok (p := withP p xs) (t := nextM (withP p xs) ms) hm
    have hle4 := nextM_le (withP p xs) ms
    have hdec := fun h => narM_sum (p := withP p xs) hm (nextM_ne (p := withP p xs) (ms := ms) h)
    have hOu : hintF (withP p xs) (f + 1) ms = if nextM (withP p xs) ms = 0 then none else match firstK (withP p xs).given (narM (withP p xs) (nextM (withP p xs) ms) ms) with
      | some k => some ⟨nextM (withP p xs) ms, k, onlyV (mAt (narM (withP p xs) (nextM (withP p xs) ms) ms) k)⟩
      | none => hintF (withP p xs) f (narM (withP p xs) (nextM (withP p xs) ms) ms) := rfl
    rw [hO] at hOu
    generalize hq : withP p xs = q at *
    generalize nextM q ms = t at *
    generalize narM q t ms = ms' at *
    simp(maxSteps:=999999)(disch:=omega)only[go_sem,reduceAdd,reduceMul,reduceSub,reduceEqDiff,reduceLeDiff]
    first | refine OpS.mk (hnr) (⟨_, Try.func44, rfl, rfl⟩ : Enters Try.prog 44) rfl rfl rfl rfl rfl ?_ | refine Loud.mk (hnr) (⟨_, Try.func44, rfl, rfl⟩ : Enters Try.prog 44) rfl rfl rfl rfl rfl ?_
    simp(maxSteps:=999999)(disch:=omega)only[go_sem,reduceAdd,reduceMul,reduceSub,reduceEqDiff,reduceLeDiff]
    ((first|(with_reducible first|refine condK_dec ?_ ?_|refine condK_ndec ?_ ?_|refine condK_nb ?_ ?_)|refine condK_b ?_ ?_) <;> intro h1)
    · have h1 : t = 0 := by omega
      rw [if_pos h1] at hOu
      have e1 : hintV p xs = ⟨0, 0, 0⟩ := by unfold hintV; rw [hOu]; rfl
      have e2 : hintB p xs = false := by unfold hintB; rw [hOu]; rfl
      rw [e1, e2]
      simp(maxSteps:=999999)(disch:=omega)only[go_sem,reduceAdd,reduceMul,reduceSub,reduceEqDiff,reduceLeDiff]
    have h1 : t ≠ 0 := fun h => h1 (by rw [h]; rfl)
    rw [if_neg h1] at hOu
    rw [if_neg h1]
    have hml : (nats ms').length = n * n := by rw [nats_len]; exact hok.len
    simp(maxSteps:=999999)(disch:=omega)only[go_sem,reduceAdd,reduceMul,reduceSub,reduceEqDiff,reduceLeDiff]
    rw [hml]
    refine loop_rule (fun k : Nat => n * n - k) (fun k => k ≤ n * n ∧ ∀ j : Nat, j < k → ¬ (onlyV (mAt ms' j) ≠ 0 ∧ nth q.given j = 0)) (fun k => [.a, .a, .a, .a, .k, .a, .k, .k, .a, .k, .a, .a, .a, .a, .a, .a, .a, .a, .a, .a, .a, .a, .a, .a, .a, .a, .a, .a, .a, .a, .a, .a, .a, .a, .a, .a, .a, .a, .a, .a, .k, .k, .p (int k), .a, .a, .a, .a, .a, .a, .a, .a, .a, .a, .a, .a, .a, .a, .a, .a, .a, .a, .a, .a, .a]) (fun _ => [some ⟨g0, 1, cP p⟩, some ⟨g4, 3, [.f (.int .i64 0), .f (.int .i64 0), .f (.int .i64 0)]⟩, some ⟨g6, 3, cP q⟩]) 0 ⟨Nat.zero_le _, fun j hj => absurd hj (Nat.not_lt_zero _)⟩ (by simp(maxSteps:=999999)(disch:=omega)only[go_sem,reduceAdd,reduceMul,reduceSub,reduceEqDiff,reduceLeDiff]; rfl) (HLe.refl _) ?_
    rintro k ⟨hk, hno⟩
    simp(maxSteps:=999999)(disch:=omega)only[go_sem,reduceAdd,reduceMul,reduceSub,reduceEqDiff,reduceLeDiff]
    ((first|(with_reducible first|refine condK_dec ?_ ?_|refine condK_ndec ?_ ?_|refine condK_nb ?_ ?_)|refine condK_b ?_ ?_) <;> intro h2)
    · have h2 : k < n * n := by omega
      have hmk := hok.lt hp.hn k
      have hnk := nth_nats ms' k
      have hgo : ¬ (onlyV (mAt ms' k) ≠ 0 ∧ nth q.given k = 0) → ∀ j : Nat, j < k + 1 → ¬ (onlyV (mAt ms' j) ≠ 0 ∧ nth q.given j = 0) := fun h j hj => by
        by_cases hjk : j = k
        · rw [hjk]; exact h
        · exact hno j (by omega)
      simp(maxSteps:=999999)(disch:=omega)only[go_sem,reduceAdd,reduceMul,reduceSub,reduceEqDiff,reduceLeDiff, hnk]
      first | refine OpS.rd (onlyValue_run (mAt ms' k) hmk.1) (⟨_, Try.func46, rfl, rfl⟩ : Enters Try.prog 46) rfl rfl rfl rfl ?_ | refine Loud.rd (onlyValue_run (mAt ms' k) hmk.1) (⟨_, Try.func46, rfl, rfl⟩ : Enters Try.prog 46) rfl rfl rfl rfl ?_
      simp(maxSteps:=999999)(disch:=omega)only[go_sem,reduceAdd,reduceMul,reduceSub,reduceEqDiff,reduceLeDiff]
      ((with_reducible first|refine guardK_dec ?_ ?_|refine guardK_ndec ?_ ?_|refine guardK_nb ?_ ?_|refine guardK_split ?_ ?_|refine guardQ_dec ?_ ?_|refine guardL_dec ?_ ?_|refine guardQ_ndec ?_ ?_|refine guardL_ndec ?_ ?_|refine guardQ_nb ?_ ?_|refine guardL_nb ?_ ?_|refine guardQ_split ?_ ?_|refine guardL_split ?_ ?_) <;> intro h3 <;> simp(maxSteps:=999999)(disch:=omega)only[go_sem,reduceAdd,reduceMul,reduceSub,reduceEqDiff,reduceLeDiff, h3])
      · ((first|(with_reducible first|refine condK_dec ?_ ?_|refine condK_ndec ?_ ?_|refine condK_nb ?_ ?_)|refine condK_b ?_ ?_) <;> intro h4)
        · have hfs := firstK_some (gv := q.given) (by rw [hok.len]; exact h2) ⟨by omega, h4⟩ hno
          rw [hfs] at hOu
          have e1 : hintV p xs = ⟨t, k, onlyV (mAt ms' k)⟩ := by unfold hintV; rw [hOu]; rfl
          have e2 : hintB p xs = true := by unfold hintB; rw [hOu]; rfl
          rw [e1, e2]
          simp(maxSteps:=999999)(disch:=omega)only[go_sem,reduceAdd,reduceMul,reduceSub,reduceEqDiff,reduceLeDiff]
        · simp(maxSteps:=999999)(disch:=omega)only[go_sem,reduceAdd,reduceMul,reduceSub,reduceEqDiff,reduceLeDiff]
          exact ⟨k + 1, ⟨⟨by omega, hgo fun h => h4 h.2⟩, by omega⟩, by push_cast; rfl, HLe.refl _⟩
      · exact ⟨k + 1, ⟨⟨by omega, hgo fun h => h3 (by omega)⟩, by omega⟩, by push_cast; rfl, HLe.refl _⟩
    · have hke : k = n * n := by omega
      have hfn := firstK_none (gv := q.given) (ms := ms') fun j hj => hno j (by have := hok.len; omega)
      rw [hfn] at hOu
      simp(maxSteps:=999999)(disch:=omega)only[go_sem,reduceAdd,reduceMul,reduceSub,reduceEqDiff,reduceLeDiff]
      exact ⟨f, ms', ⟨⟨hok, hOu.symm, by have := hdec h1; omega⟩, by omega⟩, rfl, HLe.refl _⟩
end Go.Lg

namespace Go.Lg
open Go.Proofs
def folF (p : Puz) : Nat → List Int → List Int × Nat
  | 0, xs => (xs, 0)
  | f + 1, xs => if hintB p xs = true then ((folF p f (xs.set (hintV p xs).cell.toNat (hintV p xs).val)).1, (folF p f (xs.set (hintV p xs).cell.toNat (hintV p xs).val)).2 + 1) else (xs, 0)
def folV (p : Puz) (xs : List Int) : List Int := if fitsV p xs = true then (folF p 17 xs).1 else []
def folN (p : Puz) (xs : List Int) : Int := if fitsV p xs = true then (folF p 17 xs).2 else -1
theorem hintF_facts {q : Puz} {n : Nat} {h : Hnt} : ∀ (f : Nat) (ms : List Nat), MsN ms n → hintF q f ms = some h → ∃ (k : Nat) (ms' : List Nat), MsN ms' n ∧ k < n * n ∧ h.cell = k ∧ h.val = (onlyV (mAt ms' k) : Nat) ∧ onlyV (mAt ms' k) ≠ 0 ∧ nth q.given k = 0
  | 0, _, _, h => by cases h
  | f + 1, ms, hm, hh => by
    unfold hintF at hh
    split at hh
    · cases hh
    have hok := narM_ok (p := q) (t := nextM q ms) hm
    generalize narM q (nextM q ms) ms = ms' at hh hok
    split at hh
    · rename_i k hk
      unfold firstK at hk
      have hp := List.find?_some hk
      have hmem := List.mem_of_find?_eq_some hk
      rw [decide_eq_true_eq] at hp
      cases hh
      exact ⟨k, ms', hok, by rw [← hok.len]; exact List.mem_range.1 hmem, rfl, rfl, hp.1, hp.2⟩
    · exact hintF_facts f ms' hok hh
theorem hint_facts {p : Puz} {xs : List Int} (h : hintB p xs = true) : fitsV p xs = true ∧ ∃ k v : Nat, k < xs.length ∧ (hintV p xs).cell = k ∧ (hintV p xs).val = v ∧ 1 ≤ v ∧ (v : Int) ≤ p.size ∧ nth xs k = 0 ∧ nth p.given k = 0 := by
  unfold hintB at h
  obtain ⟨hh, he⟩ := Option.isSome_iff_exists.1 h
  have hv : hintV p xs = hh := by unfold hintV; rw [he]; rfl
  unfold hintO at he
  split at he
  rotate_left
  · cases he
  rename_i hf
  obtain ⟨n, hz, hp, hvl, hg, ha, hfl, hcl, hlen, hl4, hl16⟩ := fitsV_facts hf
  obtain ⟨qv, qp, qg⟩ := withP_valid hp hvl hg ha
  obtain ⟨k, ms', hm, hk, h1, h2, h3, h4⟩ := hintF_facts _ _ (startM_ok qp qg) he
  have h5 := (mvals_only (hm.lt hp.hn k)).2 h3
  have h6 := hm.at k
  have h4' : nth (withL p.given xs) k = 0 := h4
  rw [withL_nth (by rw [hlen, hg.len]; exact hk)] at h4'
  have hx0 := hg.val k (by rw [hg.len]; exact hk)
  rw [hv]
  refine ⟨hf, k, onlyV (mAt ms' k), by rw [hg.len]; exact hk, h1, h2, by omega, ?_, ?_, ?_⟩
  · have hle := onlyV_le (mAt ms' k)
    have h7 : 2 ^ onlyV (mAt ms' k) ≤ 2 ^ (n + 1) - 2 := by rw [← h5.2]; exact h6.1
    rw [hz]
    have hn := hp.hn
    generalize onlyV (mAt ms' k) = v at *
    have : v = 1 ∨ v = 2 ∨ v = 3 ∨ v = 4 := by omega
    rcases hn with rfl | rfl | rfl <;> rcases this with rfl | rfl | rfl | rfl <;> simp at h7 ⊢
  · split at h4' <;> omega
  · split at h4' <;> omega
theorem folF_len (p : Puz) : ∀ (f : Nat) (xs : List Int), (folF p f xs).1.length = xs.length
  | 0, _ => rfl
  | f + 1, xs => by
    unfold folF
    split
    · show (folF p f _).1.length = _
      rw [folF_len p f, List.length_set]
    · rfl
def zc (xs : List Int) : Nat := xs.countP fun x => decide (x = 0)
theorem zc_set {xs : List Int} {k : Nat} {v : Int} (hk : k < xs.length) (h0 : nth xs k = 0) (hv : v ≠ 0) : zc (xs.set k v) + 1 = zc xs := by
  have e : xs[k] = 0 := by rw [← h0, nth_eq (by omega)]; rfl
  unfold zc
  rw [List.countP_set (h := hk), e]
  have : 0 < xs.countP fun x => decide (x = 0) := List.countP_pos_iff.2 ⟨xs[k], List.getElem_mem _, by simp [e]⟩
  simp [hv]
  omega
theorem folF_step {p : Puz} {f : Nat} {ys : List Int} (h : hintB p ys = true) : folF p (f + 1) ys = ((folF p f (ys.set (hintV p ys).cell.toNat (hintV p ys).val)).1, (folF p f (ys.set (hintV p ys).cell.toNat (hintV p ys).val)).2 + 1) := by
  conv => lhs; unfold folF
  rw [if_pos h]
theorem folF_stop {p : Puz} {f : Nat} {ys : List Int} (h : hintB p ys = false) : folF p f ys = (ys, 0) := by
  cases f with
  | zero => rfl
  | succ f => unfold folF; rw [if_neg (by rw [h]; simp)]
def folQ (p : Puz) (xs : List Int) : KV := fun v H => ∃ c S, v = .tup [.c c, int (folN p xs)] ∧ OwnI H c (folV p xs) S ∧ scalH H
theorem lessQ_fol {p : Puz} {xs : List Int} {H : Heap} {c : CV} {S : List Nat} (h : OwnI H c (folV p xs) S) : lessQ H (folQ p xs) (.tup [.c c, int (folN p xs)]) :=
  ⟨keepH S H, keepH_le S H, c, S, rfl, h.same (fun i hi => keepH_get hi (h.lt i hi)), scalH_keep h.blk⟩
section
variable {P : Program} {o : Oper} {st : St} {K : KV} {fo : Operand} {ws : Array Operand} {ts : Array TypeId} {f : FuncId} {args args' : List AV} {v : AV}
theorem OpS.mkDT (hc : Reads P f args' v) (he : Enters P f) (ho : o.op = .call ⟨.value fo, ws, ts⟩) (ha : callArgs st fo ws = some (f, args)) (hs : args.mapM (snapD st.h) = some args')
    (hv : tupOk v = true ∧ scal1 v = true) (hsh : ∀ k, shiftA k v = v) (hk : K v st.h) : OpS P o st K :=
  OpS.mkD (RunCall.weaker (Q' := fun r H => r = v ∧ H = []) hc fun v' H' h => ⟨[], hle_nil _, h, rfl⟩) he ho ha hs fun r H' ⟨h1, h2⟩ => by
    subst h1
    subst h2
    refine ⟨⟨hv.1, hv.2, fun id b hb => by simp at hb⟩, ?_⟩
    rw [hsh]
    show K r (st.h ++ [])
    rw [List.append_nil]
    exact hk
end
set_option maxHeartbeats 2000000 in
theorem FollowHints_own (p : Puz) (xs : List Int) (hx : smP p) (hl : xs.length ≤ 2 ^ 40) : RunCall Try.prog 10 [aP p, ints xs] [] (folQ p xs) := by
  refine RunCall.nz ?_
  refine RunCall.cw (c := _) Try.func10 rfl (n := 35) Try.ntmps10 (rs := [.tmp 4, .tmp 5]) rfl ?_
  simp only[List.length_cons,List.length_nil,reduceAdd,reduceSub,List.replicate,List.cons_append,List.nil_append]
  simp(maxSteps:=999999)(disch:=omega)only[go_sem,reduceAdd,reduceMul,reduceSub,reduceEqDiff,reduceLeDiff]
  intro g0
  first | refine OpS.rd (PuzzleFits_gen p xs hx hl) (⟨_, Try.func25, rfl, rfl⟩ : Enters Try.prog 25) rfl rfl rfl rfl ?_ | refine Loud.rd (PuzzleFits_gen p xs hx hl) (⟨_, Try.func25, rfl, rfl⟩ : Enters Try.prog 25) rfl rfl rfl rfl ?_
  simp(maxSteps:=999999)(disch:=omega)only[go_sem,reduceAdd,reduceMul,reduceSub,reduceEqDiff,reduceLeDiff]
  cases hf : fitsV p xs with
  | false =>
    have e1 : folV p xs = [] := by unfold folV; rw [if_neg (by rw [hf]; simp)]
    have e2 : folN p xs = -1 := by unfold folN; rw [if_neg (by rw [hf]; simp)]
    simp(maxSteps:=999999)(disch:=omega)only[go_sem,reduceAdd,reduceMul,reduceSub,reduceEqDiff,reduceLeDiff]
    rw [← e2]
    exact lessQ_fol (by rw [e1]; exact .e)
  | true =>
    have e1 : folV p xs = (folF p 17 xs).1 := by unfold folV; rw [if_pos hf]
    have e2 : folN p xs = ((folF p 17 xs).2 : Nat) := by unfold folN; rw [if_pos hf]
    obtain ⟨n, hz, hp, hv, hg, ha, hfl, hcl, hlen, hl4, hl16⟩ := fitsV_facts hf
    simp(maxSteps:=999999)(disch:=omega)only[go_sem,reduceAdd,reduceMul,reduceSub,reduceEqDiff,reduceLeDiff]
    intro g1 g2
    rw [Nat.zero_add]
    refine loop_rule2 (fun (f : Nat) (b : List Int × Nat) => f) (fun f b => b.1.length = xs.length ∧ (folF p 17 xs).1 = (folF p f b.1).1 ∧ (folF p 17 xs).2 = (folF p f b.1).2 + b.2 ∧ zc b.1 < f ∧ f + b.2 = 17) (fun f b => [.a, .a, .k, .a, .a, .a, .k, .p (int b.2), .a, .a, .a, .a, .a, .a, .a, .a, .a, .a, .a, .a, .a, .a, .a, .a, .a, .a, .a, .a, .a, .a, .a, .a, .a, .a, .a]) (fun f b => [some ⟨g0, 1, cP p⟩, some ⟨g2, 1, cl (eI .i64) b.1⟩]) 17 (xs, 0) ⟨rfl, rfl, rfl, by have : zc xs ≤ xs.length := List.countP_le_length; show zc xs < 17; omega, rfl⟩ (by simp(maxSteps:=999999)(disch:=omega)only[go_sem,reduceAdd,reduceMul,reduceSub,reduceEqDiff,reduceLeDiff]; first | rfl | exact ⟨rfl, rfl⟩) (hle_eq rfl (hle_eq rfl (hle_nil _))) ?_
    rintro f ⟨ys, N⟩ ⟨hyl, hy1, hy2, hzc, hN⟩
    simp only at hyl hy1 hy2 hzc hN ⊢
    obtain ⟨f, rfl⟩ : ∃ f', f = f' + 1 := ⟨f - 1, by omega⟩
    have hown : ∀ X : Heap, OwnI (some ⟨g0, 1, cP p⟩ :: some ⟨g2, 1, cl (eI .i64) ys⟩ :: X) (.own 1 g2 0 xs.length none) ys [1] := fun X => by
      have := OwnI.o (H := some ⟨g0, 1, cP p⟩ :: some ⟨g2, 1, cl (eI .i64) ys⟩ :: X) 1 g2 none ys [] (by rw [List.append_nil]; exact look_of (H := some ⟨g0, 1, cP p⟩ :: some ⟨g2, 1, cl (eI .i64) ys⟩ :: X) (id := 1) (b := ⟨g2, 1, cl (eI .i64) ys⟩) rfl)
      rwa [hyl] at this
    simp(maxSteps:=999999)(disch:=omega)only[go_sem,reduceAdd,reduceMul,reduceSub,reduceEqDiff,reduceLeDiff]
    refine OpS.mkDT (NextHint_run p ys hx (by omega)) (⟨_, Try.func26, rfl, rfl⟩ : Enters Try.prog 26) rfl rfl (snap_two snapD_aP (hown []).snap) ⟨rfl, rfl⟩ (fun _ => rfl) ?_
    simp(maxSteps:=999999)(disch:=omega)only[go_sem,reduceAdd,reduceMul,reduceSub,reduceEqDiff,reduceLeDiff]
    intro g3
    cases hb : hintB p ys with
    | false =>
      rw [folF_stop hb] at hy1 hy2
      have e3 : folV p xs = ys := by rw [e1, hy1]
      have e4 : folN p xs = N := by rw [e2, hy2]; simp
      simp(maxSteps:=999999)(disch:=omega)only[go_sem,reduceAdd,reduceMul,reduceSub,reduceEqDiff,reduceLeDiff]
      rw [← e4]
      exact lessQ_fol (by rw [e3]; exact hown _)
    | true =>
      obtain ⟨_, k, v, hk, hc, hvv, hv1, hv2, h0, _⟩ := hint_facts hb
      rw [folF_step hb] at hy1 hy2
      rw [hc, hvv, Int.toNat_natCast] at hy1 hy2
      have hzs := zc_set (v := (v : Int)) hk h0 (by omega)
      simp(maxSteps:=999999)(disch:=omega)only[go_sem,reduceAdd,reduceMul,reduceSub,reduceEqDiff,reduceLeDiff, hc, hvv, hyl]
      exact ⟨f, (ys.set k v, N + 1), ⟨⟨by rw [List.length_set]; exact hyl, hy1, by simp only; omega, by simp only; omega, by simp only; omega⟩, by omega⟩, by push_cast; rfl, hle_eq rfl (hle_eq (by rw [Int.toNat_natCast]) (hle_nil _))⟩
end Go.Lg
