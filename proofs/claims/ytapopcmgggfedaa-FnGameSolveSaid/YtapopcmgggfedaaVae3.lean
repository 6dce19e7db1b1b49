/- GpQC, GpRC, GpR, GpS, cut to what is needed. -/
import Derived.Test.YtapopcmgggfedaaVae2
import Derived.Test.YtapopcmgggfedaaVae1
import Derived.Test.YtapopcmgggfedaaVae0
import Derived.Test.YtapopcmgggfedaaVab4
import Derived.Test.YtapopcmgggfedaaVac5
import Derived.Test.YtapopcmgggfedaaVad1
open Nat(reduceAdd reduceMul reduceSub reduceEqDiff reduceLeDiff)
set_option linter.unusedSimpArgs false
set_option linter.unusedVariables false
set_option maxRecDepth 100000
namespace Go.Lg
open Go.Proofs
theorem sole_iff {p : Puz} {n : Nat} (hp : PuzN p n) (hg : GrdN p.given n) (most : Nat) : gridFilled (nats (onlyL (nallV p most (startM p)))) p.size = ((nallV p most (startM p)).length : Int) ↔ soleB p most = true := by
  have hz : p.size.toNat = n := by rw [hp.size]; rfl
  have hm := (nallF_ok (p := p) (most := most) 500 _ (startM_ok hp hg)).1
  have hx := onlyL_grd hp.hn hm
  have hv := hx.valid hp.hn
  rw [← hp.size] at hv
  have hl : (nats (onlyL (nallV p most (startM p)))).length = (nallV p most (startM p)).length := by rw [nats_len, onlyL_len]
  unfold gridFilled
  have hv' : gridValid (nats (onlyL (nallV p most (startM p)))) p.size = true := hv
  rw [if_pos hv', ← hl]
  have e : (((nats (onlyL (nallV p most (startM p)))).countP fun v => decide (0 < v) : Nat) : Int) = ((nats (onlyL (nallV p most (startM p)))).length : Int) ↔ ((nats (onlyL (nallV p most (startM p)))).countP fun v => decide (0 < v)) = (nats (onlyL (nallV p most (startM p)))).length := by omega
  rw [e, count_all]
  have hlen : (nallV p most (startM p)).length = n * n := hm.len
  unfold soleB
  rw [hz, decide_eq_true_eq]
  constructor
  · intro h i hi
    have hi' : i < (nats (onlyL (nallV p most (startM p)))).length := by rw [hl, hlen]; exact hi
    have h1 := of_decide_eq_true (h _ (List.getElem_mem hi'))
    have e2 := nth_nats (onlyL (nallV p most (startM p))) i
    rw [nth_eq (by omega), onlyL_at] at e2
    have e3 : (nats (onlyL (nallV p most (startM p))))[i] = ((onlyV (mAt (nallV p most (startM p)) i) : Nat) : Int) := e2
    rw [e3] at h1
    omega
  · intro h x hx2
    obtain ⟨i, hi, rfl⟩ := List.getElem_of_mem hx2
    have h1 := h i (by rw [hl, hlen] at hi; exact hi)
    have e2 := nth_nats (onlyL (nallV p most (startM p))) i
    rw [nth_eq (by omega), onlyL_at] at e2
    have e3 : (nats (onlyL (nallV p most (startM p))))[i] = ((onlyV (mAt (nallV p most (startM p)) i) : Nat) : Int) := e2
    rw [e3]
    exact decide_eq_true (by omega)
theorem one_two (p : Puz) (hv : puzzleValid p = true) : (countV p 2 = 1) ↔ (allL p).length = 1 := by
  unfold countV
  rw [if_pos ⟨hv, by omega, by omega⟩]
  have : (2 : Int).toNat = 2 := rfl
  rw [this, allS_take, List.length_take]
  omega
theorem grade_at {p : Puz} (hv : puzzleValid p = true) (h1 : (allL p).length = 1) {t : Nat} (ht : 1 ≤ t ∧ t ≤ 4) (h : soleB p t = true) (hlt : ∀ u, 1 ≤ u → u < t → soleB p u = false) : gradeV p = t := by
  unfold gradeV
  rw [if_pos hv, if_pos h1]
  have : ((List.range 4).map (· + 1)).find? (soleB p) = some t := by
    rw [List.find?_eq_some_iff_getElem]
    refine ⟨h, t - 1, by simp; omega, by simp; omega, fun j hj => ?_⟩
    simp only [List.getElem_map, List.getElem_range, Bool.not_eq_true']
    exact hlt _ (by omega) (by omega)
  rw [this]
  rfl
theorem grade_five {p : Puz} (hv : puzzleValid p = true) (h1 : (allL p).length = 1) (h : ∀ u, 1 ≤ u → u < 5 → soleB p u = false) : gradeV p = 5 := by
  unfold gradeV
  rw [if_pos hv, if_pos h1]
  have : ((List.range 4).map (· + 1)).find? (soleB p) = none := by
    rw [List.find?_eq_none]
    intro t ht
    obtain ⟨j, hj, rfl⟩ := List.mem_map.1 ht
    have := List.mem_range.1 hj
    rw [h _ (by omega) (by omega)]
    simp
  rw [this]
  rfl
theorem nextRoundT_run {p : Puz} {n : Nat} (hp : PuzN p n) (hv : puzzleValid p = true) (ms : List Nat) (hm : MsN ms n) (most : Nat) (hmo : 1 ≤ most ∧ most ≤ 4) : Reads Try.prog 44 [aP p, ints (nats ms), int most] (.tup [ints (if nextT p most ms = 0 then [] else nats (narM p (nextT p most ms) ms)), int (nextT p most ms)]) := by
  have hsq : n * n ≤ 16 := by rcases hp.hn with rfl | rfl | rfl <;> omega
  have hl := hm.len
  refine Reads.ice (Q := fun v H' => frzA H' v = some (.tup [ints (if nextT p most ms = 0 then [] else nats (narM p (nextT p most ms) ms)), int (nextT p most ms)])) ?_ (fun r H' h => h)
  refine RunCall.cw (c := _) Try.func44 rfl (n := 25) Try.ntmps44 (rs := [.tmp 6, .tmp 7]) rfl ?_
  simp only[List.length_cons,List.length_nil,reduceAdd,reduceSub,List.replicate,List.cons_append,List.nil_append]
  simp(maxSteps:=999999)(disch:=omega)only[go_sem,reduceAdd,reduceMul,reduceSub,reduceEqDiff,reduceLeDiff]
  intro g
  refine loop_rule (fun t : Nat => 5 - t) (fun t => 1 ≤ t ∧ t ≤ most + 1 ∧ ∀ u, 1 ≤ u → u < t → narM p u ms = ms) (fun t => [.a, .k, .k, .k, .a, .a, .a, .a, .p (int t), .a, .a, .a, .a, .a, .a, .a, .a, .a, .a, .a, .a, .a, .a, .a, .a]) (fun _ => [some ⟨g, 1, cP p⟩]) 1 ⟨by omega, by omega, fun u h1 h2 => by omega⟩ (by simp(maxSteps:=999999)(disch:=omega)only[go_sem,reduceAdd,reduceMul,reduceSub,reduceEqDiff,reduceLeDiff]; rfl) (HLe.refl _) ?_
  rintro t ⟨ht1, ht2, hall⟩
  simp(maxSteps:=999999)(disch:=omega)only[go_sem,reduceAdd,reduceMul,reduceSub,reduceEqDiff,reduceLeDiff]
  ((first|(with_reducible first|refine condK_dec ?_ ?_|refine condK_ndec ?_ ?_|refine condK_nb ?_ ?_)|refine condK_b ?_ ?_) <;> intro h1)
  · have h1 : t ≤ most := by omega
    simp(maxSteps:=999999)(disch:=omega)only[go_sem,reduceAdd,reduceMul,reduceSub,reduceEqDiff,reduceLeDiff]
    first | refine OpS.mk (NarrowBy_run hp hv ms hm t ⟨ht1, by omega⟩) (⟨_, Try.func63, rfl, rfl⟩ : Enters Try.prog 63) rfl rfl rfl rfl rfl ?_ | refine Loud.mk (NarrowBy_run hp hv ms hm t ⟨ht1, by omega⟩) (⟨_, Try.func63, rfl, rfl⟩ : Enters Try.prog 63) rfl rfl rfl rfl rfl ?_
    simp(maxSteps:=999999)(disch:=omega)only[go_sem,reduceAdd,reduceMul,reduceSub,reduceEqDiff,reduceLeDiff]
    have hnl := (narM_ok (p := p) (t := t) hm).len
    first | refine OpS.rd (Equal_run (nats (narM p t ms)) (nats ms) (by rw [nats_len]; omega)) (⟨_, Try.func64, rfl, rfl⟩ : Enters Try.prog 64) rfl rfl rfl rfl ?_ | refine Loud.rd (Equal_run (nats (narM p t ms)) (nats ms) (by rw [nats_len]; omega)) (⟨_, Try.func64, rfl, rfl⟩ : Enters Try.prog 64) rfl rfl rfl rfl ?_
    simp(maxSteps:=999999)(disch:=omega)only[go_sem,reduceAdd,reduceMul,reduceSub,reduceEqDiff,reduceLeDiff]
    ((first|(with_reducible first|refine condK_dec ?_ ?_|refine condK_ndec ?_ ?_|refine condK_nb ?_ ?_)|refine condK_b ?_ ?_) <;> intro h2)
    · have h2 : narM p t ms = ms := nats_inj.1 h2
      simp(maxSteps:=999999)(disch:=omega)only[go_sem,reduceAdd,reduceMul,reduceSub,reduceEqDiff,reduceLeDiff]
      exact ⟨t + 1, ⟨⟨by omega, by omega, fun u u1 u2 => by
        by_cases hut : u = t
        · rw [hut]; exact h2
        · exact hall u u1 (by omega)⟩, by omega⟩, by push_cast; rfl, HLe.refl _⟩
    · have h2 : narM p t ms ≠ ms := fun h => h2 (by rw [h])
      have e := nextT_is ht1 h1 hall h2
      rw [e, if_neg (by omega)]
      simp(maxSteps:=999999)(disch:=omega)only[go_sem,reduceAdd,reduceMul,reduceSub,reduceEqDiff,reduceLeDiff]
      exact ⟨_, HLe.refl _, rfl⟩
  · have hte : t = most + 1 := by omega
    have e := nextT_no (p := p) (most := most) (ms := ms) fun u u1 u2 => hall u u1 (by omega)
    rw [e, if_pos rfl]
    simp(maxSteps:=999999)(disch:=omega)only[go_sem,reduceAdd,reduceMul,reduceSub,reduceEqDiff,reduceLeDiff]
    exact ⟨_, HLe.refl _, rfl⟩
theorem NarrowAll_run {p : Puz} {n : Nat} (hp : PuzN p n) (hv : puzzleValid p = true) (ms : List Nat) (hm : MsN ms n) (most : Nat) (hmo : 1 ≤ most ∧ most ≤ 4) : Reads Try.prog 22 [aP p, ints (nats ms), int most] (.tup [ints (nats (nallF p most 500 ms).1), int (nallF p most 500 ms).2]) := by
  have hsq : 4 ≤ n * n ∧ n * n ≤ 16 := by rcases hp.hn with rfl | rfl | rfl <;> omega
  have hl : (nats ms).length = n * n := by rw [nats_len]; exact hm.len
  have hsum := hm.sum hp.hn
  have hmv := MasksValid_run hp.hn ms hm
  rw [← hp.size] at hmv
  have hcl := Reads.own (Clone_q (nats ms) (by omega) (fun h => by rw [h] at hl; simp at hl; omega))
  refine RunCall.cw (c := _) Try.func22 rfl (n := 46) Try.ntmps22 (rs := [.tmp 6, .tmp 7]) rfl ?_
  simp only[List.length_cons,List.length_nil,reduceAdd,reduceSub,List.replicate,List.cons_append,List.nil_append]
  simp(maxSteps:=999999)(disch:=omega)only[go_sem,reduceAdd,reduceMul,reduceSub,reduceEqDiff,reduceLeDiff]
  intro g
  first | refine OpS.rd (PuzzleValid_run p hp.sm) (⟨_, Try.func15, rfl, rfl⟩ : Enters Try.prog 15) rfl rfl rfl rfl ?_ | refine Loud.rd (PuzzleValid_run p hp.sm) (⟨_, Try.func15, rfl, rfl⟩ : Enters Try.prog 15) rfl rfl rfl rfl ?_
  simp(maxSteps:=999999)(disch:=omega)only[go_sem,reduceAdd,reduceMul,reduceSub,reduceEqDiff,reduceLeDiff]
  rw [hv]
  simp(maxSteps:=999999)(disch:=omega)only[go_sem,reduceAdd,reduceMul,reduceSub,reduceEqDiff,reduceLeDiff]
  first | refine OpS.rd (hmv) (⟨_, Try.func43, rfl, rfl⟩ : Enters Try.prog 43) rfl rfl rfl rfl ?_ | refine Loud.rd (hmv) (⟨_, Try.func43, rfl, rfl⟩ : Enters Try.prog 43) rfl rfl rfl rfl ?_
  simp(maxSteps:=999999)(disch:=omega)only[go_sem,reduceAdd,reduceMul,reduceSub,reduceEqDiff,reduceLeDiff]
  have hCle := (nallF_ok (p := p) (most := most) 500 ms hm).2
  obtain ⟨R, hR⟩ : ∃ R, R = (nallF p most 500 ms).1 := ⟨_, rfl⟩
  obtain ⟨C, hC⟩ : ∃ C, C = (nallF p most 500 ms).2 := ⟨_, rfl⟩
  rw [← hC] at hCle
  rw [← hR, ← hC]
  simp (maxSteps := 1000000) (disch := omega) only [go_sem, lt_no, lt_yes, le_no, le_yes, eq_no, eq_yes, Nat.reduceAdd, Nat.reduceMul, Nat.reduceSub, Nat.reduceEqDiff, Nat.reduceLeDiff]
  first | refine OpS.mk (hcl) (⟨_, Try.func38, rfl, rfl⟩ : Enters Try.prog 38) rfl rfl rfl rfl rfl ?_ | refine Loud.mk (hcl) (⟨_, Try.func38, rfl, rfl⟩ : Enters Try.prog 38) rfl rfl rfl rfl rfl ?_
  simp(maxSteps:=999999)(disch:=omega)only[go_sem,reduceAdd,reduceMul,reduceSub,reduceEqDiff,reduceLeDiff]
  refine loop_rule2 (fun (f : Nat) (b : List Nat × Nat) => f) (fun f b => MsN b.1 n ∧ b.1.sum < f ∧ (nallF p most f b.1).1 = R ∧ b.2 + (nallF p most f b.1).2 = C) (fun f b => [.a, .a, .k, .k, .a, .a, .a, .a, .p (ints (nats b.1)), .p (int b.2), .a, .a, .a, .a, .a, .a, .a, .a, .a, .a, .a, .a, .a, .a, .a, .a, .a, .a, .a, .a, .a, .a, .a, .a, .a, .a, .a, .a, .a, .a, .a, .a, .a, .a, .a, .a]) (fun _ _ => [some ⟨g, 1, cP p⟩]) 500 (ms, 0) ⟨hm, by show ms.sum < 500; omega, hR.symm, by show 0 + (nallF p most 500 ms).2 = C; omega⟩ (by simp(maxSteps:=999999)(disch:=omega)only[go_sem,reduceAdd,reduceMul,reduceSub,reduceEqDiff,reduceLeDiff]; rfl) (HLe.refl _) ?_
  rintro f ⟨ns, c⟩ ⟨k1, k2, k3, k4⟩
  simp only at k1 k2 k3 k4 ⊢
  obtain ⟨f, rfl⟩ : ∃ f', f = f' + 1 := ⟨f - 1, by omega⟩
  simp(maxSteps:=999999)(disch:=omega)only[go_sem,reduceAdd,reduceMul,reduceSub,reduceEqDiff,reduceLeDiff]
  first | refine OpS.mk (nextRoundT_run hp hv ns k1 most hmo) (⟨_, Try.func44, rfl, rfl⟩ : Enters Try.prog 44) rfl rfl rfl rfl rfl ?_ | refine Loud.mk (nextRoundT_run hp hv ns k1 most hmo) (⟨_, Try.func44, rfl, rfl⟩ : Enters Try.prog 44) rfl rfl rfl rfl rfl ?_
  simp(maxSteps:=999999)(disch:=omega)only[go_sem,reduceAdd,reduceMul,reduceSub,reduceEqDiff,reduceLeDiff]
  by_cases hz : nextT p most ns = 0
  · rw [nallF_stop hz] at k3 k4
    have d0 : decide (((nextT p most ns : Nat) : Int) = 0) = true := decide_eq_true (by omega)
    simp only at k3 k4
    simp(maxSteps:=999999)(disch:=omega)only[go_sem,reduceAdd,reduceMul,reduceSub,reduceEqDiff,reduceLeDiff, d0]
    rw [k3, show c = C by omega]
  · rw [nallF_step hz] at k3 k4
    simp only at k3 k4
    have hlt := narM_sum k1 ((nextT_le p most ns).2 hz)
    have d0 : decide (((nextT p most ns : Nat) : Int) = 0) = false := decide_eq_false (by omega)
    rw [if_neg hz]
    simp(maxSteps:=999999)(disch:=omega)only[go_sem,reduceAdd,reduceMul,reduceSub,reduceEqDiff,reduceLeDiff, d0]
    exact ⟨f, (narM p (nextT p most ns) ns, c + 1), ⟨⟨narM_ok k1, by show (narM p (nextT p most ns) ns).sum < f; omega, k3, by show c + 1 + (nallF p most f (narM p (nextT p most ns) ns)).2 = C; omega⟩, by omega⟩, by simp, HLe.refl _⟩
theorem GradePuzzle_run (p : Puz) (hx : smP p) : Reads Try.prog 8 [aP p] (int (gradeV p)) := by
  refine RunCall.cw (c := _) Try.func8 rfl (n := 35) Try.ntmps8 (rs := [.tmp 2]) rfl ?_
  simp only[List.length_cons,List.length_nil,reduceAdd,reduceSub,List.replicate,List.cons_append,List.nil_append]
  simp(maxSteps:=999999)(disch:=omega)only[go_sem,reduceAdd,reduceMul,reduceSub,reduceEqDiff,reduceLeDiff]
  intro g
  first | refine OpS.rd (PuzzleValid_run p hx) (⟨_, Try.func15, rfl, rfl⟩ : Enters Try.prog 15) rfl rfl rfl rfl ?_ | refine Loud.rd (PuzzleValid_run p hx) (⟨_, Try.func15, rfl, rfl⟩ : Enters Try.prog 15) rfl rfl rfl rfl ?_
  simp(maxSteps:=999999)(disch:=omega)only[go_sem,reduceAdd,reduceMul,reduceSub,reduceEqDiff,reduceLeDiff]
  cases hv : puzzleValid p with
  | false =>
    have e : gradeV p = -1 := by unfold gradeV; rw [hv]; rfl
    rw [e]
    ((first|(with_reducible first|refine condK_dec ?_ ?_|refine condK_ndec ?_ ?_|refine condK_nb ?_ ?_)|refine condK_b ?_ ?_) <;> intro c0)
    · cases c0
    simp(maxSteps:=999999)(disch:=omega)only[go_sem,reduceAdd,reduceMul,reduceSub,reduceEqDiff,reduceLeDiff]
  | true =>
    ((first|(with_reducible first|refine condK_dec ?_ ?_|refine condK_ndec ?_ ?_|refine condK_nb ?_ ?_)|refine condK_b ?_ ?_) <;> intro c0)
    rotate_left
    · cases c0
    simp(maxSteps:=999999)(disch:=omega)only[go_sem,reduceAdd,reduceMul,reduceSub,reduceEqDiff,reduceLeDiff]
    first | refine OpS.rd (onlyOne_run p hx) (⟨_, Try.func21, rfl, rfl⟩ : Enters Try.prog 21) rfl rfl rfl rfl ?_ | refine Loud.rd (onlyOne_run p hx) (⟨_, Try.func21, rfl, rfl⟩ : Enters Try.prog 21) rfl rfl rfl rfl ?_
    simp(maxSteps:=999999)(disch:=omega)only[go_sem,reduceAdd,reduceMul,reduceSub,reduceEqDiff,reduceLeDiff]
    by_cases h1 : (allL p).length = 1
    rotate_left
    · have e : gradeV p = 0 := by unfold gradeV; rw [if_pos hv, if_neg h1]
      have d0 : decide (countV p 2 = 1) = false := decide_eq_false (fun h => h1 ((one_two p hv).1 h))
      rw [e]
      simp(maxSteps:=999999)(disch:=omega)only[go_sem,reduceAdd,reduceMul,reduceSub,reduceEqDiff,reduceLeDiff, d0]
    have d0 : decide (countV p 2 = 1) = true := decide_eq_true ((one_two p hv).2 h1)
    obtain ⟨hp, hg⟩ := puz_facts hv
    have hz := (PuzN.of hv).2
    simp(maxSteps:=999999)(disch:=omega)only[go_sem,reduceAdd,reduceMul,reduceSub,reduceEqDiff,reduceLeDiff, d0]
    refine loop_rule (fun t : Nat => 5 - t) (fun t => 1 ≤ t ∧ t ≤ 5 ∧ ∀ u, 1 ≤ u → u < t → soleB p u = false) (fun t => [.a, .k, .a, .p (int t), .a, .a, .a, .a, .a, .a, .a, .a, .a, .a, .a, .a, .a, .a, .a, .a, .a, .a, .a, .a, .a, .a, .a, .a, .a, .a, .a, .a, .a, .a, .a]) (fun _ => [some ⟨g, 1, cP p⟩]) 1 ⟨by omega, by omega, fun u u1 u2 => by omega⟩ (by simp(maxSteps:=999999)(disch:=omega)only[go_sem,reduceAdd,reduceMul,reduceSub,reduceEqDiff,reduceLeDiff]; rfl) (HLe.refl _) ?_
    rintro t ⟨t1, t5, hall⟩
    simp(maxSteps:=999999)(disch:=omega)only[go_sem,reduceAdd,reduceMul,reduceSub,reduceEqDiff,reduceLeDiff]
    ((first|(with_reducible first|refine condK_dec ?_ ?_|refine condK_ndec ?_ ?_|refine condK_nb ?_ ?_)|refine condK_b ?_ ?_) <;> intro c1)
    · have c1 : t ≤ 4 := by omega
      have hok := (nallF_ok (p := p) (most := t) 500 _ (startM_ok hp hg)).1
      have hmg := MasksGrid_run hp.hn (nallF p t 500 (startM p)).1 hok
      have hiff := sole_iff hp hg t
      unfold nallV at hiff
      rw [hz] at hmg
      simp(maxSteps:=999999)(disch:=omega)only[go_sem,reduceAdd,reduceMul,reduceSub,reduceEqDiff,reduceLeDiff]
      refine drawP_q foll (by kernel_rfl) ?_
      simp(maxSteps:=999999)(disch:=omega)only[go_sem,Nat.reduceBEq,Bool.true_or,reduceAdd,reduceMul,reduceSub,reduceEqDiff,reduceLeDiff]
      refine quietW.mk (StartMasks_run hp hv hg) (⟨_, Try.func23, rfl, rfl⟩ : Enters Try.prog 23) rfl rfl rfl rfl rfl ?_
      simp(maxSteps:=999999)(disch:=omega)only[go_sem,reduceAdd,reduceMul,reduceSub,reduceEqDiff,reduceLeDiff]
      refine quietW.mk (NarrowAll_run hp hv (startM p) (startM_ok hp hg) t ⟨t1, c1⟩) (⟨_, Try.func22, rfl, rfl⟩ : Enters Try.prog 22) rfl rfl rfl rfl rfl ?_
      simp(maxSteps:=999999)(disch:=omega)only[go_sem,reduceAdd,reduceMul,reduceSub,reduceEqDiff,reduceLeDiff]
      refine drawP_q foll (by kernel_rfl) ?_
      simp(maxSteps:=999999)(disch:=omega)only[go_sem,Nat.reduceBEq,Bool.true_or,reduceAdd,reduceMul,reduceSub,reduceEqDiff,reduceLeDiff]
      refine quietW.mk (hmg) (⟨_, Try.func24, rfl, rfl⟩ : Enters Try.prog 24) rfl rfl rfl rfl rfl ?_
      simp(maxSteps:=999999)(disch:=omega)only[go_sem,reduceAdd,reduceMul,reduceSub,reduceEqDiff,reduceLeDiff]
      have hlm : (nats (onlyL (nallF p t 500 (startM p)).1)).length ≤ 2 ^ 40 := by
        rw [nats_len, onlyL_len, hok.len]
        rcases hp.hn with e | e | e <;> rw [e] <;> omega
      refine quietW.rd (GridFilled_run (nats (onlyL (nallF p t 500 (startM p)).1)) p.size hlm) (⟨_, Try.func12, rfl, rfl⟩ : Enters Try.prog 12) rfl rfl rfl rfl ?_
      simp(maxSteps:=999999)(disch:=omega)only[go_sem,reduceAdd,reduceMul,reduceSub,reduceEqDiff,reduceLeDiff]
      rw [nats_len]
      ((first|(with_reducible first|refine condK_dec ?_ ?_|refine condK_ndec ?_ ?_|refine condK_nb ?_ ?_)|refine condK_b ?_ ?_) <;> intro c2)
      · rw [grade_at hv h1 ⟨t1, c1⟩ (hiff.1 c2) hall]
        simp(maxSteps:=999999)(disch:=omega)only[go_sem,reduceAdd,reduceMul,reduceSub,reduceEqDiff,reduceLeDiff]
      · have hb : soleB p t = false := by
          cases hb : soleB p t with
          | false => rfl
          | true => exact absurd (hiff.2 hb) c2
        simp(maxSteps:=999999)(disch:=omega)only[go_sem,reduceAdd,reduceMul,reduceSub,reduceEqDiff,reduceLeDiff]
        exact ⟨t + 1, ⟨⟨by omega, by omega, fun u u1 u2 => by
          by_cases hut : u = t
          · rw [hut]; exact hb
          · exact hall u u1 (by omega)⟩, by omega⟩, by push_cast; rfl, HLe.refl _⟩
    · have hte : t = 5 := by omega
      subst hte
      rw [grade_five hv h1 hall]
      simp(maxSteps:=999999)(disch:=omega)only[go_sem,reduceAdd,reduceMul,reduceSub,reduceEqDiff,reduceLeDiff]
end Go.Lg

namespace Go.Lg
open Go.Proofs
theorem rul_ext {r s : Rul} (h1 : r.kind = s.kind) (h2 : r.val = s.val) (h3 : r.cells = s.cells) : r = s := by
  cases r; cases s; simp_all
set_option maxHeartbeats 2000000 in
theorem samePuzzle_run (p q : Puz) (hx : smP p) : Reads Try.prog 17 [aP p, aP q] (bool (decide (p = q))) := by
  obtain ⟨hg, hrl, hrs⟩ := hx
  refine RunCall.cw (c := _) Try.func17 rfl (n := 79) Try.ntmps17 (rs := [.tmp 4]) rfl ?_
  simp only[List.length_cons,List.length_nil,reduceAdd,reduceSub,List.replicate,List.cons_append,List.nil_append]
  simp(maxSteps:=999999)(disch:=omega)only[go_sem,reduceAdd,reduceMul,reduceSub,reduceEqDiff,reduceLeDiff]
  intro ga gb
  by_cases e1 : p.size = q.size
  rotate_left
  · have d1 : decide (p.size = q.size) = false := decide_eq_false e1
    simp(maxSteps:=999999)(disch:=omega)only[go_sem,reduceAdd,reduceMul,reduceSub,reduceEqDiff,reduceLeDiff, d1]
    exact (decide_eq_false fun h => e1 (by rw [h])).symm
  have d1 : decide (p.size = q.size) = true := decide_eq_true e1
  simp(maxSteps:=999999)(disch:=omega)only[go_sem,reduceAdd,reduceMul,reduceSub,reduceEqDiff,reduceLeDiff, d1]
  first | refine OpS.rd (sameIntsF_run p.given q.given hg) (⟨_, Try.func18, rfl, rfl⟩ : Enters Try.prog 18) rfl rfl rfl rfl ?_ | refine Loud.rd (sameIntsF_run p.given q.given hg) (⟨_, Try.func18, rfl, rfl⟩ : Enters Try.prog 18) rfl rfl rfl rfl ?_
  simp(maxSteps:=999999)(disch:=omega)only[go_sem,reduceAdd,reduceMul,reduceSub,reduceEqDiff,reduceLeDiff]
  by_cases e2 : p.given = q.given
  rotate_left
  · have d2 : decide (p.given = q.given) = false := decide_eq_false e2
    simp(maxSteps:=999999)(disch:=omega)only[go_sem,reduceAdd,reduceMul,reduceSub,reduceEqDiff,reduceLeDiff, d2]
    exact (decide_eq_false fun h => e2 (by rw [h])).symm
  have d2 : decide (p.given = q.given) = true := decide_eq_true e2
  simp(maxSteps:=999999)(disch:=omega)only[go_sem,reduceAdd,reduceMul,reduceSub,reduceEqDiff,reduceLeDiff, d2]
  by_cases e3 : p.rules.length = q.rules.length
  rotate_left
  · have d3 : decide ((p.rules.length : Int) = (q.rules.length : Int)) = false := decide_eq_false (by omega)
    simp(maxSteps:=999999)(disch:=omega)only[go_sem,reduceAdd,reduceMul,reduceSub,reduceEqDiff,reduceLeDiff, d3]
    exact (decide_eq_false fun h => e3 (by rw [h])).symm
  have d3 : decide ((p.rules.length : Int) = (q.rules.length : Int)) = true := decide_eq_true (by omega)
  simp(maxSteps:=999999)(disch:=omega)only[go_sem,reduceAdd,reduceMul,reduceSub,reduceEqDiff,reduceLeDiff, d3]
  refine loop_rule (fun i : Nat => p.rules.length - i) (fun i => i ≤ p.rules.length ∧ ∀ j : Nat, j < i → nth p.rules j = nth q.rules j) (fun i => [.a, .a, .k, .k, .a, .p (int i), .a, .a, .a, .a, .a, .a, .a, .a, .a, .a, .a, .a, .a, .a, .a, .a, .a, .a, .a, .a, .a, .a, .a, .a, .a, .a, .a, .a, .a, .a, .a, .a, .a, .a, .a, .a, .a, .a, .a, .a, .a, .a, .a, .a, .a, .a, .a, .a, .a, .a, .a, .a, .a, .a, .a, .a, .a, .a, .a, .a, .a, .a, .a, .a, .a, .a, .a, .a, .a, .a, .a, .a, .a]) (fun i => [some ⟨ga, 1, cP p⟩, some ⟨gb, 1, cP q⟩]) 0 ⟨Nat.zero_le _, fun j hj => absurd hj (Nat.not_lt_zero _)⟩ (by simp(maxSteps:=999999)(disch:=omega)only[go_sem,reduceAdd,reduceMul,reduceSub,reduceEqDiff,reduceLeDiff]; rfl) (HLe.refl _) ?_
  rintro i ⟨hi, hall⟩
  simp(maxSteps:=999999)(disch:=omega)only[go_sem,reduceAdd,reduceMul,reduceSub,reduceEqDiff,reduceLeDiff]
  ((first|(with_reducible first|refine condK_dec ?_ ?_|refine condK_ndec ?_ ?_|refine condK_nb ?_ ?_)|refine condK_b ?_ ?_) <;> intro h)
  · have h : i < p.rules.length := by omega
    have hq : i < q.rules.length := by omega
    have hcl := hrs _ (nth_mem (xs := p.rules) (i := i) h)
    obtain ⟨r, hr⟩ : ∃ r, r = nth p.rules (i : Int) := ⟨_, rfl⟩
    obtain ⟨s, hs⟩ : ∃ s, s = nth q.rules (i : Int) := ⟨_, rfl⟩
    have no : r ≠ s → p ≠ q := fun hne he => hne (by rw [hr, hs, he])
    rw [← hr] at hcl
    simp(maxSteps:=999999)(disch:=omega)only[go_sem,reduceAdd,reduceMul,reduceSub,reduceEqDiff,reduceLeDiff]
    refine drawP_q foll (by kernel_rfl) ?_
    simp(maxSteps:=999999)(disch:=omega)only[go_sem,Nat.reduceBEq,Bool.true_or,reduceAdd,reduceMul,reduceSub,reduceEqDiff,reduceLeDiff]
    simp(maxSteps:=999999)(disch:=omega)only[go_sem,reduceAdd,reduceMul,reduceSub,reduceEqDiff,reduceLeDiff, ← hr, ← hs]
    by_cases f1 : r.kind = s.kind
    rotate_left
    · have d1 : decide (r.kind = s.kind) = false := decide_eq_false f1
      simp(maxSteps:=999999)(disch:=omega)only[go_sem,reduceAdd,reduceMul,reduceSub,reduceEqDiff,reduceLeDiff, d1]
      exact (decide_eq_false (no fun he => f1 (by rw [he]))).symm
    have d1 : decide (r.kind = s.kind) = true := decide_eq_true f1
    simp(maxSteps:=999999)(disch:=omega)only[go_sem,reduceAdd,reduceMul,reduceSub,reduceEqDiff,reduceLeDiff, d1, ← hr, ← hs]
    by_cases f2 : r.val = s.val
    rotate_left
    · have d1 : decide (r.val = s.val) = false := decide_eq_false f2
      simp(maxSteps:=999999)(disch:=omega)only[go_sem,reduceAdd,reduceMul,reduceSub,reduceEqDiff,reduceLeDiff, d1]
      exact (decide_eq_false (no fun he => f2 (by rw [he]))).symm
    have d1 : decide (r.val = s.val) = true := decide_eq_true f2
    simp(maxSteps:=999999)(disch:=omega)only[go_sem,reduceAdd,reduceMul,reduceSub,reduceEqDiff,reduceLeDiff, d1, ← hr, ← hs]
    refine quietW.rd (sameIntsF_run r.cells s.cells (by omega)) (⟨_, Try.func18, rfl, rfl⟩ : Enters Try.prog 18) rfl rfl rfl rfl ?_
    simp(maxSteps:=999999)(disch:=omega)only[go_sem,reduceAdd,reduceMul,reduceSub,reduceEqDiff,reduceLeDiff]
    by_cases f3 : r.cells = s.cells
    rotate_left
    · have d1 : decide (r.cells = s.cells) = false := decide_eq_false f3
      simp(maxSteps:=999999)(disch:=omega)only[go_sem,reduceAdd,reduceMul,reduceSub,reduceEqDiff,reduceLeDiff, d1]
      exact (decide_eq_false (no fun he => f3 (by rw [he]))).symm
    have d1 : decide (r.cells = s.cells) = true := decide_eq_true f3
    simp(maxSteps:=999999)(disch:=omega)only[go_sem,reduceAdd,reduceMul,reduceSub,reduceEqDiff,reduceLeDiff, d1]
    refine ⟨i + 1, ⟨⟨by omega, fun j hj => ?_⟩, by omega⟩, by push_cast; omega, HLe.refl _⟩
    rcases Nat.lt_succ_iff_lt_or_eq.1 hj with hj | rfl
    · exact hall j hj
    · rw [← hr, ← hs]; exact rul_ext f1 f2 f3
  · simp(maxSteps:=999999)(disch:=omega)only[go_sem,reduceAdd,reduceMul,reduceSub,reduceEqDiff,reduceLeDiff]
    refine (decide_eq_true ?_).symm
    have e4 : p.rules = q.rules := ext_nth e3 fun j hj => hall j (by omega)
    cases p; cases q; simp_all
theorem sameGame_run (a b : Gam) (hx : smG a) : Reads Try.prog 6 [aG a, aG b] (bool (decide (a = b))) := by
  obtain ⟨h1, h2, h3⟩ := hx
  refine RunCall.cw (c := _) Try.func6 rfl (n := 24) Try.ntmps6 (rs := [.tmp 4]) rfl ?_
  simp only[List.length_cons,List.length_nil,reduceAdd,reduceSub,List.replicate,List.cons_append,List.nil_append]
  simp(maxSteps:=999999)(disch:=omega)only[go_sem,reduceAdd,reduceMul,reduceSub,reduceEqDiff,reduceLeDiff]
  intro ga gb
  first | refine OpS.rd (samePuzzle_run a.task b.task h1) (⟨_, Try.func17, rfl, rfl⟩ : Enters Try.prog 17) rfl rfl rfl rfl ?_ | refine Loud.rd (samePuzzle_run a.task b.task h1) (⟨_, Try.func17, rfl, rfl⟩ : Enters Try.prog 17) rfl rfl rfl rfl ?_
  simp(maxSteps:=999999)(disch:=omega)only[go_sem,reduceAdd,reduceMul,reduceSub,reduceEqDiff,reduceLeDiff]
  by_cases e1 : a.task = b.task
  rotate_left
  · have d1 : decide (a.task = b.task) = false := decide_eq_false e1
    simp(maxSteps:=999999)(disch:=omega)only[go_sem,reduceAdd,reduceMul,reduceSub,reduceEqDiff,reduceLeDiff, d1]
    exact (decide_eq_false fun h => e1 (by rw [h])).symm
  have d1 : decide (a.task = b.task) = true := decide_eq_true e1
  simp(maxSteps:=999999)(disch:=omega)only[go_sem,reduceAdd,reduceMul,reduceSub,reduceEqDiff,reduceLeDiff, d1]
  first | refine OpS.rd (sameIntsF_run a.put b.put h2) (⟨_, Try.func18, rfl, rfl⟩ : Enters Try.prog 18) rfl rfl rfl rfl ?_ | refine Loud.rd (sameIntsF_run a.put b.put h2) (⟨_, Try.func18, rfl, rfl⟩ : Enters Try.prog 18) rfl rfl rfl rfl ?_
  simp(maxSteps:=999999)(disch:=omega)only[go_sem,reduceAdd,reduceMul,reduceSub,reduceEqDiff,reduceLeDiff]
  by_cases e2 : a.put = b.put
  rotate_left
  · have d2 : decide (a.put = b.put) = false := decide_eq_false e2
    simp(maxSteps:=999999)(disch:=omega)only[go_sem,reduceAdd,reduceMul,reduceSub,reduceEqDiff,reduceLeDiff, d2]
    exact (decide_eq_false fun h => e2 (by rw [h])).symm
  have d2 : decide (a.put = b.put) = true := decide_eq_true e2
  simp(maxSteps:=999999)(disch:=omega)only[go_sem,reduceAdd,reduceMul,reduceSub,reduceEqDiff,reduceLeDiff, d2]
  first | refine OpS.rd (sameIntsF_run a.moves b.moves h3) (⟨_, Try.func18, rfl, rfl⟩ : Enters Try.prog 18) rfl rfl rfl rfl ?_ | refine Loud.rd (sameIntsF_run a.moves b.moves h3) (⟨_, Try.func18, rfl, rfl⟩ : Enters Try.prog 18) rfl rfl rfl rfl ?_
  simp(maxSteps:=999999)(disch:=omega)only[go_sem,reduceAdd,reduceMul,reduceSub,reduceEqDiff,reduceLeDiff]
  rw [decide_eq_decide]
  constructor
  · intro h; cases a; cases b; simp_all
  · intro h; rw [h]
end Go.Lg

namespace Go.Lg
open Go.Proofs
section
variable {P : Program} {ops : Array Oper} {o : Oper} {s : List AV} {H : Heap} {K : KV} {fo : Operand} {xs : Array Operand} {ts : Array TypeId} {f : FuncId} {args args' : List AV} {zs : List Int}
theorem Loud.mkP {p : Puz} (hc : RunCall P f args [] (puzQ p)) (he : Enters P f) (ho : o.op = .call ⟨.value fo, xs, ts⟩) (ha : callArgs ⟨s, H⟩ fo xs = some (f, args)) (hf : args.all frozenA = true)
    (hk : ∀ cs H' S, OwnP (H ++ H') cs p S → (∀ i ∈ S, H.length ≤ i ∧ i < H.length + H'.length) → K (.agg cs) (H ++ H')) : Loud P ops o s H K :=
  Loud.call ho ha fun s' ha' => OpS.mkP hc he ho ha' hf hk
end
theorem VA.wk3 {w : World} {X : Cx} {H : Heap} {a b : CV} {u : Value} (h : VA w X H (.agg [a, b, .f .nil]) u) : VA w X H (.agg [a, b, .f (.sl 0 [])]) u := by
  cases h with
  | agg cs vs hs h =>
    refine .agg _ vs hs fun j hj => ?_
    obtain ⟨x, h1, h2⟩ := h j hj
    refine ⟨x, h1, ?_⟩
    rcases j with _ | _ | _ | j
    · exact h2
    · exact h2
    · have h2 : VF w X.I .nil x := h2
      cases h2
      exact VF.sl0 none 0
    · simp at hj; omega
theorem cons2 {a b : Option Blk} {L : Heap} {k : Nat} (h : 2 ≤ k) : (a :: b :: L)[k]? = L[k - 2]? := by
  obtain ⟨n, rfl⟩ : ∃ n, k = n + 2 := ⟨k - 2, by omega⟩
  rfl
theorem nodup4 {S1 S2 S3 S4 : List Nat} {n1 n2 : Nat} (h12 : (S1 ++ S2).Nodup) (h3 : S3.Nodup) (h4 : S4.Nodup) (k12 : ∀ i ∈ S1 ++ S2, i < n1) (k3 : ∀ i ∈ S3, n1 ≤ i ∧ i < n2) (k4 : ∀ i ∈ S4, n2 ≤ i) (hn : n1 ≤ n2) : (S1 ++ (S2 ++ (S3 ++ S4))).Nodup := by
  rw [← List.append_assoc, List.nodup_append]
  refine ⟨h12, ?_, fun a ha b hb he => ?_⟩
  · rw [List.nodup_append]
    refine ⟨h3, h4, fun a ha b hb he => ?_⟩
    have := k3 a ha; have := k4 b hb; omega
  · have := k12 a ha
    rcases List.mem_append.1 hb with hb | hb
    · have := k3 b hb; omega
    · have := k4 b hb
      omega
theorem copyPuzzle_puz (p : Puz) (hx : smP p) : RunCall Try.prog 16 [aP p] [] (puzQ p) := by
  refine (copyPuzzle_own p hx).wk ?_
  rintro v H' ⟨c, r, S1, S2, rfl, h1, h2, h3⟩
  rcases h2 with ⟨rfl, h4, rfl⟩ | h2
  · refine ⟨.agg [.f (.int .i64 p.size), c, .f (.sl 0 [])], fun w X u h => ?_, _, _, rfl, ⟨_, _, S1, [], rfl, rfl, h1, by rw [h4]; exact .e⟩, h3⟩
    exact h.wk3
  · exact ⟨_, fun _ _ _ h => h, _, _, rfl, ⟨_, _, S1, S2, rfl, rfl, h1, h2⟩, h3⟩
end Go.Lg

namespace Go.Lg
open Go.Proofs
def wkC : CV → CV
  | .f .nil => .f (.sl 0 [])
  | c => c
theorem VC.wk {w : World} {X : Cx} {H : Heap} {c : CV} {v : Value} (h : VC w X H c v) : VC w X H (wkC c) v := by
  unfold wkC
  split
  · have h : VF w X.I .nil v := h
    cases h
    exact VF.sl0 none 0
  · exact h
theorem VA.wkAgg {w : World} {X : Cx} {H : Heap} {cs : List CV} {u : Value} (h : VA w X H (.agg cs) u) : VA w X H (.agg (cs.map wkC)) u := by
  cases h with
  | agg _ vs hs h =>
    refine .agg _ vs (by simpa using hs) fun j hj => ?_
    obtain ⟨x, h1, h2⟩ := h j (by simpa using hj)
    refine ⟨x, h1, ?_⟩
    rw [List.getElem_map]
    exact h2.wk
theorem OwnI.wkc {H : Heap} {c : CV} {xs : List Int} {S : List Nat} (h : OwnI H c xs S) : wkC c = c := by cases h <;> rfl
theorem OwnR.wkc {H : Heap} {c : CV} {xs : List Rul} {S : List Nat} (h : OwnR H c xs S) : wkC c = c := by cases h <;> rfl
def gamQ0 (q : Gam) : KV := fun v H => ∃ cs S, v = .agg cs ∧ OwnG H (cs.map wkC) q S
theorem RunCall.gam {P : Program} {f : FuncId} {args : List AV} {H : Heap} {q : Gam} (h : RunCall P f args H (gamQ0 q)) : RunCall P f args H (gamQ q) :=
  h.wk fun v H' ⟨cs, S, h1, h2⟩ => ⟨_, fun w X u hu => by subst h1; exact hu.wkAgg, _, S, rfl, h2⟩
def gameOf (p : Puz) : Gam := if puzzleValid p = true then ⟨p, List.replicate p.given.length 0, []⟩ else ⟨⟨0, [], []⟩, [], []⟩
theorem GameOf_own (p : Puz) (hx : smP p) : RunCall Try.prog 5 [aP p] [] (gamQ (gameOf p)) := by
  refine RunCall.gam ?_
  have hg := hx.1
  refine RunCall.cw (c := _) Try.func5 rfl (n := 14) Try.ntmps5 (rs := [.cell 2 29]) rfl ?_
  simp only[List.length_cons,List.length_nil,reduceAdd,reduceSub,List.replicate,List.cons_append,List.nil_append]
  simp(maxSteps:=999999)(disch:=omega)only[go_sem,reduceAdd,reduceMul,reduceSub,reduceEqDiff,reduceLeDiff]
  intro g1 g2
  refine OpS.rd (PuzzleValid_run p hx) (⟨_, Try.func15, rfl, rfl⟩ : Enters Try.prog 15) rfl rfl rfl rfl ?_
  simp(maxSteps:=999999)(disch:=omega)only[go_sem,reduceAdd,reduceMul,reduceSub,reduceEqDiff,reduceLeDiff]
  ((first|(with_reducible first|refine condK_dec ?_ ?_|refine condK_ndec ?_ ?_|refine condK_nb ?_ ?_)|refine condK_b ?_ ?_) <;> intro h)
  · simp(maxSteps:=999999)(disch:=omega)only[go_sem,reduceAdd,reduceMul,reduceSub,reduceEqDiff,reduceLeDiff]
    refine drawP_lF [0, 2, 3, 4, 5, 1] [] (some 5) [6, 7] [] foll (by kernel_rfl) ?_
    simp(maxSteps:=999999)(disch:=omega)only[go_sem,Nat.reduceBEq,Bool.true_or,reduceAdd,reduceMul,reduceSub,reduceEqDiff,reduceLeDiff]
    refine Loud.mkP (copyPuzzle_puz p hx) (⟨_, Try.func16, rfl, rfl⟩ : Enters Try.prog 16) rfl rfl rfl ?_
    rintro _ H1 _ ⟨⟨c1, c2, S1, S2, rfl, rfl, k1, k2⟩, kn⟩ hS
    simp(maxSteps:=999999)(disch:=omega)only[go_sem,reduceAdd,reduceMul,reduceSub,reduceEqDiff,reduceLeDiff]
    intro g
    simp only [List.length_append, List.length_cons, List.length_nil] at hS
    have hz : OwnI (some ⟨g1, 1, cP p⟩ :: some ⟨g2, 5, [.f (.int .i64 p.size), c1, c2, .own (H1.length + 1 + 1) g 0 p.given.length none, .f .nil]⟩ :: (H1 ++ [some ⟨g, 1, cl (eI .i64) (List.replicate p.given.length 0)⟩]))
        (.own (H1.length + 1 + 1) g 0 p.given.length none) (List.replicate p.given.length 0) [H1.length + 1 + 1] := by
      have := OwnI.o (H := some ⟨g1, 1, cP p⟩ :: some ⟨g2, 5, [.f (.int .i64 p.size), c1, c2, .own (H1.length + 1 + 1) g 0 p.given.length none, .f .nil]⟩ :: (H1 ++ [some ⟨g, 1, cl (eI .i64) (List.replicate p.given.length 0)⟩])) (H1.length + 1 + 1) g none (List.replicate p.given.length 0) [] (by rw [List.append_nil]; exact look_of (b := ⟨g, 1, cl (eI .i64) (List.replicate p.given.length 0)⟩) (by simp))
      rw [List.length_replicate] at this
      exact this
    refine ⟨_, HLe.refl _, _, S1 ++ (S2 ++ ([H1.length + 1 + 1] ++ [])), rfl, ?_⟩
    unfold gameOf
    rw [if_pos h]
    simp only [List.map_cons, List.map_nil, k1.wkc, k2.wkc, hz.wkc]
    refine OwnG.of (p := p) (S1 := S1) (S2 := S2) ⟨⟨_, _, _, _, rfl, rfl, k1.same fun k hk => ?_, k2.same fun k hk => ?_⟩, kn⟩ hz .e (nodup4 (n1 := H1.length + 2) (n2 := H1.length + 3) kn (by simp) (by simp) (fun k hk => ?_) (fun k hk => ?_) (by simp) (by omega))
    · have := hS k (by simp [hk])
      simp only [List.cons_append, List.nil_append]
      rw [cons2 (by omega), cons2 (by omega), List.getElem?_append_left (by omega)]
    · have := hS k (by simp [hk])
      simp only [List.cons_append, List.nil_append]
      rw [cons2 (by omega), cons2 (by omega), List.getElem?_append_left (by omega)]
    · have := hS k hk; omega
    · simp at hk; omega
  · simp(maxSteps:=999999)(disch:=omega)only[go_sem,reduceAdd,reduceMul,reduceSub,reduceEqDiff,reduceLeDiff]
    refine ⟨_, HLe.refl _, _, [], rfl, ?_⟩
    unfold gameOf
    rw [if_neg (by rw [h]; simp)]
    exact ⟨⟨_, _, _, _, [], [], [], [], rfl, rfl, .e, .e, .e, .e⟩, by simp⟩
end Go.Lg
