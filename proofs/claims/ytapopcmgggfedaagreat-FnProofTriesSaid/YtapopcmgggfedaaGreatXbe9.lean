/- GpQC, GpTJ, GpTK, cut to what is needed. -/
import Derived.Test.YtapopcmgggfedaaGreatXbe8
import Derived.Test.YtapopcmgggfedaaGreatXbe4
import Derived.Test.YtapopcmgggfedaaGreatXbe3
import Derived.Test.YtapopcmgggfedaaGreatXbb4
import Derived.Test.YtapopcmgggfedaaGreatXbc6
import Derived.Test.YtapopcmgggfedaaGreatXbb3
import Derived.Test.YtapopcmgggfedaaGreatXbb9
open Nat renaming reduceAdd → zA, reduceMul → zM, reduceSub → zS, reduceEqDiff → zE, reduceLeDiff → zL
set_option linter.unusedSimpArgs false
set_option linter.unusedVariables false
set_option maxRecDepth 100000
namespace Go.Lg
open Go.Proofs
theorem sole_iff {p : Puz} {n : Nat} (hp : PuzN p n) (hg : GrdN p.given n) (most : Nat) : gridFilled (nats (onlyL (nallV p most (startM p)))) p.size = ((nallV p most (startM p)).length : Int) ↔ soleB p most = true := by
  have hz : p.size.toNat = n := by rw [hp.size]; rfl
  have hm := (nallF_ok (p := p) (most := most) 500 _ (startM_ok hp hg)).1
  have hx := onlyL_grd hp.hn hm
  have hv := hx.valid hp.hn
  rw [← hp.size] at hv
  have hl : (nats (onlyL (nallV p most (startM p)))).length = (nallV p most (startM p)).length := by rw [nats_len, onlyL_len]
  unfold gridFilled
  have hv' : gridValid (nats (onlyL (nallV p most (startM p)))) p.size = true := hv
  rw [if_pos hv', ← hl]
  have e : (((nats (onlyL (nallV p most (startM p)))).countP fun v => decide (0 < v) : Nat) : Int) = ((nats (onlyL (nallV p most (startM p)))).length : Int) ↔ ((nats (onlyL (nallV p most (startM p)))).countP fun v => decide (0 < v)) = (nats (onlyL (nallV p most (startM p)))).length := by omega
  rw [e, count_all]
  have hlen : (nallV p most (startM p)).length = n * n := hm.len
  unfold soleB
  rw [hz, decide_eq_true_eq]
  constructor
  · intro h i hi
    have hi' : i < (nats (onlyL (nallV p most (startM p)))).length := by rw [hl, hlen]; exact hi
    have h1 := of_decide_eq_true (h _ (List.getElem_mem hi'))
    have e2 := nth_nats (onlyL (nallV p most (startM p))) i
    rw [nth_eq (by omega), onlyL_at] at e2
    have e3 : (nats (onlyL (nallV p most (startM p))))[i] = ((onlyV (mAt (nallV p most (startM p)) i) : Nat) : Int) := e2
    rw [e3] at h1
    omega
  · intro h x hx2
    obtain ⟨i, hi, rfl⟩ := List.getElem_of_mem hx2
    have h1 := h i (by rw [hl, hlen] at hi; exact hi)
    have e2 := nth_nats (onlyL (nallV p most (startM p))) i
    rw [nth_eq (by omega), onlyL_at] at e2
    have e3 : (nats (onlyL (nallV p most (startM p))))[i] = ((onlyV (mAt (nallV p most (startM p)) i) : Nat) : Int) := e2
    rw [e3]
    exact decide_eq_true (by omega)
theorem one_two (p : Puz) (hv : puzzleValid p = true) : (countV p 2 = 1) ↔ (allL p).length = 1 := by
  unfold countV
  rw [if_pos ⟨hv, by omega, by omega⟩]
  have : (2 : Int).toNat = 2 := rfl
  rw [this, allS_take, List.length_take]
  omega
theorem grade_at {p : Puz} (hv : puzzleValid p = true) (h1 : (allL p).length = 1) {t : Nat} (ht : 1 ≤ t ∧ t ≤ 4) (h : soleB p t = true) (hlt : ∀ u, 1 ≤ u → u < t → soleB p u = false) : gradeV p = t := by
  unfold gradeV
  rw [if_pos hv, if_pos h1]
  have : ((List.range 4).map (· + 1)).find? (soleB p) = some t := by
    rw [List.find?_eq_some_iff_getElem]
    refine ⟨h, t - 1, by simp; omega, by simp; omega, fun j hj => ?_⟩
    simp only [List.getElem_map, List.getElem_range, Bool.not_eq_true']
    exact hlt _ (by omega) (by omega)
  rw [this]
  rfl
theorem grade_five {p : Puz} (hv : puzzleValid p = true) (h1 : (allL p).length = 1) (h : ∀ u, 1 ≤ u → u < 5 → soleB p u = false) : gradeV p = 5 := by
  unfold gradeV
  rw [if_pos hv, if_pos h1]
  have : ((List.range 4).map (· + 1)).find? (soleB p) = none := by
    rw [List.find?_eq_none]
    intro t ht
    obtain ⟨j, hj, rfl⟩ := List.mem_map.1 ht
    have := List.mem_range.1 hj
    rw [h _ (by omega) (by omega)]
    simp
  rw [this]
  rfl
theorem nextRoundT_run {p : Puz} {n : Nat} (hp : PuzN p n) (hv : puzzleValid p = true) (ms : List Nat) (hm : MsN ms n) (most : Nat) (hmo : 1 ≤ most ∧ most ≤ 4) : Reads Tryz.prog 32 [aP p, ints (nats ms), int most] (.tup [ints (if nextT p most ms = 0 then [] else nats (narM p (nextT p most ms) ms)), int (nextT p most ms)]) := by
  have hsq : n * n ≤ 16 := by rcases hp.hn with rfl | rfl | rfl <;> omega
  have hl := hm.len
  refine Reads.ice (Q := fun v H' => frzA H' v = some (.tup [ints (if nextT p most ms = 0 then [] else nats (narM p (nextT p most ms) ms)), int (nextT p most ms)])) ?_ (fun r H' h => h)
  refine RunCall.cw (c := _) Tryz.func32 rfl (n := 25) Tryz.ntmps32 (rs := [.tmp 6, .tmp 7]) rfl ?_
  simp only[List.length_cons,List.length_nil,zA,zS,List.replicate,List.cons_append,List.nil_append]
  simp(maxSteps:=999999)(disch:=omega)only[go_sem,zA,zM,zS,zE,zL]
  intro g
  refine loop_rule (fun t : Nat => 5 - t) (fun t => 1 ≤ t ∧ t ≤ most + 1 ∧ ∀ u, 1 ≤ u → u < t → narM p u ms = ms) (fun t => [.a, .k, .k, .k, .a, .a, .a, .a, .p (int t), .a, .a, .a, .a, .a, .a, .a, .a, .a, .a, .a, .a, .a, .a, .a, .a]) (fun _ => [some ⟨g, 1, cP p⟩]) 1 ⟨by omega, by omega, fun u h1 h2 => by omega⟩ (by simp(maxSteps:=999999)(disch:=omega)only[go_sem,zA,zM,zS,zE,zL]; rfl) (HLe.refl _) ?_
  rintro t ⟨ht1, ht2, hall⟩
  simp(maxSteps:=999999)(disch:=omega)only[go_sem,zA,zM,zS,zE,zL]
  ((first|(with_reducible first|refine condK_dec ?_ ?_|refine condK_ndec ?_ ?_|refine condK_nb ?_ ?_)|refine condK_b ?_ ?_) <;> intro h1)
  · have h1 : t ≤ most := by omega
    simp(maxSteps:=999999)(disch:=omega)only[go_sem,zA,zM,zS,zE,zL]
    first | refine OpS.mk (NarrowBy_run hp hv ms hm t ⟨ht1, by omega⟩) (⟨_, Tryz.func54, rfl, rfl⟩ : Enters Tryz.prog 54) rfl rfl rfl rfl rfl ?_ | refine Loud.mk (NarrowBy_run hp hv ms hm t ⟨ht1, by omega⟩) (⟨_, Tryz.func54, rfl, rfl⟩ : Enters Tryz.prog 54) rfl rfl rfl rfl rfl ?_
    simp(maxSteps:=999999)(disch:=omega)only[go_sem,zA,zM,zS,zE,zL]
    have hnl := (narM_ok (p := p) (t := t) hm).len
    first | refine OpS.rd (Equal_run (nats (narM p t ms)) (nats ms) (by rw [nats_len]; omega)) (⟨_, Tryz.func55, rfl, rfl⟩ : Enters Tryz.prog 55) rfl rfl rfl rfl ?_ | refine Loud.rd (Equal_run (nats (narM p t ms)) (nats ms) (by rw [nats_len]; omega)) (⟨_, Tryz.func55, rfl, rfl⟩ : Enters Tryz.prog 55) rfl rfl rfl rfl ?_
    simp(maxSteps:=999999)(disch:=omega)only[go_sem,zA,zM,zS,zE,zL]
    ((first|(with_reducible first|refine condK_dec ?_ ?_|refine condK_ndec ?_ ?_|refine condK_nb ?_ ?_)|refine condK_b ?_ ?_) <;> intro h2)
    · have h2 : narM p t ms = ms := nats_inj.1 h2
      simp(maxSteps:=999999)(disch:=omega)only[go_sem,zA,zM,zS,zE,zL]
      exact ⟨t + 1, ⟨⟨by omega, by omega, fun u u1 u2 => by
        by_cases hut : u = t
        · rw [hut]; exact h2
        · exact hall u u1 (by omega)⟩, by omega⟩, by push_cast; rfl, HLe.refl _⟩
    · have h2 : narM p t ms ≠ ms := fun h => h2 (by rw [h])
      have e := nextT_is ht1 h1 hall h2
      rw [e, if_neg (by omega)]
      simp(maxSteps:=999999)(disch:=omega)only[go_sem,zA,zM,zS,zE,zL]
      exact ⟨_, HLe.refl _, rfl⟩
  · have hte : t = most + 1 := by omega
    have e := nextT_no (p := p) (most := most) (ms := ms) fun u u1 u2 => hall u u1 (by omega)
    rw [e, if_pos rfl]
    simp(maxSteps:=999999)(disch:=omega)only[go_sem,zA,zM,zS,zE,zL]
    exact ⟨_, HLe.refl _, rfl⟩
theorem NarrowAll_run {p : Puz} {n : Nat} (hp : PuzN p n) (hv : puzzleValid p = true) (ms : List Nat) (hm : MsN ms n) (most : Nat) (hmo : 1 ≤ most ∧ most ≤ 4) : Reads Tryz.prog 17 [aP p, ints (nats ms), int most] (.tup [ints (nats (nallF p most 500 ms).1), int (nallF p most 500 ms).2]) := by
  have hsq : 4 ≤ n * n ∧ n * n ≤ 16 := by rcases hp.hn with rfl | rfl | rfl <;> omega
  have hl : (nats ms).length = n * n := by rw [nats_len]; exact hm.len
  have hsum := hm.sum hp.hn
  have hmv := MasksValid_run hp.hn ms hm
  rw [← hp.size] at hmv
  have hcl := Reads.own (Clone_q (nats ms) (by omega) (fun h => by rw [h] at hl; simp at hl; omega))
  refine RunCall.cw (c := _) Tryz.func17 rfl (n := 46) Tryz.ntmps17 (rs := [.tmp 6, .tmp 7]) rfl ?_
  simp only[List.length_cons,List.length_nil,zA,zS,List.replicate,List.cons_append,List.nil_append]
  simp(maxSteps:=999999)(disch:=omega)only[go_sem,zA,zM,zS,zE,zL]
  intro g
  first | refine OpS.rd (PuzzleValid_run p hp.sm) (⟨_, Tryz.func15, rfl, rfl⟩ : Enters Tryz.prog 15) rfl rfl rfl rfl ?_ | refine Loud.rd (PuzzleValid_run p hp.sm) (⟨_, Tryz.func15, rfl, rfl⟩ : Enters Tryz.prog 15) rfl rfl rfl rfl ?_
  simp(maxSteps:=999999)(disch:=omega)only[go_sem,zA,zM,zS,zE,zL]
  rw [hv]
  simp(maxSteps:=999999)(disch:=omega)only[go_sem,zA,zM,zS,zE,zL]
  first | refine OpS.rd (hmv) (⟨_, Tryz.func30, rfl, rfl⟩ : Enters Tryz.prog 30) rfl rfl rfl rfl ?_ | refine Loud.rd (hmv) (⟨_, Tryz.func30, rfl, rfl⟩ : Enters Tryz.prog 30) rfl rfl rfl rfl ?_
  simp(maxSteps:=999999)(disch:=omega)only[go_sem,zA,zM,zS,zE,zL]
  have hCle := (nallF_ok (p := p) (most := most) 500 ms hm).2
  obtain ⟨R, hR⟩ : ∃ R, R = (nallF p most 500 ms).1 := ⟨_, rfl⟩
  obtain ⟨C, hC⟩ : ∃ C, C = (nallF p most 500 ms).2 := ⟨_, rfl⟩
  rw [← hC] at hCle
  rw [← hR, ← hC]
  simp (maxSteps := 1000000) (disch := omega) only [go_sem, lt_no, lt_yes, le_no, le_yes, eq_no, eq_yes, Nat.reduceAdd, Nat.reduceMul, Nat.reduceSub, Nat.reduceEqDiff, Nat.reduceLeDiff]
  first | refine OpS.mk (hcl) (⟨_, Tryz.func31, rfl, rfl⟩ : Enters Tryz.prog 31) rfl rfl rfl rfl rfl ?_ | refine Loud.mk (hcl) (⟨_, Tryz.func31, rfl, rfl⟩ : Enters Tryz.prog 31) rfl rfl rfl rfl rfl ?_
  simp(maxSteps:=999999)(disch:=omega)only[go_sem,zA,zM,zS,zE,zL]
  refine loop_rule2 (fun (f : Nat) (b : List Nat × Nat) => f) (fun f b => MsN b.1 n ∧ b.1.sum < f ∧ (nallF p most f b.1).1 = R ∧ b.2 + (nallF p most f b.1).2 = C) (fun f b => [.a, .a, .k, .k, .a, .a, .a, .a, .p (ints (nats b.1)), .p (int b.2), .a, .a, .a, .a, .a, .a, .a, .a, .a, .a, .a, .a, .a, .a, .a, .a, .a, .a, .a, .a, .a, .a, .a, .a, .a, .a, .a, .a, .a, .a, .a, .a, .a, .a, .a, .a]) (fun _ _ => [some ⟨g, 1, cP p⟩]) 500 (ms, 0) ⟨hm, by show ms.sum < 500; omega, hR.symm, by show 0 + (nallF p most 500 ms).2 = C; omega⟩ (by simp(maxSteps:=999999)(disch:=omega)only[go_sem,zA,zM,zS,zE,zL]; rfl) (HLe.refl _) ?_
  rintro f ⟨ns, c⟩ ⟨k1, k2, k3, k4⟩
  simp only at k1 k2 k3 k4 ⊢
  obtain ⟨f, rfl⟩ : ∃ f', f = f' + 1 := ⟨f - 1, by omega⟩
  simp(maxSteps:=999999)(disch:=omega)only[go_sem,zA,zM,zS,zE,zL]
  first | refine OpS.mk (nextRoundT_run hp hv ns k1 most hmo) (⟨_, Tryz.func32, rfl, rfl⟩ : Enters Tryz.prog 32) rfl rfl rfl rfl rfl ?_ | refine Loud.mk (nextRoundT_run hp hv ns k1 most hmo) (⟨_, Tryz.func32, rfl, rfl⟩ : Enters Tryz.prog 32) rfl rfl rfl rfl rfl ?_
  simp(maxSteps:=999999)(disch:=omega)only[go_sem,zA,zM,zS,zE,zL]
  by_cases hz : nextT p most ns = 0
  · rw [nallF_stop hz] at k3 k4
    have d0 : decide (((nextT p most ns : Nat) : Int) = 0) = true := decide_eq_true (by omega)
    simp only at k3 k4
    simp(maxSteps:=999999)(disch:=omega)only[go_sem,zA,zM,zS,zE,zL, d0]
    rw [k3, show c = C by omega]
  · rw [nallF_step hz] at k3 k4
    simp only at k3 k4
    have hlt := narM_sum k1 ((nextT_le p most ns).2 hz)
    have d0 : decide (((nextT p most ns : Nat) : Int) = 0) = false := decide_eq_false (by omega)
    rw [if_neg hz]
    simp(maxSteps:=999999)(disch:=omega)only[go_sem,zA,zM,zS,zE,zL, d0]
    exact ⟨f, (narM p (nextT p most ns) ns, c + 1), ⟨⟨narM_ok k1, by show (narM p (nextT p most ns) ns).sum < f; omega, k3, by show c + 1 + (nallF p most f (narM p (nextT p most ns) ns)).2 = C; omega⟩, by omega⟩, by simp, HLe.refl _⟩
theorem GradePuzzle_run (p : Puz) (hx : smP p) : Reads Tryz.prog 8 [aP p] (int (gradeV p)) := by
  refine RunCall.cw (c := _) Tryz.func8 rfl (n := 35) Tryz.ntmps8 (rs := [.tmp 2]) rfl ?_
  simp only[List.length_cons,List.length_nil,zA,zS,List.replicate,List.cons_append,List.nil_append]
  simp(maxSteps:=999999)(disch:=omega)only[go_sem,zA,zM,zS,zE,zL]
  intro g
  first | refine OpS.rd (PuzzleValid_run p hx) (⟨_, Tryz.func15, rfl, rfl⟩ : Enters Tryz.prog 15) rfl rfl rfl rfl ?_ | refine Loud.rd (PuzzleValid_run p hx) (⟨_, Tryz.func15, rfl, rfl⟩ : Enters Tryz.prog 15) rfl rfl rfl rfl ?_
  simp(maxSteps:=999999)(disch:=omega)only[go_sem,zA,zM,zS,zE,zL]
  cases hv : puzzleValid p with
  | false =>
    have e : gradeV p = -1 := by unfold gradeV; rw [hv]; rfl
    rw [e]
    ((first|(with_reducible first|refine condK_dec ?_ ?_|refine condK_ndec ?_ ?_|refine condK_nb ?_ ?_)|refine condK_b ?_ ?_) <;> intro c0)
    · cases c0
    simp(maxSteps:=999999)(disch:=omega)only[go_sem,zA,zM,zS,zE,zL]
  | true =>
    ((first|(with_reducible first|refine condK_dec ?_ ?_|refine condK_ndec ?_ ?_|refine condK_nb ?_ ?_)|refine condK_b ?_ ?_) <;> intro c0)
    rotate_left
    · cases c0
    simp(maxSteps:=999999)(disch:=omega)only[go_sem,zA,zM,zS,zE,zL]
    first | refine OpS.rd (onlyOne_run p hx) (⟨_, Tryz.func16, rfl, rfl⟩ : Enters Tryz.prog 16) rfl rfl rfl rfl ?_ | refine Loud.rd (onlyOne_run p hx) (⟨_, Tryz.func16, rfl, rfl⟩ : Enters Tryz.prog 16) rfl rfl rfl rfl ?_
    simp(maxSteps:=999999)(disch:=omega)only[go_sem,zA,zM,zS,zE,zL]
    by_cases h1 : (allL p).length = 1
    rotate_left
    · have e : gradeV p = 0 := by unfold gradeV; rw [if_pos hv, if_neg h1]
      have d0 : decide (countV p 2 = 1) = false := decide_eq_false (fun h => h1 ((one_two p hv).1 h))
      rw [e]
      simp(maxSteps:=999999)(disch:=omega)only[go_sem,zA,zM,zS,zE,zL, d0]
    have d0 : decide (countV p 2 = 1) = true := decide_eq_true ((one_two p hv).2 h1)
    obtain ⟨hp, hg⟩ := puz_facts hv
    have hz := (PuzN.of hv).2
    simp(maxSteps:=999999)(disch:=omega)only[go_sem,zA,zM,zS,zE,zL, d0]
    refine loop_rule (fun t : Nat => 5 - t) (fun t => 1 ≤ t ∧ t ≤ 5 ∧ ∀ u, 1 ≤ u → u < t → soleB p u = false) (fun t => [.a, .k, .a, .p (int t), .a, .a, .a, .a, .a, .a, .a, .a, .a, .a, .a, .a, .a, .a, .a, .a, .a, .a, .a, .a, .a, .a, .a, .a, .a, .a, .a, .a, .a, .a, .a]) (fun _ => [some ⟨g, 1, cP p⟩]) 1 ⟨by omega, by omega, fun u u1 u2 => by omega⟩ (by simp(maxSteps:=999999)(disch:=omega)only[go_sem,zA,zM,zS,zE,zL]; rfl) (HLe.refl _) ?_
    rintro t ⟨t1, t5, hall⟩
    simp(maxSteps:=999999)(disch:=omega)only[go_sem,zA,zM,zS,zE,zL]
    ((first|(with_reducible first|refine condK_dec ?_ ?_|refine condK_ndec ?_ ?_|refine condK_nb ?_ ?_)|refine condK_b ?_ ?_) <;> intro c1)
    · have c1 : t ≤ 4 := by omega
      have hok := (nallF_ok (p := p) (most := t) 500 _ (startM_ok hp hg)).1
      have hmg := MasksGrid_run hp.hn (nallF p t 500 (startM p)).1 hok
      have hiff := sole_iff hp hg t
      unfold nallV at hiff
      rw [hz] at hmg
      simp(maxSteps:=999999)(disch:=omega)only[go_sem,zA,zM,zS,zE,zL]
      refine drawP_q foll (by kernel_rfl) ?_
      simp(maxSteps:=999999)(disch:=omega)only[go_sem,Nat.reduceBEq,Bool.true_or,zA,zM,zS,zE,zL]
      refine quietW.mk (StartMasks_run hp hv hg) (⟨_, Tryz.func18, rfl, rfl⟩ : Enters Tryz.prog 18) rfl rfl rfl rfl rfl ?_
      simp(maxSteps:=999999)(disch:=omega)only[go_sem,zA,zM,zS,zE,zL]
      refine quietW.mk (NarrowAll_run hp hv (startM p) (startM_ok hp hg) t ⟨t1, c1⟩) (⟨_, Tryz.func17, rfl, rfl⟩ : Enters Tryz.prog 17) rfl rfl rfl rfl rfl ?_
      simp(maxSteps:=999999)(disch:=omega)only[go_sem,zA,zM,zS,zE,zL]
      refine drawP_q foll (by kernel_rfl) ?_
      simp(maxSteps:=999999)(disch:=omega)only[go_sem,Nat.reduceBEq,Bool.true_or,zA,zM,zS,zE,zL]
      refine quietW.mk (hmg) (⟨_, Tryz.func19, rfl, rfl⟩ : Enters Tryz.prog 19) rfl rfl rfl rfl rfl ?_
      simp(maxSteps:=999999)(disch:=omega)only[go_sem,zA,zM,zS,zE,zL]
      have hlm : (nats (onlyL (nallF p t 500 (startM p)).1)).length ≤ 2 ^ 40 := by
        rw [nats_len, onlyL_len, hok.len]
        rcases hp.hn with e | e | e <;> rw [e] <;> omega
      refine quietW.rd (GridFilled_run (nats (onlyL (nallF p t 500 (startM p)).1)) p.size hlm) (⟨_, Tryz.func14, rfl, rfl⟩ : Enters Tryz.prog 14) rfl rfl rfl rfl ?_
      simp(maxSteps:=999999)(disch:=omega)only[go_sem,zA,zM,zS,zE,zL]
      rw [nats_len]
      ((first|(with_reducible first|refine condK_dec ?_ ?_|refine condK_ndec ?_ ?_|refine condK_nb ?_ ?_)|refine condK_b ?_ ?_) <;> intro c2)
      · rw [grade_at hv h1 ⟨t1, c1⟩ (hiff.1 c2) hall]
        simp(maxSteps:=999999)(disch:=omega)only[go_sem,zA,zM,zS,zE,zL]
      · have hb : soleB p t = false := by
          cases hb : soleB p t with
          | false => rfl
          | true => exact absurd (hiff.2 hb) c2
        simp(maxSteps:=999999)(disch:=omega)only[go_sem,zA,zM,zS,zE,zL]
        exact ⟨t + 1, ⟨⟨by omega, by omega, fun u u1 u2 => by
          by_cases hut : u = t
          · rw [hut]; exact hb
          · exact hall u u1 (by omega)⟩, by omega⟩, by push_cast; rfl, HLe.refl _⟩
    · have hte : t = 5 := by omega
      subst hte
      rw [grade_five hv h1 hall]
      simp(maxSteps:=999999)(disch:=omega)only[go_sem,zA,zM,zS,zE,zL]
end Go.Lg

namespace Go.Lg
open Go.Proofs
instance : HSzK cB 2 := ⟨fun _ => rfl⟩
end Go.Lg

namespace Go.Lg
open Go.Proofs
theorem mprQ_rd {P : Program} {f : FuncId} {args : List AV} {p : Puz} (h : RunCall P f args [] (mprQ p)) : Reads P f args (.tup [rsl eB (makeL p), bool (makeB p)]) :=
  Reads.ice h fun r H ⟨c, h1, h2, _⟩ => by
    subst h1
    have e : frzC H (.f (.bool (makeB p))) = some (.f (.bool (makeB p))) := rfl
    show (([_, _] : List AV).mapM (frz1 H)).map AV.tup = _
    simp only [List.mapM_cons, List.mapM_nil, frz1, h2.frzC, e, Option.bind_eq_bind, Option.pure_def, Option.bind_some, Option.map_some]
theorem OpS.mkMpr {P : Program} {o : Oper} {st : St} {K : KV} {fo : Operand} {ws : Array Operand} {ts : Array TypeId} {f : FuncId} {args args' : List AV} {p : Puz} (hc : RunCall P f args' [] (mprQ p)) (he : Enters P f) (ho : o.op = .call ⟨.value fo, ws, ts⟩) (ha : callArgs st fo ws = some (f, args)) (hs : args.mapM (snapD st.h) = some args')
    (hk : ∀ c H', OwnL eB 2 (st.h ++ H') c (makeL p) → (∀ i, idsC c i → st.h.length ≤ i ∧ i < st.h.length + H'.length) → c ≠ .emp → K (.tup [.c c, bool (makeB p)]) (st.h ++ H')) : OpS P o st K :=
  OpS.mkD hc he ho ha hs fun r H' ⟨c, h1, h2, h3, h4⟩ => by
    subst h1
    have hlt := h2.lt
    generalize hL : makeL p = L at h2 hk
    cases h2 with
    | n => exact ⟨⟨rfl, rfl, h3⟩, hk (.f .nil) _ .n (fun i h => h.elim) h4⟩
    | m => exact absurd rfl h4
    | o id g xs h =>
      refine ⟨⟨rfl, rfl, h3⟩, hk (.own (id + st.h.length) g 0 _ none) _ (OwnL.ofLook ?_ rfl) (fun i hi => ?_) (by intro h; cases h)⟩
      · rw [look_shiftH h]
        simp only [shiftB, shift_cl]
      · have hi : i = id + st.h.length := hi
        have := hlt id rfl
        rw [shiftH_length]
        omega
end Go.Lg
