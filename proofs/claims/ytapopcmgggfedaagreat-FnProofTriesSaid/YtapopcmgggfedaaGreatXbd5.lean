/- GpMI, GpMJ, GpQ, GpFC, cut to what is needed. -/
import Derived.Test.YtapopcmgggfedaaGreatXbd4
import Derived.Test.YtapopcmgggfedaaGreatXbc6
import Derived.Test.YtapopcmgggfedaaGreatXbc5
open Nat renaming reduceAdd → zA, reduceMul → zM, reduceSub → zS, reduceEqDiff → zE, reduceLeDiff → zL
set_option linter.unusedSimpArgs false
set_option linter.unusedVariables false
set_option maxRecDepth 100000
namespace Go.Lg
open Go.Proofs
set_option maxHeartbeats 4000000 in
theorem sNarrowRules_run {p : Puz} {n : Nat} (hp : PuzN p n) (hv : puzzleValid p = true) (ms : List Nat) (hm : MsN ms n) : Reads Tryz.prog 85 [aP p, ints (nats ms)] (ints (nats (rulM p ms))) := by
  have hn := hp.hn
  have hsq : 4 ≤ n * n ∧ n * n ≤ 16 := by rcases hn with rfl | rfl | rfl <;> omega
  have hl : (nats ms).length = n * n := by rw [nats_len]; exact hm.len
  have hz := hp.size
  have hrl := hp.rl
  have hmv := sMasksValid_run hn (nats ms) hm.ok
  rw [← hz] at hmv
  refine Reads.ice (Q := fun v H' => frzA H' v = some (ints (nats (rulM p ms)))) ?_ (fun r H' h => h)
  refine RunCall.cw (c := _) Tryz.func85 rfl (n := 59) Tryz.ntmps85 (rs := [.tmp 4]) rfl ?_
  simp only[List.length_cons,List.length_nil,zA,zS,List.replicate,List.cons_append,List.nil_append]
  simp(maxSteps:=999999)(disch:=omega)only[go_sem,zA,zM,zS,zE,zL]
  intro g0
  first | refine OpS.rd (sPuzzleValid_run p hp.sm) (⟨_, Tryz.func26, rfl, rfl⟩ : Enters Tryz.prog 26) rfl rfl rfl rfl ?_ | refine Loud.rd (sPuzzleValid_run p hp.sm) (⟨_, Tryz.func26, rfl, rfl⟩ : Enters Tryz.prog 26) rfl rfl rfl rfl ?_
  simp(maxSteps:=999999)(disch:=omega)only[go_sem,zA,zM,zS,zE,zL]
  ((with_reducible first|refine guardK_dec ?_ ?_|refine guardK_ndec ?_ ?_|refine guardK_nb ?_ ?_|refine guardK_split ?_ ?_|refine guardQ_dec ?_ ?_|refine guardL_dec ?_ ?_|refine guardQ_ndec ?_ ?_|refine guardL_ndec ?_ ?_|refine guardQ_nb ?_ ?_|refine guardL_nb ?_ ?_|refine guardQ_split ?_ ?_|refine guardL_split ?_ ?_) <;> intro c1 <;> simp(maxSteps:=999999)(disch:=omega)only[go_sem,zA,zM,zS,zE,zL, c1])
  rotate_left
  · exfalso; rw [hv] at c1; cases c1
  first | refine OpS.rd (hmv) (⟨_, Tryz.func81, rfl, rfl⟩ : Enters Tryz.prog 81) rfl rfl rfl rfl ?_ | refine Loud.rd (hmv) (⟨_, Tryz.func81, rfl, rfl⟩ : Enters Tryz.prog 81) rfl rfl rfl rfl ?_
  simp(maxSteps:=999999)(disch:=omega)only[go_sem,zA,zM,zS,zE,zL]
  refine OpS.mkQ (l6Copy_own (nats ms) (by omega) (by intro h; rw [h] at hl; simp at hl; omega)) (⟨_, Tryz.func97, rfl, rfl⟩ : Enters Tryz.prog 97) rfl rfl rfl ?_
  rintro _ _ ⟨g, rfl, rfl⟩
  refine ⟨rfl, ?_⟩
  simp(maxSteps:=999999)(disch:=omega)only[go_sem,zA,zM,zS,zE,zL]
  rw [hl]
  refine loop_rule (fun k : Nat => p.rules.length - k) (fun k => k ≤ p.rules.length) (fun k => [.a, .a, .k, .a, .a, .k, .p (int k), .a, .a, .a, .a, .a, .a, .a, .a, .a, .a, .a, .a, .a, .a, .a, .a, .a, .a, .a, .a, .a, .a, .a, .a, .a, .a, .a, .a, .a, .a, .a, .a, .a, .a, .a, .a, .a, .a, .a, .a, .a, .a, .a, .a, .a, .a, .a, .a, .a, .a, .a, .a]) (fun k => [some ⟨g0, 1, cP p⟩, some ⟨g, 1, cl (eI .i64) (nats (rulT p ms k))⟩]) 0 (Nat.zero_le _) (by simp(maxSteps:=999999)(disch:=omega)only[go_sem,zA,zM,zS,zE,zL]; rfl) (HLe.refl _) ?_
  intro k hk
  have hok : MsN (rulT p ms k) n := foldS_ok _ hm
  simp(maxSteps:=999999)(disch:=omega)only[go_sem,zA,zM,zS,zE,zL]
  ((first|(with_reducible first|refine condK_dec ?_ ?_|refine condK_ndec ?_ ?_|refine condK_nb ?_ ?_)|refine condK_b ?_ ?_) <;> intro h1)
  · have h1 : k < p.rules.length := by omega
    have hsu := rulT_succ (ms := ms) h1
    have hrv := hp.rv _ (nth_mem h1)
    generalize rulT p ms k = o at hok hsu ⊢
    have hol : (nats o).length = n * n := by rw [nats_len]; exact hok.len
    simp(maxSteps:=999999)(disch:=omega)only[go_sem,zA,zM,zS,zE,zL]
    intro g2
    generalize nth p.rules k = r at hsu hrv ⊢
    have hown : OwnI [some ⟨g0, 1, cP p⟩, some ⟨g, 1, cl (eI .i64) (nats o)⟩, some ⟨g2, 3, [.f (.int .i64 r.kind), .f (fints r.cells), .f (.int .i64 r.val)]⟩] (.own 1 g 0 (n * n) none) (nats o) [1] := by
      have := OwnI.o (H := [some ⟨g0, 1, cP p⟩, some ⟨g, 1, cl (eI .i64) (nats o)⟩, some ⟨g2, 3, [.f (.int .i64 r.kind), .f (fints r.cells), .f (.int .i64 r.val)]⟩]) 1 g none (nats o) [] (by rw [List.append_nil]; exact look_of (H := [some ⟨g0, 1, cP p⟩, some ⟨g, 1, cl (eI .i64) (nats o)⟩, some ⟨g2, 3, [.f (.int .i64 r.kind), .f (fints r.cells), .f (.int .i64 r.val)]⟩]) (id := 1) (b := ⟨g, 1, cl (eI .i64) (nats o)⟩) rfl)
      rwa [hol] at this
    have hrun := sRuleMasks_o hn r o hrv hok
    rw [← hz] at hrun
    refine OpS.mkDI hrun (⟨_, Tryz.func99, rfl, rfl⟩ : Enters Tryz.prog 99) rfl rfl (snap_three snapD_aR' hown.snap snapD_int) ?_
    intro c H' S ho hS
    have hfl := ruleM_len r o
    have hfn : (nats (ruleM r (nats o))).length = r.cells.length := by rw [nats_len]; exact hfl
    obtain ⟨f1, f2, f3, f4⟩ := ruleValid_facts hrv
    obtain ⟨cid, cg, lim, ys, rfl, hSe, hlk⟩ := ho.look1 (by omega)
    have hid : 3 ≤ cid := (hS cid (by rw [hSe]; simp)).1
    obtain ⟨ci, rfl⟩ : ∃ ci, cid = ci + 3 := ⟨cid - 3, by omega⟩
    have hlk : look H' ci cg = some ⟨cg, 1, cl (eI .i64) (nats (ruleM r (nats o)) ++ ys)⟩ := hlk
    have hst : rulS o r = putR r (ruleM r (nats o)) o r.cells.length := rfl
    have hfd : ∀ j : Nat, j < r.cells.length → nth (nats (ruleM r (nats o)) ++ ys) j = (((ruleM r (nats o)).getD j 0 : Nat) : Int) := fun j hj => by rw [nth_app (by omega), nth_nats]; rfl
    have hpl := putR_len r (ruleM r (nats o)) o
    rw [hst] at hsu
    rw [hfn]
    generalize ruleM r (nats o) = fd at hsu hlk hfd hfn hpl ⊢
    have hyl : (nats fd ++ ys).length = r.cells.length + ys.length := by rw [List.length_append, hfn]
    generalize nats fd ++ ys = zs at hlk hfd hyl
    simp(maxSteps:=999999)(disch:=omega)only[go_sem,zA,zM,zS,zE,zL, hlk]
    refine loop_rule (fun j : Nat => r.cells.length - j) (fun j => j ≤ r.cells.length) (fun j => [.a, .a, .k, .a, .a, .k, .k, .k, .k, .p (int j), .a, .a, .a, .a, .a, .a, .a, .a, .a, .a, .a, .a, .a, .a, .a, .a, .a, .a, .a, .a, .a, .a, .a, .a, .a, .a, .a, .a, .a, .a, .a, .a, .a, .a, .a, .a, .a, .a, .a, .a, .a, .a, .a, .a, .a, .a, .a, .a, .a]) (fun j => some ⟨g0, 1, cP p⟩ :: some ⟨g, 1, cl (eI .i64) (nats (putR r fd o j))⟩ :: some ⟨g2, 3, [.f (.int .i64 r.kind), .f (fints r.cells), .f (.int .i64 r.val)]⟩ :: H') 0 (Nat.zero_le _) (by simp(maxSteps:=999999)(disch:=omega)only[go_sem,zA,zM,zS,zE,zL]; rfl) (HLe.refl _) ?_
    intro j hj
    simp(maxSteps:=999999)(disch:=omega)only[go_sem,zA,zM,zS,zE,zL]
    ((first|(with_reducible first|refine condK_dec ?_ ?_|refine condK_ndec ?_ ?_|refine condK_nb ?_ ?_)|refine condK_b ?_ ?_) <;> intro h2)
    · have h2 : j < r.cells.length := by omega
      have hcj := f3 _ (nth_mem h2)
      have hps := putR_succ r fd o j
      have hfj := hfd j h2
      obtain ⟨q, hq⟩ : ∃ q : Nat, nth r.cells j = q := ⟨(nth r.cells j).toNat, by omega⟩
      rw [hq, Int.toNat_natCast] at hps
      have hqn : q < n * n := by rw [hq] at hcj; omega
      have hQl : (nats (putR r fd o j)).length = n * n := by rw [nats_len, hpl]; exact hok.len
      simp(maxSteps:=999999)(disch:=omega)only[go_sem,zA,zM,zS,zE,zL]
      have hM : ∀ b, look (mask [] (some ⟨g0, 1, cP p⟩ :: b :: some ⟨g2, 3, [.f (.int .i64 r.kind), .f (fints r.cells), .f (.int .i64 r.val)]⟩ :: H')) (ci + 3) cg = some ⟨cg, 1, cl (eI .i64) zs⟩ := fun b => hlk
      refine drawP_lF [0, 1, 2, 3, 4, 5, 6, 7, 8, 9] [] none [10, 11] [] foll (by kernel_rfl) ?_
      simp(maxSteps:=999999)(disch:=omega)only[go_sem,Nat.reduceBEq,Bool.true_or,zA,zM,zS,zE,zL]
      simp(maxSteps:=999999)(disch:=omega)only[go_sem,zA,zM,zS,zE,zL, hlk, hfj, hq, hQl]
      exact ⟨j + 1, ⟨by omega, by omega⟩, by push_cast; rfl, hle_eq rfl (hle_eq (by rw [hps, ← nats_set, Int.toNat_natCast]) (HLe.refl _))⟩
    · have hje : j = r.cells.length := by omega
      subst hje
      rw [← hsu]
      simp(maxSteps:=999999)(disch:=omega)only[go_sem,zA,zM,zS,zE,zL]
      exact ⟨k + 1, ⟨by omega, by omega⟩, by push_cast; rfl, hle_eq rfl (hle_eq rfl (hle_nil _))⟩
  · have hke : k = p.rules.length := by omega
    have hM : rulT p ms k = rulM p ms := by rw [hke]; unfold rulT rulM; rw [List.take_length]
    rw [hM] at hok ⊢
    have hl2 : (nats (rulM p ms)).length = n * n := by rw [nats_len]; exact hok.len
    simp(maxSteps:=999999)(disch:=omega)only[go_sem,zA,zM,zS,zE,zL]
    rw [← hl2]
    exact ⟨_, HLe.refl _, frzA_own (E := eI .i64) (n := 1) (look_of (H := [some ⟨g0, 1, cP p⟩, some ⟨g, 1, cl (eI .i64) (nats (rulM p ms))⟩]) (id := 1) (b := ⟨g, 1, cl (eI .i64) (nats (rulM p ms))⟩) rfl)⟩
end Go.Lg

namespace Go.Lg
open Go.Proofs
theorem NarrowBy_run {p : Puz} {n : Nat} (hp : PuzN p n) (hv : puzzleValid p = true) (ms : List Nat) (hm : MsN ms n) (t : Nat) (ht : 1 ≤ t ∧ t ≤ 4) : Reads Tryz.prog 54 [aP p, ints (nats ms), int t] (ints (nats (narM p t ms))) := by
  have hn := hp.hn
  have hz := hp.size
  have hzn : p.size.toNat = n := by rw [hz]; rfl
  have h1 := NarrowSingles_run hn ms hm
  have h2 := NarrowHidden_run hn ms hm
  have h3 := NarrowPairs_run hn ms hm
  have h4 := NarrowRules_run hp hv ms hm
  rw [← hz] at h1 h2 h3
  have e : narM p t ms = if t = 1 then sglM ms n else if t = 2 then hidM ms n else if t = 3 then parM ms n else rulM p ms := by unfold narM; rw [hzn]
  rw [e]
  obtain rfl | rfl | rfl | rfl : t = 1 ∨ t = 2 ∨ t = 3 ∨ t = 4 := by omega
  · refine RunCall.cw (c := _) Tryz.func54 rfl (n := 34) Tryz.ntmps54 (rs := [.tmp 6]) rfl ?_
    simp only[List.length_cons,List.length_nil,zA,zS,List.replicate,List.cons_append,List.nil_append]
    simp(maxSteps:=999999)(disch:=omega)only[go_sem,zA,zM,zS,zE,zL]
    intro g
    first | refine OpS.rd (PuzzleValid_run p hp.sm) (⟨_, Tryz.func15, rfl, rfl⟩ : Enters Tryz.prog 15) rfl rfl rfl rfl ?_ | refine Loud.rd (PuzzleValid_run p hp.sm) (⟨_, Tryz.func15, rfl, rfl⟩ : Enters Tryz.prog 15) rfl rfl rfl rfl ?_
    simp(maxSteps:=999999)(disch:=omega)only[go_sem,zA,zM,zS,zE,zL]
    rw [hv]
    have d11 : decide (((1 : Nat) : Int) = 1) = true := rfl
    simp(maxSteps:=999999)(disch:=omega)only[go_sem,zA,zM,zS,zE,zL, d11]
    first | refine OpS.mk (h1) (⟨_, Tryz.func72, rfl, rfl⟩ : Enters Tryz.prog 72) rfl rfl rfl rfl rfl ?_ | refine Loud.mk (h1) (⟨_, Tryz.func72, rfl, rfl⟩ : Enters Tryz.prog 72) rfl rfl rfl rfl rfl ?_
    simp(maxSteps:=999999)(disch:=omega)only[go_sem,zA,zM,zS,zE,zL]
  · refine RunCall.cw (c := _) Tryz.func54 rfl (n := 34) Tryz.ntmps54 (rs := [.tmp 6]) rfl ?_
    simp only[List.length_cons,List.length_nil,zA,zS,List.replicate,List.cons_append,List.nil_append]
    simp(maxSteps:=999999)(disch:=omega)only[go_sem,zA,zM,zS,zE,zL]
    intro g
    first | refine OpS.rd (PuzzleValid_run p hp.sm) (⟨_, Tryz.func15, rfl, rfl⟩ : Enters Tryz.prog 15) rfl rfl rfl rfl ?_ | refine Loud.rd (PuzzleValid_run p hp.sm) (⟨_, Tryz.func15, rfl, rfl⟩ : Enters Tryz.prog 15) rfl rfl rfl rfl ?_
    simp(maxSteps:=999999)(disch:=omega)only[go_sem,zA,zM,zS,zE,zL]
    rw [hv]
    have d21 : decide (((2 : Nat) : Int) = 1) = false := rfl
    have d22 : decide (((2 : Nat) : Int) = 2) = true := rfl
    simp(maxSteps:=999999)(disch:=omega)only[go_sem,zA,zM,zS,zE,zL, d21, d22]
    first | refine OpS.mk (h2) (⟨_, Tryz.func73, rfl, rfl⟩ : Enters Tryz.prog 73) rfl rfl rfl rfl rfl ?_ | refine Loud.mk (h2) (⟨_, Tryz.func73, rfl, rfl⟩ : Enters Tryz.prog 73) rfl rfl rfl rfl rfl ?_
    simp(maxSteps:=999999)(disch:=omega)only[go_sem,zA,zM,zS,zE,zL]
  · refine RunCall.cw (c := _) Tryz.func54 rfl (n := 34) Tryz.ntmps54 (rs := [.tmp 6]) rfl ?_
    simp only[List.length_cons,List.length_nil,zA,zS,List.replicate,List.cons_append,List.nil_append]
    simp(maxSteps:=999999)(disch:=omega)only[go_sem,zA,zM,zS,zE,zL]
    intro g
    first | refine OpS.rd (PuzzleValid_run p hp.sm) (⟨_, Tryz.func15, rfl, rfl⟩ : Enters Tryz.prog 15) rfl rfl rfl rfl ?_ | refine Loud.rd (PuzzleValid_run p hp.sm) (⟨_, Tryz.func15, rfl, rfl⟩ : Enters Tryz.prog 15) rfl rfl rfl rfl ?_
    simp(maxSteps:=999999)(disch:=omega)only[go_sem,zA,zM,zS,zE,zL]
    rw [hv]
    have d31 : decide (((3 : Nat) : Int) = 1) = false := rfl
    have d32 : decide (((3 : Nat) : Int) = 2) = false := rfl
    have d33 : decide (((3 : Nat) : Int) = 3) = true := rfl
    simp(maxSteps:=999999)(disch:=omega)only[go_sem,zA,zM,zS,zE,zL, d31, d32, d33]
    first | refine OpS.mk (h3) (⟨_, Tryz.func74, rfl, rfl⟩ : Enters Tryz.prog 74) rfl rfl rfl rfl rfl ?_ | refine Loud.mk (h3) (⟨_, Tryz.func74, rfl, rfl⟩ : Enters Tryz.prog 74) rfl rfl rfl rfl rfl ?_
    simp(maxSteps:=999999)(disch:=omega)only[go_sem,zA,zM,zS,zE,zL]
  · refine RunCall.cw (c := _) Tryz.func54 rfl (n := 34) Tryz.ntmps54 (rs := [.tmp 6]) rfl ?_
    simp only[List.length_cons,List.length_nil,zA,zS,List.replicate,List.cons_append,List.nil_append]
    simp(maxSteps:=999999)(disch:=omega)only[go_sem,zA,zM,zS,zE,zL]
    intro g
    first | refine OpS.rd (PuzzleValid_run p hp.sm) (⟨_, Tryz.func15, rfl, rfl⟩ : Enters Tryz.prog 15) rfl rfl rfl rfl ?_ | refine Loud.rd (PuzzleValid_run p hp.sm) (⟨_, Tryz.func15, rfl, rfl⟩ : Enters Tryz.prog 15) rfl rfl rfl rfl ?_
    simp(maxSteps:=999999)(disch:=omega)only[go_sem,zA,zM,zS,zE,zL]
    rw [hv]
    have d41 : decide (((4 : Nat) : Int) = 1) = false := rfl
    have d42 : decide (((4 : Nat) : Int) = 2) = false := rfl
    have d43 : decide (((4 : Nat) : Int) = 3) = false := rfl
    have d44 : decide (((4 : Nat) : Int) = 4) = true := rfl
    simp(maxSteps:=999999)(disch:=omega)only[go_sem,zA,zM,zS,zE,zL, d41, d42, d43, d44]
    first | refine OpS.mk (h4) (⟨_, Tryz.func75, rfl, rfl⟩ : Enters Tryz.prog 75) rfl rfl rfl rfl rfl ?_ | refine Loud.mk (h4) (⟨_, Tryz.func75, rfl, rfl⟩ : Enters Tryz.prog 75) rfl rfl rfl rfl rfl ?_
    simp(maxSteps:=999999)(disch:=omega)only[go_sem,zA,zM,zS,zE,zL]
theorem sNarrowBy_run {p : Puz} {n : Nat} (hp : PuzN p n) (hv : puzzleValid p = true) (ms : List Nat) (hm : MsN ms n) (t : Nat) (ht : 1 ≤ t ∧ t ≤ 4) : Reads Tryz.prog 67 [aP p, ints (nats ms), int t] (ints (nats (narM p t ms))) := by
  have hmv := sMasksValid_run hp.hn (nats ms) hm.ok
  rw [← hp.size] at hmv
  have hn := hp.hn
  have hz := hp.size
  have hzn : p.size.toNat = n := by rw [hz]; rfl
  have h1 := sNarrowSingles_run hn ms hm
  have h2 := sNarrowHidden_run hn ms hm
  have h3 := sNarrowPairs_run hn ms hm
  have h4 := sNarrowRules_run hp hv ms hm
  rw [← hz] at h1 h2 h3
  have e : narM p t ms = if t = 1 then sglM ms n else if t = 2 then hidM ms n else if t = 3 then parM ms n else rulM p ms := by unfold narM; rw [hzn]
  rw [e]
  obtain rfl | rfl | rfl | rfl : t = 1 ∨ t = 2 ∨ t = 3 ∨ t = 4 := by omega
  · refine RunCall.cw (c := _) Tryz.func67 rfl (n := 43) Tryz.ntmps67 (rs := [.tmp 6]) rfl ?_
    simp only[List.length_cons,List.length_nil,zA,zS,List.replicate,List.cons_append,List.nil_append]
    simp(maxSteps:=999999)(disch:=omega)only[go_sem,zA,zM,zS,zE,zL]
    intro g
    first | refine OpS.rd (sPuzzleValid_run p hp.sm) (⟨_, Tryz.func26, rfl, rfl⟩ : Enters Tryz.prog 26) rfl rfl rfl rfl ?_ | refine Loud.rd (sPuzzleValid_run p hp.sm) (⟨_, Tryz.func26, rfl, rfl⟩ : Enters Tryz.prog 26) rfl rfl rfl rfl ?_
    simp(maxSteps:=999999)(disch:=omega)only[go_sem,zA,zM,zS,zE,zL]
    rw [hv]
    simp(maxSteps:=999999)(disch:=omega)only[go_sem,zA,zM,zS,zE,zL]
    first | refine OpS.rd (hmv) (⟨_, Tryz.func81, rfl, rfl⟩ : Enters Tryz.prog 81) rfl rfl rfl rfl ?_ | refine Loud.rd (hmv) (⟨_, Tryz.func81, rfl, rfl⟩ : Enters Tryz.prog 81) rfl rfl rfl rfl ?_
    simp(maxSteps:=999999)(disch:=omega)only[go_sem,zA,zM,zS,zE,zL]
    have d11 : decide (((1 : Nat) : Int) = 1) = true := rfl
    simp(maxSteps:=999999)(disch:=omega)only[go_sem,zA,zM,zS,zE,zL, d11]
    first | refine OpS.mk (h1) (⟨_, Tryz.func82, rfl, rfl⟩ : Enters Tryz.prog 82) rfl rfl rfl rfl rfl ?_ | refine Loud.mk (h1) (⟨_, Tryz.func82, rfl, rfl⟩ : Enters Tryz.prog 82) rfl rfl rfl rfl rfl ?_
    simp(maxSteps:=999999)(disch:=omega)only[go_sem,zA,zM,zS,zE,zL]
  · refine RunCall.cw (c := _) Tryz.func67 rfl (n := 43) Tryz.ntmps67 (rs := [.tmp 6]) rfl ?_
    simp only[List.length_cons,List.length_nil,zA,zS,List.replicate,List.cons_append,List.nil_append]
    simp(maxSteps:=999999)(disch:=omega)only[go_sem,zA,zM,zS,zE,zL]
    intro g
    first | refine OpS.rd (sPuzzleValid_run p hp.sm) (⟨_, Tryz.func26, rfl, rfl⟩ : Enters Tryz.prog 26) rfl rfl rfl rfl ?_ | refine Loud.rd (sPuzzleValid_run p hp.sm) (⟨_, Tryz.func26, rfl, rfl⟩ : Enters Tryz.prog 26) rfl rfl rfl rfl ?_
    simp(maxSteps:=999999)(disch:=omega)only[go_sem,zA,zM,zS,zE,zL]
    rw [hv]
    simp(maxSteps:=999999)(disch:=omega)only[go_sem,zA,zM,zS,zE,zL]
    first | refine OpS.rd (hmv) (⟨_, Tryz.func81, rfl, rfl⟩ : Enters Tryz.prog 81) rfl rfl rfl rfl ?_ | refine Loud.rd (hmv) (⟨_, Tryz.func81, rfl, rfl⟩ : Enters Tryz.prog 81) rfl rfl rfl rfl ?_
    simp(maxSteps:=999999)(disch:=omega)only[go_sem,zA,zM,zS,zE,zL]
    have d21 : decide (((2 : Nat) : Int) = 1) = false := rfl
    have d22 : decide (((2 : Nat) : Int) = 2) = true := rfl
    simp(maxSteps:=999999)(disch:=omega)only[go_sem,zA,zM,zS,zE,zL, d21, d22]
    first | refine OpS.mk (h2) (⟨_, Tryz.func83, rfl, rfl⟩ : Enters Tryz.prog 83) rfl rfl rfl rfl rfl ?_ | refine Loud.mk (h2) (⟨_, Tryz.func83, rfl, rfl⟩ : Enters Tryz.prog 83) rfl rfl rfl rfl rfl ?_
    simp(maxSteps:=999999)(disch:=omega)only[go_sem,zA,zM,zS,zE,zL]
  · refine RunCall.cw (c := _) Tryz.func67 rfl (n := 43) Tryz.ntmps67 (rs := [.tmp 6]) rfl ?_
    simp only[List.length_cons,List.length_nil,zA,zS,List.replicate,List.cons_append,List.nil_append]
    simp(maxSteps:=999999)(disch:=omega)only[go_sem,zA,zM,zS,zE,zL]
    intro g
    first | refine OpS.rd (sPuzzleValid_run p hp.sm) (⟨_, Tryz.func26, rfl, rfl⟩ : Enters Tryz.prog 26) rfl rfl rfl rfl ?_ | refine Loud.rd (sPuzzleValid_run p hp.sm) (⟨_, Tryz.func26, rfl, rfl⟩ : Enters Tryz.prog 26) rfl rfl rfl rfl ?_
    simp(maxSteps:=999999)(disch:=omega)only[go_sem,zA,zM,zS,zE,zL]
    rw [hv]
    simp(maxSteps:=999999)(disch:=omega)only[go_sem,zA,zM,zS,zE,zL]
    first | refine OpS.rd (hmv) (⟨_, Tryz.func81, rfl, rfl⟩ : Enters Tryz.prog 81) rfl rfl rfl rfl ?_ | refine Loud.rd (hmv) (⟨_, Tryz.func81, rfl, rfl⟩ : Enters Tryz.prog 81) rfl rfl rfl rfl ?_
    simp(maxSteps:=999999)(disch:=omega)only[go_sem,zA,zM,zS,zE,zL]
    have d31 : decide (((3 : Nat) : Int) = 1) = false := rfl
    have d32 : decide (((3 : Nat) : Int) = 2) = false := rfl
    have d33 : decide (((3 : Nat) : Int) = 3) = true := rfl
    simp(maxSteps:=999999)(disch:=omega)only[go_sem,zA,zM,zS,zE,zL, d31, d32, d33]
    first | refine OpS.mk (h3) (⟨_, Tryz.func84, rfl, rfl⟩ : Enters Tryz.prog 84) rfl rfl rfl rfl rfl ?_ | refine Loud.mk (h3) (⟨_, Tryz.func84, rfl, rfl⟩ : Enters Tryz.prog 84) rfl rfl rfl rfl rfl ?_
    simp(maxSteps:=999999)(disch:=omega)only[go_sem,zA,zM,zS,zE,zL]
  · refine RunCall.cw (c := _) Tryz.func67 rfl (n := 43) Tryz.ntmps67 (rs := [.tmp 6]) rfl ?_
    simp only[List.length_cons,List.length_nil,zA,zS,List.replicate,List.cons_append,List.nil_append]
    simp(maxSteps:=999999)(disch:=omega)only[go_sem,zA,zM,zS,zE,zL]
    intro g
    first | refine OpS.rd (sPuzzleValid_run p hp.sm) (⟨_, Tryz.func26, rfl, rfl⟩ : Enters Tryz.prog 26) rfl rfl rfl rfl ?_ | refine Loud.rd (sPuzzleValid_run p hp.sm) (⟨_, Tryz.func26, rfl, rfl⟩ : Enters Tryz.prog 26) rfl rfl rfl rfl ?_
    simp(maxSteps:=999999)(disch:=omega)only[go_sem,zA,zM,zS,zE,zL]
    rw [hv]
    simp(maxSteps:=999999)(disch:=omega)only[go_sem,zA,zM,zS,zE,zL]
    first | refine OpS.rd (hmv) (⟨_, Tryz.func81, rfl, rfl⟩ : Enters Tryz.prog 81) rfl rfl rfl rfl ?_ | refine Loud.rd (hmv) (⟨_, Tryz.func81, rfl, rfl⟩ : Enters Tryz.prog 81) rfl rfl rfl rfl ?_
    simp(maxSteps:=999999)(disch:=omega)only[go_sem,zA,zM,zS,zE,zL]
    have d41 : decide (((4 : Nat) : Int) = 1) = false := rfl
    have d42 : decide (((4 : Nat) : Int) = 2) = false := rfl
    have d43 : decide (((4 : Nat) : Int) = 3) = false := rfl
    have d44 : decide (((4 : Nat) : Int) = 4) = true := rfl
    simp(maxSteps:=999999)(disch:=omega)only[go_sem,zA,zM,zS,zE,zL, d41, d42, d43, d44]
    first | refine OpS.mk (h4) (⟨_, Tryz.func85, rfl, rfl⟩ : Enters Tryz.prog 85) rfl rfl rfl rfl rfl ?_ | refine Loud.mk (h4) (⟨_, Tryz.func85, rfl, rfl⟩ : Enters Tryz.prog 85) rfl rfl rfl rfl rfl ?_
    simp(maxSteps:=999999)(disch:=omega)only[go_sem,zA,zM,zS,zE,zL]
theorem nextRound_run {p : Puz} {n : Nat} (hp : PuzN p n) (hv : puzzleValid p = true) (ms : List Nat) (hm : MsN ms n) : Reads Tryz.prog 32 [aP p, ints (nats ms), int 4] (.tup [ints (if nextM p ms = 0 then [] else nats (narM p (nextM p ms) ms)), int (nextM p ms)]) := by
  have hsq : n * n ≤ 16 := by rcases hp.hn with rfl | rfl | rfl <;> omega
  have hl := hm.len
  refine Reads.ice (Q := fun v H' => frzA H' v = some (.tup [ints (if nextM p ms = 0 then [] else nats (narM p (nextM p ms) ms)), int (nextM p ms)])) ?_ (fun r H' h => h)
  refine RunCall.cw (c := _) Tryz.func32 rfl (n := 25) Tryz.ntmps32 (rs := [.tmp 6, .tmp 7]) rfl ?_
  simp only[List.length_cons,List.length_nil,zA,zS,List.replicate,List.cons_append,List.nil_append]
  simp(maxSteps:=999999)(disch:=omega)only[go_sem,zA,zM,zS,zE,zL]
  intro g
  refine loop_rule (fun t : Nat => 5 - t) (fun t => 1 ≤ t ∧ t ≤ 5 ∧ ∀ u, 1 ≤ u → u < t → narM p u ms = ms) (fun t => [.a, .k, .k, .k, .a, .a, .a, .a, .p (int t), .a, .a, .a, .a, .a, .a, .a, .a, .a, .a, .a, .a, .a, .a, .a, .a]) (fun _ => [some ⟨g, 1, cP p⟩]) 1 ⟨by omega, by omega, fun u h1 h2 => by omega⟩ (by simp(maxSteps:=999999)(disch:=omega)only[go_sem,zA,zM,zS,zE,zL]; rfl) (HLe.refl _) ?_
  rintro t ⟨ht1, ht2, hall⟩
  simp(maxSteps:=999999)(disch:=omega)only[go_sem,zA,zM,zS,zE,zL]
  ((first|(with_reducible first|refine condK_dec ?_ ?_|refine condK_ndec ?_ ?_|refine condK_nb ?_ ?_)|refine condK_b ?_ ?_) <;> intro h1)
  · have h1 : t ≤ 4 := by omega
    simp(maxSteps:=999999)(disch:=omega)only[go_sem,zA,zM,zS,zE,zL]
    first | refine OpS.mk (NarrowBy_run hp hv ms hm t ⟨ht1, h1⟩) (⟨_, Tryz.func54, rfl, rfl⟩ : Enters Tryz.prog 54) rfl rfl rfl rfl rfl ?_ | refine Loud.mk (NarrowBy_run hp hv ms hm t ⟨ht1, h1⟩) (⟨_, Tryz.func54, rfl, rfl⟩ : Enters Tryz.prog 54) rfl rfl rfl rfl rfl ?_
    simp(maxSteps:=999999)(disch:=omega)only[go_sem,zA,zM,zS,zE,zL]
    have hnl := (narM_ok (p := p) (t := t) hm).len
    first | refine OpS.rd (Equal_run (nats (narM p t ms)) (nats ms) (by rw [nats_len]; omega)) (⟨_, Tryz.func55, rfl, rfl⟩ : Enters Tryz.prog 55) rfl rfl rfl rfl ?_ | refine Loud.rd (Equal_run (nats (narM p t ms)) (nats ms) (by rw [nats_len]; omega)) (⟨_, Tryz.func55, rfl, rfl⟩ : Enters Tryz.prog 55) rfl rfl rfl rfl ?_
    simp(maxSteps:=999999)(disch:=omega)only[go_sem,zA,zM,zS,zE,zL]
    ((first|(with_reducible first|refine condK_dec ?_ ?_|refine condK_ndec ?_ ?_|refine condK_nb ?_ ?_)|refine condK_b ?_ ?_) <;> intro h2)
    · have h2 : narM p t ms = ms := nats_inj.1 h2
      simp(maxSteps:=999999)(disch:=omega)only[go_sem,zA,zM,zS,zE,zL]
      exact ⟨t + 1, ⟨⟨by omega, by omega, fun u u1 u2 => by
        by_cases hut : u = t
        · rw [hut]; exact h2
        · exact hall u u1 (by omega)⟩, by omega⟩, by push_cast; rfl, HLe.refl _⟩
    · have h2 : narM p t ms ≠ ms := fun h => h2 (by rw [h])
      have e := nextM_is ⟨ht1, h1⟩ hall h2
      rw [e, if_neg (by omega)]
      simp(maxSteps:=999999)(disch:=omega)only[go_sem,zA,zM,zS,zE,zL]
      exact ⟨_, HLe.refl _, rfl⟩
  · have hte : t = 5 := by omega
    have e := nextM_no (p := p) (ms := ms) fun u u1 u2 => hall u u1 (by omega)
    rw [e, if_pos rfl]
    simp(maxSteps:=999999)(disch:=omega)only[go_sem,zA,zM,zS,zE,zL]
    exact ⟨_, HLe.refl _, rfl⟩
end Go.Lg

namespace Go.Lg
open Go.Proofs
section
variable {P : Program} {ops : Array Oper} {o : Oper} {s : List AV} {H : Heap} {K : KV} {fo : Operand} {xs : Array Operand} {ts : Array TypeId} {f : FuncId} {args args' : List AV} {zs : List Int}
end
structure CpI (B : Heap) (j g : Nat) (size : Int) (given : List Int) (c r : CV) (l : List RO) (S I : List Nat) : Prop where
  out : look B j g = some ⟨g, 3, [.f (.int .i64 size), c, r]⟩
  rl : (l = [] ∧ r = .f .nil ∧ I = S) ∨ ∃ id g', r = .own id g' 0 l.length none ∧ look B id g' = some ⟨g', 3, kl kR l⟩ ∧ I = S ++ id :: l.flatMap (·.i)
  cells : ∀ o ∈ l, OwnI B o.c o.r.cells o.i
  giv : OwnI B c given S
  nd : I.Nodup
  lt : ∀ x ∈ I, 2 ≤ x ∧ x < B.length ∧ x ≠ j
theorem CpI.next {B B3 : Heap} {j g : Nat} {size : Int} {given : List Int} {c r : CV} {l : List RO} {S I : List Nat} (hC : CpI B j g size given c r l S I) (o : RO) {id g' : Nat}
    (hI : (l = [] ∧ I = S ∧ B.length ≤ id) ∨ I = S ++ id :: l.flatMap (·.i)) (hs : ∀ k ∈ I, k ≠ id → B3[k]? = B[k]?) (hlen : B.length ≤ B3.length)
    (hout : look B3 j g = some ⟨g, 3, [.f (.int .i64 size), c, .own id g' 0 (l.length + 1) none]⟩) (hid : look B3 id g' = some ⟨g', 3, kl kR (l ++ [o])⟩)
    (ho : OwnI B3 o.c o.r.cells o.i) (hoi : ∀ k ∈ o.i, B.length ≤ k ∧ k < B3.length ∧ k ≠ id ∧ k ≠ j) (hi : 2 ≤ id ∧ id < B3.length ∧ id ≠ j) (h2 : 2 ≤ B.length) :
    CpI B3 j g size given c (.own id g' 0 (l.length + 1) none) (l ++ [o]) S (S ++ id :: (l ++ [o]).flatMap (·.i)) := by
  have hJ : (S ++ id :: l.flatMap (·.i)).Nodup ∧ (∀ x ∈ S ++ l.flatMap (·.i), x ∈ I) ∧ (∀ x ∈ S ++ l.flatMap (·.i), x ≠ id) := by
    rcases hI with ⟨rfl, rfl, hb⟩ | rfl
    · have hne : ∀ x ∈ I, x ≠ id := fun x hx => by have := hC.lt x hx; omega
      refine ⟨?_, by simp, by simpa using hne⟩
      simp only [List.flatMap_nil]
      rw [List.nodup_append]
      exact ⟨hC.nd, by simp, fun a ha b hb => by simp at hb; subst hb; exact hne a ha⟩
    · have hn := hC.nd
      refine ⟨hn, fun x hx => ?_, fun x hx he => ?_⟩
      · simp only [List.mem_append, List.mem_cons] at hx ⊢
        rcases hx with hx | hx
        · exact .inl hx
        · exact .inr (.inr hx)
      · subst he
        rw [List.nodup_append] at hn
        obtain ⟨n1, n2, n3⟩ := hn
        rcases List.mem_append.1 hx with hx | hx
        · exact n3 x hx x (by simp) rfl
        · exact (List.nodup_cons.1 n2).1 hx
  obtain ⟨hn, hin, hne⟩ := hJ
  have hmem : ∀ x ∈ S ++ id :: (l ++ [o]).flatMap (·.i), x ∈ S ++ l.flatMap (·.i) ∨ x = id ∨ x ∈ o.i := fun x hx => by
    simp only [List.flatMap_append, List.flatMap_cons, List.flatMap_nil, List.append_nil, List.mem_append, List.mem_cons] at hx ⊢
    rcases hx with hx | rfl | hx | hx
    · exact .inl (.inl hx)
    · exact .inr (.inl rfl)
    · exact .inl (.inr hx)
    · exact .inr (.inr hx)
  refine ⟨hout, .inr ⟨id, g', by simp, hid, rfl⟩, fun o' ho' => ?_, ?_, ?_, fun x hx => ?_⟩
  · rcases List.mem_append.1 ho' with ho' | ho'
    · refine (hC.cells o' ho').same fun k hk => ?_
      have : k ∈ S ++ l.flatMap (·.i) := List.mem_append.2 (.inr (List.mem_flatMap.2 ⟨o', ho', hk⟩))
      exact hs k (hin k this) (hne k this)
    · simp at ho'; subst ho'; exact ho
  · refine hC.giv.same fun k hk => ?_
    have : k ∈ S ++ l.flatMap (·.i) := List.mem_append.2 (.inl hk)
    exact hs k (hin k this) (hne k this)
  · have e : S ++ id :: (l ++ [o]).flatMap (·.i) = (S ++ id :: l.flatMap (·.i)) ++ o.i := by simp
    rw [e, List.nodup_append]
    refine ⟨hn, ho.nd, fun a ha b hb he => ?_⟩
    subst he
    have h4 := hoi a hb
    have : a ∈ S ++ l.flatMap (·.i) := by
      simp only [List.mem_append, List.mem_cons] at ha ⊢
      rcases ha with ha | ha | ha
      · exact .inl ha
      · exact absurd ha h4.2.2.1
      · exact .inr ha
    have := hC.lt a (hin a this)
    omega
  · rcases hmem x hx with hx | rfl | hx
    · have := hC.lt x (hin x hx); omega
    · exact hi
    · have := hoi x hx; omega
def limN : CV → Prop
  | .own _ _ _ _ lim => lim = none
  | .f .nil => True
  | _ => False
def puzQ1 (p : Puz) : KV := fun v H => ∃ c r S1 S2, v = .agg [.f (.int .i64 p.size), c, r] ∧ OwnI H c p.given S1 ∧ ((r = .f .nil ∧ p.rules = [] ∧ S2 = []) ∨ OwnR H r p.rules S2) ∧ (S1 ++ S2).Nodup ∧ limN r
theorem CpI.done {B B' : Heap} {j g : Nat} {p : Puz} {c r : CV} {l : List RO} {S I : List Nat} (hC : CpI B j g p.size p.given c r l S I) (hm : l.map (·.r) = p.rules) (hs : ∀ k ∈ I, B'[k]? = B[k]?) :
    puzQ1 p (.agg [.f (.int .i64 p.size), c, r]) B' := by
  rcases hC.rl with ⟨rfl, rfl, rfl⟩ | ⟨id, g', rfl, hid, rfl⟩
  · exact ⟨_, _, _, [], rfl, hC.giv.same hs, .inl ⟨rfl, hm.symm, rfl⟩, by rw [List.append_nil]; exact hC.nd, trivial⟩
  · refine ⟨_, _, _, _, rfl, hC.giv.same fun k hk => hs k (List.mem_append.2 (.inl hk)), .inr ?_, hC.nd, rfl⟩
    rw [← hm]
    refine OwnR.same (.o id g' none l [] (by rw [List.append_nil]; exact hid) hC.cells ?_ (by simp)) fun k hk => hs k (List.mem_append.2 (.inr hk))
    have := hC.nd
    rw [List.nodup_append] at this
    exact this.2.1
end Go.Lg

namespace Go.Lg
open Go.Proofs
theorem grd_facts {p : Puz} {xs : List Int} (h1 : puzzleValid p = true) (h2 : gridValid xs p.size = true) : PuzN p p.size.toNat ∧ GrdN xs p.size.toNat ∧ GrdN p.given p.size.toNat ∧ p.given.length = xs.length ∧ 4 ≤ xs.length ∧ xs.length ≤ 16 := by
  obtain ⟨hp, hz⟩ := PuzN.of h1
  have hg := GrdN.of hp.hn (xs := xs) (by rw [hz]; exact h2)
  have ha := GrdN.of hp.hn (xs := p.given) (by rw [hz]; exact puzzleValid_grid' h1)
  have hsq : 4 ≤ p.size.toNat * p.size.toNat ∧ p.size.toNat * p.size.toNat ≤ 16 := by
    have := hp.hn
    rcases this with h | h | h <;> rw [h] <;> omega
  have := hg.len
  have := ha.len
  exact ⟨hp, hg, ha, by omega, by omega, by omega⟩
end Go.Lg
