/- GpMH, cut to what is needed. -/
import Derived.Test.YtapopcmgggfedaaGreatXbd3
import Derived.Test.YtapopcmgggfedaaGreatXbc6
open Nat renaming reduceAdd → zA, reduceMul → zM, reduceSub → zS, reduceEqDiff → zE, reduceLeDiff → zL
set_option linter.unusedSimpArgs false
set_option linter.unusedVariables false
set_option maxRecDepth 100000
namespace Go.Lg
open Go.Proofs
theorem snapD_aR' {H : Heap} {r : Rul} : snapD H (aR r) = some (aR r) := rfl
theorem rulM_of {r : Rul} {n : Nat} (hn : n = 2 ∨ n = 3 ∨ n = 4) (hv : ruleValid r n = true) {ms : List Nat} (hm : MsN ms n) : RulM r (nats ms) := by
  obtain ⟨f1, f2, f3, f4⟩ := ruleValid_facts hv
  have hsq : n * n ≤ 16 := by rcases hn with rfl | rfl | rfl <;> omega
  have hl := hm.len
  refine ⟨f1.2, f2, fun c hc => ?_, by rw [nats_len]; omega⟩
  obtain ⟨h1, h2⟩ := f3 c hc
  obtain ⟨k, rfl⟩ : ∃ k : Nat, c = k := ⟨c.toNat, by omega⟩
  have := hm.lt hn k
  rw [nats_len, nth_nats]
  omega
theorem lessQ_ownI2 {H : Heap} {c : CV} {zs : List Int} {S : List Nat} (h : OwnI H c zs S) : lessQ H (ownIQ zs) (.c c) := ⟨keepH S H, keepH_le S H, c, S, rfl, h.same (fun i hi => keepH_get hi (h.lt i hi)), scalH_keep h.blk⟩
theorem sRuleMasks_o {n : Nat} (hn : n = 2 ∨ n = 3 ∨ n = 4) (r : Rul) (ms : List Nat) (hv : ruleValid r n = true) (hm : MsN ms n) : RunCall Tryz.prog 99 [aR r, ints (nats ms), int n] [] (ownIQ (nats (ruleM r (nats ms)))) :=
  sRuleMasks_own hn r (nats ms) hv hm.ok (rulM_of hn hv hm)
set_option maxHeartbeats 2000000 in
theorem RuleMasks_own {n : Nat} (hn : n = 2 ∨ n = 3 ∨ n = 4) (r : Rul) (ms : List Nat) (hv : ruleValid r n = true) (hm : MsN ms n) : RunCall Tryz.prog 90 [aR r, ints (nats ms), int n] [] (ownIQ (nats (ruleM r (nats ms)))) := by
  obtain ⟨f1, f2, f3, f4⟩ := ruleValid_facts hv
  have hl := hm.len
  have hnl : (nats ms).length = n * n := by rw [nats_len]; exact hl
  have hrem : ∀ k, nats ((r.cells.take k).map fun c => mAt ms c.toNat) = (r.cells.take k).map fun c => ((mAt ms c.toNat : Nat) : Int) := fun k => by unfold nats; rw [List.map_map]; rfl
  refine RunCall.cw (c := _) Tryz.func90 rfl (n := 39) Tryz.ntmps90 (rs := [.tmp 6]) rfl ?_
  simp only[List.length_cons,List.length_nil,zA,zS,List.replicate,List.cons_append,List.nil_append]
  simp(maxSteps:=999999)(disch:=omega)only[go_sem,zA,zM,zS,zE,zL]
  intro g1
  first | refine OpS.rd (RuleValid_run r n (by omega)) (⟨_, Tryz.func28, rfl, rfl⟩ : Enters Tryz.prog 28) rfl rfl rfl rfl ?_ | refine Loud.rd (RuleValid_run r n (by omega)) (⟨_, Tryz.func28, rfl, rfl⟩ : Enters Tryz.prog 28) rfl rfl rfl rfl ?_
  simp(maxSteps:=999999)(disch:=omega)only[go_sem,zA,zM,zS,zE,zL]
  ((with_reducible first|refine guardK_dec ?_ ?_|refine guardK_ndec ?_ ?_|refine guardK_nb ?_ ?_|refine guardK_split ?_ ?_|refine guardQ_dec ?_ ?_|refine guardL_dec ?_ ?_|refine guardQ_ndec ?_ ?_|refine guardL_ndec ?_ ?_|refine guardQ_nb ?_ ?_|refine guardL_nb ?_ ?_|refine guardQ_split ?_ ?_|refine guardL_split ?_ ?_) <;> intro c1 <;> simp(maxSteps:=999999)(disch:=omega)only[go_sem,zA,zM,zS,zE,zL, c1])
  rotate_left
  · exfalso; rw [hv] at c1; cases c1
  first | refine OpS.rd (MasksValid_run hn ms hm) (⟨_, Tryz.func30, rfl, rfl⟩ : Enters Tryz.prog 30) rfl rfl rfl rfl ?_ | refine Loud.rd (MasksValid_run hn ms hm) (⟨_, Tryz.func30, rfl, rfl⟩ : Enters Tryz.prog 30) rfl rfl rfl rfl ?_
  simp(maxSteps:=999999)(disch:=omega)only[go_sem,zA,zM,zS,zE,zL]
  intro g2
  refine loop_rule2 (fun (k g : Nat) => r.cells.length - k) (fun k g => k ≤ r.cells.length) (fun k g => [.a, .k, .a, .k, .a, .a, .a, .p (.c (.own 1 g 0 k none)), .a, .a, .a, .a, .a, .a, .a, .a, .a, .a, .a, .a, .a, .a, .k, .k, .p (int k), .a, .a, .a, .a, .a, .a, .a, .a, .a, .a, .a, .a, .a, .a]) (fun k g => [some ⟨g1, 1, cR r⟩, some ⟨g, 1, cl (eI .i64) (nats ((r.cells.take k).map fun c => mAt ms c.toNat))⟩]) 0 g2 (Nat.zero_le _) (by simp(maxSteps:=999999)(disch:=omega)only[go_sem,zA,zM,zS,zE,zL]; rfl) (HLe.refl _) ?_
  intro k g hk
  have hlen : (nats ((r.cells.take k).map fun c => mAt ms c.toNat)).length = k := by rw [nats_len, List.length_map, List.length_take]; omega
  simp(maxSteps:=999999)(disch:=omega)only[go_sem,zA,zM,zS,zE,zL]
  ((first|(with_reducible first|refine condK_dec ?_ ?_|refine condK_ndec ?_ ?_|refine condK_nb ?_ ?_)|refine condK_b ?_ ?_) <;> intro h1)
  · have h1 : k < r.cells.length := by omega
    have hc := f3 _ (nth_mem h1)
    obtain ⟨c, hcc⟩ : ∃ c : Nat, nth r.cells k = c := ⟨(nth r.cells k).toNat, by omega⟩
    have hcl : c < n * n := by rw [hcc] at hc; omega
    have hmc := nth_nats ms c
    have hts : nats ((r.cells.take (k + 1)).map fun c => mAt ms c.toNat) = nats ((r.cells.take k).map fun c => mAt ms c.toNat) ++ [((mAt ms c : Nat) : Int)] := by
      rw [hrem, hrem, take_succ_nth h1, List.map_append, hcc]
      rfl
    simp(maxSteps:=999999)(disch:=omega)only[go_sem,zA,zM,zS,zE,zL, hcc, hmc]
    intro g3 g4
    exact ⟨k + 1, g4, ⟨by omega, by omega⟩, ⟨⟨rfl, rfl⟩, by push_cast; rfl⟩, hle_eq rfl (hle_eq (by rw [hts]) (hle_nil _))⟩
  · have hke : k = r.cells.length := by omega
    subst hke
    rw [List.take_length] at hlen ⊢
    have hre : remM r (nats ms) 0 = r.cells.map fun c => mAt ms c.toNat := by
      unfold remM
      rw [List.drop_zero]
      refine List.map_congr_left fun c hc => ?_
      rw [nth_toNat, nth_nats, Int.toNat_natCast]
    have hown : OwnI [some ⟨g1, 1, cR r⟩, some ⟨g, 1, cl (eI .i64) (nats (r.cells.map fun c => mAt ms c.toNat))⟩] (.own 1 g 0 r.cells.length none) (nats (r.cells.map fun c => mAt ms c.toNat)) [1] := by
      have := OwnI.o (H := [some ⟨g1, 1, cR r⟩, some ⟨g, 1, cl (eI .i64) (nats (r.cells.map fun c => mAt ms c.toNat))⟩]) 1 g none (nats (r.cells.map fun c => mAt ms c.toNat)) [] (by rw [List.append_nil]; exact look_of (H := [some ⟨g1, 1, cR r⟩, some ⟨g, 1, cl (eI .i64) (nats (r.cells.map fun c => mAt ms c.toNat))⟩]) (id := 1) (b := ⟨g, 1, cl (eI .i64) (nats (r.cells.map fun c => mAt ms c.toNat))⟩) rfl)
      rwa [hlen] at this
    have hol : (r.cells.map fun c => mAt ms c.toNat).length = r.cells.length := List.length_map _
    have hkk : r.kind = 1 ∨ r.kind = 2 ∨ r.kind = 3 ∨ (r.kind = 4 ∨ r.kind = 5) ∧ 2 ≤ (r.cells.map fun c => mAt ms c.toNat).length := by
      simp only [ruleValid, decide_eq_true_eq] at hv
      have := hv.2.2
      unfold ruleShape at this
      omega
    have hrun := (ruleMasks_own r (r.cells.map fun c => mAt ms c.toNat) (by omega) (fun m hm' => by
      obtain ⟨c, hc, rfl⟩ := List.mem_map.1 hm'
      have := hm.lt hn c.toNat
      omega) hkk)
    rw [hol] at hrun
    unfold ruleM
    rw [hre]
    simp(maxSteps:=999999)(disch:=omega)only[go_sem,zA,zM,zS,zE,zL]
    refine OpS.mkDI hrun (⟨_, Tryz.func102, rfl, rfl⟩ : Enters Tryz.prog 102) rfl rfl (snap_two rfl hown.snap) ?_
    intro c H' S ho _
    simp(maxSteps:=999999)(disch:=omega)only[go_sem,zA,zM,zS,zE,zL]
    exact lessQ_ownI2 ho
theorem Equal_run (a b : List Int) (ha : a.length ≤ 2 ^ 40) : Reads Tryz.prog 55 [ints a, ints b] (bool (decide (a = b))) := by
  refine RunCall.cw (c := _) Tryz.func55 rfl (n := 26) Tryz.ntmps55 (rs := [.tmp 4]) rfl ?_
  simp only[List.length_cons,List.length_nil,zA,zS,List.replicate,List.cons_append,List.nil_append]
  simp(maxSteps:=999999)(disch:=omega)only[go_sem,zA,zM,zS,zE,zL]
  ((first|(with_reducible first|refine condK_dec ?_ ?_|refine condK_ndec ?_ ?_|refine condK_nb ?_ ?_)|refine condK_b ?_ ?_) <;> intro h0)
  rotate_left
  · simp(maxSteps:=999999)(disch:=omega)only[go_sem,zA,zM,zS,zE,zL]
    have : a ≠ b := fun h => h0 (by rw [h])
    rw [decide_eq_false this]
  have hl : a.length = b.length := by omega
  simp(maxSteps:=999999)(disch:=omega)only[go_sem,zA,zM,zS,zE,zL]
  refine loop_rule (fun k : Nat => a.length - k) (fun k => k ≤ a.length ∧ ∀ j : Nat, j < k → nth a j = nth b j) (fun k => [.k, .k, .a, .a, .a, .a, .a, .a, .a, .a, .a, .a, .k, .p (int k), .a, .a, .a, .a, .a, .a, .a, .a, .a, .a, .a, .a]) (fun _ => []) 0 ⟨Nat.zero_le _, fun j hj => absurd hj (Nat.not_lt_zero _)⟩ (by simp(maxSteps:=999999)(disch:=omega)only[go_sem,zA,zM,zS,zE,zL]; rfl) (hle_nil _) ?_
  rintro k ⟨hk, hall⟩
  simp(maxSteps:=999999)(disch:=omega)only[go_sem,zA,zM,zS,zE,zL]
  ((first|(with_reducible first|refine condK_dec ?_ ?_|refine condK_ndec ?_ ?_|refine condK_nb ?_ ?_)|refine condK_b ?_ ?_) <;> intro h1)
  · have h1 : k < a.length := by omega
    simp(maxSteps:=999999)(disch:=omega)only[go_sem,zA,zM,zS,zE,zL]
    refine drawP_q foll (by kernel_rfl) ?_
    simp(maxSteps:=999999)(disch:=omega)only[go_sem,Nat.reduceBEq,Bool.true_or,zA,zM,zS,zE,zL]
    ((first|(with_reducible first|refine condK_dec ?_ ?_|refine condK_ndec ?_ ?_|refine condK_nb ?_ ?_)|refine condK_b ?_ ?_) <;> intro h2)
    · simp(maxSteps:=999999)(disch:=omega)only[go_sem,zA,zM,zS,zE,zL]
      exact ⟨k + 1, ⟨⟨by omega, fun j hj => by
        by_cases hjk : j = k
        · rw [hjk]; exact h2
        · exact hall j (by omega)⟩, by omega⟩, by push_cast; rfl, hle_nil _⟩
    · simp(maxSteps:=999999)(disch:=omega)only[go_sem,zA,zM,zS,zE,zL]
      have : a ≠ b := fun h => h2 (by rw [h])
      rw [decide_eq_false this]
  · have hke : k = a.length := by omega
    have : a = b := by
      refine List.ext_getElem hl fun i h1 h2 => ?_
      have := hall i (by omega)
      rw [nth_eq (by omega), nth_eq (by omega)] at this
      exact this
    simp(maxSteps:=999999)(disch:=omega)only[go_sem,zA,zM,zS,zE,zL]
    rw [decide_eq_true this]
theorem l8Same_run (a b : List Int) (ha : a.length ≤ 2 ^ 40) : Reads Tryz.prog 68 [ints a, ints b] (bool (decide (a = b))) := by
  refine RunCall.cw (c := _) Tryz.func68 rfl (n := 26) Tryz.ntmps68 (rs := [.tmp 4]) rfl ?_
  simp only[List.length_cons,List.length_nil,zA,zS,List.replicate,List.cons_append,List.nil_append]
  simp(maxSteps:=999999)(disch:=omega)only[go_sem,zA,zM,zS,zE,zL]
  ((first|(with_reducible first|refine condK_dec ?_ ?_|refine condK_ndec ?_ ?_|refine condK_nb ?_ ?_)|refine condK_b ?_ ?_) <;> intro h0)
  rotate_left
  · simp(maxSteps:=999999)(disch:=omega)only[go_sem,zA,zM,zS,zE,zL]
    have : a ≠ b := fun h => h0 (by rw [h])
    rw [decide_eq_false this]
  have hl : a.length = b.length := by omega
  simp(maxSteps:=999999)(disch:=omega)only[go_sem,zA,zM,zS,zE,zL]
  refine loop_rule (fun k : Nat => a.length - k) (fun k => k ≤ a.length ∧ ∀ j : Nat, j < k → nth a j = nth b j) (fun k => [.k, .k, .a, .a, .a, .p (int k), .a, .a, .a, .a, .a, .a, .a, .a, .a, .a, .a, .a, .a, .a, .a, .a, .a, .a, .a, .a]) (fun _ => []) 0 ⟨Nat.zero_le _, fun j hj => absurd hj (Nat.not_lt_zero _)⟩ (by simp(maxSteps:=999999)(disch:=omega)only[go_sem,zA,zM,zS,zE,zL]; rfl) (hle_nil _) ?_
  rintro k ⟨hk, hall⟩
  simp(maxSteps:=999999)(disch:=omega)only[go_sem,zA,zM,zS,zE,zL]
  ((first|(with_reducible first|refine condK_dec ?_ ?_|refine condK_ndec ?_ ?_|refine condK_nb ?_ ?_)|refine condK_b ?_ ?_) <;> intro h1)
  · have h1 : k < a.length := by omega
    simp(maxSteps:=999999)(disch:=omega)only[go_sem,zA,zM,zS,zE,zL]
    refine drawP_q foll (by kernel_rfl) ?_
    simp(maxSteps:=999999)(disch:=omega)only[go_sem,Nat.reduceBEq,Bool.true_or,zA,zM,zS,zE,zL]
    ((first|(with_reducible first|refine condK_dec ?_ ?_|refine condK_ndec ?_ ?_|refine condK_nb ?_ ?_)|refine condK_b ?_ ?_) <;> intro h2)
    · simp(maxSteps:=999999)(disch:=omega)only[go_sem,zA,zM,zS,zE,zL]
      exact ⟨k + 1, ⟨⟨by omega, fun j hj => by
        by_cases hjk : j = k
        · rw [hjk]; exact h2
        · exact hall j (by omega)⟩, by omega⟩, by push_cast; rfl, hle_nil _⟩
    · simp(maxSteps:=999999)(disch:=omega)only[go_sem,zA,zM,zS,zE,zL]
      have : a ≠ b := fun h => h2 (by rw [h])
      rw [decide_eq_false this]
  · have hke : k = a.length := by omega
    have : a = b := by
      refine List.ext_getElem hl fun i h1 h2 => ?_
      have := hall i (by omega)
      rw [nth_eq (by omega), nth_eq (by omega)] at this
      exact this
    simp(maxSteps:=999999)(disch:=omega)only[go_sem,zA,zM,zS,zE,zL]
    rw [decide_eq_true this]
theorem ruleM_len (r : Rul) (ms : List Nat) : (ruleM r (nats ms)).length = r.cells.length := by
  unfold ruleM
  rw [ways_len _ _ _ _ (by unfold remM; simp)]
  simp
theorem OwnI.look1 {H : Heap} {c : CV} {zs : List Int} {S : List Nat} (h : OwnI H c zs S) (hz : 0 < zs.length) : ∃ (id g : Nat) (lim : Option Nat) (ys : List Int), c = .own id g 0 zs.length lim ∧ S = [id] ∧ look H id g = some ⟨g, 1, cl (eI .i64) (zs ++ ys)⟩ := by
  cases h with
  | e => simp at hz
  | o id g lim zs ys h => exact ⟨id, g, lim, ys, rfl, rfl, h⟩
theorem nth_app {zs ys : List Int} {j : Nat} (h : j < zs.length) : nth (zs ++ ys) j = nth zs j := by
  rw [nth_eq (by simp; omega), nth_eq (by omega)]
  simp only [Int.toNat_natCast, List.getElem_append_left h]
set_option maxHeartbeats 4000000 in
theorem NarrowRules_run {p : Puz} {n : Nat} (hp : PuzN p n) (hv : puzzleValid p = true) (ms : List Nat) (hm : MsN ms n) : Reads Tryz.prog 75 [aP p, ints (nats ms)] (ints (nats (rulM p ms))) := by
  have hn := hp.hn
  have hsq : 4 ≤ n * n ∧ n * n ≤ 16 := by rcases hn with rfl | rfl | rfl <;> omega
  have hl : (nats ms).length = n * n := by rw [nats_len]; exact hm.len
  have hz := hp.size
  have hrl := hp.rl
  have hmv := MasksValid_run hn ms hm
  rw [← hz] at hmv
  refine Reads.ice (Q := fun v H' => frzA H' v = some (ints (nats (rulM p ms)))) ?_ (fun r H' h => h)
  refine RunCall.cw (c := _) Tryz.func75 rfl (n := 51) Tryz.ntmps75 (rs := [.tmp 4]) rfl ?_
  simp only[List.length_cons,List.length_nil,zA,zS,List.replicate,List.cons_append,List.nil_append]
  simp(maxSteps:=999999)(disch:=omega)only[go_sem,zA,zM,zS,zE,zL]
  intro g0
  first | refine OpS.rd (PuzzleValid_run p hp.sm) (⟨_, Tryz.func15, rfl, rfl⟩ : Enters Tryz.prog 15) rfl rfl rfl rfl ?_ | refine Loud.rd (PuzzleValid_run p hp.sm) (⟨_, Tryz.func15, rfl, rfl⟩ : Enters Tryz.prog 15) rfl rfl rfl rfl ?_
  simp(maxSteps:=999999)(disch:=omega)only[go_sem,zA,zM,zS,zE,zL]
  ((with_reducible first|refine guardK_dec ?_ ?_|refine guardK_ndec ?_ ?_|refine guardK_nb ?_ ?_|refine guardK_split ?_ ?_|refine guardQ_dec ?_ ?_|refine guardL_dec ?_ ?_|refine guardQ_ndec ?_ ?_|refine guardL_ndec ?_ ?_|refine guardQ_nb ?_ ?_|refine guardL_nb ?_ ?_|refine guardQ_split ?_ ?_|refine guardL_split ?_ ?_) <;> intro c1 <;> simp(maxSteps:=999999)(disch:=omega)only[go_sem,zA,zM,zS,zE,zL, c1])
  rotate_left
  · exfalso; rw [hv] at c1; cases c1
  first | refine OpS.rd (hmv) (⟨_, Tryz.func30, rfl, rfl⟩ : Enters Tryz.prog 30) rfl rfl rfl rfl ?_ | refine Loud.rd (hmv) (⟨_, Tryz.func30, rfl, rfl⟩ : Enters Tryz.prog 30) rfl rfl rfl rfl ?_
  simp(maxSteps:=999999)(disch:=omega)only[go_sem,zA,zM,zS,zE,zL]
  refine OpS.mkQ (Clone_q (nats ms) (by omega) (by intro h; rw [h] at hl; simp at hl; omega)) (⟨_, Tryz.func31, rfl, rfl⟩ : Enters Tryz.prog 31) rfl rfl rfl ?_
  rintro _ _ ⟨g, rfl, rfl⟩
  refine ⟨rfl, ?_⟩
  simp(maxSteps:=999999)(disch:=omega)only[go_sem,zA,zM,zS,zE,zL]
  rw [hl]
  refine loop_rule (fun k : Nat => p.rules.length - k) (fun k => k ≤ p.rules.length) (fun k => [.a, .a, .k, .a, .a, .k, .a, .a, .a, .a, .a, .a, .a, .a, .a, .a, .a, .a, .a, .a, .a, .a, .a, .k, .k, .p (int k), .a, .a, .a, .a, .a, .a, .a, .a, .a, .a, .a, .a, .a, .a, .a, .a, .a, .a, .a, .a, .a, .a, .a, .a, .a]) (fun k => [some ⟨g0, 1, cP p⟩, some ⟨g, 1, cl (eI .i64) (nats (rulT p ms k))⟩]) 0 (Nat.zero_le _) (by simp(maxSteps:=999999)(disch:=omega)only[go_sem,zA,zM,zS,zE,zL]; rfl) (HLe.refl _) ?_
  intro k hk
  have hok : MsN (rulT p ms k) n := foldS_ok _ hm
  simp(maxSteps:=999999)(disch:=omega)only[go_sem,zA,zM,zS,zE,zL]
  ((first|(with_reducible first|refine condK_dec ?_ ?_|refine condK_ndec ?_ ?_|refine condK_nb ?_ ?_)|refine condK_b ?_ ?_) <;> intro h1)
  · have h1 : k < p.rules.length := by omega
    have hsu := rulT_succ (ms := ms) h1
    have hrv := hp.rv _ (nth_mem h1)
    generalize rulT p ms k = o at hok hsu ⊢
    have hol : (nats o).length = n * n := by rw [nats_len]; exact hok.len
    simp(maxSteps:=999999)(disch:=omega)only[go_sem,zA,zM,zS,zE,zL]
    intro g2
    generalize nth p.rules k = r at hsu hrv ⊢
    have hown : OwnI [some ⟨g0, 1, cP p⟩, some ⟨g, 1, cl (eI .i64) (nats o)⟩, some ⟨g2, 3, [.f (.int .i64 r.kind), .f (fints r.cells), .f (.int .i64 r.val)]⟩] (.own 1 g 0 (n * n) none) (nats o) [1] := by
      have := OwnI.o (H := [some ⟨g0, 1, cP p⟩, some ⟨g, 1, cl (eI .i64) (nats o)⟩, some ⟨g2, 3, [.f (.int .i64 r.kind), .f (fints r.cells), .f (.int .i64 r.val)]⟩]) 1 g none (nats o) [] (by rw [List.append_nil]; exact look_of (H := [some ⟨g0, 1, cP p⟩, some ⟨g, 1, cl (eI .i64) (nats o)⟩, some ⟨g2, 3, [.f (.int .i64 r.kind), .f (fints r.cells), .f (.int .i64 r.val)]⟩]) (id := 1) (b := ⟨g, 1, cl (eI .i64) (nats o)⟩) rfl)
      rwa [hol] at this
    have hrun := RuleMasks_own hn r o hrv hok
    rw [← hz] at hrun
    refine OpS.mkDI hrun (⟨_, Tryz.func90, rfl, rfl⟩ : Enters Tryz.prog 90) rfl rfl (snap_three snapD_aR' hown.snap snapD_int) ?_
    intro c H' S ho hS
    have hfl := ruleM_len r o
    have hfn : (nats (ruleM r (nats o))).length = r.cells.length := by rw [nats_len]; exact hfl
    obtain ⟨f1, f2, f3, f4⟩ := ruleValid_facts hrv
    obtain ⟨cid, cg, lim, ys, rfl, hSe, hlk⟩ := ho.look1 (by omega)
    have hid : 3 ≤ cid := (hS cid (by rw [hSe]; simp)).1
    obtain ⟨ci, rfl⟩ : ∃ ci, cid = ci + 3 := ⟨cid - 3, by omega⟩
    have hlk : look H' ci cg = some ⟨cg, 1, cl (eI .i64) (nats (ruleM r (nats o)) ++ ys)⟩ := hlk
    have hst : rulS o r = putR r (ruleM r (nats o)) o r.cells.length := rfl
    have hfd : ∀ j : Nat, j < r.cells.length → nth (nats (ruleM r (nats o)) ++ ys) j = (((ruleM r (nats o)).getD j 0 : Nat) : Int) := fun j hj => by rw [nth_app (by omega), nth_nats]; rfl
    have hpl := putR_len r (ruleM r (nats o)) o
    rw [hst] at hsu
    rw [hfn]
    generalize ruleM r (nats o) = fd at hsu hlk hfd hfn hpl ⊢
    have hyl : (nats fd ++ ys).length = r.cells.length + ys.length := by rw [List.length_append, hfn]
    generalize nats fd ++ ys = zs at hlk hfd hyl
    simp(maxSteps:=999999)(disch:=omega)only[go_sem,zA,zM,zS,zE,zL, hlk]
    refine loop_rule (fun j : Nat => r.cells.length - j) (fun j => j ≤ r.cells.length) (fun j => [.a, .a, .k, .a, .a, .k, .a, .k, .a, .a, .a, .a, .a, .a, .a, .a, .a, .a, .a, .a, .a, .a, .a, .k, .k, .k, .a, .a, .a, .a, .a, .a, .a, .k, .k, .p (int j), .a, .a, .a, .a, .a, .a, .a, .a, .a, .a, .a, .a, .a, .a, .a]) (fun j => some ⟨g0, 1, cP p⟩ :: some ⟨g, 1, cl (eI .i64) (nats (putR r fd o j))⟩ :: some ⟨g2, 3, [.f (.int .i64 r.kind), .f (fints r.cells), .f (.int .i64 r.val)]⟩ :: H') 0 (Nat.zero_le _) (by simp(maxSteps:=999999)(disch:=omega)only[go_sem,zA,zM,zS,zE,zL]; rfl) (HLe.refl _) ?_
    intro j hj
    simp(maxSteps:=999999)(disch:=omega)only[go_sem,zA,zM,zS,zE,zL]
    ((first|(with_reducible first|refine condK_dec ?_ ?_|refine condK_ndec ?_ ?_|refine condK_nb ?_ ?_)|refine condK_b ?_ ?_) <;> intro h2)
    · have h2 : j < r.cells.length := by omega
      have hcj := f3 _ (nth_mem h2)
      have hps := putR_succ r fd o j
      have hfj := hfd j h2
      obtain ⟨q, hq⟩ : ∃ q : Nat, nth r.cells j = q := ⟨(nth r.cells j).toNat, by omega⟩
      rw [hq, Int.toNat_natCast] at hps
      have hqn : q < n * n := by rw [hq] at hcj; omega
      have hQl : (nats (putR r fd o j)).length = n * n := by rw [nats_len, hpl]; exact hok.len
      simp(maxSteps:=999999)(disch:=omega)only[go_sem,zA,zM,zS,zE,zL, hlk, hfj, hq, hQl]
      exact ⟨j + 1, ⟨by omega, by omega⟩, by push_cast; rfl, hle_eq rfl (hle_eq (by rw [hps, ← nats_set, Int.toNat_natCast]) (HLe.refl _))⟩
    · have hje : j = r.cells.length := by omega
      subst hje
      rw [← hsu]
      simp(maxSteps:=999999)(disch:=omega)only[go_sem,zA,zM,zS,zE,zL]
      exact ⟨k + 1, ⟨by omega, by omega⟩, by push_cast; rfl, hle_eq rfl (hle_eq rfl (hle_nil _))⟩
  · have hke : k = p.rules.length := by omega
    have hM : rulT p ms k = rulM p ms := by rw [hke]; unfold rulT rulM; rw [List.take_length]
    rw [hM] at hok ⊢
    have hl2 : (nats (rulM p ms)).length = n * n := by rw [nats_len]; exact hok.len
    simp(maxSteps:=999999)(disch:=omega)only[go_sem,zA,zM,zS,zE,zL]
    rw [← hl2]
    exact ⟨_, HLe.refl _, frzA_own (E := eI .i64) (n := 1) (look_of (H := [some ⟨g0, 1, cP p⟩, some ⟨g, 1, cl (eI .i64) (nats (rulM p ms))⟩]) (id := 1) (b := ⟨g, 1, cl (eI .i64) (nats (rulM p ms))⟩) rfl)⟩
end Go.Lg
