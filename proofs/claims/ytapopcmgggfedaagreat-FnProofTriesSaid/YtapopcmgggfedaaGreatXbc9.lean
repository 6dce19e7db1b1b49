/- GpMB, cut to what is needed. -/
import Derived.Test.YtapopcmgggfedaaGreatXbc6
import Derived.Test.YtapopcmgggfedaaGreatXbc0
import Derived.Test.YtapopcmgggfedaaGreatXbc8
open Nat renaming reduceAdd → zA, reduceMul → zM, reduceSub → zS, reduceEqDiff → zE, reduceLeDiff → zL
set_option linter.unusedSimpArgs false
set_option linter.unusedVariables false
set_option maxRecDepth 100000
namespace Go.Lg
open Go.Proofs
theorem MasksValid_run {n : Nat} (hn : n = 2 ∨ n = 3 ∨ n = 4) (ms : List Nat) (hm : MsN ms n) : Reads Tryz.prog 30 [ints (nats ms), int n] (bool true) := by
  have hsq : 4 ≤ n * n ∧ n * n ≤ 16 := by rcases hn with rfl | rfl | rfl <;> omega
  have hsi : (n : Int) * n = ((n * n : Nat) : Int) := by push_cast; rfl
  have hl : (nats ms).length = n * n := by rw [nats_len]; exact hm.len
  have hpw := pow_n hn
  have d0 : decide (((0 : Nat) : Int) = 0) = true := rfl
  have hnn : decide (2 ≤ (n : Int) ∧ (n : Int) ≤ 4) = true := decide_eq_true (by omega)
  refine RunCall.cw (c := _) Tryz.func30 rfl (n := 34) Tryz.ntmps30 (rs := [.tmp 4]) rfl ?_
  simp only[List.length_cons,List.length_nil,zA,zS,List.replicate,List.cons_append,List.nil_append]
  simp(maxSteps:=999999)(disch:=omega)only[go_sem,zA,zM,zS,zE,zL]
  first | refine OpS.rd (sizeOk_run n) (⟨_, Tryz.func51, rfl, rfl⟩ : Enters Tryz.prog 51) rfl rfl rfl rfl ?_ | refine Loud.rd (sizeOk_run n) (⟨_, Tryz.func51, rfl, rfl⟩ : Enters Tryz.prog 51) rfl rfl rfl rfl ?_
  simp(maxSteps:=999999)(disch:=omega)only[go_sem,zA,zM,zS,zE,zL]
  rw [hnn]
  simp(maxSteps:=999999)(disch:=omega)only[go_sem,zA,zM,zS,zE,zL]
  ((first|(with_reducible first|refine condK_dec ?_ ?_|refine condK_ndec ?_ ?_|refine condK_nb ?_ ?_)|refine condK_b ?_ ?_) <;> intro h1)
  rotate_left
  · exfalso; rw [hsi, hl] at h1; exact h1 rfl
  simp(maxSteps:=999999)(disch:=omega)only[go_sem,zA,zM,zS,zE,zL]
  refine loop_rule (fun k : Nat => n * n - k) (fun k => k ≤ n * n) (fun k => [.a, .k, .a, .a, .a, .a, .a, .a, .a, .a, .a, .a, .a, .a, .a, .a, .a, .a, .k, .k, .p (int k), .a, .a, .a, .a, .a, .a, .a, .a, .a, .a, .a, .a, .a]) (fun _ => []) 0 (Nat.zero_le _) (by simp(maxSteps:=999999)(disch:=omega)only[go_sem,zA,zM,zS,zE,zL]; rfl) (hle_nil _) ?_
  intro k hk
  simp(maxSteps:=999999)(disch:=omega)only[go_sem,zA,zM,zS,zE,zL]
  ((first|(with_reducible first|refine condK_dec ?_ ?_|refine condK_ndec ?_ ?_|refine condK_nb ?_ ?_)|refine condK_b ?_ ?_) <;> intro h2)
  · have h2 : k < n * n := by omega
    have hv := hm.at k
    have hnk := nth_nats ms k
    have hc : bitsI .andNot .i64 ((mAt ms k : Nat) : Int) (((2 ^ (n + 1) - 2 : Nat)) : Int) = ((clr (mAt ms k) (2 ^ (n + 1) - 2) : Nat) : Int) := andNot_small (by omega) (by omega)
    have hz : clr (mAt ms k) (2 ^ (n + 1) - 2) = 0 := by
      obtain ⟨v1, v2⟩ := hv
      have key : ∀ n : Nat, (n = 2 ∨ n = 3 ∨ n = 4) → ∀ a : Nat, a ≤ 2 ^ (n + 1) - 2 → a % 2 = 0 → clr a (2 ^ (n + 1) - 2) = 0 := by
        rintro n (rfl | rfl | rfl)
        · have : ∀ a : Nat, a < 7 → a % 2 = 0 → clr a 6 = 0 := by decide
          exact fun a h1 h2 => this a (by omega) h2
        · have : ∀ a : Nat, a < 15 → a % 2 = 0 → clr a 14 = 0 := by decide
          exact fun a h1 h2 => this a (by omega) h2
        · have : ∀ a : Nat, a < 31 → a % 2 = 0 → clr a 30 = 0 := by decide
          exact fun a h1 h2 => this a (by omega) h2
      exact key n hn _ v1 v2
    rw [hz] at hc
    simp(maxSteps:=999999)(disch:=omega)only[go_sem,zA,zM,zS,zE,zL, hnk]
    ((with_reducible first|refine guardK_dec ?_ ?_|refine guardK_ndec ?_ ?_|refine guardK_nb ?_ ?_|refine guardK_split ?_ ?_|refine guardQ_dec ?_ ?_|refine guardL_dec ?_ ?_|refine guardQ_ndec ?_ ?_|refine guardL_ndec ?_ ?_|refine guardQ_nb ?_ ?_|refine guardL_nb ?_ ?_|refine guardQ_split ?_ ?_|refine guardL_split ?_ ?_) <;> intro h3 <;> simp(maxSteps:=999999)(disch:=omega)only[go_sem,zA,zM,zS,zE,zL, h3])
    · exfalso; omega
    first | refine OpS.rd (allValues_run hn) (⟨_, Tryz.func33, rfl, rfl⟩ : Enters Tryz.prog 33) rfl rfl rfl rfl ?_ | refine Loud.rd (allValues_run hn) (⟨_, Tryz.func33, rfl, rfl⟩ : Enters Tryz.prog 33) rfl rfl rfl rfl ?_
    simp(maxSteps:=999999)(disch:=omega)only[go_sem,zA,zM,zS,zE,zL]
    simp(maxSteps:=999999)(disch:=omega)only[go_sem,zA,zM,zS,zE,zL, hc, d0, Bool.not_true]
    exact ⟨k + 1, ⟨by omega, by omega⟩, by push_cast; omega, hle_nil _⟩
  · simp(maxSteps:=999999)(disch:=omega)only[go_sem,zA,zM,zS,zE,zL]
theorem onlyValue_run (m : Nat) (hm : m ≤ 30) : Reads Tryz.prog 34 [int m] (int (onlyV m : Nat)) := by
  refine RunCall.cw (c := _) Tryz.func34 rfl (n := 13) Tryz.ntmps34 (rs := [.tmp 2]) rfl ?_
  simp only[List.length_cons,List.length_nil,zA,zS,List.replicate,List.cons_append,List.nil_append]
  simp(maxSteps:=999999)(disch:=omega)only[go_sem,zA,zM,zS,zE,zL]
  refine loop_rule (fun v : Nat => 5 - v) (fun v => 1 ≤ v ∧ v ≤ 5 ∧ ∀ u : Nat, 1 ≤ u → u < v → m ≠ 2 ^ u) (fun v => [.k, .a, .a, .p (int v), .a, .a, .a, .a, .a, .a, .a, .a, .a]) (fun _ => []) 1 ⟨by omega, by omega, fun u h1 h2 => by omega⟩ (by simp(maxSteps:=999999)(disch:=omega)only[go_sem,zA,zM,zS,zE,zL]; rfl) (hle_nil _) ?_
  rintro v ⟨hv1, hv2, hno⟩
  simp(maxSteps:=999999)(disch:=omega)only[go_sem,zA,zM,zS,zE,zL]
  ((first|(with_reducible first|refine condK_dec ?_ ?_|refine condK_ndec ?_ ?_|refine condK_nb ?_ ?_)|refine condK_b ?_ ?_) <;> intro h1)
  · have h1 : v ≤ 4 := by omega
    have hs := shl_small (v := (v : Int)) (by omega)
    rw [Int.toNat_natCast] at hs
    simp(maxSteps:=999999)(disch:=omega)only[go_sem,zA,zM,zS,zE,zL, hs]
    ((first|(with_reducible first|refine condK_dec ?_ ?_|refine condK_ndec ?_ ?_|refine condK_nb ?_ ?_)|refine condK_b ?_ ?_) <;> intro h2)
    · have h2 : m = 2 ^ v := by exact_mod_cast h2
      have hov : onlyV m = v := by
        rw [h2]
        have : v = 1 ∨ v = 2 ∨ v = 3 ∨ v = 4 := by omega
        rcases this with rfl | rfl | rfl | rfl <;> rfl
      simp(maxSteps:=999999)(disch:=omega)only[go_sem,zA,zM,zS,zE,zL]
      rw [hov]
    · simp(maxSteps:=999999)(disch:=omega)only[go_sem,zA,zM,zS,zE,zL]
      refine ⟨v + 1, ⟨⟨by omega, by omega, fun u u1 u2 => ?_⟩, by omega⟩, by push_cast; rfl, hle_nil _⟩
      by_cases huv : u = v
      · rw [huv]; intro h; exact h2 (by rw [h])
      · exact hno u u1 (by omega)
  · have hve : v = 5 := by omega
    subst hve
    have h1 := hno 1 (by omega) (by omega)
    have h2 := hno 2 (by omega) (by omega)
    have h3 := hno 3 (by omega) (by omega)
    have h4 := hno 4 (by omega) (by omega)
    have hov : onlyV m = 0 := by
      unfold onlyV
      rw [if_neg h1, if_neg h2, if_neg h3, if_neg h4]
    simp(maxSteps:=999999)(disch:=omega)only[go_sem,zA,zM,zS,zE,zL]
    rw [hov]
    rfl
theorem Clone_q (xs : List Int) (hx : xs.length ≤ 2 ^ 40) (h0 : xs ≠ []) : RunCall Tryz.prog 31 [ints xs] [] (ownQ (eI .i64) 1 xs) := by
  have hp : 0 < xs.length := List.length_pos_iff.2 h0
  refine RunCall.cw (c := _) Tryz.func31 rfl (n := 8) Tryz.ntmps31 (rs := [.tmp 2]) rfl ?_
  simp only[List.length_cons,List.length_nil,zA,zS,List.replicate,List.cons_append,List.nil_append]
  simp(maxSteps:=999999)(disch:=omega)only[go_sem,zA,zM,zS,zE,zL, binA_ne ti23 rfl hp]
  intro g g'
  rw [Nat.zero_add]
  exact lessQ_own (E := eI .i64) (n := 1) (HLe.refl _)
def startM (p : Puz) : List Nat := p.given.map fun v => if 0 < v then 2 ^ v.toNat else 2 ^ (p.size.toNat + 1) - 2
theorem startM_at {p : Puz} {k : Nat} (h : k < p.given.length) : mAt (startM p) k = if 0 < nth p.given k then 2 ^ (nth p.given k).toNat else 2 ^ (p.size.toNat + 1) - 2 := by
  unfold mAt startM
  rw [nth_eq (by omega)]
  simp only [List.getD, List.getElem?_map, List.getElem?_eq_getElem h, Int.toNat_natCast, Option.map_some, Option.getD_some]
theorem startM_ok {p : Puz} {n : Nat} (hp : PuzN p n) (hg : GrdN p.given n) : MsN (startM p) n := by
  refine ⟨by unfold startM; rw [List.length_map]; exact hg.len, fun m hm => ?_⟩
  unfold startM at hm
  obtain ⟨v, hv, rfl⟩ := List.mem_map.1 hm
  obtain ⟨k, hk, rfl⟩ := List.mem_iff_getElem.1 hv
  have hb := hg.val k hk
  rw [nth_eq (by omega)] at hb
  simp only [Int.toNat_natCast] at hb
  have hz : p.size.toNat = n := by rw [hp.size]; rfl
  have hn := hp.hn
  rw [hz]
  generalize p.given[k] = v at hb
  obtain ⟨u, rfl⟩ : ∃ u : Nat, v = u := ⟨v.toNat, by omega⟩
  have hu : u ≤ n := by omega
  rcases hn with rfl | rfl | rfl
  · have : u = 0 ∨ u = 1 ∨ u = 2 := by omega
    rcases this with rfl | rfl | rfl <;> decide
  · have : u = 0 ∨ u = 1 ∨ u = 2 ∨ u = 3 := by omega
    rcases this with rfl | rfl | rfl | rfl <;> decide
  · have : u = 0 ∨ u = 1 ∨ u = 2 ∨ u = 3 ∨ u = 4 := by omega
    rcases this with rfl | rfl | rfl | rfl | rfl <;> decide
set_option maxHeartbeats 2000000 in
theorem StartMasks_run {p : Puz} {n : Nat} (hp : PuzN p n) (hv : puzzleValid p = true) (hg : GrdN p.given n) : Reads Tryz.prog 18 [aP p] (ints (nats (startM p))) := by
  have hn := hp.hn
  have hsq : 4 ≤ n * n ∧ n * n ≤ 16 := by rcases hn with rfl | rfl | rfl <;> omega
  have hz := hp.size
  have hl := hg.len
  have hpw := pow_n hn
  have hsl : (startM p).length = p.given.length := by simp [startM]
  refine Reads.ice (Q := fun v H' => frzA H' v = some (ints (nats (startM p)))) ?_ (fun r H' h => h)
  refine RunCall.cw (c := _) Tryz.func18 rfl (n := 36) Tryz.ntmps18 (rs := [.tmp 2]) rfl ?_
  simp only[List.length_cons,List.length_nil,zA,zS,List.replicate,List.cons_append,List.nil_append]
  simp(maxSteps:=999999)(disch:=omega)only[go_sem,zA,zM,zS,zE,zL]
  intro g1
  first | refine OpS.rd (PuzzleValid_run p hp.sm) (⟨_, Tryz.func15, rfl, rfl⟩ : Enters Tryz.prog 15) rfl rfl rfl rfl ?_ | refine Loud.rd (PuzzleValid_run p hp.sm) (⟨_, Tryz.func15, rfl, rfl⟩ : Enters Tryz.prog 15) rfl rfl rfl rfl ?_
  simp(maxSteps:=999999)(disch:=omega)only[go_sem,zA,zM,zS,zE,zL]
  rw [hv]
  simp(maxSteps:=999999)(disch:=omega)only[go_sem,zA,zM,zS,zE,zL]
  intro g2
  refine loop_rule2 (fun (k : Nat) (b : List Nat) => p.given.length - k) (fun k b => k ≤ p.given.length ∧ b.length = p.given.length ∧ ∀ i, i < k → mAt b i = mAt (startM p) i) (fun k b => [.a, .k, .a, .k, .a, .a, .a, .a, .a, .a, .a, .a, .a, .a, .k, .k, .p (int k), .a, .a, .a, .a, .a, .a, .a, .a, .a, .a, .a, .a, .a, .a, .a, .a, .a, .a, .a]) (fun k b => [some ⟨g1, 1, cP p⟩, some ⟨g2, 1, cl (eI .i64) (nats b)⟩]) 0 (List.replicate p.given.length 0) ⟨Nat.zero_le _, by simp, fun i hi => absurd hi (Nat.not_lt_zero _)⟩ (by simp(maxSteps:=999999)(disch:=omega)only[go_sem,zA,zM,zS,zE,zL]; rfl) (hle_eq rfl (hle_eq (by rw [nats_zeros]) (hle_nil _))) ?_
  rintro k b ⟨hk, hbl, hbi⟩
  simp(maxSteps:=999999)(disch:=omega)only[go_sem,zA,zM,zS,zE,zL]
  ((first|(with_reducible first|refine condK_dec ?_ ?_|refine condK_ndec ?_ ?_|refine condK_nb ?_ ?_)|refine condK_b ?_ ?_) <;> intro h1)
  · have h1 : k < p.given.length := by omega
    have hav := startM_at h1
    have hzn : p.size.toNat = n := by rw [hz]; rfl
    rw [hzn] at hav
    have hgv := hg.val k h1
    have hnb : ∀ v : Nat, (nats b).set k ((v : Nat) : Int) = nats (b.set k v) := nats_set b k
    have hnl : ∀ b : List Nat, (nats b).length = b.length := nats_len
    have hstep : ∀ c : List Nat, c.length = p.given.length → (∀ i, i ≠ k → mAt c i = mAt b i) → mAt c k = mAt (startM p) k → ∀ i, i < k + 1 → mAt c i = mAt (startM p) i := fun c hc h1 h2 i hi => by
      by_cases hik : i = k
      · rw [hik]; exact h2
      · rw [h1 i hik]; exact hbi i (by omega)
    simp(maxSteps:=999999)(disch:=omega)only[go_sem,zA,zM,zS,zE,zL]
    rw [hz]
    first | refine OpS.rd (allValues_run hn) (⟨_, Tryz.func33, rfl, rfl⟩ : Enters Tryz.prog 33) rfl rfl rfl rfl ?_ | refine Loud.rd (allValues_run hn) (⟨_, Tryz.func33, rfl, rfl⟩ : Enters Tryz.prog 33) rfl rfl rfl rfl ?_
    simp(maxSteps:=999999)(disch:=omega)only[go_sem,zA,zM,zS,zE,zL]
    simp(maxSteps:=999999)(disch:=omega)only[go_sem,zA,zM,zS,zE,zL, hnl, setRange_nats]
    ((first|(with_reducible first|refine condK_dec ?_ ?_|refine condK_ndec ?_ ?_|refine condK_nb ?_ ?_)|refine condK_b ?_ ?_) <;> intro h2)
    · rw [if_pos h2] at hav
      have hs := shl_small (v := nth p.given k) (by omega)
      have hsr2 : ∀ v u : Nat, setRange (cl (eI .i64) (nats (b.set k v))) (0 + ((k : Nat) : Int).toNat * 1) [CV.f (.int .i64 ((u : Nat) : Int))] = cl (eI .i64) (nats ((b.set k v).set k u)) := fun v u => setRange_nats (by rw [List.length_set]; omega)
      simp(maxSteps:=999999)(disch:=omega)only[go_sem,zA,zM,zS,zE,zL, hnl, hs, hsr2]
      refine ⟨k + 1, _, ⟨⟨by omega, ?_, hstep _ ?_ (fun i hi => ?_) ?_⟩, by omega⟩, by push_cast; rfl, HLe.refl _⟩
      · rw [List.length_set, List.length_set]; exact hbl
      · rw [List.length_set, List.length_set]; exact hbl
      · rw [mAt_set (by rw [List.length_set]; omega), if_neg hi, mAt_set (by omega), if_neg hi]
      · rw [mAt_set (by rw [List.length_set]; omega), if_pos rfl, hav]
    · rw [if_neg h2] at hav
      simp(maxSteps:=999999)(disch:=omega)only[go_sem,zA,zM,zS,zE,zL]
      refine ⟨k + 1, _, ⟨⟨by omega, ?_, hstep _ ?_ (fun i hi => ?_) ?_⟩, by omega⟩, by push_cast; rfl, HLe.refl _⟩
      · rw [List.length_set]; exact hbl
      · rw [List.length_set]; exact hbl
      · rw [mAt_set (by omega), if_neg hi]
      · rw [mAt_set (by omega), if_pos rfl, hav]
  · have hke : k = p.given.length := by omega
    have hb : b = startM p := mAt_ext (by omega) fun i hi => hbi i (by omega)
    subst hb
    simp(maxSteps:=999999)(disch:=omega)only[go_sem,zA,zM,zS,zE,zL]
    have hnl : p.given.length = (nats (startM p)).length := by rw [nats_len, hsl]
    rw [hnl]
    exact ⟨_, HLe.refl _, frzA_own (E := eI .i64) (n := 1) (look_of (b := ⟨g2, 1, cl (eI .i64) (nats (startM p))⟩) rfl)⟩
set_option maxHeartbeats 2000000 in
theorem sStartMasks_run {p : Puz} {n : Nat} (hp : PuzN p n) (hv : puzzleValid p = true) (hg : GrdN p.given n) : Reads Tryz.prog 48 [aP p] (ints (nats (startM p))) := by
  have hn := hp.hn
  have hsq : 4 ≤ n * n ∧ n * n ≤ 16 := by rcases hn with rfl | rfl | rfl <;> omega
  have hz := hp.size
  have hl := hg.len
  have hpw := pow_n hn
  have hsl : (startM p).length = p.given.length := by simp [startM]
  refine Reads.ice (Q := fun v H' => frzA H' v = some (ints (nats (startM p)))) ?_ (fun r H' h => h)
  refine RunCall.cw (c := _) Tryz.func48 rfl (n := 41) Tryz.ntmps48 (rs := [.tmp 2]) rfl ?_
  simp only[List.length_cons,List.length_nil,zA,zS,List.replicate,List.cons_append,List.nil_append]
  simp(maxSteps:=999999)(disch:=omega)only[go_sem,zA,zM,zS,zE,zL]
  intro g1 g2
  refine loop_rule2 (fun (k g : Nat) => p.given.length - k) (fun k g => k ≤ p.given.length) (fun k g => [.a, .k, .a, .p (.c (.own 1 g 0 k none)), .p (int k), .a, .a, .a, .a, .a, .a, .a, .a, .a, .a, .a, .a, .a, .a, .a, .a, .a, .a, .a, .a, .a, .a, .a, .a, .a, .a, .a, .a, .a, .a, .a, .a, .a, .a, .a, .a]) (fun k g => [some ⟨g1, 1, cP p⟩, some ⟨g, 1, cl (eI .i64) (nats ((startM p).take k))⟩]) 0 g2 (Nat.zero_le _) (by simp(maxSteps:=999999)(disch:=omega)only[go_sem,zA,zM,zS,zE,zL]; rfl) (HLe.refl _) ?_
  intro k g hk
  have htl : (nats ((startM p).take k)).length = k := by rw [nats_len, List.length_take]; omega
  simp(maxSteps:=999999)(disch:=omega)only[go_sem,zA,zM,zS,zE,zL]
  ((with_reducible first|refine guardK_dec ?_ ?_|refine guardK_ndec ?_ ?_|refine guardK_nb ?_ ?_|refine guardK_split ?_ ?_|refine guardQ_dec ?_ ?_|refine guardL_dec ?_ ?_|refine guardQ_ndec ?_ ?_|refine guardL_ndec ?_ ?_|refine guardQ_nb ?_ ?_|refine guardL_nb ?_ ?_|refine guardQ_split ?_ ?_|refine guardL_split ?_ ?_) <;> intro h1 <;> simp(maxSteps:=999999)(disch:=omega)only[go_sem,zA,zM,zS,zE,zL, h1])
  · first | refine OpS.rd (sPuzzleValid_run p hp.sm) (⟨_, Tryz.func26, rfl, rfl⟩ : Enters Tryz.prog 26) rfl rfl rfl rfl ?_ | refine Loud.rd (sPuzzleValid_run p hp.sm) (⟨_, Tryz.func26, rfl, rfl⟩ : Enters Tryz.prog 26) rfl rfl rfl rfl ?_
    simp(maxSteps:=999999)(disch:=omega)only[go_sem,zA,zM,zS,zE,zL]
    rw [hv]
    have h1 : k < p.given.length := by omega
    have hav := startM_at h1
    have hzn : p.size.toNat = n := by rw [hz]; rfl
    rw [hzn] at hav
    have hgv := hg.val k h1
    have hts := nats_tk (ms := startM p) (k := k) (by omega)
    simp(maxSteps:=999999)(disch:=omega)only[go_sem,zA,zM,zS,zE,zL]
    ((first|(with_reducible first|refine condK_dec ?_ ?_|refine condK_ndec ?_ ?_|refine condK_nb ?_ ?_)|refine condK_b ?_ ?_) <;> intro h2)
    · rw [if_pos h2] at hav
      have hs := shl_small (v := nth p.given k) (by omega)
      simp(maxSteps:=999999)(disch:=omega)only[go_sem,zA,zM,zS,zE,zL, hs]
      intro g3 g4
      exact ⟨k + 1, g4, ⟨by omega, by omega⟩, ⟨⟨rfl, rfl⟩, by push_cast; rfl⟩, hle_eq rfl (hle_eq (by rw [hts, hav]) (hle_nil _))⟩
    · rw [if_neg h2] at hav
      have hs := shl_n hn
      rw [← hz] at hs
      simp(maxSteps:=999999)(disch:=omega)only[go_sem,zA,zM,zS,zE,zL, hs]
      have e : ((2 ^ (n + 1) - 2 : Nat) : Int) = ((2 ^ (n + 1) : Nat) : Int) - 2 := by omega
      intro g3 g4
      exact ⟨k + 1, g4, ⟨by omega, by omega⟩, ⟨⟨rfl, rfl⟩, by push_cast; rfl⟩, hle_eq rfl (hle_eq (by rw [hts, hav, e]) (hle_nil _))⟩
  · have hke : k = p.given.length := by omega
    subst hke
    rw [List.take_of_length_le (by omega)] at htl ⊢
    have hfr := frzA_own (E := eI .i64) (n := 1) (lim := none) (H := [some ⟨g1, 1, cP p⟩, some ⟨g, 1, cl (eI .i64) (nats (startM p))⟩]) (look_of (b := ⟨g, 1, cl (eI .i64) (nats (startM p))⟩) (id := 1) rfl)
    rw [htl] at hfr
    exact ⟨_, HLe.refl _, hfr⟩
end Go.Lg
