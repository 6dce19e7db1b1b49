/- GpMB, GpMC, cut to what is needed. -/
import Derived.Test.YtapopcmgggfedaaVac5
import Derived.Test.YtapopcmgggfedaaVac0
import Derived.Test.YtapopcmgggfedaaVac7
open Nat(reduceAdd reduceMul reduceSub reduceEqDiff reduceLeDiff)
set_option linter.unusedSimpArgs false
set_option linter.unusedVariables false
set_option maxRecDepth 100000
namespace Go.Lg
open Go.Proofs
theorem MasksValid_run {n : Nat} (hn : n = 2 ∨ n = 3 ∨ n = 4) (ms : List Nat) (hm : MsN ms n) : Reads Try.prog 43 [ints (nats ms), int n] (bool true) := by
  have hsq : 4 ≤ n * n ∧ n * n ≤ 16 := by rcases hn with rfl | rfl | rfl <;> omega
  have hsi : (n : Int) * n = ((n * n : Nat) : Int) := by push_cast; rfl
  have hl : (nats ms).length = n * n := by rw [nats_len]; exact hm.len
  have hpw := pow_n hn
  have d0 : decide (((0 : Nat) : Int) = 0) = true := rfl
  have hnn : decide (2 ≤ (n : Int) ∧ (n : Int) ≤ 4) = true := decide_eq_true (by omega)
  refine RunCall.cw (c := _) Try.func43 rfl (n := 34) Try.ntmps43 (rs := [.tmp 4]) rfl ?_
  simp only[List.length_cons,List.length_nil,reduceAdd,reduceSub,List.replicate,List.cons_append,List.nil_append]
  simp(maxSteps:=999999)(disch:=omega)only[go_sem,reduceAdd,reduceMul,reduceSub,reduceEqDiff,reduceLeDiff]
  first | refine OpS.rd (sizeOk_run n) (⟨_, Try.func50, rfl, rfl⟩ : Enters Try.prog 50) rfl rfl rfl rfl ?_ | refine Loud.rd (sizeOk_run n) (⟨_, Try.func50, rfl, rfl⟩ : Enters Try.prog 50) rfl rfl rfl rfl ?_
  simp(maxSteps:=999999)(disch:=omega)only[go_sem,reduceAdd,reduceMul,reduceSub,reduceEqDiff,reduceLeDiff]
  rw [hnn]
  simp(maxSteps:=999999)(disch:=omega)only[go_sem,reduceAdd,reduceMul,reduceSub,reduceEqDiff,reduceLeDiff]
  ((first|(with_reducible first|refine condK_dec ?_ ?_|refine condK_ndec ?_ ?_|refine condK_nb ?_ ?_)|refine condK_b ?_ ?_) <;> intro h1)
  rotate_left
  · exfalso; rw [hsi, hl] at h1; exact h1 rfl
  simp(maxSteps:=999999)(disch:=omega)only[go_sem,reduceAdd,reduceMul,reduceSub,reduceEqDiff,reduceLeDiff]
  refine loop_rule (fun k : Nat => n * n - k) (fun k => k ≤ n * n) (fun k => [.a, .k, .a, .a, .a, .a, .a, .a, .a, .a, .a, .a, .a, .a, .a, .a, .a, .a, .k, .k, .p (int k), .a, .a, .a, .a, .a, .a, .a, .a, .a, .a, .a, .a, .a]) (fun _ => []) 0 (Nat.zero_le _) (by simp(maxSteps:=999999)(disch:=omega)only[go_sem,reduceAdd,reduceMul,reduceSub,reduceEqDiff,reduceLeDiff]; rfl) (hle_nil _) ?_
  intro k hk
  simp(maxSteps:=999999)(disch:=omega)only[go_sem,reduceAdd,reduceMul,reduceSub,reduceEqDiff,reduceLeDiff]
  ((first|(with_reducible first|refine condK_dec ?_ ?_|refine condK_ndec ?_ ?_|refine condK_nb ?_ ?_)|refine condK_b ?_ ?_) <;> intro h2)
  · have h2 : k < n * n := by omega
    have hv := hm.at k
    have hnk := nth_nats ms k
    have hc : bitsI .andNot .i64 ((mAt ms k : Nat) : Int) (((2 ^ (n + 1) - 2 : Nat)) : Int) = ((clr (mAt ms k) (2 ^ (n + 1) - 2) : Nat) : Int) := andNot_small (by omega) (by omega)
    have hz : clr (mAt ms k) (2 ^ (n + 1) - 2) = 0 := by
      obtain ⟨v1, v2⟩ := hv
      have key : ∀ n : Nat, (n = 2 ∨ n = 3 ∨ n = 4) → ∀ a : Nat, a ≤ 2 ^ (n + 1) - 2 → a % 2 = 0 → clr a (2 ^ (n + 1) - 2) = 0 := by
        rintro n (rfl | rfl | rfl)
        · have : ∀ a : Nat, a < 7 → a % 2 = 0 → clr a 6 = 0 := by decide
          exact fun a h1 h2 => this a (by omega) h2
        · have : ∀ a : Nat, a < 15 → a % 2 = 0 → clr a 14 = 0 := by decide
          exact fun a h1 h2 => this a (by omega) h2
        · have : ∀ a : Nat, a < 31 → a % 2 = 0 → clr a 30 = 0 := by decide
          exact fun a h1 h2 => this a (by omega) h2
      exact key n hn _ v1 v2
    rw [hz] at hc
    simp(maxSteps:=999999)(disch:=omega)only[go_sem,reduceAdd,reduceMul,reduceSub,reduceEqDiff,reduceLeDiff, hnk]
    ((with_reducible first|refine guardK_dec ?_ ?_|refine guardK_ndec ?_ ?_|refine guardK_nb ?_ ?_|refine guardK_split ?_ ?_|refine guardQ_dec ?_ ?_|refine guardL_dec ?_ ?_|refine guardQ_ndec ?_ ?_|refine guardL_ndec ?_ ?_|refine guardQ_nb ?_ ?_|refine guardL_nb ?_ ?_|refine guardQ_split ?_ ?_|refine guardL_split ?_ ?_) <;> intro h3 <;> simp(maxSteps:=999999)(disch:=omega)only[go_sem,reduceAdd,reduceMul,reduceSub,reduceEqDiff,reduceLeDiff, h3])
    · exfalso; omega
    first | refine OpS.rd (allValues_run hn) (⟨_, Try.func45, rfl, rfl⟩ : Enters Try.prog 45) rfl rfl rfl rfl ?_ | refine Loud.rd (allValues_run hn) (⟨_, Try.func45, rfl, rfl⟩ : Enters Try.prog 45) rfl rfl rfl rfl ?_
    simp(maxSteps:=999999)(disch:=omega)only[go_sem,reduceAdd,reduceMul,reduceSub,reduceEqDiff,reduceLeDiff]
    simp(maxSteps:=999999)(disch:=omega)only[go_sem,reduceAdd,reduceMul,reduceSub,reduceEqDiff,reduceLeDiff, hc, d0, Bool.not_true]
    exact ⟨k + 1, ⟨by omega, by omega⟩, by push_cast; omega, hle_nil _⟩
  · simp(maxSteps:=999999)(disch:=omega)only[go_sem,reduceAdd,reduceMul,reduceSub,reduceEqDiff,reduceLeDiff]
theorem onlyValue_run (m : Nat) (hm : m ≤ 30) : Reads Try.prog 46 [int m] (int (onlyV m : Nat)) := by
  refine RunCall.cw (c := _) Try.func46 rfl (n := 13) Try.ntmps46 (rs := [.tmp 2]) rfl ?_
  simp only[List.length_cons,List.length_nil,reduceAdd,reduceSub,List.replicate,List.cons_append,List.nil_append]
  simp(maxSteps:=999999)(disch:=omega)only[go_sem,reduceAdd,reduceMul,reduceSub,reduceEqDiff,reduceLeDiff]
  refine loop_rule (fun v : Nat => 5 - v) (fun v => 1 ≤ v ∧ v ≤ 5 ∧ ∀ u : Nat, 1 ≤ u → u < v → m ≠ 2 ^ u) (fun v => [.k, .a, .a, .p (int v), .a, .a, .a, .a, .a, .a, .a, .a, .a]) (fun _ => []) 1 ⟨by omega, by omega, fun u h1 h2 => by omega⟩ (by simp(maxSteps:=999999)(disch:=omega)only[go_sem,reduceAdd,reduceMul,reduceSub,reduceEqDiff,reduceLeDiff]; rfl) (hle_nil _) ?_
  rintro v ⟨hv1, hv2, hno⟩
  simp(maxSteps:=999999)(disch:=omega)only[go_sem,reduceAdd,reduceMul,reduceSub,reduceEqDiff,reduceLeDiff]
  ((first|(with_reducible first|refine condK_dec ?_ ?_|refine condK_ndec ?_ ?_|refine condK_nb ?_ ?_)|refine condK_b ?_ ?_) <;> intro h1)
  · have h1 : v ≤ 4 := by omega
    have hs := shl_small (v := (v : Int)) (by omega)
    rw [Int.toNat_natCast] at hs
    simp(maxSteps:=999999)(disch:=omega)only[go_sem,reduceAdd,reduceMul,reduceSub,reduceEqDiff,reduceLeDiff, hs]
    ((first|(with_reducible first|refine condK_dec ?_ ?_|refine condK_ndec ?_ ?_|refine condK_nb ?_ ?_)|refine condK_b ?_ ?_) <;> intro h2)
    · have h2 : m = 2 ^ v := by exact_mod_cast h2
      have hov : onlyV m = v := by
        rw [h2]
        have : v = 1 ∨ v = 2 ∨ v = 3 ∨ v = 4 := by omega
        rcases this with rfl | rfl | rfl | rfl <;> rfl
      simp(maxSteps:=999999)(disch:=omega)only[go_sem,reduceAdd,reduceMul,reduceSub,reduceEqDiff,reduceLeDiff]
      rw [hov]
    · simp(maxSteps:=999999)(disch:=omega)only[go_sem,reduceAdd,reduceMul,reduceSub,reduceEqDiff,reduceLeDiff]
      refine ⟨v + 1, ⟨⟨by omega, by omega, fun u u1 u2 => ?_⟩, by omega⟩, by push_cast; rfl, hle_nil _⟩
      by_cases huv : u = v
      · rw [huv]; intro h; exact h2 (by rw [h])
      · exact hno u u1 (by omega)
  · have hve : v = 5 := by omega
    subst hve
    have h1 := hno 1 (by omega) (by omega)
    have h2 := hno 2 (by omega) (by omega)
    have h3 := hno 3 (by omega) (by omega)
    have h4 := hno 4 (by omega) (by omega)
    have hov : onlyV m = 0 := by
      unfold onlyV
      rw [if_neg h1, if_neg h2, if_neg h3, if_neg h4]
    simp(maxSteps:=999999)(disch:=omega)only[go_sem,reduceAdd,reduceMul,reduceSub,reduceEqDiff,reduceLeDiff]
    rw [hov]
    rfl
theorem Clone_q (xs : List Int) (hx : xs.length ≤ 2 ^ 40) (h0 : xs ≠ []) : RunCall Try.prog 38 [ints xs] [] (ownQ (eI .i64) 1 xs) := by
  have hp : 0 < xs.length := List.length_pos_iff.2 h0
  refine RunCall.cw (c := _) Try.func38 rfl (n := 8) Try.ntmps38 (rs := [.tmp 2]) rfl ?_
  simp only[List.length_cons,List.length_nil,reduceAdd,reduceSub,List.replicate,List.cons_append,List.nil_append]
  simp(maxSteps:=999999)(disch:=omega)only[go_sem,reduceAdd,reduceMul,reduceSub,reduceEqDiff,reduceLeDiff, binA_ne ti23 rfl hp]
  intro g g'
  rw [Nat.zero_add]
  exact lessQ_own (E := eI .i64) (n := 1) (HLe.refl _)
def startM (p : Puz) : List Nat := p.given.map fun v => if 0 < v then 2 ^ v.toNat else 2 ^ (p.size.toNat + 1) - 2
theorem startM_at {p : Puz} {k : Nat} (h : k < p.given.length) : mAt (startM p) k = if 0 < nth p.given k then 2 ^ (nth p.given k).toNat else 2 ^ (p.size.toNat + 1) - 2 := by
  unfold mAt startM
  rw [nth_eq (by omega)]
  simp only [List.getD, List.getElem?_map, List.getElem?_eq_getElem h, Int.toNat_natCast, Option.map_some, Option.getD_some]
theorem startM_ok {p : Puz} {n : Nat} (hp : PuzN p n) (hg : GrdN p.given n) : MsN (startM p) n := by
  refine ⟨by unfold startM; rw [List.length_map]; exact hg.len, fun m hm => ?_⟩
  unfold startM at hm
  obtain ⟨v, hv, rfl⟩ := List.mem_map.1 hm
  obtain ⟨k, hk, rfl⟩ := List.mem_iff_getElem.1 hv
  have hb := hg.val k hk
  rw [nth_eq (by omega)] at hb
  simp only [Int.toNat_natCast] at hb
  have hz : p.size.toNat = n := by rw [hp.size]; rfl
  have hn := hp.hn
  rw [hz]
  generalize p.given[k] = v at hb
  obtain ⟨u, rfl⟩ : ∃ u : Nat, v = u := ⟨v.toNat, by omega⟩
  have hu : u ≤ n := by omega
  rcases hn with rfl | rfl | rfl
  · have : u = 0 ∨ u = 1 ∨ u = 2 := by omega
    rcases this with rfl | rfl | rfl <;> decide
  · have : u = 0 ∨ u = 1 ∨ u = 2 ∨ u = 3 := by omega
    rcases this with rfl | rfl | rfl | rfl <;> decide
  · have : u = 0 ∨ u = 1 ∨ u = 2 ∨ u = 3 ∨ u = 4 := by omega
    rcases this with rfl | rfl | rfl | rfl | rfl <;> decide
set_option maxHeartbeats 2000000 in
theorem StartMasks_run {p : Puz} {n : Nat} (hp : PuzN p n) (hv : puzzleValid p = true) (hg : GrdN p.given n) : Reads Try.prog 23 [aP p] (ints (nats (startM p))) := by
  have hn := hp.hn
  have hsq : 4 ≤ n * n ∧ n * n ≤ 16 := by rcases hn with rfl | rfl | rfl <;> omega
  have hz := hp.size
  have hl := hg.len
  have hpw := pow_n hn
  have hsl : (startM p).length = p.given.length := by simp [startM]
  refine Reads.ice (Q := fun v H' => frzA H' v = some (ints (nats (startM p)))) ?_ (fun r H' h => h)
  refine RunCall.cw (c := _) Try.func23 rfl (n := 36) Try.ntmps23 (rs := [.tmp 2]) rfl ?_
  simp only[List.length_cons,List.length_nil,reduceAdd,reduceSub,List.replicate,List.cons_append,List.nil_append]
  simp(maxSteps:=999999)(disch:=omega)only[go_sem,reduceAdd,reduceMul,reduceSub,reduceEqDiff,reduceLeDiff]
  intro g1
  first | refine OpS.rd (PuzzleValid_run p hp.sm) (⟨_, Try.func15, rfl, rfl⟩ : Enters Try.prog 15) rfl rfl rfl rfl ?_ | refine Loud.rd (PuzzleValid_run p hp.sm) (⟨_, Try.func15, rfl, rfl⟩ : Enters Try.prog 15) rfl rfl rfl rfl ?_
  simp(maxSteps:=999999)(disch:=omega)only[go_sem,reduceAdd,reduceMul,reduceSub,reduceEqDiff,reduceLeDiff]
  rw [hv]
  simp(maxSteps:=999999)(disch:=omega)only[go_sem,reduceAdd,reduceMul,reduceSub,reduceEqDiff,reduceLeDiff]
  intro g2
  refine loop_rule2 (fun (k : Nat) (b : List Nat) => p.given.length - k) (fun k b => k ≤ p.given.length ∧ b.length = p.given.length ∧ ∀ i, i < k → mAt b i = mAt (startM p) i) (fun k b => [.a, .k, .a, .k, .a, .a, .a, .a, .a, .a, .a, .a, .a, .a, .k, .k, .p (int k), .a, .a, .a, .a, .a, .a, .a, .a, .a, .a, .a, .a, .a, .a, .a, .a, .a, .a, .a]) (fun k b => [some ⟨g1, 1, cP p⟩, some ⟨g2, 1, cl (eI .i64) (nats b)⟩]) 0 (List.replicate p.given.length 0) ⟨Nat.zero_le _, by simp, fun i hi => absurd hi (Nat.not_lt_zero _)⟩ (by simp(maxSteps:=999999)(disch:=omega)only[go_sem,reduceAdd,reduceMul,reduceSub,reduceEqDiff,reduceLeDiff]; rfl) (hle_eq rfl (hle_eq (by rw [nats_zeros]) (hle_nil _))) ?_
  rintro k b ⟨hk, hbl, hbi⟩
  simp(maxSteps:=999999)(disch:=omega)only[go_sem,reduceAdd,reduceMul,reduceSub,reduceEqDiff,reduceLeDiff]
  ((first|(with_reducible first|refine condK_dec ?_ ?_|refine condK_ndec ?_ ?_|refine condK_nb ?_ ?_)|refine condK_b ?_ ?_) <;> intro h1)
  · have h1 : k < p.given.length := by omega
    have hav := startM_at h1
    have hzn : p.size.toNat = n := by rw [hz]; rfl
    rw [hzn] at hav
    have hgv := hg.val k h1
    have hnb : ∀ v : Nat, (nats b).set k ((v : Nat) : Int) = nats (b.set k v) := nats_set b k
    have hnl : ∀ b : List Nat, (nats b).length = b.length := nats_len
    have hstep : ∀ c : List Nat, c.length = p.given.length → (∀ i, i ≠ k → mAt c i = mAt b i) → mAt c k = mAt (startM p) k → ∀ i, i < k + 1 → mAt c i = mAt (startM p) i := fun c hc h1 h2 i hi => by
      by_cases hik : i = k
      · rw [hik]; exact h2
      · rw [h1 i hik]; exact hbi i (by omega)
    simp(maxSteps:=999999)(disch:=omega)only[go_sem,reduceAdd,reduceMul,reduceSub,reduceEqDiff,reduceLeDiff]
    rw [hz]
    first | refine OpS.rd (allValues_run hn) (⟨_, Try.func45, rfl, rfl⟩ : Enters Try.prog 45) rfl rfl rfl rfl ?_ | refine Loud.rd (allValues_run hn) (⟨_, Try.func45, rfl, rfl⟩ : Enters Try.prog 45) rfl rfl rfl rfl ?_
    simp(maxSteps:=999999)(disch:=omega)only[go_sem,reduceAdd,reduceMul,reduceSub,reduceEqDiff,reduceLeDiff]
    simp(maxSteps:=999999)(disch:=omega)only[go_sem,reduceAdd,reduceMul,reduceSub,reduceEqDiff,reduceLeDiff, hnl, setRange_nats]
    ((first|(with_reducible first|refine condK_dec ?_ ?_|refine condK_ndec ?_ ?_|refine condK_nb ?_ ?_)|refine condK_b ?_ ?_) <;> intro h2)
    · rw [if_pos h2] at hav
      have hs := shl_small (v := nth p.given k) (by omega)
      have hsr2 : ∀ v u : Nat, setRange (cl (eI .i64) (nats (b.set k v))) (0 + ((k : Nat) : Int).toNat * 1) [CV.f (.int .i64 ((u : Nat) : Int))] = cl (eI .i64) (nats ((b.set k v).set k u)) := fun v u => setRange_nats (by rw [List.length_set]; omega)
      simp(maxSteps:=999999)(disch:=omega)only[go_sem,reduceAdd,reduceMul,reduceSub,reduceEqDiff,reduceLeDiff, hnl, hs, hsr2]
      refine ⟨k + 1, _, ⟨⟨by omega, ?_, hstep _ ?_ (fun i hi => ?_) ?_⟩, by omega⟩, by push_cast; rfl, HLe.refl _⟩
      · rw [List.length_set, List.length_set]; exact hbl
      · rw [List.length_set, List.length_set]; exact hbl
      · rw [mAt_set (by rw [List.length_set]; omega), if_neg hi, mAt_set (by omega), if_neg hi]
      · rw [mAt_set (by rw [List.length_set]; omega), if_pos rfl, hav]
    · rw [if_neg h2] at hav
      simp(maxSteps:=999999)(disch:=omega)only[go_sem,reduceAdd,reduceMul,reduceSub,reduceEqDiff,reduceLeDiff]
      refine ⟨k + 1, _, ⟨⟨by omega, ?_, hstep _ ?_ (fun i hi => ?_) ?_⟩, by omega⟩, by push_cast; rfl, HLe.refl _⟩
      · rw [List.length_set]; exact hbl
      · rw [List.length_set]; exact hbl
      · rw [mAt_set (by omega), if_neg hi]
      · rw [mAt_set (by omega), if_pos rfl, hav]
  · have hke : k = p.given.length := by omega
    have hb : b = startM p := mAt_ext (by omega) fun i hi => hbi i (by omega)
    subst hb
    simp(maxSteps:=999999)(disch:=omega)only[go_sem,reduceAdd,reduceMul,reduceSub,reduceEqDiff,reduceLeDiff]
    have hnl : p.given.length = (nats (startM p)).length := by rw [nats_len, hsl]
    rw [hnl]
    exact ⟨_, HLe.refl _, frzA_own (E := eI .i64) (n := 1) (look_of (b := ⟨g2, 1, cl (eI .i64) (nats (startM p))⟩) rfl)⟩
end Go.Lg

namespace Go.Lg
open Go.Proofs
set_option maxHeartbeats 4000000 in
theorem NarrowSingles_run {n : Nat} (hn : n = 2 ∨ n = 3 ∨ n = 4) (ms : List Nat) (hm : MsN ms n) : Reads Try.prog 73 [ints (nats ms), int n] (ints (nats (sglM ms n))) := by
  have hsq : 4 ≤ n * n ∧ n * n ≤ 16 := by rcases hn with rfl | rfl | rfl <;> omega
  have hl : (nats ms).length = n * n := by rw [nats_len]; exact hm.len
  refine Reads.own ?_
  refine RunCall.cw (c := _) Try.func73 rfl (n := 65) Try.ntmps73 (rs := [.tmp 4]) rfl ?_
  simp only[List.length_cons,List.length_nil,reduceAdd,reduceSub,List.replicate,List.cons_append,List.nil_append]
  simp(maxSteps:=999999)(disch:=omega)only[go_sem,reduceAdd,reduceMul,reduceSub,reduceEqDiff,reduceLeDiff]
  first | refine OpS.rd (MasksValid_run hn ms hm) (⟨_, Try.func43, rfl, rfl⟩ : Enters Try.prog 43) rfl rfl rfl rfl ?_ | refine Loud.rd (MasksValid_run hn ms hm) (⟨_, Try.func43, rfl, rfl⟩ : Enters Try.prog 43) rfl rfl rfl rfl ?_
  simp(maxSteps:=999999)(disch:=omega)only[go_sem,reduceAdd,reduceMul,reduceSub,reduceEqDiff,reduceLeDiff]
  refine OpS.mkQ (Clone_q (nats ms) (by omega) (by intro h; rw [h] at hl; simp at hl; omega)) (⟨_, Try.func38, rfl, rfl⟩ : Enters Try.prog 38) rfl rfl rfl ?_
  rintro _ _ ⟨g, rfl, rfl⟩
  refine ⟨rfl, ?_⟩
  simp(maxSteps:=999999)(disch:=omega)only[go_sem,reduceAdd,reduceMul,reduceSub,reduceEqDiff,reduceLeDiff]
  rw [hl]
  refine loop_rule (fun i : Nat => n * n - i) (fun i => i ≤ n * n) (fun i => [.a, .k, .a, .a, .a, .k, .a, .a, .a, .a, .a, .a, .a, .a, .a, .a, .a, .k, .k, .p (int i), .a, .a, .a, .a, .a, .a, .a, .a, .a, .a, .a, .a, .a, .a, .a, .a, .a, .a, .a, .a, .a, .a, .a, .a, .a, .a, .a, .a, .a, .a, .a, .a, .a, .a, .a, .a, .a, .a, .a, .a, .a, .a, .a, .a, .a]) (fun i => [some ⟨g, 1, cl (eI .i64) (nats (clrL ((List.range i).flatMap (sglA ms n)) ms))⟩]) 0 (Nat.zero_le _) (by simp(maxSteps:=999999)(disch:=omega)only[go_sem,reduceAdd,reduceMul,reduceSub,reduceEqDiff,reduceLeDiff]; rfl) (HLe.refl _) ?_
  intro i hi
  have hrs := flat_succ (sglA ms n) i
  have hok := fun R => clrL_ok R hm
  have hlt := fun R k => (hok R).lt hn k
  have hll := fun R : List (Nat × Nat) => (clrL_len R ms).trans hm.len
  generalize hR : (List.range i).flatMap (sglA ms n) = R at hrs ⊢
  simp(maxSteps:=999999)(disch:=omega)only[go_sem,reduceAdd,reduceMul,reduceSub,reduceEqDiff,reduceLeDiff]
  ((first|(with_reducible first|refine condK_dec ?_ ?_|refine condK_ndec ?_ ?_|refine condK_nb ?_ ?_)|refine condK_b ?_ ?_) <;> intro h1)
  · have h1 : i < n * n := by omega
    have hmi := hm.lt hn i
    have hni := nth_nats ms i
    simp(maxSteps:=999999)(disch:=omega)only[go_sem,reduceAdd,reduceMul,reduceSub,reduceEqDiff,reduceLeDiff, hni]
    first | refine OpS.rd (onlyValue_run (mAt ms i) hmi.1) (⟨_, Try.func46, rfl, rfl⟩ : Enters Try.prog 46) rfl rfl rfl rfl ?_ | refine Loud.rd (onlyValue_run (mAt ms i) hmi.1) (⟨_, Try.func46, rfl, rfl⟩ : Enters Try.prog 46) rfl rfl rfl rfl ?_
    simp(maxSteps:=999999)(disch:=omega)only[go_sem,reduceAdd,reduceMul,reduceSub,reduceEqDiff,reduceLeDiff]
    ((first|(with_reducible first|refine condK_dec ?_ ?_|refine condK_ndec ?_ ?_|refine condK_nb ?_ ?_)|refine condK_b ?_ ?_) <;> intro h2)
    · have h2 : onlyV (mAt ms i) = 0 := by exact_mod_cast h2
      have hA : sglA ms n i = [] := if_pos h2
      rw [hA, List.append_nil] at hrs
      simp(maxSteps:=999999)(disch:=omega)only[go_sem,reduceAdd,reduceMul,reduceSub,reduceEqDiff,reduceLeDiff]
      exact ⟨i + 1, ⟨by omega, by omega⟩, by push_cast; rfl, by rw [hrs]; exact HLe.refl _⟩
    · have h2 : onlyV (mAt ms i) ≠ 0 := fun h => h2 (by rw [h]; rfl)
      have hA : sglA ms n i = (List.range n).flatMap (sglK ms n i) := if_neg h2
      rw [hA] at hrs
      clear hA
      obtain ⟨d, hd⟩ : ∃ d, d = i / n := ⟨_, rfl⟩
      obtain ⟨e, he⟩ : ∃ e, e = i % n := ⟨_, rfl⟩
      have hid : (i : Int).tdiv (n : Int) = ((d : Nat) : Int) := by rw [hd]; rfl
      have him : (i : Int).tmod (n : Int) = ((e : Nat) : Int) := by rw [he]; rfl
      have hd2 : d < n := by rw [hd, Nat.div_lt_iff_lt_mul (by omega)]; exact h1
      have he2 : e < n := by rw [he]; exact Nat.mod_lt _ (by omega)
      simp(maxSteps:=999999)(disch:=omega)only[go_sem,reduceAdd,reduceMul,reduceSub,reduceEqDiff,reduceLeDiff]
      refine loop_rule (fun k : Nat => n - k) (fun k => k ≤ n) (fun k => [.a, .k, .a, .a, .a, .k, .k, .k, .a, .a, .a, .a, .a, .a, .a, .a, .a, .k, .k, .k, .a, .a, .a, .a, .a, .a, .a, .k, .p (int k), .a, .a, .a, .a, .a, .a, .a, .a, .a, .a, .a, .a, .a, .a, .a, .a, .a, .a, .a, .a, .a, .a, .a, .a, .a, .a, .a, .a, .a, .a, .a, .a, .a, .a, .a, .a]) (fun k => [some ⟨g, 1, cl (eI .i64) (nats (clrL (R ++ (List.range k).flatMap (sglK ms n i)) ms))⟩]) 0 (Nat.zero_le _) (by simp(maxSteps:=999999)(disch:=omega)only[go_sem,reduceAdd,reduceMul,reduceSub,reduceEqDiff,reduceLeDiff]; rfl) (by simp only [List.range_zero, List.flatMap_nil, List.append_nil]; exact HLe.refl _) ?_
      intro k hk
      have hks := flat_succ (sglK ms n i) k
      have hkd : sglK ms n i k = sglI ms n i (d * n + k) ++ sglI ms n i (k * n + e) := by rw [hd, he]; rfl
      generalize hS : (List.range k).flatMap (sglK ms n i) = S at hks ⊢
      simp(maxSteps:=999999)(disch:=omega)only[go_sem,reduceAdd,reduceMul,reduceSub,reduceEqDiff,reduceLeDiff]
      ((first|(with_reducible first|refine condK_dec ?_ ?_|refine condK_ndec ?_ ?_|refine condK_nb ?_ ?_)|refine condK_b ?_ ?_) <;> intro h3)
      · have h3 : k < n := by omega
        have hb : (d * n + k < n * n ∧ d * n ≤ 16) ∧ (k * n + e < n * n ∧ k * n ≤ 16) := by rcases hn with rfl | rfl | rfl <;> omega
        have hb1 : 0 ≤ (d : Int) * n ∧ (d : Int) * n ≤ 16 := by have := hb.1.2; exact ⟨by omega, by exact_mod_cast this⟩
        have hb2 : 0 ≤ (k : Int) * n ∧ (k : Int) * n ≤ 16 := by have := hb.2.2; exact ⟨by omega, by exact_mod_cast this⟩
        simp(maxSteps:=999999)(disch:=omega)only[go_sem,reduceAdd,reduceMul,reduceSub,reduceEqDiff,reduceLeDiff]
        refine drawP_lF [0, 1, 2, 3, 4, 5, 6, 7, 8, 9, 10, 11, 12, 13, 16, 14, 15] [] none [] [] foll (by kernel_rfl) ?_
        simp(maxSteps:=999999)(disch:=omega)only[go_sem,Nat.reduceBEq,Bool.true_or,reduceAdd,reduceMul,reduceSub,reduceEqDiff,reduceLeDiff]
        intro g2
        have hw1 : IntKind.i64.wrap (IntKind.i64.wrap ((d : Int) * n) + k) = ((d * n + k : Nat) : Int) := by
          rw [ok_i64 (n := (d : Int) * n) (by omega), ok_i64 (by omega)]
          push_cast
          rfl
        have hw2 : (k : Int) * n + (e : Int) = ((k * n + e : Nat) : Int) := by push_cast; rfl
        rw [hid, him, hw1, hw2]
        have hba := hb.1.1
        have hbb := hb.2.1
        clear hw1 hw2 hb1 hb2 hb
        generalize d * n + k = a at hkd hba ⊢
        generalize k * n + e = b at hkd hbb ⊢
        refine loop_rule (fun j : Nat => 2 - j) (fun j => j ≤ 2) (fun j => [.a, .k, .a, .a, .a, .k, .k, .k, .a, .a, .a, .a, .a, .a, .a, .a, .a, .k, .k, .k, .a, .a, .a, .a, .a, .a, .a, .k, .k, .a, .a, .a, .a, .a, .a, .a, .a, .a, .a, .a, .a, .a, .a, .a, .a, .k, .k, .p (int j), .a, .a, .a, .a, .a, .a, .a, .a, .a, .a, .a, .a, .a, .a, .a, .a, .a]) (fun j => [some ⟨g, 1, cl (eI .i64) (nats (clrL (R ++ (S ++ ([sglI ms n i a, sglI ms n i b].take j).flatten)) ms))⟩, some ⟨g2, 1, [.f (.int .i64 (a : Int)), .f (.int .i64 (b : Int))]⟩]) 0 (Nat.zero_le _) (by simp(maxSteps:=999999)(disch:=omega)only[go_sem,reduceAdd,reduceMul,reduceSub,reduceEqDiff,reduceLeDiff]; rfl) (by simp only [List.take_zero, List.flatten_nil, List.append_nil]; exact HLe.refl _) ?_
        intro j hj
        simp(maxSteps:=999999)(disch:=omega)only[go_sem,reduceAdd,reduceMul,reduceSub,reduceEqDiff,reduceLeDiff]
        ((first|(with_reducible first|refine condK_dec ?_ ?_|refine condK_ndec ?_ ?_|refine condK_nb ?_ ?_)|refine condK_b ?_ ?_) <;> intro h4)
        · have h4 : j = 0 ∨ j = 1 := by omega
          rcases h4 with rfl | rfl
          · skip
            have hld : ldP (some ⟨g2, 1, [.f (.int .i64 (a : Int)), .f (.int .i64 (b : Int))]⟩) (0 + ((0 : Nat) : Int).toNat * 1) = some (int a) := rfl
            obtain ⟨Z, hZ⟩ : ∃ Z, Z = sglI ms n i a := ⟨_, rfl⟩
            have hX : R ++ (S ++ ([sglI ms n i a, sglI ms n i b].take (0 + 1)).flatten) = (R ++ (S ++ ([sglI ms n i a, sglI ms n i b].take 0).flatten)) ++ Z := by rw [hZ]; simp
            generalize R ++ (S ++ ([sglI ms n i a, sglI ms n i b].take 0).flatten) = Q at hX ⊢
            have hQn := nth_nats (clrL Q ms) a
            have hQl : (nats (clrL Q ms)).length = n * n := by rw [nats_len]; exact hll Q
            have hQc : bitsI .andNot .i64 ((mAt (clrL Q ms) a : Nat) : Int) ((mAt ms i : Nat) : Int) = ((clr (mAt (clrL Q ms) a) (mAt ms i) : Nat) : Int) := andNot_small (by have := (hlt Q a).1; omega) (by omega)
            have hQs := fun v : Nat => setRange_nats (b := clrL Q ms) (k := a) (v := v) (by rw [hll Q]; omega)
            simp(maxSteps:=999999)(disch:=omega)only[go_sem,reduceAdd,reduceMul,reduceSub,reduceEqDiff,reduceLeDiff, hld]
            ((first|(with_reducible first|refine condK_dec ?_ ?_|refine condK_ndec ?_ ?_|refine condK_nb ?_ ?_)|refine condK_b ?_ ?_) <;> intro h5)
            · have hA : Z = [] := hZ.trans (if_pos (by omega))
              rw [hA, List.append_nil] at hX
              simp(maxSteps:=999999)(disch:=omega)only[go_sem,reduceAdd,reduceMul,reduceSub,reduceEqDiff,reduceLeDiff]
              exact ⟨0 + 1, ⟨by omega, by omega⟩, rfl, by rw [hX]; exact HLe.refl _⟩
            · have hA : Z = [(a, mAt ms i)] := hZ.trans (if_neg (by omega))
              rw [hA] at hX
              simp(maxSteps:=999999)(disch:=omega)only[go_sem,reduceAdd,reduceMul,reduceSub,reduceEqDiff,reduceLeDiff, hQn, hQl, hQc, hQs]
              exact ⟨0 + 1, ⟨by omega, by omega⟩, rfl, by rw [hX, clrL_one]; exact HLe.refl _⟩
          · skip
            have hld : ldP (some ⟨g2, 1, [.f (.int .i64 (a : Int)), .f (.int .i64 (b : Int))]⟩) (0 + ((1 : Nat) : Int).toNat * 1) = some (int b) := rfl
            obtain ⟨Z, hZ⟩ : ∃ Z, Z = sglI ms n i b := ⟨_, rfl⟩
            have hX : R ++ (S ++ ([sglI ms n i a, sglI ms n i b].take (1 + 1)).flatten) = (R ++ (S ++ ([sglI ms n i a, sglI ms n i b].take 1).flatten)) ++ Z := by rw [hZ]; simp
            generalize R ++ (S ++ ([sglI ms n i a, sglI ms n i b].take 1).flatten) = Q at hX ⊢
            have hQn := nth_nats (clrL Q ms) b
            have hQl : (nats (clrL Q ms)).length = n * n := by rw [nats_len]; exact hll Q
            have hQc : bitsI .andNot .i64 ((mAt (clrL Q ms) b : Nat) : Int) ((mAt ms i : Nat) : Int) = ((clr (mAt (clrL Q ms) b) (mAt ms i) : Nat) : Int) := andNot_small (by have := (hlt Q b).1; omega) (by omega)
            have hQs := fun v : Nat => setRange_nats (b := clrL Q ms) (k := b) (v := v) (by rw [hll Q]; omega)
            simp(maxSteps:=999999)(disch:=omega)only[go_sem,reduceAdd,reduceMul,reduceSub,reduceEqDiff,reduceLeDiff, hld]
            ((first|(with_reducible first|refine condK_dec ?_ ?_|refine condK_ndec ?_ ?_|refine condK_nb ?_ ?_)|refine condK_b ?_ ?_) <;> intro h5)
            · have hA : Z = [] := hZ.trans (if_pos (by omega))
              rw [hA, List.append_nil] at hX
              simp(maxSteps:=999999)(disch:=omega)only[go_sem,reduceAdd,reduceMul,reduceSub,reduceEqDiff,reduceLeDiff]
              exact ⟨1 + 1, ⟨by omega, by omega⟩, rfl, by rw [hX]; exact HLe.refl _⟩
            · have hA : Z = [(b, mAt ms i)] := hZ.trans (if_neg (by omega))
              rw [hA] at hX
              simp(maxSteps:=999999)(disch:=omega)only[go_sem,reduceAdd,reduceMul,reduceSub,reduceEqDiff,reduceLeDiff, hQn, hQl, hQc, hQs]
              exact ⟨1 + 1, ⟨by omega, by omega⟩, rfl, by rw [hX, clrL_one]; exact HLe.refl _⟩
        · have hje : j = 2 := by omega
          subst hje
          have hX : R ++ (List.range (k + 1)).flatMap (sglK ms n i) = R ++ (S ++ ([sglI ms n i a, sglI ms n i b].take 2).flatten) := by rw [hks, hkd]; simp
          generalize R ++ (S ++ ([sglI ms n i a, sglI ms n i b].take 2).flatten) = Q at hX ⊢
          simp(maxSteps:=999999)(disch:=omega)only[go_sem,reduceAdd,reduceMul,reduceSub,reduceEqDiff,reduceLeDiff]
          exact ⟨k + 1, ⟨by omega, by omega⟩, by push_cast; rfl, hle_eq (by rw [hX]) (hle_nil _)⟩
      · have hke : k = n := by omega
        rw [hke] at hS
        simp(maxSteps:=999999)(disch:=omega)only[go_sem,reduceAdd,reduceMul,reduceSub,reduceEqDiff,reduceLeDiff]
        exact ⟨i + 1, ⟨by omega, by omega⟩, by push_cast; rfl, by rw [hrs, hS]; exact HLe.refl _⟩
  · have hie : i = n * n := by omega
    rw [hie] at hR
    have hM : clrL R ms = sglM ms n := by rw [← hR]; rfl
    have hl2 : (nats (sglM ms n)).length = n * n := by rw [nats_len, ← hM]; exact hll R
    rw [hM]
    simp(maxSteps:=999999)(disch:=omega)only[go_sem,reduceAdd,reduceMul,reduceSub,reduceEqDiff,reduceLeDiff]
    rw [← hl2]
    exact lessQ_own (E := eI .i64) (n := 1) (HLe.refl _)
end Go.Lg
