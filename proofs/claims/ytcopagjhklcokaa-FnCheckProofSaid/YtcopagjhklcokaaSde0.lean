/- GpTD, GpTC, GpMN, cut to what is needed. -/
import Derived.Test.YtcopagjhklcokaaSdd9
import Derived.Test.YtcopagjhklcokaaSdc5
import Derived.Test.YtcopagjhklcokaaSdc6
import Derived.Test.YtcopagjhklcokaaSdc9
import Derived.Test.YtcopagjhklcokaaSdd4
open Nat(reduceAdd reduceMul reduceSub reduceEqDiff reduceLeDiff)
set_option linter.unusedSimpArgs false
set_option linter.unusedVariables false
set_option maxRecDepth 100000
namespace Go.Lg
open Go.Proofs
theorem iMaskValues_run (m : Nat) (h : m ≤ 30 ∧ m % 2 = 0) : Reads Try.prog 131 [int m] (ints (mvals m 4)) := by
  have hav := allValues_run (n := 4) (by omega)
  have e30 : (((2 ^ (4 + 1) - 2 : Nat)) : Int) = 30 := rfl
  have e4 : ((4 : Nat) : Int) = 4 := rfl
  rw [e30, e4] at hav
  have hc : bitsI .andNot .i64 ((m : Nat) : Int) 30 = 0 := by
    have key : ∀ a : Nat, a < 31 → a % 2 = 0 → bitsI .andNot .i64 ((a : Nat) : Int) 30 = 0 := by decide +kernel
    exact key m (by omega) h.2
  have hbit : ∀ v : Nat, v ≤ 4 → decide (bitsI .and .i64 ((m >>> v : Nat) : Int) 1 = 1) = m.testBit v := by
    have key : ∀ a : Nat, a < 31 → ∀ v : Nat, v < 5 → decide (bitsI .and .i64 ((a >>> v : Nat) : Int) 1 = 1) = a.testBit v := by decide +kernel
    exact fun v hv => key m (by omega) v (by omega)
  refine Reads.own ?_
  refine RunCall.cw (c := _) Try.func131 rfl (n := 28) Try.ntmps131 (rs := [.tmp 2]) rfl ?_
  simp only[List.length_cons,List.length_nil,reduceAdd,reduceSub,List.replicate,List.cons_append,List.nil_append]
  simp(maxSteps:=999999)(disch:=omega)only[go_sem,reduceAdd,reduceMul,reduceSub,reduceEqDiff,reduceLeDiff]
  ((with_reducible first|refine guardK_dec ?_ ?_|refine guardK_ndec ?_ ?_|refine guardK_nb ?_ ?_|refine guardK_split ?_ ?_|refine guardQ_dec ?_ ?_|refine guardL_dec ?_ ?_|refine guardQ_ndec ?_ ?_|refine guardL_ndec ?_ ?_|refine guardQ_nb ?_ ?_|refine guardL_nb ?_ ?_|refine guardQ_split ?_ ?_|refine guardL_split ?_ ?_) <;> intro c1 <;> simp(maxSteps:=999999)(disch:=omega)only[go_sem,reduceAdd,reduceMul,reduceSub,reduceEqDiff,reduceLeDiff, c1])
  · exfalso; omega
  first | refine OpS.rd (hav) (⟨_, Try.func124, rfl, rfl⟩ : Enters Try.prog 124) rfl rfl rfl rfl ?_ | refine Loud.rd (hav) (⟨_, Try.func124, rfl, rfl⟩ : Enters Try.prog 124) rfl rfl rfl rfl ?_
  simp(maxSteps:=999999)(disch:=omega)only[go_sem,reduceAdd,reduceMul,reduceSub,reduceEqDiff,reduceLeDiff]
  simp(maxSteps:=999999)(disch:=omega)only[go_sem,reduceAdd,reduceMul,reduceSub,reduceEqDiff,reduceLeDiff, hc]
  intro g
  refine loop_rule2 (fun (v g : Nat) => 5 - v) (fun v g => 1 ≤ v ∧ v ≤ 5) (fun v g => [.k, .a, .a, .p (.c (.own 0 g 0 (mvals m (v - 1)).length none)), .p (int v), .a, .a, .a, .a, .a, .a, .a, .a, .a, .a, .a, .a, .a, .a, .a, .a, .a, .a, .a, .a, .a, .a, .a]) (fun v g => [some ⟨g, 1, cl (eI .i64) (mvals m (v - 1))⟩]) 1 g ⟨by omega, by omega⟩ (by simp(maxSteps:=999999)(disch:=omega)only[go_sem,reduceAdd,reduceMul,reduceSub,reduceEqDiff,reduceLeDiff]; exact ⟨by simp [mvals], rfl⟩) (HLe.refl _) ?_
  rintro v g ⟨hv1, hv2⟩
  have hlen := mvals_len m (v - 1)
  simp(maxSteps:=999999)(disch:=omega)only[go_sem,reduceAdd,reduceMul,reduceSub,reduceEqDiff,reduceLeDiff]
  ((first|(with_reducible first|refine condK_dec ?_ ?_|refine condK_ndec ?_ ?_|refine condK_nb ?_ ?_)|refine condK_b ?_ ?_) <;> intro h1)
  · have hv4 : v ≤ 4 := by omega
    have hsucc := mvals_succ (m := m) (k := v - 1) (by omega)
    rw [show v - 1 + 1 = v by omega] at hsucc
    have hb := hbit v hv4
    simp(maxSteps:=999999)(disch:=omega)only[go_sem,reduceAdd,reduceMul,reduceSub,reduceEqDiff,reduceLeDiff, shr_small (s := m) (v := (v : Int)) (by omega)]
    rw [Int.toNat_natCast, hb]
    ((first|(with_reducible first|refine condK_dec ?_ ?_|refine condK_ndec ?_ ?_|refine condK_nb ?_ ?_)|refine condK_b ?_ ?_) <;> intro hb)
    · rw [if_pos hb] at hsucc
      simp(maxSteps:=999999)(disch:=omega)only[go_sem,reduceAdd,reduceMul,reduceSub,reduceEqDiff,reduceLeDiff]
      intro g1 g2
      refine ⟨v + 1, g2, ⟨⟨by omega, by omega⟩, by omega⟩, ⟨?_, by push_cast; omega⟩, hle_eq ?_ (hle_nil _)⟩
      · rw [show v + 1 - 1 = v by omega, hsucc, List.length_append]
        exact ⟨rfl, rfl⟩
      · rw [show v + 1 - 1 = v by omega, hsucc, cl_append]
    · rw [if_neg (by rw [hb]; simp), List.append_nil] at hsucc
      simp(maxSteps:=999999)(disch:=omega)only[go_sem,reduceAdd,reduceMul,reduceSub,reduceEqDiff,reduceLeDiff]
      refine ⟨v + 1, g, ⟨⟨by omega, by omega⟩, by omega⟩, ⟨?_, by push_cast; omega⟩, hle_eq ?_ (HLe.refl _)⟩
      · rw [show v + 1 - 1 = v by omega, hsucc]
        exact ⟨rfl, rfl⟩
      · rw [show v + 1 - 1 = v by omega, hsucc]
  · have hv5 : v = 5 := by omega
    subst hv5
    simp(maxSteps:=999999)(disch:=omega)only[go_sem,reduceAdd,reduceMul,reduceSub,reduceEqDiff,reduceLeDiff]
    exact lessQ_own (HLe.refl _)
end Go.Lg

namespace Go.Lg
open Go.Proofs
def chkA : Option (Nat × List Brn) → AV
  | some (n, l) => .tup [int n, rsl eB l]
  | none => .tup [int (-1), rsl eB []]
theorem chkF_some {p : Puz} {f : Nat} {ms : List Nat} {bs : List Brn} {m : Nat} (h : endM p ms = some m) : chkF p (f + 1) ms bs = some (m, bs) := by
  unfold chkF; rw [h]
theorem chkF_nil {p : Puz} {f : Nat} {ms : List Nat} (h : endM p ms = none) : chkF p (f + 1) ms [] = none := by
  unfold chkF; rw [h]
theorem chkF_cons {p : Puz} {f : Nat} {ms : List Nat} {b : Brn} {r : List Brn} (h : endM p ms = none) : chkF p (f + 1) ms (b :: r) = if 0 < b.tech then chkF p f (narM p b.tech.toNat ms) r else tryL (chkF p f) ms b.cell.toNat (mvals (mAt ms b.cell.toNat) 4) r 0 := by
  conv => lhs; unfold chkF
  rw [h]
theorem cut_brn (b : Brn) (r : List Brn) : cutS 2 (r.length + 1) (fl eB (b :: r)) (Int.toNat 1) (r.length + 1) = some (rsl eB r) := by
  have h := cutS_flN (E := eB) (sz := 2) (xs := b :: r) (a := 1) ⟨by omega, by simp only [List.length_cons]; omega⟩
  have e : sub (b :: r) (1 : Int) ((b :: r).length : Int) = r := by simp [sub]
  rw [e] at h
  exact h
set_option maxHeartbeats 4000000 in
theorem checkLines_run {p : Puz} {n : Nat} (hp : PuzN p n) (hv : puzzleValid p = true) (hg : p.given.length = n * n) : ∀ (F : Nat) (ms : List Nat) (bs : List Brn), MsN ms n → bs.length < F → bs.length ≤ 200 → (∀ b ∈ bs, brnOk p.given.length b = true) → Reads Try.prog 95 [aP p, ints (nats ms), rsl eB bs] (chkA (chkF p F ms bs)) := by
  intro F
  induction F using Nat.strongRecOn with
  | ind F ih =>
  intro ms bs hm hF h200 hb
  have hn := hp.hn
  have hsq : 4 ≤ n * n ∧ n * n ≤ 16 := by rcases hn with rfl | rfl | rfl <;> omega
  refine Reads.ice (Q := fun v H' => frzA H' v = some (chkA (chkF p F ms bs))) ?_ (fun r H' h => h)
  obtain ⟨R, hR⟩ : ∃ R, R = chkF p F ms bs := ⟨_, rfl⟩
  rw [← hR]
  refine RunCall.cw (c := _) Try.func95 rfl (n := 72) Try.ntmps95 (rs := [.tmp 6, .tmp 7]) rfl ?_
  simp only[List.length_cons,List.length_nil,reduceAdd,reduceSub,List.replicate,List.cons_append,List.nil_append]
  simp(maxSteps:=999999)(disch:=omega)only[go_sem,reduceAdd,reduceMul,reduceSub,reduceEqDiff,reduceLeDiff]
  intro g
  refine loop_rule2 (fun (f : Nat) (b : List Nat × List Brn) => f) (fun f b => f ≤ F ∧ MsN b.1 n ∧ b.2.length < f ∧ b.2.length ≤ 200 ∧ (∀ x ∈ b.2, brnOk p.given.length x = true) ∧ chkF p f b.1 b.2 = R) (fun f b => [.a, .p (ints (nats b.1)), .p (rsl eB b.2), .k, .a, .a, .a, .a, .a, .a, .a, .a, .a, .a, .a, .a, .a, .a, .a, .a, .a, .a, .a, .a, .a, .a, .a, .a, .a, .a, .a, .a, .a, .a, .a, .a, .a, .a, .a, .a, .a, .a, .a, .a, .a, .a, .a, .a, .a, .a, .a, .a, .a, .a, .a, .a, .a, .a, .a, .a, .a, .a, .a, .a, .a, .a, .a, .a, .a, .a, .a, .a]) (fun _ _ => [some ⟨g, 1, cP p⟩]) F (ms, bs) ⟨Nat.le_refl _, hm, hF, h200, hb, hR.symm⟩ (by simp(maxSteps:=999999)(disch:=omega)only[go_sem,reduceAdd,reduceMul,reduceSub,reduceEqDiff,reduceLeDiff]) (HLe.refl _) ?_
  rintro f ⟨ns, cs⟩ ⟨hf, hns, hcs, hc2, hcb, hC⟩
  simp only at hns hcs hc2 hcb hC ⊢
  obtain ⟨f, rfl⟩ : ∃ f', f = f' + 1 := ⟨f - 1, by omega⟩
  simp(maxSteps:=999999)(disch:=omega)only[go_sem,reduceAdd,reduceMul,reduceSub,reduceEqDiff,reduceLeDiff]
  first | refine OpS.mk (masksEnd_run hp ns hns) (⟨_, Try.func128, rfl, rfl⟩ : Enters Try.prog 128) rfl rfl rfl rfl rfl ?_ | refine Loud.mk (masksEnd_run hp ns hns) (⟨_, Try.func128, rfl, rfl⟩ : Enters Try.prog 128) rfl rfl rfl rfl rfl ?_
  simp(maxSteps:=999999)(disch:=omega)only[go_sem,reduceAdd,reduceMul,reduceSub,reduceEqDiff,reduceLeDiff]
  cases he : endM p ns with
  | some m =>
    rw [chkF_some he] at hC
    subst hC
    simp(maxSteps:=999999)(disch:=omega)only[go_sem,reduceAdd,reduceMul,reduceSub,reduceEqDiff,reduceLeDiff]
    exact ⟨_, HLe.refl _, rfl⟩
  | none =>
    cases cs with
    | nil =>
      rw [chkF_nil he] at hC
      subst hC
      simp(maxSteps:=999999)(disch:=omega)only[go_sem,reduceAdd,reduceMul,reduceSub,reduceEqDiff,reduceLeDiff]
      ((first|(with_reducible first|refine condK_dec ?_ ?_|refine condK_ndec ?_ ?_|refine condK_nb ?_ ?_)|refine condK_b ?_ ?_) <;> intro c1)
      rotate_left
      · exact absurd rfl c1
      simp(maxSteps:=999999)(disch:=omega)only[go_sem,reduceAdd,reduceMul,reduceSub,reduceEqDiff,reduceLeDiff]
      exact ⟨_, HLe.refl _, rfl⟩
    | cons b r =>
      rw [chkF_cons he] at hC
      have hbk := hcb b (by simp)
      obtain ⟨bt, bc⟩ := b
      simp only [brnOk, decide_eq_true_eq] at hbk hC
      obtain ⟨t, rfl⟩ : ∃ t : Nat, bt = t := ⟨bt.toNat, by omega⟩
      obtain ⟨k, rfl⟩ : ∃ k : Nat, bc = k := ⟨bc.toNat, by omega⟩
      simp only [List.length_cons] at hcs hc2
      rw [Int.toNat_natCast, Int.toNat_natCast] at hC
      have hrb : ∀ x ∈ r, brnOk p.given.length x = true := fun x hx => hcb x (by simp [hx])
      have hrl : r.length ≤ 199 := by omega
      simp(maxSteps:=999999)(disch:=omega)only[go_sem,reduceAdd,reduceMul,reduceSub,reduceEqDiff,reduceLeDiff]
      ((first|(with_reducible first|refine condK_dec ?_ ?_|refine condK_ndec ?_ ?_|refine condK_nb ?_ ?_)|refine condK_b ?_ ?_) <;> intro c1)
      · exfalso; omega
      have hlc : ((⟨t, k⟩ : Brn) :: r).length = r.length + 1 := rfl
      have hn0 : nth ((⟨t, k⟩ : Brn) :: r) (0 : Int) = ⟨t, k⟩ := rfl
      simp(maxSteps:=999999)(disch:=omega)only[go_sem,reduceAdd,reduceMul,reduceSub,reduceEqDiff,reduceLeDiff, hn0]
      intro g10
      simp(maxSteps:=999999)(disch:=omega)only[go_sem,reduceAdd,reduceMul,reduceSub,reduceEqDiff,reduceLeDiff, cut_brn]
      ((first|(with_reducible first|refine condK_dec ?_ ?_|refine condK_ndec ?_ ?_|refine condK_nb ?_ ?_)|refine condK_b ?_ ?_) <;> intro c2)
      · rw [if_pos c2] at hC
        simp(maxSteps:=999999)(disch:=omega)only[go_sem,reduceAdd,reduceMul,reduceSub,reduceEqDiff,reduceLeDiff]
        first | refine OpS.mk (NarrowBy_run hp hv ns hns t (by omega)) (⟨_, Try.func125, rfl, rfl⟩ : Enters Try.prog 125) rfl rfl rfl rfl rfl ?_ | refine Loud.mk (NarrowBy_run hp hv ns hns t (by omega)) (⟨_, Try.func125, rfl, rfl⟩ : Enters Try.prog 125) rfl rfl rfl rfl rfl ?_
        simp(maxSteps:=999999)(disch:=omega)only[go_sem,reduceAdd,reduceMul,reduceSub,reduceEqDiff,reduceLeDiff]
        exact ⟨f, (narM p t ns, r), ⟨⟨by omega, narM_ok hns, by show r.length < f; omega, by show r.length ≤ 200; omega, hrb, hC⟩, by omega⟩, by first | rfl | exact ⟨rfl, rfl⟩ | trivial, HLe.app _ _⟩
      · rw [if_neg c2] at hC
        have hk : k < n * n := by omega
        have hnk := nth_nats ns k
        have hmk := hns.lt hn k
        have hnl : (nats ns).length = n * n := by rw [nats_len]; exact hns.len
        have hvl := mvals_len (mAt ns k) 4
        simp(maxSteps:=999999)(disch:=omega)only[go_sem,reduceAdd,reduceMul,reduceSub,reduceEqDiff,reduceLeDiff, hnk]
        first | refine OpS.mk (iMaskValues_run (mAt ns k) hmk) (⟨_, Try.func131, rfl, rfl⟩ : Enters Try.prog 131) rfl rfl rfl rfl rfl ?_ | refine Loud.mk (iMaskValues_run (mAt ns k) hmk) (⟨_, Try.func131, rfl, rfl⟩ : Enters Try.prog 131) rfl rfl rfl rfl rfl ?_
        simp(maxSteps:=999999)(disch:=omega)only[go_sem,reduceAdd,reduceMul,reduceSub,reduceEqDiff,reduceLeDiff]
        obtain ⟨V, hV⟩ : ∃ V, V = mvals (mAt ns k) 4 := ⟨_, rfl⟩
        rw [← hV] at hC hvl ⊢
        refine loop_rule2 (fun (i : Nat) (b : List Brn × Nat) => V.length - i) (fun i b => i ≤ V.length ∧ (∃ pre, r = pre ++ b.1) ∧ b.2 + 3 * b.1.length ≤ 3 * r.length + i ∧ tryL (chkF p f) ns k (V.drop i) b.1 b.2 = R) (fun i b => [.a, .k, .p (rsl eB b.1), .k, .a, .a, .a, .a, .a, .a, .k, .p (int b.2), .a, .a, .a, .a, .a, .a, .a, .a, .a, .a, .a, .a, .a, .a, .a, .a, .a, .a, .a, .a, .a, .a, .a, .a, .a, .a, .a, .a, .a, .a, .a, .a, .a, .a, .k, .k, .p (int i), .a, .a, .a, .a, .a, .a, .a, .a, .a, .a, .a, .a, .a, .a, .a, .a, .a, .a, .a, .a, .a, .a, .a]) (fun _ _ => [some ⟨g, 1, cP p⟩, some ⟨g10, 2, [.f (.int .i64 t), .f (.int .i64 k)]⟩]) 0 (r, 0) ⟨Nat.zero_le _, ⟨[], rfl⟩, by show 0 + 3 * r.length ≤ _; omega, hC⟩ (by simp(maxSteps:=999999)(disch:=omega)only[go_sem,reduceAdd,reduceMul,reduceSub,reduceEqDiff,reduceLeDiff]; first | rfl | exact ⟨rfl, rfl⟩ | exact ⟨rfl, rfl, rfl⟩) (HLe.refl _) ?_
        rintro i ⟨l, s⟩ ⟨hi, ⟨pre, hpre⟩, hs, hT⟩
        simp only at hpre hs hT ⊢
        have hll : l.length ≤ r.length := by rw [hpre, List.length_append]; omega
        have hlb : ∀ x ∈ l, brnOk p.given.length x = true := fun x hx => hrb x (by rw [hpre]; simp [hx])
        simp(maxSteps:=999999)(disch:=omega)only[go_sem,reduceAdd,reduceMul,reduceSub,reduceEqDiff,reduceLeDiff]
        ((first|(with_reducible first|refine condK_dec ?_ ?_|refine condK_ndec ?_ ?_|refine condK_nb ?_ ?_)|refine condK_b ?_ ?_) <;> intro c3)
        · have c3 : i < V.length := by omega
          rw [tryL_step c3] at hT
          have hvm : nth V (i : Int) ∈ mvals (mAt ns k) 4 := by rw [← hV, nth_eq (by omega)]; exact List.getElem_mem _
          obtain ⟨v, hv1, hv2, hv3, _⟩ := mvals_bit hvm
          have hmt := hns.tried hvm
          rw [hv1, Int.toNat_natCast] at hT hmt
          have hcl := ih f (by omega) (ns.set k (2 ^ v)) l hmt (by omega) (by omega) hlb
          have hck := chkF_ok p f (ns.set k (2 ^ v)) l
          simp(maxSteps:=999999)(disch:=omega)only[go_sem,reduceAdd,reduceMul,reduceSub,reduceEqDiff,reduceLeDiff, hv1]
          refine drawP_q foll (by kernel_rfl) ?_
          simp(maxSteps:=999999)(disch:=omega)only[go_sem,Nat.reduceBEq,Bool.true_or,reduceAdd,reduceMul,reduceSub,reduceEqDiff,reduceLeDiff]
          refine quietW.mk (tried_run hn ns hns k v hk hv3) (⟨_, Try.func132, rfl, rfl⟩ : Enters Try.prog 132) rfl rfl rfl rfl rfl ?_
          simp(maxSteps:=999999)(disch:=omega)only[go_sem,reduceAdd,reduceMul,reduceSub,reduceEqDiff,reduceLeDiff]
          cases hc : chkF p f (ns.set k (2 ^ v)) l with
          | none =>
            rw [hc] at hT hcl
            subst hT
            change Reads _ _ _ (.tup [int (-1), rsl eB []]) at hcl
            refine quietW.mk (hcl) (⟨_, Try.func95, rfl, rfl⟩ : Enters Try.prog 95) rfl rfl rfl rfl rfl ?_
            simp(maxSteps:=999999)(disch:=omega)only[go_sem,reduceAdd,reduceMul,reduceSub,reduceEqDiff,reduceLeDiff]
            ((first|(with_reducible first|refine condK_dec ?_ ?_|refine condK_ndec ?_ ?_|refine condK_nb ?_ ?_)|refine condK_b ?_ ?_) <;> intro c4)
            rotate_left
            · exfalso; omega
            simp(maxSteps:=999999)(disch:=omega)only[go_sem,reduceAdd,reduceMul,reduceSub,reduceEqDiff,reduceLeDiff]
            exact ⟨_, HLe.refl _, rfl⟩
          | some q =>
            obtain ⟨m, l'⟩ := q
            rw [hc] at hT hcl hck
            obtain ⟨⟨pre2, hp2⟩, hm2⟩ := hck
            simp only at hT
            change Reads _ _ _ (.tup [int (m : Nat), rsl eB l']) at hcl
            refine quietW.mk (hcl) (⟨_, Try.func95, rfl, rfl⟩ : Enters Try.prog 95) rfl rfl rfl rfl rfl ?_
            simp(maxSteps:=999999)(disch:=omega)only[go_sem,reduceAdd,reduceMul,reduceSub,reduceEqDiff,reduceLeDiff]
            ((first|(with_reducible first|refine condK_dec ?_ ?_|refine condK_ndec ?_ ?_|refine condK_nb ?_ ?_)|refine condK_b ?_ ?_) <;> intro c4)
            · exfalso; omega
            simp(maxSteps:=999999)(disch:=omega)only[go_sem,reduceAdd,reduceMul,reduceSub,reduceEqDiff,reduceLeDiff]
            exact ⟨i + 1, (l', s + m), ⟨⟨by omega, ⟨pre ++ pre2, by rw [hpre, hp2, List.append_assoc]⟩, by show s + m + 3 * l'.length ≤ _; omega, hT⟩, by omega⟩, by first | rfl | exact ⟨rfl, rfl⟩ | exact ⟨rfl, by push_cast; rfl, by push_cast; rfl⟩ | trace_state, HLe.refl _⟩
        · have c3 : V.length ≤ i := by omega
          rw [tryL_end c3] at hT
          subst hT
          simp(maxSteps:=999999)(disch:=omega)only[go_sem,reduceAdd,reduceMul,reduceSub,reduceEqDiff,reduceLeDiff]
          exact ⟨_, HLe.refl _, rfl⟩
end Go.Lg

namespace Go.Lg
open Go.Proofs
section
variable {P : Program} {o : Oper} {st : St} {K : KV} {fo : Operand} {ws : Array Operand} {ts : Array TypeId} {f : FuncId} {args args' : List AV} {v : AV}
theorem OpS.mkDT (hc : Reads P f args' v) (he : Enters P f) (ho : o.op = .call ⟨.value fo, ws, ts⟩) (ha : callArgs st fo ws = some (f, args)) (hs : args.mapM (snapD st.h) = some args')
    (hv : tupOk v = true ∧ scal1 v = true) (hsh : ∀ k, shiftA k v = v) (hk : K v st.h) : OpS P o st K :=
  OpS.mkD (RunCall.weaker (Q' := fun r H => r = v ∧ H = []) hc fun v' H' h => ⟨[], hle_nil _, h, rfl⟩) he ho ha hs fun r H' ⟨h1, h2⟩ => by
    subst h1
    subst h2
    refine ⟨⟨hv.1, hv.2, fun id b hb => by simp at hb⟩, ?_⟩
    rw [hsh]
    show K r (st.h ++ [])
    rw [List.append_nil]
    exact hk
end
end Go.Lg
