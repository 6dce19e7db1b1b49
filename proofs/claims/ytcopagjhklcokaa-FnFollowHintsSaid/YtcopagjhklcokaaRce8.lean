/- GpND, cut to what is needed. -/
import Derived.Test.YtcopagjhklcokaaRce7
import Derived.Test.YtcopagjhklcokaaRcb4
open Nat(reduceAdd reduceMul reduceSub reduceEqDiff reduceLeDiff)
set_option linter.unusedSimpArgs false
set_option linter.unusedVariables false
set_option maxRecDepth 100000
namespace Go.Lg
open Go.Proofs
def posN (xs : List Int) : Nat := xs.countP fun v => decide (0 < v)
theorem posN_set {xs : List Int} {k : Nat} {v : Int} (hk : k < xs.length) (h0 : nth xs k = 0) (hv : 0 < v) : posN (xs.set k v) = posN xs + 1 := by
  have e : xs[k] = 0 := by rw [← h0, nth_eq (by omega)]; rfl
  unfold posN
  rw [List.countP_set (h := hk), e]
  simp [hv]
theorem fol_keep {p : Puz} {n : Nat} (hz : p.size = n) : ∀ (f : Nat) (xs : List Int), GrdN xs n →
    GrdN (folF p f xs).1 n ∧ (∀ k : Nat, 0 < nth xs k → nth (folF p f xs).1 k = nth xs k) ∧ posN (folF p f xs).1 = posN xs + (folF p f xs).2 ∧ extL p (folF p f xs).1 = extL p xs
  | 0, xs, h => ⟨h, fun _ _ => rfl, rfl, rfl⟩
  | f + 1, xs, h => by
    cases hb : hintB p xs with
    | false =>
      rw [folF_stop hb]
      exact ⟨h, fun _ _ => rfl, rfl, rfl⟩
    | true =>
      rw [folF_step hb]
      obtain ⟨_, k, v, hk, h1, h2, h3, h4, h5, h6⟩ := hint_facts hb
      have he := ext_hint hb h1 h2 hk h5 (v - 1)
      rw [if_pos (by omega), show ((v - 1 : Nat) : Int) + 1 = v by omega] at he
      rw [h1, h2, Int.toNat_natCast]
      obtain ⟨q1, q2, q3, q4⟩ := fol_keep hz f (xs.set k (v : Int)) (h.set (i := k) (v := v) hk (by omega))
      refine ⟨q1, fun i hi => ?_, ?_, q4.trans he⟩
      · have hik : i ≠ k := fun e => by rw [e, h5] at hi; omega
        have e := nth_setN xs k v i hk
        rw [if_neg hik] at e
        show nth (folF p f (xs.set k (v : Int))).1 i = _
        rw [q2 i (by rw [e]; exact hi), e]
      · show posN (folF p f (xs.set k (v : Int))).1 = posN xs + ((folF p f (xs.set k (v : Int))).2 + 1)
        rw [q3, posN_set hk h5 (by omega)]
        omega
theorem fol_grid {p : Puz} {n : Nat} {xs : List Int} (hf : fitsV p xs = true) : GrdN xs p.size.toNat ∧ GrdN (folV p xs) p.size.toNat ∧ (folV p xs).length = xs.length ∧ (∀ k : Nat, 0 < nth xs k → nth (folV p xs) k = nth xs k) ∧ gridFilled (folV p xs) p.size = gridFilled xs p.size + folN p xs ∧ extL p (folV p xs) = extL p xs ∧ 0 ≤ folN p xs ∧ folN p xs ≤ 16 := by
  obtain ⟨n, hz, hp, hv, hg, ha, hfl, hcl, hlen, hl4, hl16⟩ := fitsV_facts hf
  have hsz : p.size.toNat = n := by rw [hz]; rfl
  obtain ⟨q1, q2, q3, q4⟩ := fol_keep hz 17 xs hg
  have e1 : folV p xs = (folF p 17 xs).1 := by unfold folV; rw [if_pos hf]
  have e2 : folN p xs = ((folF p 17 xs).2 : Nat) := by unfold folN; rw [if_pos hf]
  have e3 : (folF p 17 xs).1.length = xs.length := folF_len p 17 xs
  rw [e1, e2, hsz]
  have hv1 := q1.valid hp.hn
  have hv2 := hg.valid hp.hn
  refine ⟨hg, q1, e3, q2, ?_, q4, by omega, ?_⟩
  · unfold gridFilled
    rw [hz, if_pos hv1, if_pos hv2]
    show ((posN _ : Nat) : Int) = (posN _ : Nat) + _
    rw [q3]
    push_cast
    rfl
  · have : posN (folF p 17 xs).1 ≤ (folF p 17 xs).1.length := List.countP_le_length
    omega
theorem fol_no {p : Puz} {xs : List Int} (h : fitsV p xs = false) : folN p xs = -1 ∧ folV p xs = [] := by
  unfold folN folV
  rw [h]
  exact ⟨rfl, rfl⟩
set_option maxHeartbeats 4000000 in
theorem law_FnFollowHints (code : List Int) (hl : code.length ≤ 9223372036854775807) (hw : ∀ x ∈ code, (Lit.int .u8 x).wf = true) : Reads Try.prog 11 [rsl (eI .u8) code] (bool true) := by
  refine RunCall.cw (c := _) Try.func11 rfl (n := 105) Try.ntmps11 (rs := [.tmp 2]) rfl ?_
  simp only [List.length_cons, List.length_nil, Nat.reduceAdd, Nat.reduceSub, List.replicate, List.cons_append, List.nil_append]
  simp(maxSteps:=999999)(disch:=omega)only[go_sem,reduceAdd,reduceMul,reduceSub,reduceEqDiff,reduceLeDiff]
  ((first | with_reducible refine condK_dec ?_ ?_ | with_reducible refine condK_ndec ?_ ?_ | with_reducible refine condK_nb ?_ ?_ | refine condK_b ?_ ?_) <;> intro h1)
  · simp(maxSteps:=999999)(disch:=omega)only[go_sem,reduceAdd,reduceMul,reduceSub,reduceEqDiff,reduceLeDiff]
  simp(maxSteps:=999999)(disch:=omega)only[go_sem,reduceAdd,reduceMul,reduceSub,reduceEqDiff,reduceLeDiff]
  refine OpS.mkF (DrawFollowHints_run code (wf_u8' hw) (by omega)) (⟨_, Try.func51, rfl, rfl⟩ : Enters Try.prog 51) rfl rfl rfl ?_
  rintro _ ⟨p, zs, rfl, hp, hz⟩
  refine ⟨rfl, rfl, ?_⟩
  have hs := hp.sm
  simp(maxSteps:=999999)(disch:=omega)only[go_sem,reduceAdd,reduceMul,reduceSub,reduceEqDiff,reduceLeDiff]
  intro g
  have hR : (folV p zs).length ≤ 2 ^ 40 := by have := folV_len p zs; omega
  first | refine OpS.mk (folQ_rd (FollowHints_own p zs hs (by omega))) (⟨_, Try.func37, rfl, rfl⟩ : Enters Try.prog 37) rfl rfl rfl rfl rfl ?_ | refine Loud.mk (folQ_rd (FollowHints_own p zs hs (by omega))) (⟨_, Try.func37, rfl, rfl⟩ : Enters Try.prog 37) rfl rfl rfl rfl rfl ?_
  simp(maxSteps:=999999)(disch:=omega)only[go_sem,reduceAdd,reduceMul,reduceSub,reduceEqDiff,reduceLeDiff]
  first | refine OpS.mk (folQ_rd (sFollowHints_own p zs hs (by omega))) (⟨_, Try.func36, rfl, rfl⟩ : Enters Try.prog 36) rfl rfl rfl rfl rfl ?_ | refine Loud.mk (folQ_rd (sFollowHints_own p zs hs (by omega))) (⟨_, Try.func36, rfl, rfl⟩ : Enters Try.prog 36) rfl rfl rfl rfl rfl ?_
  simp(maxSteps:=999999)(disch:=omega)only[go_sem,reduceAdd,reduceMul,reduceSub,reduceEqDiff,reduceLeDiff]
  first | refine OpS.rd (sameIntsF_run (folV p zs) (folV p zs) hR) (⟨_, Try.func21, rfl, rfl⟩ : Enters Try.prog 21) rfl rfl rfl rfl ?_ | refine Loud.rd (sameIntsF_run (folV p zs) (folV p zs) hR) (⟨_, Try.func21, rfl, rfl⟩ : Enters Try.prog 21) rfl rfl rfl rfl ?_
  simp(maxSteps:=999999)(disch:=omega)only[go_sem,reduceAdd,reduceMul,reduceSub,reduceEqDiff,reduceLeDiff]
  cases hf : fitsV p zs with
  | false =>
    obtain ⟨e1, e2⟩ := fol_no hf
    rw [e1, e2]
    ((first | with_reducible refine condK_dec ?_ ?_ | with_reducible refine condK_ndec ?_ ?_ | with_reducible refine condK_nb ?_ ?_ | refine condK_b ?_ ?_) <;> intro c0)
    rotate_left
    · exfalso; omega
    have d0 : decide (((0 : Nat) : Int) = 0) = true := rfl
    have d1 : decide ((-1 : Int) = -1) = true := rfl
    simp(maxSteps:=999999)(disch:=omega)only[go_sem,reduceAdd,reduceMul,reduceSub,reduceEqDiff,reduceLeDiff, d0, d1]
    first | refine OpS.rd (aliveF_run) (⟨_, Try.func18, rfl, rfl⟩ : Enters Try.prog 18) rfl rfl rfl rfl ?_ | refine Loud.rd (aliveF_run) (⟨_, Try.func18, rfl, rfl⟩ : Enters Try.prog 18) rfl rfl rfl rfl ?_
    simp(maxSteps:=999999)(disch:=omega)only[go_sem,reduceAdd,reduceMul,reduceSub,reduceEqDiff,reduceLeDiff]
  | true =>
    obtain ⟨k1, k2, k3, k4, k5, k6, k7, k8⟩ := fol_grid (n := 0) hf
    obtain ⟨n, hzn, hpn, hv, hg, ha, hfl, hcl, hlen, hl4, hl16⟩ := fitsV_facts hf
    obtain ⟨A, hA⟩ : ∃ A, A = folV p zs := ⟨_, rfl⟩
    obtain ⟨N, hN⟩ : ∃ N, N = folN p zs := ⟨_, rfl⟩
    rw [← hA] at k2 k3 k4 k5 k6 hR ⊢
    rw [← hN] at k5 k7 k8 ⊢
    ((first | with_reducible refine condK_dec ?_ ?_ | with_reducible refine condK_ndec ?_ ?_ | with_reducible refine condK_nb ?_ ?_ | refine condK_b ?_ ?_) <;> intro c0)
    · exfalso; omega
    simp(maxSteps:=999999)(disch:=omega)only[go_sem,reduceAdd,reduceMul,reduceSub,reduceEqDiff,reduceLeDiff]
    refine loop_rule (fun k : Nat => zs.length - k) (fun k => k ≤ zs.length) (fun k => [.a, .a, .a, .k, .k, .k, .k, .a, .a, .p (int k), .a, .a, .a, .a, .a, .a, .a, .a, .a, .a, .a, .a, .a, .a, .a, .a, .a, .a, .a, .a, .a, .a, .a, .a, .a, .a, .a, .a, .a, .a, .a, .a, .a, .a, .a, .a, .a, .a, .a, .a, .a, .a, .a, .a, .a, .a, .a, .a, .a, .a, .a, .a, .a, .a, .a, .a, .a, .a, .a, .a, .a, .a, .a, .a, .a, .a, .a, .a, .a, .a, .a, .a, .a, .a, .a, .a, .a, .a, .a, .a, .a, .a, .a, .a, .a, .a, .a, .a, .a, .a, .a, .a, .a, .a, .a]) (fun _ => [some ⟨g, 3, cP p⟩]) 0 (Nat.zero_le _) (by simp(maxSteps:=999999)(disch:=omega)only[go_sem,reduceAdd,reduceMul,reduceSub,reduceEqDiff,reduceLeDiff]; rfl) (HLe.refl _) ?_
    intro k hk'
    simp(maxSteps:=999999)(disch:=omega)only[go_sem,reduceAdd,reduceMul,reduceSub,reduceEqDiff,reduceLeDiff]
    ((first | with_reducible refine condK_dec ?_ ?_ | with_reducible refine condK_ndec ?_ ?_ | with_reducible refine condK_nb ?_ ?_ | refine condK_b ?_ ?_) <;> intro c1)
    · have c1 : k < zs.length := by omega
      have c0 := k4 k
      simp(maxSteps:=999999)(disch:=omega)only[go_sem,reduceAdd,reduceMul,reduceSub,reduceEqDiff,reduceLeDiff]
      refine drawP_q foll (by kernel_rfl) ?_
      simp (maxSteps := 1000000) (disch := omega) only [go_sem, Nat.reduceBEq, Bool.true_or, Nat.reduceAdd, Nat.reduceMul, Nat.reduceSub, Nat.reduceEqDiff, Nat.reduceLeDiff]
      simp (maxSteps := 1000000) (disch := omega) only [go_sem, lt_no, lt_yes, le_no, le_yes, eq_no, eq_yes, Nat.reduceAdd, Nat.reduceMul, Nat.reduceSub, Nat.reduceEqDiff, Nat.reduceLeDiff]
      ((first | with_reducible refine guardK_dec ?_ ?_ | with_reducible refine guardK_ndec ?_ ?_ | with_reducible refine guardK_nb ?_ ?_ | with_reducible refine guardK_split ?_ ?_ | with_reducible refine guardQ_dec ?_ ?_ | with_reducible refine guardL_dec ?_ ?_ | with_reducible refine guardQ_ndec ?_ ?_ | with_reducible refine guardL_ndec ?_ ?_ | with_reducible refine guardQ_nb ?_ ?_ | with_reducible refine guardL_nb ?_ ?_ | with_reducible refine guardQ_split ?_ ?_ | with_reducible refine guardL_split ?_ ?_) <;> intro c2 <;> simp(maxSteps:=999999)(disch:=omega)only[go_sem,reduceAdd,reduceMul,reduceSub,reduceEqDiff,reduceLeDiff, c2])
      · have c3 := c0 c2
        ((first | with_reducible refine condK_dec ?_ ?_ | with_reducible refine condK_ndec ?_ ?_ | with_reducible refine condK_nb ?_ ?_ | refine condK_b ?_ ?_) <;> intro c4)
        rotate_left
        · exact absurd c3 c4
        simp(maxSteps:=999999)(disch:=omega)only[go_sem,reduceAdd,reduceMul,reduceSub,reduceEqDiff,reduceLeDiff]
        exact ⟨k + 1, by omega, by omega, HLe.refl _⟩
      · exact ⟨k + 1, by omega, by omega, HLe.refl _⟩
    · have hd1 : decide (gridFilled A p.size = gridFilled zs p.size + N) = true := decide_eq_true k5
      have e600 : finishV p A 600 = finishV p zs 600 := by rw [fin_600 hv k2, fin_600 hv k1, k6]
      have hff := fin_600 hv k1
      have hex := extL_le p zs
      have hgb : gridFilled zs p.size ≤ 2 ^ 40 ∧ -1 ≤ gridFilled zs p.size := by
        unfold gridFilled
        split
        · have : zs.countP (fun v => decide (0 < v)) ≤ zs.length := List.countP_le_length
          omega
        · omega
      simp(maxSteps:=999999)(disch:=omega)only[go_sem,reduceAdd,reduceMul,reduceSub,reduceEqDiff,reduceLeDiff]
      first | refine OpS.rd (FinishCount_run p zs 600 hs (by omega)) (⟨_, Try.func52, rfl, rfl⟩ : Enters Try.prog 52) rfl rfl rfl rfl ?_ | refine Loud.rd (FinishCount_run p zs 600 hs (by omega)) (⟨_, Try.func52, rfl, rfl⟩ : Enters Try.prog 52) rfl rfl rfl rfl ?_
      simp(maxSteps:=999999)(disch:=omega)only[go_sem,reduceAdd,reduceMul,reduceSub,reduceEqDiff,reduceLeDiff]
      refine drawP_lF [0, 1, 2, 4, 5, 6, 8, 3, 7, 9, 10, 11, 12, 13, 14, 15, 16, 18, 17] [] none [19, 20, 21, 22] [] foll (by kernel_rfl) ?_
      simp (maxSteps := 1000000) (disch := omega) only [go_sem, Nat.reduceBEq, Bool.true_or, Nat.reduceAdd, Nat.reduceMul, Nat.reduceSub, Nat.reduceEqDiff, Nat.reduceLeDiff]
      first | refine OpS.rd (GridFilled_run A p.size (by omega)) (⟨_, Try.func53, rfl, rfl⟩ : Enters Try.prog 53) rfl rfl rfl rfl ?_ | refine Loud.rd (GridFilled_run A p.size (by omega)) (⟨_, Try.func53, rfl, rfl⟩ : Enters Try.prog 53) rfl rfl rfl rfl ?_
      simp(maxSteps:=999999)(disch:=omega)only[go_sem,reduceAdd,reduceMul,reduceSub,reduceEqDiff,reduceLeDiff]
      first | refine OpS.rd (GridFilled_run zs p.size (by omega)) (⟨_, Try.func53, rfl, rfl⟩ : Enters Try.prog 53) rfl rfl rfl rfl ?_ | refine Loud.rd (GridFilled_run zs p.size (by omega)) (⟨_, Try.func53, rfl, rfl⟩ : Enters Try.prog 53) rfl rfl rfl rfl ?_
      simp(maxSteps:=999999)(disch:=omega)only[go_sem,reduceAdd,reduceMul,reduceSub,reduceEqDiff,reduceLeDiff]
      have hd2 : decide (finishV p A 600 = finishV p zs 600) = true := decide_eq_true e600
      simp(maxSteps:=999999)(disch:=omega)only[go_sem,reduceAdd,reduceMul,reduceSub,reduceEqDiff,reduceLeDiff, hd1]
      ((first | with_reducible refine guardK_dec ?_ ?_ | with_reducible refine guardK_ndec ?_ ?_ | with_reducible refine guardK_nb ?_ ?_ | with_reducible refine guardK_split ?_ ?_ | with_reducible refine guardQ_dec ?_ ?_ | with_reducible refine guardL_dec ?_ ?_ | with_reducible refine guardQ_ndec ?_ ?_ | with_reducible refine guardL_ndec ?_ ?_ | with_reducible refine guardQ_nb ?_ ?_ | with_reducible refine guardL_nb ?_ ?_ | with_reducible refine guardQ_split ?_ ?_ | with_reducible refine guardL_split ?_ ?_) <;> intro c3 <;> simp(maxSteps:=999999)(disch:=omega)only[go_sem,reduceAdd,reduceMul,reduceSub,reduceEqDiff,reduceLeDiff, c3])
      first | refine OpS.rd (FinishCount_run p A 600 hs (by omega)) (⟨_, Try.func52, rfl, rfl⟩ : Enters Try.prog 52) rfl rfl rfl rfl ?_ | refine Loud.rd (FinishCount_run p A 600 hs (by omega)) (⟨_, Try.func52, rfl, rfl⟩ : Enters Try.prog 52) rfl rfl rfl rfl ?_
      simp(maxSteps:=999999)(disch:=omega)only[go_sem,reduceAdd,reduceMul,reduceSub,reduceEqDiff,reduceLeDiff]
      exact e600
end Go.Lg
