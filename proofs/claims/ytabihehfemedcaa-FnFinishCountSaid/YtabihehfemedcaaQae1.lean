/- GpIB, cut to what is needed. -/
import Derived.Test.YtabihehfemedcaaQae0
set_option linter.unusedSimpArgs false
set_option linter.unusedVariables false
set_option maxRecDepth 100000
namespace Go.Lg
open Go.Proofs
theorem ext_set {p : Puz} {zs : List Int} {k : Nat} (hk : k < zs.length) (h0 : ¬ 0 < nth zs k) (v : Nat) : extL p (zs.set k ((v : Int) + 1)) = (extL p zs).filter fun s => decide (nth s k = (v : Int) + 1) := by
  unfold extL
  rw [List.filter_filter]
  congr 1
  funext s
  rw [← Bool.decide_and, decide_eq_decide]
  constructor
  · intro h
    have h1 := h k (by rw [nth_setN _ _ _ _ hk, if_pos rfl]; omega)
    rw [nth_setN _ _ _ _ hk, if_pos rfl] at h1
    refine ⟨h1, fun i hi => ?_⟩
    have hik : i ≠ k := fun h => by rw [h] at hi; exact h0 hi
    have h2 := h i (by rw [nth_setN _ _ _ _ hk, if_neg hik]; exact hi)
    rwa [nth_setN _ _ _ _ hk, if_neg hik] at h2
  · rintro ⟨h1, h2⟩ i hi
    rw [nth_setN _ _ _ _ hk] at hi ⊢
    split
    · rename_i hik; rw [hik]; exact h1
    · rename_i hik; rw [if_neg hik] at hi; exact h2 i hi
def cntLe (L : List (List Int)) (k v : Nat) : Nat := (L.filter fun (s : List Int) => decide (nth s k ≤ (v : Int))).length
theorem cntLe_succ (L : List (List Int)) (k v : Nat) : cntLe L k (v + 1) = cntLe L k v + (L.filter fun s => decide (nth s k = (v : Int) + 1)).length := by
  unfold cntLe
  induction L with
  | nil => rfl
  | cons s L ih =>
    simp only [List.filter_cons, decide_eq_true_eq]
    split <;> split <;> split <;> (try simp only [List.length_cons]) <;> omega
theorem cntLe_zero {L : List (List Int)} {k : Nat} (h : ∀ s ∈ L, 1 ≤ nth s k) : cntLe L k 0 = 0 := by
  unfold cntLe
  rw [List.filter_eq_nil_iff.2 fun s hs => by have := h s hs; simp; omega]
  rfl
theorem cntLe_all {L : List (List Int)} {k v : Nat} (h : ∀ s ∈ L, nth s k ≤ v) : cntLe L k v = L.length := by
  unfold cntLe
  rw [List.filter_eq_self.2 fun s hs => by simpa using h s hs]
theorem cntLe_le (L : List (List Int)) (k v : Nat) : cntLe L k v ≤ L.length := List.length_filter_le _ _
theorem fin_ext {p : Puz} (hv : puzzleValid p = true) {xs : List Int} (hx : GrdN xs p.size.toNat) {m : Int} (hm : 1 ≤ m ∧ m ≤ 600) : finishV p xs m = min m ((extL p xs).length : Int) := by
  have hz : ((p.size.toNat : Nat) : Int) = p.size := (PuzN.of hv).2
  unfold finishV
  rw [if_pos ⟨hv, by have := hx.valid (PuzN.of hv).1.hn; rwa [hz] at this, hm⟩, fin_len hv hx]
  omega
theorem fin_600 {p : Puz} (hv : puzzleValid p = true) {xs : List Int} (hx : GrdN xs p.size.toNat) : finishV p xs 600 = ((extL p xs).length : Int) := by
  rw [fin_ext hv hx (by omega)]
  have := extL_le p xs
  omega
theorem fin_neg {p : Puz} {xs : List Int} {m : Int} (h : finishV p xs m < 0) : finishV p xs m = -1 := by
  unfold finishV at h ⊢
  split at h
  · omega
  · rename_i hn; rw [if_neg hn]
theorem fin_nn {p : Puz} {xs : List Int} {m : Int} (h : ¬ finishV p xs m < 0) : puzzleValid p = true ∧ gridValid xs p.size = true ∧ 1 ≤ m ∧ m ≤ 600 := by
  unfold finishV at h
  split at h
  · rename_i hv; exact hv
  · omega
theorem count_600 {p : Puz} (hv : puzzleValid p = true) : countV p 600 = ((allL p).length : Int) := by
  unfold countV
  rw [if_pos ⟨hv, by omega, by omega⟩]
  show ((allS p 600).length : Int) = _
  rw [allS_all]
theorem ext_vals {p : Puz} (hv : puzzleValid p = true) {xs : List Int} {k : Nat} (hk : k < p.given.length) : ∀ s ∈ extL p xs, 1 ≤ nth s k ∧ nth s k ≤ (p.size.toNat : Nat) := fun s hs => sol_val hv (mem_ext.1 hs).1 hk
set_option maxHeartbeats 2000000 in
theorem law_FnFinishCount (code : List Int) (hl : code.length ≤ 9223372036854775807) (hw : ∀ x ∈ code, (Lit.int .u8 x).wf = true) : Reads Try.prog 14 [rsl (eI .u8) code] (bool true) := by
  refine RunCall.cw (c := _) Try.func14 rfl (n := 94) Try.ntmps14 (rs := [.tmp 2]) rfl ?_
  simp only [List.length_cons, List.length_nil, Nat.reduceAdd, Nat.reduceSub, List.replicate, List.cons_append, List.nil_append]
  simp (maxSteps := 1000000) (disch := omega) only [go_sem, Nat.reduceAdd, Nat.reduceMul, Nat.reduceSub, Nat.reduceEqDiff, Nat.reduceLeDiff]
  (first | with_reducible refine condK_dec (fun h1 => ?_) (fun h1 => ?_) | with_reducible refine condK_ndec (fun h1 => ?_) (fun h1 => ?_) | with_reducible refine condK_nb (fun h1 => ?_) (fun h1 => ?_) | refine condK_b (fun h1 => ?_) (fun h1 => ?_))
  · simp (maxSteps := 1000000) (disch := omega) only [go_sem, Nat.reduceAdd, Nat.reduceMul, Nat.reduceSub, Nat.reduceEqDiff, Nat.reduceLeDiff]
  simp (maxSteps := 1000000) (disch := omega) only [go_sem, Nat.reduceAdd, Nat.reduceMul, Nat.reduceSub, Nat.reduceEqDiff, Nat.reduceLeDiff]
  refine OpS.mkF (DrawFinishCount_run code (wf_u8' hw) (by omega)) (⟨_, Try.func56, rfl, rfl⟩ : Enters Try.prog 56) rfl rfl rfl ?_
  rintro _ ⟨p, zs, m, rfl, hp, hz, hm⟩
  refine ⟨rfl, rfl, ?_⟩
  have hs := hp.sm
  have hgl := hp.1
  simp (maxSteps := 1000000) (disch := omega) only [go_sem, Nat.reduceAdd, Nat.reduceMul, Nat.reduceSub, Nat.reduceEqDiff, Nat.reduceLeDiff]
  intro g
  first | refine OpS.rd (FinishCount_run p zs m hs (by omega)) (⟨_, Try.func36, rfl, rfl⟩ : Enters Try.prog 36) rfl rfl rfl rfl ?_ | refine Loud.rd (FinishCount_run p zs m hs (by omega)) (⟨_, Try.func36, rfl, rfl⟩ : Enters Try.prog 36) rfl rfl rfl rfl ?_
  simp (maxSteps := 1000000) (disch := omega) only [go_sem, Nat.reduceAdd, Nat.reduceMul, Nat.reduceSub, Nat.reduceEqDiff, Nat.reduceLeDiff]
  first | refine OpS.rd (sFinishCount_run p zs m hs (by omega)) (⟨_, Try.func34, rfl, rfl⟩ : Enters Try.prog 34) rfl rfl rfl rfl ?_ | refine Loud.rd (sFinishCount_run p zs m hs (by omega)) (⟨_, Try.func34, rfl, rfl⟩ : Enters Try.prog 34) rfl rfl rfl rfl ?_
  simp (maxSteps := 1000000) (disch := omega) only [go_sem, Nat.reduceAdd, Nat.reduceMul, Nat.reduceSub, Nat.reduceEqDiff, Nat.reduceLeDiff]
  (first | with_reducible refine condK_dec (fun h2 => ?_) (fun h2 => ?_) | with_reducible refine condK_ndec (fun h2 => ?_) (fun h2 => ?_) | with_reducible refine condK_nb (fun h2 => ?_) (fun h2 => ?_) | refine condK_b (fun h2 => ?_) (fun h2 => ?_))
  · have e := fin_neg h2
    rw [e]
    simp (maxSteps := 1000000) (disch := omega) only [go_sem, Nat.reduceAdd, Nat.reduceMul, Nat.reduceSub, Nat.reduceEqDiff, Nat.reduceLeDiff]
    first | refine OpS.rd (aliveF_run) (⟨_, Try.func20, rfl, rfl⟩ : Enters Try.prog 20) rfl rfl rfl rfl ?_ | refine Loud.rd (aliveF_run) (⟨_, Try.func20, rfl, rfl⟩ : Enters Try.prog 20) rfl rfl rfl rfl ?_
    simp (maxSteps := 1000000) (disch := omega) only [go_sem, Nat.reduceAdd, Nat.reduceMul, Nat.reduceSub, Nat.reduceEqDiff, Nat.reduceLeDiff]
  obtain ⟨hv, hgv, hm1, hm2⟩ := fin_nn h2
  have hgf := grd_facts hv hgv
  have hz' : ((p.size.toNat : Nat) : Int) = p.size := (PuzN.of hv).2
  have hn4 : p.size.toNat ≤ 4 := by have := (PuzN.of hv).1.hn; omega
  have hex := extL_le p zs
  simp (maxSteps := 1000000) (disch := omega) only [go_sem, Nat.reduceAdd, Nat.reduceMul, Nat.reduceSub, Nat.reduceEqDiff, Nat.reduceLeDiff]
  first | refine OpS.rd (FinishCount_run p zs 600 hs (by omega)) (⟨_, Try.func36, rfl, rfl⟩ : Enters Try.prog 36) rfl rfl rfl rfl ?_ | refine Loud.rd (FinishCount_run p zs 600 hs (by omega)) (⟨_, Try.func36, rfl, rfl⟩ : Enters Try.prog 36) rfl rfl rfl rfl ?_
  simp (maxSteps := 1000000) (disch := omega) only [go_sem, Nat.reduceAdd, Nat.reduceMul, Nat.reduceSub, Nat.reduceEqDiff, Nat.reduceLeDiff]
  refine loop_rule (fun k : Nat => zs.length - k) (fun k => k ≤ zs.length) (fun k => [.a, .a, .a, .k, .k, .k, .k, .k, .p (int k), .a, .a, .a, .a, .a, .a, .a, .a, .a, .a, .a, .a, .a, .a, .a, .a, .a, .a, .a, .a, .a, .a, .a, .a, .a, .a, .a, .a, .a, .a, .a, .a, .a, .a, .a, .a, .a, .a, .a, .a, .a, .a, .a, .a, .a, .a, .a, .a, .a, .a, .a, .a, .a, .a, .a, .a, .a, .a, .a, .a, .a, .a, .a, .a, .a, .a, .a, .a, .a, .a, .a, .a, .a, .a, .a, .a, .a, .a, .a, .a, .a, .a, .a, .a, .a]) (fun _ => [some ⟨g, 3, cP p⟩]) 0 (Nat.zero_le _) (by simp (maxSteps := 1000000) (disch := omega) only [go_sem, Nat.reduceAdd, Nat.reduceMul, Nat.reduceSub, Nat.reduceEqDiff, Nat.reduceLeDiff]; rfl) (HLe.refl _) ?_
  intro k hk'
  simp (maxSteps := 1000000) (disch := omega) only [go_sem, Nat.reduceAdd, Nat.reduceMul, Nat.reduceSub, Nat.reduceEqDiff, Nat.reduceLeDiff]
  (first | with_reducible refine condK_dec (fun h3 => ?_) (fun h3 => ?_) | with_reducible refine condK_ndec (fun h3 => ?_) (fun h3 => ?_) | with_reducible refine condK_nb (fun h3 => ?_) (fun h3 => ?_) | refine condK_b (fun h3 => ?_) (fun h3 => ?_))
  · have h3 : k < zs.length := by omega
    simp (maxSteps := 1000000) (disch := omega) only [go_sem, Nat.reduceAdd, Nat.reduceMul, Nat.reduceSub, Nat.reduceEqDiff, Nat.reduceLeDiff]
    (first | with_reducible refine condK_dec (fun h4 => ?_) (fun h4 => ?_) | with_reducible refine condK_ndec (fun h4 => ?_) (fun h4 => ?_) | with_reducible refine condK_nb (fun h4 => ?_) (fun h4 => ?_) | refine condK_b (fun h4 => ?_) (fun h4 => ?_))
    · simp (maxSteps := 1000000) (disch := omega) only [go_sem, Nat.reduceAdd, Nat.reduceMul, Nat.reduceSub, Nat.reduceEqDiff, Nat.reduceLeDiff]
      exact ⟨k + 1, by omega, by omega, HLe.refl _⟩
    · simp (maxSteps := 1000000) (disch := omega) only [go_sem, Nat.reduceAdd, Nat.reduceMul, Nat.reduceSub, Nat.reduceEqDiff, Nat.reduceLeDiff]
      have hz0 := cntLe_zero fun s hs => (ext_vals (xs := zs) hv (k := k) (by omega) s hs).1
      refine loop_rule (fun v : Nat => p.size.toNat - v) (fun v => v ≤ p.size.toNat) (fun v => [.a, .a, .a, .k, .k, .k, .k, .k, .k, .p (int (cntLe (extL p zs) k v)), .p (int (v + 1)), .a, .a, .a, .a, .a, .a, .a, .a, .a, .a, .a, .a, .a, .a, .a, .a, .a, .a, .a, .a, .a, .a, .a, .a, .a, .a, .a, .a, .a, .a, .a, .a, .a, .a, .a, .a, .a, .a, .a, .a, .a, .a, .a, .a, .a, .a, .a, .a, .a, .a, .a, .a, .a, .a, .a, .a, .a, .a, .a, .a, .a, .a, .a, .a, .a, .a, .a, .a, .a, .a, .a, .a, .a, .a, .a, .a, .a, .a, .a, .a, .a, .a, .a]) (fun _ => [some ⟨g, 3, cP p⟩]) 0 (Nat.zero_le _) (by simp (maxSteps := 1000000) (disch := omega) only [go_sem, Nat.reduceAdd, Nat.reduceMul, Nat.reduceSub, Nat.reduceEqDiff, Nat.reduceLeDiff]; exact ⟨by rw [hz0]; rfl, rfl⟩) (HLe.refl _) ?_
      intro v hv'
      have hcl := cntLe_le (extL p zs) k v
      have hcs := cntLe_succ (extL p zs) k v
      simp (maxSteps := 1000000) (disch := omega) only [go_sem, Nat.reduceAdd, Nat.reduceMul, Nat.reduceSub, Nat.reduceEqDiff, Nat.reduceLeDiff]
      (first | with_reducible refine condK_dec (fun h5 => ?_) (fun h5 => ?_) | with_reducible refine condK_ndec (fun h5 => ?_) (fun h5 => ?_) | with_reducible refine condK_nb (fun h5 => ?_) (fun h5 => ?_) | refine condK_b (fun h5 => ?_) (fun h5 => ?_))
      · have h5 : v < p.size.toNat := by omega
        simp (maxSteps := 1000000) (disch := omega) only [go_sem, Nat.reduceAdd, Nat.reduceMul, Nat.reduceSub, Nat.reduceEqDiff, Nat.reduceLeDiff]
        intro g1 g2
        have hown : ∀ lim, OwnI [some ⟨g, 3, cP p⟩, some ⟨g2, 1, cl (eI .i64) (zs.set k ((v : Int) + 1))⟩] (.own 1 g2 0 zs.length lim) (zs.set k ((v : Int) + 1)) [1] := fun lim => by
          have := OwnI.o (H := [some ⟨g, 3, cP p⟩, some ⟨g2, 1, cl (eI .i64) (zs.set k ((v : Int) + 1))⟩]) 1 g2 lim (zs.set k ((v : Int) + 1)) [] (by rw [List.append_nil]; exact look_of (b := ⟨g2, 1, cl (eI .i64) (zs.set k ((v : Int) + 1))⟩) rfl)
          rwa [List.length_set] at this
        rw [Int.toNat_natCast, Nat.zero_add]
        refine OpS.rdD (FinishCount_run p _ 600 hs (by rw [List.length_set]; omega)) (⟨_, Try.func36, rfl, rfl⟩ : Enters Try.prog 36) rfl rfl (snap_three rfl (hown _).snap rfl) rfl ?_
        have hgs : GrdN (zs.set k ((v : Int) + 1)) p.size.toNat := by
          have := hgf.2.1.set (i := k) (v := v + 1) h3 (by omega)
          push_cast at this
          exact this
        have e : finishV p (zs.set k ((v : Int) + 1)) 600 = (((extL p zs).filter fun s => decide (nth s k = (v : Int) + 1)).length : Nat) := by rw [fin_600 hv hgs, ext_set h3 h4]
        rw [e]
        generalize ((extL p zs).filter fun s => decide (nth s k = (v : Int) + 1)).length = X at hcs
        have hcl2 := cntLe_le (extL p zs) k (v + 1)
        have hX : X ≤ 576 := by omega
        simp (maxSteps := 1000000) (disch := omega) only [go_sem, Nat.reduceAdd, Nat.reduceMul, Nat.reduceSub, Nat.reduceEqDiff, Nat.reduceLeDiff]
        exact ⟨v + 1, by omega, ⟨by rw [hcs]; push_cast; rfl, by omega⟩, HLe.app _ _⟩
      · have hve : v = p.size.toNat := by omega
        have h6 := fin_600 hv hgf.2.1
        have h7 := cntLe_all fun s hs => (ext_vals (xs := zs) hv (k := k) (by omega) s hs).2
        rw [← hve] at h7
        have hdd : decide ((cntLe (extL p zs) k v : Int) = finishV p zs 600) = true := by
          rw [h6, h7]
          exact decide_eq_true rfl
        simp (maxSteps := 1000000) (disch := omega) only [go_sem, Nat.reduceAdd, Nat.reduceMul, Nat.reduceSub, Nat.reduceEqDiff, Nat.reduceLeDiff, hdd]
        rw [blockK_miss _ _ rfl]
        simp (maxSteps := 1000000) (disch := omega) only [go_sem, Nat.reduceAdd, Nat.reduceMul, Nat.reduceSub, Nat.reduceEqDiff, Nat.reduceLeDiff]
        obtain ⟨A, hA⟩ : ∃ A, A = finishV p zs 600 := ⟨_, rfl⟩
        obtain ⟨C, hC⟩ : ∃ C, C = countV p 600 := ⟨_, rfl⟩
        have hd1 : decide (finishV p zs m = min m (finishV p zs 600)) = true := by
          rw [fin_ext hv hgf.2.1 ⟨hm1, hm2⟩, fin_600 hv hgf.2.1]
          exact decide_eq_true rfl
        have hd2 : decide (finishV p zs 600 ≤ countV p 600) = true := by
          rw [fin_600 hv hgf.2.1, count_600 hv]
          exact decide_eq_true (by have : (extL p zs).length ≤ (allL p).length := List.length_filter_le _ _; omega)
        have hd3 : finishV p (List.replicate zs.length 0) 600 = countV p 600 := by
          rw [fin_600 hv (by rw [← hgf.2.2.2.1, hgf.2.2.1.len]; exact grd_zeros), ext_zero, count_600 hv]
        refine drawP_lF [0, 1, 2, 3, 4, 5, 6, 7, 8, 9, 10, 11, 12, 13, 14, 17, 15, 16] [] none [18, 19, 20, 21] [] foll (by kernel_rfl) ?_
        simp (maxSteps := 1000000) (disch := omega) only [go_sem, Nat.reduceBEq, Bool.true_or, Nat.reduceAdd, Nat.reduceMul, Nat.reduceSub, Nat.reduceEqDiff, Nat.reduceLeDiff]
        simp (maxSteps := 1000000) (disch := omega) only [go_sem, Nat.reduceAdd, Nat.reduceMul, Nat.reduceSub, Nat.reduceEqDiff, Nat.reduceLeDiff, hd1]
        first | refine OpS.rd (CountSolutions_run p 600 hs) (⟨_, Try.func57, rfl, rfl⟩ : Enters Try.prog 57) rfl rfl rfl rfl ?_ | refine Loud.rd (CountSolutions_run p 600 hs) (⟨_, Try.func57, rfl, rfl⟩ : Enters Try.prog 57) rfl rfl rfl rfl ?_
        simp (maxSteps := 1000000) (disch := omega) only [go_sem, Nat.reduceAdd, Nat.reduceMul, Nat.reduceSub, Nat.reduceEqDiff, Nat.reduceLeDiff]
        simp (maxSteps := 1000000) (disch := omega) only [go_sem, Nat.reduceAdd, Nat.reduceMul, Nat.reduceSub, Nat.reduceEqDiff, Nat.reduceLeDiff, hd2]
        intro g2
        have hown := OwnI.o (H := [some ⟨g, 3, cP p⟩, some ⟨g2, 1, cl (eI .i64) (List.replicate zs.length 0)⟩]) 1 g2 none (List.replicate zs.length 0) [] (by rw [List.append_nil]; exact look_of (b := ⟨g2, 1, cl (eI .i64) (List.replicate zs.length 0)⟩) rfl)
        rw [List.length_replicate] at hown
        refine Loud.rdD (FinishCount_run p (List.replicate zs.length 0) 600 hs (by simp; omega)) (⟨_, Try.func36, rfl, rfl⟩ : Enters Try.prog 36) rfl rfl (snap_three rfl hown.snap rfl) rfl ?_
        rw [hd3]
        simp (maxSteps := 1000000) (disch := omega) only [go_sem, Nat.reduceAdd, Nat.reduceMul, Nat.reduceSub, Nat.reduceEqDiff, Nat.reduceLeDiff]
        first | refine OpS.rd (CountSolutions_run p 600 hs) (⟨_, Try.func57, rfl, rfl⟩ : Enters Try.prog 57) rfl rfl rfl rfl ?_ | refine Loud.rd (CountSolutions_run p 600 hs) (⟨_, Try.func57, rfl, rfl⟩ : Enters Try.prog 57) rfl rfl rfl rfl ?_
        simp (maxSteps := 1000000) (disch := omega) only [go_sem, Nat.reduceAdd, Nat.reduceMul, Nat.reduceSub, Nat.reduceEqDiff, Nat.reduceLeDiff]
  · simp (maxSteps := 1000000) (disch := omega) only [go_sem, Nat.reduceAdd, Nat.reduceMul, Nat.reduceSub, Nat.reduceEqDiff, Nat.reduceLeDiff]
    obtain ⟨A, hA⟩ : ∃ A, A = finishV p zs 600 := ⟨_, rfl⟩
    obtain ⟨C, hC⟩ : ∃ C, C = countV p 600 := ⟨_, rfl⟩
    have hd1 : decide (finishV p zs m = min m (finishV p zs 600)) = true := by
      rw [fin_ext hv hgf.2.1 ⟨hm1, hm2⟩, fin_600 hv hgf.2.1]
      exact decide_eq_true rfl
    have hd2 : decide (finishV p zs 600 ≤ countV p 600) = true := by
      rw [fin_600 hv hgf.2.1, count_600 hv]
      exact decide_eq_true (by have : (extL p zs).length ≤ (allL p).length := List.length_filter_le _ _; omega)
    have hd3 : finishV p (List.replicate zs.length 0) 600 = countV p 600 := by
      rw [fin_600 hv (by rw [← hgf.2.2.2.1, hgf.2.2.1.len]; exact grd_zeros), ext_zero, count_600 hv]
    refine drawP_lF [0, 1, 2, 3, 4, 5, 6, 7, 8, 9, 10, 11, 12, 13, 14, 17, 15, 16] [] none [18, 19, 20, 21] [] foll (by kernel_rfl) ?_
    simp (maxSteps := 1000000) (disch := omega) only [go_sem, Nat.reduceBEq, Bool.true_or, Nat.reduceAdd, Nat.reduceMul, Nat.reduceSub, Nat.reduceEqDiff, Nat.reduceLeDiff]
    simp (maxSteps := 1000000) (disch := omega) only [go_sem, Nat.reduceAdd, Nat.reduceMul, Nat.reduceSub, Nat.reduceEqDiff, Nat.reduceLeDiff, hd1]
    first | refine OpS.rd (CountSolutions_run p 600 hs) (⟨_, Try.func57, rfl, rfl⟩ : Enters Try.prog 57) rfl rfl rfl rfl ?_ | refine Loud.rd (CountSolutions_run p 600 hs) (⟨_, Try.func57, rfl, rfl⟩ : Enters Try.prog 57) rfl rfl rfl rfl ?_
    simp (maxSteps := 1000000) (disch := omega) only [go_sem, Nat.reduceAdd, Nat.reduceMul, Nat.reduceSub, Nat.reduceEqDiff, Nat.reduceLeDiff]
    simp (maxSteps := 1000000) (disch := omega) only [go_sem, Nat.reduceAdd, Nat.reduceMul, Nat.reduceSub, Nat.reduceEqDiff, Nat.reduceLeDiff, hd2]
    intro g2
    have hown := OwnI.o (H := [some ⟨g, 3, cP p⟩, some ⟨g2, 1, cl (eI .i64) (List.replicate zs.length 0)⟩]) 1 g2 none (List.replicate zs.length 0) [] (by rw [List.append_nil]; exact look_of (b := ⟨g2, 1, cl (eI .i64) (List.replicate zs.length 0)⟩) rfl)
    rw [List.length_replicate] at hown
    refine Loud.rdD (FinishCount_run p (List.replicate zs.length 0) 600 hs (by simp; omega)) (⟨_, Try.func36, rfl, rfl⟩ : Enters Try.prog 36) rfl rfl (snap_three rfl hown.snap rfl) rfl ?_
    rw [hd3]
    simp (maxSteps := 1000000) (disch := omega) only [go_sem, Nat.reduceAdd, Nat.reduceMul, Nat.reduceSub, Nat.reduceEqDiff, Nat.reduceLeDiff]
    first | refine OpS.rd (CountSolutions_run p 600 hs) (⟨_, Try.func57, rfl, rfl⟩ : Enters Try.prog 57) rfl rfl rfl rfl ?_ | refine Loud.rd (CountSolutions_run p 600 hs) (⟨_, Try.func57, rfl, rfl⟩ : Enters Try.prog 57) rfl rfl rfl rfl ?_
    simp (maxSteps := 1000000) (disch := omega) only [go_sem, Nat.reduceAdd, Nat.reduceMul, Nat.reduceSub, Nat.reduceEqDiff, Nat.reduceLeDiff]
end Go.Lg
