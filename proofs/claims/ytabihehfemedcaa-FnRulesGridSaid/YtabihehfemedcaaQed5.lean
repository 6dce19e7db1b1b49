/- GpKL, GpKM, cut to what is needed. -/
import Derived.Test.YtabihehfemedcaaQed4
set_option linter.unusedSimpArgs false
set_option linter.unusedVariables false
set_option maxRecDepth 100000
namespace Go.Lg
open Go.Proofs
theorem sum_bound {α : Type} {f : α → Int} {B : Int} : ∀ (l : List α), (∀ x ∈ l, 0 ≤ f x ∧ f x ≤ B) → 0 ≤ (l.map f).sum ∧ (l.map f).sum ≤ B * l.length
  | [], _ => by simp
  | x :: l, h => by
    have h1 := sum_bound l fun y hy => h y (by simp [hy])
    have h2 := h x (by simp)
    simp only [List.map_cons, List.sum_cons, List.length_cons]
    push_cast
    rw [Int.mul_add, Int.mul_one]
    omega
theorem cage_rule_sm {xs rs : List Int} {z : Int} {pr : Bool} (h : cageT xs z rs = true) : ∀ r ∈ cageV xs z rs pr, (0 ≤ r.val ∧ r.val ≤ 256) ∧ r.cells.length ≤ 4 := by
  intro r hr
  have h1 := cage_holds h r hr
  simp only [ruleHolds, Bool.and_eq_true] at h1
  have h2 := h1.1
  simp only [ruleValid, decide_eq_true_eq] at h2
  obtain ⟨hn, _, hs⟩ := h2
  have := cu_bound hn
  unfold ruleShape at hs
  omega
theorem sum_take_succ {α : Type} [Inhabited α] {l : List α} {f : α → Int} {k : Nat} (h : k < l.length) : ((l.take (k + 1)).map f).sum = ((l.take k).map f).sum + f (nth l k) := by
  rw [take_succ_nth h]
  simp
set_option maxHeartbeats 4000000 in
theorem law_FnCageRules (code : List Int) (hl : code.length ≤ 9223372036854775807) (hw : ∀ x ∈ code, (Lit.int .u8 x).wf = true) : Reads Try.prog 6 [rsl (eI .u8) code] (bool true) := by
  refine RunCall.cw (c := _) Try.func6 rfl (n := 142) Try.ntmps6 (rs := [.tmp 2]) rfl ?_
  simp only [List.length_cons, List.length_nil, Nat.reduceAdd, Nat.reduceSub, List.replicate, List.cons_append, List.nil_append]
  simp (maxSteps := 1000000) (disch := omega) only [go_sem, Nat.reduceAdd, Nat.reduceMul, Nat.reduceSub, Nat.reduceEqDiff, Nat.reduceLeDiff]
  (first | with_reducible refine condK_dec (fun h1 => ?_) (fun h1 => ?_) | with_reducible refine condK_ndec (fun h1 => ?_) (fun h1 => ?_) | with_reducible refine condK_nb (fun h1 => ?_) (fun h1 => ?_) | refine condK_b (fun h1 => ?_) (fun h1 => ?_))
  · simp (maxSteps := 1000000) (disch := omega) only [go_sem, Nat.reduceAdd, Nat.reduceMul, Nat.reduceSub, Nat.reduceEqDiff, Nat.reduceLeDiff]
  simp (maxSteps := 1000000) (disch := omega) only [go_sem, Nat.reduceAdd, Nat.reduceMul, Nat.reduceSub, Nat.reduceEqDiff, Nat.reduceLeDiff]
  refine OpS.mkF (DrawCageRules_run code (wf_u8' hw) (by omega)) (⟨_, Try.func26, rfl, rfl⟩ : Enters Try.prog 26) rfl rfl rfl ?_
  rintro _ ⟨xs, z, rs, pr, rfl, hx, hrs, hz1, hz2⟩
  refine ⟨rfl, rfl, ?_⟩
  have hno : cageT xs z rs = false → cageV xs z rs pr = [] := fun h => by unfold cageV; rw [if_neg (by rw [h]; simp)]
  simp (maxSteps := 1000000) (disch := omega) only [go_sem, Nat.reduceAdd, Nat.reduceMul, Nat.reduceSub, Nat.reduceEqDiff, Nat.reduceLeDiff]
  first | refine OpS.mk (CageRules_run xs z rs pr (by omega) (by omega)) (⟨_, Try.func27, rfl, rfl⟩ : Enters Try.prog 27) rfl rfl rfl rfl rfl ?_ | refine Loud.mk (CageRules_run xs z rs pr (by omega) (by omega)) (⟨_, Try.func27, rfl, rfl⟩ : Enters Try.prog 27) rfl rfl rfl rfl rfl ?_
  simp (maxSteps := 1000000) (disch := omega) only [go_sem, Nat.reduceAdd, Nat.reduceMul, Nat.reduceSub, Nat.reduceEqDiff, Nat.reduceLeDiff]
  first | refine OpS.mk (sCageRules_run xs z rs pr (by omega) (by omega) (by omega)) (⟨_, Try.func28, rfl, rfl⟩ : Enters Try.prog 28) rfl rfl rfl rfl rfl ?_ | refine Loud.mk (sCageRules_run xs z rs pr (by omega) (by omega) (by omega)) (⟨_, Try.func28, rfl, rfl⟩ : Enters Try.prog 28) rfl rfl rfl rfl rfl ?_
  simp (maxSteps := 1000000) (disch := omega) only [go_sem, Nat.reduceAdd, Nat.reduceMul, Nat.reduceSub, Nat.reduceEqDiff, Nat.reduceLeDiff]
  cases hT : cageT xs z rs with
  | false =>
    rw [hno hT]
    have d0 : decide (((0 : Nat) : Int) = 0) = true := rfl
    simp (maxSteps := 1000000) (disch := omega) only [go_sem, Nat.reduceAdd, Nat.reduceMul, Nat.reduceSub, Nat.reduceEqDiff, Nat.reduceLeDiff, d0]
    first | refine OpS.rd (aliveF_run) (⟨_, Try.func20, rfl, rfl⟩ : Enters Try.prog 20) rfl rfl rfl rfl ?_ | refine Loud.rd (aliveF_run) (⟨_, Try.func20, rfl, rfl⟩ : Enters Try.prog 20) rfl rfl rfl rfl ?_
    simp (maxSteps := 1000000) (disch := omega) only [go_sem, Nat.reduceAdd, Nat.reduceMul, Nat.reduceSub, Nat.reduceEqDiff, Nat.reduceLeDiff]
  | true =>
    have hsm := cage_rule_sm (pr := pr) hT
    have hh : (cageV xs z rs pr).all (fun r => ruleHolds r xs z) = true := List.all_eq_true.2 (cage_holds hT)
    have hcells := cage_cells (pr := pr) hT
    have hsum := fun h : pr = false => cage_sum (z := z) (xs := xs) (rs := rs) hT
    have hlen : (cageV xs z rs pr).length ≤ 4 := by
      obtain ⟨n, rfl, hn, _⟩ := cage_facts hT
      unfold cageV
      rw [if_pos hT]
      have := cageL_len xs rs pr (n : Int).toNat
      omega
    obtain ⟨n, rfl, hn, _⟩ := cage_facts hT
    have hsum : pr = false → ((cageV xs n rs pr).map fun r => r.val).sum = (n : Int) * n * (n + 1) / 2 := fun h => by rw [h]; exact cage_sum hT
    clear hno
    generalize cageV xs n rs pr = W at hsm hh hcells hsum hlen ⊢
    have hb1 := fun k => sum_bound (f := fun r : Rul => r.val) (B := 256) (W.take k) fun r hr => (hsm r (List.mem_of_mem_take hr)).1
    have hb2 := fun k => sum_bound (f := fun r : Rul => (r.cells.length : Int)) (B := 4) (W.take k) fun r hr => by have := (hsm r (List.mem_of_mem_take hr)).2; omega
    simp (maxSteps := 1000000) (disch := omega) only [go_sem, Nat.reduceAdd, Nat.reduceMul, Nat.reduceSub, Nat.reduceEqDiff, Nat.reduceLeDiff]
    refine loop_rule (fun k : Nat => W.length - k) (fun k => k ≤ W.length) (fun k => [.a, .a, .a, .k, .k, .a, .k, .k, .a, .k, .a, .p (int ((W.take k).map fun r => r.val).sum), .p (int ((W.take k).map fun r => (r.cells.length : Int)).sum), .p (int k), .a, .a, .a, .a, .a, .a, .a, .a, .a, .a, .a, .a, .a, .a, .a, .a, .a, .a, .a, .a, .a, .a, .a, .a, .a, .a, .a, .a, .a, .a, .a, .a, .a, .a, .a, .a, .a, .a, .a, .a, .a, .a, .a, .a, .a, .a, .a, .a, .a, .a, .a, .a, .a, .a, .a, .a, .a, .a, .a, .a, .a, .a, .a, .a, .a, .a, .a, .a, .a, .a, .a, .a, .a, .a, .a, .a, .a, .a, .a, .a, .a, .a, .a, .a, .a, .a, .a, .a, .a, .a, .a, .a, .a, .a, .a, .a, .a, .a, .a, .a, .a, .a, .a, .a, .a, .a, .a, .a, .a, .a, .a, .a, .a, .a, .a, .a, .a, .a, .a, .a, .a, .a, .a, .a, .a, .a, .a, .a]) (fun _ => []) 0 (Nat.zero_le _) (by simp (maxSteps := 1000000) (disch := omega) only [go_sem, Nat.reduceAdd, Nat.reduceMul, Nat.reduceSub, Nat.reduceEqDiff, Nat.reduceLeDiff]; first | rfl | exact ⟨rfl, rfl, rfl⟩) (HLe.refl _) ?_
    intro k hk
    have hb1 := hb1 k
    have hb2 := hb2 k
    rw [List.length_take, Nat.min_eq_left hk] at hb1 hb2
    simp (maxSteps := 1000000) (disch := omega) only [go_sem, Nat.reduceAdd, Nat.reduceMul, Nat.reduceSub, Nat.reduceEqDiff, Nat.reduceLeDiff]
    (first | with_reducible refine condK_dec (fun h2 => ?_) (fun h2 => ?_) | with_reducible refine condK_ndec (fun h2 => ?_) (fun h2 => ?_) | with_reducible refine condK_nb (fun h2 => ?_) (fun h2 => ?_) | refine condK_b (fun h2 => ?_) (fun h2 => ?_))
    · have h2 : k < W.length := by omega
      obtain ⟨q1, q2⟩ := hsm _ (nth_mem h2)
      have d1 : decide ((nth W k).kind = (nth W k).kind) = true := decide_eq_true rfl
      have d2 : decide ((nth W k).val = (nth W k).val) = true := decide_eq_true rfl
      have s1 := sum_take_succ (f := fun r : Rul => r.val) h2
      have s2 := sum_take_succ (f := fun r : Rul => (r.cells.length : Int)) h2
      simp (maxSteps := 1000000) (disch := omega) only [go_sem, Nat.reduceAdd, Nat.reduceMul, Nat.reduceSub, Nat.reduceEqDiff, Nat.reduceLeDiff]
      refine drawP_q foll (by kernel_rfl) ?_
      simp (maxSteps := 1000000) (disch := omega) only [go_sem, Nat.reduceBEq, Bool.true_or, Nat.reduceAdd, Nat.reduceMul, Nat.reduceSub, Nat.reduceEqDiff, Nat.reduceLeDiff]
      refine quietW.rd (sameIntsF_run (nth W k).cells (nth W k).cells (by omega)) (⟨_, Try.func18, rfl, rfl⟩ : Enters Try.prog 18) rfl rfl rfl rfl ?_
      simp (maxSteps := 1000000) (disch := omega) only [go_sem, Nat.reduceAdd, Nat.reduceMul, Nat.reduceSub, Nat.reduceEqDiff, Nat.reduceLeDiff]
      exact ⟨k + 1, by omega, ⟨s1.symm, s2.symm, by push_cast; rfl⟩, HLe.refl _⟩
    · have hke : k = W.length := by omega
      rw [hke, List.take_length] at hb1 hb2 ⊢
      rw [hcells] at hb2 ⊢
      have hnn : (n : Int) = 2 ∨ (n : Int) = 3 ∨ (n : Int) = 4 := by omega
      have hn3 : 4 ≤ (n : Int) * n ∧ (n : Int) * n ≤ 16 ∧ 0 ≤ (n : Int) * n * (n + 1) ∧ (n : Int) * n * (n + 1) ≤ 100 := by
        rcases hnn with h | h | h <;> rw [h] <;> decide
      have htd : ((n : Int) * n * (n + 1)).tdiv 2 = (n : Int) * n * (n + 1) / 2 := tdiv_nn (by omega)
      have d3 : decide ((n : Int) * n = n * n) = true := decide_eq_true rfl
      simp (maxSteps := 1000000) (disch := omega) only [go_sem, Nat.reduceAdd, Nat.reduceMul, Nat.reduceSub, Nat.reduceEqDiff, Nat.reduceLeDiff]
      first | refine OpS.rd (hold_run W xs n ⟨by omega, fun r hr => by have := (hsm r hr).2; omega⟩ (by omega)) (⟨_, Try.func21, rfl, rfl⟩ : Enters Try.prog 21) rfl rfl rfl rfl ?_ | refine Loud.rd (hold_run W xs n ⟨by omega, fun r hr => by have := (hsm r hr).2; omega⟩ (by omega)) (⟨_, Try.func21, rfl, rfl⟩ : Enters Try.prog 21) rfl rfl rfl rfl ?_
      simp (maxSteps := 1000000) (disch := omega) only [go_sem, Nat.reduceAdd, Nat.reduceMul, Nat.reduceSub, Nat.reduceEqDiff, Nat.reduceLeDiff]
      rw [hh]
      cases pr with
      | true =>
        simp (maxSteps := 1000000) (disch := omega) only [go_sem, Nat.reduceAdd, Nat.reduceMul, Nat.reduceSub, Nat.reduceEqDiff, Nat.reduceLeDiff]
      | false =>
        rw [hsum rfl] at hb1 ⊢
        have d4 : decide ((n : Int) * n * (n + 1) / 2 = (n : Int) * n * (n + 1) / 2) = true := decide_eq_true rfl
        simp (maxSteps := 1000000) (disch := omega) only [go_sem, Nat.reduceAdd, Nat.reduceMul, Nat.reduceSub, Nat.reduceEqDiff, Nat.reduceLeDiff, htd]
end Go.Lg

set_option linter.unusedSimpArgs false
set_option linter.unusedVariables false
set_option maxRecDepth 100000
namespace Go.Lg
open Go.Proofs
attribute [-go_sem] appendM lwF_cons
theorem holds_valid {r : Rul} {xs : List Int} {n : Int} (h : ruleHolds r xs n = true) : ruleValid r n = true := by
  unfold ruleHolds at h
  rw [Bool.and_eq_true] at h
  exact h.1
theorem rules_grid {xs : List Int} {n : Nat} (hs : solvedS xs n = true) {rs : List Rul} (hl : rs.length ≤ 20) (hr : ∀ r ∈ rs, ruleHolds r xs n = true) :
    puzzleValid ⟨n, List.replicate xs.length 0, rs⟩ = true ∧ fitsL ⟨n, List.replicate xs.length 0, rs⟩ xs n = true ∧ gridFilled xs n = xs.length := by
  obtain ⟨m, hm, hn, hf, hc⟩ := solvedS_full hs
  obtain rfl : n = m := by omega
  have hlen := hf.1.len
  have h0 : ∀ c : Int, 0 ≤ nth xs c := fun c => by
    by_cases hc : c.toNat < xs.length
    · rw [nth_toNat]; exact (hf.1.val _ hc).1
    · rw [nth_toNat, nth_over (by omega)]; exact Int.le_refl _
  refine ⟨?_, ?_, ?_⟩
  · simp only [puzzleValid, Bool.and_eq_true, decide_eq_true_eq, List.all_eq_true]
    refine ⟨?_, hl, fun r h => holds_valid (hr r h)⟩
    rw [hlen]
    exact grd_zeros.valid hn
  · simp only [fitsL, Bool.and_eq_true, List.all_eq_true, Bool.not_eq_true']
    refine ⟨?_, fun r h => can_of_holds rfl hf (hr r h), (clash_nc hn h0).2 hc⟩
    simp only [clear, decide_eq_true_eq]
    rintro k hk ⟨h, _⟩
    rw [nth_zeros] at h
    omega
  · simp only [solvedS, Bool.and_eq_true, decide_eq_true_eq] at hs
    rw [hs.2.2, hlen]
    push_cast
    rfl
theorem snapPoo {H : Heap} {z : Int} {c rc : CV} {zs : List Int} {S : List Nat} {rs : List Rul} (h1 : OwnI H c zs S) (h : OwnL eR 3 H rc rs) : snapD H (.agg [.f (.int .i64 z), c, rc]) = some (aP ⟨z, zs, rs⟩) := by
  have e1 : ∀ x : Int, frzC H (.f (.int .i64 x)) = some (.f (.int .i64 x)) := fun _ => rfl
  simp only [snapD, List.mapM_cons, List.mapM_nil, e1, h1.frzC, h.frzC, Option.bind_eq_bind, Option.pure_def, Option.bind_some, Option.map_some]
theorem PuzzleSolved_yes {p : Puz} {n : Nat} (hp : PuzN p n) (hv : puzzleValid p = true) (xs : List Int) (hg : GrdN xs n) (hf : fitsL p xs n = true) (hc : gridFilled xs n = xs.length) : Reads Try.prog 25 [aP p, ints xs] (bool true) := by
  have hl := hg.len
  have hsq : n * n ≤ 16 := by rcases hp.hn with rfl | rfl | rfl <;> omega
  have hz := hp.size
  have hgf := GridFilled_run xs p.size (by omega)
  rw [show gridFilled xs p.size = xs.length by rw [hz]; exact hc] at hgf
  refine RunCall.cw (c := _) Try.func25 rfl (n := 17) Try.ntmps25 (rs := [.tmp 4]) rfl ?_
  simp only [List.length_cons, List.length_nil, Nat.reduceAdd, Nat.reduceSub, List.replicate, List.cons_append, List.nil_append]
  simp (maxSteps := 1000000) (disch := omega) only [go_sem, Nat.reduceAdd, Nat.reduceMul, Nat.reduceSub, Nat.reduceEqDiff, Nat.reduceLeDiff]
  intro g
  first | refine OpS.rd (PuzzleFits_run hp hv xs hg) (⟨_, Try.func55, rfl, rfl⟩ : Enters Try.prog 55) rfl rfl rfl rfl ?_ | refine Loud.rd (PuzzleFits_run hp hv xs hg) (⟨_, Try.func55, rfl, rfl⟩ : Enters Try.prog 55) rfl rfl rfl rfl ?_
  simp (maxSteps := 1000000) (disch := omega) only [go_sem, Nat.reduceAdd, Nat.reduceMul, Nat.reduceSub, Nat.reduceEqDiff, Nat.reduceLeDiff]
  rw [hf]
  simp (maxSteps := 1000000) (disch := omega) only [go_sem, Nat.reduceAdd, Nat.reduceMul, Nat.reduceSub, Nat.reduceEqDiff, Nat.reduceLeDiff]
  first | refine OpS.rd (hgf) (⟨_, Try.func70, rfl, rfl⟩ : Enters Try.prog 70) rfl rfl rfl rfl ?_ | refine Loud.rd (hgf) (⟨_, Try.func70, rfl, rfl⟩ : Enters Try.prog 70) rfl rfl rfl rfl ?_
  simp (maxSteps := 1000000) (disch := omega) only [go_sem, Nat.reduceAdd, Nat.reduceMul, Nat.reduceSub, Nat.reduceEqDiff, Nat.reduceLeDiff]
theorem law_FnRulesGrid (code : List Int) (hl : code.length ≤ 9223372036854775807) (hw : ∀ x ∈ code, (Lit.int .u8 x).wf = true) : Reads Try.prog 5 [rsl (eI .u8) code] (bool true) := by
  refine RunCall.cw (c := _) Try.func5 rfl (n := 54) Try.ntmps5 (rs := [.tmp 2]) rfl ?_
  simp only [List.length_cons, List.length_nil, Nat.reduceAdd, Nat.reduceSub, List.replicate, List.cons_append, List.nil_append]
  simp (maxSteps := 1000000) (disch := omega) only [go_sem, Nat.reduceAdd, Nat.reduceMul, Nat.reduceSub, Nat.reduceEqDiff, Nat.reduceLeDiff]
  (first | with_reducible refine condK_dec (fun h1 => ?_) (fun h1 => ?_) | with_reducible refine condK_ndec (fun h1 => ?_) (fun h1 => ?_) | with_reducible refine condK_nb (fun h1 => ?_) (fun h1 => ?_) | refine condK_b (fun h1 => ?_) (fun h1 => ?_))
  · simp (maxSteps := 1000000) (disch := omega) only [go_sem, Nat.reduceAdd, Nat.reduceMul, Nat.reduceSub, Nat.reduceEqDiff, Nat.reduceLeDiff]
  simp (maxSteps := 1000000) (disch := omega) only [go_sem, Nat.reduceAdd, Nat.reduceMul, Nat.reduceSub, Nat.reduceEqDiff, Nat.reduceLeDiff]
  refine OpS.mkF (DrawApartRules_run code (wf_u8' hw) (by omega)) (⟨_, Try.func15, rfl, rfl⟩ : Enters Try.prog 15) rfl rfl rfl ?_
  rintro _ ⟨xs, z, b, rfl, hx, hm1, hm2⟩
  refine ⟨rfl, rfl, ?_⟩
  have hs := apartV_sm xs z b
  have hh := apartV_holds (xs := xs) (z := z) (b := b)
  simp (maxSteps := 1000000) (disch := omega) only [go_sem, Nat.reduceAdd, Nat.reduceMul, Nat.reduceSub, Nat.reduceEqDiff, Nat.reduceLeDiff]
  first | refine OpS.mk (ApartRules_run xs z b (by omega)) (⟨_, Try.func16, rfl, rfl⟩ : Enters Try.prog 16) rfl rfl rfl rfl rfl ?_ | refine Loud.mk (ApartRules_run xs z b (by omega)) (⟨_, Try.func16, rfl, rfl⟩ : Enters Try.prog 16) rfl rfl rfl rfl rfl ?_
  simp (maxSteps := 1000000) (disch := omega) only [go_sem, Nat.reduceAdd, Nat.reduceMul, Nat.reduceSub, Nat.reduceEqDiff, Nat.reduceLeDiff]
  first | refine OpS.mk (sApartRules_run xs z b (by omega)) (⟨_, Try.func17, rfl, rfl⟩ : Enters Try.prog 17) rfl rfl rfl rfl rfl ?_ | refine Loud.mk (sApartRules_run xs z b (by omega)) (⟨_, Try.func17, rfl, rfl⟩ : Enters Try.prog 17) rfl rfl rfl rfl rfl ?_
  simp (maxSteps := 1000000) (disch := omega) only [go_sem, Nat.reduceAdd, Nat.reduceMul, Nat.reduceSub, Nat.reduceEqDiff, Nat.reduceLeDiff]
  generalize apartV xs z b = W at hs hh ⊢
  first | refine OpS.rd (sSquareSolved_run xs z (by omega)) (⟨_, Try.func19, rfl, rfl⟩ : Enters Try.prog 19) rfl rfl rfl rfl ?_ | refine Loud.rd (sSquareSolved_run xs z (by omega)) (⟨_, Try.func19, rfl, rfl⟩ : Enters Try.prog 19) rfl rfl rfl rfl ?_
  simp (maxSteps := 1000000) (disch := omega) only [go_sem, Nat.reduceAdd, Nat.reduceMul, Nat.reduceSub, Nat.reduceEqDiff, Nat.reduceLeDiff]
  cases hg : solvedS xs z with
  | false =>
    simp (maxSteps := 1000000) (disch := omega) only [go_sem, Nat.reduceAdd, Nat.reduceMul, Nat.reduceSub, Nat.reduceEqDiff, Nat.reduceLeDiff]
    first | refine OpS.rd (aliveF_run) (⟨_, Try.func20, rfl, rfl⟩ : Enters Try.prog 20) rfl rfl rfl rfl ?_ | refine Loud.rd (aliveF_run) (⟨_, Try.func20, rfl, rfl⟩ : Enters Try.prog 20) rfl rfl rfl rfl ?_
    simp (maxSteps := 1000000) (disch := omega) only [go_sem, Nat.reduceAdd, Nat.reduceMul, Nat.reduceSub, Nat.reduceEqDiff, Nat.reduceLeDiff]
  | true =>
    obtain ⟨n, rfl, hn, hf, _⟩ := solvedS_full hg
    have hs2 := lessV_sm xs n 6
    have hh2 := lessV_holds (xs := xs) (z := n) (m := 6)
    simp (maxSteps := 1000000) (disch := omega) only [go_sem, Nat.reduceAdd, Nat.reduceMul, Nat.reduceSub, Nat.reduceEqDiff, Nat.reduceLeDiff]
    first | refine OpS.mk (LessRules_run xs n 6 (by omega)) (⟨_, Try.func23, rfl, rfl⟩ : Enters Try.prog 23) rfl rfl rfl rfl rfl ?_ | refine Loud.mk (LessRules_run xs n 6 (by omega)) (⟨_, Try.func23, rfl, rfl⟩ : Enters Try.prog 23) rfl rfl rfl rfl rfl ?_
    simp (maxSteps := 1000000) (disch := omega) only [go_sem, Nat.reduceAdd, Nat.reduceMul, Nat.reduceSub, Nat.reduceEqDiff, Nat.reduceLeDiff]
    generalize lessV xs n 6 = V at hs2 hh2 ⊢
    have hV := hs2.1
    have hW := hs.1
    intro g1
    refine appendM_own (E := eR) (xs := []) (ys := V) (sliceOf_of' ti26 rfl ti29) ⟨rfl, rfl, by decide, by decide⟩ rfl (look_of (b := ⟨g1, 3, cl eR []⟩) rfl) ⟨by simp, by omega⟩ elems_f ?_
    intro g2
    rw [List.length_nil, Nat.zero_add, List.nil_append]
    simp (maxSteps := 1000000) (disch := omega) only [go_sem, Nat.reduceAdd, Nat.reduceMul, Nat.reduceSub, Nat.reduceEqDiff, Nat.reduceLeDiff]
    refine appendM_own (E := eR) (xs := V) (ys := W) (sliceOf_of' ti26 rfl ti29) ⟨rfl, rfl, by decide, by decide⟩ rfl (look_of (b := ⟨g2, 3, cl eR V⟩) rfl) ⟨by omega, by omega⟩ elems_f ?_
    intro g3
    have hal : ∀ r ∈ V ++ W, ruleHolds r xs n = true := fun r hr => (List.mem_append.1 hr).elim (hh2 r) (hh r)
    rw [← List.length_append]
    generalize V ++ W = A at hal ⊢
    simp (maxSteps := 1000000) (disch := omega) only [go_sem, Nat.reduceAdd, Nat.reduceMul, Nat.reduceSub, Nat.reduceEqDiff, Nat.reduceLeDiff]
    (first | with_reducible refine condK_dec (fun h5 => ?_) (fun h5 => ?_) | with_reducible refine condK_ndec (fun h5 => ?_) (fun h5 => ?_) | with_reducible refine condK_nb (fun h5 => ?_) (fun h5 => ?_) | refine condK_b (fun h5 => ?_) (fun h5 => ?_))
    · simp (maxSteps := 1000000) (disch := omega) only [go_sem, Nat.reduceAdd, Nat.reduceMul, Nat.reduceSub, Nat.reduceEqDiff, Nat.reduceLeDiff]
    · have hA : A.length ≤ 20 := by omega
      obtain ⟨a1, a2, a3⟩ := rules_grid hg hA hal
      have hp := (PuzN.of a1).1
      rw [Int.toNat_natCast] at hp
      simp (maxSteps := 1000000) (disch := omega) only [go_sem, Nat.reduceAdd, Nat.reduceMul, Nat.reduceSub, Nat.reduceEqDiff, Nat.reduceLeDiff]
      intro g4
      have hrun := PuzzleSolved_yes hp a1 xs hf.1 a2 a3
      have hoI : OwnI [some ⟨g3, 3, cl eR A⟩, some ⟨g4, 1, cl (eI .i64) (List.replicate xs.length 0)⟩] (.own 1 g4 0 xs.length none) (List.replicate xs.length 0) [1] := by
        have := OwnI.o (H := [some ⟨g3, 3, cl eR A⟩, some ⟨g4, 1, cl (eI .i64) (List.replicate xs.length 0)⟩]) 1 g4 none (List.replicate xs.length 0) [] (by rw [List.append_nil]; exact look_of (b := ⟨g4, 1, cl (eI .i64) (List.replicate xs.length 0)⟩) rfl)
        rwa [List.length_replicate] at this
      have hoA : OwnL eR 3 [some ⟨g3, 3, cl eR A⟩, some ⟨g4, 1, cl (eI .i64) (List.replicate xs.length 0)⟩] (.own 0 g3 0 A.length none) A := OwnL.o 0 g3 _ look_zero
      refine OpS.rdD hrun (⟨_, Try.func25, rfl, rfl⟩ : Enters Try.prog 25) rfl rfl (snap_two (snapPoo hoI hoA) rfl) rfl ?_
      simp (maxSteps := 1000000) (disch := omega) only [go_sem, Nat.reduceAdd, Nat.reduceMul, Nat.reduceSub, Nat.reduceEqDiff, Nat.reduceLeDiff]
end Go.Lg
