/- GpRD, cut to what is needed. -/
import Derived.Test.YtpdaalgdkdpihaaUad1
import Derived.Test.YtpdaalgdkdpihaaUad2
import Derived.Test.YtpdaalgdkdpihaaUad3
open Nat(reduceAdd reduceMul reduceSub reduceEqDiff reduceLeDiff)
set_option linter.unusedSimpArgs false
set_option linter.unusedVariables false
set_option maxRecDepth 100000
namespace Go.Lg
open Go.Proofs
theorem new_sm {p : Puz} (h : smP p) : smG (gameOf p) := by
  unfold gameOf
  split
  · exact ⟨h, by rw [List.length_replicate]; exact h.1, by simp⟩
  · exact ⟨⟨by simp, by simp, by simp⟩, by simp, by simp⟩
theorem zeros_filled (k : Nat) : filledAt (List.replicate k 0) = [] := by
  unfold filledAt
  rw [List.map_eq_nil_iff, List.filter_eq_nil_iff]
  intro i _
  rw [nth_zeros]
  simp
theorem new_facts {p : Puz} (hv : puzzleValid p = true) : gameValid (gameOf p) = true ∧ gameBackB (gameOf p) = false ∧ gameGrid (gameOf p) = p.given := by
  have e : gameOf p = ⟨p, List.replicate p.given.length 0, []⟩ := by unfold gameOf; rw [if_pos hv]
  obtain ⟨hp, hz⟩ := PuzN.of hv
  have hlen : p.given.length = p.size.toNat * p.size.toNat := hp.len
  have hgz : GrdN (List.replicate p.given.length 0) p.size.toNat := by rw [hlen]; exact ⟨by simp, fun k _ => by rw [nth_zeros]; omega⟩
  have hgv : gridValid (List.replicate p.given.length 0) p.size = true := by have := hgz.valid hp.hn; rwa [hz] at this
  have hok : gameValid (gameOf p) = true := by
    rw [e]
    simp only [gameValid, Bool.and_eq_true, decide_eq_true_eq]
    refine ⟨hv, hgv, by simp, ?_⟩
    refine ⟨List.nodup_nil, fun c hc => absurd hc (by simp), fun c hc => ?_⟩
    have hc : c ∈ filledAt (List.replicate p.given.length 0) := hc
    rw [zeros_filled] at hc
    cases hc
  refine ⟨hok, ?_, ?_⟩
  · unfold gameBackB
    rw [e]
    simp
  · have e2 : gameGrid (gameOf p) = bothG (gameOf p).task.given (gameOf p).put := by unfold gameGrid; rw [if_pos hok]
    rw [e2, e]
    refine ext_nth (by rw [bothG_length]) fun j hj => ?_
    have hj : j < p.given.length := by rw [bothG_length] at hj; exact hj
    show nth (bothG p.given (List.replicate p.given.length 0)) (j : Int) = _
    rw [bothG_nth hj, nth_zeros]
    have := (puz_factsT hv).2.val j hj
    omega
set_option maxHeartbeats 2000000 in
theorem law_FnGameOf (code : List Int) (hl : code.length ≤ 9223372036854775807) (hw : ∀ x ∈ code, (Lit.int .u8 x).wf = true) : Reads Try.prog 7 [rsl (eI .u8) code] (bool true) := by
  refine RunCall.cw (c := _) Try.func7 rfl (n := 47) Try.ntmps7 (rs := [.tmp 2]) rfl ?_
  simp only [List.length_cons, List.length_nil, Nat.reduceAdd, Nat.reduceSub, List.replicate, List.cons_append, List.nil_append]
  simp(maxSteps:=999999)(disch:=omega)only[go_sem,reduceAdd,reduceMul,reduceSub,reduceEqDiff,reduceLeDiff]
  ((first | with_reducible refine condK_dec ?_ ?_ | with_reducible refine condK_ndec ?_ ?_ | with_reducible refine condK_nb ?_ ?_ | refine condK_b ?_ ?_) <;> intro h1)
  · simp(maxSteps:=999999)(disch:=omega)only[go_sem,reduceAdd,reduceMul,reduceSub,reduceEqDiff,reduceLeDiff]
  simp(maxSteps:=999999)(disch:=omega)only[go_sem,reduceAdd,reduceMul,reduceSub,reduceEqDiff,reduceLeDiff]
  refine OpS.mkF (DrawGameOf_run code (wf_u8' hw) (by omega)) (⟨_, Try.func34, rfl, rfl⟩ : Enters Try.prog 34) rfl rfl rfl ?_
  rintro _ ⟨p, rfl, hp⟩
  refine ⟨rfl, rfl, ?_⟩
  have hs := hp.sm
  have hsG := new_sm hs
  have hbb : decide (gameOf p = gameOf p) = true := decide_eq_true rfl
  simp(maxSteps:=999999)(disch:=omega)only[go_sem,reduceAdd,reduceMul,reduceSub,reduceEqDiff,reduceLeDiff]
  intro g
  first | refine OpS.mk (Reads.ownG (GameOf_own p hs)) (⟨_, Try.func26, rfl, rfl⟩ : Enters Try.prog 26) rfl rfl rfl rfl rfl ?_ | refine Loud.mk (Reads.ownG (GameOf_own p hs)) (⟨_, Try.func26, rfl, rfl⟩ : Enters Try.prog 26) rfl rfl rfl rfl rfl ?_
  simp(maxSteps:=999999)(disch:=omega)only[go_sem,reduceAdd,reduceMul,reduceSub,reduceEqDiff,reduceLeDiff]
  intro g2
  refine drawP_q foll (by kernel_rfl) ?_
  simp (maxSteps := 1000000) (disch := omega) only [go_sem, Nat.reduceBEq, Bool.true_or, Nat.reduceAdd, Nat.reduceMul, Nat.reduceSub, Nat.reduceEqDiff, Nat.reduceLeDiff]
  refine quietW.mk (sGameOf_run p hs) (⟨_, Try.func24, rfl, rfl⟩ : Enters Try.prog 24) rfl rfl rfl rfl rfl ?_
  simp(maxSteps:=999999)(disch:=omega)only[go_sem,reduceAdd,reduceMul,reduceSub,reduceEqDiff,reduceLeDiff]
  refine quietW.rd (sameGame_run (gameOf p) (gameOf p) hsG) (⟨_, Try.func35, rfl, rfl⟩ : Enters Try.prog 35) rfl rfl rfl rfl ?_
  simp(maxSteps:=999999)(disch:=omega)only[go_sem,reduceAdd,reduceMul,reduceSub,reduceEqDiff,reduceLeDiff]
  first | refine OpS.rd (sPuzzleValid_run p hs) (⟨_, Try.func36, rfl, rfl⟩ : Enters Try.prog 36) rfl rfl rfl rfl ?_ | refine Loud.rd (sPuzzleValid_run p hs) (⟨_, Try.func36, rfl, rfl⟩ : Enters Try.prog 36) rfl rfl rfl rfl ?_
  simp(maxSteps:=999999)(disch:=omega)only[go_sem,reduceAdd,reduceMul,reduceSub,reduceEqDiff,reduceLeDiff]
  cases hv : puzzleValid p with
  | false =>
    have e : gameOf p = ⟨⟨0, [], []⟩, [], []⟩ := by unfold gameOf; rw [hv]; rfl
    rw [e]
    ((first | with_reducible refine condK_dec ?_ ?_ | with_reducible refine condK_ndec ?_ ?_ | with_reducible refine condK_nb ?_ ?_ | refine condK_b ?_ ?_) <;> intro c0)
    · cases c0
    have d0 : decide ((0 : Int) = 0) = true := rfl
    simp(maxSteps:=999999)(disch:=omega)only[go_sem,reduceAdd,reduceMul,reduceSub,reduceEqDiff,reduceLeDiff, d0]
    first | refine OpS.rd (aliveF_run) (⟨_, Try.func37, rfl, rfl⟩ : Enters Try.prog 37) rfl rfl rfl rfl ?_ | refine Loud.rd (aliveF_run) (⟨_, Try.func37, rfl, rfl⟩ : Enters Try.prog 37) rfl rfl rfl rfl ?_
    simp(maxSteps:=999999)(disch:=omega)only[go_sem,reduceAdd,reduceMul,reduceSub,reduceEqDiff,reduceLeDiff]
  | true =>
    obtain ⟨k1, k2, k3⟩ := new_facts hv
    have hgl : (gameGrid (gameOf p)).length ≤ 2 ^ 40 := by rw [k3]; exact hs.1
    ((first | with_reducible refine condK_dec ?_ ?_ | with_reducible refine condK_ndec ?_ ?_ | with_reducible refine condK_nb ?_ ?_ | refine condK_b ?_ ?_) <;> intro c0)
    rotate_left
    · cases c0
    have hgb := Reads.ownGB (GameBack_own (gameOf p) hsG)
    simp(maxSteps:=999999)(disch:=omega)only[go_sem,reduceAdd,reduceMul,reduceSub,reduceEqDiff,reduceLeDiff]
    first | refine OpS.mk (hgb) (⟨_, Try.func31, rfl, rfl⟩ : Enters Try.prog 31) rfl rfl rfl rfl rfl ?_ | refine Loud.mk (hgb) (⟨_, Try.func31, rfl, rfl⟩ : Enters Try.prog 31) rfl rfl rfl rfl rfl ?_
    simp(maxSteps:=999999)(disch:=omega)only[go_sem,reduceAdd,reduceMul,reduceSub,reduceEqDiff,reduceLeDiff]
    intro g3
    refine drawP_q foll (by kernel_rfl) ?_
    simp (maxSteps := 1000000) (disch := omega) only [go_sem, Nat.reduceBEq, Bool.true_or, Nat.reduceAdd, Nat.reduceMul, Nat.reduceSub, Nat.reduceEqDiff, Nat.reduceLeDiff]
    refine quietW.rd (GameValid_run (gameOf p) hsG) (⟨_, Try.func38, rfl, rfl⟩ : Enters Try.prog 38) rfl rfl rfl rfl ?_
    simp(maxSteps:=999999)(disch:=omega)only[go_sem,reduceAdd,reduceMul,reduceSub,reduceEqDiff,reduceLeDiff]
    rw [k1, k2]
    simp(maxSteps:=999999)(disch:=omega)only[go_sem,reduceAdd,reduceMul,reduceSub,reduceEqDiff,reduceLeDiff]
    refine quietW.mk (Reads.ownI (GameGrid_own (gameOf p) hsG)) (⟨_, Try.func17, rfl, rfl⟩ : Enters Try.prog 17) rfl rfl rfl rfl rfl ?_
    simp(maxSteps:=999999)(disch:=omega)only[go_sem,reduceAdd,reduceMul,reduceSub,reduceEqDiff,reduceLeDiff]
    refine quietW.rd (sameIntsF_run (gameGrid (gameOf p)) p.given hgl) (⟨_, Try.func39, rfl, rfl⟩ : Enters Try.prog 39) rfl rfl rfl rfl ?_
    simp(maxSteps:=999999)(disch:=omega)only[go_sem,reduceAdd,reduceMul,reduceSub,reduceEqDiff,reduceLeDiff]
    rw [k3]
    trace_state
end Go.Lg
