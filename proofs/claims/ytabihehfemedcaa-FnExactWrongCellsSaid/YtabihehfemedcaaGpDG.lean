/- All solutions up to a number, as the spec searches them. -/
import Derived.Test.YtabihehfemedcaaGpDF
set_option linter.unusedSimpArgs false
set_option linter.unusedVariables false
set_option maxRecDepth 100000
namespace Go.Lg
open Go.Proofs

theorem sPuzzleFits_run (p : Puz) (xs : List Int) (hx : smP p) (hl : xs.length ≤ 2 ^ 40) : Reads Try.prog 85 [aP p, ints xs] (bool (puzzleValid p && (gridValid xs p.size && fitsL p xs p.size.toNat))) := by
  refine RunCall.cw (c := _) Try.func85 rfl (n := 18) Try.ntmps85 (rs := [.tmp 4]) rfl ?_
  simp only [List.length_cons, List.length_nil, Nat.reduceAdd, Nat.reduceSub, List.replicate, List.cons_append, List.nil_append]
  simp (maxSteps := 1000000) (disch := omega) only [go_sem, Nat.reduceAdd, Nat.reduceMul, Nat.reduceSub, Nat.reduceEqDiff, Nat.reduceLeDiff]
  intro g
  first | refine OpS.rd (sPuzzleValid_run p hx) (⟨_, Try.func52, rfl, rfl⟩ : Enters Try.prog 52) rfl rfl rfl rfl ?_ | refine Loud.rd (sPuzzleValid_run p hx) (⟨_, Try.func52, rfl, rfl⟩ : Enters Try.prog 52) rfl rfl rfl rfl ?_
  simp (maxSteps := 1000000) (disch := omega) only [go_sem, Nat.reduceAdd, Nat.reduceMul, Nat.reduceSub, Nat.reduceEqDiff, Nat.reduceLeDiff]
  cases h1 : puzzleValid p with
  | false =>
    simp (maxSteps := 1000000) (disch := omega) only [go_sem, Nat.reduceAdd, Nat.reduceMul, Nat.reduceSub, Nat.reduceEqDiff, Nat.reduceLeDiff]
    rfl
  | true =>
    simp (maxSteps := 1000000) (disch := omega) only [go_sem, Nat.reduceAdd, Nat.reduceMul, Nat.reduceSub, Nat.reduceEqDiff, Nat.reduceLeDiff]
    first | refine OpS.rd (sGridValid_run xs p.size hl) (⟨_, Try.func53, rfl, rfl⟩ : Enters Try.prog 53) rfl rfl rfl rfl ?_ | refine Loud.rd (sGridValid_run xs p.size hl) (⟨_, Try.func53, rfl, rfl⟩ : Enters Try.prog 53) rfl rfl rfl rfl ?_
    simp (maxSteps := 1000000) (disch := omega) only [go_sem, Nat.reduceAdd, Nat.reduceMul, Nat.reduceSub, Nat.reduceEqDiff, Nat.reduceLeDiff]
    cases h2 : gridValid xs p.size with
    | false =>
      simp (maxSteps := 1000000) (disch := omega) only [go_sem, Nat.reduceAdd, Nat.reduceMul, Nat.reduceSub, Nat.reduceEqDiff, Nat.reduceLeDiff]
      rfl
    | true =>
      obtain ⟨hp, hs⟩ := PuzN.of h1
      have hg := GrdN.of hp.hn (by rw [hs]; exact h2)
      simp (maxSteps := 1000000) (disch := omega) only [go_sem, Nat.reduceAdd, Nat.reduceMul, Nat.reduceSub, Nat.reduceEqDiff, Nat.reduceLeDiff]
      first | refine OpS.rd (l5Fits_run hp xs hg) (⟨_, Try.func113, rfl, rfl⟩ : Enters Try.prog 113) rfl rfl rfl rfl ?_ | refine Loud.rd (l5Fits_run hp xs hg) (⟨_, Try.func113, rfl, rfl⟩ : Enters Try.prog 113) rfl rfl rfl rfl ?_
      simp (maxSteps := 1000000) (disch := omega) only [go_sem, Nat.reduceAdd, Nat.reduceMul, Nat.reduceSub, Nat.reduceEqDiff, Nat.reduceLeDiff]
/-! ### what hides blocks -/
theorem mask_get : ∀ (m : List Bool) (H : Heap) (j : Nat), (mask m H)[j]? = if m.getD j false = true then (H[j]?).map (fun _ => none) else H[j]?
  | [], H, j => by simp [mask]
  | b :: m, [], j => by cases b <;> simp [mask]
  | b :: m, x :: H, j => by
    have ih := mask_get m H
    cases b <;> cases j with
    | zero => simp [mask]
    | succ j => simp only [mask, List.getElem?_cons_succ, List.getD_cons_succ, ih j]
theorem look_mask {m : List Bool} {H : Heap} {id g : Nat} (h : m.getD id false = false) : look (mask m H) id g = look H id g := by
  unfold look
  rw [mask_get, h]
  simp
theorem okM_gen {m : List Bool} {H H' : Heap} (h : ∀ j (b : Blk), m.getD j false = false → H[j]? = some (some b) → H'[j]? = some (some b)) : okM m H H' := fun id b hb => by
  rw [mask_get] at hb ⊢
  by_cases hm : m.getD id false = true
  · rw [if_pos hm] at hb
    cases hh : H[id]? <;> simp [hh] at hb
  · rw [if_neg hm] at hb ⊢
    exact h id b (by simpa using hm) hb
/-- Hidden are this one, and all from a number on. -/
def hideM (o n : Nat) (N : Nat) : List Bool := (List.range N).map fun j => decide (j = o ∨ n ≤ j)
theorem hideM_no {o n N j : Nat} (h1 : j ≠ o) (h2 : j < n) : (hideM o n N).getD j false = false := by
  by_cases h : j < N
  · simp [hideM, List.getD, h, h1, h2]
  · have : (hideM o n N)[j]? = none := List.getElem?_eq_none (by simp [hideM]; omega)
    simp [List.getD, this]
theorem hideM_yes {o n N j : Nat} (h : (hideM o n N).getD j false = false) (hj : j < N) : j ≠ o ∧ j < n := by
  simp [hideM, List.getD, hj] at h
  omega
/-! ### the list of what has been found -/
structure OutL (H : Heap) (pid pg : Nat) (ls : List (List Int)) (S : List Nat) : Prop where
  ex : ∃ oid og cs, look H pid pg = some ⟨pg, 1, [.own oid og 0 ls.length none]⟩ ∧ look H oid og = some ⟨og, 1, cs⟩ ∧ oid ∈ S ∧ cs.length = ls.length ∧ ∀ i (h : i < ls.length), ∃ id g, cs[i]? = some (.own id g 0 ls[i].length none) ∧ look H id g = some ⟨g, 1, cl (eI .i64) ls[i]⟩ ∧ id ∈ S ∧ id ≠ oid
  pn : pid ∉ S
theorem OutL.same {H H' : Heap} {pid pg : Nat} {ls : List (List Int)} {S : List Nat} (h : OutL H pid pg ls S) (hs : ∀ i, i = pid ∨ i ∈ S → H'[i]? = H[i]?) : OutL H' pid pg ls S := by
  obtain ⟨⟨oid, og, cs, h1, h2, h3, h4, h5⟩, hn⟩ := h
  refine ⟨⟨oid, og, cs, by unfold look at *; rw [hs pid (.inl rfl)]; exact h1, by unfold look at *; rw [hs oid (.inr h3)]; exact h2, h3, h4, fun i hi => ?_⟩, hn⟩
  obtain ⟨id, g, k1, k2, k3, k4⟩ := h5 i hi
  exact ⟨id, g, k1, by unfold look at *; rw [hs id (.inr k3)]; exact k2, k3, k4⟩
end Go.Lg
