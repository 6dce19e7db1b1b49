/- All solutions up to a number, as the spec tells them. -/
import Derived.Test.YtabihehfemedcaaGpDI
set_option linter.unusedSimpArgs false
set_option linter.unusedVariables false
set_option maxRecDepth 100000
namespace Go.Lg
open Go.Proofs

theorem mapM_of {α β : Type} {f : α → Option β} : ∀ (l : List α) (r : List β), l.length = r.length → (∀ i (h : i < l.length) (h' : i < r.length), f l[i] = some r[i]) → l.mapM f = some r
  | [], [], _, _ => rfl
  | [], _ :: _, h, _ => by simp at h
  | _ :: _, [], h, _ => by simp at h
  | a :: l, b :: r, hl, h => by
    have h0 := h 0 (by simp) (by simp)
    have ih := mapM_of l r (by simpa using hl) fun i h1 h2 => h (i + 1) (by simpa using h1) (by simpa using h2)
    simp only [List.getElem_cons_zero] at h0
    simp only [List.mapM_cons, h0, ih, Option.pure_def, Option.bind_eq_bind, Option.bind_some]
theorem OutL.frz {H : Heap} {pid pg : Nat} {ls : List (List Int)} {S : List Nat} (h : OutL H pid pg ls S) : ∃ oid og, look H pid pg = some ⟨pg, 1, [.own oid og 0 ls.length none]⟩ ∧ frzC H (.own oid og 0 ls.length none) = some (.f (fsl eL ls)) := by
  obtain ⟨⟨oid, og, cs, h1, h2, h3, h4, h5⟩, _⟩ := h
  refine ⟨oid, og, h1, ?_⟩
  have hm : cs.mapM (Lg.frz H 5) = some (ls.map fints) := by
    refine mapM_of _ _ (by simp [h4]) fun i hi hi' => ?_
    have hil : i < ls.length := by omega
    obtain ⟨id, g, k1, k2, k3, k4⟩ := h5 i hil
    have e : cs[i] = .own id g 0 ls[i].length none := by
      rw [List.getElem?_eq_getElem hi] at k1
      exact Option.some.inj k1
    rw [e, List.getElem_map]
    exact (OwnI.o (H := H) id g none ls[i] [] (by rw [List.append_nil]; exact k2)).frz 4
  have et : (cs.drop 0).take (ls.length * 1) = cs := by rw [List.drop_zero, List.take_of_length_le (by omega)]
  have ef : ls.map fints = fl eL ls := by
    have : ∀ l : List (List Int), l.map fints = fl eL l := fun l => by
      induction l with
      | nil => rfl
      | cons x l ih => simp only [List.map_cons, ih, fl, List.flatMap_cons, eL, List.cons_append, List.nil_append]
    exact this ls
  simp only [frzC, Lg.frz, h2, et, hm, Option.map_some, ef]
theorem puzzleValid_grid' {p : Puz} (h : puzzleValid p = true) : gridValid p.given p.size = true := by
  simp only [puzzleValid, Bool.and_eq_true] at h; exact h.1
/-- All solutions of a puzzle, up to a number. -/
def allS (p : Puz) (most : Nat) : List (List Int) := if puzzleValid p = true ∧ fitsL p p.given p.size.toNat = true then (sols p p.size.toNat (p.size.toNat * p.size.toNat) p.given).take most else []
theorem l5All_run (p : Puz) (most : Nat) (hmo : 1 ≤ most ∧ most ≤ 600) (hx : smP p) : Reads Try.prog 81 [aP p, int most] (rsl eL (allS p most)) := by
  have hgl := hx.1
  refine Reads.iced ?_
  refine RunCall.cw (c := _) Try.func81 rfl (n := 17) Try.ntmps81 (rs := [.tmp 4]) rfl ?_
  simp only [List.length_cons, List.length_nil, Nat.reduceAdd, Nat.reduceSub, List.replicate, List.cons_append, List.nil_append]
  simp (maxSteps := 1000000) (disch := omega) only [go_sem, Nat.reduceAdd, Nat.reduceMul, Nat.reduceSub, Nat.reduceEqDiff, Nat.reduceLeDiff]
  intro g1 g2 g3
  first | refine OpS.rd (sPuzzleFits_run p p.given hx hgl) (⟨_, Try.func85, rfl, rfl⟩ : Enters Try.prog 85) rfl rfl rfl rfl ?_ | refine Loud.rd (sPuzzleFits_run p p.given hx hgl) (⟨_, Try.func85, rfl, rfl⟩ : Enters Try.prog 85) rfl rfl rfl rfl ?_
  simp (maxSteps := 1000000) (disch := omega) only [go_sem, Nat.reduceAdd, Nat.reduceMul, Nat.reduceSub, Nat.reduceEqDiff, Nat.reduceLeDiff]
  cases hc : (puzzleValid p && (gridValid p.given p.size && fitsL p p.given p.size.toNat)) with
  | false =>
    simp (maxSteps := 1000000) (disch := omega) only [go_sem, Nat.reduceAdd, Nat.reduceMul, Nat.reduceSub, Nat.reduceEqDiff, Nat.reduceLeDiff]
    have : allS p most = [] := by
      unfold allS
      rw [if_neg]
      rintro ⟨h1, h2⟩
      rw [h1, puzzleValid_grid' h1, h2] at hc
      cases hc
    rw [this]
    exact lessQ_ice (by simp only [frzA, frz1, frzC, frz, go_sem]; rfl)
  | true =>
    simp only [Bool.and_eq_true] at hc
    obtain ⟨h1, h2, h3⟩ := hc
    obtain ⟨hp, hs⟩ := PuzN.of h1
    have hg := GrdN.of hp.hn (xs := p.given) (by rw [hs]; exact h2)
    have hall : allS p most = (sols p p.size.toNat (p.size.toNat * p.size.toNat) p.given).take most := by unfold allS; rw [if_pos ⟨h1, h3⟩]
    generalize p.size.toNat = n at hp hs hg hall
    have hr := l5Search_frz hp most hmo.2 (n * n) [some ⟨g1, 1, cP p⟩, some ⟨g2, 1, []⟩, some ⟨g3, 1, [CV.own 1 g2 0 0 none]⟩] p.given 2 g3 [] [1] (Nat.le_refl _) hg (by simp; omega)
      ⟨⟨1, g2, [], by simp only [go_sem], by simp only [go_sem], by simp, rfl, fun i hi => by simp at hi⟩, by simp⟩ (by simp)
    rw [Nat.sub_self] at hr
    simp (maxSteps := 1000000) (disch := omega) only [go_sem, Nat.reduceAdd, Nat.reduceMul, Nat.reduceSub, Nat.reduceEqDiff, Nat.reduceLeDiff]
    refine OpS.run hr (⟨_, Try.func108, rfl, rfl⟩ : Enters Try.prog 108) rfl rfl ?_
    rintro _ H2 ⟨rfl, S2, o2, _⟩
    rw [List.nil_append, List.length_nil, Nat.sub_zero, ← hall] at o2
    obtain ⟨oid, og, k1, k2⟩ := o2.frz
    simp (maxSteps := 1000000) (disch := omega) only [go_sem, Nat.reduceAdd, Nat.reduceMul, Nat.reduceSub, Nat.reduceEqDiff, Nat.reduceLeDiff, k1]
    exact lessQ_ice (by simp only [frzA, frz1, k2, Option.map_some])
end Go.Lg
