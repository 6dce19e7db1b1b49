/- GpGG, GpFC, GpEA, cut to what is needed. -/
import Derived.Test.YtabihehfemedcaaQad1
import Derived.Test.YtabihehfemedcaaQad0
import Derived.Test.YtabihehfemedcaaQac2
set_option linter.unusedSimpArgs false
set_option linter.unusedVariables false
set_option maxRecDepth 100000
namespace Go.Lg
open Go.Proofs
attribute [-go_sem] appendM lwF_cons
theorem resV_ctt (P : Program) (s : List AV) (H : Heap) (t u w : Nat) (ty : TypeId) : resV P s H [.cell t ty, .tmp u, .tmp w] = (loadV P H ty (s.getD t .void)).map fun v => .tup [v, s.getD u .void, s.getD w .void] := by
  simp only [resV, resAll, resOne]
  cases loadV P H ty (s.getD t .void) <;> rfl
attribute [go_sem] resV_ctt
theorem DrawCanFinish_run (code : List Int) (hb : ∀ x ∈ code, 0 ≤ x ∧ x ≤ 255) (hl : code.length ≤ 2 ^ 40) : RunCall Try.prog 51 [rsl (eI .u8) code] [] (fun v _ => dTry v) := by
  refine RunCall.cw (c := _) Try.func51 rfl (n := 9) Try.ntmps51 (rs := [.cell 2 37, .tmp 3]) rfl ?_
  simp only [List.length_cons, List.length_nil, Nat.reduceAdd, Nat.reduceSub, List.replicate, List.cons_append, List.nil_append]
  simp (maxSteps := 1000000) (disch := omega) only [go_sem, Nat.reduceAdd, Nat.reduceMul, Nat.reduceSub, Nat.reduceEqDiff, Nat.reduceLeDiff]
  intro g4
  refine OpS.mkRd (l20Open_run code hb hl) (⟨_, Try.func58, rfl, rfl⟩ : Enters Try.prog 58) rfl rfl rfl ?_
  intro g H1 r1 hl1
  simp (maxSteps := 1000000) (disch := omega) only [go_sem, Nat.reduceAdd, Nat.reduceMul, Nat.reduceSub, Nat.reduceEqDiff, Nat.reduceLeDiff]
  refine OpS.run (l20Try_run _ 1 g 0 12 r1 (by omega) (by omega)) (⟨_, Try.func96, rfl, rfl⟩ : Enters Try.prog 96) rfl rfl ?_
  rintro _ H2 ⟨⟨p, zs, rfl, hp, hz⟩, r2, f2⟩
  have h4 : look H2 0 g4 = some ⟨g4, 3, [.f (.int .i64 0), .f .nil, .f .nil]⟩ := by rw [f2.look (by simp)]; exact look_zero
  have hS : ∀ b, look (H2.set 0 (some ⟨g4, 3, b⟩)) 0 g4 = some ⟨g4, 3, b⟩ := fun b => look_set_eq' (List.getElem?_eq_some_iff.1 (look_some h4).1).1
  simp (maxSteps := 1000000) (disch := omega) only [go_sem, Nat.reduceAdd, Nat.reduceMul, Nat.reduceSub, Nat.reduceEqDiff, Nat.reduceLeDiff, h4, hS]
  exact ⟨_, HLe.refl _, p, zs, rfl, hp, hz⟩
theorem DrawForcedValue_run (code : List Int) (hb : ∀ x ∈ code, 0 ≤ x ∧ x ≤ 255) (hl : code.length ≤ 2 ^ 40) : RunCall Try.prog 50 [rsl (eI .u8) code] [] (fun v _ => ∃ (p : Puz) (y : Int), v = .tup [aP p, int y] ∧ smD p ∧ -1 ≤ y ∧ y ≤ 20) := by
  refine RunCall.cw (c := _) Try.func50 rfl (n := 14) Try.ntmps50 (rs := [.cell 2 37, .tmp 3]) rfl ?_
  simp only [List.length_cons, List.length_nil, Nat.reduceAdd, Nat.reduceSub, List.replicate, List.cons_append, List.nil_append]
  simp (maxSteps := 1000000) (disch := omega) only [go_sem, Nat.reduceAdd, Nat.reduceMul, Nat.reduceSub, Nat.reduceEqDiff, Nat.reduceLeDiff]
  intro g4
  refine OpS.mkRd (l20Open_run code hb hl) (⟨_, Try.func58, rfl, rfl⟩ : Enters Try.prog 58) rfl rfl rfl ?_
  intro g H1 r1 hl1
  simp (maxSteps := 1000000) (disch := omega) only [go_sem, Nat.reduceAdd, Nat.reduceMul, Nat.reduceSub, Nat.reduceEqDiff, Nat.reduceLeDiff]
  refine OpS.run (l20Puzzle_run _ 1 g 0 12 r1 (by omega) (by omega)) (⟨_, Try.func95, rfl, rfl⟩ : Enters Try.prog 95) rfl rfl ?_
  rintro _ H2 ⟨⟨p, rfl, hp⟩, r2, f2⟩
  have h4 : look H2 0 g4 = some ⟨g4, 3, [.f (.int .i64 0), .f .nil, .f .nil]⟩ := by rw [f2.look (by simp)]; exact look_zero
  have hl2 : H2.length = 2 := by rw [f2.1]; simp [hl1]
  simp (maxSteps := 1000000) (disch := omega) only [go_sem, Nat.reduceAdd, Nat.reduceMul, Nat.reduceSub, Nat.reduceEqDiff, Nat.reduceLeDiff, look_off, look_off0, set_off, set_off0, List.append_assoc, List.cons_append, List.nil_append, List.length_append]
  intro g5
  have hM : look (mask [true, true] (H2 ++ [some ⟨g5, 3, cP p⟩])) H2.length g5 = some ⟨g5, 3, cP p⟩ := by rw [look_mask (by rw [hl2]; rfl)]; exact look_last
  have hok : ∀ X Y : Heap, (∀ j, 2 ≤ j → j < X.length → Y[j]? = X[j]?) → okM [true, true] X Y := fun X Y h => okM_gen fun j b hj hb => by
    have hjl := (List.getElem?_eq_some_iff.1 hb).1
    have hj2 : 2 ≤ j := by
      match j, hj with
      | 0, hj => simp at hj
      | 1, hj => simp at hj
      | j + 2, _ => omega
    rw [h j hj2 hjl]
    exact hb
  refine drawP_lM [0, 1, 2, 3, 4] [] none [5] [true, true] [0, 0, 2, 6, 7, 31] foll (by kernel_rfl) ?_
  iterate 2 (rw [lwF_cons]; simp (maxSteps := 1000000) (disch := omega) only [go_sem, Nat.reduceAdd, Nat.reduceMul, Nat.reduceSub, Nat.reduceEqDiff, Nat.reduceLeDiff, hM])
  rw [lwF_cons]
  simp (maxSteps := 1000000) (disch := omega) only [go_sem, Nat.reduceAdd, Nat.reduceMul, Nat.reduceSub, Nat.reduceEqDiff, Nat.reduceLeDiff]
  refine Loud.run (pick_run _ 1 g _ _ (r2.app) (by omega)) (⟨_, Try.func63, rfl, rfl⟩ : Enters Try.prog 63) rfl rfl ?_
  rintro _ H3 ⟨⟨y, rfl, y0, y1⟩, r3, f3⟩
  have y1 := y1 (by omega)
  replace f3 : Frm (H2 ++ [some ⟨g5, 3, cP p⟩]) H3 [1] := f3
  refine ⟨hok _ _ fun j hj _ => f3.2 j (by simp; omega), ?_⟩
  have h43 : look H3 0 g4 = some ⟨g4, 3, [.f (.int .i64 0), .f .nil, .f .nil]⟩ := by rw [f3.look (by simp)]; exact look_appL h4
  have hS : ∀ b, look (H3.set 0 (some ⟨g4, 3, b⟩)) 0 g4 = some ⟨g4, 3, b⟩ := fun b => look_set_eq' (List.getElem?_eq_some_iff.1 (look_some h43).1).1
  rw [lwF_cons]
  simp (maxSteps := 1000000) (disch := omega) only [go_sem, Nat.reduceAdd, Nat.reduceMul, Nat.reduceSub, Nat.reduceEqDiff, Nat.reduceLeDiff]
  rw [lwF_cons]
  simp (maxSteps := 1000000) (disch := omega) only [go_sem, Nat.reduceAdd, Nat.reduceMul, Nat.reduceSub, Nat.reduceEqDiff, Nat.reduceLeDiff, h43]
  refine ⟨hok _ _ fun j hj _ => by rw [List.getElem?_set_ne (by omega)], ?_⟩
  simp (maxSteps := 1000000) (disch := omega) only [go_sem, Nat.reduceAdd, Nat.reduceMul, Nat.reduceSub, Nat.reduceEqDiff, Nat.reduceLeDiff, hS]
  exact ⟨_, HLe.refl _, p, _, rfl, hp, by omega, by omega⟩
theorem l20Most_run (H : Heap) (id g : Nat) (B : Int) (hr : RdAt H id g B) (hB : B ≤ 2 ^ 36) : RunCall Try.prog 100 [.c (.ptr id g 0)] H (fun v H' => (∃ y, v = int y ∧ 0 ≤ y ∧ y ≤ 601) ∧ RdAt H' id g (B + 2) ∧ Frm H H' [id]) := by
  have hlt := hr.lt
  refine RunCall.cw (c := _) Try.func100 rfl (n := 14) Try.ntmps100 (rs := [.tmp 2]) rfl ?_
  simp only [List.length_cons, List.length_nil, Nat.reduceAdd, Nat.reduceSub, List.replicate, List.cons_append, List.nil_append]
  simp (maxSteps := 1000000) (disch := omega) only [go_sem, Nat.reduceAdd, Nat.reduceMul, Nat.reduceSub, Nat.reduceEqDiff, Nat.reduceLeDiff]
  refine OpS.run (pick_run H id g B 4 hr (by omega)) (⟨_, Try.func63, rfl, rfl⟩ : Enters Try.prog 63) rfl rfl ?_
  rintro _ H1 ⟨⟨y, rfl, y0, y1⟩, r1, f1⟩
  have y1 := y1 (by omega)
  replace f1 : Frm H H1 [id] := f1
  simp (maxSteps := 1000000) (disch := omega) only [go_sem, Nat.reduceAdd, Nat.reduceMul, Nat.reduceSub, Nat.reduceEqDiff, Nat.reduceLeDiff, look_off, look_off0, set_off, set_off0, List.append_assoc, List.cons_append, List.nil_append, List.length_append]
  intro ga gb
  refine OpS.run (pick_run _ id g _ 7 r1.app (by omega)) (⟨_, Try.func63, rfl, rfl⟩ : Enters Try.prog 63) rfl rfl ?_
  rintro _ H2 ⟨⟨e, rfl, e0, e1⟩, r2, f2⟩
  have e1 := e1 (by omega)
  have l1 := r1.lt
  replace f2 : Frm (H1 ++ [some ⟨ga, 1, [.f (.int .i64 (1 + y)), .f (.int .i64 600), .f (.int .i64 0), .f (.int .i64 601)]⟩, some ⟨gb, 1, [.f (.int .i64 0), .f (.int .i64 0), .f (.int .i64 0), .f (.int .i64 1), .f (.int .i64 1), .f (.int .i64 2), .f (.int .i64 3)]⟩]) H2 [id] := f2
  have ha : look H2 H1.length ga = some ⟨ga, 1, [.f (.int .i64 (1 + y)), .f (.int .i64 600), .f (.int .i64 0), .f (.int .i64 601)]⟩ := by rw [f2.look (by simp; omega), look_off0]; exact look_zero
  have hb : look H2 (H1.length + 1) gb = some ⟨gb, 1, [.f (.int .i64 0), .f (.int .i64 0), .f (.int .i64 0), .f (.int .i64 1), .f (.int .i64 1), .f (.int .i64 2), .f (.int .i64 3)]⟩ := by rw [f2.look (by simp; omega), look_off]; exact look_of (b := ⟨gb, 1, [.f (.int .i64 0), .f (.int .i64 0), .f (.int .i64 0), .f (.int .i64 1), .f (.int .i64 1), .f (.int .i64 2), .f (.int .i64 3)]⟩) rfl
  obtain rfl | rfl | rfl | rfl | rfl | rfl | rfl : e = 0 ∨ e = 1 ∨ e = 2 ∨ e = 3 ∨ e = 4 ∨ e = 5 ∨ e = 6 := by omega
  all_goals
    simp (maxSteps := 1000000) (disch := omega) only [go_sem, Nat.reduceAdd, Nat.reduceMul, Nat.reduceSub, Nat.reduceEqDiff, Nat.reduceLeDiff, ha, hb, Int.reduceToNat]
    exact ⟨_, hle_take _ _, ⟨_, rfl, by omega, by omega⟩, (r2.take hlt).mono (by omega), frm_take f1 f2⟩
theorem DrawFinishCount_run (code : List Int) (hb : ∀ x ∈ code, 0 ≤ x ∧ x ≤ 255) (hl : code.length ≤ 2 ^ 40) : RunCall Try.prog 56 [rsl (eI .u8) code] [] (fun v _ => ∃ (p : Puz) (zs : List Int) (y : Int), v = .tup [aP p, ints zs, int y] ∧ smD p ∧ zs.length ≤ 16 ∧ 0 ≤ y ∧ y ≤ 601) := by
  refine RunCall.cw (c := _) Try.func56 rfl (n := 19) Try.ntmps56 (rs := [.cell 2 37, .tmp 3, .tmp 4]) rfl ?_
  simp only [List.length_cons, List.length_nil, Nat.reduceAdd, Nat.reduceSub, List.replicate, List.cons_append, List.nil_append]
  simp (maxSteps := 1000000) (disch := omega) only [go_sem, Nat.reduceAdd, Nat.reduceMul, Nat.reduceSub, Nat.reduceEqDiff, Nat.reduceLeDiff]
  intro g4
  refine OpS.mkRd (l20Open_run code hb hl) (⟨_, Try.func58, rfl, rfl⟩ : Enters Try.prog 58) rfl rfl rfl ?_
  intro g H1 r1 hl1
  simp (maxSteps := 1000000) (disch := omega) only [go_sem, Nat.reduceAdd, Nat.reduceMul, Nat.reduceSub, Nat.reduceEqDiff, Nat.reduceLeDiff]
  refine OpS.run (l20Try_run _ 1 g 0 12 r1 (by omega) (by omega)) (⟨_, Try.func96, rfl, rfl⟩ : Enters Try.prog 96) rfl rfl ?_
  rintro _ H2 ⟨⟨p, zs, rfl, hp, hz⟩, r2, f2⟩
  have h4 : look H2 0 g4 = some ⟨g4, 3, [.f (.int .i64 0), .f .nil, .f .nil]⟩ := by rw [f2.look (by simp)]; exact look_zero
  have hl2 : H2.length = 2 := by rw [f2.1]; simp [hl1]
  simp (maxSteps := 1000000) (disch := omega) only [go_sem, Nat.reduceAdd, Nat.reduceMul, Nat.reduceSub, Nat.reduceEqDiff, Nat.reduceLeDiff, look_off, look_off0, set_off, set_off0, List.append_assoc, List.cons_append, List.nil_append, List.length_append]
  intro g5
  have hM : look (mask [true, true] (H2 ++ [some ⟨g5, 3, cP p⟩])) H2.length g5 = some ⟨g5, 3, cP p⟩ := by rw [look_mask (by rw [hl2]; rfl)]; exact look_last
  have hok : ∀ X Y : Heap, (∀ j, 2 ≤ j → j < X.length → Y[j]? = X[j]?) → okM [true, true] X Y := fun X Y h => okM_gen fun j b hj hb => by
    have hjl := (List.getElem?_eq_some_iff.1 hb).1
    have hj2 : 2 ≤ j := by
      match j, hj with
      | 0, hj => simp at hj
      | 1, hj => simp at hj
      | j + 2, _ => omega
    rw [h j hj2 hjl]
    exact hb
  refine drawP_lM [0, 1, 2, 3, 4] [] none [5, 6] [true, true] [0, 0, 0, 4, 13, 31, 63] foll (by kernel_rfl) ?_
  iterate 3 (rw [lwF_cons]; simp (maxSteps := 1000000) (disch := omega) only [go_sem, Nat.reduceAdd, Nat.reduceMul, Nat.reduceSub, Nat.reduceEqDiff, Nat.reduceLeDiff, hM])
  rw [lwF_cons]
  simp (maxSteps := 1000000) (disch := omega) only [go_sem, Nat.reduceAdd, Nat.reduceMul, Nat.reduceSub, Nat.reduceEqDiff, Nat.reduceLeDiff]
  refine Loud.run (l20Most_run _ 1 g _ (r2.app) (by omega)) (⟨_, Try.func100, rfl, rfl⟩ : Enters Try.prog 100) rfl rfl ?_
  rintro _ H3 ⟨⟨y, rfl, y0, y1⟩, r3, f3⟩
  replace f3 : Frm (H2 ++ [some ⟨g5, 3, cP p⟩]) H3 [1] := f3
  refine ⟨hok _ _ fun j hj _ => f3.2 j (by simp; omega), ?_⟩
  have h43 : look H3 0 g4 = some ⟨g4, 3, [.f (.int .i64 0), .f .nil, .f .nil]⟩ := by rw [f3.look (by simp)]; exact look_appL h4
  have hS : ∀ b, look (H3.set 0 (some ⟨g4, 3, b⟩)) 0 g4 = some ⟨g4, 3, b⟩ := fun b => look_set_eq' (List.getElem?_eq_some_iff.1 (look_some h43).1).1
  rw [lwF_cons]
  simp (maxSteps := 1000000) (disch := omega) only [go_sem, Nat.reduceAdd, Nat.reduceMul, Nat.reduceSub, Nat.reduceEqDiff, Nat.reduceLeDiff, h43]
  refine ⟨hok _ _ fun j hj _ => by rw [List.getElem?_set_ne (by omega)], ?_⟩
  simp (maxSteps := 1000000) (disch := omega) only [go_sem, Nat.reduceAdd, Nat.reduceMul, Nat.reduceSub, Nat.reduceEqDiff, Nat.reduceLeDiff, hS]
  exact ⟨_, HLe.refl _, p, zs, _, rfl, hp, hz, by omega, by omega⟩
theorem aliveF_run : Reads Try.prog 20 [] (bool true) := by
  refine RunCall.cw (c := _) Try.func20 rfl (n := 4) Try.ntmps20 (rs := [.tmp 0]) rfl ?_
  simp only [List.length_cons, List.length_nil, Nat.reduceAdd, Nat.reduceSub, List.replicate, List.cons_append, List.nil_append]
  simp (maxSteps := 1000000) (disch := omega) only [go_sem, Nat.reduceAdd, Nat.reduceMul, Nat.reduceSub, Nat.reduceEqDiff, Nat.reduceLeDiff]
  intro g
  have hown : OwnI [some ⟨g, 1, [.f (.int .i64 1), .f (.int .i64 0), .f (.int .i64 0), .f (.int .i64 2)]⟩] (.own 0 g 0 4 none) [1, 0, 0, 2] [0] := OwnI.o 0 g none [1, 0, 0, 2] [] (by rw [look_zero]; rfl)
  refine OpS.rdD (GridFilled_run [1, 0, 0, 2] 2 (by simp)) (⟨_, Try.func70, rfl, rfl⟩ : Enters Try.prog 70) rfl rfl (snap_two hown.snap snapD_int) rfl ?_
  have e : gridFilled [1, 0, 0, 2] 2 = 2 := by decide
  rw [e]
  simp (maxSteps := 1000000) (disch := omega) only [go_sem, Nat.reduceAdd, Nat.reduceMul, Nat.reduceSub, Nat.reduceEqDiff, Nat.reduceLeDiff]
end Go.Lg

set_option linter.unusedSimpArgs false
set_option linter.unusedVariables false
set_option maxRecDepth 100000
namespace Go.Lg
open Go.Proofs
def canV (p : Puz) (xs : List Int) : Bool := if puzzleValid p = true ∧ gridValid xs p.size = true then decide ((finL p p.size.toNat xs 1).length = 1) else false
theorem canV_finish (p : Puz) (xs : List Int) : canV p xs = decide (finishV p xs 1 = 1) := by
  unfold canV finishV
  by_cases h : puzzleValid p = true ∧ gridValid xs p.size = true
  · rw [if_pos h, if_pos ⟨h.1, h.2, by omega, by omega⟩]
    rw [decide_eq_decide]
    have e : (1 : Int).toNat = 1 := rfl
    rw [e]
    omega
  · rw [if_neg h, if_neg (fun h' => h ⟨h'.1, h'.2.1⟩)]
    rfl
theorem withP_sm {p : Puz} {xs : List Int} (h : smP p) : smP (withP p xs) := ⟨by show (withL p.given xs).length ≤ _; rw [withL_len]; exact h.1, h.2⟩
theorem grd_facts {p : Puz} {xs : List Int} (h1 : puzzleValid p = true) (h2 : gridValid xs p.size = true) : PuzN p p.size.toNat ∧ GrdN xs p.size.toNat ∧ GrdN p.given p.size.toNat ∧ p.given.length = xs.length ∧ 4 ≤ xs.length ∧ xs.length ≤ 16 := by
  obtain ⟨hp, hz⟩ := PuzN.of h1
  have hg := GrdN.of hp.hn (xs := xs) (by rw [hz]; exact h2)
  have ha := GrdN.of hp.hn (xs := p.given) (by rw [hz]; exact puzzleValid_grid' h1)
  have hsq : 4 ≤ p.size.toNat * p.size.toNat ∧ p.size.toNat * p.size.toNat ≤ 16 := by
    have := hp.hn
    rcases this with h | h | h <;> rw [h] <;> omega
  have := hg.len
  have := ha.len
  exact ⟨hp, hg, ha, by omega, by omega, by omega⟩
theorem sFinishCount_run (p : Puz) (xs : List Int) (most : Int) (hx : smP p) (hl : xs.length ≤ 2 ^ 40) : Reads Try.prog 34 [aP p, ints xs, int most] (int (finishV p xs most)) := by
  refine RunCall.cw (c := _) Try.func34 rfl (n := 32) Try.ntmps34 (rs := [.tmp 6]) rfl ?_
  simp only [List.length_cons, List.length_nil, Nat.reduceAdd, Nat.reduceSub, List.replicate, List.cons_append, List.nil_append]
  simp (maxSteps := 1000000) (disch := omega) only [go_sem, Nat.reduceAdd, Nat.reduceMul, Nat.reduceSub, Nat.reduceEqDiff, Nat.reduceLeDiff]
  intro g
  first | refine OpS.rd (sPuzzleValid_run p hx) (⟨_, Try.func52, rfl, rfl⟩ : Enters Try.prog 52) rfl rfl rfl rfl ?_ | refine Loud.rd (sPuzzleValid_run p hx) (⟨_, Try.func52, rfl, rfl⟩ : Enters Try.prog 52) rfl rfl rfl rfl ?_
  simp (maxSteps := 1000000) (disch := omega) only [go_sem, Nat.reduceAdd, Nat.reduceMul, Nat.reduceSub, Nat.reduceEqDiff, Nat.reduceLeDiff]
  (first | with_reducible refine guardK_dec (fun h1 => ?_) (fun h1 => ?_) <;> simp (maxSteps := 1000000) (disch := omega) only [go_sem, Nat.reduceAdd, Nat.reduceMul, Nat.reduceSub, Nat.reduceEqDiff, Nat.reduceLeDiff, h1] | with_reducible refine guardK_ndec (fun h1 => ?_) (fun h1 => ?_) <;> simp (maxSteps := 1000000) (disch := omega) only [go_sem, Nat.reduceAdd, Nat.reduceMul, Nat.reduceSub, Nat.reduceEqDiff, Nat.reduceLeDiff, h1] | with_reducible refine guardK_nb (fun h1 => ?_) (fun h1 => ?_) <;> simp (maxSteps := 1000000) (disch := omega) only [go_sem, Nat.reduceAdd, Nat.reduceMul, Nat.reduceSub, Nat.reduceEqDiff, Nat.reduceLeDiff, h1] | with_reducible refine guardK_split (fun h1 => ?_) (fun h1 => ?_) <;> simp (maxSteps := 1000000) (disch := omega) only [go_sem, Nat.reduceAdd, Nat.reduceMul, Nat.reduceSub, Nat.reduceEqDiff, Nat.reduceLeDiff, h1] | with_reducible refine guardQ_dec (fun h1 => ?_) (fun h1 => ?_) <;> simp (maxSteps := 1000000) (disch := omega) only [go_sem, Nat.reduceAdd, Nat.reduceMul, Nat.reduceSub, Nat.reduceEqDiff, Nat.reduceLeDiff, h1] | with_reducible refine guardL_dec (fun h1 => ?_) (fun h1 => ?_) <;> simp (maxSteps := 1000000) (disch := omega) only [go_sem, Nat.reduceAdd, Nat.reduceMul, Nat.reduceSub, Nat.reduceEqDiff, Nat.reduceLeDiff, h1] | with_reducible refine guardQ_ndec (fun h1 => ?_) (fun h1 => ?_) <;> simp (maxSteps := 1000000) (disch := omega) only [go_sem, Nat.reduceAdd, Nat.reduceMul, Nat.reduceSub, Nat.reduceEqDiff, Nat.reduceLeDiff, h1] | with_reducible refine guardL_ndec (fun h1 => ?_) (fun h1 => ?_) <;> simp (maxSteps := 1000000) (disch := omega) only [go_sem, Nat.reduceAdd, Nat.reduceMul, Nat.reduceSub, Nat.reduceEqDiff, Nat.reduceLeDiff, h1] | with_reducible refine guardQ_nb (fun h1 => ?_) (fun h1 => ?_) <;> simp (maxSteps := 1000000) (disch := omega) only [go_sem, Nat.reduceAdd, Nat.reduceMul, Nat.reduceSub, Nat.reduceEqDiff, Nat.reduceLeDiff, h1] | with_reducible refine guardL_nb (fun h1 => ?_) (fun h1 => ?_) <;> simp (maxSteps := 1000000) (disch := omega) only [go_sem, Nat.reduceAdd, Nat.reduceMul, Nat.reduceSub, Nat.reduceEqDiff, Nat.reduceLeDiff, h1] | with_reducible refine guardQ_split (fun h1 => ?_) (fun h1 => ?_) <;> simp (maxSteps := 1000000) (disch := omega) only [go_sem, Nat.reduceAdd, Nat.reduceMul, Nat.reduceSub, Nat.reduceEqDiff, Nat.reduceLeDiff, h1] | with_reducible refine guardL_split (fun h1 => ?_) (fun h1 => ?_) <;> simp (maxSteps := 1000000) (disch := omega) only [go_sem, Nat.reduceAdd, Nat.reduceMul, Nat.reduceSub, Nat.reduceEqDiff, Nat.reduceLeDiff, h1])
  rotate_left
  · unfold finishV
    rw [if_neg (fun h => by rw [h.1] at h1; cases h1)]
  first | refine OpS.rd (sGridValid_run xs p.size hl) (⟨_, Try.func53, rfl, rfl⟩ : Enters Try.prog 53) rfl rfl rfl rfl ?_ | refine Loud.rd (sGridValid_run xs p.size hl) (⟨_, Try.func53, rfl, rfl⟩ : Enters Try.prog 53) rfl rfl rfl rfl ?_
  simp (maxSteps := 1000000) (disch := omega) only [go_sem, Nat.reduceAdd, Nat.reduceMul, Nat.reduceSub, Nat.reduceEqDiff, Nat.reduceLeDiff]
  (first | with_reducible refine guardK_dec (fun h2 => ?_) (fun h2 => ?_) <;> simp (maxSteps := 1000000) (disch := omega) only [go_sem, Nat.reduceAdd, Nat.reduceMul, Nat.reduceSub, Nat.reduceEqDiff, Nat.reduceLeDiff, h2] | with_reducible refine guardK_ndec (fun h2 => ?_) (fun h2 => ?_) <;> simp (maxSteps := 1000000) (disch := omega) only [go_sem, Nat.reduceAdd, Nat.reduceMul, Nat.reduceSub, Nat.reduceEqDiff, Nat.reduceLeDiff, h2] | with_reducible refine guardK_nb (fun h2 => ?_) (fun h2 => ?_) <;> simp (maxSteps := 1000000) (disch := omega) only [go_sem, Nat.reduceAdd, Nat.reduceMul, Nat.reduceSub, Nat.reduceEqDiff, Nat.reduceLeDiff, h2] | with_reducible refine guardK_split (fun h2 => ?_) (fun h2 => ?_) <;> simp (maxSteps := 1000000) (disch := omega) only [go_sem, Nat.reduceAdd, Nat.reduceMul, Nat.reduceSub, Nat.reduceEqDiff, Nat.reduceLeDiff, h2] | with_reducible refine guardQ_dec (fun h2 => ?_) (fun h2 => ?_) <;> simp (maxSteps := 1000000) (disch := omega) only [go_sem, Nat.reduceAdd, Nat.reduceMul, Nat.reduceSub, Nat.reduceEqDiff, Nat.reduceLeDiff, h2] | with_reducible refine guardL_dec (fun h2 => ?_) (fun h2 => ?_) <;> simp (maxSteps := 1000000) (disch := omega) only [go_sem, Nat.reduceAdd, Nat.reduceMul, Nat.reduceSub, Nat.reduceEqDiff, Nat.reduceLeDiff, h2] | with_reducible refine guardQ_ndec (fun h2 => ?_) (fun h2 => ?_) <;> simp (maxSteps := 1000000) (disch := omega) only [go_sem, Nat.reduceAdd, Nat.reduceMul, Nat.reduceSub, Nat.reduceEqDiff, Nat.reduceLeDiff, h2] | with_reducible refine guardL_ndec (fun h2 => ?_) (fun h2 => ?_) <;> simp (maxSteps := 1000000) (disch := omega) only [go_sem, Nat.reduceAdd, Nat.reduceMul, Nat.reduceSub, Nat.reduceEqDiff, Nat.reduceLeDiff, h2] | with_reducible refine guardQ_nb (fun h2 => ?_) (fun h2 => ?_) <;> simp (maxSteps := 1000000) (disch := omega) only [go_sem, Nat.reduceAdd, Nat.reduceMul, Nat.reduceSub, Nat.reduceEqDiff, Nat.reduceLeDiff, h2] | with_reducible refine guardL_nb (fun h2 => ?_) (fun h2 => ?_) <;> simp (maxSteps := 1000000) (disch := omega) only [go_sem, Nat.reduceAdd, Nat.reduceMul, Nat.reduceSub, Nat.reduceEqDiff, Nat.reduceLeDiff, h2] | with_reducible refine guardQ_split (fun h2 => ?_) (fun h2 => ?_) <;> simp (maxSteps := 1000000) (disch := omega) only [go_sem, Nat.reduceAdd, Nat.reduceMul, Nat.reduceSub, Nat.reduceEqDiff, Nat.reduceLeDiff, h2] | with_reducible refine guardL_split (fun h2 => ?_) (fun h2 => ?_) <;> simp (maxSteps := 1000000) (disch := omega) only [go_sem, Nat.reduceAdd, Nat.reduceMul, Nat.reduceSub, Nat.reduceEqDiff, Nat.reduceLeDiff, h2])
  rotate_left
  · unfold finishV
    rw [if_neg (fun h => by rw [h.2.1] at h2; cases h2)]
  first | refine OpS.rd (l1In_run _ _ _) (⟨_, Try.func66, rfl, rfl⟩ : Enters Try.prog 66) rfl rfl rfl rfl ?_ | refine Loud.rd (l1In_run _ _ _) (⟨_, Try.func66, rfl, rfl⟩ : Enters Try.prog 66) rfl rfl rfl rfl ?_
  simp (maxSteps := 1000000) (disch := omega) only [go_sem, Nat.reduceAdd, Nat.reduceMul, Nat.reduceSub, Nat.reduceEqDiff, Nat.reduceLeDiff]
  (first | with_reducible refine condK_dec (fun h3 => ?_) (fun h3 => ?_) | with_reducible refine condK_ndec (fun h3 => ?_) (fun h3 => ?_) | with_reducible refine condK_nb (fun h3 => ?_) (fun h3 => ?_) | refine condK_b (fun h3 => ?_) (fun h3 => ?_))
  rotate_left
  · simp (maxSteps := 1000000) (disch := omega) only [go_sem, Nat.reduceAdd, Nat.reduceMul, Nat.reduceSub, Nat.reduceEqDiff, Nat.reduceLeDiff]
    unfold finishV
    rw [if_neg (by omega)]
  obtain ⟨hp, hg, ha, hlen, hl4, hl16⟩ := grd_facts h1 h2
  obtain ⟨k, rfl⟩ : ∃ k : Nat, most = k := ⟨most.toNat, by omega⟩
  have hV : finishV p xs k = (finL p p.size.toNat xs k).length := by unfold finishV; rw [if_pos ⟨h1, h2, h3⟩, Int.toNat_natCast]
  rw [hV, finL_spec hp h1 hg]
  simp (maxSteps := 1000000) (disch := omega) only [go_sem, Nat.reduceAdd, Nat.reduceMul, Nat.reduceSub, Nat.reduceEqDiff, Nat.reduceLeDiff]
  first | refine OpS.rd (sPuzzleFits_run p xs hx hl) (⟨_, Try.func85, rfl, rfl⟩ : Enters Try.prog 85) rfl rfl rfl rfl ?_ | refine Loud.rd (sPuzzleFits_run p xs hx hl) (⟨_, Try.func85, rfl, rfl⟩ : Enters Try.prog 85) rfl rfl rfl rfl ?_
  simp (maxSteps := 1000000) (disch := omega) only [go_sem, Nat.reduceAdd, Nat.reduceMul, Nat.reduceSub, Nat.reduceEqDiff, Nat.reduceLeDiff]
  rw [h1, h2, Bool.true_and, Bool.true_and]
  (first | with_reducible refine condK_dec (fun h4 => ?_) (fun h4 => ?_) | with_reducible refine condK_ndec (fun h4 => ?_) (fun h4 => ?_) | with_reducible refine condK_nb (fun h4 => ?_) (fun h4 => ?_) | refine condK_b (fun h4 => ?_) (fun h4 => ?_))
  rotate_left
  · simp (maxSteps := 1000000) (disch := omega) only [go_sem, Nat.reduceAdd, Nat.reduceMul, Nat.reduceSub, Nat.reduceEqDiff, Nat.reduceLeDiff]
    rw [if_neg (by rw [h4]; simp)]
    rfl
  rw [if_pos h4]
  simp (maxSteps := 1000000) (disch := omega) only [go_sem, Nat.reduceAdd, Nat.reduceMul, Nat.reduceSub, Nat.reduceEqDiff, Nat.reduceLeDiff]
  first | refine OpS.mk (l23With_run p xs (by omega) (by omega) (by omega)) (⟨_, Try.func86, rfl, rfl⟩ : Enters Try.prog 86) rfl rfl rfl rfl rfl ?_ | refine Loud.mk (l23With_run p xs (by omega) (by omega) (by omega)) (⟨_, Try.func86, rfl, rfl⟩ : Enters Try.prog 86) rfl rfl rfl rfl rfl ?_
  simp (maxSteps := 1000000) (disch := omega) only [go_sem, Nat.reduceAdd, Nat.reduceMul, Nat.reduceSub, Nat.reduceEqDiff, Nat.reduceLeDiff]
  have hle := allS_len (withP p xs) k
  first | refine OpS.mk (l5All_run (withP p xs) k (by omega) (withP_sm hx)) (⟨_, Try.func81, rfl, rfl⟩ : Enters Try.prog 81) rfl rfl rfl rfl rfl ?_ | refine Loud.mk (l5All_run (withP p xs) k (by omega) (withP_sm hx)) (⟨_, Try.func81, rfl, rfl⟩ : Enters Try.prog 81) rfl rfl rfl rfl rfl ?_
  simp (maxSteps := 1000000) (disch := omega) only [go_sem, Nat.reduceAdd, Nat.reduceMul, Nat.reduceSub, Nat.reduceEqDiff, Nat.reduceLeDiff]
theorem sCanFinish_run (p : Puz) (xs : List Int) (hx : smP p) (hl : xs.length ≤ 2 ^ 40) : Reads Try.prog 38 [aP p, ints xs] (bool (canV p xs)) := by
  refine RunCall.cw (c := _) Try.func38 rfl (n := 15) Try.ntmps38 (rs := [.tmp 4]) rfl ?_
  simp only [List.length_cons, List.length_nil, Nat.reduceAdd, Nat.reduceSub, List.replicate, List.cons_append, List.nil_append]
  simp (maxSteps := 1000000) (disch := omega) only [go_sem, Nat.reduceAdd, Nat.reduceMul, Nat.reduceSub, Nat.reduceEqDiff, Nat.reduceLeDiff]
  intro g
  first | refine OpS.rd (sPuzzleFits_run p xs hx hl) (⟨_, Try.func85, rfl, rfl⟩ : Enters Try.prog 85) rfl rfl rfl rfl ?_ | refine Loud.rd (sPuzzleFits_run p xs hx hl) (⟨_, Try.func85, rfl, rfl⟩ : Enters Try.prog 85) rfl rfl rfl rfl ?_
  simp (maxSteps := 1000000) (disch := omega) only [go_sem, Nat.reduceAdd, Nat.reduceMul, Nat.reduceSub, Nat.reduceEqDiff, Nat.reduceLeDiff]
  cases hc : (puzzleValid p && (gridValid xs p.size && fitsL p xs p.size.toNat)) with
  | false =>
    simp (maxSteps := 1000000) (disch := omega) only [go_sem, Nat.reduceAdd, Nat.reduceMul, Nat.reduceSub, Nat.reduceEqDiff, Nat.reduceLeDiff]
    unfold canV
    by_cases h : puzzleValid p = true ∧ gridValid xs p.size = true
    · rw [if_pos h]
      obtain ⟨hp, hg, _⟩ := grd_facts h.1 h.2
      rw [h.1, h.2, Bool.true_and, Bool.true_and] at hc
      rw [finL_spec hp h.1 hg, if_neg (by rw [hc]; simp)]
      rfl
    · rw [if_neg h]
  | true =>
    simp only [Bool.and_eq_true] at hc
    obtain ⟨h1, h2, h4⟩ := hc
    obtain ⟨hp, hg, ha, hlen, hl4, hl16⟩ := grd_facts h1 h2
    have hV : canV p xs = decide ((finL p p.size.toNat xs 1).length = 1) := by unfold canV; rw [if_pos ⟨h1, h2⟩]
    rw [hV, finL_spec hp h1 hg, if_pos h4]
    simp (maxSteps := 1000000) (disch := omega) only [go_sem, Nat.reduceAdd, Nat.reduceMul, Nat.reduceSub, Nat.reduceEqDiff, Nat.reduceLeDiff]
    first | refine OpS.mk (l23With_run p xs (by omega) (by omega) (by omega)) (⟨_, Try.func86, rfl, rfl⟩ : Enters Try.prog 86) rfl rfl rfl rfl rfl ?_ | refine Loud.mk (l23With_run p xs (by omega) (by omega) (by omega)) (⟨_, Try.func86, rfl, rfl⟩ : Enters Try.prog 86) rfl rfl rfl rfl rfl ?_
    simp (maxSteps := 1000000) (disch := omega) only [go_sem, Nat.reduceAdd, Nat.reduceMul, Nat.reduceSub, Nat.reduceEqDiff, Nat.reduceLeDiff]
    have hle := allS_len (withP p xs) 1
    first | refine OpS.mk (l5All_run (withP p xs) 1 (by omega) (withP_sm hx)) (⟨_, Try.func81, rfl, rfl⟩ : Enters Try.prog 81) rfl rfl rfl rfl rfl ?_ | refine Loud.mk (l5All_run (withP p xs) 1 (by omega) (withP_sm hx)) (⟨_, Try.func81, rfl, rfl⟩ : Enters Try.prog 81) rfl rfl rfl rfl rfl ?_
    simp (maxSteps := 1000000) (disch := omega) only [go_sem, Nat.reduceAdd, Nat.reduceMul, Nat.reduceSub, Nat.reduceEqDiff, Nat.reduceLeDiff]
    rw [decide_eq_decide]
    omega
end Go.Lg

set_option linter.unusedSimpArgs false
set_option linter.unusedVariables false
set_option maxRecDepth 100000
namespace Go.Lg
open Go.Proofs
theorem sub_len' {α : Type} (l : List α) (a b : Int) : (sub l a b).length ≤ l.length := by simp [sub]; omega
theorem valuesHold_run (r : Rul) (vs : List Int) (hl : vs.length ≤ 4) (hv : ∀ v ∈ vs, 0 ≤ v ∧ v ≤ 4) (hk : r.kind = 1 ∨ r.kind = 2 ∨ r.kind = 3 ∨ (r.kind = 4 ∨ r.kind = 5) ∧ 2 ≤ vs.length) : Reads Try.prog 105 [aR r, ints vs] (bool (holdsV r vs)) := by
  have hnv : ∀ k : Nat, k < vs.length → 0 ≤ nth vs k ∧ nth vs k ≤ 4 := fun k hk => hv _ (by rw [nth_eq (by omega)]; exact List.getElem_mem _)
  have hpt := prodV_take hl hv
  have hst := sum_take hl hv
  refine RunCall.cw (c := _) Try.func105 rfl (n := 76) Try.ntmps105 (rs := [.tmp 4]) rfl ?_
  simp only [List.length_cons, List.length_nil, Nat.reduceAdd, Nat.reduceSub, List.replicate, List.cons_append, List.nil_append]
  simp (maxSteps := 1000000) (disch := omega) only [go_sem, Nat.reduceAdd, Nat.reduceMul, Nat.reduceSub, Nat.reduceEqDiff, Nat.reduceLeDiff]
  intro g
  refine loop_rule (fun k : Nat => vs.length - k) (fun k => k ≤ vs.length ∧ (r.kind = 1 → (vs.take k).Nodup)) (fun k => [.a, .k, .k, .a, .a, .p (int (vs.take k).sum), .p (int (prodV (vs.take k))), .a, .a, .k, .k, .p (int k), .a, .a, .a, .a, .a, .a, .a, .a, .a, .a, .a, .a, .a, .a, .a, .a, .a, .a, .a, .a, .a, .a, .a, .a, .a, .a, .a, .a, .a, .a, .a, .a, .a, .a, .a, .a, .a, .a, .a, .a, .a, .a, .a, .a, .a, .a, .a, .a, .a, .a, .a, .a, .a, .a, .a, .a, .a, .a, .a, .a, .a, .a, .a, .a]) (fun _ => [some ⟨g, 1, cR r⟩]) 0 ⟨Nat.zero_le _, fun _ => by simp⟩ (by simp (maxSteps := 1000000) (disch := omega) only [go_sem, Nat.reduceAdd, Nat.reduceMul, Nat.reduceSub, Nat.reduceEqDiff, Nat.reduceLeDiff]; simp [prodV]) (HLe.refl _) ?_
  rintro k ⟨hk', hnd⟩
  simp (maxSteps := 1000000) (disch := omega) only [go_sem, Nat.reduceAdd, Nat.reduceMul, Nat.reduceSub, Nat.reduceEqDiff, Nat.reduceLeDiff]
  (first | with_reducible refine condK_dec (fun h1 => ?_) (fun h1 => ?_) | with_reducible refine condK_ndec (fun h1 => ?_) (fun h1 => ?_) | with_reducible refine condK_nb (fun h1 => ?_) (fun h1 => ?_) | refine condK_b (fun h1 => ?_) (fun h1 => ?_))
  · have h1 : k < vs.length := by omega
    have e1 : (vs.take (k + 1)).sum = (vs.take k).sum + nth vs k := by rw [take_succ_nth h1]; simp
    have e2 : prodV (vs.take (k + 1)) = prodV (vs.take k) * nth vs k := by rw [take_succ_nth h1, prodV_app]
    have b1 := hst (k + 1)
    have b2 := hpt (k + 1)
    rw [e1] at b1
    rw [e2] at b2
    have hin : nth vs k ∈ vs.take k ↔ ∃ i : Nat, i < k ∧ nth vs i = nth vs k := by
      constructor
      · intro h
        obtain ⟨i, hi, he⟩ := List.mem_take_iff_getElem.1 h
        exact ⟨i, by omega, by rw [nth_eq (by omega)]; exact he⟩
      · rintro ⟨i, hi, he⟩
        rw [← he, nth_eq (by omega)]
        exact List.mem_take_iff_getElem.2 ⟨i, by omega, rfl⟩
    simp (maxSteps := 1000000) (disch := omega) only [go_sem, Nat.reduceAdd, Nat.reduceMul, Nat.reduceSub, Nat.reduceEqDiff, Nat.reduceLeDiff]
    (first | with_reducible refine guardK_dec (fun d1 => ?_) (fun d1 => ?_) <;> simp (maxSteps := 1000000) (disch := omega) only [go_sem, Nat.reduceAdd, Nat.reduceMul, Nat.reduceSub, Nat.reduceEqDiff, Nat.reduceLeDiff, d1] | with_reducible refine guardK_ndec (fun d1 => ?_) (fun d1 => ?_) <;> simp (maxSteps := 1000000) (disch := omega) only [go_sem, Nat.reduceAdd, Nat.reduceMul, Nat.reduceSub, Nat.reduceEqDiff, Nat.reduceLeDiff, d1] | with_reducible refine guardK_nb (fun d1 => ?_) (fun d1 => ?_) <;> simp (maxSteps := 1000000) (disch := omega) only [go_sem, Nat.reduceAdd, Nat.reduceMul, Nat.reduceSub, Nat.reduceEqDiff, Nat.reduceLeDiff, d1] | with_reducible refine guardK_split (fun d1 => ?_) (fun d1 => ?_) <;> simp (maxSteps := 1000000) (disch := omega) only [go_sem, Nat.reduceAdd, Nat.reduceMul, Nat.reduceSub, Nat.reduceEqDiff, Nat.reduceLeDiff, d1] | with_reducible refine guardQ_dec (fun d1 => ?_) (fun d1 => ?_) <;> simp (maxSteps := 1000000) (disch := omega) only [go_sem, Nat.reduceAdd, Nat.reduceMul, Nat.reduceSub, Nat.reduceEqDiff, Nat.reduceLeDiff, d1] | with_reducible refine guardL_dec (fun d1 => ?_) (fun d1 => ?_) <;> simp (maxSteps := 1000000) (disch := omega) only [go_sem, Nat.reduceAdd, Nat.reduceMul, Nat.reduceSub, Nat.reduceEqDiff, Nat.reduceLeDiff, d1] | with_reducible refine guardQ_ndec (fun d1 => ?_) (fun d1 => ?_) <;> simp (maxSteps := 1000000) (disch := omega) only [go_sem, Nat.reduceAdd, Nat.reduceMul, Nat.reduceSub, Nat.reduceEqDiff, Nat.reduceLeDiff, d1] | with_reducible refine guardL_ndec (fun d1 => ?_) (fun d1 => ?_) <;> simp (maxSteps := 1000000) (disch := omega) only [go_sem, Nat.reduceAdd, Nat.reduceMul, Nat.reduceSub, Nat.reduceEqDiff, Nat.reduceLeDiff, d1] | with_reducible refine guardQ_nb (fun d1 => ?_) (fun d1 => ?_) <;> simp (maxSteps := 1000000) (disch := omega) only [go_sem, Nat.reduceAdd, Nat.reduceMul, Nat.reduceSub, Nat.reduceEqDiff, Nat.reduceLeDiff, d1] | with_reducible refine guardL_nb (fun d1 => ?_) (fun d1 => ?_) <;> simp (maxSteps := 1000000) (disch := omega) only [go_sem, Nat.reduceAdd, Nat.reduceMul, Nat.reduceSub, Nat.reduceEqDiff, Nat.reduceLeDiff, d1] | with_reducible refine guardQ_split (fun d1 => ?_) (fun d1 => ?_) <;> simp (maxSteps := 1000000) (disch := omega) only [go_sem, Nat.reduceAdd, Nat.reduceMul, Nat.reduceSub, Nat.reduceEqDiff, Nat.reduceLeDiff, d1] | with_reducible refine guardL_split (fun d1 => ?_) (fun d1 => ?_) <;> simp (maxSteps := 1000000) (disch := omega) only [go_sem, Nat.reduceAdd, Nat.reduceMul, Nat.reduceSub, Nat.reduceEqDiff, Nat.reduceLeDiff, d1])
    · have hsub : sub vs 0 (k : Int) = vs.take k := by simp [sub]
      have hco := Contains_run (sub vs 0 (k : Int)) (nth vs k) (by have := sub_len' vs 0 (k : Int); omega)
      rw [hsub] at hco
      first | refine OpS.rd (hco) (⟨_, Try.func104, rfl, rfl⟩ : Enters Try.prog 104) rfl rfl rfl rfl ?_ | refine Loud.rd (hco) (⟨_, Try.func104, rfl, rfl⟩ : Enters Try.prog 104) rfl rfl rfl rfl ?_
      simp (maxSteps := 1000000) (disch := omega) only [go_sem, Nat.reduceAdd, Nat.reduceMul, Nat.reduceSub, Nat.reduceEqDiff, Nat.reduceLeDiff]
      (first | with_reducible refine condK_dec (fun d2 => ?_) (fun d2 => ?_) | with_reducible refine condK_ndec (fun d2 => ?_) (fun d2 => ?_) | with_reducible refine condK_nb (fun d2 => ?_) (fun d2 => ?_) | refine condK_b (fun d2 => ?_) (fun d2 => ?_))
      · simp (maxSteps := 1000000) (disch := omega) only [go_sem, Nat.reduceAdd, Nat.reduceMul, Nat.reduceSub, Nat.reduceEqDiff, Nat.reduceLeDiff]
        have : ¬ vs.Nodup := fun hn => by
          have := (nodup_take h1).1 (hn.sublist (List.take_sublist _ _))
          obtain ⟨i, hi, he⟩ := hin.1 d2
          exact this.2 i hi he
        unfold holdsV
        rw [if_pos d1, decide_eq_false this]
      · simp (maxSteps := 1000000) (disch := omega) only [go_sem, Nat.reduceAdd, Nat.reduceMul, Nat.reduceSub, Nat.reduceEqDiff, Nat.reduceLeDiff]
        refine ⟨k + 1, ⟨⟨by omega, fun h => ?_⟩, by omega⟩, ⟨e1.symm, e2.symm, by push_cast; omega⟩, HLe.refl _⟩
        rw [nodup_take h1]
        exact ⟨hnd d1, fun i hi he => d2 (hin.2 ⟨i, hi, he⟩)⟩
    · refine ⟨k + 1, ⟨⟨by omega, fun h => by first | exact absurd h d1 | exact h.elim⟩, by omega⟩, ⟨e1.symm, e2.symm, by push_cast; omega⟩, HLe.refl _⟩
  · have hkl : vs.take k = vs := List.take_of_length_le (by omega)
    simp (maxSteps := 1000000) (disch := omega) only [go_sem, Nat.reduceAdd, Nat.reduceMul, Nat.reduceSub, Nat.reduceEqDiff, Nat.reduceLeDiff]
    rw [hkl] at hnd
    rw [hkl]
    (first | with_reducible refine condK_dec (fun d2 => ?_) (fun d2 => ?_) | with_reducible refine condK_ndec (fun d2 => ?_) (fun d2 => ?_) | with_reducible refine condK_nb (fun d2 => ?_) (fun d2 => ?_) | refine condK_b (fun d2 => ?_) (fun d2 => ?_))
    · simp (maxSteps := 1000000) (disch := omega) only [go_sem, Nat.reduceAdd, Nat.reduceMul, Nat.reduceSub, Nat.reduceEqDiff, Nat.reduceLeDiff]
      unfold holdsV
      rw [if_neg (by omega), if_pos d2]
    simp (maxSteps := 1000000) (disch := omega) only [go_sem, Nat.reduceAdd, Nat.reduceMul, Nat.reduceSub, Nat.reduceEqDiff, Nat.reduceLeDiff]
    (first | with_reducible refine condK_dec (fun d3 => ?_) (fun d3 => ?_) | with_reducible refine condK_ndec (fun d3 => ?_) (fun d3 => ?_) | with_reducible refine condK_nb (fun d3 => ?_) (fun d3 => ?_) | refine condK_b (fun d3 => ?_) (fun d3 => ?_))
    · simp (maxSteps := 1000000) (disch := omega) only [go_sem, Nat.reduceAdd, Nat.reduceMul, Nat.reduceSub, Nat.reduceEqDiff, Nat.reduceLeDiff]
      unfold holdsV
      rw [if_neg (by omega), if_neg d2, if_pos d3]
    simp (maxSteps := 1000000) (disch := omega) only [go_sem, Nat.reduceAdd, Nat.reduceMul, Nat.reduceSub, Nat.reduceEqDiff, Nat.reduceLeDiff]
    (first | with_reducible refine condK_dec (fun d4 => ?_) (fun d4 => ?_) | with_reducible refine condK_ndec (fun d4 => ?_) (fun d4 => ?_) | with_reducible refine condK_nb (fun d4 => ?_) (fun d4 => ?_) | refine condK_b (fun d4 => ?_) (fun d4 => ?_))
    · have hl2 : 2 ≤ vs.length := by omega
      have v0 : 0 ≤ nth vs (0 : Int) ∧ nth vs (0 : Int) ≤ 4 := hnv 0 (by omega)
      have v1 : 0 ≤ nth vs (1 : Int) ∧ nth vs (1 : Int) ≤ 4 := hnv 1 (by omega)
      simp (maxSteps := 1000000) (disch := omega) only [go_sem, Nat.reduceAdd, Nat.reduceMul, Nat.reduceSub, Nat.reduceEqDiff, Nat.reduceLeDiff]
      refine drawP_q foll (by kernel_rfl) ?_
      simp (maxSteps := 1000000) (disch := omega) only [go_sem, Nat.reduceBEq, Bool.true_or, Nat.reduceAdd, Nat.reduceMul, Nat.reduceSub, Nat.reduceEqDiff, Nat.reduceLeDiff]
      unfold holdsV
      rw [if_neg (by omega), if_neg d2, if_neg d3, if_pos d4]
    simp (maxSteps := 1000000) (disch := omega) only [go_sem, Nat.reduceAdd, Nat.reduceMul, Nat.reduceSub, Nat.reduceEqDiff, Nat.reduceLeDiff]
    (first | with_reducible refine condK_dec (fun d5 => ?_) (fun d5 => ?_) | with_reducible refine condK_ndec (fun d5 => ?_) (fun d5 => ?_) | with_reducible refine condK_nb (fun d5 => ?_) (fun d5 => ?_) | refine condK_b (fun d5 => ?_) (fun d5 => ?_))
    · have hl2 : 2 ≤ vs.length := by omega
      have v0 : 0 ≤ nth vs (0 : Int) ∧ nth vs (0 : Int) ≤ 4 := hnv 0 (by omega)
      have v1 : 0 ≤ nth vs (1 : Int) ∧ nth vs (1 : Int) ≤ 4 := hnv 1 (by omega)
      simp (maxSteps := 1000000) (disch := omega) only [go_sem, Nat.reduceAdd, Nat.reduceMul, Nat.reduceSub, Nat.reduceEqDiff, Nat.reduceLeDiff]
      refine drawP_q foll (by kernel_rfl) ?_
      simp (maxSteps := 1000000) (disch := omega) only [go_sem, Nat.reduceBEq, Bool.true_or, Nat.reduceAdd, Nat.reduceMul, Nat.reduceSub, Nat.reduceEqDiff, Nat.reduceLeDiff]
      unfold holdsV
      rw [if_neg (by omega), if_neg d2, if_neg d3, if_neg d4]
    · have d1 : r.kind = 1 := by omega
      simp (maxSteps := 1000000) (disch := omega) only [go_sem, Nat.reduceAdd, Nat.reduceMul, Nat.reduceSub, Nat.reduceEqDiff, Nat.reduceLeDiff]
      unfold holdsV
      rw [if_pos d1, decide_eq_true (hnd d1)]
end Go.Lg
