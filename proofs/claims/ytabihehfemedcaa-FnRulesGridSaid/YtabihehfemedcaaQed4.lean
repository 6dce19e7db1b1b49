/- GpKG, cut to what is needed. -/
import Derived.Test.YtabihehfemedcaaQec3
import Derived.Test.YtabihehfemedcaaQed2
import Derived.Test.YtabihehfemedcaaQed3
set_option linter.unusedSimpArgs false
set_option linter.unusedVariables false
set_option maxRecDepth 100000
namespace Go.Lg
open Go.Proofs
theorem resV_tttt (P : Program) (s : List AV) (H : Heap) (t u w x : Nat) : resV P s H [.tmp t, .tmp u, .tmp w, .tmp x] = some (.tup [s.getD t .void, s.getD u .void, s.getD w .void, s.getD x .void]) := rfl
attribute [go_sem] resV_tttt
theorem DrawCageRules_run (code : List Int) (hb : ∀ x ∈ code, 0 ≤ x ∧ x ≤ 255) (hl : code.length ≤ 2 ^ 40) : RunCall Try.prog 26 [rsl (eI .u8) code] [] (fun v _ => ∃ (xs : List Int) (z : Int) (rs : List Int) (b : Bool), v = .tup [ints xs, int z, ints rs, bool b] ∧ xs.length ≤ 16 ∧ rs.length ≤ 16 ∧ -1 ≤ z ∧ z ≤ 5) := by
  refine RunCall.freeze (Q' := fun v H' => ∃ (c : CV) (xs : List Int) (z : Int) (rs : List Int) (b : Bool), v = .tup [.c c, int z, ints rs, bool b] ∧ frzC H' c = some (.f (fints xs)) ∧ xs.length ≤ 16 ∧ rs.length ≤ 16 ∧ -1 ≤ z ∧ z ≤ 5) ?_ ?_
  rotate_left
  · rintro v H' ⟨c, xs, z, rs, b, rfl, h1, h2⟩
    have e : ∀ x, frzC H' (.f (.int .i64 x)) = some (.f (.int .i64 x)) := fun x => rfl
    have e2 : ∀ x, frzC H' (.f (.bool x)) = some (.f (.bool x)) := fun x => rfl
    have e3 : frzC H' (.f (fints rs)) = some (.f (fints rs)) := rfl
    exact ⟨.tup [ints xs, int z, ints rs, bool b], by simp only [frzA, List.mapM_cons, List.mapM_nil, frz1, h1, e, e2, e3, Option.pure_def, Option.bind_eq_bind, Option.bind_some, Option.map_some], xs, z, rs, b, rfl, h2⟩
  refine RunCall.cw (c := _) Try.func26 rfl (n := 34) Try.ntmps26 (rs := [.tmp 2, .tmp 3, .tmp 4, .tmp 5]) rfl ?_
  simp only [List.length_cons, List.length_nil, Nat.reduceAdd, Nat.reduceSub, List.replicate, List.cons_append, List.nil_append]
  simp (maxSteps := 1000000) (disch := omega) only [go_sem, Nat.reduceAdd, Nat.reduceMul, Nat.reduceSub, Nat.reduceEqDiff, Nat.reduceLeDiff]
  refine OpS.run (l20Open_run code hb hl) (⟨_, Try.func58, rfl, rfl⟩ : Enters Try.prog 58) rfl rfl ?_
  rintro _ H1 ⟨g, rfl, r1, hl1⟩
  simp (maxSteps := 1000000) (disch := omega) only [go_sem, Nat.reduceAdd, Nat.reduceMul, Nat.reduceSub, Nat.reduceEqDiff, Nat.reduceLeDiff]
  refine OpS.run (l20Regions_run H1 0 g 0 9 r1 (by omega) (by omega)) (⟨_, Try.func74, rfl, rfl⟩ : Enters Try.prog 74) rfl rfl ?_
  rintro _ H2 ⟨⟨rs, z, rfl, hrs, hz1, hz2⟩, r2, f2⟩
  simp (maxSteps := 1000000) (disch := omega) only [go_sem, Nat.reduceAdd, Nat.reduceMul, Nat.reduceSub, Nat.reduceEqDiff, Nat.reduceLeDiff]
  obtain ⟨m, hm⟩ : ∃ m : Nat, max 2 (min 4 z) = m := ⟨(max 2 (min 4 z)).toNat, by omega⟩
  have hm3 : m = 2 ∨ m = 3 ∨ m = 4 := by omega
  have hsq : 4 ≤ m * m ∧ m * m ≤ 16 := by rcases hm3 with rfl | rfl | rfl <;> omega
  rw [hm]
  refine OpS.run (l20Solved_run hm3 H2 0 g _ r2 (by omega)) (⟨_, Try.func60, rfl, rfl⟩ : Enters Try.prog 60) rfl rfl ?_
  rintro _ H3 ⟨cid, cg, rfl, q3⟩
  simp (maxSteps := 1000000) (disch := omega) only [go_sem, Nat.reduceAdd, Nat.reduceMul, Nat.reduceSub, Nat.reduceEqDiff, Nat.reduceLeDiff]
  refine OpS.run (odd_run H3 0 g _ 12 q3.2.1 (by omega) (by omega)) (⟨_, Try.func61, rfl, rfl⟩ : Enters Try.prog 61) rfl rfl ?_
  rintro _ H4 ⟨⟨b, rfl, hb⟩, r4, f4⟩
  have q4 := q3.pick r4 f4
  have fin : ∀ (HE : Heap) (B' : Int) (b : Bool), GrdAt H2 HE 0 g B' cid cg (m * m) → lessQ HE (fun v H' => ∃ (c : CV) (xs : List Int) (z : Int) (rs : List Int) (b : Bool), v = .tup [.c c, int z, ints rs, bool b] ∧ frzC H' c = some (.f (fints xs)) ∧ xs.length ≤ 16 ∧ rs.length ≤ 16 ∧ -1 ≤ z ∧ z ≤ 5) (.tup [.c (.own cid cg 0 (m * m) none), int z, ints rs, bool b]) := fun HE B' b q => by
    obtain ⟨⟨zs, a1, a2⟩, _⟩ := q
    exact ⟨HE, HLe.refl _, _, _, z, rs, b, rfl, frz_view a1 (by omega), by simp; omega, hrs, hz1, hz2⟩
  simp (maxSteps := 1000000) (disch := omega) only [go_sem, Nat.reduceAdd, Nat.reduceMul, Nat.reduceSub, Nat.reduceEqDiff, Nat.reduceLeDiff]
  (first | with_reducible refine condK_dec (fun h1 => ?_) (fun h1 => ?_) | with_reducible refine condK_ndec (fun h1 => ?_) (fun h1 => ?_) | with_reducible refine condK_nb (fun h1 => ?_) (fun h1 => ?_) | refine condK_b (fun h1 => ?_) (fun h1 => ?_))
  · obtain ⟨zs, hz1', hz2'⟩ := q4.1
    have hset : setRange (cl (eI .i64) zs) 0 [CV.f (.int .i64 0)] = cl (eI .i64) (zs.set 0 0) := setRange_cl (E := eI .i64) (n := 1) (i := 0) (v := 0) (by omega)
    simp (maxSteps := 1000000) (disch := omega) only [go_sem, Nat.reduceAdd, Nat.reduceMul, Nat.reduceSub, Nat.reduceEqDiff, Nat.reduceLeDiff, hz1', Int.reduceToNat, hset]
    have q5 := q4.store (zs := zs.set 0 0) (by simpa using hz2')
    refine OpS.run (pick_run _ 0 g _ 2 q5.2.1 (by omega)) (⟨_, Try.func63, rfl, rfl⟩ : Enters Try.prog 63) rfl rfl ?_
    rintro _ H6 ⟨⟨y, rfl, y0, y1⟩, r6, f6⟩
    simp (maxSteps := 1000000) (disch := omega) only [go_sem, Nat.reduceAdd, Nat.reduceMul, Nat.reduceSub, Nat.reduceEqDiff, Nat.reduceLeDiff]
    exact fin _ _ _ (q5.pick r6 f6)
  · simp (maxSteps := 1000000) (disch := omega) only [go_sem, Nat.reduceAdd, Nat.reduceMul, Nat.reduceSub, Nat.reduceEqDiff, Nat.reduceLeDiff]
    refine OpS.run (pick_run _ 0 g _ 2 q4.2.1 (by omega)) (⟨_, Try.func63, rfl, rfl⟩ : Enters Try.prog 63) rfl rfl ?_
    rintro _ H6 ⟨⟨y, rfl, y0, y1⟩, r6, f6⟩
    simp (maxSteps := 1000000) (disch := omega) only [go_sem, Nat.reduceAdd, Nat.reduceMul, Nat.reduceSub, Nat.reduceEqDiff, Nat.reduceLeDiff]
    exact fin _ _ _ (q4.pick r6 f6)
theorem law_FnLessRules (code : List Int) (hl : code.length ≤ 9223372036854775807) (hw : ∀ x ∈ code, (Lit.int .u8 x).wf = true) : Reads Try.prog 4 [rsl (eI .u8) code] (bool true) := by
  refine RunCall.cw (c := _) Try.func4 rfl (n := 91) Try.ntmps4 (rs := [.tmp 2]) rfl ?_
  simp only [List.length_cons, List.length_nil, Nat.reduceAdd, Nat.reduceSub, List.replicate, List.cons_append, List.nil_append]
  simp (maxSteps := 1000000) (disch := omega) only [go_sem, Nat.reduceAdd, Nat.reduceMul, Nat.reduceSub, Nat.reduceEqDiff, Nat.reduceLeDiff]
  (first | with_reducible refine condK_dec (fun h1 => ?_) (fun h1 => ?_) | with_reducible refine condK_ndec (fun h1 => ?_) (fun h1 => ?_) | with_reducible refine condK_nb (fun h1 => ?_) (fun h1 => ?_) | refine condK_b (fun h1 => ?_) (fun h1 => ?_))
  · simp (maxSteps := 1000000) (disch := omega) only [go_sem, Nat.reduceAdd, Nat.reduceMul, Nat.reduceSub, Nat.reduceEqDiff, Nat.reduceLeDiff]
  simp (maxSteps := 1000000) (disch := omega) only [go_sem, Nat.reduceAdd, Nat.reduceMul, Nat.reduceSub, Nat.reduceEqDiff, Nat.reduceLeDiff]
  refine OpS.mkF (DrawLessRules_run code (wf_u8' hw) (by omega)) (⟨_, Try.func22, rfl, rfl⟩ : Enters Try.prog 22) rfl rfl rfl ?_
  rintro _ ⟨xs, z, m, rfl, hx, hm1, hm2⟩
  refine ⟨rfl, rfl, ?_⟩
  have hs := lessV_sm xs z m
  have hh : (lessV xs z m).all (fun r => ruleHolds r xs z) = true := List.all_eq_true.2 lessV_holds
  have hlen := lessV_len (xs := xs) (z := z) (m := m)
  have hno : ¬ (solvedS xs z = true ∧ 0 ≤ m ∧ m ≤ 20) → lessV xs z m = [] := fun h => by unfold lessV; rw [if_neg h]
  simp (maxSteps := 1000000) (disch := omega) only [go_sem, Nat.reduceAdd, Nat.reduceMul, Nat.reduceSub, Nat.reduceEqDiff, Nat.reduceLeDiff]
  first | refine OpS.mk (LessRules_run xs z m (by omega)) (⟨_, Try.func23, rfl, rfl⟩ : Enters Try.prog 23) rfl rfl rfl rfl rfl ?_ | refine Loud.mk (LessRules_run xs z m (by omega)) (⟨_, Try.func23, rfl, rfl⟩ : Enters Try.prog 23) rfl rfl rfl rfl rfl ?_
  simp (maxSteps := 1000000) (disch := omega) only [go_sem, Nat.reduceAdd, Nat.reduceMul, Nat.reduceSub, Nat.reduceEqDiff, Nat.reduceLeDiff]
  first | refine OpS.mk (sLessRules_run xs z m (by omega)) (⟨_, Try.func24, rfl, rfl⟩ : Enters Try.prog 24) rfl rfl rfl rfl rfl ?_ | refine Loud.mk (sLessRules_run xs z m (by omega)) (⟨_, Try.func24, rfl, rfl⟩ : Enters Try.prog 24) rfl rfl rfl rfl rfl ?_
  simp (maxSteps := 1000000) (disch := omega) only [go_sem, Nat.reduceAdd, Nat.reduceMul, Nat.reduceSub, Nat.reduceEqDiff, Nat.reduceLeDiff]
  generalize lessV xs z m = W at hs hh hlen hno ⊢
  obtain ⟨hs1, hs2⟩ := hs
  refine loop_rule (fun k : Nat => W.length - k) (fun k => k ≤ W.length) (fun k => [.a, .a, .a, .k, .k, .k, .k, .k, .p (int k), .a, .a, .a, .a, .a, .a, .a, .a, .a, .a, .a, .a, .a, .a, .a, .a, .a, .a, .a, .a, .a, .a, .a, .a, .a, .a, .a, .a, .a, .a, .a, .a, .a, .a, .a, .a, .a, .a, .a, .a, .a, .a, .a, .a, .a, .a, .a, .a, .a, .a, .a, .a, .a, .a, .a, .a, .a, .a, .a, .a, .a, .a, .a, .a, .a, .a, .a, .a, .a, .a, .a, .a, .a, .a, .a, .a, .a, .a, .a, .a, .a, .a]) (fun _ => []) 0 (Nat.zero_le _) (by simp (maxSteps := 1000000) (disch := omega) only [go_sem, Nat.reduceAdd, Nat.reduceMul, Nat.reduceSub, Nat.reduceEqDiff, Nat.reduceLeDiff]; rfl) (HLe.refl _) ?_
  intro k hk
  simp (maxSteps := 1000000) (disch := omega) only [go_sem, Nat.reduceAdd, Nat.reduceMul, Nat.reduceSub, Nat.reduceEqDiff, Nat.reduceLeDiff]
  (first | with_reducible refine condK_dec (fun h2 => ?_) (fun h2 => ?_) | with_reducible refine condK_ndec (fun h2 => ?_) (fun h2 => ?_) | with_reducible refine condK_nb (fun h2 => ?_) (fun h2 => ?_) | refine condK_b (fun h2 => ?_) (fun h2 => ?_))
  · have h2 : k < W.length := by omega
    obtain ⟨k1, k2⟩ := hs2 _ (nth_mem h2)
    have d1 : decide ((nth W k).kind = 4) = true := decide_eq_true k1
    have d2 : decide ((nth W k).cells = (nth W k).cells) = true := decide_eq_true rfl
    simp (maxSteps := 1000000) (disch := omega) only [go_sem, Nat.reduceAdd, Nat.reduceMul, Nat.reduceSub, Nat.reduceEqDiff, Nat.reduceLeDiff]
    refine drawP_q foll (by kernel_rfl) ?_
    simp (maxSteps := 1000000) (disch := omega) only [go_sem, Nat.reduceBEq, Bool.true_or, Nat.reduceAdd, Nat.reduceMul, Nat.reduceSub, Nat.reduceEqDiff, Nat.reduceLeDiff]
    simp (maxSteps := 1000000) (disch := omega) only [go_sem, Nat.reduceAdd, Nat.reduceMul, Nat.reduceSub, Nat.reduceEqDiff, Nat.reduceLeDiff, d1, Bool.not_true]
    refine quietW.rd (sameIntsF_run (nth W k).cells (nth W k).cells (by omega)) (⟨_, Try.func18, rfl, rfl⟩ : Enters Try.prog 18) rfl rfl rfl rfl ?_
    simp (maxSteps := 1000000) (disch := omega) only [go_sem, Nat.reduceAdd, Nat.reduceMul, Nat.reduceSub, Nat.reduceEqDiff, Nat.reduceLeDiff]
    exact ⟨k + 1, by omega, by push_cast; rfl, HLe.refl _⟩
  · simp (maxSteps := 1000000) (disch := omega) only [go_sem, Nat.reduceAdd, Nat.reduceMul, Nat.reduceSub, Nat.reduceEqDiff, Nat.reduceLeDiff]
    first | refine OpS.rd (sSquareSolved_run xs z (by omega)) (⟨_, Try.func19, rfl, rfl⟩ : Enters Try.prog 19) rfl rfl rfl rfl ?_ | refine Loud.rd (sSquareSolved_run xs z (by omega)) (⟨_, Try.func19, rfl, rfl⟩ : Enters Try.prog 19) rfl rfl rfl rfl ?_
    simp (maxSteps := 1000000) (disch := omega) only [go_sem, Nat.reduceAdd, Nat.reduceMul, Nat.reduceSub, Nat.reduceEqDiff, Nat.reduceLeDiff]
    by_cases hg : solvedS xs z = true ∧ 0 ≤ m ∧ m ≤ 20
    · have hlen := hlen hg
      have d1 : decide (m < 0) = false := decide_eq_false (by omega)
      have d2 : decide (20 < m) = false := decide_eq_false (by omega)
      obtain ⟨n, hz, hn, _⟩ := solvedS_full hg.1
      rw [hg.1]
      simp (maxSteps := 1000000) (disch := omega) only [go_sem, Nat.reduceAdd, Nat.reduceMul, Nat.reduceSub, Nat.reduceEqDiff, Nat.reduceLeDiff, d1, d2]
      first | refine OpS.rd (hold_run W xs z ⟨by omega, fun r hr => by have := (hs2 r hr).2; omega⟩ (by omega)) (⟨_, Try.func21, rfl, rfl⟩ : Enters Try.prog 21) rfl rfl rfl rfl ?_ | refine Loud.rd (hold_run W xs z ⟨by omega, fun r hr => by have := (hs2 r hr).2; omega⟩ (by omega)) (⟨_, Try.func21, rfl, rfl⟩ : Enters Try.prog 21) rfl rfl rfl rfl ?_
      simp (maxSteps := 1000000) (disch := omega) only [go_sem, Nat.reduceAdd, Nat.reduceMul, Nat.reduceSub, Nat.reduceEqDiff, Nat.reduceLeDiff]
      rw [hh]
      have hz2 : 2 ≤ z ∧ z ≤ 4 := by omega
      have hzz : 0 ≤ 2 * z * (z - 1) ∧ 2 * z * (z - 1) ≤ 24 := by
        obtain rfl | rfl | rfl : z = 2 ∨ z = 3 ∨ z = 4 := by omega
        all_goals omega
      have d3 : decide ((W.length : Int) = min m (2 * z * (z - 1))) = true := decide_eq_true hlen
      simp (maxSteps := 1000000) (disch := omega) only [go_sem, Nat.reduceAdd, Nat.reduceMul, Nat.reduceSub, Nat.reduceEqDiff, Nat.reduceLeDiff, d3]
    · have e := hno hg
      subst e
      have d0 : decide (((0 : Nat) : Int) = 0) = true := rfl
      cases hs : solvedS xs z with
      | false =>
        simp (maxSteps := 1000000) (disch := omega) only [go_sem, Nat.reduceAdd, Nat.reduceMul, Nat.reduceSub, Nat.reduceEqDiff, Nat.reduceLeDiff, d0]
        first | refine OpS.rd (aliveF_run) (⟨_, Try.func20, rfl, rfl⟩ : Enters Try.prog 20) rfl rfl rfl rfl ?_ | refine Loud.rd (aliveF_run) (⟨_, Try.func20, rfl, rfl⟩ : Enters Try.prog 20) rfl rfl rfl rfl ?_
        simp (maxSteps := 1000000) (disch := omega) only [go_sem, Nat.reduceAdd, Nat.reduceMul, Nat.reduceSub, Nat.reduceEqDiff, Nat.reduceLeDiff]
      | true =>
        simp (maxSteps := 1000000) (disch := omega) only [go_sem, Nat.reduceAdd, Nat.reduceMul, Nat.reduceSub, Nat.reduceEqDiff, Nat.reduceLeDiff]
        (first | with_reducible refine guardK_dec (fun h3 => ?_) (fun h3 => ?_) <;> simp (maxSteps := 1000000) (disch := omega) only [go_sem, Nat.reduceAdd, Nat.reduceMul, Nat.reduceSub, Nat.reduceEqDiff, Nat.reduceLeDiff, h3] | with_reducible refine guardK_ndec (fun h3 => ?_) (fun h3 => ?_) <;> simp (maxSteps := 1000000) (disch := omega) only [go_sem, Nat.reduceAdd, Nat.reduceMul, Nat.reduceSub, Nat.reduceEqDiff, Nat.reduceLeDiff, h3] | with_reducible refine guardK_nb (fun h3 => ?_) (fun h3 => ?_) <;> simp (maxSteps := 1000000) (disch := omega) only [go_sem, Nat.reduceAdd, Nat.reduceMul, Nat.reduceSub, Nat.reduceEqDiff, Nat.reduceLeDiff, h3] | with_reducible refine guardK_split (fun h3 => ?_) (fun h3 => ?_) <;> simp (maxSteps := 1000000) (disch := omega) only [go_sem, Nat.reduceAdd, Nat.reduceMul, Nat.reduceSub, Nat.reduceEqDiff, Nat.reduceLeDiff, h3] | with_reducible refine guardQ_dec (fun h3 => ?_) (fun h3 => ?_) <;> simp (maxSteps := 1000000) (disch := omega) only [go_sem, Nat.reduceAdd, Nat.reduceMul, Nat.reduceSub, Nat.reduceEqDiff, Nat.reduceLeDiff, h3] | with_reducible refine guardL_dec (fun h3 => ?_) (fun h3 => ?_) <;> simp (maxSteps := 1000000) (disch := omega) only [go_sem, Nat.reduceAdd, Nat.reduceMul, Nat.reduceSub, Nat.reduceEqDiff, Nat.reduceLeDiff, h3] | with_reducible refine guardQ_ndec (fun h3 => ?_) (fun h3 => ?_) <;> simp (maxSteps := 1000000) (disch := omega) only [go_sem, Nat.reduceAdd, Nat.reduceMul, Nat.reduceSub, Nat.reduceEqDiff, Nat.reduceLeDiff, h3] | with_reducible refine guardL_ndec (fun h3 => ?_) (fun h3 => ?_) <;> simp (maxSteps := 1000000) (disch := omega) only [go_sem, Nat.reduceAdd, Nat.reduceMul, Nat.reduceSub, Nat.reduceEqDiff, Nat.reduceLeDiff, h3] | with_reducible refine guardQ_nb (fun h3 => ?_) (fun h3 => ?_) <;> simp (maxSteps := 1000000) (disch := omega) only [go_sem, Nat.reduceAdd, Nat.reduceMul, Nat.reduceSub, Nat.reduceEqDiff, Nat.reduceLeDiff, h3] | with_reducible refine guardL_nb (fun h3 => ?_) (fun h3 => ?_) <;> simp (maxSteps := 1000000) (disch := omega) only [go_sem, Nat.reduceAdd, Nat.reduceMul, Nat.reduceSub, Nat.reduceEqDiff, Nat.reduceLeDiff, h3] | with_reducible refine guardQ_split (fun h3 => ?_) (fun h3 => ?_) <;> simp (maxSteps := 1000000) (disch := omega) only [go_sem, Nat.reduceAdd, Nat.reduceMul, Nat.reduceSub, Nat.reduceEqDiff, Nat.reduceLeDiff, h3] | with_reducible refine guardL_split (fun h3 => ?_) (fun h3 => ?_) <;> simp (maxSteps := 1000000) (disch := omega) only [go_sem, Nat.reduceAdd, Nat.reduceMul, Nat.reduceSub, Nat.reduceEqDiff, Nat.reduceLeDiff, h3])
        · simp (maxSteps := 1000000) (disch := omega) only [go_sem, Nat.reduceAdd, Nat.reduceMul, Nat.reduceSub, Nat.reduceEqDiff, Nat.reduceLeDiff, d0]
          first | refine OpS.rd (aliveF_run) (⟨_, Try.func20, rfl, rfl⟩ : Enters Try.prog 20) rfl rfl rfl rfl ?_ | refine Loud.rd (aliveF_run) (⟨_, Try.func20, rfl, rfl⟩ : Enters Try.prog 20) rfl rfl rfl rfl ?_
          simp (maxSteps := 1000000) (disch := omega) only [go_sem, Nat.reduceAdd, Nat.reduceMul, Nat.reduceSub, Nat.reduceEqDiff, Nat.reduceLeDiff]
        · have h4 : 20 < m := by
            by_cases hq : m ≤ 20
            · exact absurd ⟨hs, by omega, hq⟩ hg
            · omega
          have d2 : decide (20 < m) = true := decide_eq_true h4
          simp (maxSteps := 1000000) (disch := omega) only [go_sem, Nat.reduceAdd, Nat.reduceMul, Nat.reduceSub, Nat.reduceEqDiff, Nat.reduceLeDiff, d2, d0]
          first | refine OpS.rd (aliveF_run) (⟨_, Try.func20, rfl, rfl⟩ : Enters Try.prog 20) rfl rfl rfl rfl ?_ | refine Loud.rd (aliveF_run) (⟨_, Try.func20, rfl, rfl⟩ : Enters Try.prog 20) rfl rfl rfl rfl ?_
          simp (maxSteps := 1000000) (disch := omega) only [go_sem, Nat.reduceAdd, Nat.reduceMul, Nat.reduceSub, Nat.reduceEqDiff, Nat.reduceLeDiff]
theorem apart_cnt {xs : List Int} {b : Int} (n k : Nat) : (apartF xs b (pairsT n (k + 1))).length = (apartF xs b (pairsT n k)).length + (if k % n + 1 < n ∧ dif xs ((k : Int), (k : Int) + 1) = b then 1 else 0) + (if k / n + 1 < n ∧ dif xs ((k : Int), (k : Int) + (n : Int)) = b then 1 else 0) := by
  rw [pairsT_succ, apartF_app, List.length_append, Nat.add_assoc]
  congr 1
  unfold pairK
  rw [apartF_app, List.length_append]
  congr 1
  · by_cases h : k % n + 1 < n
    · rw [if_pos h, apartF_one]
      by_cases h2 : dif xs ((k : Int), (k : Int) + 1) = b <;> simp [h, h2]
    · rw [if_neg h, if_neg (fun h' => h h'.1)]; rfl
  · by_cases h : k / n + 1 < n
    · rw [if_pos h, apartF_one]
      by_cases h2 : dif xs ((k : Int), (k : Int) + (n : Int)) = b <;> simp [h, h2]
    · rw [if_neg h, if_neg (fun h' => h h'.1)]; rfl
theorem apart_cnt' {xs : List Int} {b : Int} (hb : 0 ≤ b) (n k : Nat) : ∃ c1 c2 : Nat, (apartF xs b (pairsT n (k + 1))).length = (apartF xs b (pairsT n k)).length + c1 + c2 ∧
    (k % n + 1 < n ∧ (nth xs k - nth xs ((k : Int) + 1) = b ∨ nth xs ((k : Int) + 1) - nth xs k = b) → c1 = 1) ∧ (¬ (k % n + 1 < n ∧ (nth xs k - nth xs ((k : Int) + 1) = b ∨ nth xs ((k : Int) + 1) - nth xs k = b)) → c1 = 0) ∧
    (k / n + 1 < n ∧ (nth xs k - nth xs ((k : Int) + (n : Int)) = b ∨ nth xs ((k : Int) + (n : Int)) - nth xs k = b) → c2 = 1) ∧ (¬ (k / n + 1 < n ∧ (nth xs k - nth xs ((k : Int) + (n : Int)) = b ∨ nth xs ((k : Int) + (n : Int)) - nth xs k = b)) → c2 = 0) := by
  have i1 := dif_iff (xs := xs) (q := ((k : Int), (k : Int) + 1)) hb
  have i2 := dif_iff (xs := xs) (q := ((k : Int), (k : Int) + (n : Int))) hb
  simp only at i1 i2
  refine ⟨_, _, apart_cnt n k, fun h => if_pos ⟨h.1, i1.2 h.2⟩, fun h => if_neg fun h' => h ⟨h'.1, i1.1 h'.2⟩, fun h => if_pos ⟨h.1, i2.2 h.2⟩, fun h => if_neg fun h' => h ⟨h'.1, i2.1 h'.2⟩⟩
set_option maxHeartbeats 8000000 in
theorem law_FnApartRules (code : List Int) (hl : code.length ≤ 9223372036854775807) (hw : ∀ x ∈ code, (Lit.int .u8 x).wf = true) : Reads Try.prog 3 [rsl (eI .u8) code] (bool true) := by
  refine RunCall.cw (c := _) Try.func3 rfl (n := 178) Try.ntmps3 (rs := [.tmp 2]) rfl ?_
  simp only [List.length_cons, List.length_nil, Nat.reduceAdd, Nat.reduceSub, List.replicate, List.cons_append, List.nil_append]
  simp (maxSteps := 1000000) (disch := omega) only [go_sem, Nat.reduceAdd, Nat.reduceMul, Nat.reduceSub, Nat.reduceEqDiff, Nat.reduceLeDiff]
  (first | with_reducible refine condK_dec (fun h1 => ?_) (fun h1 => ?_) | with_reducible refine condK_ndec (fun h1 => ?_) (fun h1 => ?_) | with_reducible refine condK_nb (fun h1 => ?_) (fun h1 => ?_) | refine condK_b (fun h1 => ?_) (fun h1 => ?_))
  · simp (maxSteps := 1000000) (disch := omega) only [go_sem, Nat.reduceAdd, Nat.reduceMul, Nat.reduceSub, Nat.reduceEqDiff, Nat.reduceLeDiff]
  simp (maxSteps := 1000000) (disch := omega) only [go_sem, Nat.reduceAdd, Nat.reduceMul, Nat.reduceSub, Nat.reduceEqDiff, Nat.reduceLeDiff]
  refine OpS.mkF (DrawApartRules_run code (wf_u8' hw) (by omega)) (⟨_, Try.func15, rfl, rfl⟩ : Enters Try.prog 15) rfl rfl rfl ?_
  rintro _ ⟨xs, z, b, rfl, hx, hm1, hm2⟩
  refine ⟨rfl, rfl, ?_⟩
  have hs := apartV_sm xs z b
  have hh : (apartV xs z b).all (fun r => ruleHolds r xs z) = true := List.all_eq_true.2 apartV_holds
  have hlen : solvedS xs z = true ∧ 0 ≤ b ∧ b < z → (apartV xs z b).length = min (apartF xs b (pairsL z.toNat)).length 20 := fun h => by unfold apartV; rw [if_pos h, List.length_take, Nat.min_comm]
  have hno : ¬ (solvedS xs z = true ∧ 0 ≤ b ∧ b < z) → apartV xs z b = [] := fun h => by unfold apartV; rw [if_neg h]
  simp (maxSteps := 1000000) (disch := omega) only [go_sem, Nat.reduceAdd, Nat.reduceMul, Nat.reduceSub, Nat.reduceEqDiff, Nat.reduceLeDiff]
  first | refine OpS.mk (ApartRules_run xs z b (by omega)) (⟨_, Try.func16, rfl, rfl⟩ : Enters Try.prog 16) rfl rfl rfl rfl rfl ?_ | refine Loud.mk (ApartRules_run xs z b (by omega)) (⟨_, Try.func16, rfl, rfl⟩ : Enters Try.prog 16) rfl rfl rfl rfl rfl ?_
  simp (maxSteps := 1000000) (disch := omega) only [go_sem, Nat.reduceAdd, Nat.reduceMul, Nat.reduceSub, Nat.reduceEqDiff, Nat.reduceLeDiff]
  first | refine OpS.mk (sApartRules_run xs z b (by omega)) (⟨_, Try.func17, rfl, rfl⟩ : Enters Try.prog 17) rfl rfl rfl rfl rfl ?_ | refine Loud.mk (sApartRules_run xs z b (by omega)) (⟨_, Try.func17, rfl, rfl⟩ : Enters Try.prog 17) rfl rfl rfl rfl rfl ?_
  simp (maxSteps := 1000000) (disch := omega) only [go_sem, Nat.reduceAdd, Nat.reduceMul, Nat.reduceSub, Nat.reduceEqDiff, Nat.reduceLeDiff]
  generalize apartV xs z b = W at hs hh hlen hno ⊢
  obtain ⟨hs1, hs2⟩ := hs
  refine loop_rule (fun k : Nat => W.length - k) (fun k => k ≤ W.length) (fun k => [.a, .a, .a, .k, .k, .k, .k, .k, .p (int k), .a, .a, .a, .a, .a, .a, .a, .a, .a, .a, .a, .a, .a, .a, .a, .a, .a, .a, .a, .a, .a, .a, .a, .a, .a, .a, .a, .a, .a, .a, .a, .a, .a, .a, .a, .a, .a, .a, .a, .a, .a, .a, .a, .a, .a, .a, .a, .a, .a, .a, .a, .a, .a, .a, .a, .a, .a, .a, .a, .a, .a, .a, .a, .a, .a, .a, .a, .a, .a, .a, .a, .a, .a, .a, .a, .a, .a, .a, .a, .a, .a, .a, .a, .a, .a, .a, .a, .a, .a, .a, .a, .a, .a, .a, .a, .a, .a, .a, .a, .a, .a, .a, .a, .a, .a, .a, .a, .a, .a, .a, .a, .a, .a, .a, .a, .a, .a, .a, .a, .a, .a, .a, .a, .a, .a, .a, .a, .a, .a, .a, .a, .a, .a, .a, .a, .a, .a, .a, .a, .a, .a, .a, .a, .a, .a, .a, .a, .a, .a, .a, .a, .a, .a, .a, .a, .a, .a, .a, .a, .a, .a, .a, .a, .a, .a, .a, .a, .a, .a]) (fun _ => []) 0 (Nat.zero_le _) (by simp (maxSteps := 1000000) (disch := omega) only [go_sem, Nat.reduceAdd, Nat.reduceMul, Nat.reduceSub, Nat.reduceEqDiff, Nat.reduceLeDiff]; rfl) (HLe.refl _) ?_
  intro k hk
  simp (maxSteps := 1000000) (disch := omega) only [go_sem, Nat.reduceAdd, Nat.reduceMul, Nat.reduceSub, Nat.reduceEqDiff, Nat.reduceLeDiff]
  (first | with_reducible refine condK_dec (fun h2 => ?_) (fun h2 => ?_) | with_reducible refine condK_ndec (fun h2 => ?_) (fun h2 => ?_) | with_reducible refine condK_nb (fun h2 => ?_) (fun h2 => ?_) | refine condK_b (fun h2 => ?_) (fun h2 => ?_))
  · have h2 : k < W.length := by omega
    obtain ⟨k1, k2, k3⟩ := hs2 _ (nth_mem h2)
    have d1 : decide ((nth W k).kind = 5) = true := decide_eq_true k1
    have d2 : decide ((nth W k).val = b) = true := decide_eq_true k3
    simp (maxSteps := 1000000) (disch := omega) only [go_sem, Nat.reduceAdd, Nat.reduceMul, Nat.reduceSub, Nat.reduceEqDiff, Nat.reduceLeDiff]
    refine drawP_q foll (by kernel_rfl) ?_
    simp (maxSteps := 1000000) (disch := omega) only [go_sem, Nat.reduceBEq, Bool.true_or, Nat.reduceAdd, Nat.reduceMul, Nat.reduceSub, Nat.reduceEqDiff, Nat.reduceLeDiff]
    simp (maxSteps := 1000000) (disch := omega) only [go_sem, Nat.reduceAdd, Nat.reduceMul, Nat.reduceSub, Nat.reduceEqDiff, Nat.reduceLeDiff, d1, d2, Bool.not_true]
    refine quietW.rd (sameIntsF_run (nth W k).cells (nth W k).cells (by omega)) (⟨_, Try.func18, rfl, rfl⟩ : Enters Try.prog 18) rfl rfl rfl rfl ?_
    simp (maxSteps := 1000000) (disch := omega) only [go_sem, Nat.reduceAdd, Nat.reduceMul, Nat.reduceSub, Nat.reduceEqDiff, Nat.reduceLeDiff]
    exact ⟨k + 1, by omega, by push_cast; rfl, HLe.refl _⟩
  · simp (maxSteps := 1000000) (disch := omega) only [go_sem, Nat.reduceAdd, Nat.reduceMul, Nat.reduceSub, Nat.reduceEqDiff, Nat.reduceLeDiff]
    first | refine OpS.rd (sSquareSolved_run xs z (by omega)) (⟨_, Try.func19, rfl, rfl⟩ : Enters Try.prog 19) rfl rfl rfl rfl ?_ | refine Loud.rd (sSquareSolved_run xs z (by omega)) (⟨_, Try.func19, rfl, rfl⟩ : Enters Try.prog 19) rfl rfl rfl rfl ?_
    simp (maxSteps := 1000000) (disch := omega) only [go_sem, Nat.reduceAdd, Nat.reduceMul, Nat.reduceSub, Nat.reduceEqDiff, Nat.reduceLeDiff]
    by_cases hg : solvedS xs z = true ∧ 0 ≤ b ∧ b < z
    · have hlen := hlen hg
      have d1 : decide (b < 0) = false := decide_eq_false (by omega)
      have d2 : decide (z ≤ b) = false := decide_eq_false (by omega)
      obtain ⟨n, rfl, hn, hf, _⟩ := solvedS_full hg.1
      rw [hg.1]
      simp (maxSteps := 1000000) (disch := omega) only [go_sem, Nat.reduceAdd, Nat.reduceMul, Nat.reduceSub, Nat.reduceEqDiff, Nat.reduceLeDiff, d1, d2]
      rw [Int.toNat_natCast] at hlen
      have hsq : 4 ≤ n * n ∧ n * n ≤ 16 := by rcases hn with rfl | rfl | rfl <;> omega
      have hxl := hf.1.len
      have hb0 := hg.2.1
      refine loop_rule (fun k : Nat => n * n - k) (fun k => k ≤ n * n) (fun k => [.a, .a, .a, .k, .k, .k, .k, .a, .a, .p (int (apartF xs b (pairsT n k)).length), .p (int k), .a, .a, .a, .a, .a, .a, .a, .a, .a, .a, .a, .a, .a, .a, .a, .a, .a, .a, .a, .a, .a, .a, .a, .a, .a, .a, .a, .a, .a, .a, .a, .a, .a, .a, .a, .a, .a, .a, .a, .a, .a, .a, .a, .a, .a, .a, .a, .a, .a, .a, .a, .a, .a, .a, .a, .a, .a, .a, .a, .a, .a, .a, .a, .a, .a, .a, .a, .a, .a, .a, .a, .a, .a, .a, .a, .a, .a, .a, .a, .a, .a, .a, .a, .a, .a, .a, .a, .a, .a, .a, .a, .a, .a, .a, .a, .a, .a, .a, .a, .a, .a, .a, .a, .a, .a, .a, .a, .a, .a, .a, .a, .a, .a, .a, .a, .a, .a, .a, .a, .a, .a, .a, .a, .a, .a, .a, .a, .a, .a, .a, .a, .a, .a, .a, .a, .a, .a, .a, .a, .a, .a, .a, .a, .a, .a, .a, .a, .a, .a, .a, .a, .a, .a, .a, .a, .a, .a, .a, .a, .a, .a, .a, .a, .a, .a, .a, .a]) (fun _ => []) 0 (Nat.zero_le _) (by simp (maxSteps := 1000000) (disch := omega) only [go_sem, Nat.reduceAdd, Nat.reduceMul, Nat.reduceSub, Nat.reduceEqDiff, Nat.reduceLeDiff]; exact ⟨rfl, rfl⟩) (HLe.refl _) ?_
      intro k hk
      obtain ⟨c1, c2, hcnt, c1t, c1f, c2t, c2f⟩ := apart_cnt' (xs := xs) hb0 n k
      have ht1 : (k : Int).tmod (n : Int) = ((k % n : Nat) : Int) := rfl
      have ht2 : (k : Int).tdiv (n : Int) = ((k / n : Nat) : Int) := rfl
      have hal := apartF_len xs b (pairsT n k)
      have hpl := pairsT_len n k
      simp (maxSteps := 1000000) (disch := omega) only [go_sem, Nat.reduceAdd, Nat.reduceMul, Nat.reduceSub, Nat.reduceEqDiff, Nat.reduceLeDiff]
      (first | with_reducible refine condK_dec (fun h3 => ?_) (fun h3 => ?_) | with_reducible refine condK_ndec (fun h3 => ?_) (fun h3 => ?_) | with_reducible refine condK_nb (fun h3 => ?_) (fun h3 => ?_) | refine condK_b (fun h3 => ?_) (fun h3 => ?_))
      · have h3 : k < n * n := by omega
        have hk1 : k % n + 1 < n → k + 1 < n * n := by rcases hn with rfl | rfl | rfl <;> omega
        have hk2 : k / n + 1 < n → k + n < n * n := by rcases hn with rfl | rfl | rfl <;> omega
        have hkd : k / n < n := by rw [Nat.div_lt_iff_lt_mul (by omega)]; exact h3
        have hkm : k % n < n := Nat.mod_lt _ (by omega)
        generalize k % n = e at c1t c1f ht1 hk1 hkm
        generalize k / n = d at c2t c2f ht2 hk2 hkd
        generalize (apartF xs b (pairsT n k)).length = M at hcnt hal ⊢
        have hv0 := hf.1.val k (by omega)
        simp (maxSteps := 1000000) (disch := omega) only [go_sem, Nat.reduceAdd, Nat.reduceMul, Nat.reduceSub, Nat.reduceEqDiff, Nat.reduceLeDiff]
        refine drawP_q foll (by kernel_rfl) ?_
        simp (maxSteps := 1000000) (disch := omega) only [go_sem, Nat.reduceBEq, Bool.true_or, Nat.reduceAdd, Nat.reduceMul, Nat.reduceSub, Nat.reduceEqDiff, Nat.reduceLeDiff]
        simp (maxSteps := 1000000) (disch := omega) only [go_sem, Nat.reduceAdd, Nat.reduceMul, Nat.reduceSub, Nat.reduceEqDiff, Nat.reduceLeDiff, ht1]
        (first | with_reducible refine guardK_dec (fun h4 => ?_) (fun h4 => ?_) <;> simp (maxSteps := 1000000) (disch := omega) only [go_sem, Nat.reduceAdd, Nat.reduceMul, Nat.reduceSub, Nat.reduceEqDiff, Nat.reduceLeDiff, h4] | with_reducible refine guardK_ndec (fun h4 => ?_) (fun h4 => ?_) <;> simp (maxSteps := 1000000) (disch := omega) only [go_sem, Nat.reduceAdd, Nat.reduceMul, Nat.reduceSub, Nat.reduceEqDiff, Nat.reduceLeDiff, h4] | with_reducible refine guardK_nb (fun h4 => ?_) (fun h4 => ?_) <;> simp (maxSteps := 1000000) (disch := omega) only [go_sem, Nat.reduceAdd, Nat.reduceMul, Nat.reduceSub, Nat.reduceEqDiff, Nat.reduceLeDiff, h4] | with_reducible refine guardK_split (fun h4 => ?_) (fun h4 => ?_) <;> simp (maxSteps := 1000000) (disch := omega) only [go_sem, Nat.reduceAdd, Nat.reduceMul, Nat.reduceSub, Nat.reduceEqDiff, Nat.reduceLeDiff, h4] | with_reducible refine guardQ_dec (fun h4 => ?_) (fun h4 => ?_) <;> simp (maxSteps := 1000000) (disch := omega) only [go_sem, Nat.reduceAdd, Nat.reduceMul, Nat.reduceSub, Nat.reduceEqDiff, Nat.reduceLeDiff, h4] | with_reducible refine guardL_dec (fun h4 => ?_) (fun h4 => ?_) <;> simp (maxSteps := 1000000) (disch := omega) only [go_sem, Nat.reduceAdd, Nat.reduceMul, Nat.reduceSub, Nat.reduceEqDiff, Nat.reduceLeDiff, h4] | with_reducible refine guardQ_ndec (fun h4 => ?_) (fun h4 => ?_) <;> simp (maxSteps := 1000000) (disch := omega) only [go_sem, Nat.reduceAdd, Nat.reduceMul, Nat.reduceSub, Nat.reduceEqDiff, Nat.reduceLeDiff, h4] | with_reducible refine guardL_ndec (fun h4 => ?_) (fun h4 => ?_) <;> simp (maxSteps := 1000000) (disch := omega) only [go_sem, Nat.reduceAdd, Nat.reduceMul, Nat.reduceSub, Nat.reduceEqDiff, Nat.reduceLeDiff, h4] | with_reducible refine guardQ_nb (fun h4 => ?_) (fun h4 => ?_) <;> simp (maxSteps := 1000000) (disch := omega) only [go_sem, Nat.reduceAdd, Nat.reduceMul, Nat.reduceSub, Nat.reduceEqDiff, Nat.reduceLeDiff, h4] | with_reducible refine guardL_nb (fun h4 => ?_) (fun h4 => ?_) <;> simp (maxSteps := 1000000) (disch := omega) only [go_sem, Nat.reduceAdd, Nat.reduceMul, Nat.reduceSub, Nat.reduceEqDiff, Nat.reduceLeDiff, h4] | with_reducible refine guardQ_split (fun h4 => ?_) (fun h4 => ?_) <;> simp (maxSteps := 1000000) (disch := omega) only [go_sem, Nat.reduceAdd, Nat.reduceMul, Nat.reduceSub, Nat.reduceEqDiff, Nat.reduceLeDiff, h4] | with_reducible refine guardL_split (fun h4 => ?_) (fun h4 => ?_) <;> simp (maxSteps := 1000000) (disch := omega) only [go_sem, Nat.reduceAdd, Nat.reduceMul, Nat.reduceSub, Nat.reduceEqDiff, Nat.reduceLeDiff, h4])
        · have hk1 := hk1 (by omega)
          have hv1 := hf.1.val (k + 1) (by omega)
          push_cast at hv1
          simp (maxSteps := 1000000) (disch := omega) only [go_sem, Nat.reduceAdd, Nat.reduceMul, Nat.reduceSub, Nat.reduceEqDiff, Nat.reduceLeDiff]
          (first | with_reducible refine guardK_dec (fun h5 => ?_) (fun h5 => ?_) <;> simp (maxSteps := 1000000) (disch := omega) only [go_sem, Nat.reduceAdd, Nat.reduceMul, Nat.reduceSub, Nat.reduceEqDiff, Nat.reduceLeDiff, h5] | with_reducible refine guardK_ndec (fun h5 => ?_) (fun h5 => ?_) <;> simp (maxSteps := 1000000) (disch := omega) only [go_sem, Nat.reduceAdd, Nat.reduceMul, Nat.reduceSub, Nat.reduceEqDiff, Nat.reduceLeDiff, h5] | with_reducible refine guardK_nb (fun h5 => ?_) (fun h5 => ?_) <;> simp (maxSteps := 1000000) (disch := omega) only [go_sem, Nat.reduceAdd, Nat.reduceMul, Nat.reduceSub, Nat.reduceEqDiff, Nat.reduceLeDiff, h5] | with_reducible refine guardK_split (fun h5 => ?_) (fun h5 => ?_) <;> simp (maxSteps := 1000000) (disch := omega) only [go_sem, Nat.reduceAdd, Nat.reduceMul, Nat.reduceSub, Nat.reduceEqDiff, Nat.reduceLeDiff, h5] | with_reducible refine guardQ_dec (fun h5 => ?_) (fun h5 => ?_) <;> simp (maxSteps := 1000000) (disch := omega) only [go_sem, Nat.reduceAdd, Nat.reduceMul, Nat.reduceSub, Nat.reduceEqDiff, Nat.reduceLeDiff, h5] | with_reducible refine guardL_dec (fun h5 => ?_) (fun h5 => ?_) <;> simp (maxSteps := 1000000) (disch := omega) only [go_sem, Nat.reduceAdd, Nat.reduceMul, Nat.reduceSub, Nat.reduceEqDiff, Nat.reduceLeDiff, h5] | with_reducible refine guardQ_ndec (fun h5 => ?_) (fun h5 => ?_) <;> simp (maxSteps := 1000000) (disch := omega) only [go_sem, Nat.reduceAdd, Nat.reduceMul, Nat.reduceSub, Nat.reduceEqDiff, Nat.reduceLeDiff, h5] | with_reducible refine guardL_ndec (fun h5 => ?_) (fun h5 => ?_) <;> simp (maxSteps := 1000000) (disch := omega) only [go_sem, Nat.reduceAdd, Nat.reduceMul, Nat.reduceSub, Nat.reduceEqDiff, Nat.reduceLeDiff, h5] | with_reducible refine guardQ_nb (fun h5 => ?_) (fun h5 => ?_) <;> simp (maxSteps := 1000000) (disch := omega) only [go_sem, Nat.reduceAdd, Nat.reduceMul, Nat.reduceSub, Nat.reduceEqDiff, Nat.reduceLeDiff, h5] | with_reducible refine guardL_nb (fun h5 => ?_) (fun h5 => ?_) <;> simp (maxSteps := 1000000) (disch := omega) only [go_sem, Nat.reduceAdd, Nat.reduceMul, Nat.reduceSub, Nat.reduceEqDiff, Nat.reduceLeDiff, h5] | with_reducible refine guardQ_split (fun h5 => ?_) (fun h5 => ?_) <;> simp (maxSteps := 1000000) (disch := omega) only [go_sem, Nat.reduceAdd, Nat.reduceMul, Nat.reduceSub, Nat.reduceEqDiff, Nat.reduceLeDiff, h5] | with_reducible refine guardL_split (fun h5 => ?_) (fun h5 => ?_) <;> simp (maxSteps := 1000000) (disch := omega) only [go_sem, Nat.reduceAdd, Nat.reduceMul, Nat.reduceSub, Nat.reduceEqDiff, Nat.reduceLeDiff, h5])
          · have e1 := c1t ⟨by omega, .inl h5⟩
            refine drawP_q foll (by kernel_rfl) ?_
            simp (maxSteps := 1000000) (disch := omega) only [go_sem, Nat.reduceBEq, Bool.true_or, Nat.reduceAdd, Nat.reduceMul, Nat.reduceSub, Nat.reduceEqDiff, Nat.reduceLeDiff]
            simp (maxSteps := 1000000) (disch := omega) only [go_sem, Nat.reduceAdd, Nat.reduceMul, Nat.reduceSub, Nat.reduceEqDiff, Nat.reduceLeDiff, ht2]
            (first | with_reducible refine guardK_dec (fun g4 => ?_) (fun g4 => ?_) <;> simp (maxSteps := 1000000) (disch := omega) only [go_sem, Nat.reduceAdd, Nat.reduceMul, Nat.reduceSub, Nat.reduceEqDiff, Nat.reduceLeDiff, g4] | with_reducible refine guardK_ndec (fun g4 => ?_) (fun g4 => ?_) <;> simp (maxSteps := 1000000) (disch := omega) only [go_sem, Nat.reduceAdd, Nat.reduceMul, Nat.reduceSub, Nat.reduceEqDiff, Nat.reduceLeDiff, g4] | with_reducible refine guardK_nb (fun g4 => ?_) (fun g4 => ?_) <;> simp (maxSteps := 1000000) (disch := omega) only [go_sem, Nat.reduceAdd, Nat.reduceMul, Nat.reduceSub, Nat.reduceEqDiff, Nat.reduceLeDiff, g4] | with_reducible refine guardK_split (fun g4 => ?_) (fun g4 => ?_) <;> simp (maxSteps := 1000000) (disch := omega) only [go_sem, Nat.reduceAdd, Nat.reduceMul, Nat.reduceSub, Nat.reduceEqDiff, Nat.reduceLeDiff, g4] | with_reducible refine guardQ_dec (fun g4 => ?_) (fun g4 => ?_) <;> simp (maxSteps := 1000000) (disch := omega) only [go_sem, Nat.reduceAdd, Nat.reduceMul, Nat.reduceSub, Nat.reduceEqDiff, Nat.reduceLeDiff, g4] | with_reducible refine guardL_dec (fun g4 => ?_) (fun g4 => ?_) <;> simp (maxSteps := 1000000) (disch := omega) only [go_sem, Nat.reduceAdd, Nat.reduceMul, Nat.reduceSub, Nat.reduceEqDiff, Nat.reduceLeDiff, g4] | with_reducible refine guardQ_ndec (fun g4 => ?_) (fun g4 => ?_) <;> simp (maxSteps := 1000000) (disch := omega) only [go_sem, Nat.reduceAdd, Nat.reduceMul, Nat.reduceSub, Nat.reduceEqDiff, Nat.reduceLeDiff, g4] | with_reducible refine guardL_ndec (fun g4 => ?_) (fun g4 => ?_) <;> simp (maxSteps := 1000000) (disch := omega) only [go_sem, Nat.reduceAdd, Nat.reduceMul, Nat.reduceSub, Nat.reduceEqDiff, Nat.reduceLeDiff, g4] | with_reducible refine guardQ_nb (fun g4 => ?_) (fun g4 => ?_) <;> simp (maxSteps := 1000000) (disch := omega) only [go_sem, Nat.reduceAdd, Nat.reduceMul, Nat.reduceSub, Nat.reduceEqDiff, Nat.reduceLeDiff, g4] | with_reducible refine guardL_nb (fun g4 => ?_) (fun g4 => ?_) <;> simp (maxSteps := 1000000) (disch := omega) only [go_sem, Nat.reduceAdd, Nat.reduceMul, Nat.reduceSub, Nat.reduceEqDiff, Nat.reduceLeDiff, g4] | with_reducible refine guardQ_split (fun g4 => ?_) (fun g4 => ?_) <;> simp (maxSteps := 1000000) (disch := omega) only [go_sem, Nat.reduceAdd, Nat.reduceMul, Nat.reduceSub, Nat.reduceEqDiff, Nat.reduceLeDiff, g4] | with_reducible refine guardL_split (fun g4 => ?_) (fun g4 => ?_) <;> simp (maxSteps := 1000000) (disch := omega) only [go_sem, Nat.reduceAdd, Nat.reduceMul, Nat.reduceSub, Nat.reduceEqDiff, Nat.reduceLeDiff, g4])
            · have hk2 := hk2 (by omega)
              have hv2 := hf.1.val (k + n) (by omega)
              push_cast at hv2
              simp (maxSteps := 1000000) (disch := omega) only [go_sem, Nat.reduceAdd, Nat.reduceMul, Nat.reduceSub, Nat.reduceEqDiff, Nat.reduceLeDiff]
              (first | with_reducible refine guardK_dec (fun g5 => ?_) (fun g5 => ?_) <;> simp (maxSteps := 1000000) (disch := omega) only [go_sem, Nat.reduceAdd, Nat.reduceMul, Nat.reduceSub, Nat.reduceEqDiff, Nat.reduceLeDiff, g5] | with_reducible refine guardK_ndec (fun g5 => ?_) (fun g5 => ?_) <;> simp (maxSteps := 1000000) (disch := omega) only [go_sem, Nat.reduceAdd, Nat.reduceMul, Nat.reduceSub, Nat.reduceEqDiff, Nat.reduceLeDiff, g5] | with_reducible refine guardK_nb (fun g5 => ?_) (fun g5 => ?_) <;> simp (maxSteps := 1000000) (disch := omega) only [go_sem, Nat.reduceAdd, Nat.reduceMul, Nat.reduceSub, Nat.reduceEqDiff, Nat.reduceLeDiff, g5] | with_reducible refine guardK_split (fun g5 => ?_) (fun g5 => ?_) <;> simp (maxSteps := 1000000) (disch := omega) only [go_sem, Nat.reduceAdd, Nat.reduceMul, Nat.reduceSub, Nat.reduceEqDiff, Nat.reduceLeDiff, g5] | with_reducible refine guardQ_dec (fun g5 => ?_) (fun g5 => ?_) <;> simp (maxSteps := 1000000) (disch := omega) only [go_sem, Nat.reduceAdd, Nat.reduceMul, Nat.reduceSub, Nat.reduceEqDiff, Nat.reduceLeDiff, g5] | with_reducible refine guardL_dec (fun g5 => ?_) (fun g5 => ?_) <;> simp (maxSteps := 1000000) (disch := omega) only [go_sem, Nat.reduceAdd, Nat.reduceMul, Nat.reduceSub, Nat.reduceEqDiff, Nat.reduceLeDiff, g5] | with_reducible refine guardQ_ndec (fun g5 => ?_) (fun g5 => ?_) <;> simp (maxSteps := 1000000) (disch := omega) only [go_sem, Nat.reduceAdd, Nat.reduceMul, Nat.reduceSub, Nat.reduceEqDiff, Nat.reduceLeDiff, g5] | with_reducible refine guardL_ndec (fun g5 => ?_) (fun g5 => ?_) <;> simp (maxSteps := 1000000) (disch := omega) only [go_sem, Nat.reduceAdd, Nat.reduceMul, Nat.reduceSub, Nat.reduceEqDiff, Nat.reduceLeDiff, g5] | with_reducible refine guardQ_nb (fun g5 => ?_) (fun g5 => ?_) <;> simp (maxSteps := 1000000) (disch := omega) only [go_sem, Nat.reduceAdd, Nat.reduceMul, Nat.reduceSub, Nat.reduceEqDiff, Nat.reduceLeDiff, g5] | with_reducible refine guardL_nb (fun g5 => ?_) (fun g5 => ?_) <;> simp (maxSteps := 1000000) (disch := omega) only [go_sem, Nat.reduceAdd, Nat.reduceMul, Nat.reduceSub, Nat.reduceEqDiff, Nat.reduceLeDiff, g5] | with_reducible refine guardQ_split (fun g5 => ?_) (fun g5 => ?_) <;> simp (maxSteps := 1000000) (disch := omega) only [go_sem, Nat.reduceAdd, Nat.reduceMul, Nat.reduceSub, Nat.reduceEqDiff, Nat.reduceLeDiff, g5] | with_reducible refine guardL_split (fun g5 => ?_) (fun g5 => ?_) <;> simp (maxSteps := 1000000) (disch := omega) only [go_sem, Nat.reduceAdd, Nat.reduceMul, Nat.reduceSub, Nat.reduceEqDiff, Nat.reduceLeDiff, g5])
              · have e2 := c2t ⟨by omega, .inl g5⟩
                exact ⟨k + 1, by omega, ⟨by push_cast; omega, by push_cast; rfl⟩, HLe.refl _⟩
              · skip
                (first | with_reducible refine condK_dec (fun g6 => ?_) (fun g6 => ?_) | with_reducible refine condK_ndec (fun g6 => ?_) (fun g6 => ?_) | with_reducible refine condK_nb (fun g6 => ?_) (fun g6 => ?_) | refine condK_b (fun g6 => ?_) (fun g6 => ?_))
                · have e2 := c2t ⟨by omega, .inr g6⟩
                  simp (maxSteps := 1000000) (disch := omega) only [go_sem, Nat.reduceAdd, Nat.reduceMul, Nat.reduceSub, Nat.reduceEqDiff, Nat.reduceLeDiff]
                  exact ⟨k + 1, by omega, ⟨by push_cast; omega, by push_cast; rfl⟩, HLe.refl _⟩
                · have e2 := c2f (fun h => h.2.elim g5 g6)
                  simp (maxSteps := 1000000) (disch := omega) only [go_sem, Nat.reduceAdd, Nat.reduceMul, Nat.reduceSub, Nat.reduceEqDiff, Nat.reduceLeDiff]
                  exact ⟨k + 1, by omega, ⟨by push_cast; omega, by push_cast; rfl⟩, HLe.refl _⟩
            · have e2 := c2f (fun h => g4 (by omega))
              exact ⟨k + 1, by omega, ⟨by push_cast; omega, by push_cast; rfl⟩, HLe.refl _⟩
          · skip
            (first | with_reducible refine condK_dec (fun h6 => ?_) (fun h6 => ?_) | with_reducible refine condK_ndec (fun h6 => ?_) (fun h6 => ?_) | with_reducible refine condK_nb (fun h6 => ?_) (fun h6 => ?_) | refine condK_b (fun h6 => ?_) (fun h6 => ?_))
            · have e1 := c1t ⟨by omega, .inr h6⟩
              simp (maxSteps := 1000000) (disch := omega) only [go_sem, Nat.reduceAdd, Nat.reduceMul, Nat.reduceSub, Nat.reduceEqDiff, Nat.reduceLeDiff]
              refine drawP_q foll (by kernel_rfl) ?_
              simp (maxSteps := 1000000) (disch := omega) only [go_sem, Nat.reduceBEq, Bool.true_or, Nat.reduceAdd, Nat.reduceMul, Nat.reduceSub, Nat.reduceEqDiff, Nat.reduceLeDiff]
              simp (maxSteps := 1000000) (disch := omega) only [go_sem, Nat.reduceAdd, Nat.reduceMul, Nat.reduceSub, Nat.reduceEqDiff, Nat.reduceLeDiff, ht2]
              (first | with_reducible refine guardK_dec (fun g4 => ?_) (fun g4 => ?_) <;> simp (maxSteps := 1000000) (disch := omega) only [go_sem, Nat.reduceAdd, Nat.reduceMul, Nat.reduceSub, Nat.reduceEqDiff, Nat.reduceLeDiff, g4] | with_reducible refine guardK_ndec (fun g4 => ?_) (fun g4 => ?_) <;> simp (maxSteps := 1000000) (disch := omega) only [go_sem, Nat.reduceAdd, Nat.reduceMul, Nat.reduceSub, Nat.reduceEqDiff, Nat.reduceLeDiff, g4] | with_reducible refine guardK_nb (fun g4 => ?_) (fun g4 => ?_) <;> simp (maxSteps := 1000000) (disch := omega) only [go_sem, Nat.reduceAdd, Nat.reduceMul, Nat.reduceSub, Nat.reduceEqDiff, Nat.reduceLeDiff, g4] | with_reducible refine guardK_split (fun g4 => ?_) (fun g4 => ?_) <;> simp (maxSteps := 1000000) (disch := omega) only [go_sem, Nat.reduceAdd, Nat.reduceMul, Nat.reduceSub, Nat.reduceEqDiff, Nat.reduceLeDiff, g4] | with_reducible refine guardQ_dec (fun g4 => ?_) (fun g4 => ?_) <;> simp (maxSteps := 1000000) (disch := omega) only [go_sem, Nat.reduceAdd, Nat.reduceMul, Nat.reduceSub, Nat.reduceEqDiff, Nat.reduceLeDiff, g4] | with_reducible refine guardL_dec (fun g4 => ?_) (fun g4 => ?_) <;> simp (maxSteps := 1000000) (disch := omega) only [go_sem, Nat.reduceAdd, Nat.reduceMul, Nat.reduceSub, Nat.reduceEqDiff, Nat.reduceLeDiff, g4] | with_reducible refine guardQ_ndec (fun g4 => ?_) (fun g4 => ?_) <;> simp (maxSteps := 1000000) (disch := omega) only [go_sem, Nat.reduceAdd, Nat.reduceMul, Nat.reduceSub, Nat.reduceEqDiff, Nat.reduceLeDiff, g4] | with_reducible refine guardL_ndec (fun g4 => ?_) (fun g4 => ?_) <;> simp (maxSteps := 1000000) (disch := omega) only [go_sem, Nat.reduceAdd, Nat.reduceMul, Nat.reduceSub, Nat.reduceEqDiff, Nat.reduceLeDiff, g4] | with_reducible refine guardQ_nb (fun g4 => ?_) (fun g4 => ?_) <;> simp (maxSteps := 1000000) (disch := omega) only [go_sem, Nat.reduceAdd, Nat.reduceMul, Nat.reduceSub, Nat.reduceEqDiff, Nat.reduceLeDiff, g4] | with_reducible refine guardL_nb (fun g4 => ?_) (fun g4 => ?_) <;> simp (maxSteps := 1000000) (disch := omega) only [go_sem, Nat.reduceAdd, Nat.reduceMul, Nat.reduceSub, Nat.reduceEqDiff, Nat.reduceLeDiff, g4] | with_reducible refine guardQ_split (fun g4 => ?_) (fun g4 => ?_) <;> simp (maxSteps := 1000000) (disch := omega) only [go_sem, Nat.reduceAdd, Nat.reduceMul, Nat.reduceSub, Nat.reduceEqDiff, Nat.reduceLeDiff, g4] | with_reducible refine guardL_split (fun g4 => ?_) (fun g4 => ?_) <;> simp (maxSteps := 1000000) (disch := omega) only [go_sem, Nat.reduceAdd, Nat.reduceMul, Nat.reduceSub, Nat.reduceEqDiff, Nat.reduceLeDiff, g4])
              · have hk2 := hk2 (by omega)
                have hv2 := hf.1.val (k + n) (by omega)
                push_cast at hv2
                simp (maxSteps := 1000000) (disch := omega) only [go_sem, Nat.reduceAdd, Nat.reduceMul, Nat.reduceSub, Nat.reduceEqDiff, Nat.reduceLeDiff]
                (first | with_reducible refine guardK_dec (fun g5 => ?_) (fun g5 => ?_) <;> simp (maxSteps := 1000000) (disch := omega) only [go_sem, Nat.reduceAdd, Nat.reduceMul, Nat.reduceSub, Nat.reduceEqDiff, Nat.reduceLeDiff, g5] | with_reducible refine guardK_ndec (fun g5 => ?_) (fun g5 => ?_) <;> simp (maxSteps := 1000000) (disch := omega) only [go_sem, Nat.reduceAdd, Nat.reduceMul, Nat.reduceSub, Nat.reduceEqDiff, Nat.reduceLeDiff, g5] | with_reducible refine guardK_nb (fun g5 => ?_) (fun g5 => ?_) <;> simp (maxSteps := 1000000) (disch := omega) only [go_sem, Nat.reduceAdd, Nat.reduceMul, Nat.reduceSub, Nat.reduceEqDiff, Nat.reduceLeDiff, g5] | with_reducible refine guardK_split (fun g5 => ?_) (fun g5 => ?_) <;> simp (maxSteps := 1000000) (disch := omega) only [go_sem, Nat.reduceAdd, Nat.reduceMul, Nat.reduceSub, Nat.reduceEqDiff, Nat.reduceLeDiff, g5] | with_reducible refine guardQ_dec (fun g5 => ?_) (fun g5 => ?_) <;> simp (maxSteps := 1000000) (disch := omega) only [go_sem, Nat.reduceAdd, Nat.reduceMul, Nat.reduceSub, Nat.reduceEqDiff, Nat.reduceLeDiff, g5] | with_reducible refine guardL_dec (fun g5 => ?_) (fun g5 => ?_) <;> simp (maxSteps := 1000000) (disch := omega) only [go_sem, Nat.reduceAdd, Nat.reduceMul, Nat.reduceSub, Nat.reduceEqDiff, Nat.reduceLeDiff, g5] | with_reducible refine guardQ_ndec (fun g5 => ?_) (fun g5 => ?_) <;> simp (maxSteps := 1000000) (disch := omega) only [go_sem, Nat.reduceAdd, Nat.reduceMul, Nat.reduceSub, Nat.reduceEqDiff, Nat.reduceLeDiff, g5] | with_reducible refine guardL_ndec (fun g5 => ?_) (fun g5 => ?_) <;> simp (maxSteps := 1000000) (disch := omega) only [go_sem, Nat.reduceAdd, Nat.reduceMul, Nat.reduceSub, Nat.reduceEqDiff, Nat.reduceLeDiff, g5] | with_reducible refine guardQ_nb (fun g5 => ?_) (fun g5 => ?_) <;> simp (maxSteps := 1000000) (disch := omega) only [go_sem, Nat.reduceAdd, Nat.reduceMul, Nat.reduceSub, Nat.reduceEqDiff, Nat.reduceLeDiff, g5] | with_reducible refine guardL_nb (fun g5 => ?_) (fun g5 => ?_) <;> simp (maxSteps := 1000000) (disch := omega) only [go_sem, Nat.reduceAdd, Nat.reduceMul, Nat.reduceSub, Nat.reduceEqDiff, Nat.reduceLeDiff, g5] | with_reducible refine guardQ_split (fun g5 => ?_) (fun g5 => ?_) <;> simp (maxSteps := 1000000) (disch := omega) only [go_sem, Nat.reduceAdd, Nat.reduceMul, Nat.reduceSub, Nat.reduceEqDiff, Nat.reduceLeDiff, g5] | with_reducible refine guardL_split (fun g5 => ?_) (fun g5 => ?_) <;> simp (maxSteps := 1000000) (disch := omega) only [go_sem, Nat.reduceAdd, Nat.reduceMul, Nat.reduceSub, Nat.reduceEqDiff, Nat.reduceLeDiff, g5])
                · have e2 := c2t ⟨by omega, .inl g5⟩
                  exact ⟨k + 1, by omega, ⟨by push_cast; omega, by push_cast; rfl⟩, HLe.refl _⟩
                · skip
                  (first | with_reducible refine condK_dec (fun g6 => ?_) (fun g6 => ?_) | with_reducible refine condK_ndec (fun g6 => ?_) (fun g6 => ?_) | with_reducible refine condK_nb (fun g6 => ?_) (fun g6 => ?_) | refine condK_b (fun g6 => ?_) (fun g6 => ?_))
                  · have e2 := c2t ⟨by omega, .inr g6⟩
                    simp (maxSteps := 1000000) (disch := omega) only [go_sem, Nat.reduceAdd, Nat.reduceMul, Nat.reduceSub, Nat.reduceEqDiff, Nat.reduceLeDiff]
                    exact ⟨k + 1, by omega, ⟨by push_cast; omega, by push_cast; rfl⟩, HLe.refl _⟩
                  · have e2 := c2f (fun h => h.2.elim g5 g6)
                    simp (maxSteps := 1000000) (disch := omega) only [go_sem, Nat.reduceAdd, Nat.reduceMul, Nat.reduceSub, Nat.reduceEqDiff, Nat.reduceLeDiff]
                    exact ⟨k + 1, by omega, ⟨by push_cast; omega, by push_cast; rfl⟩, HLe.refl _⟩
              · have e2 := c2f (fun h => g4 (by omega))
                exact ⟨k + 1, by omega, ⟨by push_cast; omega, by push_cast; rfl⟩, HLe.refl _⟩
            · have e1 := c1f (fun h => h.2.elim h5 h6)
              simp (maxSteps := 1000000) (disch := omega) only [go_sem, Nat.reduceAdd, Nat.reduceMul, Nat.reduceSub, Nat.reduceEqDiff, Nat.reduceLeDiff]
              refine drawP_q foll (by kernel_rfl) ?_
              simp (maxSteps := 1000000) (disch := omega) only [go_sem, Nat.reduceBEq, Bool.true_or, Nat.reduceAdd, Nat.reduceMul, Nat.reduceSub, Nat.reduceEqDiff, Nat.reduceLeDiff]
              simp (maxSteps := 1000000) (disch := omega) only [go_sem, Nat.reduceAdd, Nat.reduceMul, Nat.reduceSub, Nat.reduceEqDiff, Nat.reduceLeDiff, ht2]
              (first | with_reducible refine guardK_dec (fun g4 => ?_) (fun g4 => ?_) <;> simp (maxSteps := 1000000) (disch := omega) only [go_sem, Nat.reduceAdd, Nat.reduceMul, Nat.reduceSub, Nat.reduceEqDiff, Nat.reduceLeDiff, g4] | with_reducible refine guardK_ndec (fun g4 => ?_) (fun g4 => ?_) <;> simp (maxSteps := 1000000) (disch := omega) only [go_sem, Nat.reduceAdd, Nat.reduceMul, Nat.reduceSub, Nat.reduceEqDiff, Nat.reduceLeDiff, g4] | with_reducible refine guardK_nb (fun g4 => ?_) (fun g4 => ?_) <;> simp (maxSteps := 1000000) (disch := omega) only [go_sem, Nat.reduceAdd, Nat.reduceMul, Nat.reduceSub, Nat.reduceEqDiff, Nat.reduceLeDiff, g4] | with_reducible refine guardK_split (fun g4 => ?_) (fun g4 => ?_) <;> simp (maxSteps := 1000000) (disch := omega) only [go_sem, Nat.reduceAdd, Nat.reduceMul, Nat.reduceSub, Nat.reduceEqDiff, Nat.reduceLeDiff, g4] | with_reducible refine guardQ_dec (fun g4 => ?_) (fun g4 => ?_) <;> simp (maxSteps := 1000000) (disch := omega) only [go_sem, Nat.reduceAdd, Nat.reduceMul, Nat.reduceSub, Nat.reduceEqDiff, Nat.reduceLeDiff, g4] | with_reducible refine guardL_dec (fun g4 => ?_) (fun g4 => ?_) <;> simp (maxSteps := 1000000) (disch := omega) only [go_sem, Nat.reduceAdd, Nat.reduceMul, Nat.reduceSub, Nat.reduceEqDiff, Nat.reduceLeDiff, g4] | with_reducible refine guardQ_ndec (fun g4 => ?_) (fun g4 => ?_) <;> simp (maxSteps := 1000000) (disch := omega) only [go_sem, Nat.reduceAdd, Nat.reduceMul, Nat.reduceSub, Nat.reduceEqDiff, Nat.reduceLeDiff, g4] | with_reducible refine guardL_ndec (fun g4 => ?_) (fun g4 => ?_) <;> simp (maxSteps := 1000000) (disch := omega) only [go_sem, Nat.reduceAdd, Nat.reduceMul, Nat.reduceSub, Nat.reduceEqDiff, Nat.reduceLeDiff, g4] | with_reducible refine guardQ_nb (fun g4 => ?_) (fun g4 => ?_) <;> simp (maxSteps := 1000000) (disch := omega) only [go_sem, Nat.reduceAdd, Nat.reduceMul, Nat.reduceSub, Nat.reduceEqDiff, Nat.reduceLeDiff, g4] | with_reducible refine guardL_nb (fun g4 => ?_) (fun g4 => ?_) <;> simp (maxSteps := 1000000) (disch := omega) only [go_sem, Nat.reduceAdd, Nat.reduceMul, Nat.reduceSub, Nat.reduceEqDiff, Nat.reduceLeDiff, g4] | with_reducible refine guardQ_split (fun g4 => ?_) (fun g4 => ?_) <;> simp (maxSteps := 1000000) (disch := omega) only [go_sem, Nat.reduceAdd, Nat.reduceMul, Nat.reduceSub, Nat.reduceEqDiff, Nat.reduceLeDiff, g4] | with_reducible refine guardL_split (fun g4 => ?_) (fun g4 => ?_) <;> simp (maxSteps := 1000000) (disch := omega) only [go_sem, Nat.reduceAdd, Nat.reduceMul, Nat.reduceSub, Nat.reduceEqDiff, Nat.reduceLeDiff, g4])
              · have hk2 := hk2 (by omega)
                have hv2 := hf.1.val (k + n) (by omega)
                push_cast at hv2
                simp (maxSteps := 1000000) (disch := omega) only [go_sem, Nat.reduceAdd, Nat.reduceMul, Nat.reduceSub, Nat.reduceEqDiff, Nat.reduceLeDiff]
                (first | with_reducible refine guardK_dec (fun g5 => ?_) (fun g5 => ?_) <;> simp (maxSteps := 1000000) (disch := omega) only [go_sem, Nat.reduceAdd, Nat.reduceMul, Nat.reduceSub, Nat.reduceEqDiff, Nat.reduceLeDiff, g5] | with_reducible refine guardK_ndec (fun g5 => ?_) (fun g5 => ?_) <;> simp (maxSteps := 1000000) (disch := omega) only [go_sem, Nat.reduceAdd, Nat.reduceMul, Nat.reduceSub, Nat.reduceEqDiff, Nat.reduceLeDiff, g5] | with_reducible refine guardK_nb (fun g5 => ?_) (fun g5 => ?_) <;> simp (maxSteps := 1000000) (disch := omega) only [go_sem, Nat.reduceAdd, Nat.reduceMul, Nat.reduceSub, Nat.reduceEqDiff, Nat.reduceLeDiff, g5] | with_reducible refine guardK_split (fun g5 => ?_) (fun g5 => ?_) <;> simp (maxSteps := 1000000) (disch := omega) only [go_sem, Nat.reduceAdd, Nat.reduceMul, Nat.reduceSub, Nat.reduceEqDiff, Nat.reduceLeDiff, g5] | with_reducible refine guardQ_dec (fun g5 => ?_) (fun g5 => ?_) <;> simp (maxSteps := 1000000) (disch := omega) only [go_sem, Nat.reduceAdd, Nat.reduceMul, Nat.reduceSub, Nat.reduceEqDiff, Nat.reduceLeDiff, g5] | with_reducible refine guardL_dec (fun g5 => ?_) (fun g5 => ?_) <;> simp (maxSteps := 1000000) (disch := omega) only [go_sem, Nat.reduceAdd, Nat.reduceMul, Nat.reduceSub, Nat.reduceEqDiff, Nat.reduceLeDiff, g5] | with_reducible refine guardQ_ndec (fun g5 => ?_) (fun g5 => ?_) <;> simp (maxSteps := 1000000) (disch := omega) only [go_sem, Nat.reduceAdd, Nat.reduceMul, Nat.reduceSub, Nat.reduceEqDiff, Nat.reduceLeDiff, g5] | with_reducible refine guardL_ndec (fun g5 => ?_) (fun g5 => ?_) <;> simp (maxSteps := 1000000) (disch := omega) only [go_sem, Nat.reduceAdd, Nat.reduceMul, Nat.reduceSub, Nat.reduceEqDiff, Nat.reduceLeDiff, g5] | with_reducible refine guardQ_nb (fun g5 => ?_) (fun g5 => ?_) <;> simp (maxSteps := 1000000) (disch := omega) only [go_sem, Nat.reduceAdd, Nat.reduceMul, Nat.reduceSub, Nat.reduceEqDiff, Nat.reduceLeDiff, g5] | with_reducible refine guardL_nb (fun g5 => ?_) (fun g5 => ?_) <;> simp (maxSteps := 1000000) (disch := omega) only [go_sem, Nat.reduceAdd, Nat.reduceMul, Nat.reduceSub, Nat.reduceEqDiff, Nat.reduceLeDiff, g5] | with_reducible refine guardQ_split (fun g5 => ?_) (fun g5 => ?_) <;> simp (maxSteps := 1000000) (disch := omega) only [go_sem, Nat.reduceAdd, Nat.reduceMul, Nat.reduceSub, Nat.reduceEqDiff, Nat.reduceLeDiff, g5] | with_reducible refine guardL_split (fun g5 => ?_) (fun g5 => ?_) <;> simp (maxSteps := 1000000) (disch := omega) only [go_sem, Nat.reduceAdd, Nat.reduceMul, Nat.reduceSub, Nat.reduceEqDiff, Nat.reduceLeDiff, g5])
                · have e2 := c2t ⟨by omega, .inl g5⟩
                  exact ⟨k + 1, by omega, ⟨by push_cast; omega, by push_cast; rfl⟩, HLe.refl _⟩
                · skip
                  (first | with_reducible refine condK_dec (fun g6 => ?_) (fun g6 => ?_) | with_reducible refine condK_ndec (fun g6 => ?_) (fun g6 => ?_) | with_reducible refine condK_nb (fun g6 => ?_) (fun g6 => ?_) | refine condK_b (fun g6 => ?_) (fun g6 => ?_))
                  · have e2 := c2t ⟨by omega, .inr g6⟩
                    simp (maxSteps := 1000000) (disch := omega) only [go_sem, Nat.reduceAdd, Nat.reduceMul, Nat.reduceSub, Nat.reduceEqDiff, Nat.reduceLeDiff]
                    exact ⟨k + 1, by omega, ⟨by push_cast; omega, by push_cast; rfl⟩, HLe.refl _⟩
                  · have e2 := c2f (fun h => h.2.elim g5 g6)
                    simp (maxSteps := 1000000) (disch := omega) only [go_sem, Nat.reduceAdd, Nat.reduceMul, Nat.reduceSub, Nat.reduceEqDiff, Nat.reduceLeDiff]
                    exact ⟨k + 1, by omega, ⟨by push_cast; omega, by push_cast; rfl⟩, HLe.refl _⟩
              · have e2 := c2f (fun h => g4 (by omega))
                exact ⟨k + 1, by omega, ⟨by push_cast; omega, by push_cast; rfl⟩, HLe.refl _⟩
        · have e1 := c1f (fun h => h4 (by omega))
          refine drawP_q foll (by kernel_rfl) ?_
          simp (maxSteps := 1000000) (disch := omega) only [go_sem, Nat.reduceBEq, Bool.true_or, Nat.reduceAdd, Nat.reduceMul, Nat.reduceSub, Nat.reduceEqDiff, Nat.reduceLeDiff]
          simp (maxSteps := 1000000) (disch := omega) only [go_sem, Nat.reduceAdd, Nat.reduceMul, Nat.reduceSub, Nat.reduceEqDiff, Nat.reduceLeDiff, ht2]
          (first | with_reducible refine guardK_dec (fun g4 => ?_) (fun g4 => ?_) <;> simp (maxSteps := 1000000) (disch := omega) only [go_sem, Nat.reduceAdd, Nat.reduceMul, Nat.reduceSub, Nat.reduceEqDiff, Nat.reduceLeDiff, g4] | with_reducible refine guardK_ndec (fun g4 => ?_) (fun g4 => ?_) <;> simp (maxSteps := 1000000) (disch := omega) only [go_sem, Nat.reduceAdd, Nat.reduceMul, Nat.reduceSub, Nat.reduceEqDiff, Nat.reduceLeDiff, g4] | with_reducible refine guardK_nb (fun g4 => ?_) (fun g4 => ?_) <;> simp (maxSteps := 1000000) (disch := omega) only [go_sem, Nat.reduceAdd, Nat.reduceMul, Nat.reduceSub, Nat.reduceEqDiff, Nat.reduceLeDiff, g4] | with_reducible refine guardK_split (fun g4 => ?_) (fun g4 => ?_) <;> simp (maxSteps := 1000000) (disch := omega) only [go_sem, Nat.reduceAdd, Nat.reduceMul, Nat.reduceSub, Nat.reduceEqDiff, Nat.reduceLeDiff, g4] | with_reducible refine guardQ_dec (fun g4 => ?_) (fun g4 => ?_) <;> simp (maxSteps := 1000000) (disch := omega) only [go_sem, Nat.reduceAdd, Nat.reduceMul, Nat.reduceSub, Nat.reduceEqDiff, Nat.reduceLeDiff, g4] | with_reducible refine guardL_dec (fun g4 => ?_) (fun g4 => ?_) <;> simp (maxSteps := 1000000) (disch := omega) only [go_sem, Nat.reduceAdd, Nat.reduceMul, Nat.reduceSub, Nat.reduceEqDiff, Nat.reduceLeDiff, g4] | with_reducible refine guardQ_ndec (fun g4 => ?_) (fun g4 => ?_) <;> simp (maxSteps := 1000000) (disch := omega) only [go_sem, Nat.reduceAdd, Nat.reduceMul, Nat.reduceSub, Nat.reduceEqDiff, Nat.reduceLeDiff, g4] | with_reducible refine guardL_ndec (fun g4 => ?_) (fun g4 => ?_) <;> simp (maxSteps := 1000000) (disch := omega) only [go_sem, Nat.reduceAdd, Nat.reduceMul, Nat.reduceSub, Nat.reduceEqDiff, Nat.reduceLeDiff, g4] | with_reducible refine guardQ_nb (fun g4 => ?_) (fun g4 => ?_) <;> simp (maxSteps := 1000000) (disch := omega) only [go_sem, Nat.reduceAdd, Nat.reduceMul, Nat.reduceSub, Nat.reduceEqDiff, Nat.reduceLeDiff, g4] | with_reducible refine guardL_nb (fun g4 => ?_) (fun g4 => ?_) <;> simp (maxSteps := 1000000) (disch := omega) only [go_sem, Nat.reduceAdd, Nat.reduceMul, Nat.reduceSub, Nat.reduceEqDiff, Nat.reduceLeDiff, g4] | with_reducible refine guardQ_split (fun g4 => ?_) (fun g4 => ?_) <;> simp (maxSteps := 1000000) (disch := omega) only [go_sem, Nat.reduceAdd, Nat.reduceMul, Nat.reduceSub, Nat.reduceEqDiff, Nat.reduceLeDiff, g4] | with_reducible refine guardL_split (fun g4 => ?_) (fun g4 => ?_) <;> simp (maxSteps := 1000000) (disch := omega) only [go_sem, Nat.reduceAdd, Nat.reduceMul, Nat.reduceSub, Nat.reduceEqDiff, Nat.reduceLeDiff, g4])
          · have hk2 := hk2 (by omega)
            have hv2 := hf.1.val (k + n) (by omega)
            push_cast at hv2
            simp (maxSteps := 1000000) (disch := omega) only [go_sem, Nat.reduceAdd, Nat.reduceMul, Nat.reduceSub, Nat.reduceEqDiff, Nat.reduceLeDiff]
            (first | with_reducible refine guardK_dec (fun g5 => ?_) (fun g5 => ?_) <;> simp (maxSteps := 1000000) (disch := omega) only [go_sem, Nat.reduceAdd, Nat.reduceMul, Nat.reduceSub, Nat.reduceEqDiff, Nat.reduceLeDiff, g5] | with_reducible refine guardK_ndec (fun g5 => ?_) (fun g5 => ?_) <;> simp (maxSteps := 1000000) (disch := omega) only [go_sem, Nat.reduceAdd, Nat.reduceMul, Nat.reduceSub, Nat.reduceEqDiff, Nat.reduceLeDiff, g5] | with_reducible refine guardK_nb (fun g5 => ?_) (fun g5 => ?_) <;> simp (maxSteps := 1000000) (disch := omega) only [go_sem, Nat.reduceAdd, Nat.reduceMul, Nat.reduceSub, Nat.reduceEqDiff, Nat.reduceLeDiff, g5] | with_reducible refine guardK_split (fun g5 => ?_) (fun g5 => ?_) <;> simp (maxSteps := 1000000) (disch := omega) only [go_sem, Nat.reduceAdd, Nat.reduceMul, Nat.reduceSub, Nat.reduceEqDiff, Nat.reduceLeDiff, g5] | with_reducible refine guardQ_dec (fun g5 => ?_) (fun g5 => ?_) <;> simp (maxSteps := 1000000) (disch := omega) only [go_sem, Nat.reduceAdd, Nat.reduceMul, Nat.reduceSub, Nat.reduceEqDiff, Nat.reduceLeDiff, g5] | with_reducible refine guardL_dec (fun g5 => ?_) (fun g5 => ?_) <;> simp (maxSteps := 1000000) (disch := omega) only [go_sem, Nat.reduceAdd, Nat.reduceMul, Nat.reduceSub, Nat.reduceEqDiff, Nat.reduceLeDiff, g5] | with_reducible refine guardQ_ndec (fun g5 => ?_) (fun g5 => ?_) <;> simp (maxSteps := 1000000) (disch := omega) only [go_sem, Nat.reduceAdd, Nat.reduceMul, Nat.reduceSub, Nat.reduceEqDiff, Nat.reduceLeDiff, g5] | with_reducible refine guardL_ndec (fun g5 => ?_) (fun g5 => ?_) <;> simp (maxSteps := 1000000) (disch := omega) only [go_sem, Nat.reduceAdd, Nat.reduceMul, Nat.reduceSub, Nat.reduceEqDiff, Nat.reduceLeDiff, g5] | with_reducible refine guardQ_nb (fun g5 => ?_) (fun g5 => ?_) <;> simp (maxSteps := 1000000) (disch := omega) only [go_sem, Nat.reduceAdd, Nat.reduceMul, Nat.reduceSub, Nat.reduceEqDiff, Nat.reduceLeDiff, g5] | with_reducible refine guardL_nb (fun g5 => ?_) (fun g5 => ?_) <;> simp (maxSteps := 1000000) (disch := omega) only [go_sem, Nat.reduceAdd, Nat.reduceMul, Nat.reduceSub, Nat.reduceEqDiff, Nat.reduceLeDiff, g5] | with_reducible refine guardQ_split (fun g5 => ?_) (fun g5 => ?_) <;> simp (maxSteps := 1000000) (disch := omega) only [go_sem, Nat.reduceAdd, Nat.reduceMul, Nat.reduceSub, Nat.reduceEqDiff, Nat.reduceLeDiff, g5] | with_reducible refine guardL_split (fun g5 => ?_) (fun g5 => ?_) <;> simp (maxSteps := 1000000) (disch := omega) only [go_sem, Nat.reduceAdd, Nat.reduceMul, Nat.reduceSub, Nat.reduceEqDiff, Nat.reduceLeDiff, g5])
            · have e2 := c2t ⟨by omega, .inl g5⟩
              exact ⟨k + 1, by omega, ⟨by push_cast; omega, by push_cast; rfl⟩, HLe.refl _⟩
            · skip
              (first | with_reducible refine condK_dec (fun g6 => ?_) (fun g6 => ?_) | with_reducible refine condK_ndec (fun g6 => ?_) (fun g6 => ?_) | with_reducible refine condK_nb (fun g6 => ?_) (fun g6 => ?_) | refine condK_b (fun g6 => ?_) (fun g6 => ?_))
              · have e2 := c2t ⟨by omega, .inr g6⟩
                simp (maxSteps := 1000000) (disch := omega) only [go_sem, Nat.reduceAdd, Nat.reduceMul, Nat.reduceSub, Nat.reduceEqDiff, Nat.reduceLeDiff]
                exact ⟨k + 1, by omega, ⟨by push_cast; omega, by push_cast; rfl⟩, HLe.refl _⟩
              · have e2 := c2f (fun h => h.2.elim g5 g6)
                simp (maxSteps := 1000000) (disch := omega) only [go_sem, Nat.reduceAdd, Nat.reduceMul, Nat.reduceSub, Nat.reduceEqDiff, Nat.reduceLeDiff]
                exact ⟨k + 1, by omega, ⟨by push_cast; omega, by push_cast; rfl⟩, HLe.refl _⟩
          · have e2 := c2f (fun h => g4 (by omega))
            exact ⟨k + 1, by omega, ⟨by push_cast; omega, by push_cast; rfl⟩, HLe.refl _⟩
      · have hke : k = n * n := by omega
        subst hke
        rw [show pairsT n (n * n) = pairsL n from rfl] at hal ⊢
        simp (maxSteps := 1000000) (disch := omega) only [go_sem, Nat.reduceAdd, Nat.reduceMul, Nat.reduceSub, Nat.reduceEqDiff, Nat.reduceLeDiff]
        first | refine OpS.rd (hold_run W xs n ⟨by omega, fun r hr => by have := (hs2 r hr).2; omega⟩ (by omega)) (⟨_, Try.func21, rfl, rfl⟩ : Enters Try.prog 21) rfl rfl rfl rfl ?_ | refine Loud.rd (hold_run W xs n ⟨by omega, fun r hr => by have := (hs2 r hr).2; omega⟩ (by omega)) (⟨_, Try.func21, rfl, rfl⟩ : Enters Try.prog 21) rfl rfl rfl rfl ?_
        simp (maxSteps := 1000000) (disch := omega) only [go_sem, Nat.reduceAdd, Nat.reduceMul, Nat.reduceSub, Nat.reduceEqDiff, Nat.reduceLeDiff]
        rw [hh]
        have d3 : decide ((W.length : Int) = min ((apartF xs b (pairsL n)).length : Int) 20) = true := decide_eq_true (by omega)
        simp (maxSteps := 1000000) (disch := omega) only [go_sem, Nat.reduceAdd, Nat.reduceMul, Nat.reduceSub, Nat.reduceEqDiff, Nat.reduceLeDiff, d3]
    · have e := hno hg
      subst e
      have d0 : decide (((0 : Nat) : Int) = 0) = true := rfl
      cases hs : solvedS xs z with
      | false =>
        simp (maxSteps := 1000000) (disch := omega) only [go_sem, Nat.reduceAdd, Nat.reduceMul, Nat.reduceSub, Nat.reduceEqDiff, Nat.reduceLeDiff, d0]
        first | refine OpS.rd (aliveF_run) (⟨_, Try.func20, rfl, rfl⟩ : Enters Try.prog 20) rfl rfl rfl rfl ?_ | refine Loud.rd (aliveF_run) (⟨_, Try.func20, rfl, rfl⟩ : Enters Try.prog 20) rfl rfl rfl rfl ?_
        simp (maxSteps := 1000000) (disch := omega) only [go_sem, Nat.reduceAdd, Nat.reduceMul, Nat.reduceSub, Nat.reduceEqDiff, Nat.reduceLeDiff]
      | true =>
        simp (maxSteps := 1000000) (disch := omega) only [go_sem, Nat.reduceAdd, Nat.reduceMul, Nat.reduceSub, Nat.reduceEqDiff, Nat.reduceLeDiff]
        (first | with_reducible refine guardK_dec (fun h3 => ?_) (fun h3 => ?_) <;> simp (maxSteps := 1000000) (disch := omega) only [go_sem, Nat.reduceAdd, Nat.reduceMul, Nat.reduceSub, Nat.reduceEqDiff, Nat.reduceLeDiff, h3] | with_reducible refine guardK_ndec (fun h3 => ?_) (fun h3 => ?_) <;> simp (maxSteps := 1000000) (disch := omega) only [go_sem, Nat.reduceAdd, Nat.reduceMul, Nat.reduceSub, Nat.reduceEqDiff, Nat.reduceLeDiff, h3] | with_reducible refine guardK_nb (fun h3 => ?_) (fun h3 => ?_) <;> simp (maxSteps := 1000000) (disch := omega) only [go_sem, Nat.reduceAdd, Nat.reduceMul, Nat.reduceSub, Nat.reduceEqDiff, Nat.reduceLeDiff, h3] | with_reducible refine guardK_split (fun h3 => ?_) (fun h3 => ?_) <;> simp (maxSteps := 1000000) (disch := omega) only [go_sem, Nat.reduceAdd, Nat.reduceMul, Nat.reduceSub, Nat.reduceEqDiff, Nat.reduceLeDiff, h3] | with_reducible refine guardQ_dec (fun h3 => ?_) (fun h3 => ?_) <;> simp (maxSteps := 1000000) (disch := omega) only [go_sem, Nat.reduceAdd, Nat.reduceMul, Nat.reduceSub, Nat.reduceEqDiff, Nat.reduceLeDiff, h3] | with_reducible refine guardL_dec (fun h3 => ?_) (fun h3 => ?_) <;> simp (maxSteps := 1000000) (disch := omega) only [go_sem, Nat.reduceAdd, Nat.reduceMul, Nat.reduceSub, Nat.reduceEqDiff, Nat.reduceLeDiff, h3] | with_reducible refine guardQ_ndec (fun h3 => ?_) (fun h3 => ?_) <;> simp (maxSteps := 1000000) (disch := omega) only [go_sem, Nat.reduceAdd, Nat.reduceMul, Nat.reduceSub, Nat.reduceEqDiff, Nat.reduceLeDiff, h3] | with_reducible refine guardL_ndec (fun h3 => ?_) (fun h3 => ?_) <;> simp (maxSteps := 1000000) (disch := omega) only [go_sem, Nat.reduceAdd, Nat.reduceMul, Nat.reduceSub, Nat.reduceEqDiff, Nat.reduceLeDiff, h3] | with_reducible refine guardQ_nb (fun h3 => ?_) (fun h3 => ?_) <;> simp (maxSteps := 1000000) (disch := omega) only [go_sem, Nat.reduceAdd, Nat.reduceMul, Nat.reduceSub, Nat.reduceEqDiff, Nat.reduceLeDiff, h3] | with_reducible refine guardL_nb (fun h3 => ?_) (fun h3 => ?_) <;> simp (maxSteps := 1000000) (disch := omega) only [go_sem, Nat.reduceAdd, Nat.reduceMul, Nat.reduceSub, Nat.reduceEqDiff, Nat.reduceLeDiff, h3] | with_reducible refine guardQ_split (fun h3 => ?_) (fun h3 => ?_) <;> simp (maxSteps := 1000000) (disch := omega) only [go_sem, Nat.reduceAdd, Nat.reduceMul, Nat.reduceSub, Nat.reduceEqDiff, Nat.reduceLeDiff, h3] | with_reducible refine guardL_split (fun h3 => ?_) (fun h3 => ?_) <;> simp (maxSteps := 1000000) (disch := omega) only [go_sem, Nat.reduceAdd, Nat.reduceMul, Nat.reduceSub, Nat.reduceEqDiff, Nat.reduceLeDiff, h3])
        · simp (maxSteps := 1000000) (disch := omega) only [go_sem, Nat.reduceAdd, Nat.reduceMul, Nat.reduceSub, Nat.reduceEqDiff, Nat.reduceLeDiff, d0]
          first | refine OpS.rd (aliveF_run) (⟨_, Try.func20, rfl, rfl⟩ : Enters Try.prog 20) rfl rfl rfl rfl ?_ | refine Loud.rd (aliveF_run) (⟨_, Try.func20, rfl, rfl⟩ : Enters Try.prog 20) rfl rfl rfl rfl ?_
          simp (maxSteps := 1000000) (disch := omega) only [go_sem, Nat.reduceAdd, Nat.reduceMul, Nat.reduceSub, Nat.reduceEqDiff, Nat.reduceLeDiff]
        · have h4 : z ≤ b := by
            by_cases hq : b < z
            · exact absurd ⟨hs, by omega, hq⟩ hg
            · omega
          have d2 : decide (z ≤ b) = true := decide_eq_true h4
          simp (maxSteps := 1000000) (disch := omega) only [go_sem, Nat.reduceAdd, Nat.reduceMul, Nat.reduceSub, Nat.reduceEqDiff, Nat.reduceLeDiff, d2, d0]
          first | refine OpS.rd (aliveF_run) (⟨_, Try.func20, rfl, rfl⟩ : Enters Try.prog 20) rfl rfl rfl rfl ?_ | refine Loud.rd (aliveF_run) (⟨_, Try.func20, rfl, rfl⟩ : Enters Try.prog 20) rfl rfl rfl rfl ?_
          simp (maxSteps := 1000000) (disch := omega) only [go_sem, Nat.reduceAdd, Nat.reduceMul, Nat.reduceSub, Nat.reduceEqDiff, Nat.reduceLeDiff]
end Go.Lg
