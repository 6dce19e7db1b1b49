/- Grids drawn out of codes. -/
import Derived.Test.YtlpehaekjclgcaaGpCD
set_option linter.unusedSimpArgs false
set_option linter.unusedVariables false
set_option maxRecDepth 100000
namespace Go.Lg
open Go.Proofs

section
variable {P : Program} {o : Oper} {st : St} {K : KV} {fo : Operand} {xs : Array Operand} {ts : Array TypeId} {f : FuncId} {args args' : List AV} {zs : List Int}
theorem OpS.mkL {k : Nat} (hc : RunCall P f args [] (lenQ k)) (he : Enters P f) (ho : o.op = .call ⟨.value fo, xs, ts⟩) (ha : callArgs st fo xs = some (f, args)) (hf : args.all frozenA = true)
    (hk : ∀ (xs : List Int) id g H', look (st.h ++ H') id g = some ⟨g, 1, cl (eI .i64) xs⟩ → xs.length = k → st.h.length ≤ id → K (.c (.own id g 0 k none)) (st.h ++ H')) : OpS P o st K :=
  OpS.mkQ hc he ho ha hf fun r H' ⟨xs, id, g, h1, h2, h3⟩ => by
    subst h1
    refine ⟨rfl, hk xs (id + st.h.length) g _ ?_ h3 (by omega)⟩
    rw [look_shiftH h2]
    simp only [shiftB, shift_cl]
/-- A call whose result is only read; something is known of it. -/
theorem OpS.mkF {Q : AV → Prop} (hc : RunCall P f args [] fun v _ => Q v) (he : Enters P f) (ho : o.op = .call ⟨.value fo, xs, ts⟩) (ha : callArgs st fo xs = some (f, args)) (hf : args.all frozenA = true)
    (hk : ∀ v, Q v → tupOk v = true ∧ shiftA st.h.length v = v ∧ K v st.h) : OpS P o st K := by
  obtain ⟨h1, h2⟩ := target_of ha
  refine OpS.call ho h1 he ?_
  rw [h2]
  refine (RunCall.frame hf hc fun r H' h => (hk r h).1).weaker ?_
  rintro r H2 ⟨r', H', h3, rfl, rfl⟩
  exact ⟨st.h, HLe.app _ _, by rw [(hk _ h3).2.1]; exact (hk _ h3).2.2⟩
end
/-- A grid of the call's own stands there, and the reader. -/
def GrdAt (H HI : Heap) (id g : Nat) (B : Int) (cid cg n2 : Nat) : Prop := (∃ zs : List Int, look HI cid cg = some ⟨cg, 1, cl (eI .i64) zs⟩ ∧ n2 ≤ zs.length) ∧ RdAt HI id g B ∧ id < H.length ∧ H.length ≤ cid ∧ H.length ≤ HI.length ∧ ∀ k, k < H.length → k ≠ id → HI[k]? = H[k]?
theorem GrdAt.mono {H HI : Heap} {id g cid cg n2 : Nat} {B B' : Int} (h : GrdAt H HI id g B cid cg n2) (hb : B ≤ B') : GrdAt H HI id g B' cid cg n2 := by
  obtain ⟨h1, h2, h3⟩ := h
  exact ⟨h1, h2.mono hb, h3⟩
theorem GrdAt.pick {H HI H2 : Heap} {id g cid cg n2 : Nat} {B B' : Int} (h : GrdAt H HI id g B cid cg n2) (hr : RdAt H2 id g B') (hf : Frm HI H2 [id]) : GrdAt H H2 id g B' cid cg n2 := by
  obtain ⟨⟨zs, h1, h2⟩, _, h3, h4, h5, h6⟩ := h
  refine ⟨⟨zs, by rw [hf.look (by simp; omega)]; exact h1, h2⟩, hr, h3, h4, by rw [hf.1]; exact h5, fun k hk hne => ?_⟩
  rw [hf.2 k (by simp; exact hne), h6 k hk hne]
theorem GrdAt.store {H HI : Heap} {id g cid cg n2 : Nat} {B : Int} (h : GrdAt H HI id g B cid cg n2) {zs : List Int} (hz : n2 ≤ zs.length) : GrdAt H (HI.set cid (some ⟨cg, 1, cl (eI .i64) zs⟩)) id g B cid cg n2 := by
  obtain ⟨⟨_, h1, _⟩, h2, h3, h4, h5, h6⟩ := h
  have hlt : cid < HI.length := (List.getElem?_eq_some_iff.1 (look_some h1).1).1
  refine ⟨⟨zs, look_set_eq' hlt, hz⟩, h2.same (by rw [List.getElem?_set_ne (by omega)]), h3, h4, by simpa using h5, fun k hk hne => ?_⟩
  rw [List.getElem?_set_ne (by omega), h6 k hk hne]
theorem GrdAt.app {H HI X : Heap} {id g cid cg n2 : Nat} {B : Int} (h : GrdAt H HI id g B cid cg n2) : GrdAt H (HI ++ X) id g B cid cg n2 := by
  obtain ⟨⟨zs, h1, h2⟩, h3, h4, h5, h6, h7⟩ := h
  refine ⟨⟨zs, look_appL h1, h2⟩, h3.app, h4, h5, by rw [List.length_append]; omega, fun k hk hne => ?_⟩
  rw [List.getElem?_append_left (by omega), h7 k hk hne]
def solvedQ (n : Nat) (H : Heap) (id g : Nat) (B : Int) : KV := fun v H' => ∃ cid cg, v = .c (.own cid cg 0 (n * n) none) ∧ GrdAt H H' id g (B + 2) cid cg (n * n)
theorem l20Solved_run {n : Nat} (hn : n = 2 ∨ n = 3 ∨ n = 4) (H : Heap) (id g : Nat) (B : Int) (hr : RdAt H id g B) (hB : B ≤ 2 ^ 39) : RunCall Try.prog 65 [.c (.ptr id g 0), int n] H (solvedQ n H id g B) := by
  have hlt := hr.lt
  have hsq : 4 ≤ n * n ∧ n * n ≤ 16 := by rcases hn with rfl | rfl | rfl <;> omega
  refine RunCall.cw (c := _) Try.func65 rfl (n := 21) Try.ntmps65 (rs := [.tmp 4]) rfl ?_
  simp only [List.length_cons, List.length_nil, Nat.reduceAdd, Nat.reduceSub, List.replicate, List.cons_append, List.nil_append]
  simp (maxSteps := 1000000) (disch := omega) only [go_sem, Nat.reduceAdd, Nat.reduceMul, Nat.reduceSub, Nat.reduceEqDiff, Nat.reduceLeDiff]
  intro g1
  have hix : ldP (some ⟨g1, 1, [.f (.int .i64 2), .f (.int .i64 12), .f (.int .i64 576)]⟩) (0 + ((n : Int) - 2).toNat * 1) = some (int (manyS n)) := by
    rcases hn with rfl | rfl | rfl <;> rfl
  simp (maxSteps := 1000000) (disch := omega) only [go_sem, Nat.reduceAdd, Nat.reduceMul, Nat.reduceSub, Nat.reduceEqDiff, Nat.reduceLeDiff, look_last, hix]
  have hm := show manyS n = 2 ∨ manyS n = 12 ∨ manyS n = 576 by rcases hn with rfl | rfl | rfl <;> simp [manyS]
  refine OpS.run (pick_run _ id g B 256 hr.app (by omega)) (⟨_, Try.func66, rfl, rfl⟩ : Enters Try.prog 66) rfl rfl ?_
  rintro _ H2 ⟨⟨y1, rfl, y10, y11⟩, r2, f2⟩
  simp (maxSteps := 1000000) (disch := omega) only [go_sem, Nat.reduceAdd, Nat.reduceMul, Nat.reduceSub, Nat.reduceEqDiff, Nat.reduceLeDiff]
  refine OpS.run (pick_run _ id g (B + 1) 3 r2 (by omega)) (⟨_, Try.func66, rfl, rfl⟩ : Enters Try.prog 66) rfl rfl ?_
  rintro _ H3 ⟨⟨y2, rfl, y20, y21⟩, r3, f3⟩
  have y11 := y11 (by omega)
  have y21 := y21 (by omega)
  simp (maxSteps := 1000000) (disch := omega) only [go_sem, Nat.reduceAdd, Nat.reduceMul, Nat.reduceSub, Nat.reduceEqDiff, Nat.reduceLeDiff]
  obtain ⟨number, hnum, hnl⟩ : ∃ number : Nat, (y1 * 3 + y2).tmod (manyS n : Int) = number ∧ number < manyS n := by
    rw [tmod_nn (by omega)]
    have h1 := Int.emod_nonneg (y1 * 3 + y2) (show (manyS n : Int) ≠ 0 by omega)
    have h2 := Int.emod_lt_of_pos (y1 * 3 + y2) (show (0 : Int) < (manyS n : Int) by omega)
    exact ⟨((y1 * 3 + y2) % (manyS n : Int)).toNat, by omega, by omega⟩
  rw [hnum]
  refine OpS.mkL (SquareNumber_run hn number hnl) (⟨_, Try.func74, rfl, rfl⟩ : Enters Try.prog 74) rfl rfl rfl ?_
  intro xs cid cg H4 hlk hl4 hc
  have l3 : H3.length = H.length + 1 := by rw [f3.1, f2.1, List.length_append]; rfl
  simp (maxSteps := 1000000) (disch := omega) only [go_sem, Nat.reduceAdd, Nat.reduceMul, Nat.reduceSub, Nat.reduceEqDiff, Nat.reduceLeDiff]
  refine ⟨_, HLe.refl _, cid, cg, rfl, ⟨xs, hlk, by omega⟩, (r3.app (X := H4)).mono (by omega), hlt, by simp at hc; omega, by simp; omega, fun k hk hne => ?_⟩
  rw [List.getElem?_append_left (by omega), f3.2 k (by simp; exact hne), f2.2 k (by simp; exact hne), List.getElem?_append_left hk]
theorem frz_view {H : Heap} {id g off n : Nat} {lim : Option Nat} {zs : List Int} (h : look H id g = some ⟨g, 1, cl (eI .i64) zs⟩) (hn : off + n ≤ zs.length) : frzC H (.own id g off n lim) = some (.f (fints ((zs.drop off).take n))) := by
  have e : ((cl (eI .i64) zs).drop off).take (n * 1) = cl (eI .i64) ((zs.drop off).take n) := by
    have e1 : (cl (eI .i64) zs).drop off = cl (eI .i64) (zs.drop off) := by
      have := List.take_append_drop off zs
      conv => lhs; rw [← this, cl_append]
      rw [List.drop_append_of_le_length (by rw [cl_length]; simp; omega), List.drop_of_length_le (by rw [cl_length]; simp; omega), List.nil_append]
    rw [e1, Nat.mul_one]
    have := List.take_append_drop n (zs.drop off)
    conv => lhs; rw [← this, cl_append]
    rw [List.take_append_of_le_length (by rw [cl_length]; simp; omega), List.take_of_length_le (by rw [cl_length]; simp; omega)]
  have hl : ((zs.drop off).take n).length = n := by simp; omega
  simp only [frzC, frz, h, e, frz_cl, Option.map_some]
  rw [show fints ((zs.drop off).take n) = .sl ((zs.drop off).take n).length (fl (eI .i64) ((zs.drop off).take n)) from rfl, hl]
def gridQ (H : Heap) (id g : Nat) (B : Int) : KV := fun v H' => ∃ c z xs, v = .tup [.c c, int z] ∧ frzC H' c = some (.f (fints xs)) ∧ xs.length ≤ 16 ∧ RdAt H' id g (B + 100) ∧ H.length ≤ H'.length ∧ ∀ k, k < H.length → k ≠ id → H'[k]? = H[k]?
theorem l20Grid_run (H : Heap) (id g : Nat) (B n : Int) (hr : RdAt H id g B) (hB : B ≤ 2 ^ 38) (hn9 : n ≤ 100) : RunCall Try.prog 50 [.c (.ptr id g 0), int n] H (gridQ H id g B) := by
  have hlt := hr.lt
  refine RunCall.cw (c := _) Try.func50 rfl (n := 75) Try.ntmps50 (rs := [.tmp 4, .tmp 5]) rfl ?_
  simp only [List.length_cons, List.length_nil, Nat.reduceAdd, Nat.reduceSub, List.replicate, List.cons_append, List.nil_append]
  simp (maxSteps := 1000000) (disch := omega) only [go_sem, Nat.reduceAdd, Nat.reduceMul, Nat.reduceSub, Nat.reduceEqDiff, Nat.reduceLeDiff]
  refine OpS.run (l20Size_run H id g B 0 hr (by omega) (by omega)) (⟨_, Try.func64, rfl, rfl⟩ : Enters Try.prog 64) rfl rfl ?_
  rintro _ H1 ⟨⟨sz, rfl, _, _, hsz⟩, r1, f1⟩
  have hsz := hsz (by omega)
  obtain ⟨m, rfl⟩ : ∃ m : Nat, sz = m := ⟨sz.toNat, by omega⟩
  have hm : m = 2 ∨ m = 3 ∨ m = 4 := by omega
  have hsq : 4 ≤ m * m ∧ m * m ≤ 16 := by rcases hm with rfl | rfl | rfl <;> omega
  simp (maxSteps := 1000000) (disch := omega) only [go_sem, Nat.reduceAdd, Nat.reduceMul, Nat.reduceSub, Nat.reduceEqDiff, Nat.reduceLeDiff]
  refine OpS.run (l20Solved_run hm H1 id g (B + 2) r1 (by omega)) (⟨_, Try.func65, rfl, rfl⟩ : Enters Try.prog 65) rfl rfl ?_
  rintro _ H2 ⟨cid, cg, rfl, q2⟩
  have q2 : GrdAt H H2 id g (B + 4) cid cg (m * m) := by
    obtain ⟨a1, a2, a3, a4, a5, a6⟩ := q2
    exact ⟨a1, a2.mono (by omega), hlt, by rw [← f1.1]; exact a4, by rw [← f1.1]; exact a5, fun k hk hne => by rw [a6 k (by rw [f1.1]; exact hk) hne, f1.2 k (by simp; exact hne)]⟩
  simp (maxSteps := 1000000) (disch := omega) only [go_sem, Nat.reduceAdd, Nat.reduceMul, Nat.reduceSub, Nat.reduceEqDiff, Nat.reduceLeDiff]
  refine OpS.run (pick_run _ id g (B + 4) 5 q2.2.1 (by omega)) (⟨_, Try.func66, rfl, rfl⟩ : Enters Try.prog 66) rfl rfl ?_
  rintro _ H3 ⟨⟨holes, rfl, hh0, hh1⟩, r3, f3⟩
  have q3 := q2.pick r3 f3
  simp (maxSteps := 1000000) (disch := omega) only [go_sem, Nat.reduceAdd, Nat.reduceMul, Nat.reduceSub, Nat.reduceEqDiff, Nat.reduceLeDiff]
  refine loop_rule2 (fun (k : Nat) (HI : Heap) => m * m - k) (fun k HI => k ≤ m * m ∧ GrdAt H HI id g (B + 4 + 1 + k) cid cg (m * m)) (fun k HI => [.k, .k, .a, .a, .a, .a, .k, .k, .k, .p (int k), .a, .a, .a, .a, .a, .a, .a, .a, .a, .a, .a, .a, .a, .a, .a, .a, .a, .a, .a, .a, .a, .a, .a, .a, .a, .a, .a, .a, .a, .a, .a, .a, .a, .a, .a, .a, .a, .a, .a, .a, .a, .a, .a, .a, .a, .a, .a, .a, .a, .a, .a, .a, .a, .a, .a, .a, .a, .a, .a, .a, .a, .a, .a, .a, .a]) (fun _ HI => HI) 0 H3 ⟨Nat.zero_le _, q3.mono (by omega)⟩ (by simp (maxSteps := 1000000) (disch := omega) only [go_sem, Nat.reduceAdd, Nat.reduceMul, Nat.reduceSub, Nat.reduceEqDiff, Nat.reduceLeDiff]; rfl) (HLe.refl _) ?_
  rintro k HI ⟨hk, q4⟩
  obtain ⟨zs, hz1, hz2⟩ := q4.1
  simp (maxSteps := 1000000) (disch := omega) only [go_sem, Nat.reduceAdd, Nat.reduceMul, Nat.reduceSub, Nat.reduceEqDiff, Nat.reduceLeDiff, hz1]
  (first | with_reducible refine condK_dec (fun h1 => ?_) (fun h1 => ?_) | with_reducible refine condK_ndec (fun h1 => ?_) (fun h1 => ?_) | with_reducible refine condK_nb (fun h1 => ?_) (fun h1 => ?_) | refine condK_b (fun h1 => ?_) (fun h1 => ?_))
  · simp (maxSteps := 1000000) (disch := omega) only [go_sem, Nat.reduceAdd, Nat.reduceMul, Nat.reduceSub, Nat.reduceEqDiff, Nat.reduceLeDiff]
    refine OpS.run (pick_run _ id g _ 5 q4.2.1 (by omega)) (⟨_, Try.func66, rfl, rfl⟩ : Enters Try.prog 66) rfl rfl ?_
    rintro _ H4 ⟨⟨y, rfl, y0, y1⟩, r4, f4⟩
    have q5 := q4.pick r4 f4
    obtain ⟨zs, hz1, hz2⟩ := q5.1
    have hkm : k < m * m := by omega
    simp (maxSteps := 1000000) (disch := omega) only [go_sem, Nat.reduceAdd, Nat.reduceMul, Nat.reduceSub, Nat.reduceEqDiff, Nat.reduceLeDiff, hz1]
    (first | with_reducible refine condK_dec (fun h2 => ?_) (fun h2 => ?_) | with_reducible refine condK_ndec (fun h2 => ?_) (fun h2 => ?_) | with_reducible refine condK_nb (fun h2 => ?_) (fun h2 => ?_) | refine condK_b (fun h2 => ?_) (fun h2 => ?_))
    · simp (maxSteps := 1000000) (disch := omega) only [go_sem, Nat.reduceAdd, Nat.reduceMul, Nat.reduceSub, Nat.reduceEqDiff, Nat.reduceLeDiff, hz1]
      rw [Int.toNat_natCast]
      exact ⟨k + 1, _, ⟨⟨by omega, (q5.store (zs := zs.set k 0) (by simpa using hz2)).mono (by push_cast; omega)⟩, by omega⟩, by push_cast; omega, HLe.refl _⟩
    · simp (maxSteps := 1000000) (disch := omega) only [go_sem, Nat.reduceAdd, Nat.reduceMul, Nat.reduceSub, Nat.reduceEqDiff, Nat.reduceLeDiff, hz1]
      exact ⟨k + 1, _, ⟨⟨by omega, q5.mono (by push_cast; omega)⟩, by omega⟩, by push_cast; omega, HLe.refl _⟩
  have q4 := q4.mono (B' := B + 22) (by omega)
  clear hz1 hz2 zs
  simp (maxSteps := 1000000) (disch := omega) only [go_sem, Nat.reduceAdd, Nat.reduceMul, Nat.reduceSub, Nat.reduceEqDiff, Nat.reduceLeDiff]
  refine OpS.run (pick_run _ id g (B + 22) 3 q4.2.1 (by omega)) (⟨_, Try.func66, rfl, rfl⟩ : Enters Try.prog 66) rfl rfl ?_
  rintro _ H5 ⟨⟨t, rfl, t0, t1⟩, r5, f5⟩
  have q5 := q4.pick r5 f5
  have t1 := t1 (by omega)
  obtain ⟨tn, rfl⟩ : ∃ tn : Nat, t = tn := ⟨t.toNat, by omega⟩
  simp (maxSteps := 1000000) (disch := omega) only [go_sem, Nat.reduceAdd, Nat.reduceMul, Nat.reduceSub, Nat.reduceEqDiff, Nat.reduceLeDiff]
  refine loop_rule2 (fun (k : Nat) (HI : Heap) => k) (fun k HI => k ≤ 2 ∧ GrdAt H HI id g (B + 30 - 2 * k) cid cg (m * m)) (fun k HI => [.k, .k, .a, .a, .a, .a, .k, .k, .a, .a, .p (int k), .a, .a, .a, .a, .a, .a, .a, .a, .a, .a, .a, .a, .a, .a, .a, .a, .a, .a, .a, .a, .a, .a, .a, .a, .a, .a, .a, .a, .a, .a, .a, .a, .a, .a, .a, .a, .a, .a, .a, .a, .a, .a, .a, .a, .a, .a, .a, .a, .a, .a, .a, .a, .a, .a, .a, .a, .a, .a, .a, .a, .a, .a, .a, .a]) (fun _ HI => HI) tn H5 ⟨by omega, q5.mono (by omega)⟩ (by simp (maxSteps := 1000000) (disch := omega) only [go_sem, Nat.reduceAdd, Nat.reduceMul, Nat.reduceSub, Nat.reduceEqDiff, Nat.reduceLeDiff]) (HLe.refl _) ?_
  rintro k HI ⟨hk, q6⟩
  simp (maxSteps := 1000000) (disch := omega) only [go_sem, Nat.reduceAdd, Nat.reduceMul, Nat.reduceSub, Nat.reduceEqDiff, Nat.reduceLeDiff]
  (first | with_reducible refine condK_dec (fun h1 => ?_) (fun h1 => ?_) | with_reducible refine condK_ndec (fun h1 => ?_) (fun h1 => ?_) | with_reducible refine condK_nb (fun h1 => ?_) (fun h1 => ?_) | refine condK_b (fun h1 => ?_) (fun h1 => ?_))
  · obtain ⟨zs, hz1, hz2⟩ := q6.1
    simp (maxSteps := 1000000) (disch := omega) only [go_sem, Nat.reduceAdd, Nat.reduceMul, Nat.reduceSub, Nat.reduceEqDiff, Nat.reduceLeDiff, hz1]
    refine OpS.run (pick_run _ id g _ _ q6.2.1 (by omega)) (⟨_, Try.func66, rfl, rfl⟩ : Enters Try.prog 66) rfl rfl ?_
    rintro _ H6 ⟨⟨y, rfl, y0, y1⟩, r6, f6⟩
    have y1 := y1 (by omega)
    obtain ⟨yn, rfl⟩ : ∃ yn : Nat, y = yn := ⟨y.toNat, by omega⟩
    have q7 := q6.pick r6 f6
    simp (maxSteps := 1000000) (disch := omega) only [go_sem, Nat.reduceAdd, Nat.reduceMul, Nat.reduceSub, Nat.reduceEqDiff, Nat.reduceLeDiff]
    refine OpS.run (pick_run _ id g _ _ q7.2.1 (by omega)) (⟨_, Try.func66, rfl, rfl⟩ : Enters Try.prog 66) rfl rfl ?_
    rintro _ H7 ⟨⟨z, rfl, z0, z1⟩, r7, f7⟩
    have q8 := q7.pick r7 f7
    obtain ⟨zs, hz1, hz2⟩ := q8.1
    simp (maxSteps := 1000000) (disch := omega) only [go_sem, Nat.reduceAdd, Nat.reduceMul, Nat.reduceSub, Nat.reduceEqDiff, Nat.reduceLeDiff, hz1]
    rw [Int.toNat_natCast]
    have q9 := (q8.store (zs := zs.set yn z) (by simpa using hz2)).mono (B' := B + 30 - 2 * ((k - 1 : Nat) : Int)) (by omega)
    exact ⟨k - 1, _, ⟨⟨by omega, q9⟩, by omega⟩, by omega, HLe.refl _⟩
  have q6 := q6.mono (B' := B + 30) (by omega)
  simp (maxSteps := 1000000) (disch := omega) only [go_sem, Nat.reduceAdd, Nat.reduceMul, Nat.reduceSub, Nat.reduceEqDiff, Nat.reduceLeDiff]
  refine OpS.run (odd_run _ id g _ n q6.2.1 (by omega) (by omega)) (⟨_, Try.func67, rfl, rfl⟩ : Enters Try.prog 67) rfl rfl ?_
  rintro _ H8 ⟨⟨b, rfl, hb⟩, r8, f8⟩
  have q8 := q6.pick r8 f8
  have fin : ∀ (HE : Heap) (B' z : Int), B' ≤ B + 100 → GrdAt H HE id g B' cid cg (m * m) → lessQ HE (gridQ H id g B) (.tup [.c (.own cid cg 0 (m * m) none), int z]) := fun HE B' z hb' q => by
    obtain ⟨⟨zs, a1, a2⟩, a3, a4, a5, a6, a7⟩ := q.mono hb'
    refine ⟨HE, HLe.refl _, _, z, _, rfl, frz_view a1 (by omega), by simp; omega, a3, a6, a7⟩
  simp (maxSteps := 1000000) (disch := omega) only [go_sem, Nat.reduceAdd, Nat.reduceMul, Nat.reduceSub, Nat.reduceEqDiff, Nat.reduceLeDiff]
  (first | with_reducible refine condK_dec (fun h1 => ?_) (fun h1 => ?_) | with_reducible refine condK_ndec (fun h1 => ?_) (fun h1 => ?_) | with_reducible refine condK_nb (fun h1 => ?_) (fun h1 => ?_) | refine condK_b (fun h1 => ?_) (fun h1 => ?_))
  · simp (maxSteps := 1000000) (disch := omega) only [go_sem, Nat.reduceAdd, Nat.reduceMul, Nat.reduceSub, Nat.reduceEqDiff, Nat.reduceLeDiff]
    refine OpS.run (pick_run _ id g _ _ q8.2.1 (by omega)) (⟨_, Try.func66, rfl, rfl⟩ : Enters Try.prog 66) rfl rfl ?_
    rintro _ H9 ⟨⟨y, rfl, y0, y1⟩, r9, f9⟩
    have q9 := q8.pick r9 f9
    have y1 := y1 (by omega)
    simp (maxSteps := 1000000) (disch := omega) only [go_sem, Nat.reduceAdd, Nat.reduceMul, Nat.reduceSub, Nat.reduceEqDiff, Nat.reduceLeDiff]
    (first | with_reducible refine condK_dec (fun h2 => ?_) (fun h2 => ?_) | with_reducible refine condK_ndec (fun h2 => ?_) (fun h2 => ?_) | with_reducible refine condK_nb (fun h2 => ?_) (fun h2 => ?_) | refine condK_b (fun h2 => ?_) (fun h2 => ?_))
    · obtain ⟨zs, hz1, hz2⟩ := q9.1
      simp (maxSteps := 1000000) (disch := omega) only [go_sem, Nat.reduceAdd, Nat.reduceMul, Nat.reduceSub, Nat.reduceEqDiff, Nat.reduceLeDiff, hz1]
      refine OpS.run (pick_run _ id g _ _ q9.2.1 (by omega)) (⟨_, Try.func66, rfl, rfl⟩ : Enters Try.prog 66) rfl rfl ?_
      rintro _ HA ⟨⟨y, rfl, y0, y1⟩, rA, fA⟩
      have y1 := y1 (by omega)
      obtain ⟨yn, rfl⟩ : ∃ yn : Nat, y = yn := ⟨y.toNat, by omega⟩
      have qA := q9.pick rA fA
      simp (maxSteps := 1000000) (disch := omega) only [go_sem, Nat.reduceAdd, Nat.reduceMul, Nat.reduceSub, Nat.reduceEqDiff, Nat.reduceLeDiff]
      intro gb
      have qA' := qA.app (X := [some ⟨gb, 1, [.f (.int .i64 (-1)), .f (.int .i64 ((m : Int) + 1))]⟩])
      refine OpS.run (pick_run _ id g _ _ qA'.2.1 (by omega)) (⟨_, Try.func66, rfl, rfl⟩ : Enters Try.prog 66) rfl rfl ?_
      rintro _ HB ⟨⟨y2, rfl, y20, y21⟩, rB, fB⟩
      have y21 := y21 (by omega)
      have qB := qA'.pick rB fB
      have hbl := fB.last qA.2.1.lt
      obtain ⟨zs, hz1, hz2⟩ := qB.1
      obtain rfl | rfl : y2 = 0 ∨ y2 = 1 := by omega
      all_goals
        simp (maxSteps := 1000000) (disch := omega) only [go_sem, Nat.reduceAdd, Nat.reduceMul, Nat.reduceSub, Nat.reduceEqDiff, Nat.reduceLeDiff, hbl, Int.reduceToNat, hz1]
        rw [Int.toNat_natCast]
        exact fin _ _ _ (by omega) (qB.store (by simpa using hz2))
    · simp (maxSteps := 1000000) (disch := omega) only [go_sem, Nat.reduceAdd, Nat.reduceMul, Nat.reduceSub, Nat.reduceEqDiff, Nat.reduceLeDiff]
      (first | with_reducible refine condK_dec (fun h3 => ?_) (fun h3 => ?_) | with_reducible refine condK_ndec (fun h3 => ?_) (fun h3 => ?_) | with_reducible refine condK_nb (fun h3 => ?_) (fun h3 => ?_) | refine condK_b (fun h3 => ?_) (fun h3 => ?_))
      · obtain ⟨zs, hz1, hz2⟩ := q9.1
        simp (maxSteps := 1000000) (disch := omega) only [go_sem, Nat.reduceAdd, Nat.reduceMul, Nat.reduceSub, Nat.reduceEqDiff, Nat.reduceLeDiff, hz1]
        have hsl : sliceV Try.prog H9 22 (.c (.own cid cg 0 (m * m) none)) (some 1) none none = some (.c (.own cid cg 1 (m * m - 1) none)) := by
          simp only [sliceV, ti22, ti3, hz1, Option.getD_none, Option.getD_some]
          rw [if_pos ⟨by omega, by omega, by rw [cl_length]; omega, by simp, trivial, by omega, by omega⟩]
        simp (maxSteps := 1000000) (disch := omega) only [go_sem, Nat.reduceAdd, Nat.reduceMul, Nat.reduceSub, Nat.reduceEqDiff, Nat.reduceLeDiff, Int.reduceToNat, hsl]
        obtain ⟨⟨zs, a1, a2⟩, a3, a4, a5, a6, a7⟩ := q9.mono (B' := B + 100) (by omega)
        exact ⟨H9, HLe.refl _, _, _, _, rfl, frz_view a1 (by omega), by simp; omega, a3, a6, a7⟩
      · simp (maxSteps := 1000000) (disch := omega) only [go_sem, Nat.reduceAdd, Nat.reduceMul, Nat.reduceSub, Nat.reduceEqDiff, Nat.reduceLeDiff]
        refine OpS.run (l20Size_run _ id g _ 1 q9.2.1 (by omega) (by omega)) (⟨_, Try.func64, rfl, rfl⟩ : Enters Try.prog 64) rfl rfl ?_
        rintro _ HA ⟨⟨sz, rfl, _, _, _⟩, rA, fA⟩
        have qA := q9.pick rA fA
        simp (maxSteps := 1000000) (disch := omega) only [go_sem, Nat.reduceAdd, Nat.reduceMul, Nat.reduceSub, Nat.reduceEqDiff, Nat.reduceLeDiff]
        exact fin _ _ _ (by omega) qA
  · simp (maxSteps := 1000000) (disch := omega) only [go_sem, Nat.reduceAdd, Nat.reduceMul, Nat.reduceSub, Nat.reduceEqDiff, Nat.reduceLeDiff]
    exact fin _ _ _ (by omega) q8
end Go.Lg
