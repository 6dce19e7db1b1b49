/- GpCE, GpGA, GpDA, LgV, GpDB, GpOE, cut to what is needed. -/
import Derived.Test.YtabihehfemedcaaQeb8
import Derived.Test.YtabihehfemedcaaQeb4
import Derived.Test.YtabihehfemedcaaQeb6
import Derived.Test.YtabihehfemedcaaQeb2
import Derived.Test.YtabihehfemedcaaQeb7
import Derived.Test.YtabihehfemedcaaQeb3
set_option linter.unusedSimpArgs false
set_option linter.unusedVariables false
set_option maxRecDepth 100000
namespace Go.Lg
open Go.Proofs
section
variable {P : Program} {o : Oper} {st : St} {K : KV} {fo : Operand} {xs : Array Operand} {ts : Array TypeId} {f : FuncId} {args args' : List AV} {zs : List Int}
theorem OpS.mkL {k : Nat} (hc : RunCall P f args [] (lenQ k)) (he : Enters P f) (ho : o.op = .call ⟨.value fo, xs, ts⟩) (ha : callArgs st fo xs = some (f, args)) (hf : args.all frozenA = true)
    (hk : ∀ (xs : List Int) id g H', look (st.h ++ H') id g = some ⟨g, 1, cl (eI .i64) xs⟩ → xs.length = k → st.h.length ≤ id → K (.c (.own id g 0 k none)) (st.h ++ H')) : OpS P o st K :=
  OpS.mkQ hc he ho ha hf fun r H' ⟨xs, id, g, h1, h2, h3⟩ => by
    subst h1
    refine ⟨rfl, hk xs (id + st.h.length) g _ ?_ h3 (by omega)⟩
    rw [look_shiftH h2]
    simp only [shiftB, shift_cl]
theorem OpS.mkF {Q : AV → Prop} (hc : RunCall P f args [] fun v _ => Q v) (he : Enters P f) (ho : o.op = .call ⟨.value fo, xs, ts⟩) (ha : callArgs st fo xs = some (f, args)) (hf : args.all frozenA = true)
    (hk : ∀ v, Q v → tupOk v = true ∧ shiftA st.h.length v = v ∧ K v st.h) : OpS P o st K := by
  obtain ⟨h1, h2⟩ := target_of ha
  refine OpS.call ho h1 he ?_
  rw [h2]
  refine (RunCall.frame hf hc fun r H' h => (hk r h).1).weaker ?_
  rintro r H2 ⟨r', H', h3, rfl, rfl⟩
  exact ⟨st.h, HLe.app _ _, by rw [(hk _ h3).2.1]; exact (hk _ h3).2.2⟩
end
def GrdAt (H HI : Heap) (id g : Nat) (B : Int) (cid cg n2 : Nat) : Prop := (∃ zs : List Int, look HI cid cg = some ⟨cg, 1, cl (eI .i64) zs⟩ ∧ n2 ≤ zs.length) ∧ RdAt HI id g B ∧ id < H.length ∧ H.length ≤ cid ∧ H.length ≤ HI.length ∧ ∀ k, k < H.length → k ≠ id → HI[k]? = H[k]?
theorem GrdAt.mono {H HI : Heap} {id g cid cg n2 : Nat} {B B' : Int} (h : GrdAt H HI id g B cid cg n2) (hb : B ≤ B') : GrdAt H HI id g B' cid cg n2 := by
  obtain ⟨h1, h2, h3⟩ := h
  exact ⟨h1, h2.mono hb, h3⟩
theorem GrdAt.pick {H HI H2 : Heap} {id g cid cg n2 : Nat} {B B' : Int} (h : GrdAt H HI id g B cid cg n2) (hr : RdAt H2 id g B') (hf : Frm HI H2 [id]) : GrdAt H H2 id g B' cid cg n2 := by
  obtain ⟨⟨zs, h1, h2⟩, _, h3, h4, h5, h6⟩ := h
  refine ⟨⟨zs, by rw [hf.look (by simp; omega)]; exact h1, h2⟩, hr, h3, h4, by rw [hf.1]; exact h5, fun k hk hne => ?_⟩
  rw [hf.2 k (by simp; exact hne), h6 k hk hne]
theorem GrdAt.store {H HI : Heap} {id g cid cg n2 : Nat} {B : Int} (h : GrdAt H HI id g B cid cg n2) {zs : List Int} (hz : n2 ≤ zs.length) : GrdAt H (HI.set cid (some ⟨cg, 1, cl (eI .i64) zs⟩)) id g B cid cg n2 := by
  obtain ⟨⟨_, h1, _⟩, h2, h3, h4, h5, h6⟩ := h
  have hlt : cid < HI.length := (List.getElem?_eq_some_iff.1 (look_some h1).1).1
  refine ⟨⟨zs, look_set_eq' hlt, hz⟩, h2.same (by rw [List.getElem?_set_ne (by omega)]), h3, h4, by simpa using h5, fun k hk hne => ?_⟩
  rw [List.getElem?_set_ne (by omega), h6 k hk hne]
theorem GrdAt.app {H HI X : Heap} {id g cid cg n2 : Nat} {B : Int} (h : GrdAt H HI id g B cid cg n2) : GrdAt H (HI ++ X) id g B cid cg n2 := by
  obtain ⟨⟨zs, h1, h2⟩, h3, h4, h5, h6, h7⟩ := h
  refine ⟨⟨zs, look_appL h1, h2⟩, h3.app, h4, h5, by rw [List.length_append]; omega, fun k hk hne => ?_⟩
  rw [List.getElem?_append_left (by omega), h7 k hk hne]
def solvedQ (n : Nat) (H : Heap) (id g : Nat) (B : Int) : KV := fun v H' => ∃ cid cg, v = .c (.own cid cg 0 (n * n) none) ∧ GrdAt H H' id g (B + 2) cid cg (n * n)
theorem l20Solved_run {n : Nat} (hn : n = 2 ∨ n = 3 ∨ n = 4) (H : Heap) (id g : Nat) (B : Int) (hr : RdAt H id g B) (hB : B ≤ 2 ^ 39) : RunCall Try.prog 60 [.c (.ptr id g 0), int n] H (solvedQ n H id g B) := by
  have hlt := hr.lt
  have hsq : 4 ≤ n * n ∧ n * n ≤ 16 := by rcases hn with rfl | rfl | rfl <;> omega
  refine RunCall.cw (c := _) Try.func60 rfl (n := 21) Try.ntmps60 (rs := [.tmp 4]) rfl ?_
  simp only [List.length_cons, List.length_nil, Nat.reduceAdd, Nat.reduceSub, List.replicate, List.cons_append, List.nil_append]
  simp (maxSteps := 1000000) (disch := omega) only [go_sem, Nat.reduceAdd, Nat.reduceMul, Nat.reduceSub, Nat.reduceEqDiff, Nat.reduceLeDiff]
  intro g1
  have hix : ldP (some ⟨g1, 1, [.f (.int .i64 2), .f (.int .i64 12), .f (.int .i64 576)]⟩) (0 + ((n : Int) - 2).toNat * 1) = some (int (manyS n)) := by
    rcases hn with rfl | rfl | rfl <;> rfl
  simp (maxSteps := 1000000) (disch := omega) only [go_sem, Nat.reduceAdd, Nat.reduceMul, Nat.reduceSub, Nat.reduceEqDiff, Nat.reduceLeDiff, look_last, hix]
  have hm := show manyS n = 2 ∨ manyS n = 12 ∨ manyS n = 576 by rcases hn with rfl | rfl | rfl <;> simp [manyS]
  refine OpS.run (pick_run _ id g B 256 hr.app (by omega)) (⟨_, Try.func63, rfl, rfl⟩ : Enters Try.prog 63) rfl rfl ?_
  rintro _ H2 ⟨⟨y1, rfl, y10, y11⟩, r2, f2⟩
  simp (maxSteps := 1000000) (disch := omega) only [go_sem, Nat.reduceAdd, Nat.reduceMul, Nat.reduceSub, Nat.reduceEqDiff, Nat.reduceLeDiff]
  refine OpS.run (pick_run _ id g (B + 1) 3 r2 (by omega)) (⟨_, Try.func63, rfl, rfl⟩ : Enters Try.prog 63) rfl rfl ?_
  rintro _ H3 ⟨⟨y2, rfl, y20, y21⟩, r3, f3⟩
  have y11 := y11 (by omega)
  have y21 := y21 (by omega)
  simp (maxSteps := 1000000) (disch := omega) only [go_sem, Nat.reduceAdd, Nat.reduceMul, Nat.reduceSub, Nat.reduceEqDiff, Nat.reduceLeDiff]
  obtain ⟨number, hnum, hnl⟩ : ∃ number : Nat, (y1 * 3 + y2).tmod (manyS n : Int) = number ∧ number < manyS n := by
    rw [tmod_nn (by omega)]
    have h1 := Int.emod_nonneg (y1 * 3 + y2) (show (manyS n : Int) ≠ 0 by omega)
    have h2 := Int.emod_lt_of_pos (y1 * 3 + y2) (show (0 : Int) < (manyS n : Int) by omega)
    exact ⟨((y1 * 3 + y2) % (manyS n : Int)).toNat, by omega, by omega⟩
  rw [hnum]
  refine OpS.mkL (SquareNumber_run hn number hnl) (⟨_, Try.func101, rfl, rfl⟩ : Enters Try.prog 101) rfl rfl rfl ?_
  intro xs cid cg H4 hlk hl4 hc
  have l3 : H3.length = H.length + 1 := by rw [f3.1, f2.1, List.length_append]; rfl
  simp (maxSteps := 1000000) (disch := omega) only [go_sem, Nat.reduceAdd, Nat.reduceMul, Nat.reduceSub, Nat.reduceEqDiff, Nat.reduceLeDiff]
  refine ⟨_, HLe.refl _, cid, cg, rfl, ⟨xs, hlk, by omega⟩, (r3.app (X := H4)).mono (by omega), hlt, by simp at hc; omega, by simp; omega, fun k hk hne => ?_⟩
  rw [List.getElem?_append_left (by omega), f3.2 k (by simp; exact hne), f2.2 k (by simp; exact hne), List.getElem?_append_left hk]
theorem frz_view {H : Heap} {id g off n : Nat} {lim : Option Nat} {zs : List Int} (h : look H id g = some ⟨g, 1, cl (eI .i64) zs⟩) (hn : off + n ≤ zs.length) : frzC H (.own id g off n lim) = some (.f (fints ((zs.drop off).take n))) := by
  have e : ((cl (eI .i64) zs).drop off).take (n * 1) = cl (eI .i64) ((zs.drop off).take n) := by
    have e1 : (cl (eI .i64) zs).drop off = cl (eI .i64) (zs.drop off) := by
      have := List.take_append_drop off zs
      conv => lhs; rw [← this, cl_append]
      rw [List.drop_append_of_le_length (by rw [cl_length]; simp; omega), List.drop_of_length_le (by rw [cl_length]; simp; omega), List.nil_append]
    rw [e1, Nat.mul_one]
    have := List.take_append_drop n (zs.drop off)
    conv => lhs; rw [← this, cl_append]
    rw [List.take_append_of_le_length (by rw [cl_length]; simp; omega), List.take_of_length_le (by rw [cl_length]; simp; omega)]
  have hl : ((zs.drop off).take n).length = n := by simp; omega
  simp only [frzC, frz, h, e, frz_cl, Option.map_some]
  rw [show fints ((zs.drop off).take n) = .sl ((zs.drop off).take n).length (fl (eI .i64) ((zs.drop off).take n)) from rfl, hl]
def gridQ (H : Heap) (id g : Nat) (B : Int) : KV := fun v H' => ∃ c z xs, v = .tup [.c c, int z] ∧ frzC H' c = some (.f (fints xs)) ∧ xs.length ≤ 16 ∧ RdAt H' id g (B + 100) ∧ H.length ≤ H'.length ∧ (∀ k, k < H.length → k ≠ id → H'[k]? = H[k]?) ∧ ∃ cid cg off n zs, c = .own cid cg off n none ∧ look H' cid cg = some ⟨cg, 1, cl (eI .i64) zs⟩ ∧ off + n ≤ zs.length ∧ H.length ≤ cid ∧ xs = (zs.drop off).take n
theorem l20Grid_run (H : Heap) (id g : Nat) (B n : Int) (hr : RdAt H id g B) (hB : B ≤ 2 ^ 38) (hn9 : n ≤ 100) : RunCall Try.prog 62 [.c (.ptr id g 0), int n] H (gridQ H id g B) := by
  have hlt := hr.lt
  refine RunCall.cw (c := _) Try.func62 rfl (n := 75) Try.ntmps62 (rs := [.tmp 4, .tmp 5]) rfl ?_
  simp only [List.length_cons, List.length_nil, Nat.reduceAdd, Nat.reduceSub, List.replicate, List.cons_append, List.nil_append]
  simp (maxSteps := 1000000) (disch := omega) only [go_sem, Nat.reduceAdd, Nat.reduceMul, Nat.reduceSub, Nat.reduceEqDiff, Nat.reduceLeDiff]
  refine OpS.run (l20Size_run H id g B 0 hr (by omega) (by omega)) (⟨_, Try.func59, rfl, rfl⟩ : Enters Try.prog 59) rfl rfl ?_
  rintro _ H1 ⟨⟨sz, rfl, _, _, hsz⟩, r1, f1⟩
  have hsz := hsz (by omega)
  obtain ⟨m, rfl⟩ : ∃ m : Nat, sz = m := ⟨sz.toNat, by omega⟩
  have hm : m = 2 ∨ m = 3 ∨ m = 4 := by omega
  have hsq : 4 ≤ m * m ∧ m * m ≤ 16 := by rcases hm with rfl | rfl | rfl <;> omega
  simp (maxSteps := 1000000) (disch := omega) only [go_sem, Nat.reduceAdd, Nat.reduceMul, Nat.reduceSub, Nat.reduceEqDiff, Nat.reduceLeDiff]
  refine OpS.run (l20Solved_run hm H1 id g (B + 2) r1 (by omega)) (⟨_, Try.func60, rfl, rfl⟩ : Enters Try.prog 60) rfl rfl ?_
  rintro _ H2 ⟨cid, cg, rfl, q2⟩
  have q2 : GrdAt H H2 id g (B + 4) cid cg (m * m) := by
    obtain ⟨a1, a2, a3, a4, a5, a6⟩ := q2
    exact ⟨a1, a2.mono (by omega), hlt, by rw [← f1.1]; exact a4, by rw [← f1.1]; exact a5, fun k hk hne => by rw [a6 k (by rw [f1.1]; exact hk) hne, f1.2 k (by simp; exact hne)]⟩
  simp (maxSteps := 1000000) (disch := omega) only [go_sem, Nat.reduceAdd, Nat.reduceMul, Nat.reduceSub, Nat.reduceEqDiff, Nat.reduceLeDiff]
  refine OpS.run (pick_run _ id g (B + 4) 5 q2.2.1 (by omega)) (⟨_, Try.func63, rfl, rfl⟩ : Enters Try.prog 63) rfl rfl ?_
  rintro _ H3 ⟨⟨holes, rfl, hh0, hh1⟩, r3, f3⟩
  have q3 := q2.pick r3 f3
  simp (maxSteps := 1000000) (disch := omega) only [go_sem, Nat.reduceAdd, Nat.reduceMul, Nat.reduceSub, Nat.reduceEqDiff, Nat.reduceLeDiff]
  refine loop_rule2 (fun (k : Nat) (HI : Heap) => m * m - k) (fun k HI => k ≤ m * m ∧ GrdAt H HI id g (B + 4 + 1 + k) cid cg (m * m)) (fun k HI => [.k, .k, .a, .a, .a, .a, .k, .k, .k, .p (int k), .a, .a, .a, .a, .a, .a, .a, .a, .a, .a, .a, .a, .a, .a, .a, .a, .a, .a, .a, .a, .a, .a, .a, .a, .a, .a, .a, .a, .a, .a, .a, .a, .a, .a, .a, .a, .a, .a, .a, .a, .a, .a, .a, .a, .a, .a, .a, .a, .a, .a, .a, .a, .a, .a, .a, .a, .a, .a, .a, .a, .a, .a, .a, .a, .a]) (fun _ HI => HI) 0 H3 ⟨Nat.zero_le _, q3.mono (by omega)⟩ (by simp (maxSteps := 1000000) (disch := omega) only [go_sem, Nat.reduceAdd, Nat.reduceMul, Nat.reduceSub, Nat.reduceEqDiff, Nat.reduceLeDiff]; rfl) (HLe.refl _) ?_
  rintro k HI ⟨hk, q4⟩
  obtain ⟨zs, hz1, hz2⟩ := q4.1
  simp (maxSteps := 1000000) (disch := omega) only [go_sem, Nat.reduceAdd, Nat.reduceMul, Nat.reduceSub, Nat.reduceEqDiff, Nat.reduceLeDiff, hz1]
  (first | with_reducible refine condK_dec (fun h1 => ?_) (fun h1 => ?_) | with_reducible refine condK_ndec (fun h1 => ?_) (fun h1 => ?_) | with_reducible refine condK_nb (fun h1 => ?_) (fun h1 => ?_) | refine condK_b (fun h1 => ?_) (fun h1 => ?_))
  · simp (maxSteps := 1000000) (disch := omega) only [go_sem, Nat.reduceAdd, Nat.reduceMul, Nat.reduceSub, Nat.reduceEqDiff, Nat.reduceLeDiff]
    refine OpS.run (pick_run _ id g _ 5 q4.2.1 (by omega)) (⟨_, Try.func63, rfl, rfl⟩ : Enters Try.prog 63) rfl rfl ?_
    rintro _ H4 ⟨⟨y, rfl, y0, y1⟩, r4, f4⟩
    have q5 := q4.pick r4 f4
    obtain ⟨zs, hz1, hz2⟩ := q5.1
    have hkm : k < m * m := by omega
    simp (maxSteps := 1000000) (disch := omega) only [go_sem, Nat.reduceAdd, Nat.reduceMul, Nat.reduceSub, Nat.reduceEqDiff, Nat.reduceLeDiff, hz1]
    (first | with_reducible refine condK_dec (fun h2 => ?_) (fun h2 => ?_) | with_reducible refine condK_ndec (fun h2 => ?_) (fun h2 => ?_) | with_reducible refine condK_nb (fun h2 => ?_) (fun h2 => ?_) | refine condK_b (fun h2 => ?_) (fun h2 => ?_))
    · simp (maxSteps := 1000000) (disch := omega) only [go_sem, Nat.reduceAdd, Nat.reduceMul, Nat.reduceSub, Nat.reduceEqDiff, Nat.reduceLeDiff, hz1]
      rw [Int.toNat_natCast]
      exact ⟨k + 1, _, ⟨⟨by omega, (q5.store (zs := zs.set k 0) (by simpa using hz2)).mono (by push_cast; omega)⟩, by omega⟩, by push_cast; omega, HLe.refl _⟩
    · simp (maxSteps := 1000000) (disch := omega) only [go_sem, Nat.reduceAdd, Nat.reduceMul, Nat.reduceSub, Nat.reduceEqDiff, Nat.reduceLeDiff, hz1]
      exact ⟨k + 1, _, ⟨⟨by omega, q5.mono (by push_cast; omega)⟩, by omega⟩, by push_cast; omega, HLe.refl _⟩
  have q4 := q4.mono (B' := B + 22) (by omega)
  clear hz1 hz2 zs
  simp (maxSteps := 1000000) (disch := omega) only [go_sem, Nat.reduceAdd, Nat.reduceMul, Nat.reduceSub, Nat.reduceEqDiff, Nat.reduceLeDiff]
  refine OpS.run (pick_run _ id g (B + 22) 3 q4.2.1 (by omega)) (⟨_, Try.func63, rfl, rfl⟩ : Enters Try.prog 63) rfl rfl ?_
  rintro _ H5 ⟨⟨t, rfl, t0, t1⟩, r5, f5⟩
  have q5 := q4.pick r5 f5
  have t1 := t1 (by omega)
  obtain ⟨tn, rfl⟩ : ∃ tn : Nat, t = tn := ⟨t.toNat, by omega⟩
  simp (maxSteps := 1000000) (disch := omega) only [go_sem, Nat.reduceAdd, Nat.reduceMul, Nat.reduceSub, Nat.reduceEqDiff, Nat.reduceLeDiff]
  refine loop_rule2 (fun (k : Nat) (HI : Heap) => k) (fun k HI => k ≤ 2 ∧ GrdAt H HI id g (B + 30 - 2 * k) cid cg (m * m)) (fun k HI => [.k, .k, .a, .a, .a, .a, .k, .k, .a, .a, .p (int k), .a, .a, .a, .a, .a, .a, .a, .a, .a, .a, .a, .a, .a, .a, .a, .a, .a, .a, .a, .a, .a, .a, .a, .a, .a, .a, .a, .a, .a, .a, .a, .a, .a, .a, .a, .a, .a, .a, .a, .a, .a, .a, .a, .a, .a, .a, .a, .a, .a, .a, .a, .a, .a, .a, .a, .a, .a, .a, .a, .a, .a, .a, .a, .a]) (fun _ HI => HI) tn H5 ⟨by omega, q5.mono (by omega)⟩ (by simp (maxSteps := 1000000) (disch := omega) only [go_sem, Nat.reduceAdd, Nat.reduceMul, Nat.reduceSub, Nat.reduceEqDiff, Nat.reduceLeDiff]) (HLe.refl _) ?_
  rintro k HI ⟨hk, q6⟩
  simp (maxSteps := 1000000) (disch := omega) only [go_sem, Nat.reduceAdd, Nat.reduceMul, Nat.reduceSub, Nat.reduceEqDiff, Nat.reduceLeDiff]
  (first | with_reducible refine condK_dec (fun h1 => ?_) (fun h1 => ?_) | with_reducible refine condK_ndec (fun h1 => ?_) (fun h1 => ?_) | with_reducible refine condK_nb (fun h1 => ?_) (fun h1 => ?_) | refine condK_b (fun h1 => ?_) (fun h1 => ?_))
  · obtain ⟨zs, hz1, hz2⟩ := q6.1
    simp (maxSteps := 1000000) (disch := omega) only [go_sem, Nat.reduceAdd, Nat.reduceMul, Nat.reduceSub, Nat.reduceEqDiff, Nat.reduceLeDiff, hz1]
    refine OpS.run (pick_run _ id g _ _ q6.2.1 (by omega)) (⟨_, Try.func63, rfl, rfl⟩ : Enters Try.prog 63) rfl rfl ?_
    rintro _ H6 ⟨⟨y, rfl, y0, y1⟩, r6, f6⟩
    have y1 := y1 (by omega)
    obtain ⟨yn, rfl⟩ : ∃ yn : Nat, y = yn := ⟨y.toNat, by omega⟩
    have q7 := q6.pick r6 f6
    simp (maxSteps := 1000000) (disch := omega) only [go_sem, Nat.reduceAdd, Nat.reduceMul, Nat.reduceSub, Nat.reduceEqDiff, Nat.reduceLeDiff]
    refine OpS.run (pick_run _ id g _ _ q7.2.1 (by omega)) (⟨_, Try.func63, rfl, rfl⟩ : Enters Try.prog 63) rfl rfl ?_
    rintro _ H7 ⟨⟨z, rfl, z0, z1⟩, r7, f7⟩
    have q8 := q7.pick r7 f7
    obtain ⟨zs, hz1, hz2⟩ := q8.1
    simp (maxSteps := 1000000) (disch := omega) only [go_sem, Nat.reduceAdd, Nat.reduceMul, Nat.reduceSub, Nat.reduceEqDiff, Nat.reduceLeDiff, hz1]
    rw [Int.toNat_natCast]
    have q9 := (q8.store (zs := zs.set yn z) (by simpa using hz2)).mono (B' := B + 30 - 2 * ((k - 1 : Nat) : Int)) (by omega)
    exact ⟨k - 1, _, ⟨⟨by omega, q9⟩, by omega⟩, by omega, HLe.refl _⟩
  have q6 := q6.mono (B' := B + 30) (by omega)
  simp (maxSteps := 1000000) (disch := omega) only [go_sem, Nat.reduceAdd, Nat.reduceMul, Nat.reduceSub, Nat.reduceEqDiff, Nat.reduceLeDiff]
  refine OpS.run (odd_run _ id g _ n q6.2.1 (by omega) (by omega)) (⟨_, Try.func61, rfl, rfl⟩ : Enters Try.prog 61) rfl rfl ?_
  rintro _ H8 ⟨⟨b, rfl, hb⟩, r8, f8⟩
  have q8 := q6.pick r8 f8
  have fin : ∀ (HE : Heap) (B' z : Int), B' ≤ B + 100 → GrdAt H HE id g B' cid cg (m * m) → lessQ HE (gridQ H id g B) (.tup [.c (.own cid cg 0 (m * m) none), int z]) := fun HE B' z hb' q => by
    obtain ⟨⟨zs, a1, a2⟩, a3, a4, a5, a6, a7⟩ := q.mono hb'
    refine ⟨HE, HLe.refl _, _, z, _, rfl, frz_view a1 (by omega), by simp; omega, a3, a6, a7, _, _, _, _, _, rfl, a1, by omega, a5, rfl⟩
  simp (maxSteps := 1000000) (disch := omega) only [go_sem, Nat.reduceAdd, Nat.reduceMul, Nat.reduceSub, Nat.reduceEqDiff, Nat.reduceLeDiff]
  (first | with_reducible refine condK_dec (fun h1 => ?_) (fun h1 => ?_) | with_reducible refine condK_ndec (fun h1 => ?_) (fun h1 => ?_) | with_reducible refine condK_nb (fun h1 => ?_) (fun h1 => ?_) | refine condK_b (fun h1 => ?_) (fun h1 => ?_))
  · simp (maxSteps := 1000000) (disch := omega) only [go_sem, Nat.reduceAdd, Nat.reduceMul, Nat.reduceSub, Nat.reduceEqDiff, Nat.reduceLeDiff]
    refine OpS.run (pick_run _ id g _ _ q8.2.1 (by omega)) (⟨_, Try.func63, rfl, rfl⟩ : Enters Try.prog 63) rfl rfl ?_
    rintro _ H9 ⟨⟨y, rfl, y0, y1⟩, r9, f9⟩
    have q9 := q8.pick r9 f9
    have y1 := y1 (by omega)
    simp (maxSteps := 1000000) (disch := omega) only [go_sem, Nat.reduceAdd, Nat.reduceMul, Nat.reduceSub, Nat.reduceEqDiff, Nat.reduceLeDiff]
    (first | with_reducible refine condK_dec (fun h2 => ?_) (fun h2 => ?_) | with_reducible refine condK_ndec (fun h2 => ?_) (fun h2 => ?_) | with_reducible refine condK_nb (fun h2 => ?_) (fun h2 => ?_) | refine condK_b (fun h2 => ?_) (fun h2 => ?_))
    · obtain ⟨zs, hz1, hz2⟩ := q9.1
      simp (maxSteps := 1000000) (disch := omega) only [go_sem, Nat.reduceAdd, Nat.reduceMul, Nat.reduceSub, Nat.reduceEqDiff, Nat.reduceLeDiff, hz1]
      refine OpS.run (pick_run _ id g _ _ q9.2.1 (by omega)) (⟨_, Try.func63, rfl, rfl⟩ : Enters Try.prog 63) rfl rfl ?_
      rintro _ HA ⟨⟨y, rfl, y0, y1⟩, rA, fA⟩
      have y1 := y1 (by omega)
      obtain ⟨yn, rfl⟩ : ∃ yn : Nat, y = yn := ⟨y.toNat, by omega⟩
      have qA := q9.pick rA fA
      simp (maxSteps := 1000000) (disch := omega) only [go_sem, Nat.reduceAdd, Nat.reduceMul, Nat.reduceSub, Nat.reduceEqDiff, Nat.reduceLeDiff]
      intro gb
      have qA' := qA.app (X := [some ⟨gb, 1, [.f (.int .i64 (-1)), .f (.int .i64 ((m : Int) + 1))]⟩])
      refine OpS.run (pick_run _ id g _ _ qA'.2.1 (by omega)) (⟨_, Try.func63, rfl, rfl⟩ : Enters Try.prog 63) rfl rfl ?_
      rintro _ HB ⟨⟨y2, rfl, y20, y21⟩, rB, fB⟩
      have y21 := y21 (by omega)
      have qB := qA'.pick rB fB
      have hbl := fB.last qA.2.1.lt
      obtain ⟨zs, hz1, hz2⟩ := qB.1
      obtain rfl | rfl : y2 = 0 ∨ y2 = 1 := by omega
      all_goals
        simp (maxSteps := 1000000) (disch := omega) only [go_sem, Nat.reduceAdd, Nat.reduceMul, Nat.reduceSub, Nat.reduceEqDiff, Nat.reduceLeDiff, hbl, Int.reduceToNat, hz1]
        rw [Int.toNat_natCast]
        exact fin _ _ _ (by omega) (qB.store (by simpa using hz2))
    · simp (maxSteps := 1000000) (disch := omega) only [go_sem, Nat.reduceAdd, Nat.reduceMul, Nat.reduceSub, Nat.reduceEqDiff, Nat.reduceLeDiff]
      (first | with_reducible refine condK_dec (fun h3 => ?_) (fun h3 => ?_) | with_reducible refine condK_ndec (fun h3 => ?_) (fun h3 => ?_) | with_reducible refine condK_nb (fun h3 => ?_) (fun h3 => ?_) | refine condK_b (fun h3 => ?_) (fun h3 => ?_))
      · obtain ⟨zs, hz1, hz2⟩ := q9.1
        simp (maxSteps := 1000000) (disch := omega) only [go_sem, Nat.reduceAdd, Nat.reduceMul, Nat.reduceSub, Nat.reduceEqDiff, Nat.reduceLeDiff, hz1]
        have hsl : sliceV Try.prog H9 23 (.c (.own cid cg 0 (m * m) none)) (some 1) none none = some (.c (.own cid cg 1 (m * m - 1) none)) := by
          simp only [sliceV, ti23, ti3, hz1, Option.getD_none, Option.getD_some]
          rw [if_pos ⟨by omega, by omega, by rw [cl_length]; omega, by simp, trivial, by omega, by omega⟩]
        simp (maxSteps := 1000000) (disch := omega) only [go_sem, Nat.reduceAdd, Nat.reduceMul, Nat.reduceSub, Nat.reduceEqDiff, Nat.reduceLeDiff, Int.reduceToNat, hsl]
        obtain ⟨⟨zs, a1, a2⟩, a3, a4, a5, a6, a7⟩ := q9.mono (B' := B + 100) (by omega)
        exact ⟨H9, HLe.refl _, _, _, _, rfl, frz_view a1 (by omega), by simp; omega, a3, a6, a7, _, _, _, _, _, rfl, a1, by omega, a5, rfl⟩
      · simp (maxSteps := 1000000) (disch := omega) only [go_sem, Nat.reduceAdd, Nat.reduceMul, Nat.reduceSub, Nat.reduceEqDiff, Nat.reduceLeDiff]
        refine OpS.run (l20Size_run _ id g _ 1 q9.2.1 (by omega) (by omega)) (⟨_, Try.func59, rfl, rfl⟩ : Enters Try.prog 59) rfl rfl ?_
        rintro _ HA ⟨⟨sz, rfl, _, _, _⟩, rA, fA⟩
        have qA := q9.pick rA fA
        simp (maxSteps := 1000000) (disch := omega) only [go_sem, Nat.reduceAdd, Nat.reduceMul, Nat.reduceSub, Nat.reduceEqDiff, Nat.reduceLeDiff]
        exact fin _ _ _ (by omega) qA
  · simp (maxSteps := 1000000) (disch := omega) only [go_sem, Nat.reduceAdd, Nat.reduceMul, Nat.reduceSub, Nat.reduceEqDiff, Nat.reduceLeDiff]
    exact fin _ _ _ (by omega) q8
end Go.Lg

set_option linter.unusedSimpArgs false
set_option linter.unusedVariables false
set_option maxRecDepth 100000
namespace Go.Lg
open Go.Proofs
attribute [-go_sem] appendM
inductive OwnL {α : Type} (E : α → List FV) (n : Nat) (H : Heap) : CV → List α → Prop where
  | n : OwnL E n H (.f .nil) []
  | m : OwnL E n H .emp []
  | o (id g : Nat) (xs : List α) (h : look H id g = some ⟨g, n, cl E xs⟩) : OwnL E n H (.own id g 0 xs.length none) xs
def idsC : CV → Nat → Prop
  | .own id _ _ _ _, k => k = id
  | _, _ => False
section
variable {α : Type} {E : α → List FV} {n : Nat} {H H' : Heap} {c : CV} {xs ys : List α}
theorem OwnL.same (h : OwnL E n H c xs) (hs : ∀ i, idsC c i → i < H.length → H'[i]? = H[i]?) : OwnL E n H' c xs := by
  cases h with
  | n => exact .n
  | m => exact .m
  | o id g xs h => exact .o id g xs (by unfold look at *; rw [hs id rfl (List.getElem?_eq_some_iff.1 (look_some h).1).1]; exact h)
theorem OwnL.lt (h : OwnL E n H c xs) : ∀ i, idsC c i → i < H.length := by
  cases h with
  | n => exact fun i hi => hi.elim
  | m => exact fun i hi => hi.elim
  | o id g xs h => intro i hi; cases hi; exact (List.getElem?_eq_some_iff.1 (look_some h).1).1
theorem OwnL.app (h : OwnL E n H c xs) : OwnL E n (H ++ H') c xs := h.same fun i _ hl => List.getElem?_append_left hl
theorem OwnL.snap [HSz E n] (h : OwnL E n H c xs) : snapD H (.c c) = some (rsl E xs) := by
  cases h with
  | n => rfl
  | m => rfl
  | o id g xs h =>
    have e : (cl E xs).take (xs.length * n) = cl E xs := List.take_of_length_le (Nat.le_of_eq (cl_length xs))
    simp only [snapD, Lg.frzC, Lg.frz, h, List.drop_zero, e, frz_cl, Option.map_some]
theorem OwnL.frzC [HSz E n] (h : OwnL E n H c xs) : frzC H c = some (.f (fsl E xs)) := by
  have := h.snap
  simp only [snapD, Option.map_eq_some_iff] at this
  obtain ⟨y, h1, h2⟩ := this
  cases h2
  exact h1
theorem OwnL.len (P : Program) (h : OwnL E n H c xs) {s : List AV} {t : TypeId} {ei : TI} (ht : sliceOf P t = some ei) (hs : ei.size = n) : True := trivial
end
theorem nzF_ints {k : IntKind} (xs : List Int) : (fl (eI k) xs).map nzF = fl (eI k) xs := by
  induction xs with
  | nil => rfl
  | cons x xs ih => 
    show nzF _ :: (fl (eI k) xs).map nzF = _
    rw [ih]; rfl
theorem nzF_rules (rs : List Rul) : (fl eR rs).map nzF = fl eR rs := by
  induction rs with
  | nil => rfl
  | cons x xs ih =>
    show [nzF _, nzF _, nzF _] ++ (fl eR xs).map nzF = _
    rw [ih, fints, nzF_sl, nzF_ints]; rfl
theorem frzS_cells {S : Nat → Bool} {H : Heap} {n : Nat} : ∀ (l : List FV), (l.map CV.f).mapM (frzS S H n) = some (l.map nzF)
  | [] => rfl
  | x :: l => by
    rw [List.map_cons, List.mapM_cons, frzS_cells l]
    cases n <;> rfl
theorem OwnL.frzS {S : Nat → Bool} {H : Heap} {c : CV} {rs : List Rul} (h : OwnL eR 3 H c rs) (hs : ∀ i, idsC c i → S i = true) (m : Nat) : frzS S H (m + 1) c = some (fsl eR rs) := by
  cases h with
  | n => rfl
  | m => rfl
  | o id g xs h =>
    have e : (cl eR rs).take (rs.length * 3) = cl eR rs := List.take_of_length_le (Nat.le_of_eq (cl_length rs))
    simp only [Lg.frzS, hs id rfl, if_true, h, List.drop_zero, e]
    rw [show cl eR rs = (fl eR rs).map CV.f from rfl, frzS_cells, nzF_rules]
    rfl
theorem frzS_view {S : Nat → Bool} {H : Heap} {id g off n : Nat} {lim : Option Nat} {zs : List Int} (h : look H id g = some ⟨g, 1, cl (eI .i64) zs⟩) (hs : S id = true) (hn : off + n ≤ zs.length) (m : Nat) : Lg.frzS S H (m + 1) (.own id g off n lim) = some (fints ((zs.drop off).take n)) := by
  have hv := frz_view (lim := lim) h hn
  have hl : ((zs.drop off).take n).length = n := by simp; omega
  simp only [frzC, frz, h, Option.map_map, Option.map_eq_some_iff] at hv
  obtain ⟨l, h1, h2⟩ := hv
  simp only [Lg.frzS, hs, if_true, h]
  have e : ((cl (eI .i64) zs).drop off).take (n * 1) = cl (eI .i64) ((zs.drop off).take n) := by
    have e1 : (cl (eI .i64) zs).drop off = cl (eI .i64) (zs.drop off) := by
      have := List.take_append_drop off zs
      conv => lhs; rw [← this, cl_append]
      rw [List.drop_append_of_le_length (by rw [cl_length]; simp; omega), List.drop_of_length_le (by rw [cl_length]; simp; omega), List.nil_append]
    rw [e1, Nat.mul_one]
    have := List.take_append_drop n (zs.drop off)
    conv => lhs; rw [← this, cl_append]
    rw [List.take_append_of_le_length (by rw [cl_length]; simp; omega), List.take_of_length_le (by rw [cl_length]; simp; omega)]
  rw [e, show cl (eI .i64) ((zs.drop off).take n) = (fl (eI .i64) ((zs.drop off).take n)).map CV.f from rfl, frzS_cells, nzF_ints, Option.map_some]
  rw [show fints ((zs.drop off).take n) = .sl ((zs.drop off).take n).length (fl (eI .i64) ((zs.drop off).take n)) from rfl, hl]
theorem elems_f {α : Type} {E : α → List FV} {n : Nat} [HSz E n] {H : Heap} {ys : List α} : elems H n (.c (.f (fsl E ys))) = some (ys.length, cl E ys) := by
  have : (fl E ys).length = ys.length * n := fl_length ys
  simp only [elems]
  first | rfl | simp [this, cl]
end Go.Lg

set_option linter.unusedSimpArgs false
set_option linter.unusedVariables false
set_option maxRecDepth 100000
namespace Go.Lg
open Go.Proofs
def prodV (vs : List Int) : Int := vs.foldl (fun a v => a * v) 1
def holdsV (r : Rul) (vs : List Int) : Bool :=
  if r.kind = 1 then decide vs.Nodup else if r.kind = 2 then decide (vs.sum = r.val) else if r.kind = 3 then decide (prodV vs = r.val)
  else if r.kind = 4 then decide (nth vs 0 < nth vs 1) else decide (max (nth vs 0 - nth vs 1) (nth vs 1 - nth vs 0) = r.val)
def orV (o : List Nat) (vs : List Int) : List Nat := o.zipWith (fun x v => x ||| 2 ^ v.toNat) vs
def ways (r : Rul) : List Nat → List Int → List Nat → List Nat
  | [], pre, o => if holdsV r pre = true then orV o pre else o
  | m :: ms, pre, o => [1, 2, 3, 4].foldl (fun o (v : Nat) => if m.testBit v = true then ways r ms (pre ++ [(v : Int)]) o else o) o
def maskAt (xs : List Int) (n : Nat) (c : Int) : Nat := if 0 < nth xs c then 2 ^ (nth xs c).toNat else 2 ^ (n + 1) - 2
def canHold (r : Rul) (xs : List Int) (n : Nat) : Bool := (ways r (r.cells.map (maskAt xs n)) [] (List.replicate r.cells.length 0)).getD 0 0 != 0
def clear (p : Puz) (xs : List Int) : Bool := decide (∀ k : Nat, k < xs.length → ¬ (0 < nth p.given k ∧ 0 < nth xs k ∧ nth xs k ≠ nth p.given k))
def fitsL (p : Puz) (xs : List Int) (n : Nat) : Bool := clear p xs && (p.rules.all (fun r => canHold r xs n) && !clash xs n)
end Go.Lg

set_option linter.unusedSimpArgs false
set_option linter.unusedVariables false
namespace Go.Lg
open Go.ChangeShapes Go.WideShapes Go.ChangeAt Go.RowKit
def CsF (w : World) (I : Nat → Prop) (ys : List FV) (cs : List Value) : Prop :=
  ys.length = cs.length ∧ ∀ j (h : j < ys.length), ∃ u, cs[j]? = some u ∧ VF w I ys[j] u
section
variable {w : World} {I : Nat → Prop}
theorem CsF.nil : CsF w I [] [] := ⟨rfl, fun j h => absurd h (Nat.not_lt_zero _)⟩
theorem CsF.one {y : FV} {v : Value} (h : VF w I y v) : CsF w I [y] [v] := ⟨rfl, fun j hj => by
  have : j = 0 := by simpa using hj
  subst this; exact ⟨v, rfl, h⟩⟩
theorem CsF.app {ys ys' : List FV} {cs cs' : List Value} (h : CsF w I ys cs) (h' : CsF w I ys' cs') : CsF w I (ys ++ ys') (cs ++ cs') := by
  refine ⟨by simp [h.1, h'.1], fun j hj => ?_⟩
  by_cases hl : j < ys.length
  · obtain ⟨u, h1, h2⟩ := h.2 j hl
    refine ⟨u, by rw [List.getElem?_append_left (by rw [← h.1]; exact hl)]; exact h1, ?_⟩
    rw [List.getElem_append_left hl]; exact h2
  · have hj' : j - ys.length < ys'.length := by simp at hj; omega
    obtain ⟨u, h1, h2⟩ := h'.2 _ hj'
    refine ⟨u, by rw [List.getElem?_append_right (by rw [← h.1]; omega), ← h.1]; exact h1, ?_⟩
    rw [List.getElem_append_right (by omega)]; exact h2
end
section
variable {H : Type} {enc : TypeId × Value → H} {P : Program} {W : World}
theorem CsF.agg {ys : List FV} {cs : Array Value} (h : CsF W (Cx.base W).I ys cs.toList) : VA W (Cx.base W) [] (.agg (ys.map .f)) (.agg cs) := by
  refine .agg _ _ (by simpa using h.1.symm) fun j hj => ?_
  have hj' : j < ys.length := by simpa using hj
  obtain ⟨u, h1, h2⟩ := h.2 j hj'
  refine ⟨u, by simpa using h1, ?_⟩
  rw [List.getElem_map]; exact h2
theorem CsF.val {y : FV} {v : Value} (h : CsF W (Cx.base W).I [y] [v]) : VA W (Cx.base W) [] (.c (.f y)) v := by
  obtain ⟨u, h1, h2⟩ := h.2 0 (by simp)
  have : v = u := by simpa using h1
  subst this
  exact .c _ _ h2
end
end Go.Lg

set_option linter.unusedSimpArgs false
set_option linter.unusedVariables false
set_option maxRecDepth 100000
namespace Go.Lg
open Go.Proofs
theorem prodV_app (vs : List Int) (v : Int) : prodV (vs ++ [v]) = prodV vs * v := by simp [prodV]
theorem prodV_bound : ∀ (n : Nat) (vs : List Int), vs.length ≤ n → (∀ v ∈ vs, 0 ≤ v ∧ v ≤ 4) → 0 ≤ prodV vs ∧ prodV vs ≤ 4 ^ n := by
  intro n
  induction n with
  | zero => intro vs h _; have : vs = [] := List.eq_nil_of_length_eq_zero (by omega); subst this; simp [prodV]
  | succ n ih =>
    intro vs h hv
    rcases List.eq_nil_or_concat vs with rfl | ⟨ws, w, rfl⟩
    · exact ⟨by simp [prodV], by simp only [prodV, List.foldl_nil]; have : (0 : Int) < 4 ^ (n + 1) := Int.pow_pos (by omega); omega⟩
    · obtain ⟨h1, h2⟩ := ih ws (by simp at h; omega) fun v hm => hv v (by simp [hm])
      have hw := hv w (by simp)
      rw [List.concat_eq_append, prodV_app]
      refine ⟨Int.mul_nonneg h1 hw.1, ?_⟩
      have := Int.mul_le_mul h2 hw.2 hw.1 (by omega)
      rw [Int.pow_succ]
      exact this
theorem prodV_take {vs : List Int} (h : vs.length ≤ 4) (hv : ∀ v ∈ vs, 0 ≤ v ∧ v ≤ 4) (k : Nat) : 0 ≤ prodV (vs.take k) ∧ prodV (vs.take k) ≤ 256 := by
  have := prodV_bound 4 (vs.take k) (by simp; omega) fun v hm => hv v (List.mem_of_mem_take hm)
  omega
theorem sum_take {vs : List Int} (h : vs.length ≤ 4) (hv : ∀ v ∈ vs, 0 ≤ v ∧ v ≤ 4) (k : Nat) : 0 ≤ (vs.take k).sum ∧ (vs.take k).sum ≤ 16 := by
  have gen : ∀ (ws : List Int), (∀ v ∈ ws, 0 ≤ v ∧ v ≤ 4) → 0 ≤ ws.sum ∧ ws.sum ≤ 4 * ws.length := by
    intro ws hw
    induction ws with
    | nil => simp
    | cons w ws ih =>
      have h1 := ih fun v hm => hw v (by simp [hm])
      have h2 := hw w (by simp)
      simp only [List.sum_cons, List.length_cons]
      push_cast
      omega
  have := gen (vs.take k) fun v hm => hv v (List.mem_of_mem_take hm)
  have : (vs.take k).length ≤ 4 := by simp; omega
  omega
theorem nodup_take {vs : List Int} {k : Nat} (h : k < vs.length) : (vs.take (k + 1)).Nodup ↔ (vs.take k).Nodup ∧ ∀ i : Nat, i < k → nth vs i ≠ nth vs k := by
  rw [take_succ_nth h, List.nodup_append]
  constructor
  · rintro ⟨h1, _, h3⟩
    refine ⟨h1, fun i hi => h3 _ ?_ _ (by simp)⟩
    rw [nth_eq (by omega)]
    simp only [Int.toNat_natCast]
    exact List.mem_take_iff_getElem.2 ⟨i, by omega, rfl⟩
  · rintro ⟨h1, h2⟩
    refine ⟨h1, by simp, fun a ha b hb => ?_⟩
    obtain ⟨i, hi, rfl⟩ := List.mem_take_iff_getElem.1 ha
    have := h2 i (by omega)
    rw [nth_eq (by omega)] at this
    simp only [Int.toNat_natCast] at this
    simp only [List.mem_singleton] at hb
    rw [hb]
    exact this
end Go.Lg

set_option linter.unusedSimpArgs false
set_option linter.unusedVariables false
set_option maxRecDepth 100000
namespace Go.Lg
attribute [-go_sem] appendM
inductive OwnE (H : Heap) : CV → List Int → List Nat → Prop where
  | m : OwnE H .emp [] []
  | o (id g : Nat) (xs : List Int) (h : look H id g = some ⟨g, 1, cl (eI .i64) xs⟩) : OwnE H (.own id g 0 xs.length none) xs [id]
theorem OwnE.frzC {H : Heap} {c : CV} {xs : List Int} {S : List Nat} (h : OwnE H c xs S) : Lg.frzC H c = some (.f (fints xs)) := by
  cases h with
  | m => rfl
  | o id g xs h => exact (OwnI.o id g none xs [] (by rw [List.append_nil]; exact h)).frzC
theorem OwnE.same {H H' : Heap} {c : CV} {xs : List Int} {S : List Nat} (h : OwnE H c xs S) (hs : ∀ i ∈ S, H'[i]? = H[i]?) : OwnE H' c xs S := by
  cases h with
  | m => exact .m
  | o id g xs h => exact .o id g xs (by unfold look at *; rw [hs id (by simp)]; exact h)
theorem OwnE.shift {H0 H : Heap} {c : CV} {xs : List Int} {S : List Nat} (h : OwnE H c xs S) : OwnE (H0 ++ shiftH H0.length H) (shiftC H0.length c) xs (S.map (· + H0.length)) := by
  cases h with
  | m => exact .m
  | o id g xs h =>
    refine .o (id + H0.length) g xs ?_
    rw [look_shiftH h]
    simp only [shiftB, shift_cl]
theorem OwnE.lt {H : Heap} {c : CV} {xs : List Int} {S : List Nat} (h : OwnE H c xs S) : ∀ i ∈ S, i < H.length := by
  cases h with
  | m => simp
  | o id g xs h => intro i hi; have : i = id := by simpa using hi
                   subst this; exact (List.getElem?_eq_some_iff.1 (look_some h).1).1
theorem OwnE.nd {H : Heap} {c : CV} {xs : List Int} {S : List Nat} (h : OwnE H c xs S) : S.Nodup := by cases h <;> simp
theorem OwnE.inv {H : Heap} {c : CV} {xs : List Int} {S : List Nat} (h : OwnE H c xs S) (hn : xs ≠ []) : ∃ id g, c = .own id g 0 xs.length none ∧ S = [id] ∧ look H id g = some ⟨g, 1, cl (eI .i64) xs⟩ := by
  cases h with
  | m => exact absurd rfl hn
  | o id g xs h => exact ⟨id, g, rfl, rfl, h⟩
end Go.Lg
