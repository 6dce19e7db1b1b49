/- A value put into a game. -/
import Derived.Test.YtpdaalgdkdpihaaGpX
set_option linter.unusedSimpArgs false
set_option linter.unusedVariables false
set_option maxRecDepth 100000
namespace Go.Lg
open Go.Proofs

attribute [-go_sem] appendM
def zeroG : Gam := ⟨⟨0, [], []⟩, [], []⟩
def putOk (q : Gam) (cell value : Int) : Prop := 0 ≤ cell ∧ cell < q.put.length ∧ nth (gameGrid q) cell ≤ 0 ∧ 1 ≤ value ∧ value ≤ q.task.size
instance (q : Gam) (cell value : Int) : Decidable (putOk q cell value) := by unfold putOk; infer_instance
def gamePut (q : Gam) (cell value : Int) : Gam := if gameValid q = true then (if putOk q cell value then ⟨q.task, q.put.set cell.toNat value, q.moves ++ [cell]⟩ else q) else zeroG
def gamePutB (q : Gam) (cell value : Int) : Bool := gameValid q && decide (putOk q cell value)
theorem GamePut_own (q : Gam) (cell value : Int) (hx : smG q) : RunCall Try.prog 33 [aG q, int cell, int value] [] (gamWQ (withB (gamePutB q cell value)) (gamePut q cell value)) := by
  refine RunCall.nz ?_
  refine RunCall.cw (c := _) Try.func33 rfl (n := 56) Try.ntmps33 (rs := [.cell 6 34, .tmp 7]) rfl ?_
  simp only [List.length_cons, List.length_nil, Nat.reduceAdd, Nat.reduceSub, List.replicate, List.cons_append, List.nil_append]
  simp (maxSteps := 1000000) (disch := omega) only [go_sem, Nat.reduceAdd, Nat.reduceMul, Nat.reduceSub, Nat.reduceEqDiff, Nat.reduceLeDiff]
  intro g1 g2
  first | refine OpS.rd (GameValid_run q hx) (⟨_, Try.func38, rfl, rfl⟩ : Enters Try.prog 38) rfl rfl rfl rfl ?_ | refine Loud.rd (GameValid_run q hx) (⟨_, Try.func38, rfl, rfl⟩ : Enters Try.prog 38) rfl rfl rfl rfl ?_
  simp (maxSteps := 1000000) (disch := omega) only [go_sem, Nat.reduceAdd, Nat.reduceMul, Nat.reduceSub, Nat.reduceEqDiff, Nat.reduceLeDiff]
  (first | with_reducible refine condK_dec (fun h => ?_) (fun h => ?_) | with_reducible refine condK_ndec (fun h => ?_) (fun h => ?_) | with_reducible refine condK_nb (fun h => ?_) (fun h => ?_) | refine condK_b (fun h => ?_) (fun h => ?_))
  · simp (maxSteps := 1000000) (disch := omega) only [go_sem, Nat.reduceAdd, Nat.reduceMul, Nat.reduceSub, Nat.reduceEqDiff, Nat.reduceLeDiff]
    obtain ⟨h1, h2, h3, h4, h5, h6⟩ := gameValid_facts h
    have hl := gameGrid_length h
    refine OpS.mkGA (copyGame_ownA q hx) (⟨_, Try.func61, rfl, rfl⟩ : Enters Try.prog 61) rfl rfl rfl ?_
    rintro _ H1 _ ⟨⟨c1, c2, c3, c4, S1, S2, S3, S4, rfl, rfl, k1, k2, k3, k4⟩, kn⟩ hS
    simp (maxSteps := 1000000) (disch := omega) only [go_sem, Nat.reduceAdd, Nat.reduceMul, Nat.reduceSub, Nat.reduceEqDiff, Nat.reduceLeDiff]
    intro g3
    simp (maxSteps := 1000000) (disch := omega) only [go_sem, Nat.reduceAdd, Nat.reduceMul, Nat.reduceSub, Nat.reduceEqDiff, Nat.reduceLeDiff, look_last, set_last]
    simp only [List.length_cons, List.length_nil, List.cons_append, List.nil_append] at k1 k2 k3 k4 hS
    have mv : ∀ {X1 X2 Y1 Y2 : Option Blk} {Z : Heap}, ∀ k, 2 ≤ k ∧ k < 2 + H1.length → (X1 :: Y1 :: (H1 ++ Z))[k]? = (X2 :: Y2 :: H1)[k]? := fun k hk => by
      rw [cons2 hk.1, cons2 hk.1, List.getElem?_append_left (by omega)]
    have m1 : ∀ k ∈ S1, 2 ≤ k ∧ k < 2 + H1.length := fun k hk => by have := hS k (by simp [hk]); omega
    have m2 : ∀ k ∈ S2, 2 ≤ k ∧ k < 2 + H1.length := fun k hk => by have := hS k (by simp [hk]); omega
    have m3 : ∀ k ∈ S3, 2 ≤ k ∧ k < 2 + H1.length := fun k hk => by have := hS k (by simp [hk]); omega
    have m4 : ∀ k ∈ S4, 2 ≤ k ∧ k < 2 + H1.length := fun k hk => by have := hS k (by simp [hk]); omega
    have no : ¬ putOk q cell value → gamePut q cell value = q ∧ gamePutB q cell value = false := fun hn => by simp [gamePut, gamePutB, h, hn]
    have fin : ∀ {X1 Y1 : Option Blk} {Z : Heap}, ¬ putOk q cell value → lessQ (X1 :: Y1 :: (H1 ++ Z)) (nzQ (gamWQ (withB (gamePutB q cell value)) (gamePut q cell value))) (.tup [.agg [.f (.int .i64 q.task.size), c1, c2, c3, c4], .c (.f (.bool false))]) := fun hn =>
      gam_fin (no hn).1 (no hn).2 (k1.same fun k hk => mv k (m1 k hk)) (k2.same fun k hk => mv k (m2 k hk)) (k3.same fun k hk => mv k (m3 k hk)) (k4.same fun k hk => mv k (m4 k hk)) kn
    (first | with_reducible refine guardK_dec (fun a1 => ?_) (fun a1 => ?_) <;> simp (maxSteps := 1000000) (disch := omega) only [go_sem, Nat.reduceAdd, Nat.reduceMul, Nat.reduceSub, Nat.reduceEqDiff, Nat.reduceLeDiff, a1] | with_reducible refine guardK_ndec (fun a1 => ?_) (fun a1 => ?_) <;> simp (maxSteps := 1000000) (disch := omega) only [go_sem, Nat.reduceAdd, Nat.reduceMul, Nat.reduceSub, Nat.reduceEqDiff, Nat.reduceLeDiff, a1] | with_reducible refine guardK_nb (fun a1 => ?_) (fun a1 => ?_) <;> simp (maxSteps := 1000000) (disch := omega) only [go_sem, Nat.reduceAdd, Nat.reduceMul, Nat.reduceSub, Nat.reduceEqDiff, Nat.reduceLeDiff, a1] | with_reducible refine guardK_split (fun a1 => ?_) (fun a1 => ?_) <;> simp (maxSteps := 1000000) (disch := omega) only [go_sem, Nat.reduceAdd, Nat.reduceMul, Nat.reduceSub, Nat.reduceEqDiff, Nat.reduceLeDiff, a1] | with_reducible refine guardQ_dec (fun a1 => ?_) (fun a1 => ?_) <;> simp (maxSteps := 1000000) (disch := omega) only [go_sem, Nat.reduceAdd, Nat.reduceMul, Nat.reduceSub, Nat.reduceEqDiff, Nat.reduceLeDiff, a1] | with_reducible refine guardL_dec (fun a1 => ?_) (fun a1 => ?_) <;> simp (maxSteps := 1000000) (disch := omega) only [go_sem, Nat.reduceAdd, Nat.reduceMul, Nat.reduceSub, Nat.reduceEqDiff, Nat.reduceLeDiff, a1] | with_reducible refine guardQ_ndec (fun a1 => ?_) (fun a1 => ?_) <;> simp (maxSteps := 1000000) (disch := omega) only [go_sem, Nat.reduceAdd, Nat.reduceMul, Nat.reduceSub, Nat.reduceEqDiff, Nat.reduceLeDiff, a1] | with_reducible refine guardL_ndec (fun a1 => ?_) (fun a1 => ?_) <;> simp (maxSteps := 1000000) (disch := omega) only [go_sem, Nat.reduceAdd, Nat.reduceMul, Nat.reduceSub, Nat.reduceEqDiff, Nat.reduceLeDiff, a1] | with_reducible refine guardQ_nb (fun a1 => ?_) (fun a1 => ?_) <;> simp (maxSteps := 1000000) (disch := omega) only [go_sem, Nat.reduceAdd, Nat.reduceMul, Nat.reduceSub, Nat.reduceEqDiff, Nat.reduceLeDiff, a1] | with_reducible refine guardL_nb (fun a1 => ?_) (fun a1 => ?_) <;> simp (maxSteps := 1000000) (disch := omega) only [go_sem, Nat.reduceAdd, Nat.reduceMul, Nat.reduceSub, Nat.reduceEqDiff, Nat.reduceLeDiff, a1] | with_reducible refine guardQ_split (fun a1 => ?_) (fun a1 => ?_) <;> simp (maxSteps := 1000000) (disch := omega) only [go_sem, Nat.reduceAdd, Nat.reduceMul, Nat.reduceSub, Nat.reduceEqDiff, Nat.reduceLeDiff, a1] | with_reducible refine guardL_split (fun a1 => ?_) (fun a1 => ?_) <;> simp (maxSteps := 1000000) (disch := omega) only [go_sem, Nat.reduceAdd, Nat.reduceMul, Nat.reduceSub, Nat.reduceEqDiff, Nat.reduceLeDiff, a1])
    · simp (maxSteps := 1000000) (disch := omega) only [go_sem, Nat.reduceAdd, Nat.reduceMul, Nat.reduceSub, Nat.reduceEqDiff, Nat.reduceLeDiff, look_last]
      exact (fin fun hn => by unfold putOk at hn; omega)
    (first | with_reducible refine guardK_dec (fun a2 => ?_) (fun a2 => ?_) <;> simp (maxSteps := 1000000) (disch := omega) only [go_sem, Nat.reduceAdd, Nat.reduceMul, Nat.reduceSub, Nat.reduceEqDiff, Nat.reduceLeDiff, a2] | with_reducible refine guardK_ndec (fun a2 => ?_) (fun a2 => ?_) <;> simp (maxSteps := 1000000) (disch := omega) only [go_sem, Nat.reduceAdd, Nat.reduceMul, Nat.reduceSub, Nat.reduceEqDiff, Nat.reduceLeDiff, a2] | with_reducible refine guardK_nb (fun a2 => ?_) (fun a2 => ?_) <;> simp (maxSteps := 1000000) (disch := omega) only [go_sem, Nat.reduceAdd, Nat.reduceMul, Nat.reduceSub, Nat.reduceEqDiff, Nat.reduceLeDiff, a2] | with_reducible refine guardK_split (fun a2 => ?_) (fun a2 => ?_) <;> simp (maxSteps := 1000000) (disch := omega) only [go_sem, Nat.reduceAdd, Nat.reduceMul, Nat.reduceSub, Nat.reduceEqDiff, Nat.reduceLeDiff, a2] | with_reducible refine guardQ_dec (fun a2 => ?_) (fun a2 => ?_) <;> simp (maxSteps := 1000000) (disch := omega) only [go_sem, Nat.reduceAdd, Nat.reduceMul, Nat.reduceSub, Nat.reduceEqDiff, Nat.reduceLeDiff, a2] | with_reducible refine guardL_dec (fun a2 => ?_) (fun a2 => ?_) <;> simp (maxSteps := 1000000) (disch := omega) only [go_sem, Nat.reduceAdd, Nat.reduceMul, Nat.reduceSub, Nat.reduceEqDiff, Nat.reduceLeDiff, a2] | with_reducible refine guardQ_ndec (fun a2 => ?_) (fun a2 => ?_) <;> simp (maxSteps := 1000000) (disch := omega) only [go_sem, Nat.reduceAdd, Nat.reduceMul, Nat.reduceSub, Nat.reduceEqDiff, Nat.reduceLeDiff, a2] | with_reducible refine guardL_ndec (fun a2 => ?_) (fun a2 => ?_) <;> simp (maxSteps := 1000000) (disch := omega) only [go_sem, Nat.reduceAdd, Nat.reduceMul, Nat.reduceSub, Nat.reduceEqDiff, Nat.reduceLeDiff, a2] | with_reducible refine guardQ_nb (fun a2 => ?_) (fun a2 => ?_) <;> simp (maxSteps := 1000000) (disch := omega) only [go_sem, Nat.reduceAdd, Nat.reduceMul, Nat.reduceSub, Nat.reduceEqDiff, Nat.reduceLeDiff, a2] | with_reducible refine guardL_nb (fun a2 => ?_) (fun a2 => ?_) <;> simp (maxSteps := 1000000) (disch := omega) only [go_sem, Nat.reduceAdd, Nat.reduceMul, Nat.reduceSub, Nat.reduceEqDiff, Nat.reduceLeDiff, a2] | with_reducible refine guardQ_split (fun a2 => ?_) (fun a2 => ?_) <;> simp (maxSteps := 1000000) (disch := omega) only [go_sem, Nat.reduceAdd, Nat.reduceMul, Nat.reduceSub, Nat.reduceEqDiff, Nat.reduceLeDiff, a2] | with_reducible refine guardL_split (fun a2 => ?_) (fun a2 => ?_) <;> simp (maxSteps := 1000000) (disch := omega) only [go_sem, Nat.reduceAdd, Nat.reduceMul, Nat.reduceSub, Nat.reduceEqDiff, Nat.reduceLeDiff, a2])
    · simp (maxSteps := 1000000) (disch := omega) only [go_sem, Nat.reduceAdd, Nat.reduceMul, Nat.reduceSub, Nat.reduceEqDiff, Nat.reduceLeDiff, look_last]
      exact (fin fun hn => by unfold putOk at hn; omega)
    first | refine OpS.mk (Reads.ownI (GameGrid_own q hx)) (⟨_, Try.func17, rfl, rfl⟩ : Enters Try.prog 17) rfl rfl rfl rfl rfl ?_ | refine Loud.mk (Reads.ownI (GameGrid_own q hx)) (⟨_, Try.func17, rfl, rfl⟩ : Enters Try.prog 17) rfl rfl rfl rfl rfl ?_
    simp (maxSteps := 1000000) (disch := omega) only [go_sem, Nat.reduceAdd, Nat.reduceMul, Nat.reduceSub, Nat.reduceEqDiff, Nat.reduceLeDiff]
    obtain ⟨i, rfl⟩ : ∃ i : Nat, cell = i := ⟨cell.toNat, by omega⟩
    (first | with_reducible refine guardK_dec (fun a3 => ?_) (fun a3 => ?_) <;> simp (maxSteps := 1000000) (disch := omega) only [go_sem, Nat.reduceAdd, Nat.reduceMul, Nat.reduceSub, Nat.reduceEqDiff, Nat.reduceLeDiff, a3] | with_reducible refine guardK_ndec (fun a3 => ?_) (fun a3 => ?_) <;> simp (maxSteps := 1000000) (disch := omega) only [go_sem, Nat.reduceAdd, Nat.reduceMul, Nat.reduceSub, Nat.reduceEqDiff, Nat.reduceLeDiff, a3] | with_reducible refine guardK_nb (fun a3 => ?_) (fun a3 => ?_) <;> simp (maxSteps := 1000000) (disch := omega) only [go_sem, Nat.reduceAdd, Nat.reduceMul, Nat.reduceSub, Nat.reduceEqDiff, Nat.reduceLeDiff, a3] | with_reducible refine guardK_split (fun a3 => ?_) (fun a3 => ?_) <;> simp (maxSteps := 1000000) (disch := omega) only [go_sem, Nat.reduceAdd, Nat.reduceMul, Nat.reduceSub, Nat.reduceEqDiff, Nat.reduceLeDiff, a3] | with_reducible refine guardQ_dec (fun a3 => ?_) (fun a3 => ?_) <;> simp (maxSteps := 1000000) (disch := omega) only [go_sem, Nat.reduceAdd, Nat.reduceMul, Nat.reduceSub, Nat.reduceEqDiff, Nat.reduceLeDiff, a3] | with_reducible refine guardL_dec (fun a3 => ?_) (fun a3 => ?_) <;> simp (maxSteps := 1000000) (disch := omega) only [go_sem, Nat.reduceAdd, Nat.reduceMul, Nat.reduceSub, Nat.reduceEqDiff, Nat.reduceLeDiff, a3] | with_reducible refine guardQ_ndec (fun a3 => ?_) (fun a3 => ?_) <;> simp (maxSteps := 1000000) (disch := omega) only [go_sem, Nat.reduceAdd, Nat.reduceMul, Nat.reduceSub, Nat.reduceEqDiff, Nat.reduceLeDiff, a3] | with_reducible refine guardL_ndec (fun a3 => ?_) (fun a3 => ?_) <;> simp (maxSteps := 1000000) (disch := omega) only [go_sem, Nat.reduceAdd, Nat.reduceMul, Nat.reduceSub, Nat.reduceEqDiff, Nat.reduceLeDiff, a3] | with_reducible refine guardQ_nb (fun a3 => ?_) (fun a3 => ?_) <;> simp (maxSteps := 1000000) (disch := omega) only [go_sem, Nat.reduceAdd, Nat.reduceMul, Nat.reduceSub, Nat.reduceEqDiff, Nat.reduceLeDiff, a3] | with_reducible refine guardL_nb (fun a3 => ?_) (fun a3 => ?_) <;> simp (maxSteps := 1000000) (disch := omega) only [go_sem, Nat.reduceAdd, Nat.reduceMul, Nat.reduceSub, Nat.reduceEqDiff, Nat.reduceLeDiff, a3] | with_reducible refine guardQ_split (fun a3 => ?_) (fun a3 => ?_) <;> simp (maxSteps := 1000000) (disch := omega) only [go_sem, Nat.reduceAdd, Nat.reduceMul, Nat.reduceSub, Nat.reduceEqDiff, Nat.reduceLeDiff, a3] | with_reducible refine guardL_split (fun a3 => ?_) (fun a3 => ?_) <;> simp (maxSteps := 1000000) (disch := omega) only [go_sem, Nat.reduceAdd, Nat.reduceMul, Nat.reduceSub, Nat.reduceEqDiff, Nat.reduceLeDiff, a3])
    · simp (maxSteps := 1000000) (disch := omega) only [go_sem, Nat.reduceAdd, Nat.reduceMul, Nat.reduceSub, Nat.reduceEqDiff, Nat.reduceLeDiff, look_last]
      exact (fin fun hn => by unfold putOk at hn; omega)
    (first | with_reducible refine guardK_dec (fun a4 => ?_) (fun a4 => ?_) <;> simp (maxSteps := 1000000) (disch := omega) only [go_sem, Nat.reduceAdd, Nat.reduceMul, Nat.reduceSub, Nat.reduceEqDiff, Nat.reduceLeDiff, a4] | with_reducible refine guardK_ndec (fun a4 => ?_) (fun a4 => ?_) <;> simp (maxSteps := 1000000) (disch := omega) only [go_sem, Nat.reduceAdd, Nat.reduceMul, Nat.reduceSub, Nat.reduceEqDiff, Nat.reduceLeDiff, a4] | with_reducible refine guardK_nb (fun a4 => ?_) (fun a4 => ?_) <;> simp (maxSteps := 1000000) (disch := omega) only [go_sem, Nat.reduceAdd, Nat.reduceMul, Nat.reduceSub, Nat.reduceEqDiff, Nat.reduceLeDiff, a4] | with_reducible refine guardK_split (fun a4 => ?_) (fun a4 => ?_) <;> simp (maxSteps := 1000000) (disch := omega) only [go_sem, Nat.reduceAdd, Nat.reduceMul, Nat.reduceSub, Nat.reduceEqDiff, Nat.reduceLeDiff, a4] | with_reducible refine guardQ_dec (fun a4 => ?_) (fun a4 => ?_) <;> simp (maxSteps := 1000000) (disch := omega) only [go_sem, Nat.reduceAdd, Nat.reduceMul, Nat.reduceSub, Nat.reduceEqDiff, Nat.reduceLeDiff, a4] | with_reducible refine guardL_dec (fun a4 => ?_) (fun a4 => ?_) <;> simp (maxSteps := 1000000) (disch := omega) only [go_sem, Nat.reduceAdd, Nat.reduceMul, Nat.reduceSub, Nat.reduceEqDiff, Nat.reduceLeDiff, a4] | with_reducible refine guardQ_ndec (fun a4 => ?_) (fun a4 => ?_) <;> simp (maxSteps := 1000000) (disch := omega) only [go_sem, Nat.reduceAdd, Nat.reduceMul, Nat.reduceSub, Nat.reduceEqDiff, Nat.reduceLeDiff, a4] | with_reducible refine guardL_ndec (fun a4 => ?_) (fun a4 => ?_) <;> simp (maxSteps := 1000000) (disch := omega) only [go_sem, Nat.reduceAdd, Nat.reduceMul, Nat.reduceSub, Nat.reduceEqDiff, Nat.reduceLeDiff, a4] | with_reducible refine guardQ_nb (fun a4 => ?_) (fun a4 => ?_) <;> simp (maxSteps := 1000000) (disch := omega) only [go_sem, Nat.reduceAdd, Nat.reduceMul, Nat.reduceSub, Nat.reduceEqDiff, Nat.reduceLeDiff, a4] | with_reducible refine guardL_nb (fun a4 => ?_) (fun a4 => ?_) <;> simp (maxSteps := 1000000) (disch := omega) only [go_sem, Nat.reduceAdd, Nat.reduceMul, Nat.reduceSub, Nat.reduceEqDiff, Nat.reduceLeDiff, a4] | with_reducible refine guardQ_split (fun a4 => ?_) (fun a4 => ?_) <;> simp (maxSteps := 1000000) (disch := omega) only [go_sem, Nat.reduceAdd, Nat.reduceMul, Nat.reduceSub, Nat.reduceEqDiff, Nat.reduceLeDiff, a4] | with_reducible refine guardL_split (fun a4 => ?_) (fun a4 => ?_) <;> simp (maxSteps := 1000000) (disch := omega) only [go_sem, Nat.reduceAdd, Nat.reduceMul, Nat.reduceSub, Nat.reduceEqDiff, Nat.reduceLeDiff, a4])
    · simp (maxSteps := 1000000) (disch := omega) only [go_sem, Nat.reduceAdd, Nat.reduceMul, Nat.reduceSub, Nat.reduceEqDiff, Nat.reduceLeDiff, look_last]
      exact (fin fun hn => by unfold putOk at hn; omega)
    (first | with_reducible refine condK_dec (fun a5 => ?_) (fun a5 => ?_) | with_reducible refine condK_ndec (fun a5 => ?_) (fun a5 => ?_) | with_reducible refine condK_nb (fun a5 => ?_) (fun a5 => ?_) | refine condK_b (fun a5 => ?_) (fun a5 => ?_))
    · simp (maxSteps := 1000000) (disch := omega) only [go_sem, Nat.reduceAdd, Nat.reduceMul, Nat.reduceSub, Nat.reduceEqDiff, Nat.reduceLeDiff, look_last]
      exact (fin fun hn => by unfold putOk at hn; omega)
    have ok : putOk q i value := ⟨by omega, by omega, by omega, by omega, by omega⟩
    have r1 : gamePut q i value = ⟨q.task, q.put.set i value, q.moves ++ [(i : Int)]⟩ := by simp [gamePut, h, ok]
    have r2 : gamePutB q i value = true := by simp [gamePutB, h, ok]
    have hne : q.put ≠ [] := by intro h0; rw [h0] at a2; simp at a2
    obtain ⟨HA, hHA⟩ : ∃ HA : Heap, HA = some ⟨g1, 1, cG q⟩ :: some ⟨g2, 5, [.f (.int .i64 0), .f .nil, .f .nil, .f .nil, .f .nil]⟩ :: (H1 ++ [some ⟨g3, 5, [.f (.int .i64 q.task.size), c1, c2, c3, c4]⟩]) := ⟨_, rfl⟩
    have e1 := k1.same (H' := HA) fun k hk => by rw [hHA]; exact mv k (m1 k hk)
    have e2 := k2.same (H' := HA) fun k hk => by rw [hHA]; exact mv k (m2 k hk)
    have e3 := k3.same (H' := HA) fun k hk => by rw [hHA]; exact mv k (m3 k hk)
    have e4 := k4.same (H' := HA) fun k hk => by rw [hHA]; exact mv k (m4 k hk)
    have b1 : look HA 1 g2 = some ⟨g2, 5, [.f (.int .i64 0), .f .nil, .f .nil, .f .nil, .f .nil]⟩ := by rw [hHA]; simp only [go_sem]
    have b2 : look HA (H1.length + 1 + 1) g3 = some ⟨g3, 5, [.f (.int .i64 q.task.size), c1, c2, c3, c4]⟩ := by rw [hHA]; simp only [go_sem]; exact look_last
    have hlA : HA.length = H1.length + 3 := by rw [hHA]; simp
    rw [← hHA]
    clear hHA
    obtain ⟨id3, g4, lim3, ys, rfl, rfl, l3⟩ := e3.inv hne
    have hi3 := m3 id3 (by simp)
    have hil : i < q.put.length := by omega
    have hil2 : i < (q.put ++ ys).length := by simp; omega
    simp (maxSteps := 1000000) (disch := omega) only [go_sem, Nat.reduceAdd, Nat.reduceMul, Nat.reduceSub, Nat.reduceEqDiff, Nat.reduceLeDiff, b2, l3]
    rw [Int.toNat_natCast, List.set_append_left _ _ hil]
    have hlt3 : id3 < HA.length := by omega
    obtain ⟨n1, n2, n3, n12⟩ := nodup4_dis kn
    obtain ⟨HB, hHB⟩ : ∃ HB : Heap, HB = HA.set id3 (some ⟨g4, 1, cl (eI .i64) (q.put.set i value ++ ys)⟩) := ⟨_, rfl⟩
    have hB : ∀ k, k ≠ id3 → HB[k]? = HA[k]? := fun k hk => by rw [hHB, List.getElem?_set_ne (Ne.symm hk)]
    have hlB : HB.length = H1.length + 3 := by rw [hHB, List.length_set, hlA]
    have f1 := e1.same (H' := HB) fun k hk => hB k fun he => (n1 k hk).1 (by simp [he])
    have f2 := e2.same (H' := HB) fun k hk => hB k fun he => (n2 k hk).1 (by simp [he])
    have f4 := e4.same (H' := HB) fun k hk => hB k fun he => n3 id3 (by simp) (he ▸ hk)
    have f3 : OwnI HB (.own id3 g4 0 q.put.length lim3) (q.put.set i value) [id3] := by
      have := OwnI.o (H := HB) id3 g4 lim3 (q.put.set i value) ys (by rw [hHB]; exact look_of (b := ⟨g4, 1, cl (eI .i64) (q.put.set i value ++ ys)⟩) (by rw [List.getElem?_set_self hlt3]))
      rwa [List.length_set] at this
    have b3 : look HB 1 g2 = some ⟨g2, 5, [.f (.int .i64 0), .f .nil, .f .nil, .f .nil, .f .nil]⟩ := by unfold look; rw [hB 1 (by omega)]; exact b1
    have b4 : look HB (H1.length + 1 + 1) g3 = some ⟨g3, 5, [.f (.int .i64 q.task.size), c1, c2, .own id3 g4 0 q.put.length lim3, c4]⟩ := by unfold look; rw [hB _ (by omega)]; exact b2
    rw [← hHB]
    clear hHB e1 e2 e3 e4 b1 b2 l3
    simp (maxSteps := 1000000) (disch := omega) only [go_sem, Nat.reduceAdd, Nat.reduceMul, Nat.reduceSub, Nat.reduceEqDiff, Nat.reduceLeDiff, b4]
    intro g5
    have hlt8 : H1.length + 1 + 1 < HB.length := by omega
    refine appendM_A (sliceOf_of ti22 rfl ti3) ⟨rfl, rfl, rfl⟩ (f4.same fun k hk => List.getElem?_append_left (f4.lt k hk)) (by omega) look_last ?_
    intro c5 HC S5 hA hC hS5 hlC
    rw [List.length_append, List.length_singleton] at hlC hS5
    have hC' : ∀ k, k < HB.length → k ∉ S4 → HC[k]? = HB[k]? := fun k hk hn => by rw [hC k (by rw [List.length_append]; omega) hn, List.getElem?_append_left hk]
    have b5 : look HC 1 g2 = some ⟨g2, 5, [.f (.int .i64 0), .f .nil, .f .nil, .f .nil, .f .nil]⟩ := by unfold look; rw [hC' 1 (by omega) fun hm => by have := m4 _ hm; omega]; exact b3
    have b6 : look HC (H1.length + 1 + 1) g3 = some ⟨g3, 5, [.f (.int .i64 q.task.size), c1, c2, .own id3 g4 0 q.put.length lim3, c4]⟩ := by unfold look; rw [hC' _ hlt8 fun hm => by have := m4 _ hm; omega]; exact b4
    simp (maxSteps := 1000000) (disch := omega) only [go_sem, Nat.reduceAdd, Nat.reduceMul, Nat.reduceSub, Nat.reduceEqDiff, Nat.reduceLeDiff, b6]
    rw [look_set_eq (by omega)]
    simp (maxSteps := 1000000) (disch := omega) only [go_sem, Nat.reduceAdd, Nat.reduceMul, Nat.reduceSub, Nat.reduceEqDiff, Nat.reduceLeDiff]
    rw [look_set_ne (by omega), b5]
    simp (maxSteps := 1000000) (disch := omega) only [go_sem, Nat.reduceAdd, Nat.reduceMul, Nat.reduceSub, Nat.reduceEqDiff, Nat.reduceLeDiff]
    rw [look_set_eq (by rw [List.length_set]; omega)]
    simp (maxSteps := 1000000) (disch := omega) only [go_sem, Nat.reduceAdd, Nat.reduceMul, Nat.reduceSub, Nat.reduceEqDiff, Nat.reduceLeDiff]
    have hD : ∀ {X Y : Option Blk}, ∀ k, 2 ≤ k ∧ k < 2 + H1.length ∨ HB.length + 1 ≤ k → ((HC.set (H1.length + 1 + 1) X).set 1 Y)[k]? = HC[k]? := fun k hk => by
      rw [List.getElem?_set_ne (by omega), List.getElem?_set_ne (by omega)]
    have hD4 : ∀ {X Y : Option Blk}, ∀ k ∈ S5, ((HC.set (H1.length + 1 + 1) X).set 1 Y)[k]? = HC[k]? := fun k hk => hD k (by
      rcases hS5 k hk with h5 | h5
      · exact .inl (m4 k h5)
      · exact .inr (by omega))
    have hD' : ∀ {X Y : Option Blk}, ∀ k, 2 ≤ k ∧ k < 2 + H1.length → k ∉ S4 → ((HC.set (H1.length + 1 + 1) X).set 1 Y)[k]? = HB[k]? := fun k hk hn => by rw [hD k (.inl hk), hC' k (by omega) hn]
    refine gam_fin (q := ⟨q.task, q.put.set i value, q.moves ++ [(i : Int)]⟩) r1 r2 (f1.same fun k hk => hD' k (m1 k hk) (n1 k hk).2) (f2.same fun k hk => hD' k (m2 k hk) (n2 k hk).2) (f3.same fun k hk => hD' k (m3 k hk) (n3 k hk)) (hA.same hD4)
      (nodup4_new (N := HB.length + 1) kn hA.nd hS5 (fun k hk => by have := m1 k hk; omega) (fun k hk => by have := m2 k hk; omega) (fun k hk => by have := m3 k hk; omega))
  · simp (maxSteps := 1000000) (disch := omega) only [go_sem, Nat.reduceAdd, Nat.reduceMul, Nat.reduceSub, Nat.reduceEqDiff, Nat.reduceLeDiff]
    refine gam_fin0 ?_ ?_
    · simp [gamePut, h, zeroG]
    · simp [gamePutB, h]
end Go.Lg
