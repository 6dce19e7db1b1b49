/- What the laws' helpers do. -/
import Derived.Test.YtabihehfemedcaaLgT2
set_option linter.unusedSimpArgs false
set_option linter.unusedVariables false
set_option maxRecDepth 100000
namespace Go.Lg
open Go.Proofs

theorem markIntS_run (H : Heap) (id g : Nat) (xs : List Int) (k : Int) (hl : look H id g = some ⟨g, 1, cl (eI .i64) xs⟩) (hk : 0 ≤ k ∧ k ≤ 2 ^ 50) (hx : xs.length ≤ 2 ^ 40) :
    RunCall Try.prog 43 [.c (.own id g 0 xs.length none), int k] H (fun r H' => r = int (k + xs.length) ∧ H' = H.set id (some ⟨g, 1, cl (eI .i64) (marks k xs.length)⟩)) := by
  refine RunCall.cw (c := _) Try.func43 rfl (n := 19) Try.ntmps43 (rs := [.tmp 4]) rfl ?_
  simp only [List.length_cons, List.length_nil, Nat.reduceAdd, Nat.reduceSub, List.replicate, List.cons_append, List.nil_append]
  simp (maxSteps := 1000000) (disch := omega) only [go_sem, Nat.reduceAdd, Nat.reduceMul, Nat.reduceSub, Nat.reduceEqDiff, Nat.reduceLeDiff]
  have hid : H[id]? = some (some ⟨g, 1, cl (eI .i64) xs⟩) := (look_some hl).1
  have hlt : id < H.length := (List.getElem?_eq_some_iff.1 hid).1
  have hs : ∀ ys : List Int, look (H.set id (some ⟨g, 1, cl (eI .i64) ys⟩)) id g = some ⟨g, 1, cl (eI .i64) ys⟩ := fun ys => look_of (b := ⟨g, 1, cl (eI .i64) ys⟩) (by rw [List.getElem?_set_self hlt])
  refine loop_rule2 (fun (i : Nat) (ys : List Int) => xs.length - i) (fun i ys => i ≤ xs.length ∧ ys.length = xs.length ∧ ∀ j : Nat, j < i → nth ys j = k + j) (fun i _ => [.k, .p (int (k + i)), .a, .a, .a, .p (int i), .a, .a, .a, .a, .a, .a, .a, .a, .a, .a, .a, .a, .a]) (fun _ ys => H.set id (some ⟨g, 1, cl (eI .i64) ys⟩)) 0 xs
    ⟨Nat.zero_le _, rfl, fun j hj => absurd hj (Nat.not_lt_zero _)⟩ (by simp (maxSteps := 1000000) (disch := omega) only [go_sem, Nat.reduceAdd, Nat.reduceMul, Nat.reduceSub, Nat.reduceEqDiff, Nat.reduceLeDiff]; simp) (hle_set_same hid) ?_
  rintro i ys ⟨hi, hly, hall⟩
  simp (maxSteps := 1000000) (disch := omega) only [go_sem, Nat.reduceAdd, Nat.reduceMul, Nat.reduceSub, Nat.reduceEqDiff, Nat.reduceLeDiff, hs]
  refine condK_split (fun h => ?_) (fun h => ?_)
  · have h : i < xs.length := by simpa using h
    simp (maxSteps := 1000000) (disch := omega) only [go_sem, Nat.reduceAdd, Nat.reduceMul, Nat.reduceSub, Nat.reduceEqDiff, Nat.reduceLeDiff, hs]
    refine ⟨i + 1, ys.set i (k + i), ⟨⟨h, by simp [hly], fun j hj => ?_⟩, by omega⟩, ⟨by push_cast; omega, by push_cast; omega⟩, by rw [List.set_set]; exact HLe.refl _⟩
    rw [nth_set _ _ _ _ (by omega) (by omega)]
    split
    · omega
    · exact hall j (by omega)
  have h : i = xs.length := by have : ¬ i < xs.length := by simpa using h
                               omega
  subst h
  simp (maxSteps := 1000000) (disch := omega) only [go_sem, Nat.reduceAdd, Nat.reduceMul, Nat.reduceSub, Nat.reduceEqDiff, Nat.reduceLeDiff]
  have : ys = marks k xs.length := ext_nth (by rw [hly, marks_length]) fun j hj => by rw [hall j (by omega), marks_nth (by omega)]
  subst this
  exact ⟨_, HLe.refl _, rfl, rfl⟩
theorem markNil_run (k : Int) : Reads Try.prog 43 [ints [], int k] (int k) := by
  refine RunCall.cw (c := _) Try.func43 rfl (n := 19) Try.ntmps43 (rs := [.tmp 4]) rfl ?_
  simp only [List.length_cons, List.length_nil, Nat.reduceAdd, Nat.reduceSub, List.replicate, List.cons_append, List.nil_append]
  simp (maxSteps := 1000000) (disch := omega) only [go_sem, Nat.reduceAdd, Nat.reduceMul, Nat.reduceSub, Nat.reduceEqDiff, Nat.reduceLeDiff]
  refine loop_rule (fun _ : Unit => 0) (fun _ => True) (fun _ => [.k, .p (int k), .a, .a, .a, .p (int 0), .a, .a, .a, .a, .a, .a, .a, .a, .a, .a, .a, .a, .a]) (fun _ => []) () trivial (by simp (maxSteps := 1000000) (disch := omega) only [go_sem, Nat.reduceAdd, Nat.reduceMul, Nat.reduceSub, Nat.reduceEqDiff, Nat.reduceLeDiff]) (hle_nil _) ?_
  intro _ _
  simp (maxSteps := 1000000) (disch := omega) only [go_sem, Nat.reduceAdd, Nat.reduceMul, Nat.reduceSub, Nat.reduceEqDiff, Nat.reduceLeDiff]
  simp only [show decide ((0 : Int) < ((0 : Nat) : Int)) = false from rfl]
  simp (maxSteps := 1000000) (disch := omega) only [go_sem, Nat.reduceAdd, Nat.reduceMul, Nat.reduceSub, Nat.reduceEqDiff, Nat.reduceLeDiff]
theorem heldIntS_run (n : Nat) (k : Int) (hk : 0 ≤ k ∧ k ≤ 2 ^ 50) (hx : n ≤ 2 ^ 40) : Reads Try.prog 44 [ints (marks k n), int k] (int (k + n)) := by
  refine RunCall.cw (c := _) Try.func44 rfl (n := 21) Try.ntmps44 (rs := [.tmp 4]) rfl ?_
  simp only [List.length_cons, List.length_nil, Nat.reduceAdd, Nat.reduceSub, List.replicate, List.cons_append, List.nil_append]
  simp (maxSteps := 1000000) (disch := omega) only [go_sem, Nat.reduceAdd, Nat.reduceMul, Nat.reduceSub, Nat.reduceEqDiff, Nat.reduceLeDiff]
  have hm := marks_length k n
  refine loop_rule (fun (i : Nat) => n - i) (fun i => i ≤ n) (fun i => [.k, .p (int (k + i)), .a, .a, .a, .p (int i), .a, .a, .a, .a, .a, .a, .a, .a, .a, .a, .a, .a, .a, .a, .a]) (fun _ => []) 0
    (Nat.zero_le _) (by simp (maxSteps := 1000000) (disch := omega) only [go_sem, Nat.reduceAdd, Nat.reduceMul, Nat.reduceSub, Nat.reduceEqDiff, Nat.reduceLeDiff]; simp) (hle_nil _) ?_
  intro i hi
  simp (maxSteps := 1000000) (disch := omega) only [go_sem, Nat.reduceAdd, Nat.reduceMul, Nat.reduceSub, Nat.reduceEqDiff, Nat.reduceLeDiff, marks_length]
  refine condK_split (fun h => ?_) (fun h => ?_)
  · have h : i < n := by simpa using h
    simp (maxSteps := 1000000) (disch := omega) only [go_sem, Nat.reduceAdd, Nat.reduceMul, Nat.reduceSub, Nat.reduceEqDiff, Nat.reduceLeDiff, marks_length, marks_nth h]
    exact ⟨i + 1, ⟨h, by omega⟩, ⟨by push_cast; omega, by push_cast; omega⟩, hle_nil _⟩
  have h : i = n := by have : ¬ i < n := by simpa using h
                       omega
  subst h
  simp (maxSteps := 1000000) (disch := omega) only [go_sem, Nat.reduceAdd, Nat.reduceMul, Nat.reduceSub, Nat.reduceEqDiff, Nat.reduceLeDiff]
end Go.Lg
