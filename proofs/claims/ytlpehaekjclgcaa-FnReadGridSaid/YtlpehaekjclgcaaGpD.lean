/- Lists of texts: what the laws' helpers do; the rows of a grid. -/
import Derived.Test.YtlpehaekjclgcaaGpC
set_option linter.unusedSimpArgs false
set_option linter.unusedVariables false
set_option maxRecDepth 100000
namespace Go.Lg
open Go.Proofs

theorem eqStringS_run (xs ys : List (List UInt8)) (hx : xs.length ≤ 2 ^ 40) : Reads Try.prog 22 [rsl eS xs, rsl eS ys] (bool (decide (xs = ys))) := by
  refine RunCall.cw (c := _) Try.func22 rfl (n := 26) Try.ntmps22 (rs := [.tmp 4]) rfl ?_
  simp only [List.length_cons, List.length_nil, Nat.reduceAdd, Nat.reduceSub, List.replicate, List.cons_append, List.nil_append]
  simp (maxSteps := 1000000) (disch := omega) only [go_sem, Nat.reduceAdd, Nat.reduceMul, Nat.reduceSub, Nat.reduceEqDiff, Nat.reduceLeDiff]
  refine condK_split (fun h => ?_) (fun h => ?_) <;> simp (maxSteps := 1000000) (disch := omega) only [go_sem, Nat.reduceAdd, Nat.reduceMul, Nat.reduceSub, Nat.reduceEqDiff, Nat.reduceLeDiff]
  · simp at h
    symm; simp; intro h2; exact h (by rw [h2])
  have hl : xs.length = ys.length := by simp at h; omega
  refine loop_rule (fun i : Nat => xs.length - i) (fun i => i ≤ xs.length ∧ ∀ j : Nat, j < i → nth xs j = nth ys j) (fun i => [.k, .k, .a, .a, .a, .p (int i), .a, .a, .a, .a, .a, .a, .a, .a, .a, .a, .a, .a, .a, .a, .a, .a, .a, .a, .a, .a]) (fun i => []) 0
    ⟨Nat.zero_le _, fun j hj => absurd hj (Nat.not_lt_zero _)⟩ (by simp (maxSteps := 1000000) (disch := omega) only [go_sem, Nat.reduceAdd, Nat.reduceMul, Nat.reduceSub, Nat.reduceEqDiff, Nat.reduceLeDiff]; rfl) (hle_nil _) ?_
  rintro i ⟨hi, hall⟩
  simp (maxSteps := 1000000) (disch := omega) only [go_sem, Nat.reduceAdd, Nat.reduceMul, Nat.reduceSub, Nat.reduceEqDiff, Nat.reduceLeDiff]
  refine condK_split (fun h => ?_) (fun h => ?_)
  · have h : i < xs.length := by simpa using h
    simp (maxSteps := 1000000) (disch := omega) only [go_sem, Nat.reduceAdd, Nat.reduceMul, Nat.reduceSub, Nat.reduceEqDiff, Nat.reduceLeDiff]
    refine drawP_q foll (by kernel_rfl) ?_
    simp (maxSteps := 1000000) (disch := omega) only [go_sem, Nat.reduceBEq, Bool.true_or, Nat.reduceAdd, Nat.reduceMul, Nat.reduceSub, Nat.reduceEqDiff, Nat.reduceLeDiff]
    refine condK_split (fun h => ?_) (fun h => ?_) <;> simp (maxSteps := 1000000) (disch := omega) only [go_sem, Nat.reduceAdd, Nat.reduceMul, Nat.reduceSub, Nat.reduceEqDiff, Nat.reduceLeDiff]
    · simp at h
      symm; simp; intro h2; exact h (by rw [h2])
    simp at h
    refine ⟨i + 1, ⟨⟨by omega, fun j hj => ?_⟩, by omega⟩, by omega, hle_nil _⟩
    rcases Nat.lt_succ_iff_lt_or_eq.1 hj with hj | rfl
    · exact hall j hj
    · exact h
  have h : ¬ i < xs.length := by simpa using h
  simp (maxSteps := 1000000) (disch := omega) only [go_sem, Nat.reduceAdd, Nat.reduceMul, Nat.reduceSub, Nat.reduceEqDiff, Nat.reduceLeDiff]
  have := ext_nth hl fun j hj => hall j (by omega)
  simp [this]
theorem tmod10 (m : Nat) : (m : Int).tmod 10 = ((m % 10 : Nat) : Int) := rfl
theorem tdiv10 (m : Nat) : (m : Int).tdiv 10 = ((m / 10 : Nat) : Int) := rfl
theorem markText_run (k : Int) (hk : 0 ≤ k ∧ k ≤ 2 ^ 51) : Reads Try.prog 49 [int k] (txt (mtext k)) := by
  refine RunCall.cw (c := _) Try.func49 rfl (n := 20) Try.ntmps49 (rs := [.tmp 2]) rfl ?_
  simp only [List.length_cons, List.length_nil, Nat.reduceAdd, Nat.reduceSub, List.replicate, List.cons_append, List.nil_append]
  simp (maxSteps := 1000000) (disch := omega) only [go_sem, Nat.reduceAdd, Nat.reduceMul, Nat.reduceSub, Nat.reduceEqDiff, Nat.reduceLeDiff]
  refine condK_split (fun h => ?_) (fun h => ?_)
  · simp (maxSteps := 1000000) (disch := omega) only [go_sem, Nat.reduceAdd, Nat.reduceMul, Nat.reduceSub, Nat.reduceEqDiff, Nat.reduceLeDiff]
    simp at h
    simp [mtext, h]
  simp at h
  simp (maxSteps := 1000000) (disch := omega) only [go_sem, Nat.reduceAdd, Nat.reduceMul, Nat.reduceSub, Nat.reduceEqDiff, Nat.reduceLeDiff]
  have hk0 : k = (k.toNat : Int) := by omega
  refine loop_rule2 (fun (m : Nat) (out : List UInt8) => m) (fun m out => digs k.toNat [] = digs m out ∧ out.length + m ≤ k.toNat) (fun m out => [.p (int m), .a, .a, .p (txt out), .a, .a, .a, .a, .a, .a, .a, .a, .a, .a, .a, .a, .a, .a, .a, .a]) (fun _ _ => []) k.toNat []
    ⟨rfl, by simp⟩ (by simp (maxSteps := 1000000) (disch := omega) only [go_sem, Nat.reduceAdd, Nat.reduceMul, Nat.reduceSub, Nat.reduceEqDiff, Nat.reduceLeDiff]; omega) (hle_nil _) ?_
  rintro m out ⟨h1, h2⟩
  simp (maxSteps := 1000000) (disch := omega) only [go_sem, Nat.reduceAdd, Nat.reduceMul, Nat.reduceSub, Nat.reduceEqDiff, Nat.reduceLeDiff]
  refine condK_split (fun h3 => ?_) (fun h3 => ?_)
  · have h3 : 0 < m := by simpa using h3
    have hm : m % 10 < 10 := Nat.mod_lt _ (by omega)
    have hd : m / 10 < m := Nat.div_lt_self h3 (by omega)
    simp (maxSteps := 1000000) (disch := omega) only [go_sem, Nat.reduceAdd, Nat.reduceMul, Nat.reduceSub, Nat.reduceEqDiff, Nat.reduceLeDiff, tmod10, tdiv10]
    intro g
    refine ⟨m / 10, u8 (48 + ((m % 10 : Nat) : Int)) :: out, ⟨⟨?_, by simp only [List.length_cons]; omega⟩, hd⟩, ⟨rfl, rfl⟩, hle_nil _⟩
    rw [h1, digs, dif_neg (by omega)]
  have h3 : m = 0 := by simpa using h3
  subst h3
  simp (maxSteps := 1000000) (disch := omega) only [go_sem, Nat.reduceAdd, Nat.reduceMul, Nat.reduceSub, Nat.reduceEqDiff, Nat.reduceLeDiff]
  have : digs 0 out = out := by rw [digs]; simp
  simp only [mtext]
  rw [if_neg (by omega), h1, this]
theorem markStringS_run (H : Heap) (id g : Nat) (xs : List (List UInt8)) (k : Int) (hl : look H id g = some ⟨g, 1, cl eS xs⟩) (hk : 0 ≤ k ∧ k ≤ 2 ^ 50) (hx : xs.length ≤ 2 ^ 40) :
    RunCall Try.prog 23 [.c (.own id g 0 xs.length none), int k] H (fun r H' => r = int (k + xs.length) ∧ H' = H.set id (some ⟨g, 1, cl eS (markS k xs.length)⟩)) := by
  refine RunCall.cw (c := _) Try.func23 rfl (n := 20) Try.ntmps23 (rs := [.tmp 4]) rfl ?_
  simp only [List.length_cons, List.length_nil, Nat.reduceAdd, Nat.reduceSub, List.replicate, List.cons_append, List.nil_append]
  simp (maxSteps := 1000000) (disch := omega) only [go_sem, Nat.reduceAdd, Nat.reduceMul, Nat.reduceSub, Nat.reduceEqDiff, Nat.reduceLeDiff]
  have hid : H[id]? = some (some ⟨g, 1, cl eS xs⟩) := (look_some hl).1
  have hlt : id < H.length := (List.getElem?_eq_some_iff.1 hid).1
  have hs : ∀ ys : List (List UInt8), look (H.set id (some ⟨g, 1, cl eS ys⟩)) id g = some ⟨g, 1, cl eS ys⟩ := fun ys => look_of (b := ⟨g, 1, cl eS ys⟩) (by rw [List.getElem?_set_self hlt])
  refine loop_rule2 (fun (i : Nat) (ys : List (List UInt8)) => xs.length - i) (fun i ys => i ≤ xs.length ∧ ys.length = xs.length ∧ ∀ j : Nat, j < i → nth ys j = mtext (k + j)) (fun i _ => [.k, .p (int (k + i)), .a, .a, .a, .p (int i), .a, .a, .a, .a, .a, .a, .a, .a, .a, .a, .a, .a, .a, .a]) (fun _ ys => H.set id (some ⟨g, 1, cl eS ys⟩)) 0 xs
    ⟨Nat.zero_le _, rfl, fun j hj => absurd hj (Nat.not_lt_zero _)⟩ (by simp (maxSteps := 1000000) (disch := omega) only [go_sem, Nat.reduceAdd, Nat.reduceMul, Nat.reduceSub, Nat.reduceEqDiff, Nat.reduceLeDiff]; simp) (hle_set_same hid) ?_
  rintro i ys ⟨hi, hly, hall⟩
  simp (maxSteps := 1000000) (disch := omega) only [go_sem, Nat.reduceAdd, Nat.reduceMul, Nat.reduceSub, Nat.reduceEqDiff, Nat.reduceLeDiff, hs]
  refine condK_split (fun h => ?_) (fun h => ?_)
  · have h : i < xs.length := by simpa using h
    simp (maxSteps := 1000000) (disch := omega) only [go_sem, Nat.reduceAdd, Nat.reduceMul, Nat.reduceSub, Nat.reduceEqDiff, Nat.reduceLeDiff, hs]
    refine OpS.rd (markText_run (k + i) (by omega)) (⟨_, Try.func49, rfl, rfl⟩ : Enters Try.prog 49) rfl rfl rfl rfl ?_
    simp (maxSteps := 1000000) (disch := omega) only [go_sem, Nat.reduceAdd, Nat.reduceMul, Nat.reduceSub, Nat.reduceEqDiff, Nat.reduceLeDiff, hs]
    refine ⟨i + 1, ys.set i (mtext (k + i)), ⟨⟨h, by simp [hly], fun j hj => ?_⟩, by omega⟩, ⟨by push_cast; omega, by push_cast; omega⟩, by rw [List.set_set]; exact HLe.refl _⟩
    rw [nth_set _ _ _ _ (by omega) (by omega)]
    split
    · rw [show (j : Int) = i by omega]
    · exact hall j (by omega)
  have h : i = xs.length := by have : ¬ i < xs.length := by simpa using h
                               omega
  subst h
  simp (maxSteps := 1000000) (disch := omega) only [go_sem, Nat.reduceAdd, Nat.reduceMul, Nat.reduceSub, Nat.reduceEqDiff, Nat.reduceLeDiff]
  have : ys = markS k xs.length := ext_nth (by rw [hly, markS_length]) fun j hj => by rw [hall j (by omega), markS_nth (by omega)]
  subst this
  exact ⟨_, HLe.refl _, rfl, rfl⟩
theorem markNilS_run (k : Int) : Reads Try.prog 23 [rsl eS [], int k] (int k) := by
  refine RunCall.cw (c := _) Try.func23 rfl (n := 20) Try.ntmps23 (rs := [.tmp 4]) rfl ?_
  simp only [List.length_cons, List.length_nil, Nat.reduceAdd, Nat.reduceSub, List.replicate, List.cons_append, List.nil_append]
  simp (maxSteps := 1000000) (disch := omega) only [go_sem, Nat.reduceAdd, Nat.reduceMul, Nat.reduceSub, Nat.reduceEqDiff, Nat.reduceLeDiff]
  refine loop_rule (fun _ : Unit => 0) (fun _ => True) (fun _ => [.k, .p (int k), .a, .a, .a, .p (int 0), .a, .a, .a, .a, .a, .a, .a, .a, .a, .a, .a, .a, .a, .a]) (fun _ => []) () trivial (by simp (maxSteps := 1000000) (disch := omega) only [go_sem, Nat.reduceAdd, Nat.reduceMul, Nat.reduceSub, Nat.reduceEqDiff, Nat.reduceLeDiff]) (hle_nil _) ?_
  intro _ _
  simp (maxSteps := 1000000) (disch := omega) only [go_sem, Nat.reduceAdd, Nat.reduceMul, Nat.reduceSub, Nat.reduceEqDiff, Nat.reduceLeDiff]
  simp only [show decide ((0 : Int) < ((0 : Nat) : Int)) = false from rfl]
  simp (maxSteps := 1000000) (disch := omega) only [go_sem, Nat.reduceAdd, Nat.reduceMul, Nat.reduceSub, Nat.reduceEqDiff, Nat.reduceLeDiff]
theorem heldStringS_run (n : Nat) (k : Int) (hk : 0 ≤ k ∧ k ≤ 2 ^ 50) (hx : n ≤ 2 ^ 40) : Reads Try.prog 24 [rsl eS (markS k n), int k] (int (k + n)) := by
  refine RunCall.cw (c := _) Try.func24 rfl (n := 22) Try.ntmps24 (rs := [.tmp 4]) rfl ?_
  simp only [List.length_cons, List.length_nil, Nat.reduceAdd, Nat.reduceSub, List.replicate, List.cons_append, List.nil_append]
  simp (maxSteps := 1000000) (disch := omega) only [go_sem, Nat.reduceAdd, Nat.reduceMul, Nat.reduceSub, Nat.reduceEqDiff, Nat.reduceLeDiff]
  have hm := markS_length k n
  refine loop_rule (fun (i : Nat) => n - i) (fun i => i ≤ n) (fun i => [.k, .p (int (k + i)), .a, .a, .a, .p (int i), .a, .a, .a, .a, .a, .a, .a, .a, .a, .a, .a, .a, .a, .a, .a, .a]) (fun _ => []) 0
    (Nat.zero_le _) (by simp (maxSteps := 1000000) (disch := omega) only [go_sem, Nat.reduceAdd, Nat.reduceMul, Nat.reduceSub, Nat.reduceEqDiff, Nat.reduceLeDiff]; simp) (hle_nil _) ?_
  intro i hi
  simp (maxSteps := 1000000) (disch := omega) only [go_sem, Nat.reduceAdd, Nat.reduceMul, Nat.reduceSub, Nat.reduceEqDiff, Nat.reduceLeDiff, markS_length]
  refine condK_split (fun h => ?_) (fun h => ?_)
  · have h : i < n := by simpa using h
    simp (maxSteps := 1000000) (disch := omega) only [go_sem, Nat.reduceAdd, Nat.reduceMul, Nat.reduceSub, Nat.reduceEqDiff, Nat.reduceLeDiff, markS_length, markS_nth h]
    refine drawP_q foll (by kernel_rfl) ?_
    simp (maxSteps := 1000000) (disch := omega) only [go_sem, Nat.reduceBEq, Bool.true_or, Nat.reduceAdd, Nat.reduceMul, Nat.reduceSub, Nat.reduceEqDiff, Nat.reduceLeDiff]
    refine quietW.rd (markText_run (k + i) (by omega)) (⟨_, Try.func49, rfl, rfl⟩ : Enters Try.prog 49) rfl rfl rfl rfl ?_
    simp (maxSteps := 1000000) (disch := omega) only [go_sem, Nat.reduceAdd, Nat.reduceMul, Nat.reduceSub, Nat.reduceEqDiff, Nat.reduceLeDiff, markS_nth h]
    exact ⟨i + 1, ⟨h, by omega⟩, ⟨by push_cast; omega, by push_cast; omega⟩, hle_nil _⟩
  have h : i = n := by have : ¬ i < n := by simpa using h
                       omega
  subst h
  simp (maxSteps := 1000000) (disch := omega) only [go_sem, Nat.reduceAdd, Nat.reduceMul, Nat.reduceSub, Nat.reduceEqDiff, Nat.reduceLeDiff]
end Go.Lg
