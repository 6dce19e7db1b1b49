/- Reading grids. -/
import Derived.Test.YtlpehaekjclgcaaLgT3
import Derived.Test.YtlpehaekjclgcaaGpA
set_option linter.unusedSimpArgs false
set_option linter.unusedVariables false
set_option maxRecDepth 100000
namespace Go.Lg
open Go.Proofs

/-- The value of a byte. -/
def invC (c : Int) : Int := if c = 46 then 0 else c - 48
def cellsIn (s : List UInt8) : List Int := (s.drop 2).map fun c => invC c.toNat
/-- The grid and the size that a text tells. -/
def rdGrid (s : List UInt8) : List Int × Int × Bool :=
  if 2 ≤ s.length ∧ gridText (cellsIn s) (chr s 0 - 48) = s then (cellsIn s, chr s 0 - 48, true) else ([], 0, false)

theorem chr_bound (s : List UInt8) (e : Int) : 0 ≤ chr s e ∧ chr s e ≤ 255 := by
  unfold chr
  have := (s.getD e.toNat 0).toNat_lt
  omega
theorem cellsIn_length (s : List UInt8) : (cellsIn s).length = s.length - 2 := by simp [cellsIn]
theorem cellsIn_nth {s : List UInt8} {i : Nat} (h : i + 2 < s.length) : nth (cellsIn s) i = invC (chr s ((i : Int) + 2)) := by
  rw [nth_eq (by rw [cellsIn_length]; omega)]
  simp only [cellsIn, List.getElem_map, List.getElem_drop, chr]
  have e : ((i : Int) + 2).toNat = i + 2 := by omega
  rw [e]
  simp [List.getD, List.getElem?_eq_getElem h, Nat.add_comm 2 i]
theorem gridText_length {xs : List Int} {n : Int} (h : gridValid xs n = true) : (gridText xs n).length = xs.length + 2 := by simp [gridText, h]
theorem gridText_eq {xs : List Int} {n : Int} {s : List UInt8} (hs : 2 ≤ s.length) (h : gridText xs n = s) : gridValid xs n = true ∧ xs.length + 2 = s.length := by
  cases hv : gridValid xs n with
  | false => simp [gridText, hv] at h; subst h; simp at hs
  | true => exact ⟨rfl, by rw [← h, gridText_length hv]⟩

theorem sReadGrid_run (s : List UInt8) (hx : s.length ≤ 2 ^ 40) : Reads Try.prog 16 [txt s] (.tup [ints (rdGrid s).1, int (rdGrid s).2.1, bool (rdGrid s).2.2]) := by
  refine Reads.iced ?_
  refine RunCall.cw (c := _) Try.func16 rfl (n := 45) Try.ntmps16 (rs := [.tmp 2, .tmp 3, .tmp 4]) rfl ?_
  simp only [List.length_cons, List.length_nil, Nat.reduceAdd, Nat.reduceSub, List.replicate, List.cons_append, List.nil_append]
  simp (maxSteps := 1000000) (disch := omega) only [go_sem, Nat.reduceAdd, Nat.reduceMul, Nat.reduceSub, Nat.reduceEqDiff, Nat.reduceLeDiff]
  refine condK_split (fun h => ?_) (fun h => ?_)
  · simp (maxSteps := 1000000) (disch := omega) only [go_sem, Nat.reduceAdd, Nat.reduceMul, Nat.reduceSub, Nat.reduceEqDiff, Nat.reduceLeDiff]
    intro g
    have h : ¬ 2 ≤ s.length := by simp at h; omega
    simp only [rdGrid, h, false_and, if_false]
    exact lessQ_ice (by simp only [go_sem, List.mapM_cons, List.mapM_nil, frzA, frz1, frzC, frz, frz_cl, Option.pure_def, Option.bind_eq_bind, Option.bind_some] <;> rfl)
  have h : 2 ≤ s.length := by simp at h; omega
  have hc := chr_bound s 0
  simp (maxSteps := 1000000) (disch := omega) only [go_sem, Nat.reduceAdd, Nat.reduceMul, Nat.reduceSub, Nat.reduceEqDiff, Nat.reduceLeDiff]
  intro g
  refine loop_rule2 (fun (i g : Nat) => s.length - i) (fun i g => i + 2 ≤ s.length) (fun i g => [.k, .a, .a, .a, .a, .k, .p (.c (.own 0 g 0 i none)), .p (int (i + 2)), .a, .a, .a, .a, .a, .a, .a, .a, .a, .a, .a, .a, .a, .a, .a, .a, .a, .a, .a, .a, .a, .a, .a, .a, .a, .a, .a, .a, .a, .a, .a, .a, .a, .a, .a, .a, .a]) (fun i g => [some ⟨g, 1, cl (eI .i64) ((cellsIn s).take i)⟩]) 0 g
    (by omega) (by simp (maxSteps := 1000000) (disch := omega) only [go_sem, Nat.reduceAdd, Nat.reduceMul, Nat.reduceSub, Nat.reduceEqDiff, Nat.reduceLeDiff]; rfl) (HLe.refl _) ?_
  intro i g hi
  simp (maxSteps := 1000000) (disch := omega) only [go_sem, Nat.reduceAdd, Nat.reduceMul, Nat.reduceSub, Nat.reduceEqDiff, Nat.reduceLeDiff]
  refine condK_split (fun h2 => ?_) (fun h2 => ?_)
  · have h2 : i + 2 < s.length := by simp at h2; omega
    have hc2 := chr_bound s (i + 2)
    have hn := cellsIn_nth h2
    have hl := cellsIn_length s
    simp (maxSteps := 1000000) (disch := omega) only [go_sem, Nat.reduceAdd, Nat.reduceMul, Nat.reduceSub, Nat.reduceEqDiff, Nat.reduceLeDiff]
    refine condK_split (fun h3 => ?_) (fun h3 => ?_) <;> simp (maxSteps := 1000000) (disch := omega) only [go_sem, Nat.reduceAdd, Nat.reduceMul, Nat.reduceSub, Nat.reduceEqDiff, Nat.reduceLeDiff] <;> simp at h3 <;> intro g1 g2
    · exact ⟨i + 1, g2, ⟨by omega, by omega⟩, ⟨⟨rfl, rfl⟩, by push_cast; omega⟩, hle_eq (by rw [take_succ_nth (by omega), hn]; simp [invC, h3]) (hle_nil _)⟩
    · exact ⟨i + 1, g2, ⟨by omega, by omega⟩, ⟨⟨rfl, rfl⟩, by push_cast; omega⟩, hle_eq (by rw [take_succ_nth (by omega), hn]; simp [invC, h3]) (hle_nil _)⟩
  have hl := cellsIn_length s
  have hi : i = (cellsIn s).length := by simp at h2; omega
  subst hi
  rw [List.take_length]
  simp (maxSteps := 1000000) (disch := omega) only [go_sem, Nat.reduceAdd, Nat.reduceMul, Nat.reduceSub, Nat.reduceEqDiff, Nat.reduceLeDiff]
  refine OpS.rd (sGridText_run (cellsIn s) (chr s 0 - 48) (by omega)) (⟨_, Try.func12, rfl, rfl⟩ : Enters Try.prog 12) rfl rfl (by simp only [go_sem, List.mapM_cons, List.mapM_nil, snapA, snapC, look_zero, look_succ, take_cl1, fvs_cl, Option.map_some, Option.pure_def, Option.bind_eq_bind, Option.bind_some] <;> simp only [ints, fints, rsl, fsl, marks_length, markS_length]) rfl ?_
  simp (maxSteps := 1000000) (disch := omega) only [go_sem, Nat.reduceAdd, Nat.reduceMul, Nat.reduceSub, Nat.reduceEqDiff, Nat.reduceLeDiff]
  refine condK_split (fun h3 => ?_) (fun h3 => ?_) <;> simp (maxSteps := 1000000) (disch := omega) only [go_sem, Nat.reduceAdd, Nat.reduceMul, Nat.reduceSub, Nat.reduceEqDiff, Nat.reduceLeDiff] <;> simp at h3
  · intro g2
    simp only [rdGrid, h3, and_false, if_false]
    exact lessQ_ice (by simp only [go_sem, List.mapM_cons, List.mapM_nil, frzA, frz1, frzC, frz, frz_cl, Option.pure_def, Option.bind_eq_bind, Option.bind_some] <;> rfl)
  · simp only [rdGrid, h3, h, and_self, if_true]
    exact lessQ_ice (by simp only [go_sem, List.mapM_cons, List.mapM_nil, frzA, frz1, frzC, frz, frz_cl, Option.pure_def, Option.bind_eq_bind, Option.bind_some] <;> rfl)
/-- What the program's ReadGrid yields. -/
def rdQ (s : List UInt8) : KV := fun r H => ((rdGrid s).2.2 = false → r = .tup [ints [], int 0, bool false] ∧ H = []) ∧
  ((rdGrid s).2.2 = true → ∃ g, r = .tup [.c (.own 0 g 0 (rdGrid s).1.length none), int (rdGrid s).2.1, bool true] ∧ H = [some ⟨g, 1, cl (eI .i64) (rdGrid s).1⟩])
theorem rdQ_no {s : List UInt8} {H : Heap} (h : (rdGrid s).2.2 = false) : lessQ H (rdQ s) (.tup [.c (.f (.sl 0 [])), int 0, bool false]) := ⟨[], hle_nil _, fun _ => ⟨rfl, rfl⟩, fun h' => by rw [h] at h'; cases h'⟩
set_option maxHeartbeats 2000000 in
theorem ReadGrid_run (s : List UInt8) (hx : s.length ≤ 2 ^ 40) : RunCall Try.prog 17 [txt s] [] (rdQ s) := by
  refine RunCall.nz ?_
  refine RunCall.cw (c := _) Try.func17 rfl (n := 60) Try.ntmps17 (rs := [.tmp 2, .tmp 3, .tmp 4]) rfl ?_
  simp only [List.length_cons, List.length_nil, Nat.reduceAdd, Nat.reduceSub, List.replicate, List.cons_append, List.nil_append]
  simp (maxSteps := 1000000) (disch := omega) only [go_sem, Nat.reduceAdd, Nat.reduceMul, Nat.reduceSub, Nat.reduceEqDiff, Nat.reduceLeDiff]
  refine guardK_split (fun h => ?_) (fun h => ?_) <;> simp (maxSteps := 1000000) (disch := omega) only [go_sem, Nat.reduceAdd, Nat.reduceMul, Nat.reduceSub, Nat.reduceEqDiff, Nat.reduceLeDiff, h] <;> simp at h
  · exact rdQ_no (by simp only [rdGrid]; rw [if_neg (by omega)])
  have hc := chr_bound s 0
  simp (maxSteps := 1000000) (disch := omega) only [go_sem, Nat.reduceAdd, Nat.reduceMul, Nat.reduceSub, Nat.reduceEqDiff, Nat.reduceLeDiff]
  refine OpS.rd (sizeOk_run _) (⟨_, Try.func48, rfl, rfl⟩ : Enters Try.prog 48) rfl rfl rfl rfl ?_
  simp (maxSteps := 1000000) (disch := omega) only [go_sem, Nat.reduceAdd, Nat.reduceMul, Nat.reduceSub, Nat.reduceEqDiff, Nat.reduceLeDiff]
  refine condK_split (fun h2 => ?_) (fun h2 => ?_) <;> simp (maxSteps := 1000000) (disch := omega) only [go_sem, Nat.reduceAdd, Nat.reduceMul, Nat.reduceSub, Nat.reduceEqDiff, Nat.reduceLeDiff] <;> simp at h2
  · refine rdQ_no ?_
    simp only [rdGrid]
    rw [if_neg]
    rintro ⟨h3, h4⟩
    have := (gridText_eq h3 h4).1
    simp only [gridValid, decide_eq_true_eq] at this
    omega
  intro g
  have hw : 4 ≤ (chr s 0 - 48) * (chr s 0 - 48) ∧ (chr s 0 - 48) * (chr s 0 - 48) ≤ 16 := by
    generalize chr s 0 - 48 = n at h2
    have : n = 2 ∨ n = 3 ∨ n = 4 := by omega
    rcases this with rfl | rfl | rfl <;> decide
  have hl := cellsIn_length s
  refine loop_rule2 (fun (i g : Nat) => s.length - i) (fun i g => i + 2 ≤ s.length ∧ i ≤ (chr s 0 - 48) * (chr s 0 - 48)) (fun i g => [.k, .a, .a, .a, .a, .k, .p (.c (.own 0 g 0 i none)), .p (int (i + 2)), .a, .a, .a, .a, .a, .a, .a, .a, .a, .a, .a, .a, .a, .a, .a, .a, .a, .a, .a, .a, .a, .a, .a, .a, .a, .a, .a, .a, .a, .a, .a, .a, .a, .a, .a, .a, .a, .a, .a, .a, .a, .a, .a, .a, .a, .a, .a, .a, .a, .a, .a, .a]) (fun i g => [some ⟨g, 1, cl (eI .i64) ((cellsIn s).take i)⟩]) 0 g
    ⟨by omega, by omega⟩ (by simp (maxSteps := 1000000) (disch := omega) only [go_sem, Nat.reduceAdd, Nat.reduceMul, Nat.reduceSub, Nat.reduceEqDiff, Nat.reduceLeDiff]; rfl) (HLe.refl _) ?_
  rintro i g ⟨hi, hi2⟩
  simp (maxSteps := 1000000) (disch := omega) only [go_sem, Nat.reduceAdd, Nat.reduceMul, Nat.reduceSub, Nat.reduceEqDiff, Nat.reduceLeDiff]
  have out : (i + 2 = s.length ∨ (i : Int) = (chr s 0 - 48) * (chr s 0 - 48)) → i = ((cellsIn s).take i).length ∧ (gridText ((cellsIn s).take i) (chr s 0 - 48) = s ↔ gridText (cellsIn s) (chr s 0 - 48) = s) ∧ (gridText (cellsIn s) (chr s 0 - 48) = s → (cellsIn s).take i = cellsIn s) := by
    intro ho
    refine ⟨by simp; omega, ⟨fun h3 => ?_, fun h3 => ?_⟩, fun h3 => ?_⟩
    · obtain ⟨h4, h5⟩ := gridText_eq (by omega) h3
      rw [List.take_of_length_le (by simp at h5; omega)] at h3
      exact h3
    · obtain ⟨h4, h5⟩ := gridText_eq (by omega) h3
      have := (gridValid_bound h4).2.2.1
      rw [List.take_of_length_le (by omega)]; exact h3
    · obtain ⟨h4, h5⟩ := gridText_eq (by omega) h3
      have := (gridValid_bound h4).2.2.1
      rw [List.take_of_length_le (by omega)]
  rcases (show (i + 2 = s.length ∨ (i : Int) = (chr s 0 - 48) * (chr s 0 - 48)) ∨ (i + 2 < s.length ∧ (i : Int) < (chr s 0 - 48) * (chr s 0 - 48)) by omega) with ex | ⟨e1, e2⟩
  · obtain ⟨o1, o2, o3⟩ := out ex
    refine guardK_split (fun h3 => ?_) (fun h3 => ?_) <;> simp (maxSteps := 1000000) (disch := omega) only [go_sem, Nat.reduceAdd, Nat.reduceMul, Nat.reduceSub, Nat.reduceEqDiff, Nat.reduceLeDiff, h3]
    · refine condK_split (fun h4 => by simp at h3 h4; omega) (fun h4 => ?_)
      simp (maxSteps := 1000000) (disch := omega) only [go_sem, Nat.reduceAdd, Nat.reduceMul, Nat.reduceSub, Nat.reduceEqDiff, Nat.reduceLeDiff]
      generalize hz : (cellsIn s).take i = zs at *
      subst o1
      refine OpS.rd (GridText_run zs (chr s 0 - 48) (by omega)) (⟨_, Try.func14, rfl, rfl⟩ : Enters Try.prog 14) rfl rfl (by simp only [go_sem, List.mapM_cons, List.mapM_nil, snapA, snapC, look_zero, look_succ, take_cl1, fvs_cl, Option.map_some, Option.pure_def, Option.bind_eq_bind, Option.bind_some] <;> simp only [ints, fints, rsl, fsl, marks_length, markS_length]) rfl ?_
      simp (maxSteps := 1000000) (disch := omega) only [go_sem, Nat.reduceAdd, Nat.reduceMul, Nat.reduceSub, Nat.reduceEqDiff, Nat.reduceLeDiff]
      refine condK_split (fun h5 => ?_) (fun h5 => ?_) <;> simp (maxSteps := 1000000) (disch := omega) only [go_sem, Nat.reduceAdd, Nat.reduceMul, Nat.reduceSub, Nat.reduceEqDiff, Nat.reduceLeDiff] <;> simp at h5
      · exact rdQ_no (by simp only [rdGrid]; rw [if_neg (fun h6 => h5 (o2.2 h6.2))])
      · have h6 := o2.1 h5
        have h7 := o3 h6
        subst h7
        have : rdGrid s = (cellsIn s, chr s 0 - 48, true) := by simp only [rdGrid]; rw [if_pos ⟨by omega, h6⟩]
        exact ⟨_, HLe.refl _, fun h => (by rw [this] at h; cases h), fun _ => by rw [this]; exact ⟨_, rfl, rfl⟩⟩
    · skip
      generalize hz : (cellsIn s).take i = zs at *
      subst o1
      refine OpS.rd (GridText_run zs (chr s 0 - 48) (by omega)) (⟨_, Try.func14, rfl, rfl⟩ : Enters Try.prog 14) rfl rfl (by simp only [go_sem, List.mapM_cons, List.mapM_nil, snapA, snapC, look_zero, look_succ, take_cl1, fvs_cl, Option.map_some, Option.pure_def, Option.bind_eq_bind, Option.bind_some] <;> simp only [ints, fints, rsl, fsl, marks_length, markS_length]) rfl ?_
      simp (maxSteps := 1000000) (disch := omega) only [go_sem, Nat.reduceAdd, Nat.reduceMul, Nat.reduceSub, Nat.reduceEqDiff, Nat.reduceLeDiff]
      refine condK_split (fun h5 => ?_) (fun h5 => ?_) <;> simp (maxSteps := 1000000) (disch := omega) only [go_sem, Nat.reduceAdd, Nat.reduceMul, Nat.reduceSub, Nat.reduceEqDiff, Nat.reduceLeDiff] <;> simp at h5
      · exact rdQ_no (by simp only [rdGrid]; rw [if_neg (fun h6 => h5 (o2.2 h6.2))])
      · have h6 := o2.1 h5
        have h7 := o3 h6
        subst h7
        have : rdGrid s = (cellsIn s, chr s 0 - 48, true) := by simp only [rdGrid]; rw [if_pos ⟨by omega, h6⟩]
        exact ⟨_, HLe.refl _, fun h => (by rw [this] at h; cases h), fun _ => by rw [this]; exact ⟨_, rfl, rfl⟩⟩
  have hc2 := chr_bound s (i + 2)
  have hn := cellsIn_nth e1
  have d1 : decide ((i : Int) + 2 < s.length) = true := by simp; omega
  rw [d1]
  simp (maxSteps := 1000000) (disch := omega) only [go_sem, Nat.reduceAdd, Nat.reduceMul, Nat.reduceSub, Nat.reduceEqDiff, Nat.reduceLeDiff]
  have d2 : decide ((i : Int) + 2 < 2 + (chr s 0 - 48) * (chr s 0 - 48)) = true := by simp; omega
  rw [d2]
  simp (maxSteps := 1000000) (disch := omega) only [go_sem, Nat.reduceAdd, Nat.reduceMul, Nat.reduceSub, Nat.reduceEqDiff, Nat.reduceLeDiff]
  refine condK_split (fun h3 => ?_) (fun h3 => ?_) <;> simp (maxSteps := 1000000) (disch := omega) only [go_sem, Nat.reduceAdd, Nat.reduceMul, Nat.reduceSub, Nat.reduceEqDiff, Nat.reduceLeDiff] <;> simp at h3 <;> intro g1 g2
  · exact ⟨i + 1, g2, ⟨⟨by omega, by push_cast; omega⟩, by omega⟩, ⟨⟨rfl, rfl⟩, by push_cast; omega⟩, hle_eq (by rw [take_succ_nth (by omega), hn]; simp [invC, h3]) (hle_nil _)⟩
  · exact ⟨i + 1, g2, ⟨⟨by omega, by push_cast; omega⟩, by omega⟩, ⟨⟨rfl, rfl⟩, by push_cast; omega⟩, hle_eq (by rw [take_succ_nth (by omega), hn]; simp [invC, h3]) (hle_nil _)⟩
end Go.Lg
