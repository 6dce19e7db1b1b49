/- LgT, GpG, GpCA, cut to what is needed. -/
import Derived.Test.YtabihehfemedcaaQeb4
import Derived.Test.YtabihehfemedcaaQeb2
import Derived.Test.YtabihehfemedcaaQeb3
set_option linter.unusedSimpArgs false
set_option linter.unusedVariables false
set_option maxRecDepth 100000
namespace Go.Lg
open Go.Proofs
theorem sizeOk_run (n : Int) : Reads Try.prog 103 [int n] (bool (decide (2 ≤ n ∧ n ≤ 4))) := by
  refine RunCall.cw (c := _) Try.func103 rfl (n := 9) Try.ntmps103 (rs := [.tmp 2]) rfl ?_
  simp only [List.length_cons, List.length_nil, Nat.reduceAdd, Nat.reduceSub, List.replicate, List.cons_append, List.nil_append]
  simp (maxSteps := 1000000) (disch := omega) only [go_sem, Nat.reduceAdd, Nat.reduceMul, Nat.reduceSub, Nat.reduceEqDiff, Nat.reduceLeDiff]
  refine guardK_split (fun h => ?_) (fun h => ?_) <;> simp (maxSteps := 1000000) (disch := omega) only [go_sem, Nat.reduceAdd, Nat.reduceMul, Nat.reduceSub, Nat.reduceEqDiff, Nat.reduceLeDiff, h] <;> simp at h <;> simp [h]
  omega
def gridValid (xs : List Int) (n : Int) : Bool := decide (2 ≤ n ∧ n ≤ 4 ∧ (xs.length : Int) = n * n ∧ ∀ j, j < xs.length → 0 ≤ nth xs j ∧ nth xs j ≤ n)
theorem GridValid_run (xs : List Int) (n : Int) (hx : xs.length ≤ 2 ^ 44) : Reads Try.prog 87 [ints xs, int n] (bool (gridValid xs n)) := by
  refine RunCall.cw (c := _) Try.func87 rfl (n := 32) Try.ntmps87 (rs := [.tmp 4]) rfl ?_
  simp only [List.length_cons, List.length_nil, Nat.reduceAdd, Nat.reduceSub, List.replicate, List.cons_append, List.nil_append]
  simp (maxSteps := 1000000) (disch := omega) only [go_sem, Nat.reduceAdd, Nat.reduceMul, Nat.reduceSub, Nat.reduceEqDiff, Nat.reduceLeDiff]
  refine OpS.rd (sizeOk_run n) (⟨_, Try.func103, rfl, rfl⟩ : Enters Try.prog 103) rfl rfl rfl rfl ?_
  simp (maxSteps := 1000000) (disch := omega) only [go_sem, Nat.reduceAdd, Nat.reduceMul, Nat.reduceSub, Nat.reduceEqDiff, Nat.reduceLeDiff]
  refine guardK_split (fun h => ?_) (fun h => ?_) <;> simp (maxSteps := 1000000) (disch := omega) only [go_sem, Nat.reduceAdd, Nat.reduceMul, Nat.reduceSub, Nat.reduceEqDiff, Nat.reduceLeDiff, h]
  · simp at h
    simp [gridValid]; omega
  have hn : 2 ≤ n ∧ n ≤ 4 := by simpa using h
  have hw : 4 ≤ n * n ∧ n * n ≤ 16 := by
    have : n = 2 ∨ n = 3 ∨ n = 4 := by omega
    rcases this with rfl | rfl | rfl <;> decide
  simp (maxSteps := 1000000) (disch := omega) only [go_sem, Nat.reduceAdd, Nat.reduceMul, Nat.reduceSub, Nat.reduceEqDiff, Nat.reduceLeDiff]
  refine condK_split (fun h2 => ?_) (fun h2 => ?_) <;> simp (maxSteps := 1000000) (disch := omega) only [go_sem, Nat.reduceAdd, Nat.reduceMul, Nat.reduceSub, Nat.reduceEqDiff, Nat.reduceLeDiff]
  · simp at h2
    simp [gridValid, h2]
  have hl : (xs.length : Int) = n * n := by simpa using h2
  refine loop_rule (fun i : Nat => xs.length - i) (fun i => i ≤ xs.length ∧ ∀ j, j < i → 0 ≤ nth xs j ∧ nth xs j ≤ n)
    (fun i => [.a, .k, .a, .a, .a, .a, .a, .a, .a, .a, .a, .a, .a, .a, .a, .a, .a, .a, .k, .k, .p (int i), .a, .a, .a, .a, .a, .a, .a, .a, .a, .a, .a]) (fun _ => []) 0 ⟨Nat.zero_le _, fun j hj => absurd hj (Nat.not_lt_zero _)⟩ (by simp (maxSteps := 1000000) (disch := omega) only [go_sem, Nat.reduceAdd, Nat.reduceMul, Nat.reduceSub, Nat.reduceEqDiff, Nat.reduceLeDiff]; rfl) (hle_nil _) ?_
  rintro i ⟨hi, hall⟩
  simp (maxSteps := 1000000) (disch := omega) only [go_sem, Nat.reduceAdd, Nat.reduceMul, Nat.reduceSub, Nat.reduceEqDiff, Nat.reduceLeDiff]
  refine condK_split (fun h3 => ?_) (fun h3 => ?_)
  · have h3 : i < xs.length := by simpa using h3
    simp (maxSteps := 1000000) (disch := omega) only [go_sem, Nat.reduceAdd, Nat.reduceMul, Nat.reduceSub, Nat.reduceEqDiff, Nat.reduceLeDiff]
    refine guardK_split (fun h4 => ?_) (fun h4 => ?_) <;> simp (maxSteps := 1000000) (disch := omega) only [go_sem, Nat.reduceAdd, Nat.reduceMul, Nat.reduceSub, Nat.reduceEqDiff, Nat.reduceLeDiff, h4]
    · simp at h4
      symm; simp [gridValid]; intro _ _ _; exact ⟨i, h3, fun h => by omega⟩
    refine condK_split (fun h5 => ?_) (fun h5 => ?_) <;> simp (maxSteps := 1000000) (disch := omega) only [go_sem, Nat.reduceAdd, Nat.reduceMul, Nat.reduceSub, Nat.reduceEqDiff, Nat.reduceLeDiff]
    · simp at h5
      symm; simp [gridValid]; intro _ _ _; exact ⟨i, h3, fun h => by omega⟩
    simp at h4 h5
    refine ⟨i + 1, ⟨⟨h3, fun j hj => ?_⟩, by omega⟩, by omega, hle_nil _⟩
    rcases Nat.lt_succ_iff_lt_or_eq.1 hj with h | rfl
    · exact hall j h
    · exact ⟨h4, h5⟩
  simp (maxSteps := 1000000) (disch := omega) only [go_sem, Nat.reduceAdd, Nat.reduceMul, Nat.reduceSub, Nat.reduceEqDiff, Nat.reduceLeDiff]
  simp at h3
  symm; simp [gridValid]
  exact ⟨hn.1, hn.2, hl, fun j hj => hall j (by omega)⟩
end Go.Lg

set_option linter.unusedSimpArgs false
set_option linter.unusedVariables false
set_option maxRecDepth 100000
namespace Go.Lg
open Go.Proofs
theorem countP_take {α : Type} [Inhabited α] {xs : List α} {f : α → Bool} {i : Nat} (h : i < xs.length) : (xs.take (i + 1)).countP f = (xs.take i).countP f + if f (nth xs i) then 1 else 0 := by
  rw [take_succ_nth h, List.countP_append]; simp [List.countP_cons]
theorem countP_le {α : Type} (xs : List α) (f : α → Bool) (i : Nat) : (xs.take i).countP f ≤ xs.length := by
  have := List.countP_le_length (p := f) (l := xs.take i)
  simp at this; omega
def gridFilled (xs : List Int) (n : Int) : Int := if gridValid xs n then (xs.countP fun v => decide (0 < v) : Nat) else -1
theorem GridFilled_run (xs : List Int) (n : Int) (hx : xs.length ≤ 2 ^ 40) : Reads Try.prog 70 [ints xs, int n] (int (gridFilled xs n)) := by
  refine RunCall.cw (c := _) Try.func70 rfl (n := 24) Try.ntmps70 (rs := [.tmp 4]) rfl ?_
  simp only [List.length_cons, List.length_nil, Nat.reduceAdd, Nat.reduceSub, List.replicate, List.cons_append, List.nil_append]
  simp (maxSteps := 1000000) (disch := omega) only [go_sem, Nat.reduceAdd, Nat.reduceMul, Nat.reduceSub, Nat.reduceEqDiff, Nat.reduceLeDiff]
  first | refine OpS.rd (GridValid_run xs n (by omega)) (⟨_, Try.func87, rfl, rfl⟩ : Enters Try.prog 87) rfl rfl rfl rfl ?_ | refine Loud.rd (GridValid_run xs n (by omega)) (⟨_, Try.func87, rfl, rfl⟩ : Enters Try.prog 87) rfl rfl rfl rfl ?_
  simp (maxSteps := 1000000) (disch := omega) only [go_sem, Nat.reduceAdd, Nat.reduceMul, Nat.reduceSub, Nat.reduceEqDiff, Nat.reduceLeDiff]
  (first | with_reducible refine condK_dec (fun hv => ?_) (fun hv => ?_) | with_reducible refine condK_ndec (fun hv => ?_) (fun hv => ?_) | with_reducible refine condK_nb (fun hv => ?_) (fun hv => ?_) | refine condK_b (fun hv => ?_) (fun hv => ?_))
  rotate_left
  · simp (maxSteps := 1000000) (disch := omega) only [go_sem, Nat.reduceAdd, Nat.reduceMul, Nat.reduceSub, Nat.reduceEqDiff, Nat.reduceLeDiff]
    simp [gridFilled, hv]
  simp (maxSteps := 1000000) (disch := omega) only [go_sem, Nat.reduceAdd, Nat.reduceMul, Nat.reduceSub, Nat.reduceEqDiff, Nat.reduceLeDiff]
  refine loop_rule (fun i : Nat => xs.length - i) (fun i => i ≤ xs.length) (fun i => [.a, .a, .a, .a, .a, .p (int ((xs.take i).countP fun v => decide (0 < v) : Nat)), .a, .a, .a, .a, .a, .a, .k, .k, .p (int i), .a, .a, .a, .a, .a, .a, .a, .a, .a]) (fun _ => []) 0
    (Nat.zero_le _) (by simp (maxSteps := 1000000) (disch := omega) only [go_sem, Nat.reduceAdd, Nat.reduceMul, Nat.reduceSub, Nat.reduceEqDiff, Nat.reduceLeDiff]; simp) (hle_nil _) ?_
  intro i hi
  have hb := countP_le xs (fun v => decide (0 < v)) i
  simp (maxSteps := 1000000) (disch := omega) only [go_sem, Nat.reduceAdd, Nat.reduceMul, Nat.reduceSub, Nat.reduceEqDiff, Nat.reduceLeDiff]
  (first | with_reducible refine condK_dec (fun h => ?_) (fun h => ?_) | with_reducible refine condK_ndec (fun h => ?_) (fun h => ?_) | with_reducible refine condK_nb (fun h => ?_) (fun h => ?_) | refine condK_b (fun h => ?_) (fun h => ?_))
  · have h : i < xs.length := by omega
    have hc := countP_take (f := fun v => decide (0 < v)) h
    simp (maxSteps := 1000000) (disch := omega) only [go_sem, Nat.reduceAdd, Nat.reduceMul, Nat.reduceSub, Nat.reduceEqDiff, Nat.reduceLeDiff]
    (first | with_reducible refine condK_dec (fun h2 => ?_) (fun h2 => ?_) | with_reducible refine condK_ndec (fun h2 => ?_) (fun h2 => ?_) | with_reducible refine condK_nb (fun h2 => ?_) (fun h2 => ?_) | refine condK_b (fun h2 => ?_) (fun h2 => ?_))
    · simp (maxSteps := 1000000) (disch := omega) only [go_sem, Nat.reduceAdd, Nat.reduceMul, Nat.reduceSub, Nat.reduceEqDiff, Nat.reduceLeDiff]
      refine ⟨i + 1, ⟨h, by omega⟩, ⟨?_, by omega⟩, hle_nil _⟩
      rw [hc]; simp [h2]
    · simp (maxSteps := 1000000) (disch := omega) only [go_sem, Nat.reduceAdd, Nat.reduceMul, Nat.reduceSub, Nat.reduceEqDiff, Nat.reduceLeDiff]
      refine ⟨i + 1, ⟨h, by omega⟩, ⟨?_, by omega⟩, hle_nil _⟩
      rw [hc]; simp [h2]
  · simp (maxSteps := 1000000) (disch := omega) only [go_sem, Nat.reduceAdd, Nat.reduceMul, Nat.reduceSub, Nat.reduceEqDiff, Nat.reduceLeDiff]
    rw [List.take_of_length_le (by omega)]
    simp only [gridFilled, hv, if_true]
end Go.Lg

set_option linter.unusedSimpArgs false
set_option linter.unusedVariables false
set_option maxRecDepth 100000
namespace Go.Lg
open Go.Proofs
def RdAt (H : Heap) (id g : Nat) (B : Int) : Prop := ∃ (sz : Nat) (b : List Int) (p : Int), look H id g = some ⟨g, sz, [.f (.sl b.length (fl (eI .u8) b)), .f (.int .i64 p)]⟩ ∧ b.length ≤ 2000 ∧ (∀ x ∈ b, 0 ≤ x ∧ x ≤ 255) ∧ 0 ≤ p ∧ p ≤ B
theorem RdAt.mono {H : Heap} {id g : Nat} {B B' : Int} (h : RdAt H id g B) (hb : B ≤ B') : RdAt H id g B' := by
  obtain ⟨sz, b, p, h1, h2, h3, h4, h5⟩ := h
  exact ⟨sz, b, p, h1, h2, h3, h4, by omega⟩
theorem RdAt.same {H H' : Heap} {id g : Nat} {B : Int} (h : RdAt H id g B) (hs : H'[id]? = H[id]?) : RdAt H' id g B := by
  obtain ⟨sz, b, p, h1, h2⟩ := h
  exact ⟨sz, b, p, by unfold look at *; rw [hs]; exact h1, h2⟩
theorem RdAt.lt {H : Heap} {id g : Nat} {B : Int} (h : RdAt H id g B) : id < H.length := by
  obtain ⟨sz, b, p, h1, _⟩ := h
  exact (List.getElem?_eq_some_iff.1 (look_some h1).1).1
theorem xor_nat {a b : Int} (ha : 0 ≤ a ∧ a < 2 ^ 62) (hb : 0 ≤ b ∧ b < 2 ^ 62) : 0 ≤ bitsI .xor .i64 a b ∧ bitsI .xor .i64 a b < 2 ^ 62 := by
  obtain ⟨x, rfl⟩ : ∃ x : Nat, a = x := ⟨a.toNat, by omega⟩
  obtain ⟨y, rfl⟩ : ∃ y : Nat, b = y := ⟨b.toNat, by omega⟩
  have hx : x < 2 ^ 62 := by omega
  have hy : y < 2 ^ 62 := by omega
  have hz : x ^^^ y < 2 ^ 62 := Nat.xor_lt_two_pow hx hy
  have e : (BitVec.ofInt 64 (x : Int) ^^^ BitVec.ofInt 64 (y : Int)).toNat = x ^^^ y := by
    simp only [BitVec.toNat_xor, BitVec.ofInt_natCast, BitVec.toNat_ofNat]
    rw [Nat.mod_eq_of_lt (by omega), Nat.mod_eq_of_lt (by omega)]
  have e2 : bitsI .xor .i64 (x : Int) (y : Int) = ((x ^^^ y : Nat) : Int) := by
    unfold bitsI
    show IntKind.wrap .i64 ((BitVec.ofInt 64 (x : Int) ^^^ BitVec.ofInt 64 (y : Int)).toNat : Int) = _
    rw [e]
    exact ok_i64 (by omega)
  rw [e2]
  omega
theorem look_set_eq' {H : Heap} {id g sz : Nat} {cs : List CV} (h : id < H.length) : look (H.set id (some ⟨g, sz, cs⟩)) id g = some ⟨g, sz, cs⟩ := look_of (b := ⟨g, sz, cs⟩) (by rw [List.getElem?_set_self h])
theorem tdiv_nn {a b : Int} (h : 0 ≤ a) : a.tdiv b = a / b := Int.tdiv_eq_ediv_of_nonneg h
theorem tmod_nn {a b : Int} (h : 0 ≤ a) : a.tmod b = a % b := Int.tmod_eq_emod_of_nonneg h
theorem nilV_ptr {H : Heap} {id g off : Nat} {b : Blk} (h : look H id g = some b) : nilV H (.c (.ptr id g off)) = some (.c (.ptr id g off)) := by simp [nilV, h]
def pickQ (H : Heap) (id g : Nat) (B n : Int) : KV := fun v H' => (∃ y, v = int y ∧ 0 ≤ y ∧ (1 ≤ n → y < n)) ∧ RdAt H' id g (B + 1) ∧ Frm H H' [id]
theorem pick_run (H : Heap) (id g : Nat) (B n : Int) (hr : RdAt H id g B) (hB : B ≤ 2 ^ 40) : RunCall Try.prog 63 [.c (.ptr id g 0), int n] H (pickQ H id g B n) := by
  have hlt := hr.lt
  obtain ⟨sz, b, p, hl, hb1, hb2, hp0, hp1⟩ := hr
  have hs : ∀ x, look (H.set id (some ⟨g, sz, x⟩)) id g = some ⟨g, sz, x⟩ := fun x => look_set_eq' hlt
  have fin : ∀ y, 0 ≤ y → (1 ≤ n → y < n) → lessQ (H.set id (some ⟨g, sz, [.f (.sl b.length (fl (eI .u8) b)), .f (.int .i64 (p + 1))]⟩)) (pickQ H id g B n) (int y) := fun y h0 h1 =>
    ⟨_, HLe.refl _, ⟨y, rfl, h0, h1⟩, ⟨sz, b, p + 1, hs _, hb1, hb2, by omega, by omega⟩, Frm.set _ _ _⟩
  have nl : nilV H (.c (.ptr id g 0)) = some (.c (.ptr id g 0)) := nilV_ptr hl
  have ns : ∀ x, nilV (H.set id (some ⟨g, sz, x⟩)) (.c (.ptr id g 0)) = some (.c (.ptr id g 0)) := fun x => nilV_ptr (hs x)
  refine RunCall.cw (c := _) Try.func63 rfl (n := 99) Try.ntmps63 (rs := [.tmp 4]) rfl ?_
  simp only [List.length_cons, List.length_nil, Nat.reduceAdd, Nat.reduceSub, List.replicate, List.cons_append, List.nil_append]
  simp (maxSteps := 1000000) (disch := omega) only [go_sem, Nat.reduceAdd, Nat.reduceMul, Nat.reduceSub, Nat.reduceEqDiff, Nat.reduceLeDiff, hl, hs, nl, ns]
  (first | with_reducible refine guardK_dec (fun h1 => ?_) (fun h1 => ?_) <;> simp (maxSteps := 1000000) (disch := omega) only [go_sem, Nat.reduceAdd, Nat.reduceMul, Nat.reduceSub, Nat.reduceEqDiff, Nat.reduceLeDiff, h1] | with_reducible refine guardK_ndec (fun h1 => ?_) (fun h1 => ?_) <;> simp (maxSteps := 1000000) (disch := omega) only [go_sem, Nat.reduceAdd, Nat.reduceMul, Nat.reduceSub, Nat.reduceEqDiff, Nat.reduceLeDiff, h1] | with_reducible refine guardK_nb (fun h1 => ?_) (fun h1 => ?_) <;> simp (maxSteps := 1000000) (disch := omega) only [go_sem, Nat.reduceAdd, Nat.reduceMul, Nat.reduceSub, Nat.reduceEqDiff, Nat.reduceLeDiff, h1] | with_reducible refine guardK_split (fun h1 => ?_) (fun h1 => ?_) <;> simp (maxSteps := 1000000) (disch := omega) only [go_sem, Nat.reduceAdd, Nat.reduceMul, Nat.reduceSub, Nat.reduceEqDiff, Nat.reduceLeDiff, h1] | with_reducible refine guardQ_dec (fun h1 => ?_) (fun h1 => ?_) <;> simp (maxSteps := 1000000) (disch := omega) only [go_sem, Nat.reduceAdd, Nat.reduceMul, Nat.reduceSub, Nat.reduceEqDiff, Nat.reduceLeDiff, h1] | with_reducible refine guardL_dec (fun h1 => ?_) (fun h1 => ?_) <;> simp (maxSteps := 1000000) (disch := omega) only [go_sem, Nat.reduceAdd, Nat.reduceMul, Nat.reduceSub, Nat.reduceEqDiff, Nat.reduceLeDiff, h1] | with_reducible refine guardQ_ndec (fun h1 => ?_) (fun h1 => ?_) <;> simp (maxSteps := 1000000) (disch := omega) only [go_sem, Nat.reduceAdd, Nat.reduceMul, Nat.reduceSub, Nat.reduceEqDiff, Nat.reduceLeDiff, h1] | with_reducible refine guardL_ndec (fun h1 => ?_) (fun h1 => ?_) <;> simp (maxSteps := 1000000) (disch := omega) only [go_sem, Nat.reduceAdd, Nat.reduceMul, Nat.reduceSub, Nat.reduceEqDiff, Nat.reduceLeDiff, h1] | with_reducible refine guardQ_nb (fun h1 => ?_) (fun h1 => ?_) <;> simp (maxSteps := 1000000) (disch := omega) only [go_sem, Nat.reduceAdd, Nat.reduceMul, Nat.reduceSub, Nat.reduceEqDiff, Nat.reduceLeDiff, h1] | with_reducible refine guardL_nb (fun h1 => ?_) (fun h1 => ?_) <;> simp (maxSteps := 1000000) (disch := omega) only [go_sem, Nat.reduceAdd, Nat.reduceMul, Nat.reduceSub, Nat.reduceEqDiff, Nat.reduceLeDiff, h1] | with_reducible refine guardQ_split (fun h1 => ?_) (fun h1 => ?_) <;> simp (maxSteps := 1000000) (disch := omega) only [go_sem, Nat.reduceAdd, Nat.reduceMul, Nat.reduceSub, Nat.reduceEqDiff, Nat.reduceLeDiff, h1] | with_reducible refine guardL_split (fun h1 => ?_) (fun h1 => ?_) <;> simp (maxSteps := 1000000) (disch := omega) only [go_sem, Nat.reduceAdd, Nat.reduceMul, Nat.reduceSub, Nat.reduceEqDiff, Nat.reduceLeDiff, h1])
  · exact fin 0 (by omega) (by omega)
  simp (maxSteps := 1000000) (disch := omega) only [go_sem, Nat.reduceAdd, Nat.reduceMul, Nat.reduceSub, Nat.reduceEqDiff, Nat.reduceLeDiff, hl, hs, nl, ns]
  (first | with_reducible refine condK_dec (fun h2 => ?_) (fun h2 => ?_) | with_reducible refine condK_ndec (fun h2 => ?_) (fun h2 => ?_) | with_reducible refine condK_nb (fun h2 => ?_) (fun h2 => ?_) | refine condK_b (fun h2 => ?_) (fun h2 => ?_))
  · simp (maxSteps := 1000000) (disch := omega) only [go_sem, Nat.reduceAdd, Nat.reduceMul, Nat.reduceSub, Nat.reduceEqDiff, Nat.reduceLeDiff]
    have : b.length = 0 := by omega
    exact fin 0 (by omega) (by omega)
  have hbl : 0 < b.length := by omega
  simp (maxSteps := 1000000) (disch := omega) only [go_sem, Nat.reduceAdd, Nat.reduceMul, Nat.reduceSub, Nat.reduceEqDiff, Nat.reduceLeDiff, hl, hs, nl, ns]
  obtain ⟨i, hi⟩ : ∃ i : Nat, p + 1 - 1 = i := ⟨p.toNat, by omega⟩
  rw [hi]
  have hbm : ∀ k : Nat, k < b.length → 0 ≤ nth b k ∧ nth b k ≤ 255 := fun k hk => hb2 _ (by rw [nth_eq (by omega)]; exact List.getElem_mem _)
  (first | with_reducible refine condK_dec (fun h3 => ?_) (fun h3 => ?_) | with_reducible refine condK_ndec (fun h3 => ?_) (fun h3 => ?_) | with_reducible refine condK_nb (fun h3 => ?_) (fun h3 => ?_) | refine condK_b (fun h3 => ?_) (fun h3 => ?_))
  · have hil : i < b.length := by omega
    have hx := hbm i hil
    simp (maxSteps := 1000000) (disch := omega) only [go_sem, Nat.reduceAdd, Nat.reduceMul, Nat.reduceSub, Nat.reduceEqDiff, Nat.reduceLeDiff, hl, hs, nl, ns]
    rw [tmod_nn hx.1]
    exact fin _ (Int.emod_nonneg _ (by omega)) (fun h => Int.emod_lt_of_pos _ (by omega))
  simp (maxSteps := 1000000) (disch := omega) only [go_sem, Nat.reduceAdd, Nat.reduceMul, Nat.reduceSub, Nat.reduceEqDiff, Nat.reduceLeDiff]
  have hi40 : (i : Int) ≤ 2 ^ 40 := by omega
  have hbz : (0 : Int) < (b.length : Int) := by omega
  obtain ⟨j1, e1⟩ : ∃ j : Nat, ((i : Int)).tmod (b.length : Int) = j := ⟨(((i : Int)).tmod (b.length : Int)).toNat, by rw [tmod_nn (by omega)]; have := Int.emod_nonneg (i : Int) (show (b.length : Int) ≠ 0 by omega); omega⟩
  obtain ⟨j2, e2⟩ : ∃ j : Nat, ((i : Int) * 7 + 3).tmod (b.length : Int) = j := ⟨(((i : Int) * 7 + 3).tmod (b.length : Int)).toNat, by rw [tmod_nn (by omega)]; have := Int.emod_nonneg ((i : Int) * 7 + 3) (show (b.length : Int) ≠ 0 by omega); omega⟩
  obtain ⟨q, e3⟩ : ∃ j : Nat, ((i : Int)).tdiv (b.length : Int) = j := ⟨(((i : Int)).tdiv (b.length : Int)).toNat, by rw [tdiv_nn (by omega)]; have := Int.ediv_nonneg (show (0 : Int) ≤ i by omega) (show (0 : Int) ≤ b.length by omega); omega⟩
  have l1 : j1 < b.length := by rw [tmod_nn (by omega)] at e1; have := Int.emod_lt_of_pos (i : Int) hbz; omega
  have l2 : j2 < b.length := by rw [tmod_nn (by omega)] at e2; have := Int.emod_lt_of_pos ((i : Int) * 7 + 3) hbz; omega
  have l3 : (q : Int) ≤ i := by rw [tdiv_nn (by omega)] at e3; have := Int.ediv_le_self (b.length : Int) (show (0 : Int) ≤ i by omega); omega
  have m1 := hbm j1 l1
  have m2 := hbm j2 l2
  refine drawP_q foll (by kernel_rfl) ?_
  simp (maxSteps := 1000000) (disch := omega) only [go_sem, Nat.reduceAdd, Nat.reduceMul, Nat.reduceSub, Nat.reduceEqDiff, Nat.reduceLeDiff, hl, hs, nl, ns, e1, e2, e3]
  generalize hX : nth b ↑j1 * 131 + nth b ↑j2 * 1117 + ↑i * 29 + ↑q * 53 = X
  have hX0 : 0 ≤ X ∧ X < 2 ^ 60 := by omega
  have hd : X.tdiv 64 = X / 64 := tdiv_nn hX0.1
  rw [hd, ok_i64 (n := X / 64) (by omega)]
  have hx := xor_nat (a := X) (b := X / 64) (by omega) (by omega)
  rw [tmod_nn hx.1]
  exact fin _ (Int.emod_nonneg _ (by omega)) (fun h => Int.emod_lt_of_pos _ (by omega))
theorem hle_take (H : Heap) (n : Nat) : HLe H (H.take n) := fun id b h => by
  rw [List.getElem?_take] at h
  split at h
  · exact h
  · cases h
theorem frm_take {H H1 H2 X : Heap} {T : List Nat} (f1 : Frm H H1 T) (f2 : Frm (H1 ++ X) H2 T) : Frm H (H2.take H.length) T := by
  have hl : H2.length = H1.length + X.length := by rw [f2.1, List.length_append]
  refine ⟨by rw [List.length_take, hl, f1.1]; omega, fun i hi => ?_⟩
  by_cases h : i < H.length
  · rw [List.getElem?_take_of_lt h, f2.2 i hi, List.getElem?_append_left (by rw [f1.1]; exact h), f1.2 i hi]
  · rw [List.getElem?_take_eq_none (by omega), List.getElem?_eq_none (by omega)]
theorem RdAt.take {H : Heap} {id g n : Nat} {B : Int} (h : RdAt H id g B) (hn : id < n) : RdAt (H.take n) id g B := h.same (by rw [List.getElem?_take_of_lt hn])
theorem RdAt.app {H X : Heap} {id g : Nat} {B : Int} (h : RdAt H id g B) : RdAt (H ++ X) id g B := h.same (by rw [List.getElem?_append_left h.lt])
theorem Frm.last {H H2 : Heap} {id sz gb : Nat} {cs : List CV} (f : Frm (H ++ [some ⟨gb, sz, cs⟩]) H2 [id]) (hid : id < H.length) : Lg.look H2 H.length gb = some ⟨gb, sz, cs⟩ := by
  rw [f.look (by simp; omega)]; exact look_last
theorem odd_run (H : Heap) (id g : Nat) (B n : Int) (hr : RdAt H id g B) (hB : B ≤ 2 ^ 40) (hn : n ≤ 1000) : RunCall Try.prog 61 [.c (.ptr id g 0), int n] H (fun v H' => (∃ b : Bool, v = bool b ∧ (n ≤ 0 → b = false)) ∧ RdAt H' id g (B + 1) ∧ Frm H H' [id]) := by
  refine RunCall.cw (c := _) Try.func61 rfl (n := 15) Try.ntmps61 (rs := [.tmp 4]) rfl ?_
  simp only [List.length_cons, List.length_nil, Nat.reduceAdd, Nat.reduceSub, List.replicate, List.cons_append, List.nil_append]
  simp (maxSteps := 1000000) (disch := omega) only [go_sem, Nat.reduceAdd, Nat.reduceMul, Nat.reduceSub, Nat.reduceEqDiff, Nat.reduceLeDiff]
  (first | with_reducible refine guardK_dec (fun h1 => ?_) (fun h1 => ?_) <;> simp (maxSteps := 1000000) (disch := omega) only [go_sem, Nat.reduceAdd, Nat.reduceMul, Nat.reduceSub, Nat.reduceEqDiff, Nat.reduceLeDiff, h1] | with_reducible refine guardK_ndec (fun h1 => ?_) (fun h1 => ?_) <;> simp (maxSteps := 1000000) (disch := omega) only [go_sem, Nat.reduceAdd, Nat.reduceMul, Nat.reduceSub, Nat.reduceEqDiff, Nat.reduceLeDiff, h1] | with_reducible refine guardK_nb (fun h1 => ?_) (fun h1 => ?_) <;> simp (maxSteps := 1000000) (disch := omega) only [go_sem, Nat.reduceAdd, Nat.reduceMul, Nat.reduceSub, Nat.reduceEqDiff, Nat.reduceLeDiff, h1] | with_reducible refine guardK_split (fun h1 => ?_) (fun h1 => ?_) <;> simp (maxSteps := 1000000) (disch := omega) only [go_sem, Nat.reduceAdd, Nat.reduceMul, Nat.reduceSub, Nat.reduceEqDiff, Nat.reduceLeDiff, h1] | with_reducible refine guardQ_dec (fun h1 => ?_) (fun h1 => ?_) <;> simp (maxSteps := 1000000) (disch := omega) only [go_sem, Nat.reduceAdd, Nat.reduceMul, Nat.reduceSub, Nat.reduceEqDiff, Nat.reduceLeDiff, h1] | with_reducible refine guardL_dec (fun h1 => ?_) (fun h1 => ?_) <;> simp (maxSteps := 1000000) (disch := omega) only [go_sem, Nat.reduceAdd, Nat.reduceMul, Nat.reduceSub, Nat.reduceEqDiff, Nat.reduceLeDiff, h1] | with_reducible refine guardQ_ndec (fun h1 => ?_) (fun h1 => ?_) <;> simp (maxSteps := 1000000) (disch := omega) only [go_sem, Nat.reduceAdd, Nat.reduceMul, Nat.reduceSub, Nat.reduceEqDiff, Nat.reduceLeDiff, h1] | with_reducible refine guardL_ndec (fun h1 => ?_) (fun h1 => ?_) <;> simp (maxSteps := 1000000) (disch := omega) only [go_sem, Nat.reduceAdd, Nat.reduceMul, Nat.reduceSub, Nat.reduceEqDiff, Nat.reduceLeDiff, h1] | with_reducible refine guardQ_nb (fun h1 => ?_) (fun h1 => ?_) <;> simp (maxSteps := 1000000) (disch := omega) only [go_sem, Nat.reduceAdd, Nat.reduceMul, Nat.reduceSub, Nat.reduceEqDiff, Nat.reduceLeDiff, h1] | with_reducible refine guardL_nb (fun h1 => ?_) (fun h1 => ?_) <;> simp (maxSteps := 1000000) (disch := omega) only [go_sem, Nat.reduceAdd, Nat.reduceMul, Nat.reduceSub, Nat.reduceEqDiff, Nat.reduceLeDiff, h1] | with_reducible refine guardQ_split (fun h1 => ?_) (fun h1 => ?_) <;> simp (maxSteps := 1000000) (disch := omega) only [go_sem, Nat.reduceAdd, Nat.reduceMul, Nat.reduceSub, Nat.reduceEqDiff, Nat.reduceLeDiff, h1] | with_reducible refine guardL_split (fun h1 => ?_) (fun h1 => ?_) <;> simp (maxSteps := 1000000) (disch := omega) only [go_sem, Nat.reduceAdd, Nat.reduceMul, Nat.reduceSub, Nat.reduceEqDiff, Nat.reduceLeDiff, h1])
  · refine OpS.run (pick_run H id g B n hr hB) (⟨_, Try.func63, rfl, rfl⟩ : Enters Try.prog 63) rfl rfl ?_
    rintro _ H1 ⟨⟨y, rfl, y0, y1⟩, r1, f1⟩
    simp (maxSteps := 1000000) (disch := omega) only [go_sem, Nat.reduceAdd, Nat.reduceMul, Nat.reduceSub, Nat.reduceEqDiff, Nat.reduceLeDiff]
    exact ⟨_, HLe.refl _, ⟨_, rfl, fun h => by omega⟩, r1, f1⟩
  · exact ⟨_, HLe.refl _, ⟨_, rfl, fun h => rfl⟩, hr.mono (by omega), Frm.refl _ _⟩
theorem l20Size_run (H : Heap) (id g : Nat) (B n : Int) (hr : RdAt H id g B) (hB : B ≤ 2 ^ 39) (hn : n ≤ 1000) : RunCall Try.prog 59 [.c (.ptr id g 0), int n] H (fun v H' => (∃ y, v = int y ∧ -1 ≤ y ∧ y ≤ 5 ∧ (n ≤ 0 → 2 ≤ y ∧ y ≤ 4)) ∧ RdAt H' id g (B + 2) ∧ Frm H H' [id]) := by
  refine RunCall.cw (c := _) Try.func59 rfl (n := 18) Try.ntmps59 (rs := [.tmp 4]) rfl ?_
  simp only [List.length_cons, List.length_nil, Nat.reduceAdd, Nat.reduceSub, List.replicate, List.cons_append, List.nil_append]
  simp (maxSteps := 1000000) (disch := omega) only [go_sem, Nat.reduceAdd, Nat.reduceMul, Nat.reduceSub, Nat.reduceEqDiff, Nat.reduceLeDiff]
  refine OpS.run (odd_run H id g B n hr (by omega) hn) (⟨_, Try.func61, rfl, rfl⟩ : Enters Try.prog 61) rfl rfl ?_
  rintro _ H1 ⟨⟨b, rfl, hb⟩, r1, f1⟩
  simp (maxSteps := 1000000) (disch := omega) only [go_sem, Nat.reduceAdd, Nat.reduceMul, Nat.reduceSub, Nat.reduceEqDiff, Nat.reduceLeDiff]
  have hlt : id < H1.length := r1.lt
  have hlt' : id < H.length := hr.lt
  (first | with_reducible refine condK_dec (fun h => ?_) (fun h => ?_) | with_reducible refine condK_ndec (fun h => ?_) (fun h => ?_) | with_reducible refine condK_nb (fun h => ?_) (fun h => ?_) | refine condK_b (fun h => ?_) (fun h => ?_))
  · simp (maxSteps := 1000000) (disch := omega) only [go_sem, Nat.reduceAdd, Nat.reduceMul, Nat.reduceSub, Nat.reduceEqDiff, Nat.reduceLeDiff]
    intro gb
    refine OpS.run (pick_run _ id g (B + 1) 3 r1.app (by omega)) (⟨_, Try.func63, rfl, rfl⟩ : Enters Try.prog 63) rfl rfl ?_
    rintro _ H2 ⟨⟨y, rfl, y0, y1⟩, r2, f2⟩
    have hb2 := f2.last hlt
    have y1 := y1 (by omega)
    have hn0 : ¬ n ≤ 0 := fun h0 => by rw [hb h0] at h; cases h
    obtain rfl | rfl | rfl : y = 0 ∨ y = 1 ∨ y = 2 := by omega
    all_goals
      simp (maxSteps := 1000000) (disch := omega) only [go_sem, Nat.reduceAdd, Nat.reduceMul, Nat.reduceSub, Nat.reduceEqDiff, Nat.reduceLeDiff, hb2, Int.reduceToNat]
      exact ⟨_, hle_take _ _, ⟨_, rfl, by omega, by omega, by omega⟩, (r2.take hlt').mono (by omega), frm_take f1 f2⟩
  · simp (maxSteps := 1000000) (disch := omega) only [go_sem, Nat.reduceAdd, Nat.reduceMul, Nat.reduceSub, Nat.reduceEqDiff, Nat.reduceLeDiff]
    intro gb
    refine OpS.run (pick_run _ id g (B + 1) 5 r1.app (by omega)) (⟨_, Try.func63, rfl, rfl⟩ : Enters Try.prog 63) rfl rfl ?_
    rintro _ H2 ⟨⟨y, rfl, y0, y1⟩, r2, f2⟩
    have hb2 := f2.last hlt
    have y1 := y1 (by omega)
    obtain rfl | rfl | rfl | rfl | rfl : y = 0 ∨ y = 1 ∨ y = 2 ∨ y = 3 ∨ y = 4 := by omega
    all_goals
      simp (maxSteps := 1000000) (disch := omega) only [go_sem, Nat.reduceAdd, Nat.reduceMul, Nat.reduceSub, Nat.reduceEqDiff, Nat.reduceLeDiff, hb2, Int.reduceToNat]
      exact ⟨_, hle_take _ _, ⟨_, rfl, by omega, by omega, by omega⟩, (r2.take hlt').mono (by omega), frm_take f1 f2⟩
theorem l20Open_run (b : List Int) (hb : ∀ x ∈ b, 0 ≤ x ∧ x ≤ 255) (hl : b.length ≤ 2 ^ 40) : RunCall Try.prog 58 [rsl (eI .u8) b] [] (fun v H' => ∃ g, v = .c (.ptr 0 g 0) ∧ RdAt H' 0 g 0 ∧ H'.length = 1) := by
  refine RunCall.cw (c := _) Try.func58 rfl (n := 11) Try.ntmps58 (rs := [.tmp 2]) rfl ?_
  simp only [List.length_cons, List.length_nil, Nat.reduceAdd, Nat.reduceSub, List.replicate, List.cons_append, List.nil_append]
  simp (maxSteps := 1000000) (disch := omega) only [go_sem, Nat.reduceAdd, Nat.reduceMul, Nat.reduceSub, Nat.reduceEqDiff, Nat.reduceLeDiff]
  (first | with_reducible refine condK_dec (fun h => ?_) (fun h => ?_) | with_reducible refine condK_ndec (fun h => ?_) (fun h => ?_) | with_reducible refine condK_nb (fun h => ?_) (fun h => ?_) | refine condK_b (fun h => ?_) (fun h => ?_))
  · simp (maxSteps := 1000000) (disch := omega) only [go_sem, Nat.reduceAdd, Nat.reduceMul, Nat.reduceSub, Nat.reduceEqDiff, Nat.reduceLeDiff]
    intro g
    refine ⟨_, HLe.refl _, g, rfl, ⟨1, sub b 0 2000, 0, by rw [look_zero], ?_, ?_, by omega, by omega⟩, rfl⟩
    · simp [sub]; omega
    · intro x hx
      exact hb x (List.mem_of_mem_drop (List.mem_of_mem_take hx))
  · simp (maxSteps := 1000000) (disch := omega) only [go_sem, Nat.reduceAdd, Nat.reduceMul, Nat.reduceSub, Nat.reduceEqDiff, Nat.reduceLeDiff]
    intro g
    exact ⟨_, HLe.refl _, g, rfl, ⟨1, b, 0, by rw [look_zero], by omega, hb, by omega, by omega⟩, rfl⟩
end Go.Lg
