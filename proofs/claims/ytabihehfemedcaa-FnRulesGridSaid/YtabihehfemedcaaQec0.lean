/- GpDC, GpH, GpI, GpDE, GpI2, cut to what is needed. -/
import Derived.Test.YtabihehfemedcaaQeb9
import Derived.Test.YtabihehfemedcaaQeb8
import Derived.Test.YtabihehfemedcaaQeb6
import Derived.Test.YtabihehfemedcaaQeb2
import Derived.Test.YtabihehfemedcaaQeb4
import Derived.Test.YtabihehfemedcaaQeb5
set_option linter.unusedSimpArgs false
set_option linter.unusedVariables false
set_option maxRecDepth 100000
namespace Go.Lg
open Go.Proofs
def mvals (m : Nat) (k : Nat) : List Int := (([1, 2, 3, 4] : List Nat).take k).flatMap fun v => if m.testBit v = true then [(v : Int)] else []
theorem mvals_succ {m k : Nat} (hk : k < 4) : mvals m (k + 1) = mvals m k ++ if m.testBit (k + 1) = true then [((k + 1 : Nat) : Int)] else [] := by
  have : k = 0 ∨ k = 1 ∨ k = 2 ∨ k = 3 := by omega
  unfold mvals
  rcases this with rfl | rfl | rfl | rfl <;> simp
theorem mvals_mem {m k : Nat} {x : Int} (h : x ∈ mvals m k) : 1 ≤ x ∧ x ≤ 4 := by
  unfold mvals at h
  obtain ⟨v, hv, hx⟩ := List.mem_flatMap.1 h
  have := List.mem_of_mem_take hv
  split at hx
  · simp only [List.mem_singleton] at hx
    simp only [List.mem_cons, List.not_mem_nil, or_false] at this
    omega
  · simp at hx
theorem ways_cons (r : Rul) (m : Nat) (ms : List Nat) (pre : List Int) (o : List Nat) : ways r (m :: ms) pre o = (mvals m 4).foldl (fun o v => ways r ms (pre ++ [v]) o) o := by
  have e : ways r (m :: ms) pre o = [1, 2, 3, 4].foldl (fun o (v : Nat) => if m.testBit v = true then ways r ms (pre ++ [(v : Int)]) o else o) o := rfl
  rw [e, mvals, List.foldl_flatMap]
  have e2 : (([1, 2, 3, 4] : List Nat).take 4) = [1, 2, 3, 4] := rfl
  rw [e2]
  congr 1
  funext o v
  split <;> simp
attribute [-go_sem] appendM lwF_cons
theorem orV_length (o : List Nat) (vs : List Int) : (orV o vs).length = min o.length vs.length := by simp [orV]
theorem ways_len (r : Rul) : ∀ (ms : List Nat) (pre : List Int) (o : List Nat), pre.length + ms.length = o.length → (ways r ms pre o).length = o.length
  | [], pre, o, h => by
    unfold ways
    split
    · rw [orV_length]; simp at h; omega
    · rfl
  | m :: ms, pre, o, h => by
    rw [ways_cons]
    have : ∀ (l : List Int) (o' : List Nat), o'.length = o.length → (l.foldl (fun o v => ways r ms (pre ++ [v]) o) o').length = o.length := by
      intro l
      induction l with
      | nil => intro o' h'; exact h'
      | cons v l ih =>
        intro o' h'
        rw [List.foldl_cons]
        exact ih _ (by rw [ways_len r ms (pre ++ [v]) o' (by simp at h ⊢; omega)]; exact h')
    exact this _ _ rfl
theorem orV_lt {o : List Nat} {vs : List Int} (ho : ∀ x ∈ o, x < 32) (hv : ∀ v ∈ vs, 0 ≤ v ∧ v ≤ 4) : ∀ x ∈ orV o vs, x < 32 := by
  intro x hx
  obtain ⟨i, hi, rfl⟩ := List.mem_iff_getElem.1 hx
  have hi' := hi
  rw [orV_length] at hi'
  have hio : i < o.length := by omega
  have hiv : i < vs.length := by omega
  simp only [orV, List.getElem_zipWith]
  have h1 := ho _ (List.getElem_mem hio : o[i] ∈ o)
  have h2 := hv _ (List.getElem_mem hiv : vs[i] ∈ vs)
  refine Nat.or_lt_two_pow (n := 5) h1 ?_
  generalize vs[i] = w at h2
  have : w.toNat = 0 ∨ w.toNat = 1 ∨ w.toNat = 2 ∨ w.toNat = 3 ∨ w.toNat = 4 := by omega
  rcases this with h | h | h | h | h <;> rw [h] <;> omega
theorem ways_lt (r : Rul) : ∀ (ms : List Nat) (pre : List Int) (o : List Nat), (∀ v ∈ pre, 0 ≤ v ∧ v ≤ 4) → (∀ x ∈ o, x < 32) → ∀ x ∈ ways r ms pre o, x < 32
  | [], pre, o, hp, ho => by
    unfold ways
    split
    · exact orV_lt ho hp
    · exact ho
  | m :: ms, pre, o, hp, ho => by
    rw [ways_cons]
    have : ∀ (l : List Int) (o' : List Nat), (∀ v ∈ l, 0 ≤ v ∧ v ≤ 4) → (∀ x ∈ o', x < 32) → ∀ x ∈ l.foldl (fun o v => ways r ms (pre ++ [v]) o) o', x < 32 := by
      intro l
      induction l with
      | nil => intro o' _ h'; exact h'
      | cons v l ih =>
        intro o' hl h'
        rw [List.foldl_cons]
        refine ih _ (fun w hw => hl w (by simp [hw])) (ways_lt r ms (pre ++ [v]) o' (fun w hw => ?_) h')
        rcases List.mem_append.1 hw with hw | hw
        · exact hp w hw
        · simp only [List.mem_singleton] at hw
          subst hw
          exact hl w (by simp)
    exact this _ _ (fun v hv => by have := mvals_mem hv; omega) ho
theorem fold_ok (r : Rul) (ms : List Nat) (pre : List Int) : ∀ (l : List Int) (o : List Nat), (∀ v ∈ pre, 0 ≤ v ∧ v ≤ 4) → (∀ v ∈ l, 0 ≤ v ∧ v ≤ 4) → pre.length + 1 + ms.length = o.length → (∀ x ∈ o, x < 32) →
    (l.foldl (fun o v => ways r ms (pre ++ [v]) o) o).length = o.length ∧ ∀ x ∈ l.foldl (fun o v => ways r ms (pre ++ [v]) o) o, x < 32
  | [], o, _, _, _, ho => ⟨rfl, ho⟩
  | v :: l, o, hp, hl, hlen, ho => by
    rw [List.foldl_cons]
    have h1 := ways_len r ms (pre ++ [v]) o (by simp; omega)
    have h2 := ways_lt r ms (pre ++ [v]) o (fun w hw => by
      rcases List.mem_append.1 hw with hw | hw
      · exact hp w hw
      · simp only [List.mem_singleton] at hw
        subst hw
        exact hl w (by simp)) ho
    obtain ⟨k1, k2⟩ := fold_ok r ms pre l _ hp (fun w hw => hl w (by simp [hw])) (by rw [h1]; exact hlen) h2
    exact ⟨by rw [k1, h1], k2⟩
def nats (o : List Nat) : List Int := o.map fun (x : Nat) => (x : Int)
theorem nats_length (o : List Nat) : (nats o).length = o.length := by simp [nats]
theorem nats_nth {o : List Nat} {i : Nat} (h : i < o.length) : nth (nats o) i = (o[i] : Int) := by
  rw [nth_eq (by rw [nats_length]; omega)]
  simp [nats]
theorem look_set_ne' {H : Heap} {id j g : Nat} {x : Option Blk} (h : id ≠ j) : look (H.set id x) j g = look H j g := by
  unfold look; rw [List.getElem?_set_ne h]
theorem resV_none (P : Program) (s : List AV) (H : Heap) : resV P s H [] = some (.tup []) := rfl
attribute [go_sem] resV_none
def orTake (o : List Nat) (vs : List Int) (k : Nat) : List Nat := (orV o vs).take k ++ o.drop k
theorem orTake_zero (o : List Nat) (vs : List Int) : orTake o vs 0 = o := by simp [orTake]
theorem orTake_length {o : List Nat} {vs : List Int} {k : Nat} (h : vs.length = o.length) : (orTake o vs k).length = o.length := by
  simp only [orTake, List.length_append, List.length_take, List.length_drop, orV_length]; omega
theorem orTake_all {o : List Nat} {vs : List Int} (h : vs.length = o.length) : orTake o vs vs.length = orV o vs := by
  unfold orTake
  rw [List.take_of_length_le (by rw [orV_length]; omega), List.drop_of_length_le (by omega), List.append_nil]
theorem orTake_nth {o : List Nat} {vs : List Int} {k : Nat} (hk : k < vs.length) (h : vs.length = o.length) : nth (nats (orTake o vs k)) k = (o[k]'(by omega) : Int) := by
  rw [nats_nth (by rw [orTake_length h]; omega)]
  congr 1
  unfold orTake
  rw [List.getElem_append_right (by simp [orV_length]; omega)]
  simp only [List.length_take, orV_length, List.getElem_drop]
  congr 1
  omega
theorem orTake_set {o : List Nat} {vs : List Int} {k : Nat} (hk : k < vs.length) (h : vs.length = o.length) : (nats (orTake o vs k)).set k (((o[k]'(by omega)) ||| 2 ^ (nth vs k).toNat : Nat) : Int) = nats (orTake o vs (k + 1)) := by
  have hl : k < (orV o vs).length := by rw [orV_length]; omega
  unfold orTake nats
  rw [List.map_append, List.map_append, List.set_append_right _ _ (by simp [orV_length]; omega), List.take_succ_eq_append_getElem hl, List.map_append, List.append_assoc]
  congr 1
  rw [List.drop_eq_getElem_cons (show k < o.length by omega)]
  simp only [List.length_map, List.length_take, orV_length, List.map_cons, List.map_nil]
  rw [show k - min k (min o.length vs.length) = 0 by omega]
  simp only [List.set_cons_zero, List.cons_append, List.nil_append]
  congr 2
  simp only [orV, List.getElem_zipWith]
  rw [nth_eq (by omega)]
  simp
end Go.Lg

set_option linter.unusedSimpArgs false
set_option linter.unusedVariables false
set_option maxRecDepth 100000
namespace Go.Lg
open Go.Proofs
theorem nth_mem {α : Type} [Inhabited α] {xs : List α} {i : Nat} (h : i < xs.length) : nth xs i ∈ xs := by
  rw [nth_eq (by omega)]; exact List.getElem_mem _
def eRo (r : Option Rul) : List FV := match r with | none => [.int .i64 0, .nil, .int .i64 0] | some r => eR r
instance : HSz eRo 3 := ⟨fun r => by cases r <;> rfl⟩
theorem zerosRo (n : Nat) : zerosL (n * 3) [.f (.int .i64 0), .f .nil, .f (.int .i64 0)] = cl eRo (List.replicate n none) := by
  induction n with
  | zero => rfl
  | succ n ih =>
    have e : zerosL ((n + 1) * 3) [.f (.int .i64 0), .f .nil, .f (.int .i64 0)] = zerosL (n * 3) [.f (.int .i64 0), .f .nil, .f (.int .i64 0)] ++ [.f (.int .i64 0), .f .nil, .f (.int .i64 0)] := by
      simp only [zerosL, Nat.add_mul, List.range_add, List.map_append, List.length_cons, List.length_nil]
      congr 1
      simp only [List.range_succ, List.range_zero, List.nil_append, List.map_append, List.map_cons, List.map_nil, List.cons_append, List.map_map]
      simp [Nat.add_mod, Nat.mul_mod]
    rw [e, ih, List.replicate_succ', cl_append]; rfl
theorem setRo {xs : List (Option Rul)} {e : Int} {v : Rul} (h : 0 ≤ e ∧ e < (xs.length : Int)) : setRange (cl eRo xs) (0 + e.toNat * 3) (cR v) = cl eRo (xs.set e.toNat (some v)) :=
  setRange_clI (E := eRo) (v := some v) rfl h
theorem zerosB (n : Nat) : zerosL (n * 2) [.f (.int .i64 0), .f (.int .i64 0)] = cl eB (List.replicate n ⟨0, 0⟩) := by
  induction n with
  | zero => rfl
  | succ n ih =>
    have e : zerosL ((n + 1) * 2) [.f (.int .i64 0), .f (.int .i64 0)] = zerosL (n * 2) [.f (.int .i64 0), .f (.int .i64 0)] ++ [.f (.int .i64 0), .f (.int .i64 0)] := by
      simp only [zerosL, Nat.add_mul, List.range_add, List.map_append, List.length_cons, List.length_nil]
      congr 1
      simp only [List.range_succ, List.range_zero, List.nil_append, List.map_append, List.map_cons, List.map_nil, List.cons_append, List.map_map]
      simp [Nat.add_mod, Nat.mul_mod]
    rw [e, ih, List.replicate_succ', cl_append]; rfl
theorem setB {xs : List Brn} {e : Int} {v : Brn} (h : 0 ≤ e ∧ e < (xs.length : Int)) : setRange (cl eB xs) (0 + e.toNat * 2) (cB v) = cl eB (xs.set e.toNat v) :=
  setRange_clI (E := eB) rfl h
attribute [go_sem] zerosRo setRo zerosB setB
def smRs (rs : List Rul) : Prop := rs.length ≤ 2 ^ 40 ∧ ∀ r ∈ rs, r.cells.length ≤ 2 ^ 40
def smP (p : Puz) : Prop := p.given.length ≤ 2 ^ 40 ∧ smRs p.rules
end Go.Lg

set_option linter.unusedSimpArgs false
set_option linter.unusedVariables false
set_option maxRecDepth 100000
namespace Go.Lg
open Go.Proofs
theorem nth_take {α : Type} [Inhabited α] {xs : List α} {i j : Nat} (h : j < i) : nth (xs.take i) j = nth xs j := by
  simp only [nth, List.getD]
  rw [show ((j : Int)).toNat = j by omega, List.getElem?_take_of_lt h]
theorem sub_take {α : Type} (xs : List α) (i : Nat) : sub xs 0 (i : Int) = xs.take i := by simp [sub]
theorem mem_nth {α : Type} [Inhabited α] {xs : List α} {v : α} : v ∈ xs ↔ ∃ j : Nat, j < xs.length ∧ nth xs j = v := by
  constructor
  · intro h
    obtain ⟨i, hi, rfl⟩ := List.mem_iff_getElem.1 h
    exact ⟨i, hi, by rw [nth_eq (by omega)]; simp⟩
  · rintro ⟨j, hj, rfl⟩
    exact nth_mem hj
theorem all_nth {α : Type} [Inhabited α] {xs : List α} {f : α → Bool} : xs.all f = true ↔ ∀ j : Nat, j < xs.length → f (nth xs j) = true := by
  rw [List.all_eq_true]
  exact ⟨fun h j hj => h _ (nth_mem hj), fun h x hx => by obtain ⟨j, hj, rfl⟩ := mem_nth.1 hx; exact h j hj⟩
theorem all_no {α : Type} [Inhabited α] {xs : List α} {f : α → Bool} {i : Nat} (hi : i < xs.length) (h : f (nth xs i) = false) : xs.all f = false := by
  cases ha : xs.all f with
  | false => rfl
  | true => rw [all_nth.1 ha i hi] at h; cases h
theorem all_step {p : Nat → Prop} {i : Nat} (h : ∀ j, j < i → p j) (hi : p i) : ∀ j, j < i + 1 → p j := fun j hj => by
  rcases Nat.lt_succ_iff_lt_or_eq.1 hj with h1 | rfl
  · exact h j h1
  · exact hi
def ixOf (xs : List Int) (v : Int) : Int := if v ∈ xs then (xs.findIdx (fun x => x == v) : Nat) else -1
theorem Index_run (xs : List Int) (v : Int) (hx : xs.length ≤ 2 ^ 40) : Reads Try.prog 125 [ints xs, int v] (int (ixOf xs v)) := by
  refine RunCall.cw (c := _) Try.func125 rfl (n := 19) Try.ntmps125 (rs := [.tmp 4]) rfl ?_
  simp only [List.length_cons, List.length_nil, Nat.reduceAdd, Nat.reduceSub, List.replicate, List.cons_append, List.nil_append]
  simp (maxSteps := 1000000) (disch := omega) only [go_sem, Nat.reduceAdd, Nat.reduceMul, Nat.reduceSub, Nat.reduceEqDiff, Nat.reduceLeDiff]
  refine loop_rule (fun i : Nat => xs.length - i) (fun i => i ≤ xs.length ∧ ∀ j : Nat, j < i → nth xs j ≠ v) (fun i => [.k, .k, .a, .a, .a, .a, .a, .k, .p (int i), .a, .a, .a, .a, .a, .a, .a, .a, .a, .a]) (fun i => []) 0
    ⟨Nat.zero_le _, fun j hj => absurd hj (Nat.not_lt_zero _)⟩ (by simp (maxSteps := 1000000) (disch := omega) only [go_sem, Nat.reduceAdd, Nat.reduceMul, Nat.reduceSub, Nat.reduceEqDiff, Nat.reduceLeDiff]; rfl) (hle_nil _) ?_
  rintro i ⟨hi, hall⟩
  simp (maxSteps := 1000000) (disch := omega) only [go_sem, Nat.reduceAdd, Nat.reduceMul, Nat.reduceSub, Nat.reduceEqDiff, Nat.reduceLeDiff]
  (first | with_reducible refine condK_dec (fun h => ?_) (fun h => ?_) | with_reducible refine condK_ndec (fun h => ?_) (fun h => ?_) | with_reducible refine condK_nb (fun h => ?_) (fun h => ?_) | refine condK_b (fun h => ?_) (fun h => ?_))
  · have h : i < xs.length := by omega
    simp (maxSteps := 1000000) (disch := omega) only [go_sem, Nat.reduceAdd, Nat.reduceMul, Nat.reduceSub, Nat.reduceEqDiff, Nat.reduceLeDiff]
    (first | with_reducible refine condK_dec (fun h2 => ?_) (fun h2 => ?_) | with_reducible refine condK_ndec (fun h2 => ?_) (fun h2 => ?_) | with_reducible refine condK_nb (fun h2 => ?_) (fun h2 => ?_) | refine condK_b (fun h2 => ?_) (fun h2 => ?_))
    · simp (maxSteps := 1000000) (disch := omega) only [go_sem, Nat.reduceAdd, Nat.reduceMul, Nat.reduceSub, Nat.reduceEqDiff, Nat.reduceLeDiff]
      have hm : v ∈ xs := mem_nth.2 ⟨i, h, h2.symm⟩
      have : xs.findIdx (fun x => x == v) = i := (List.findIdx_eq h).2 ⟨by have := nth_eq (xs := xs) (e := i) (by omega); simp at this; rw [← this, h2]; simp, fun j hj => by
        have h3 := hall j hj
        rw [nth_eq (by omega)] at h3
        simpa using h3⟩
      simp only [ixOf, hm, if_true, this]
    · simp (maxSteps := 1000000) (disch := omega) only [go_sem, Nat.reduceAdd, Nat.reduceMul, Nat.reduceSub, Nat.reduceEqDiff, Nat.reduceLeDiff]
      refine ⟨i + 1, ⟨⟨by omega, all_step hall fun h3 => h2 h3.symm⟩, by omega⟩, by omega, hle_nil _⟩
  · simp (maxSteps := 1000000) (disch := omega) only [go_sem, Nat.reduceAdd, Nat.reduceMul, Nat.reduceSub, Nat.reduceEqDiff, Nat.reduceLeDiff]
    have hm : ¬ v ∈ xs := fun hm => by
      obtain ⟨j, hj, h4⟩ := mem_nth.1 hm
      exact hall j (by omega) h4
    simp only [ixOf, hm, if_false]
theorem Contains_run (xs : List Int) (v : Int) (hx : xs.length ≤ 2 ^ 40) : Reads Try.prog 104 [ints xs, int v] (bool (decide (v ∈ xs))) := by
  refine RunCall.cw (c := _) Try.func104 rfl (n := 9) Try.ntmps104 (rs := [.tmp 4]) rfl ?_
  simp only [List.length_cons, List.length_nil, Nat.reduceAdd, Nat.reduceSub, List.replicate, List.cons_append, List.nil_append]
  simp (maxSteps := 1000000) (disch := omega) only [go_sem, Nat.reduceAdd, Nat.reduceMul, Nat.reduceSub, Nat.reduceEqDiff, Nat.reduceLeDiff]
  first | refine OpS.rd (Index_run xs v hx) (⟨_, Try.func125, rfl, rfl⟩ : Enters Try.prog 125) rfl rfl rfl rfl ?_ | refine Loud.rd (Index_run xs v hx) (⟨_, Try.func125, rfl, rfl⟩ : Enters Try.prog 125) rfl rfl rfl rfl ?_
  simp (maxSteps := 1000000) (disch := omega) only [go_sem, Nat.reduceAdd, Nat.reduceMul, Nat.reduceSub, Nat.reduceEqDiff, Nat.reduceLeDiff]
  rw [decide_eq_decide]
  unfold ixOf
  split
  · simp [*]
  · simp [*]
def ruleShape (r : Rul) (n : Int) : Prop :=
  (r.kind = 1 ∧ 2 ≤ (r.cells.length : Int) ∧ (r.cells.length : Int) ≤ 4 ∧ r.val = 0) ∨ ((r.kind = 2 ∨ r.kind = 3) ∧ 1 ≤ (r.cells.length : Int) ∧ (r.cells.length : Int) ≤ 4 ∧ 1 ≤ r.val ∧ r.val ≤ n * n * n * n) ∨
  (r.kind = 4 ∧ (r.cells.length : Int) = 2 ∧ r.val = 0) ∨ (r.kind = 5 ∧ (r.cells.length : Int) = 2 ∧ 0 ≤ r.val ∧ r.val < n)
def cellsOk (cs : List Int) (n : Int) (i : Nat) : Prop := ∀ j : Nat, j < i → (0 ≤ nth cs j ∧ nth cs j < n * n) ∧ ∀ l : Nat, l < j → nth cs l ≠ nth cs j
instance (r : Rul) (n : Int) : Decidable (ruleShape r n) := by unfold ruleShape; infer_instance
instance (cs : List Int) (n : Int) (i : Nat) : Decidable (cellsOk cs n i) := by unfold cellsOk; infer_instance
def ruleValid (r : Rul) (n : Int) : Bool := decide ((2 ≤ n ∧ n ≤ 4) ∧ cellsOk r.cells n r.cells.length ∧ ruleShape r n)
theorem sq_bound {n : Int} (h : 2 ≤ n ∧ n ≤ 4) : 4 ≤ n * n ∧ n * n ≤ 16 := by
  have : n = 2 ∨ n = 3 ∨ n = 4 := by omega
  rcases this with rfl | rfl | rfl <;> decide
theorem cu_bound {n : Int} (h : 2 ≤ n ∧ n ≤ 4) : 8 ≤ n * n * n ∧ n * n * n ≤ 64 ∧ 16 ≤ n * n * n * n ∧ n * n * n * n ≤ 256 := by
  have : n = 2 ∨ n = 3 ∨ n = 4 := by omega
  rcases this with rfl | rfl | rfl <;> decide
theorem cellsOk_no {r : Rul} {n : Int} {i : Nat} (hi : i < r.cells.length) (h : (0 ≤ nth r.cells i ∧ nth r.cells i < n * n) → ∃ l : Nat, l < i ∧ nth r.cells l = nth r.cells i) : ruleValid r n = false := by
  simp only [ruleValid, decide_eq_false_iff_not]
  rintro ⟨_, h2, _⟩
  obtain ⟨l, h3, h4⟩ := h (h2 i hi).1
  exact (h2 i hi).2 l h3 h4
theorem cellsOk_yes {r : Rul} {n : Int} (hn : 2 ≤ n ∧ n ≤ 4) (h : cellsOk r.cells n r.cells.length) : ruleValid r n = decide (ruleShape r n) := by
  simp [ruleValid, hn, h]
theorem RuleValid_run (r : Rul) (n : Int) (hx : r.cells.length ≤ 2 ^ 40) : Reads Try.prog 71 [aR r, int n] (bool (ruleValid r n)) := by
  refine RunCall.cw (c := _) Try.func71 rfl (n := 105) Try.ntmps71 (rs := [.tmp 4]) rfl ?_
  simp only [List.length_cons, List.length_nil, Nat.reduceAdd, Nat.reduceSub, List.replicate, List.cons_append, List.nil_append]
  simp (maxSteps := 1000000) (disch := omega) only [go_sem, Nat.reduceAdd, Nat.reduceMul, Nat.reduceSub, Nat.reduceEqDiff, Nat.reduceLeDiff]
  intro g
  first | refine OpS.rd (sizeOk_run n) (⟨_, Try.func103, rfl, rfl⟩ : Enters Try.prog 103) rfl rfl rfl rfl ?_ | refine Loud.rd (sizeOk_run n) (⟨_, Try.func103, rfl, rfl⟩ : Enters Try.prog 103) rfl rfl rfl rfl ?_
  simp (maxSteps := 1000000) (disch := omega) only [go_sem, Nat.reduceAdd, Nat.reduceMul, Nat.reduceSub, Nat.reduceEqDiff, Nat.reduceLeDiff]
  (first | with_reducible refine condK_dec (fun hn => ?_) (fun hn => ?_) | with_reducible refine condK_ndec (fun hn => ?_) (fun hn => ?_) | with_reducible refine condK_nb (fun hn => ?_) (fun hn => ?_) | refine condK_b (fun hn => ?_) (fun hn => ?_))
  · have hw := sq_bound hn
    simp (maxSteps := 1000000) (disch := omega) only [go_sem, Nat.reduceAdd, Nat.reduceMul, Nat.reduceSub, Nat.reduceEqDiff, Nat.reduceLeDiff]
    refine loop_rule (fun i : Nat => r.cells.length - i) (fun i => i ≤ r.cells.length ∧ cellsOk r.cells n i) (fun i => [.a, .k, .k, .a, .a, .a, .a, .a, .a, .a, .a, .a, .k, .k, .p (int i), .a, .a, .a, .a, .a, .a, .a, .a, .a, .a, .a, .a, .a, .a, .a, .a, .a, .a, .a, .a, .a, .a, .a, .a, .a, .a, .a, .a, .a, .a, .a, .a, .a, .a, .a, .a, .a, .a, .a, .a, .a, .a, .a, .a, .a, .a, .a, .a, .a, .a, .a, .a, .a, .a, .a, .a, .a, .a, .a, .a, .a, .a, .a, .a, .a, .a, .a, .a, .a, .a, .a, .a, .a, .a, .a, .a, .a, .a, .a, .a, .a, .a, .a, .a, .a, .a, .a, .a, .a, .a]) (fun _ => [some ⟨g, 1, cR r⟩]) 0
      ⟨Nat.zero_le _, fun j hj => absurd hj (Nat.not_lt_zero _)⟩ (by simp (maxSteps := 1000000) (disch := omega) only [go_sem, Nat.reduceAdd, Nat.reduceMul, Nat.reduceSub, Nat.reduceEqDiff, Nat.reduceLeDiff]; rfl) (HLe.refl _) ?_
    rintro i ⟨hi, hall⟩
    simp (maxSteps := 1000000) (disch := omega) only [go_sem, Nat.reduceAdd, Nat.reduceMul, Nat.reduceSub, Nat.reduceEqDiff, Nat.reduceLeDiff]
    (first | with_reducible refine condK_dec (fun h => ?_) (fun h => ?_) | with_reducible refine condK_ndec (fun h => ?_) (fun h => ?_) | with_reducible refine condK_nb (fun h => ?_) (fun h => ?_) | refine condK_b (fun h => ?_) (fun h => ?_))
    · have h : i < r.cells.length := by omega
      simp (maxSteps := 1000000) (disch := omega) only [go_sem, Nat.reduceAdd, Nat.reduceMul, Nat.reduceSub, Nat.reduceEqDiff, Nat.reduceLeDiff]
      (first | with_reducible refine guardK_dec (fun h1 => ?_) (fun h1 => ?_) <;> simp (maxSteps := 1000000) (disch := omega) only [go_sem, Nat.reduceAdd, Nat.reduceMul, Nat.reduceSub, Nat.reduceEqDiff, Nat.reduceLeDiff, h1] | with_reducible refine guardK_ndec (fun h1 => ?_) (fun h1 => ?_) <;> simp (maxSteps := 1000000) (disch := omega) only [go_sem, Nat.reduceAdd, Nat.reduceMul, Nat.reduceSub, Nat.reduceEqDiff, Nat.reduceLeDiff, h1] | with_reducible refine guardK_nb (fun h1 => ?_) (fun h1 => ?_) <;> simp (maxSteps := 1000000) (disch := omega) only [go_sem, Nat.reduceAdd, Nat.reduceMul, Nat.reduceSub, Nat.reduceEqDiff, Nat.reduceLeDiff, h1] | with_reducible refine guardK_split (fun h1 => ?_) (fun h1 => ?_) <;> simp (maxSteps := 1000000) (disch := omega) only [go_sem, Nat.reduceAdd, Nat.reduceMul, Nat.reduceSub, Nat.reduceEqDiff, Nat.reduceLeDiff, h1] | with_reducible refine guardQ_dec (fun h1 => ?_) (fun h1 => ?_) <;> simp (maxSteps := 1000000) (disch := omega) only [go_sem, Nat.reduceAdd, Nat.reduceMul, Nat.reduceSub, Nat.reduceEqDiff, Nat.reduceLeDiff, h1] | with_reducible refine guardL_dec (fun h1 => ?_) (fun h1 => ?_) <;> simp (maxSteps := 1000000) (disch := omega) only [go_sem, Nat.reduceAdd, Nat.reduceMul, Nat.reduceSub, Nat.reduceEqDiff, Nat.reduceLeDiff, h1] | with_reducible refine guardQ_ndec (fun h1 => ?_) (fun h1 => ?_) <;> simp (maxSteps := 1000000) (disch := omega) only [go_sem, Nat.reduceAdd, Nat.reduceMul, Nat.reduceSub, Nat.reduceEqDiff, Nat.reduceLeDiff, h1] | with_reducible refine guardL_ndec (fun h1 => ?_) (fun h1 => ?_) <;> simp (maxSteps := 1000000) (disch := omega) only [go_sem, Nat.reduceAdd, Nat.reduceMul, Nat.reduceSub, Nat.reduceEqDiff, Nat.reduceLeDiff, h1] | with_reducible refine guardQ_nb (fun h1 => ?_) (fun h1 => ?_) <;> simp (maxSteps := 1000000) (disch := omega) only [go_sem, Nat.reduceAdd, Nat.reduceMul, Nat.reduceSub, Nat.reduceEqDiff, Nat.reduceLeDiff, h1] | with_reducible refine guardL_nb (fun h1 => ?_) (fun h1 => ?_) <;> simp (maxSteps := 1000000) (disch := omega) only [go_sem, Nat.reduceAdd, Nat.reduceMul, Nat.reduceSub, Nat.reduceEqDiff, Nat.reduceLeDiff, h1] | with_reducible refine guardQ_split (fun h1 => ?_) (fun h1 => ?_) <;> simp (maxSteps := 1000000) (disch := omega) only [go_sem, Nat.reduceAdd, Nat.reduceMul, Nat.reduceSub, Nat.reduceEqDiff, Nat.reduceLeDiff, h1] | with_reducible refine guardL_split (fun h1 => ?_) (fun h1 => ?_) <;> simp (maxSteps := 1000000) (disch := omega) only [go_sem, Nat.reduceAdd, Nat.reduceMul, Nat.reduceSub, Nat.reduceEqDiff, Nat.reduceLeDiff, h1])
      · symm; exact cellsOk_no h fun h5 => by omega
      (first | with_reducible refine guardK_dec (fun h2 => ?_) (fun h2 => ?_) <;> simp (maxSteps := 1000000) (disch := omega) only [go_sem, Nat.reduceAdd, Nat.reduceMul, Nat.reduceSub, Nat.reduceEqDiff, Nat.reduceLeDiff, h2] | with_reducible refine guardK_ndec (fun h2 => ?_) (fun h2 => ?_) <;> simp (maxSteps := 1000000) (disch := omega) only [go_sem, Nat.reduceAdd, Nat.reduceMul, Nat.reduceSub, Nat.reduceEqDiff, Nat.reduceLeDiff, h2] | with_reducible refine guardK_nb (fun h2 => ?_) (fun h2 => ?_) <;> simp (maxSteps := 1000000) (disch := omega) only [go_sem, Nat.reduceAdd, Nat.reduceMul, Nat.reduceSub, Nat.reduceEqDiff, Nat.reduceLeDiff, h2] | with_reducible refine guardK_split (fun h2 => ?_) (fun h2 => ?_) <;> simp (maxSteps := 1000000) (disch := omega) only [go_sem, Nat.reduceAdd, Nat.reduceMul, Nat.reduceSub, Nat.reduceEqDiff, Nat.reduceLeDiff, h2] | with_reducible refine guardQ_dec (fun h2 => ?_) (fun h2 => ?_) <;> simp (maxSteps := 1000000) (disch := omega) only [go_sem, Nat.reduceAdd, Nat.reduceMul, Nat.reduceSub, Nat.reduceEqDiff, Nat.reduceLeDiff, h2] | with_reducible refine guardL_dec (fun h2 => ?_) (fun h2 => ?_) <;> simp (maxSteps := 1000000) (disch := omega) only [go_sem, Nat.reduceAdd, Nat.reduceMul, Nat.reduceSub, Nat.reduceEqDiff, Nat.reduceLeDiff, h2] | with_reducible refine guardQ_ndec (fun h2 => ?_) (fun h2 => ?_) <;> simp (maxSteps := 1000000) (disch := omega) only [go_sem, Nat.reduceAdd, Nat.reduceMul, Nat.reduceSub, Nat.reduceEqDiff, Nat.reduceLeDiff, h2] | with_reducible refine guardL_ndec (fun h2 => ?_) (fun h2 => ?_) <;> simp (maxSteps := 1000000) (disch := omega) only [go_sem, Nat.reduceAdd, Nat.reduceMul, Nat.reduceSub, Nat.reduceEqDiff, Nat.reduceLeDiff, h2] | with_reducible refine guardQ_nb (fun h2 => ?_) (fun h2 => ?_) <;> simp (maxSteps := 1000000) (disch := omega) only [go_sem, Nat.reduceAdd, Nat.reduceMul, Nat.reduceSub, Nat.reduceEqDiff, Nat.reduceLeDiff, h2] | with_reducible refine guardL_nb (fun h2 => ?_) (fun h2 => ?_) <;> simp (maxSteps := 1000000) (disch := omega) only [go_sem, Nat.reduceAdd, Nat.reduceMul, Nat.reduceSub, Nat.reduceEqDiff, Nat.reduceLeDiff, h2] | with_reducible refine guardQ_split (fun h2 => ?_) (fun h2 => ?_) <;> simp (maxSteps := 1000000) (disch := omega) only [go_sem, Nat.reduceAdd, Nat.reduceMul, Nat.reduceSub, Nat.reduceEqDiff, Nat.reduceLeDiff, h2] | with_reducible refine guardL_split (fun h2 => ?_) (fun h2 => ?_) <;> simp (maxSteps := 1000000) (disch := omega) only [go_sem, Nat.reduceAdd, Nat.reduceMul, Nat.reduceSub, Nat.reduceEqDiff, Nat.reduceLeDiff, h2])
      · symm; exact cellsOk_no h fun h5 => by omega
      simp (maxSteps := 1000000) (disch := omega) only [go_sem, Nat.reduceAdd, Nat.reduceMul, Nat.reduceSub, Nat.reduceEqDiff, Nat.reduceLeDiff, sub_take]
      first | refine OpS.rd (Contains_run (r.cells.take i) (nth r.cells i) (by simp; omega)) (⟨_, Try.func104, rfl, rfl⟩ : Enters Try.prog 104) rfl rfl rfl rfl ?_ | refine Loud.rd (Contains_run (r.cells.take i) (nth r.cells i) (by simp; omega)) (⟨_, Try.func104, rfl, rfl⟩ : Enters Try.prog 104) rfl rfl rfl rfl ?_
      simp (maxSteps := 1000000) (disch := omega) only [go_sem, Nat.reduceAdd, Nat.reduceMul, Nat.reduceSub, Nat.reduceEqDiff, Nat.reduceLeDiff]
      (first | with_reducible refine condK_dec (fun h3 => ?_) (fun h3 => ?_) | with_reducible refine condK_ndec (fun h3 => ?_) (fun h3 => ?_) | with_reducible refine condK_nb (fun h3 => ?_) (fun h3 => ?_) | refine condK_b (fun h3 => ?_) (fun h3 => ?_))
      · simp (maxSteps := 1000000) (disch := omega) only [go_sem, Nat.reduceAdd, Nat.reduceMul, Nat.reduceSub, Nat.reduceEqDiff, Nat.reduceLeDiff]
        obtain ⟨j, h4, h5⟩ := mem_nth.1 h3
        simp only [List.length_take] at h4
        rw [nth_take (by omega)] at h5
        symm; exact cellsOk_no h fun _ => ⟨j, by omega, h5⟩
      · simp (maxSteps := 1000000) (disch := omega) only [go_sem, Nat.reduceAdd, Nat.reduceMul, Nat.reduceSub, Nat.reduceEqDiff, Nat.reduceLeDiff]
        refine ⟨i + 1, ⟨⟨h, all_step hall ⟨by omega, fun l hl hl2 => h3 (mem_nth.2 ⟨l, by simp; omega, by rw [nth_take hl]; exact hl2⟩)⟩⟩, by omega⟩, by omega, HLe.refl _⟩
    · have : i = r.cells.length := by omega
      subst this
      simp (maxSteps := 1000000) (disch := omega) only [go_sem, Nat.reduceAdd, Nat.reduceMul, Nat.reduceSub, Nat.reduceEqDiff, Nat.reduceLeDiff]
      rw [cellsOk_yes hn hall]
      have hcu := cu_bound hn
      repeat' (first | (first | with_reducible refine guardK_dec (fun hg => ?_) (fun hg => ?_) <;> simp (maxSteps := 1000000) (disch := omega) only [go_sem, Nat.reduceAdd, Nat.reduceMul, Nat.reduceSub, Nat.reduceEqDiff, Nat.reduceLeDiff, hg] | with_reducible refine guardK_ndec (fun hg => ?_) (fun hg => ?_) <;> simp (maxSteps := 1000000) (disch := omega) only [go_sem, Nat.reduceAdd, Nat.reduceMul, Nat.reduceSub, Nat.reduceEqDiff, Nat.reduceLeDiff, hg] | with_reducible refine guardK_nb (fun hg => ?_) (fun hg => ?_) <;> simp (maxSteps := 1000000) (disch := omega) only [go_sem, Nat.reduceAdd, Nat.reduceMul, Nat.reduceSub, Nat.reduceEqDiff, Nat.reduceLeDiff, hg] | with_reducible refine guardK_split (fun hg => ?_) (fun hg => ?_) <;> simp (maxSteps := 1000000) (disch := omega) only [go_sem, Nat.reduceAdd, Nat.reduceMul, Nat.reduceSub, Nat.reduceEqDiff, Nat.reduceLeDiff, hg] | with_reducible refine guardQ_dec (fun hg => ?_) (fun hg => ?_) <;> simp (maxSteps := 1000000) (disch := omega) only [go_sem, Nat.reduceAdd, Nat.reduceMul, Nat.reduceSub, Nat.reduceEqDiff, Nat.reduceLeDiff, hg] | with_reducible refine guardL_dec (fun hg => ?_) (fun hg => ?_) <;> simp (maxSteps := 1000000) (disch := omega) only [go_sem, Nat.reduceAdd, Nat.reduceMul, Nat.reduceSub, Nat.reduceEqDiff, Nat.reduceLeDiff, hg] | with_reducible refine guardQ_ndec (fun hg => ?_) (fun hg => ?_) <;> simp (maxSteps := 1000000) (disch := omega) only [go_sem, Nat.reduceAdd, Nat.reduceMul, Nat.reduceSub, Nat.reduceEqDiff, Nat.reduceLeDiff, hg] | with_reducible refine guardL_ndec (fun hg => ?_) (fun hg => ?_) <;> simp (maxSteps := 1000000) (disch := omega) only [go_sem, Nat.reduceAdd, Nat.reduceMul, Nat.reduceSub, Nat.reduceEqDiff, Nat.reduceLeDiff, hg] | with_reducible refine guardQ_nb (fun hg => ?_) (fun hg => ?_) <;> simp (maxSteps := 1000000) (disch := omega) only [go_sem, Nat.reduceAdd, Nat.reduceMul, Nat.reduceSub, Nat.reduceEqDiff, Nat.reduceLeDiff, hg] | with_reducible refine guardL_nb (fun hg => ?_) (fun hg => ?_) <;> simp (maxSteps := 1000000) (disch := omega) only [go_sem, Nat.reduceAdd, Nat.reduceMul, Nat.reduceSub, Nat.reduceEqDiff, Nat.reduceLeDiff, hg] | with_reducible refine guardQ_split (fun hg => ?_) (fun hg => ?_) <;> simp (maxSteps := 1000000) (disch := omega) only [go_sem, Nat.reduceAdd, Nat.reduceMul, Nat.reduceSub, Nat.reduceEqDiff, Nat.reduceLeDiff, hg] | with_reducible refine guardL_split (fun hg => ?_) (fun hg => ?_) <;> simp (maxSteps := 1000000) (disch := omega) only [go_sem, Nat.reduceAdd, Nat.reduceMul, Nat.reduceSub, Nat.reduceEqDiff, Nat.reduceLeDiff, hg]) | ((first | with_reducible refine condK_dec (fun hg => ?_) (fun hg => ?_) | with_reducible refine condK_ndec (fun hg => ?_) (fun hg => ?_) | with_reducible refine condK_nb (fun hg => ?_) (fun hg => ?_) | refine condK_b (fun hg => ?_) (fun hg => ?_)) <;> simp (maxSteps := 1000000) (disch := omega) only [go_sem, Nat.reduceAdd, Nat.reduceMul, Nat.reduceSub, Nat.reduceEqDiff, Nat.reduceLeDiff]) | fail)
      all_goals
        (first | refine bool_ff ?_ | refine bool_tt ?_ | refine bool_pq ?_)
      all_goals unfold ruleShape; omega
  · simp (maxSteps := 1000000) (disch := omega) only [go_sem, Nat.reduceAdd, Nat.reduceMul, Nat.reduceSub, Nat.reduceEqDiff, Nat.reduceLeDiff]
    symm; simp only [ruleValid, decide_eq_false_iff_not]; exact fun h => hn h.1
end Go.Lg

set_option linter.unusedSimpArgs false
set_option linter.unusedVariables false
set_option maxRecDepth 100000
namespace Go.Lg
open Go.Proofs
theorem shl_n {n : Nat} (hn : n = 2 ∨ n = 3 ∨ n = 4) : binI .shl .i64 1 .i64 ((n : Int) + 1) = some (.int .i64 (((2 ^ (n + 1) : Nat)) : Int)) := by
  rcases hn with rfl | rfl | rfl <;> rfl
theorem nats_zeros (k : Nat) : nats (List.replicate k 0) = List.replicate k 0 := by simp [nats]
theorem ruleValid_facts {r : Rul} {n : Nat} (hv : ruleValid r n = true) : (1 ≤ r.cells.length ∧ r.cells.length ≤ 4) ∧ (r.kind = 1 ∨ r.kind = 2 ∨ r.kind = 3 ∨ r.cells.length = 2) ∧ (∀ c ∈ r.cells, 0 ≤ c ∧ c < (n * n : Nat)) ∧ r.cells.Nodup := by
  simp only [ruleValid, decide_eq_true_eq] at hv
  obtain ⟨h1, h2, h3⟩ := hv
  refine ⟨?_, ?_, fun c hc => ?_, ?_⟩
  · rcases h3 with h | h | h | h <;> omega
  · rcases h3 with h | h | h | h <;> omega
  · obtain ⟨j, hj, rfl⟩ := List.mem_iff_getElem.1 hc
    have := (h2 j hj).1
    rw [nth_eq (by omega)] at this
    simp only [Int.toNat_natCast] at this
    push_cast
    exact this
  · rw [List.nodup_iff_pairwise_ne, List.pairwise_iff_getElem]
    intro i j hi hj hij
    have := (h2 j hj).2 i hij
    rw [nth_eq (by omega), nth_eq (by omega)] at this
    simp only [Int.toNat_natCast] at this
    exact this
end Go.Lg

set_option linter.unusedSimpArgs false
set_option linter.unusedVariables false
set_option maxRecDepth 100000
namespace Go.Lg
open Go.Proofs
def puzzleValid (p : Puz) : Bool := gridValid p.given p.size && (decide (p.rules.length ≤ 20) && p.rules.all fun r => ruleValid r p.size)
theorem PuzzleValid_run (p : Puz) (hx : smP p) : Reads Try.prog 83 [aP p] (bool (puzzleValid p)) := by
  obtain ⟨hx1, hx2, hx3⟩ := hx
  refine RunCall.cw (c := _) Try.func83 rfl (n := 30) Try.ntmps83 (rs := [.tmp 2]) rfl ?_
  simp only [List.length_cons, List.length_nil, Nat.reduceAdd, Nat.reduceSub, List.replicate, List.cons_append, List.nil_append]
  simp (maxSteps := 1000000) (disch := omega) only [go_sem, Nat.reduceAdd, Nat.reduceMul, Nat.reduceSub, Nat.reduceEqDiff, Nat.reduceLeDiff]
  intro g
  first | refine OpS.rd (GridValid_run p.given p.size (by omega)) (⟨_, Try.func87, rfl, rfl⟩ : Enters Try.prog 87) rfl rfl rfl rfl ?_ | refine Loud.rd (GridValid_run p.given p.size (by omega)) (⟨_, Try.func87, rfl, rfl⟩ : Enters Try.prog 87) rfl rfl rfl rfl ?_
  simp (maxSteps := 1000000) (disch := omega) only [go_sem, Nat.reduceAdd, Nat.reduceMul, Nat.reduceSub, Nat.reduceEqDiff, Nat.reduceLeDiff]
  (first | with_reducible refine guardK_dec (fun hv => ?_) (fun hv => ?_) <;> simp (maxSteps := 1000000) (disch := omega) only [go_sem, Nat.reduceAdd, Nat.reduceMul, Nat.reduceSub, Nat.reduceEqDiff, Nat.reduceLeDiff, hv] | with_reducible refine guardK_ndec (fun hv => ?_) (fun hv => ?_) <;> simp (maxSteps := 1000000) (disch := omega) only [go_sem, Nat.reduceAdd, Nat.reduceMul, Nat.reduceSub, Nat.reduceEqDiff, Nat.reduceLeDiff, hv] | with_reducible refine guardK_nb (fun hv => ?_) (fun hv => ?_) <;> simp (maxSteps := 1000000) (disch := omega) only [go_sem, Nat.reduceAdd, Nat.reduceMul, Nat.reduceSub, Nat.reduceEqDiff, Nat.reduceLeDiff, hv] | with_reducible refine guardK_split (fun hv => ?_) (fun hv => ?_) <;> simp (maxSteps := 1000000) (disch := omega) only [go_sem, Nat.reduceAdd, Nat.reduceMul, Nat.reduceSub, Nat.reduceEqDiff, Nat.reduceLeDiff, hv] | with_reducible refine guardQ_dec (fun hv => ?_) (fun hv => ?_) <;> simp (maxSteps := 1000000) (disch := omega) only [go_sem, Nat.reduceAdd, Nat.reduceMul, Nat.reduceSub, Nat.reduceEqDiff, Nat.reduceLeDiff, hv] | with_reducible refine guardL_dec (fun hv => ?_) (fun hv => ?_) <;> simp (maxSteps := 1000000) (disch := omega) only [go_sem, Nat.reduceAdd, Nat.reduceMul, Nat.reduceSub, Nat.reduceEqDiff, Nat.reduceLeDiff, hv] | with_reducible refine guardQ_ndec (fun hv => ?_) (fun hv => ?_) <;> simp (maxSteps := 1000000) (disch := omega) only [go_sem, Nat.reduceAdd, Nat.reduceMul, Nat.reduceSub, Nat.reduceEqDiff, Nat.reduceLeDiff, hv] | with_reducible refine guardL_ndec (fun hv => ?_) (fun hv => ?_) <;> simp (maxSteps := 1000000) (disch := omega) only [go_sem, Nat.reduceAdd, Nat.reduceMul, Nat.reduceSub, Nat.reduceEqDiff, Nat.reduceLeDiff, hv] | with_reducible refine guardQ_nb (fun hv => ?_) (fun hv => ?_) <;> simp (maxSteps := 1000000) (disch := omega) only [go_sem, Nat.reduceAdd, Nat.reduceMul, Nat.reduceSub, Nat.reduceEqDiff, Nat.reduceLeDiff, hv] | with_reducible refine guardL_nb (fun hv => ?_) (fun hv => ?_) <;> simp (maxSteps := 1000000) (disch := omega) only [go_sem, Nat.reduceAdd, Nat.reduceMul, Nat.reduceSub, Nat.reduceEqDiff, Nat.reduceLeDiff, hv] | with_reducible refine guardQ_split (fun hv => ?_) (fun hv => ?_) <;> simp (maxSteps := 1000000) (disch := omega) only [go_sem, Nat.reduceAdd, Nat.reduceMul, Nat.reduceSub, Nat.reduceEqDiff, Nat.reduceLeDiff, hv] | with_reducible refine guardL_split (fun hv => ?_) (fun hv => ?_) <;> simp (maxSteps := 1000000) (disch := omega) only [go_sem, Nat.reduceAdd, Nat.reduceMul, Nat.reduceSub, Nat.reduceEqDiff, Nat.reduceLeDiff, hv])
  rotate_left
  · simp [puzzleValid, hv]
  (first | with_reducible refine condK_dec (fun h20 => ?_) (fun h20 => ?_) | with_reducible refine condK_ndec (fun h20 => ?_) (fun h20 => ?_) | with_reducible refine condK_nb (fun h20 => ?_) (fun h20 => ?_) | refine condK_b (fun h20 => ?_) (fun h20 => ?_))
  · simp (maxSteps := 1000000) (disch := omega) only [go_sem, Nat.reduceAdd, Nat.reduceMul, Nat.reduceSub, Nat.reduceEqDiff, Nat.reduceLeDiff]
    symm; simp only [puzzleValid, hv, Bool.true_and, Bool.and_eq_false_iff, decide_eq_false_iff_not]; exact .inl (by omega)
  simp (maxSteps := 1000000) (disch := omega) only [go_sem, Nat.reduceAdd, Nat.reduceMul, Nat.reduceSub, Nat.reduceEqDiff, Nat.reduceLeDiff]
  refine loop_rule (fun i : Nat => p.rules.length - i) (fun i => i ≤ p.rules.length ∧ ∀ j : Nat, j < i → ruleValid (nth p.rules j) p.size = true) (fun i => [.a, .k, .a, .a, .a, .a, .a, .a, .a, .a, .a, .a, .a, .a, .a, .a, .a, .a, .k, .k, .p (int i), .a, .a, .a, .a, .a, .a, .a, .a, .a]) (fun _ => [some ⟨g, 1, cP p⟩]) 0
    ⟨Nat.zero_le _, fun j hj => absurd hj (Nat.not_lt_zero _)⟩ (by simp (maxSteps := 1000000) (disch := omega) only [go_sem, Nat.reduceAdd, Nat.reduceMul, Nat.reduceSub, Nat.reduceEqDiff, Nat.reduceLeDiff]; rfl) (HLe.refl _) ?_
  rintro i ⟨hi, hall⟩
  simp (maxSteps := 1000000) (disch := omega) only [go_sem, Nat.reduceAdd, Nat.reduceMul, Nat.reduceSub, Nat.reduceEqDiff, Nat.reduceLeDiff]
  (first | with_reducible refine condK_dec (fun h => ?_) (fun h => ?_) | with_reducible refine condK_ndec (fun h => ?_) (fun h => ?_) | with_reducible refine condK_nb (fun h => ?_) (fun h => ?_) | refine condK_b (fun h => ?_) (fun h => ?_))
  · have h : i < p.rules.length := by omega
    simp (maxSteps := 1000000) (disch := omega) only [go_sem, Nat.reduceAdd, Nat.reduceMul, Nat.reduceSub, Nat.reduceEqDiff, Nat.reduceLeDiff]
    intro g2
    first | refine OpS.rd (RuleValid_run (nth p.rules i) p.size (hx3 _ (nth_mem h))) (⟨_, Try.func71, rfl, rfl⟩ : Enters Try.prog 71) rfl rfl rfl rfl ?_ | refine Loud.rd (RuleValid_run (nth p.rules i) p.size (hx3 _ (nth_mem h))) (⟨_, Try.func71, rfl, rfl⟩ : Enters Try.prog 71) rfl rfl rfl rfl ?_
    simp (maxSteps := 1000000) (disch := omega) only [go_sem, Nat.reduceAdd, Nat.reduceMul, Nat.reduceSub, Nat.reduceEqDiff, Nat.reduceLeDiff]
    (first | with_reducible refine condK_dec (fun h2 => ?_) (fun h2 => ?_) | with_reducible refine condK_ndec (fun h2 => ?_) (fun h2 => ?_) | with_reducible refine condK_nb (fun h2 => ?_) (fun h2 => ?_) | refine condK_b (fun h2 => ?_) (fun h2 => ?_))
    · simp (maxSteps := 1000000) (disch := omega) only [go_sem, Nat.reduceAdd, Nat.reduceMul, Nat.reduceSub, Nat.reduceEqDiff, Nat.reduceLeDiff]
      exact ⟨i + 1, ⟨⟨h, all_step hall h2⟩, by omega⟩, by omega, hle_self _ _ _ (hle_nil _)⟩
    · simp (maxSteps := 1000000) (disch := omega) only [go_sem, Nat.reduceAdd, Nat.reduceMul, Nat.reduceSub, Nat.reduceEqDiff, Nat.reduceLeDiff]
      symm; simp only [puzzleValid, Bool.and_eq_false_iff]; exact .inr (.inr (all_no h h2))
  · simp (maxSteps := 1000000) (disch := omega) only [go_sem, Nat.reduceAdd, Nat.reduceMul, Nat.reduceSub, Nat.reduceEqDiff, Nat.reduceLeDiff]
    symm; simp only [puzzleValid, Bool.and_eq_true, decide_eq_true_eq]
    exact ⟨hv, by omega, all_nth.2 fun j hj => hall j (by omega)⟩
end Go.Lg
