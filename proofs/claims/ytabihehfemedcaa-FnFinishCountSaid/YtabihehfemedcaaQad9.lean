/- GpK, GpM, GpFF, GpHA, cut to what is needed. -/
import Derived.Test.YtabihehfemedcaaQac3
import Derived.Test.YtabihehfemedcaaQab5
import Derived.Test.YtabihehfemedcaaQab3
import Derived.Test.YtabihehfemedcaaQad8
import Derived.Test.YtabihehfemedcaaQad0
set_option linter.unusedSimpArgs false
set_option linter.unusedVariables false
set_option maxRecDepth 100000
namespace Go.Lg
open Go.Proofs
def filledAt (xs : List Int) : List Int := ((List.range xs.length).filter fun i : Nat => decide (0 < nth xs i)).map fun i : Nat => (i : Int)
def gameOk (g : Gam) : Prop := g.moves.Nodup ∧ (∀ c ∈ g.moves, c ∈ filledAt g.put) ∧ ∀ c ∈ filledAt g.put, c ∈ g.moves ∧ nth g.task.given c ≤ 0
instance (g : Gam) : Decidable (gameOk g) := by unfold gameOk; infer_instance
def eBo (b : Bool) : List FV := [.bool b]
instance : HSz eBo 1 := ⟨fun _ => rfl⟩
theorem eBo_0 (b : Bool) (d : FV) : (eBo b).getD 0 d = .bool b := rfl
theorem zerosBo (n : Nat) : zerosL (n * 1) [.f (.bool false)] = cl eBo (List.replicate n false) := by
  simp only [zerosL, Nat.mul_one, List.length_singleton, Nat.mod_one]
  induction n with
  | zero => rfl
  | succ n ih => rw [List.range_succ, List.map_append, ih, List.replicate_succ', cl_append]; rfl
theorem setBo {xs : List Bool} {e : Int} {v : Bool} (h : 0 ≤ e ∧ e < (xs.length : Int)) : setRange (cl eBo xs) (0 + e.toNat * 1) [.f (.bool v)] = cl eBo (xs.set e.toNat v) :=
  setRange_cl (E := eBo) (by omega)
attribute [go_sem] eBo_0 zerosBo setBo
end Go.Lg

set_option linter.unusedSimpArgs false
set_option linter.unusedVariables false
set_option maxRecDepth 100000
namespace Go.Lg
open Go.Proofs
def RO.setV (o : RO) (k : Int) : RO := { o with r := { o.r with val := k } }
end Go.Lg

set_option linter.unusedSimpArgs false
set_option linter.unusedVariables false
set_option maxRecDepth 100000
namespace Go.Lg
open Go.Proofs
def countV (p : Puz) (most : Int) : Int := if puzzleValid p = true ∧ 1 ≤ most ∧ most ≤ 600 then (allS p most.toNat).length else -1
def firstV (p : Puz) : List Int := nth (allS p 1) 0
theorem allS_no {p : Puz} (h : ¬ puzzleValid p = true) (most : Nat) : allS p most = [] := by unfold allS; rw [if_neg (fun h' => h h'.1)]
theorem CountSolutions_run (p : Puz) (most : Int) (hx : smP p) : Reads Try.prog 57 [aP p, int most] (int (countV p most)) := by
  refine RunCall.cw (c := _) Try.func57 rfl (n := 22) Try.ntmps57 (rs := [.tmp 4]) rfl ?_
  simp only [List.length_cons, List.length_nil, Nat.reduceAdd, Nat.reduceSub, List.replicate, List.cons_append, List.nil_append]
  simp (maxSteps := 1000000) (disch := omega) only [go_sem, Nat.reduceAdd, Nat.reduceMul, Nat.reduceSub, Nat.reduceEqDiff, Nat.reduceLeDiff]
  intro g
  first | refine OpS.rd (PuzzleValid_run p hx) (⟨_, Try.func83, rfl, rfl⟩ : Enters Try.prog 83) rfl rfl rfl rfl ?_ | refine Loud.rd (PuzzleValid_run p hx) (⟨_, Try.func83, rfl, rfl⟩ : Enters Try.prog 83) rfl rfl rfl rfl ?_
  simp (maxSteps := 1000000) (disch := omega) only [go_sem, Nat.reduceAdd, Nat.reduceMul, Nat.reduceSub, Nat.reduceEqDiff, Nat.reduceLeDiff]
  (first | with_reducible refine guardK_dec (fun h1 => ?_) (fun h1 => ?_) <;> simp (maxSteps := 1000000) (disch := omega) only [go_sem, Nat.reduceAdd, Nat.reduceMul, Nat.reduceSub, Nat.reduceEqDiff, Nat.reduceLeDiff, h1] | with_reducible refine guardK_ndec (fun h1 => ?_) (fun h1 => ?_) <;> simp (maxSteps := 1000000) (disch := omega) only [go_sem, Nat.reduceAdd, Nat.reduceMul, Nat.reduceSub, Nat.reduceEqDiff, Nat.reduceLeDiff, h1] | with_reducible refine guardK_nb (fun h1 => ?_) (fun h1 => ?_) <;> simp (maxSteps := 1000000) (disch := omega) only [go_sem, Nat.reduceAdd, Nat.reduceMul, Nat.reduceSub, Nat.reduceEqDiff, Nat.reduceLeDiff, h1] | with_reducible refine guardK_split (fun h1 => ?_) (fun h1 => ?_) <;> simp (maxSteps := 1000000) (disch := omega) only [go_sem, Nat.reduceAdd, Nat.reduceMul, Nat.reduceSub, Nat.reduceEqDiff, Nat.reduceLeDiff, h1] | with_reducible refine guardQ_dec (fun h1 => ?_) (fun h1 => ?_) <;> simp (maxSteps := 1000000) (disch := omega) only [go_sem, Nat.reduceAdd, Nat.reduceMul, Nat.reduceSub, Nat.reduceEqDiff, Nat.reduceLeDiff, h1] | with_reducible refine guardL_dec (fun h1 => ?_) (fun h1 => ?_) <;> simp (maxSteps := 1000000) (disch := omega) only [go_sem, Nat.reduceAdd, Nat.reduceMul, Nat.reduceSub, Nat.reduceEqDiff, Nat.reduceLeDiff, h1] | with_reducible refine guardQ_ndec (fun h1 => ?_) (fun h1 => ?_) <;> simp (maxSteps := 1000000) (disch := omega) only [go_sem, Nat.reduceAdd, Nat.reduceMul, Nat.reduceSub, Nat.reduceEqDiff, Nat.reduceLeDiff, h1] | with_reducible refine guardL_ndec (fun h1 => ?_) (fun h1 => ?_) <;> simp (maxSteps := 1000000) (disch := omega) only [go_sem, Nat.reduceAdd, Nat.reduceMul, Nat.reduceSub, Nat.reduceEqDiff, Nat.reduceLeDiff, h1] | with_reducible refine guardQ_nb (fun h1 => ?_) (fun h1 => ?_) <;> simp (maxSteps := 1000000) (disch := omega) only [go_sem, Nat.reduceAdd, Nat.reduceMul, Nat.reduceSub, Nat.reduceEqDiff, Nat.reduceLeDiff, h1] | with_reducible refine guardL_nb (fun h1 => ?_) (fun h1 => ?_) <;> simp (maxSteps := 1000000) (disch := omega) only [go_sem, Nat.reduceAdd, Nat.reduceMul, Nat.reduceSub, Nat.reduceEqDiff, Nat.reduceLeDiff, h1] | with_reducible refine guardQ_split (fun h1 => ?_) (fun h1 => ?_) <;> simp (maxSteps := 1000000) (disch := omega) only [go_sem, Nat.reduceAdd, Nat.reduceMul, Nat.reduceSub, Nat.reduceEqDiff, Nat.reduceLeDiff, h1] | with_reducible refine guardL_split (fun h1 => ?_) (fun h1 => ?_) <;> simp (maxSteps := 1000000) (disch := omega) only [go_sem, Nat.reduceAdd, Nat.reduceMul, Nat.reduceSub, Nat.reduceEqDiff, Nat.reduceLeDiff, h1])
  rotate_left
  · unfold countV
    rw [if_neg (fun h => by rw [h.1] at h1; cases h1)]
  (first | with_reducible refine guardK_dec (fun h2 => ?_) (fun h2 => ?_) <;> simp (maxSteps := 1000000) (disch := omega) only [go_sem, Nat.reduceAdd, Nat.reduceMul, Nat.reduceSub, Nat.reduceEqDiff, Nat.reduceLeDiff, h2] | with_reducible refine guardK_ndec (fun h2 => ?_) (fun h2 => ?_) <;> simp (maxSteps := 1000000) (disch := omega) only [go_sem, Nat.reduceAdd, Nat.reduceMul, Nat.reduceSub, Nat.reduceEqDiff, Nat.reduceLeDiff, h2] | with_reducible refine guardK_nb (fun h2 => ?_) (fun h2 => ?_) <;> simp (maxSteps := 1000000) (disch := omega) only [go_sem, Nat.reduceAdd, Nat.reduceMul, Nat.reduceSub, Nat.reduceEqDiff, Nat.reduceLeDiff, h2] | with_reducible refine guardK_split (fun h2 => ?_) (fun h2 => ?_) <;> simp (maxSteps := 1000000) (disch := omega) only [go_sem, Nat.reduceAdd, Nat.reduceMul, Nat.reduceSub, Nat.reduceEqDiff, Nat.reduceLeDiff, h2] | with_reducible refine guardQ_dec (fun h2 => ?_) (fun h2 => ?_) <;> simp (maxSteps := 1000000) (disch := omega) only [go_sem, Nat.reduceAdd, Nat.reduceMul, Nat.reduceSub, Nat.reduceEqDiff, Nat.reduceLeDiff, h2] | with_reducible refine guardL_dec (fun h2 => ?_) (fun h2 => ?_) <;> simp (maxSteps := 1000000) (disch := omega) only [go_sem, Nat.reduceAdd, Nat.reduceMul, Nat.reduceSub, Nat.reduceEqDiff, Nat.reduceLeDiff, h2] | with_reducible refine guardQ_ndec (fun h2 => ?_) (fun h2 => ?_) <;> simp (maxSteps := 1000000) (disch := omega) only [go_sem, Nat.reduceAdd, Nat.reduceMul, Nat.reduceSub, Nat.reduceEqDiff, Nat.reduceLeDiff, h2] | with_reducible refine guardL_ndec (fun h2 => ?_) (fun h2 => ?_) <;> simp (maxSteps := 1000000) (disch := omega) only [go_sem, Nat.reduceAdd, Nat.reduceMul, Nat.reduceSub, Nat.reduceEqDiff, Nat.reduceLeDiff, h2] | with_reducible refine guardQ_nb (fun h2 => ?_) (fun h2 => ?_) <;> simp (maxSteps := 1000000) (disch := omega) only [go_sem, Nat.reduceAdd, Nat.reduceMul, Nat.reduceSub, Nat.reduceEqDiff, Nat.reduceLeDiff, h2] | with_reducible refine guardL_nb (fun h2 => ?_) (fun h2 => ?_) <;> simp (maxSteps := 1000000) (disch := omega) only [go_sem, Nat.reduceAdd, Nat.reduceMul, Nat.reduceSub, Nat.reduceEqDiff, Nat.reduceLeDiff, h2] | with_reducible refine guardQ_split (fun h2 => ?_) (fun h2 => ?_) <;> simp (maxSteps := 1000000) (disch := omega) only [go_sem, Nat.reduceAdd, Nat.reduceMul, Nat.reduceSub, Nat.reduceEqDiff, Nat.reduceLeDiff, h2] | with_reducible refine guardL_split (fun h2 => ?_) (fun h2 => ?_) <;> simp (maxSteps := 1000000) (disch := omega) only [go_sem, Nat.reduceAdd, Nat.reduceMul, Nat.reduceSub, Nat.reduceEqDiff, Nat.reduceLeDiff, h2])
  · unfold countV
    rw [if_neg (by omega)]
  (first | with_reducible refine condK_dec (fun h3 => ?_) (fun h3 => ?_) | with_reducible refine condK_ndec (fun h3 => ?_) (fun h3 => ?_) | with_reducible refine condK_nb (fun h3 => ?_) (fun h3 => ?_) | refine condK_b (fun h3 => ?_) (fun h3 => ?_))
  · simp (maxSteps := 1000000) (disch := omega) only [go_sem, Nat.reduceAdd, Nat.reduceMul, Nat.reduceSub, Nat.reduceEqDiff, Nat.reduceLeDiff]
    unfold countV
    rw [if_neg (by omega)]
  obtain ⟨k, rfl⟩ : ∃ k : Nat, most = k := ⟨most.toNat, by omega⟩
  simp (maxSteps := 1000000) (disch := omega) only [go_sem, Nat.reduceAdd, Nat.reduceMul, Nat.reduceSub, Nat.reduceEqDiff, Nat.reduceLeDiff]
  first | refine OpS.mk (first_all h1 k (by omega)) (⟨_, Try.func84, rfl, rfl⟩ : Enters Try.prog 84) rfl rfl rfl rfl rfl ?_ | refine Loud.mk (first_all h1 k (by omega)) (⟨_, Try.func84, rfl, rfl⟩ : Enters Try.prog 84) rfl rfl rfl rfl rfl ?_
  simp (maxSteps := 1000000) (disch := omega) only [go_sem, Nat.reduceAdd, Nat.reduceMul, Nat.reduceSub, Nat.reduceEqDiff, Nat.reduceLeDiff]
  unfold countV
  rw [if_pos ⟨h1, by omega, by omega⟩, Int.toNat_natCast]
theorem SolveFirst_run (p : Puz) (hx : smP p) : Reads Try.prog 54 [aP p] (.tup [ints (firstV p), bool (decide (0 < (allS p 1).length))]) := by
  refine Reads.iced ?_
  refine RunCall.cw (c := _) Try.func54 rfl (n := 18) Try.ntmps54 (rs := [.tmp 2, .tmp 3]) rfl ?_
  simp only [List.length_cons, List.length_nil, Nat.reduceAdd, Nat.reduceSub, List.replicate, List.cons_append, List.nil_append]
  simp (maxSteps := 1000000) (disch := omega) only [go_sem, Nat.reduceAdd, Nat.reduceMul, Nat.reduceSub, Nat.reduceEqDiff, Nat.reduceLeDiff]
  intro g
  first | refine OpS.rd (PuzzleValid_run p hx) (⟨_, Try.func83, rfl, rfl⟩ : Enters Try.prog 83) rfl rfl rfl rfl ?_ | refine Loud.rd (PuzzleValid_run p hx) (⟨_, Try.func83, rfl, rfl⟩ : Enters Try.prog 83) rfl rfl rfl rfl ?_
  simp (maxSteps := 1000000) (disch := omega) only [go_sem, Nat.reduceAdd, Nat.reduceMul, Nat.reduceSub, Nat.reduceEqDiff, Nat.reduceLeDiff]
  (first | with_reducible refine condK_dec (fun h1 => ?_) (fun h1 => ?_) | with_reducible refine condK_ndec (fun h1 => ?_) (fun h1 => ?_) | with_reducible refine condK_nb (fun h1 => ?_) (fun h1 => ?_) | refine condK_b (fun h1 => ?_) (fun h1 => ?_))
  rotate_left
  · simp (maxSteps := 1000000) (disch := omega) only [go_sem, Nat.reduceAdd, Nat.reduceMul, Nat.reduceSub, Nat.reduceEqDiff, Nat.reduceLeDiff]
    unfold firstV
    rw [allS_no (by rw [h1]; simp)]
    exact lessQ_ice rfl
  simp (maxSteps := 1000000) (disch := omega) only [go_sem, Nat.reduceAdd, Nat.reduceMul, Nat.reduceSub, Nat.reduceEqDiff, Nat.reduceLeDiff]
  first | refine OpS.mk (first_all h1 1 (by omega)) (⟨_, Try.func84, rfl, rfl⟩ : Enters Try.prog 84) rfl rfl rfl rfl rfl ?_ | refine Loud.mk (first_all h1 1 (by omega)) (⟨_, Try.func84, rfl, rfl⟩ : Enters Try.prog 84) rfl rfl rfl rfl rfl ?_
  simp (maxSteps := 1000000) (disch := omega) only [go_sem, Nat.reduceAdd, Nat.reduceMul, Nat.reduceSub, Nat.reduceEqDiff, Nat.reduceLeDiff]
  (first | with_reducible refine condK_dec (fun h2 => ?_) (fun h2 => ?_) | with_reducible refine condK_ndec (fun h2 => ?_) (fun h2 => ?_) | with_reducible refine condK_nb (fun h2 => ?_) (fun h2 => ?_) | refine condK_b (fun h2 => ?_) (fun h2 => ?_))
  · simp (maxSteps := 1000000) (disch := omega) only [go_sem, Nat.reduceAdd, Nat.reduceMul, Nat.reduceSub, Nat.reduceEqDiff, Nat.reduceLeDiff]
    have h2 : allS p 1 = [] := List.eq_nil_of_length_eq_zero (by omega)
    unfold firstV
    rw [h2]
    exact lessQ_ice rfl
  · simp (maxSteps := 1000000) (disch := omega) only [go_sem, Nat.reduceAdd, Nat.reduceMul, Nat.reduceSub, Nat.reduceEqDiff, Nat.reduceLeDiff]
    unfold firstV
    rw [decide_eq_true (by omega)]
    exact lessQ_ice rfl
end Go.Lg

set_option linter.unusedSimpArgs false
set_option linter.unusedVariables false
set_option maxRecDepth 100000
namespace Go.Lg
open Go.Proofs
def Full (n : Nat) (s : List Int) : Prop := GrdN s n ∧ ∀ k : Nat, k < n * n → 0 < nth s k
def ExtG (xs s : List Int) : Prop := ∀ k : Nat, 0 < nth xs k → nth s k = nth xs k
instance (xs s : List Int) : Decidable (ExtG xs s) := decidable_of_iff (∀ k, k < xs.length → 0 < nth xs (k : Int) → nth s (k : Int) = nth xs (k : Int)) ⟨fun h k hk => by
  by_cases hl : k < xs.length
  · exact h k hl hk
  · rw [nth_over (by omega)] at hk; omega, fun h k _ => h k⟩
theorem ExtG.refl (xs : List Int) : ExtG xs xs := fun _ _ => rfl
theorem ExtG.trans {a b c : List Int} (h : ExtG a b) (k : ExtG b c) : ExtG a c := fun i hi => by
  have := h i hi
  rw [k i (by omega), this]
theorem ExtG.set {xs : List Int} {i : Nat} {v : Int} (hi : i < xs.length) (h0 : ¬ 0 < nth xs i) : ExtG xs (xs.set i v) := fun k hk => by
  rw [nth_setN _ _ _ _ hi, if_neg (fun h => by subst h; exact h0 hk)]
theorem ExtG.of_set {xs s : List Int} {i : Nat} {v : Int} (hi : i < xs.length) (h : ExtG xs s) (hv : nth s i = v) : ExtG (xs.set i v) s := fun k hk => by
  rw [nth_setN _ _ _ _ hi] at hk ⊢
  split
  · rename_i hki; subst hki; exact hv
  · rename_i hki; rw [if_neg hki] at hk; exact h k hk
theorem sols_fit (p : Puz) (n : Nat) : ∀ (m : Nat) (xs : List Int), fitsL p xs n = true → ∀ s ∈ sols p n m xs, fitsL p s n = true
  | 0, xs, hf, s, hs => by rw [sols, List.mem_singleton] at hs; subst hs; exact hf
  | m + 1, xs, hf, s, hs => by
    rw [sols_succ p n m xs rfl] at hs
    split at hs
    · exact sols_fit p n m xs hf s hs
    · obtain ⟨v, hv, hs⟩ := List.mem_flatMap.1 hs
      split at hs
      · rename_i h; exact sols_fit p n m _ h s hs
      · simp at hs
theorem mem_vals {n v : Nat} (h : 1 ≤ v ∧ v ≤ n) : v ∈ vals n 1 := by
  unfold vals
  rw [Nat.sub_self, List.drop_zero, List.mem_map]
  exact ⟨v - 1, List.mem_range.2 (by omega), by omega⟩
theorem vals_nodup (n : Nat) : (vals n 1).Nodup := by
  unfold vals
  rw [Nat.sub_self, List.drop_zero]
  exact List.pairwise_map.2 ((List.nodup_range (n := n)).imp fun h => by omega)
theorem sols_complete {p : Puz} {n : Nat} (hp : PuzN p n) {s : List Int} (hs : Full n s) (hf : fitsL p s n = true) : ∀ (m : Nat) (xs : List Int), m ≤ n * n → GrdN xs n → (∀ k : Nat, k < n * n - m → 0 < nth xs k) → ExtG xs s → s ∈ sols p n m xs
  | 0, xs, hm, hg, hk, he => by
    rw [sols, List.mem_singleton]
    refine ext_nth (by rw [hs.1.len, hg.len]) fun j hj => he j (hk j (by rw [hs.1.len] at hj; omega))
  | m + 1, xs, hm, hg, hk, he => by
    have hxl := hg.len
    obtain ⟨i, hi⟩ : ∃ i, i = xs.length - (m + 1) := ⟨_, rfl⟩
    have hil : i < xs.length := by omega
    rw [sols_succ p n m xs hi.symm]
    split
    · rename_i h0
      refine sols_complete hp hs hf m xs (by omega) hg (fun k hk' => ?_) he
      by_cases hki : k = i
      · rw [hki]; exact h0
      · exact hk k (by omega)
    · rename_i h0
      have hv := hs.1.val i (by rw [hs.1.len]; omega)
      have hv0 := hs.2 i (by omega)
      obtain ⟨v, hvv⟩ : ∃ v : Nat, nth s i = v := ⟨(nth s i).toNat, by omega⟩
      refine List.mem_flatMap.2 ⟨v, mem_vals (by omega), ?_⟩
      have hes := ExtG.of_set (v := (v : Int)) hil he hvv
      have hgs := hg.set (v := v) hil (by omega)
      rw [if_pos (fits_mono hp hgs hs.1 hes hf)]
      refine sols_complete hp hs hf m _ (by omega) hgs (fun k hk' => ?_) hes
      rw [nth_setN _ _ _ _ hil]
      split
      · omega
      · exact hk k (by omega)
theorem sols_nodup (p : Puz) {n : Nat} : ∀ (m : Nat) (xs : List Int), m ≤ n * n → GrdN xs n → (∀ k : Nat, k < n * n - m → 0 < nth xs k) → (sols p n m xs).Nodup
  | 0, xs, _, _, _ => by rw [sols]; simp
  | m + 1, xs, hm, hg, hk => by
    have hxl := hg.len
    obtain ⟨i, hi⟩ : ∃ i, i = xs.length - (m + 1) := ⟨_, rfl⟩
    have hil : i < xs.length := by omega
    rw [sols_succ p n m xs hi.symm]
    split
    · rename_i h0
      refine sols_nodup p m xs (by omega) hg fun k hk' => ?_
      by_cases hki : k = i
      · rw [hki]; exact h0
      · exact hk k (by omega)
    · have hkv : ∀ v : Nat, 1 ≤ v → ∀ k : Nat, k < n * n - m → 0 < nth (xs.set i (v : Int)) k := fun v hv k hk' => by
        rw [nth_setN _ _ _ _ hil]
        split
        · omega
        · exact hk k (by omega)
      rw [List.Nodup, List.pairwise_flatMap]
      refine ⟨fun v hv => ?_, (vals_nodup n).imp_of_mem fun {a b} ha hb hab x hx y hy hxy => ?_⟩
      · have hvb := vals_mem hv
        split
        · exact sols_nodup p m _ (by omega) (hg.set hil hvb.2) (hkv v hvb.1)
        · simp
      · subst hxy
        have hav := vals_mem ha
        have hbv := vals_mem hb
        split at hx
        · split at hy
          · have h1 := (sols_full p m _ (by omega) (hg.set hil hav.2) (hkv a hav.1) x hx).2.2 i (by rw [nth_setN _ _ _ _ hil, if_pos rfl]; omega)
            have h2 := (sols_full p m _ (by omega) (hg.set hil hbv.2) (hkv b hbv.1) x hy).2.2 i (by rw [nth_setN _ _ _ _ hil, if_pos rfl]; omega)
            rw [nth_setN _ _ _ _ hil, if_pos rfl] at h1 h2
            omega
          · simp at hy
        · simp at hx
def allL (p : Puz) : List (List Int) := if puzzleValid p = true ∧ fitsL p p.given p.size.toNat = true then sols p p.size.toNat (p.size.toNat * p.size.toNat) p.given else []
theorem allS_take (p : Puz) (most : Nat) : allS p most = (allL p).take most := by
  unfold allS allL
  split
  · rfl
  · simp
def IsSol (p : Puz) (s : List Int) : Prop := Full p.size.toNat s ∧ ExtG p.given s ∧ fitsL p s p.size.toNat = true
theorem puz_facts {p : Puz} (hv : puzzleValid p = true) : PuzN p p.size.toNat ∧ GrdN p.given p.size.toNat := by
  obtain ⟨hp, hz⟩ := PuzN.of hv
  exact ⟨hp, GrdN.of hp.hn (xs := p.given) (by rw [hz]; exact puzzleValid_grid' hv)⟩
theorem allL_mem {p : Puz} (hv : puzzleValid p = true) (s : List Int) : s ∈ allL p ↔ IsSol p s := by
  obtain ⟨hp, hg⟩ := puz_facts hv
  unfold allL
  constructor
  · intro h
    split at h
    · rename_i hf
      obtain ⟨q1, q2, q3⟩ := sols_full p _ _ (Nat.le_refl _) hg (fun k hk => absurd hk (by omega)) s h
      exact ⟨⟨q1, q2⟩, q3, sols_fit p _ _ _ hf.2 s h⟩
    · simp at h
  · rintro ⟨h1, h2, h3⟩
    rw [if_pos ⟨hv, fits_mono hp hg h1.1 h2 h3⟩]
    exact sols_complete hp h1 h3 _ _ (Nat.le_refl _) hg (fun k hk => absurd hk (by omega)) h2
theorem allL_nodup (p : Puz) : (allL p).Nodup := by
  unfold allL
  split
  · rename_i h
    exact sols_nodup p _ _ (Nat.le_refl _) (puz_facts h.1).2 (fun k hk => absurd hk (by omega))
  · simp
theorem nodup_le {α : Type} [DecidableEq α] : ∀ {a b : List α}, a.Nodup → (∀ x ∈ a, x ∈ b) → a.length ≤ b.length
  | [], _, _, _ => by simp
  | x :: a, b, hn, hs => by
    rw [List.nodup_cons] at hn
    have hx := hs x (by simp)
    have := nodup_le (a := a) (b := b.erase x) hn.2 fun y hy => by
      have hyb := hs y (by simp [hy])
      exact (List.mem_erase_of_ne (fun h => hn.1 (by rw [← h]; exact hy))).2 hyb
    rw [List.length_erase_of_mem hx] at this
    have := List.length_pos_of_mem hx
    simp only [List.length_cons]
    omega
theorem nodup_eq {α : Type} [DecidableEq α] {a b : List α} (ha : a.Nodup) (hb : b.Nodup) (h : ∀ x, x ∈ a ↔ x ∈ b) : a.length = b.length :=
  Nat.le_antisymm (nodup_le ha fun x hx => (h x).1 hx) (nodup_le hb fun x hx => (h x).2 hx)
def zeroP (n : Nat) : Puz := ⟨n, List.replicate (n * n) 0, []⟩
theorem fits_zeroP (n : Nat) (xs : List Int) : fitsL (zeroP n) xs n = !clash xs n := by
  have : clear (zeroP n) xs = true := by
    simp only [clear, decide_eq_true_eq]
    rintro k _ ⟨h, _⟩
    rw [show (zeroP n).given = List.replicate (n * n) 0 from rfl, nth_zeros] at h
    omega
  unfold fitsL
  rw [this]
  rfl
theorem cntV_len (n : Nat) (xs : List Int) (i : Nat) (f : List Int → Nat) (S : List Int → List (List Int)) : ∀ vs : List Nat, (∀ v ∈ vs, (S (xs.set i (v : Int))).length = f (xs.set i v)) → (vs.flatMap fun (v : Nat) => if (!clash (xs.set i (v : Int)) n) = true then S (xs.set i (v : Int)) else []).length = cntV n f xs i vs
  | [], _ => by simp [cntV]
  | v :: vs, h => by
    have h1 := h v (by simp)
    have h2 := cntV_len n xs i f S vs fun w hw => h w (by simp [hw])
    rw [List.flatMap_cons, List.length_append, h2]
    rw [cntV_sum, cntV_sum]
    simp only [sumV]
    cases hc : clash (xs.set i (v : Int)) n
    · simp only [Bool.not_false, if_true, Bool.false_eq_true, if_false, h1]
    · simp only [Bool.not_true, Bool.false_eq_true, if_false, if_true, List.length_nil]
theorem sols_cnt {n : Nat} : ∀ (m : Nat) (xs : List Int), m ≤ xs.length → (∀ k : Nat, xs.length - m ≤ k → nth xs k = 0) → (sols (zeroP n) n m xs).length = cntS n m xs
  | 0, xs, _, _ => by simp [sols, cntS]
  | m + 1, xs, hm, h0 => by
    obtain ⟨i, hi⟩ : ∃ i, i = xs.length - (m + 1) := ⟨_, rfl⟩
    have hil : i < xs.length := by omega
    rw [sols_succ _ n m xs hi.symm, if_neg (by rw [h0 i (by omega)]; omega)]
    have e : (vals n 1).flatMap (fun (v : Nat) => if fitsL (zeroP n) (xs.set i (v : Int)) n = true then sols (zeroP n) n m (xs.set i (v : Int)) else []) = (vals n 1).flatMap (fun (v : Nat) => if (!clash (xs.set i (v : Int)) n) = true then sols (zeroP n) n m (xs.set i (v : Int)) else []) := by
      congr 1; funext v; rw [fits_zeroP]
    rw [e, cntV_len n xs i (cntS n m) (sols (zeroP n) n m) _ fun v _ => sols_cnt m _ (by rw [List.length_set]; omega) fun k hk => by
      rw [List.length_set] at hk
      rw [nth_setN _ _ _ _ hil, if_neg (by omega)]
      exact h0 k (by omega)]
    rw [cntS, hi]
    unfold vals
    rfl
theorem zero_len {n : Nat} (hn : n = 2 ∨ n = 3 ∨ n = 4) : (sols (zeroP n) n (n * n) (List.replicate (n * n) 0)).length = manyS n := by
  rw [sols_cnt _ _ (by simp) fun k _ => nth_zeros _ _, cnt_many hn]
theorem grd_zeros {n : Nat} : GrdN (List.replicate (n * n) 0) n := ⟨by simp, fun k _ => by rw [nth_zeros]; omega⟩
theorem zeroP_valid {n : Nat} (hn : n = 2 ∨ n = 3 ∨ n = 4) : puzzleValid (zeroP n) = true := by
  have := (grd_zeros (n := n)).valid hn
  simp only [puzzleValid, Bool.and_eq_true, decide_eq_true_eq]
  exact ⟨this, by simp [zeroP], by simp [zeroP]⟩
theorem fits_zeros {n : Nat} (hn : n = 2 ∨ n = 3 ∨ n = 4) : fitsL (zeroP n) (List.replicate (n * n) 0) n = true := by
  rw [fits_zeroP, Bool.not_eq_true', clash_nc hn (fun c => by rw [nth_zeros]; omega)]
  intro a b _ _ _ h
  rw [nth_zeros] at h
  omega
theorem allL_zero {n : Nat} (hn : n = 2 ∨ n = 3 ∨ n = 4) : (allL (zeroP n)).length = manyS n := by
  unfold allL
  have e : (zeroP n).size.toNat = n := by simp [zeroP]
  rw [e, if_pos ⟨zeroP_valid hn, fits_zeros hn⟩]
  exact zero_len hn
theorem fits_clash {p : Puz} {n : Nat} {s : List Int} (h : fitsL p s n = true) : clash s n = false := by
  simp only [fitsL, Bool.and_eq_true, Bool.not_eq_true'] at h
  exact h.2.2
theorem allL_le (p : Puz) : (allL p).length ≤ 576 := by
  by_cases hv : puzzleValid p = true
  · obtain ⟨hp, hg⟩ := puz_facts hv
    have hn := hp.hn
    have h1 := nodup_le (a := allL p) (b := allL (zeroP p.size.toNat)) (allL_nodup p) fun s hs => by
      rw [allL_mem hv] at hs
      rw [allL_mem (zeroP_valid hn)]
      have e : (zeroP p.size.toNat).size.toNat = p.size.toNat := Int.toNat_natCast _
      refine ⟨by rw [e]; exact hs.1, fun k hk => ?_, by rw [e, fits_zeroP, fits_clash hs.2.2]; rfl⟩
      rw [show (zeroP p.size.toNat).given = List.replicate _ 0 from rfl, nth_zeros] at hk
      omega
    rw [allL_zero hn] at h1
    have : manyS p.size.toNat ≤ 576 := by unfold manyS; split <;> (try split) <;> omega
    omega
  · unfold allL
    rw [if_neg (fun h => hv h.1)]
    simp
theorem allS_all (p : Puz) : allS p 600 = allL p := by
  rw [allS_take, List.take_of_length_le (by have := allL_le p; omega)]
theorem fin_mem {p : Puz} (hv : puzzleValid p = true) {xs : List Int} (hx : GrdN xs p.size.toNat) (s : List Int) : s ∈ (if fitsL p (withL p.given xs) p.size.toNat = true ∧ clear p xs = true then sols p p.size.toNat (p.size.toNat * p.size.toNat) (withL p.given xs) else []) ↔ IsSol p s ∧ ExtG xs s := by
  obtain ⟨hp, hg⟩ := puz_facts hv
  have hw := withL_grd hg hx
  have hlen : xs.length = p.given.length := by rw [hx.len, hg.len]
  constructor
  · intro h
    split at h
    · rename_i hf
      obtain ⟨q1, q2, q3⟩ := sols_full p _ _ (Nat.le_refl _) hw (fun k hk => absurd hk (by omega)) s h
      have hhas := clear_with hg hx hf.2
      refine ⟨⟨⟨q1, q2⟩, fun k hk => ?_, sols_fit p _ _ _ hf.1 s h⟩, fun k hk => ?_⟩
      · have := hhas k hk
        rw [q3 k (by omega), this]
      · have hkl : k < p.given.length := by
          by_cases hkl : k < xs.length
          · omega
          · rw [nth_over (by omega)] at hk; omega
        have e := withL_nth (b := xs) hkl
        rw [if_pos hk] at e
        rw [q3 k (by omega), e]
    · simp at h
  · rintro ⟨⟨h1, h2, h3⟩, h4⟩
    have hc : clear p xs = true := by
      simp only [clear, decide_eq_true_eq]
      rintro k hk ⟨a, b, c⟩
      have := h2 k a
      have := h4 k b
      omega
    have hew : ExtG (withL p.given xs) s := fun k hk => by
      by_cases hkl : k < p.given.length
      · rw [withL_nth hkl] at hk ⊢
        split
        · rename_i h; exact h4 k h
        · rename_i h; rw [if_neg h] at hk; exact h2 k hk
      · rw [nth_over (by rw [withL_len]; omega)] at hk; omega
    rw [if_pos ⟨fits_mono hp hw h1.1 hew h3, hc⟩]
    exact sols_complete hp h1 h3 _ _ (Nat.le_refl _) hw (fun k hk => absurd hk (by omega)) hew
theorem fin_nodup {p : Puz} (hv : puzzleValid p = true) {xs : List Int} (hx : GrdN xs p.size.toNat) : (if fitsL p (withL p.given xs) p.size.toNat = true ∧ clear p xs = true then sols p p.size.toNat (p.size.toNat * p.size.toNat) (withL p.given xs) else []).Nodup := by
  obtain ⟨hp, hg⟩ := puz_facts hv
  split
  · exact sols_nodup p _ _ (Nat.le_refl _) (withL_grd hg hx) (fun k hk => absurd hk (by omega))
  · simp
def extL (p : Puz) (xs : List Int) : List (List Int) := (allL p).filter fun s => decide (ExtG xs s)
theorem fin_len {p : Puz} (hv : puzzleValid p = true) {xs : List Int} (hx : GrdN xs p.size.toNat) (most : Nat) : (finL p p.size.toNat xs most).length = min most (extL p xs).length := by
  have h := nodup_eq (fin_nodup hv hx) ((allL_nodup p).filter _) (b := extL p xs) fun s => by
    rw [fin_mem hv hx, extL, List.mem_filter, allL_mem hv, decide_eq_true_eq]
  rw [← h]
  unfold finL
  split
  · rw [List.length_take]
  · simp
theorem extL_le (p : Puz) (xs : List Int) : (extL p xs).length ≤ 576 := Nat.le_trans (List.length_filter_le _ _) (allL_le p)
end Go.Lg
