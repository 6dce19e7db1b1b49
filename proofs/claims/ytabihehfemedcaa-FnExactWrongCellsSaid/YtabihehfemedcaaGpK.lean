/- Valid games. -/
import Derived.Test.YtabihehfemedcaaGpI2
import Derived.Test.YtabihehfemedcaaGpG
set_option linter.unusedSimpArgs false
set_option linter.unusedVariables false
set_option maxRecDepth 100000
namespace Go.Lg
open Go.Proofs

/-! ### plain words: as many as there are -/
theorem len_le_of_sub : ∀ (a b : List Int), a.Nodup → (∀ x ∈ a, x ∈ b) → a.length ≤ b.length
  | [], b, _, _ => by simp
  | x :: a, b, hn, hs => by
    obtain ⟨h1, h2⟩ := List.nodup_cons.1 hn
    have hx : x ∈ b := hs x (by simp)
    have := len_le_of_sub a (b.erase x) h2 fun y hy => by
      have hne : y ≠ x := fun h => h1 (h ▸ hy)
      exact (List.mem_erase_of_ne hne).2 (hs y (by simp [hy]))
    have hl := List.length_erase_of_mem hx
    have hp := List.length_pos_of_mem hx
    simp only [List.length_cons]
    omega
theorem sub_full (a b : List Int) (hn : a.Nodup) (hs : ∀ x ∈ a, x ∈ b) (hl : b.length ≤ a.length) : b.Nodup ∧ ∀ x ∈ b, x ∈ a := by
  have key : ∀ x ∈ b, x ∈ a := by
    intro x hx
    refine Classical.byContradiction fun hxa => ?_
    have := len_le_of_sub a (b.erase x) hn fun y hy => by
      have hne : y ≠ x := fun h => hxa (h ▸ hy)
      exact (List.mem_erase_of_ne hne).2 (hs y hy)
    have hl2 := List.length_erase_of_mem hx
    have hp := List.length_pos_of_mem hx
    omega
  refine ⟨?_, key⟩
  have gen : ∀ (b a : List Int), a.Nodup → (∀ x ∈ a, x ∈ b) → b.length ≤ a.length → (∀ x ∈ b, x ∈ a) → b.Nodup := by
    intro b
    induction b with
    | nil => intros; exact List.nodup_nil
    | cons y b ih =>
      intro a hn hs hl hk
      have hy : y ∈ a := hk y (by simp)
      have hyb : y ∉ b := fun hyb => by
        have := len_le_of_sub a b hn fun x hx => by
          rcases List.mem_cons.1 (hs x hx) with rfl | h
          · exact hyb
          · exact h
        simp only [List.length_cons] at hl
        omega
      refine List.nodup_cons.2 ⟨hyb, ih (a.erase y) (hn.erase y) (fun x hx => ?_) ?_ fun x hx => ?_⟩
      · have hx' := (hn.mem_erase_iff).1 hx
        rcases List.mem_cons.1 (hs x hx'.2) with h | h
        · exact absurd h hx'.1
        · exact h
      · have := List.length_erase_of_mem hy
        simp only [List.length_cons] at hl
        omega
      · exact (hn.mem_erase_iff).2 ⟨fun h => hyb (h ▸ hx), hk x (by simp [hx])⟩
  exact gen b a hn hs hl key

/-- The numbers of the filled cells. -/
def filledAt (xs : List Int) : List Int := ((List.range xs.length).filter fun i : Nat => decide (0 < nth xs i)).map fun i : Nat => (i : Int)
theorem filledAt_nodup (xs : List Int) : (filledAt xs).Nodup := by
  unfold filledAt
  refine List.pairwise_map.2 (List.Pairwise.imp ?_ (List.nodup_range.filter _))
  intro a b h h2
  exact h (by omega)
theorem mem_filledAt {xs : List Int} {c : Int} : c ∈ filledAt xs ↔ 0 ≤ c ∧ c < xs.length ∧ 0 < nth xs c := by
  simp only [filledAt, List.mem_map, List.mem_filter, List.mem_range, decide_eq_true_eq]
  constructor
  · rintro ⟨i, ⟨h1, h2⟩, rfl⟩; exact ⟨by omega, by omega, h2⟩
  · rintro ⟨h1, h2, h3⟩; exact ⟨c.toNat, ⟨by omega, by rw [show ((c.toNat : Nat) : Int) = c by omega]; exact h3⟩, by omega⟩
theorem filledAt_length (xs : List Int) : (filledAt xs).length = xs.countP fun v => decide (0 < v) := by
  have h : ∀ n, n ≤ xs.length → ((List.range n).filter fun i : Nat => decide (0 < nth xs i)).length = (xs.take n).countP fun v => decide (0 < v) := by
    intro n
    induction n with
    | zero => intro _; rfl
    | succ n ih =>
      intro hn
      rw [List.range_succ, List.filter_append, List.length_append, ih (by omega), countP_take (by omega)]
      simp only [List.filter_cons, List.filter_nil, decide_eq_true_eq]
      split <;> simp
  simp only [filledAt, List.length_map]
  rw [h xs.length (Nat.le_refl _), List.take_length]

def gameOk (g : Gam) : Prop := g.moves.Nodup ∧ (∀ c ∈ g.moves, c ∈ filledAt g.put) ∧ ∀ c ∈ filledAt g.put, c ∈ g.moves ∧ nth g.task.given c ≤ 0
instance (g : Gam) : Decidable (gameOk g) := by unfold gameOk; infer_instance
def gameValid (g : Gam) : Bool := puzzleValid g.task && (gridValid g.put g.task.size && (decide (g.moves.length ≤ 40) && decide (gameOk g)))
theorem puzzleValid_grid {p : Puz} (h : puzzleValid p = true) : gridValid p.given p.size = true := by
  simp only [puzzleValid, Bool.and_eq_true] at h; exact h.1
/-- By numbers: as many moves as filled cells, each of which is among them. -/
theorem gameOk_num {g : Gam} : gameOk g ↔ g.moves.length = g.put.countP (fun v => decide (0 < v)) ∧ ∀ c ∈ filledAt g.put, c ∈ g.moves ∧ nth g.task.given c ≤ 0 := by
  rw [← filledAt_length]
  constructor
  · rintro ⟨h1, h2, h3⟩
    refine ⟨Nat.le_antisymm (len_le_of_sub _ _ h1 h2) (len_le_of_sub _ _ (filledAt_nodup _) fun c hc => (h3 c hc).1), h3⟩
  · rintro ⟨h1, h2⟩
    obtain ⟨h3, h4⟩ := sub_full (filledAt g.put) g.moves (filledAt_nodup _) (fun c hc => (h2 c hc).1) (by omega)
    exact ⟨h3, h4, h2⟩

/-! lists of bools -/
def eBo (b : Bool) : List FV := [.bool b]
instance : HSz eBo 1 := ⟨fun _ => rfl⟩
theorem eBo_0 (b : Bool) (d : FV) : (eBo b).getD 0 d = .bool b := rfl
theorem zerosBo (n : Nat) : zerosL (n * 1) [.f (.bool false)] = cl eBo (List.replicate n false) := by
  simp only [zerosL, Nat.mul_one, List.length_singleton, Nat.mod_one]
  induction n with
  | zero => rfl
  | succ n ih => rw [List.range_succ, List.map_append, ih, List.replicate_succ', cl_append]; rfl
theorem setBo {xs : List Bool} {e : Int} {v : Bool} (h : 0 ≤ e ∧ e < (xs.length : Int)) : setRange (cl eBo xs) (0 + e.toNat * 1) [.f (.bool v)] = cl eBo (xs.set e.toNat v) :=
  setRange_cl (E := eBo) (by omega)
attribute [go_sem] eBo_0 zerosBo setBo
end Go.Lg
