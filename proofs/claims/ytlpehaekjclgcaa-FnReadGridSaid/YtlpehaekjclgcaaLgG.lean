/- What the heap's changes do to the relation. -/
import Derived.Test.YtlpehaekjclgcaaLgF
import Derived.ArgAppend
set_option linter.unusedSimpArgs false
set_option linter.unusedVariables false
namespace Go.Lg

def Cx.new (X : Cx) (g c : Nat) : Cx :=
  { mu := fun k => if k = X.t then g else X.mu k, sz := fun k => if k = X.t then c else X.sz k, I := X.I, t := X.t + 1 }

theorem look_append {H : Heap} {b : Blk} {id g : Nat} {b' : Blk} (h : look (H ++ [some b]) id g = some b') : look H id g = some b' ∨ (b' = b ∧ g = b.g ∧ id = H.length) := by
  obtain ⟨h1, h2⟩ := look_some h
  by_cases hlt : id < H.length
  · rw [List.getElem?_append_left hlt] at h1
    left
    rw [← h2]
    exact look_of h1
  · right
    rw [List.getElem?_append_right (by omega)] at h1
    by_cases he : id - H.length = 0
    · rw [he] at h1
      simp at h1
      subst h1
      exact ⟨rfl, h2.symm, by omega⟩
    · rw [List.getElem?_eq_none (by simp; omega)] at h1
      cases h1

theorem new_block {w w' : World} {X : Cx} {H : Heap} (R : HRel w X H) {sz t : Nat} {cs : List CV} {cc : Array Value}
    (hh : w'.heap = w.heap.push (.cells cc t (0, 0))) (ho : w'.os = w.os) (ht : w'.tape = w.tape) (hout : w'.output = w.output)
    (hl : cs.length ≤ cc.size) (hc : ∀ j (h : j < cs.length), ∃ u, cc[j]? = some u ∧ VC w X H cs[j] u) :
    HRel w' (X.new w.heap.size cc.size) (H ++ [some ⟨X.t, sz, cs⟩]) ∧ Ev w X H w' (X.new w.heap.size cc.size) (H ++ [some ⟨X.t, sz, cs⟩]) := by
  have hold : ∀ b, b < w.heap.size → w'.heap[b]? = w.heap[b]? := fun b hb => by rw [hh, Array.getElem?_push, if_neg (by omega)]
  have hnew : w'.heap[w.heap.size]? = some (.cells cc t (0, 0)) := by rw [hh]; simp
  have E : Ev w X H w' (X.new w.heap.size cc.size) (H ++ [some ⟨X.t, sz, cs⟩]) := by
    refine ⟨fun b hb => ⟨hb, hold b (R.imm b hb)⟩, Nat.le_succ _, fun g hg => ?_, by rw [hh]; simp, ho, ht, hout, ?_, fun b hb _ => hold b hb, ?_, fun b hb => .inl hb⟩
    · simp only [Cx.new]
      rw [if_neg (by omega), if_neg (by omega)]
      exact ⟨rfl, rfl⟩
    · intro id g b' hg hlk
      rcases look_append hlk with h | ⟨rfl, rfl, _⟩
      · exact ⟨b', h, rfl, rfl⟩
      · exact absurd hg (Nat.lt_irrefl _)
    · rintro b ⟨id, blk, h1, h2⟩
      by_cases hlt : id < H.length
      · rw [List.getElem?_append_left hlt] at h1
        refine .inl ⟨id, blk, h1, ?_⟩
        rw [← h2]
        simp only [Cx.new]
        rw [if_neg (by have := (R.blk id blk h1).1; omega)]
      · rw [List.getElem?_append_right (by omega)] at h1
        have he : id - H.length = 0 := by
          by_cases he : id - H.length = 0
          · exact he
          · rw [List.getElem?_eq_none (by simp; omega)] at h1; cases h1
        rw [he] at h1
        simp at h1
        subst h1
        right
        rw [← h2]
        simp [Cx.new]
  refine ⟨⟨fun b hb => ?_, fun id b hb => ?_, fun id id' b b' hb hb' heq => ?_⟩, E⟩
  · have := R.imm b hb
    rw [hh]; simp; omega
  · by_cases hlt : id < H.length
    · rw [List.getElem?_append_left hlt] at hb
      obtain ⟨h1, h2, cc', t', h3, h4, h5, h6⟩ := R.blk id b hb
      have hm := E.mu b.g h1
      refine ⟨Nat.lt_of_lt_of_le h1 E.t, by rw [hm.1]; exact h2, cc', t', ?_, by rw [hm.2]; exact h4, h5, fun j hj => ?_⟩
      · rw [hm.1, hold _ ?_]
        · exact h3
        · exact (Array.getElem?_eq_some_iff.1 h3).1
      · obtain ⟨u, h7, h8⟩ := h6 j hj
        exact ⟨u, h7, h8.mono E⟩
    · rw [List.getElem?_append_right (by omega)] at hb
      have he : id - H.length = 0 := by
        by_cases he : id - H.length = 0
        · exact he
        · rw [List.getElem?_eq_none (by simp; omega)] at hb; cases hb
      rw [he] at hb
      simp at hb
      subst hb
      refine ⟨Nat.lt_succ_self _, ?_, cc, t, ?_, ?_, hl, fun j hj => ?_⟩
      · simp only [Cx.new, if_true]
        intro hI
        exact absurd (R.imm _ hI) (Nat.lt_irrefl _)
      · simp only [Cx.new, if_true]; exact hnew
      · simp only [Cx.new, if_true]
      · obtain ⟨u, h7, h8⟩ := hc j hj
        exact ⟨u, h7, h8.mono E⟩
  · have key : ∀ (i : Nat) (c : Blk), (H ++ [some ⟨X.t, sz, cs⟩])[i]? = some (some c) → (i < H.length ∧ H[i]? = some (some c) ∧ c.g < X.t ∧ (X.new w.heap.size cc.size).mu c.g = X.mu c.g ∧ X.mu c.g < w.heap.size) ∨ (i = H.length ∧ (X.new w.heap.size cc.size).mu c.g = w.heap.size) := by
      intro i c hi
      by_cases hlt : i < H.length
      · rw [List.getElem?_append_left hlt] at hi
        obtain ⟨h1, h2, cc', t', h3, _⟩ := R.blk i c hi
        exact .inl ⟨hlt, hi, h1, (E.mu c.g h1).1, (Array.getElem?_eq_some_iff.1 h3).1⟩
      · rw [List.getElem?_append_right (by omega)] at hi
        have he : i - H.length = 0 := by
          by_cases he : i - H.length = 0
          · exact he
          · rw [List.getElem?_eq_none (by simp; omega)] at hi; cases hi
        rw [he] at hi
        simp at hi
        subst hi
        exact .inr ⟨by omega, by simp [Cx.new]⟩
    rcases key id b hb with ⟨_, k1, k2, k3, k4⟩ | ⟨k1, k2⟩ <;> rcases key id' b' hb' with ⟨_, l1, l2, l3, l4⟩ | ⟨l1, l2⟩
    · exact R.inj id id' b b' k1 l1 (by rw [← k3, ← l3]; exact heq)
    · rw [k3, l2] at heq; omega
    · rw [k2, l3] at heq; omega
    · omega

theorem look_set {H : Heap} {id : Nat} {b0 b : Blk} (h0 : H[id]? = some (some b0)) {i g : Nat} {b' : Blk} (h : look (H.set id (some b)) i g = some b') :
    (i ≠ id ∧ look H i g = some b') ∨ (i = id ∧ b' = b ∧ g = b.g) := by
  obtain ⟨h1, h2⟩ := look_some h
  by_cases he : i = id
  · subst he
    have hlt : i < H.length := (List.getElem?_eq_some_iff.1 h0).1
    rw [List.getElem?_set_self hlt] at h1
    cases h1
    exact .inr ⟨rfl, rfl, h2.symm⟩
  · rw [List.getElem?_set_ne (fun h => he h.symm)] at h1
    refine .inl ⟨he, ?_⟩
    rw [← h2]
    exact look_of h1

/-- The cells of a block of the call's own, written anew. -/
theorem upd_block {w w' : World} {X : Cx} {H : Heap} (R : HRel w X H) {id : Nat} {b : Blk} (hb : H[id]? = some (some b)) {cs : List CV} {cc : Array Value} {t : TypeId}
    (hh : w'.heap[X.mu b.g]? = some (.cells cc t (0, 0))) (hoth : ∀ k, k ≠ X.mu b.g → w'.heap[k]? = w.heap[k]?) (hsz : w'.heap.size = w.heap.size)
    (ho : w'.os = w.os) (ht : w'.tape = w.tape) (hout : w'.output = w.output) (hcc : cc.size = X.sz b.g) (hl : cs.length = b.cs.length)
    (hc : ∀ j (h : j < cs.length), ∃ u, cc[j]? = some u ∧ VC w X H cs[j] u) :
    HRel w' X (H.set id (some ⟨b.g, b.sz, cs⟩)) ∧ Ev w X H w' X (H.set id (some ⟨b.g, b.sz, cs⟩)) := by
  obtain ⟨g1, g2, cc0, t0, g3, g4, g5, g6⟩ := R.blk id b hb
  have E : Ev w X H w' X (H.set id (some ⟨b.g, b.sz, cs⟩)) := by
    refine ⟨fun k hk => ⟨hk, hoth k (fun he => g2 (he ▸ hk))⟩, Nat.le_refl _, fun g hg => ⟨rfl, rfl⟩, by omega, ho, ht, hout, ?_, fun k hk hn => hoth k fun he => hn ⟨id, b, hb, he.symm⟩, ?_, fun k hk => .inl hk⟩
    · intro i g b' hg hlk
      rcases look_set hb hlk with ⟨_, h⟩ | ⟨rfl, rfl, rfl⟩
      · exact ⟨b', h, rfl, rfl⟩
      · exact ⟨b, look_of hb, hl.symm, rfl⟩
    · rintro k ⟨i, blk, h1, h2⟩
      left
      by_cases he : i = id
      · subst he
        rw [List.getElem?_set_self (List.getElem?_eq_some_iff.1 hb).1] at h1
        cases h1
        exact ⟨i, b, hb, h2⟩
      · rw [List.getElem?_set_ne (fun h => he h.symm)] at h1
        exact ⟨i, blk, h1, h2⟩
  have hlt : id < H.length := (List.getElem?_eq_some_iff.1 hb).1
  have key : ∀ (i : Nat) (c : Blk), (H.set id (some ⟨b.g, b.sz, cs⟩))[i]? = some (some c) → (i ≠ id ∧ H[i]? = some (some c)) ∨ (i = id ∧ c = ⟨b.g, b.sz, cs⟩) := by
    intro i c hi
    by_cases he : i = id
    · subst he
      rw [List.getElem?_set_self hlt] at hi
      cases hi
      exact .inr ⟨rfl, rfl⟩
    · rw [List.getElem?_set_ne (fun h => he h.symm)] at hi
      exact .inl ⟨he, hi⟩
  refine ⟨⟨fun k hk => by rw [hsz]; exact R.imm k hk, fun i c hi => ?_, fun i i' c c' hi hi' heq => ?_⟩, E⟩
  · rcases key i c hi with ⟨hne, hi⟩ | ⟨rfl, rfl⟩
    · obtain ⟨h1, h2, cc', t', h3, h4, h5, h6⟩ := R.blk i c hi
      refine ⟨h1, h2, cc', t', ?_, h4, h5, fun j hj => ?_⟩
      · rw [hoth _ (fun he => hne (R.inj i id c b hi hb he))]; exact h3
      · obtain ⟨u, h7, h8⟩ := h6 j hj
        exact ⟨u, h7, h8.mono E⟩
    · refine ⟨g1, g2, cc, t, hh, hcc, by simp only; omega, fun j hj => ?_⟩
      obtain ⟨u, h7, h8⟩ := hc j hj
      exact ⟨u, h7, h8.mono E⟩
  · rcases key i c hi with ⟨_, k1⟩ | ⟨e1, e2⟩ <;> rcases key i' c' hi' with ⟨_, k2⟩ | ⟨e3, e4⟩
    · exact R.inj _ _ _ _ k1 k2 heq
    · rw [e4] at heq
      rw [e3]
      exact R.inj _ _ c b k1 hb heq
    · rw [e2] at heq
      rw [e1]
      exact R.inj _ _ b c' hb k2 heq
    · rw [e1, e3]

/-- A block takes a new name: what it was known by before is no longer told. The new place is the old one, or a new one. -/
theorem ren_block {w w' : World} {X : Cx} {H : Heap} (R : HRel w X H) {id : Nat} {b : Blk} (hb : H[id]? = some (some b)) {sz' : Nat} {cs : List CV} {cc : Array Value} {t : TypeId} {p : Nat}
    (hp : p = X.mu b.g ∨ p = w.heap.size)
    (hh : w'.heap[p]? = some (.cells cc t (0, 0))) (hoth : ∀ k, k < w.heap.size → k ≠ p → w'.heap[k]? = w.heap[k]?) (hsz : w.heap.size ≤ w'.heap.size)
    (ho : w'.os = w.os) (ht : w'.tape = w.tape) (hout : w'.output = w.output) (hl : cs.length ≤ cc.size)
    (hc : ∀ j (h : j < cs.length), ∃ u, cc[j]? = some u ∧ VC w X H cs[j] u) :
    HRel w' (X.new p cc.size) (H.set id (some ⟨X.t, sz', cs⟩)) ∧ Ev w X H w' (X.new p cc.size) (H.set id (some ⟨X.t, sz', cs⟩)) := by
  obtain ⟨g1, g2, cc0, t0, g3, g4, g5, g6⟩ := R.blk id b hb
  have hpI : ¬ X.I p := by
    rcases hp with rfl | rfl
    · exact g2
    · intro hI; exact absurd (R.imm _ hI) (Nat.lt_irrefl _)
  have E : Ev w X H w' (X.new p cc.size) (H.set id (some ⟨X.t, sz', cs⟩)) := by
    refine ⟨fun k hk => ⟨hk, hoth k (R.imm k hk) (fun he => hpI (he ▸ hk))⟩, Nat.le_succ _, fun g hg => ?_, hsz, ho, ht, hout, ?_, fun k hk hn => hoth k hk ?_, ?_, fun k hk => .inl hk⟩
    · simp only [Cx.new]
      rw [if_neg (by omega), if_neg (by omega)]
      exact ⟨rfl, rfl⟩
    · intro i g b' hg hlk
      rcases look_set hb hlk with ⟨_, h⟩ | ⟨rfl, rfl, rfl⟩
      · exact ⟨b', h, rfl, rfl⟩
      · exact absurd hg (Nat.lt_irrefl _)
    · rintro rfl
      rcases hp with hp | hp
      · exact hn ⟨id, b, hb, hp.symm⟩
      · omega
    · rintro k ⟨i, blk, h1, h2⟩
      by_cases he : i = id
      · subst he
        rw [List.getElem?_set_self (List.getElem?_eq_some_iff.1 hb).1] at h1
        cases h1
        simp only [Cx.new, if_true] at h2
        subst h2
        rcases hp with hp | hp
        · exact .inl ⟨i, b, hb, hp.symm⟩
        · exact .inr (by omega)
      · rw [List.getElem?_set_ne (fun h => he h.symm)] at h1
        refine .inl ⟨i, blk, h1, ?_⟩
        rw [← h2]
        simp only [Cx.new]
        rw [if_neg (by have := (R.blk i blk h1).1; omega)]
  have hlt : id < H.length := (List.getElem?_eq_some_iff.1 hb).1
  have key : ∀ (i : Nat) (c : Blk), (H.set id (some ⟨X.t, sz', cs⟩))[i]? = some (some c) → (i ≠ id ∧ H[i]? = some (some c) ∧ (X.new p cc.size).mu c.g = X.mu c.g ∧ X.mu c.g ≠ p) ∨ (i = id ∧ c = ⟨X.t, sz', cs⟩) := by
    intro i c hi
    by_cases he : i = id
    · subst he
      rw [List.getElem?_set_self hlt] at hi
      cases hi
      exact .inr ⟨rfl, rfl⟩
    · rw [List.getElem?_set_ne (fun h => he h.symm)] at hi
      obtain ⟨h1, h2, cc', t', h3, _⟩ := R.blk i c hi
      refine .inl ⟨he, hi, (E.mu c.g h1).1, fun hq => ?_⟩
      rcases hp with hp | hp
      · exact he (R.inj i id c b hi hb (hq.trans hp))
      · have := (Array.getElem?_eq_some_iff.1 h3).1
        omega
  refine ⟨⟨fun k hk => Nat.lt_of_lt_of_le (R.imm k hk) hsz, fun i c hi => ?_, fun i i' c c' hi hi' heq => ?_⟩, E⟩
  · rcases key i c hi with ⟨hne, hi, hm, hq⟩ | ⟨rfl, rfl⟩
    · obtain ⟨h1, h2, cc', t', h3, h4, h5, h6⟩ := R.blk i c hi
      refine ⟨Nat.lt_succ_of_lt h1, by rw [hm]; exact h2, cc', t', ?_, by rw [(E.mu c.g h1).2]; exact h4, h5, fun j hj => ?_⟩
      · rw [hm, hoth _ (Array.getElem?_eq_some_iff.1 h3).1 hq]; exact h3
      · obtain ⟨u, h7, h8⟩ := h6 j hj
        exact ⟨u, h7, h8.mono E⟩
    · refine ⟨Nat.lt_succ_self _, by simp only [Cx.new, if_true]; exact hpI, cc, t, by simp only [Cx.new, if_true]; exact hh, by simp only [Cx.new, if_true], hl, fun j hj => ?_⟩
      obtain ⟨u, h7, h8⟩ := hc j hj
      exact ⟨u, h7, h8.mono E⟩
  · rcases key i c hi with ⟨_, hi, hm, hq⟩ | ⟨rfl, rfl⟩ <;> rcases key i' c' hi' with ⟨_, hi', hm', hq'⟩ | ⟨rfl, rfl⟩
    · rw [hm, hm'] at heq
      exact R.inj _ _ _ _ hi hi' heq
    · rw [hm] at heq
      simp only [Cx.new, if_true] at heq
      exact absurd heq hq
    · rw [hm'] at heq
      simp only [Cx.new, if_true] at heq
      exact absurd heq.symm hq'
    · rfl
end Go.Lg
