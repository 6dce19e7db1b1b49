/- A small logic over the kit's rules: abstract values and heaps, and what they say of a world. -/
import Derived.Calls
import Derived.Tactics
import Derived.Deep.Quiet
import Derived.Below
import Derived.WalkKit
namespace Go.Lg

/-- What is only read: numbers, bools, strings, slices as their cells. -/
inductive FV where
  | int (k : IntKind) (n : Int)
  | bool (b : Bool)
  | str (s : ByteArray)
  | nil
  | sl (n : Nat) (cs : List FV)
  deriving Inhabited

/-- One cell. 'fp': a pointer into what is only read; 'ptr', 'own': into a block of the call's own, by place and name. -/
inductive CV where
  | f (x : FV)
  | fp (cs : List FV) (off : Nat)
  | nilp
  | ptr (id g off : Nat)
  | own (id g off n : Nat) (lim : Option Nat)
  | fn (f : FuncId) (caps : List (Nat × Nat))
  | nilf
  | emp
  deriving Inhabited

inductive AV where
  | c (x : CV)
  | agg (cs : List CV)
  | tup (vs : List AV)
  | void
  | any
  deriving Inhabited

structure Blk where
  g : Nat
  sz : Nat
  cs : List CV

abbrev Heap := List (Option Blk)

def look (H : Heap) (id g : Nat) : Option Blk :=
  match H[id]? with
  | some (some b) => if b.g = g then some b else none
  | _ => none

theorem look_some {H : Heap} {id g : Nat} {b : Blk} (h : look H id g = some b) : H[id]? = some (some b) ∧ b.g = g := by
  unfold look at h
  split at h
  · rename_i b' hb
    split at h
    · rename_i hg
      cases h
      exact ⟨hb, hg⟩
    · cases h
  · cases h

theorem look_of {H : Heap} {id : Nat} {b : Blk} (h : H[id]? = some (some b)) : look H id b.g = some b := by
  unfold look
  rw [h]
  simp

structure Cx where
  mu : Nat → Nat
  sz : Nat → Nat
  I : Nat → Prop
  t : Nat

inductive VF (w : World) (I : Nat → Prop) : FV → Value → Prop where
  | int (k : IntKind) (n : Int) : VF w I (.int k n) (.int k n)
  | bool (b : Bool) : VF w I (.bool b) (.bool b)
  | str (s : ByteArray) : VF w I (.str s) (.string s)
  | nil : VF w I .nil (.slice none 0 0)
  | sl0 (a : Option Addr) (cap : Nat) : VF w I (.sl 0 []) (.slice a 0 cap)
  | sl (n : Nat) (cs : List FV) (b o cap : Nat) (u : Nat → Value) (hc : n ≤ cap) (hI : I b)
      (hu : ∀ j, j < cs.length → w.cell? ⟨b, o + j, none⟩ = some (u j)) (hv : ∀ j (h : j < cs.length), VF w I cs[j] (u j)) :
      VF w I (.sl n cs) (.slice (some ⟨b, o, none⟩) n cap)

def FC (w : World) (I : Nat → Prop) (cs : List FV) (b o : Nat) : Prop :=
  ∀ j (h : j < cs.length), ∃ u, w.cell? ⟨b, o + j, none⟩ = some u ∧ VF w I cs[j] u

def VC (w : World) (X : Cx) (H : Heap) : CV → Value → Prop
  | .f x, v => VF w X.I x v
  | .fp cs off, v => ∃ b o, v = .pointer (some ⟨b, o + off, none⟩) ∧ X.I b ∧ FC w X.I cs b o
  | .nilp, v => v = .pointer none
  | .ptr id g off, v => g < X.t ∧ v.oneCell' = true ∧ ((look H id g).isSome → v = .pointer (some ⟨X.mu g, off, none⟩))
  | .own id g off n lim, v => g < X.t ∧ v.oneCell' = true ∧ ∀ blk, look H id g = some blk → off + n * blk.sz ≤ blk.cs.length ∧
      ∃ a cap, v = .slice (some a) n cap ∧ n ≤ cap ∧ (cap ≠ 0 → a = ⟨X.mu g, off, none⟩) ∧ off + cap * blk.sz ≤ X.sz g ∧
        (match lim with | none => blk.cs.length ≤ off + cap * blk.sz | some c => cap = c)
  | .fn f caps, v => (∀ c ∈ caps, c.2 < X.t) ∧ v.oneCell' = true ∧ ((∀ c ∈ caps, (look H c.1 c.2).isSome) →
      v = .func (.func f) #[] (caps.map fun c => Value.pointer (some ⟨X.mu c.2, 0, none⟩)).toArray)
  | .nilf, v => v = .nilFunc
  | .emp, v => ∃ a : Option Addr, v = .slice a 0 0

structure HRel (w : World) (X : Cx) (H : Heap) : Prop where
  imm : ∀ b, X.I b → b < w.heap.size
  blk : ∀ (id : Nat) (b : Blk), H[id]? = some (some b) → b.g < X.t ∧ ¬ X.I (X.mu b.g) ∧ ∃ cc t, w.heap[X.mu b.g]? = some (.cells cc t (0, 0)) ∧
    cc.size = X.sz b.g ∧ b.cs.length ≤ cc.size ∧ ∀ j (h : j < b.cs.length), ∃ u, cc[j]? = some u ∧ VC w X H b.cs[j] u
  inj : ∀ (id id' : Nat) (b b' : Blk), H[id]? = some (some b) → H[id']? = some (some b') → X.mu b.g = X.mu b'.g → id = id'

inductive VA (w : World) (X : Cx) (H : Heap) : AV → Value → Prop where
  | c (x : CV) (v : Value) (h : VC w X H x v) : VA w X H (.c x) v
  | agg (cs : List CV) (vs : Array Value) (hs : vs.size = cs.length) (h : ∀ j (h : j < cs.length), ∃ u, vs[j]? = some u ∧ VC w X H cs[j] u) : VA w X H (.agg cs) (.agg vs)
  | tup (vs : List AV) (us : Nat → Value) (h : ∀ j (h : j < vs.length), VA w X H vs[j] (us j)) : VA w X H (.tup vs) (.tuple ((List.range vs.length).map us).toArray)
  | void : VA w X H .void undef
  | any (v : Value) : VA w X H .any v

def Sub (t : Nat) (H H' : Heap) : Prop :=
  ∀ (id g : Nat) (b' : Blk), g < t → look H' id g = some b' → ∃ b, look H id g = some b ∧ b.cs.length = b'.cs.length ∧ b.sz = b'.sz

/-- The block is one of the call's own. -/
def Owned (X : Cx) (H : Heap) (b : Nat) : Prop := ∃ (id : Nat) (blk : Blk), H[id]? = some (some blk) ∧ X.mu blk.g = b

structure Ev (w : World) (X : Cx) (H : Heap) (w' : World) (X' : Cx) (H' : Heap) : Prop where
  imm : ∀ b, X.I b → X'.I b ∧ w'.heap[b]? = w.heap[b]?
  t : X.t ≤ X'.t
  mu : ∀ g, g < X.t → X'.mu g = X.mu g ∧ X'.sz g = X.sz g
  size : w.heap.size ≤ w'.heap.size
  os : w'.os = w.os
  tape : w'.tape = w.tape
  output : w'.output = w.output
  sub : Sub X.t H H'
  frame : ∀ b, b < w.heap.size → ¬ Owned X H b → w'.heap[b]? = w.heap[b]?
  own : ∀ b, Owned X' H' b → Owned X H b ∨ w.heap.size ≤ b
  inI : ∀ b, X'.I b → X.I b ∨ Owned X H b ∨ w.heap.size ≤ b

theorem Sub.refl (t : Nat) (H : Heap) : Sub t H H := fun _ _ b' _ h => ⟨b', h, rfl, rfl⟩
theorem Sub.trans {t t' : Nat} {H H' H'' : Heap} (h : Sub t H H') (ht : t ≤ t') (h' : Sub t' H' H'') : Sub t H H'' := by
  intro id g b hg hl
  obtain ⟨b', hl', e1, e2⟩ := h' id g b (by omega) hl
  obtain ⟨b'', hl'', e3, e4⟩ := h id g b' hg hl'
  exact ⟨b'', hl'', e3.trans e1, e4.trans e2⟩

theorem Ev.refl (w : World) (X : Cx) (H : Heap) : Ev w X H w X H :=
  ⟨fun _ h => ⟨h, rfl⟩, Nat.le_refl _, fun _ _ => ⟨rfl, rfl⟩, Nat.le_refl _, rfl, rfl, rfl, Sub.refl _ _, fun _ _ _ => rfl, fun _ h => .inl h, fun _ h => .inl h⟩
theorem Ev.trans {w w' w'' : World} {X X' X'' : Cx} {H H' H'' : Heap} (h : Ev w X H w' X' H') (k : Ev w' X' H' w'' X'' H'') : Ev w X H w'' X'' H'' :=
  ⟨fun b hb => ⟨(k.imm b (h.imm b hb).1).1, ((k.imm b (h.imm b hb).1).2).trans (h.imm b hb).2⟩, Nat.le_trans h.t k.t,
   fun g hg => ⟨((k.mu g (Nat.lt_of_lt_of_le hg h.t)).1).trans (h.mu g hg).1, ((k.mu g (Nat.lt_of_lt_of_le hg h.t)).2).trans (h.mu g hg).2⟩,
   Nat.le_trans h.size k.size, k.os.trans h.os, k.tape.trans h.tape, k.output.trans h.output, h.sub.trans h.t k.sub,
   fun b hb hn => (k.frame b (Nat.lt_of_lt_of_le hb h.size) fun ho => (h.own b ho).elim hn (fun hl => absurd hb (Nat.not_lt.2 hl))).trans (h.frame b hb hn),
   fun b hb => (k.own b hb).elim (h.own b) fun hl => .inr (Nat.le_trans h.size hl),
   fun b hb => (k.inI b hb).elim (h.inI b) fun hl => hl.elim (fun ho => .inr (h.own b ho)) fun hl => .inr (.inr (Nat.le_trans h.size hl))⟩

theorem cell_of_block {w w' : World} {b : Nat} (h : w'.heap[b]? = w.heap[b]?) (o : Nat) : w'.cell? ⟨b, o, none⟩ = w.cell? ⟨b, o, none⟩ := by
  simp only [World.cell?, h]

theorem VF.mono {w w' : World} {I I' : Nat → Prop} (h : ∀ b, I b → I' b ∧ w'.heap[b]? = w.heap[b]?) {x : FV} {v : Value} (hv : VF w I x v) : VF w' I' x v := by
  induction hv with
  | int k n => exact .int k n
  | bool b => exact .bool b
  | str s => exact .str s
  | nil => exact .nil
  | sl0 a cap => exact .sl0 a cap
  | sl n cs b o cap u hc hI hu hv ih =>
    exact .sl n cs b o cap u hc (h b hI).1 (fun j hj => by rw [cell_of_block (h b hI).2]; exact hu j hj) ih

theorem FC.mono {w w' : World} {I I' : Nat → Prop} (h : ∀ b, I b → I' b ∧ w'.heap[b]? = w.heap[b]?) {cs : List FV} {b o : Nat} (hb : I b) (hv : FC w I cs b o) : FC w' I' cs b o := by
  intro j hj
  obtain ⟨u, h1, h2⟩ := hv j hj
  exact ⟨u, by rw [cell_of_block (h b hb).2]; exact h1, h2.mono h⟩

theorem VC.mono {w w' : World} {X X' : Cx} {H H' : Heap} (e : Ev w X H w' X' H') {x : CV} {v : Value} (h : VC w X H x v) : VC w' X' H' x v := by
  cases x with
  | f x => exact VF.mono e.imm h
  | fp cs off =>
    obtain ⟨b, o, h1, h2, h3⟩ := h
    exact ⟨b, o, h1, (e.imm b h2).1, FC.mono e.imm h2 h3⟩
  | nilp => exact h
  | ptr id g off =>
    obtain ⟨h1, h3, h2⟩ := h
    refine ⟨Nat.lt_of_lt_of_le h1 e.t, h3, fun hl => ?_⟩
    obtain ⟨b', hb'⟩ := Option.isSome_iff_exists.1 hl
    obtain ⟨b, hb, _⟩ := e.sub id g b' h1 hb'
    rw [(e.mu g h1).1]
    exact h2 (by rw [hb]; rfl)
  | own id g off n lim =>
    obtain ⟨h1, h3, h2⟩ := h
    refine ⟨Nat.lt_of_lt_of_le h1 e.t, h3, fun b' hb' => ?_⟩
    obtain ⟨b, hb, e1, e2⟩ := e.sub id g b' h1 hb'
    rw [(e.mu g h1).1, (e.mu g h1).2, ← e1, ← e2]
    exact h2 b hb
  | fn f caps =>
    obtain ⟨h1, h3, h2⟩ := h
    refine ⟨fun c hc => Nat.lt_of_lt_of_le (h1 c hc) e.t, h3, fun hl => ?_⟩
    have := h2 (fun c hc => by
      obtain ⟨b', hb'⟩ := Option.isSome_iff_exists.1 (hl c hc)
      obtain ⟨b, hb, _⟩ := e.sub c.1 c.2 b' (h1 c hc) hb'
      rw [hb]; rfl)
    rw [this]
    congr 2
    exact List.map_congr_left fun c hc => by rw [(e.mu c.2 (h1 c hc)).1]
  | nilf => exact h
  | emp => exact h

theorem VF.one {w : World} {I : Nat → Prop} {x : FV} {v : Value} (h : VF w I x v) : v.oneCell' = true := by
  cases h <;> rfl
theorem VC.one {w : World} {X : Cx} {H : Heap} {x : CV} {v : Value} (h : VC w X H x v) : v.oneCell' = true := by
  cases x with
  | f x => exact VF.one h
  | fp cs off => obtain ⟨b, o, rfl, _⟩ := h; rfl
  | nilp => cases h; rfl
  | ptr id g off => exact h.2.1
  | own id g off n lim => exact h.2.1
  | fn f caps => exact h.2.1
  | nilf => cases h; rfl
  | emp => obtain ⟨a, rfl⟩ := h; rfl

theorem VA.mono {w w' : World} {X X' : Cx} {H H' : Heap} (e : Ev w X H w' X' H') {x : AV} {v : Value} (h : VA w X H x v) : VA w' X' H' x v := by
  induction h with
  | c x v h => exact .c x v (h.mono e)
  | agg cs vs hs h => exact .agg cs vs hs fun j hj => let ⟨u, h1, h2⟩ := h j hj; ⟨u, h1, h2.mono e⟩
  | tup vs us h ih => exact .tup vs us ih
  | void => exact .void
  | any v => exact .any v

/-- Nothing that is there has turned. -/
structure Grow (w w' : World) : Prop where
  blk : ∀ b, b < w.heap.size → w'.heap[b]? = w.heap[b]?
  size : w.heap.size ≤ w'.heap.size
  os : w'.os = w.os
  tape : w'.tape = w.tape
  output : w'.output = w.output
theorem Grow.refl (w : World) : Grow w w := ⟨fun _ _ => rfl, Nat.le_refl _, rfl, rfl, rfl⟩
theorem Grow.trans {w w' w'' : World} (h : Grow w w') (k : Grow w' w'') : Grow w w'' :=
  ⟨fun b hb => (k.blk b (Nat.lt_of_lt_of_le hb h.size)).trans (h.blk b hb), Nat.le_trans h.size k.size, k.os.trans h.os, k.tape.trans h.tape, k.output.trans h.output⟩
theorem Grow.cell {w w' : World} (h : Grow w w') {a : Addr} {u : Value} (hc : w.cell? a = some u) : w'.cell? a = some u := by
  have hb : a.block < w.heap.size := World.block_lt_of_cell? w a hc
  simp only [World.cell?, h.blk _ hb] at hc ⊢
  exact hc
theorem Grow.ev {w w' : World} (h : Grow w w') {X : Cx} {H : Heap} (R : HRel w X H) : Ev w X H w' X H :=
  ⟨fun b hb => ⟨hb, h.blk b (R.imm b hb)⟩, Nat.le_refl _, fun _ _ => ⟨rfl, rfl⟩, h.size, h.os, h.tape, h.output, Sub.refl _ _, fun b hb _ => h.blk b hb, fun _ h => .inl h, fun _ h => .inl h⟩
theorem Grow.rel {w w' : World} (h : Grow w w') {X : Cx} {H : Heap} (R : HRel w X H) : HRel w' X H :=
  ⟨fun b hb => Nat.lt_of_lt_of_le (R.imm b hb) h.size, fun id b hb => by
    obtain ⟨h1, h2, cc, t, h3, h4, h5, h6⟩ := R.blk id b hb
    exact ⟨h1, h2, cc, t, by rw [h.blk _ (Array.getElem?_eq_some_iff.1 h3).1]; exact h3, h4, h5, fun j hj => let ⟨u, k1, k2⟩ := h6 j hj; ⟨u, k1, k2.mono (h.ev R)⟩⟩, R.inj⟩

structure St where
  s : List AV
  h : Heap

structure Rel (w : World) (X : Cx) (a : Act) (st : St) : Prop where
  defs : a.defers = []
  size : a.tmps.size = st.s.length
  slot : ∀ i (h : i < st.s.length), ∃ u, a.tmps[i]? = some u ∧ VA w X st.h st.s[i] u
  heap : HRel w X st.h

theorem Grow.st {w w' : World} (h : Grow w w') {X : Cx} {a : Act} {st : St} (R : Rel w X a st) : Rel w' X a st :=
  ⟨R.defs, R.size, fun i hi => let ⟨u, h1, h2⟩ := R.slot i hi; ⟨u, h1, h2.mono (h.ev R.heap)⟩, h.rel R.heap⟩

def RunC (P : Program) (c : Code) (st : St) (Q : Exit → St → Prop) : Prop :=
  ∀ w X a, Rel w X a st → c.wp P (fun e a' w' => ∃ X' st', Rel w' X' a' st' ∧ Ev w X st.h w' X' st'.h ∧ Q e st') a w

def VAs (w : World) (X : Cx) (H : Heap) (xs : List AV) (vs : Array Value) : Prop :=
  vs.size = xs.length ∧ ∀ i (h : i < xs.length), ∃ u, vs[i]? = some u ∧ VA w X H xs[i] u

def RunCall (P : Program) (f : FuncId) (args : List AV) (H : Heap) (Q : AV → Heap → Prop) : Prop :=
  ∀ w X vs, HRel w X H → VAs w X H args vs →
    Calls P f vs w fun e w' => ∃ v u X' H', e = .returned u ∧ VA w' X' H' v u ∧ HRel w' X' H' ∧ Ev w X H w' X' H' ∧ Q v H'

end Go.Lg
