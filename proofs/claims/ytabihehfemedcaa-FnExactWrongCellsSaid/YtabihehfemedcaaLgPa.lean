/- The logic's texts LgA, LgB, LgC, LgD, LgE, LgF, LgG, LgH, LgI, LgJ, LgK, LgL, LgM, one behind the other. -/
import Derived.Calls
import Derived.Tactics
import Derived.Deep.Quiet
import Derived.Below
import Derived.WalkKit
import Derived.Laws.Cells
import Derived.Laws.Rows
import Derived.Laws.CopyRow
import Derived.Laws.BytesArg
import Derived.Laws.StructEq
import Derived.Laws.Small
import Derived.Lib.SliceRun
import Derived.WalkSpells
import Derived.ArgAppend
/- A small logic over the kit's rules: abstract values and heaps, and what they say of a world. -/
namespace Go.Lg

/-- What is only read: numbers, bools, strings, slices as their cells. -/
inductive FV where
  | int (k : IntKind) (n : Int)
  | bool (b : Bool)
  | str (s : ByteArray)
  | nil
  | sl (n : Nat) (cs : List FV)
  deriving Inhabited

/-- One cell. 'fp': a pointer into what is only read; 'ptr', 'own': into a block of the call's own, by place and name. -/
inductive CV where
  | f (x : FV)
  | fp (cs : List FV) (off : Nat)
  | nilp
  | ptr (id g off : Nat)
  | own (id g off n : Nat) (lim : Option Nat)
  | fn (f : FuncId) (caps : List (Nat × Nat))
  | nilf
  | emp
  deriving Inhabited

inductive AV where
  | c (x : CV)
  | agg (cs : List CV)
  | tup (vs : List AV)
  | void
  | any
  deriving Inhabited

structure Blk where
  g : Nat
  sz : Nat
  cs : List CV

abbrev Heap := List (Option Blk)

def look (H : Heap) (id g : Nat) : Option Blk :=
  match H[id]? with
  | some (some b) => if b.g = g then some b else none
  | _ => none

theorem look_some {H : Heap} {id g : Nat} {b : Blk} (h : look H id g = some b) : H[id]? = some (some b) ∧ b.g = g := by
  unfold look at h
  split at h
  · rename_i b' hb
    split at h
    · rename_i hg
      cases h
      exact ⟨hb, hg⟩
    · cases h
  · cases h

theorem look_of {H : Heap} {id : Nat} {b : Blk} (h : H[id]? = some (some b)) : look H id b.g = some b := by
  unfold look
  rw [h]
  simp

structure Cx where
  mu : Nat → Nat
  sz : Nat → Nat
  I : Nat → Prop
  t : Nat

inductive VF (w : World) (I : Nat → Prop) : FV → Value → Prop where
  | int (k : IntKind) (n : Int) : VF w I (.int k n) (.int k n)
  | bool (b : Bool) : VF w I (.bool b) (.bool b)
  | str (s : ByteArray) : VF w I (.str s) (.string s)
  | nil : VF w I .nil (.slice none 0 0)
  | sl0 (a : Option Addr) (cap : Nat) : VF w I (.sl 0 []) (.slice a 0 cap)
  | sl (n : Nat) (cs : List FV) (b o cap : Nat) (u : Nat → Value) (hc : n ≤ cap) (hI : I b)
      (hu : ∀ j, j < cs.length → w.cell? ⟨b, o + j, none⟩ = some (u j)) (hv : ∀ j (h : j < cs.length), VF w I cs[j] (u j)) :
      VF w I (.sl n cs) (.slice (some ⟨b, o, none⟩) n cap)

def FC (w : World) (I : Nat → Prop) (cs : List FV) (b o : Nat) : Prop :=
  ∀ j (h : j < cs.length), ∃ u, w.cell? ⟨b, o + j, none⟩ = some u ∧ VF w I cs[j] u

def VC (w : World) (X : Cx) (H : Heap) : CV → Value → Prop
  | .f x, v => VF w X.I x v
  | .fp cs off, v => ∃ b o, v = .pointer (some ⟨b, o + off, none⟩) ∧ X.I b ∧ FC w X.I cs b o
  | .nilp, v => v = .pointer none
  | .ptr id g off, v => g < X.t ∧ v.oneCell' = true ∧ ((look H id g).isSome → v = .pointer (some ⟨X.mu g, off, none⟩))
  | .own id g off n lim, v => g < X.t ∧ v.oneCell' = true ∧ ∀ blk, look H id g = some blk → off + n * blk.sz ≤ blk.cs.length ∧
      ∃ a cap, v = .slice (some a) n cap ∧ n ≤ cap ∧ (cap ≠ 0 → a = ⟨X.mu g, off, none⟩) ∧ off + cap * blk.sz ≤ X.sz g ∧
        (match lim with | none => blk.cs.length ≤ off + cap * blk.sz | some c => cap = c)
  | .fn f caps, v => (∀ c ∈ caps, c.2 < X.t) ∧ v.oneCell' = true ∧ ((∀ c ∈ caps, (look H c.1 c.2).isSome) →
      v = .func (.func f) #[] (caps.map fun c => Value.pointer (some ⟨X.mu c.2, 0, none⟩)).toArray)
  | .nilf, v => v = .nilFunc
  | .emp, v => ∃ a : Option Addr, v = .slice a 0 0

structure HRel (w : World) (X : Cx) (H : Heap) : Prop where
  imm : ∀ b, X.I b → b < w.heap.size
  blk : ∀ (id : Nat) (b : Blk), H[id]? = some (some b) → b.g < X.t ∧ ¬ X.I (X.mu b.g) ∧ ∃ cc t, w.heap[X.mu b.g]? = some (.cells cc t (0, 0)) ∧
    cc.size = X.sz b.g ∧ b.cs.length ≤ cc.size ∧ ∀ j (h : j < b.cs.length), ∃ u, cc[j]? = some u ∧ VC w X H b.cs[j] u
  inj : ∀ (id id' : Nat) (b b' : Blk), H[id]? = some (some b) → H[id']? = some (some b') → X.mu b.g = X.mu b'.g → id = id'

inductive VA (w : World) (X : Cx) (H : Heap) : AV → Value → Prop where
  | c (x : CV) (v : Value) (h : VC w X H x v) : VA w X H (.c x) v
  | agg (cs : List CV) (vs : Array Value) (hs : vs.size = cs.length) (h : ∀ j (h : j < cs.length), ∃ u, vs[j]? = some u ∧ VC w X H cs[j] u) : VA w X H (.agg cs) (.agg vs)
  | tup (vs : List AV) (us : Nat → Value) (h : ∀ j (h : j < vs.length), VA w X H vs[j] (us j)) : VA w X H (.tup vs) (.tuple ((List.range vs.length).map us).toArray)
  | void : VA w X H .void undef
  | any (v : Value) : VA w X H .any v

def Sub (t : Nat) (H H' : Heap) : Prop :=
  ∀ (id g : Nat) (b' : Blk), g < t → look H' id g = some b' → ∃ b, look H id g = some b ∧ b.cs.length = b'.cs.length ∧ b.sz = b'.sz

/-- The block is one of the call's own. -/
def Owned (X : Cx) (H : Heap) (b : Nat) : Prop := ∃ (id : Nat) (blk : Blk), H[id]? = some (some blk) ∧ X.mu blk.g = b

structure Ev (w : World) (X : Cx) (H : Heap) (w' : World) (X' : Cx) (H' : Heap) : Prop where
  imm : ∀ b, X.I b → X'.I b ∧ w'.heap[b]? = w.heap[b]?
  t : X.t ≤ X'.t
  mu : ∀ g, g < X.t → X'.mu g = X.mu g ∧ X'.sz g = X.sz g
  size : w.heap.size ≤ w'.heap.size
  os : w'.os = w.os
  tape : w'.tape = w.tape
  output : w'.output = w.output
  sub : Sub X.t H H'
  frame : ∀ b, b < w.heap.size → ¬ Owned X H b → w'.heap[b]? = w.heap[b]?
  own : ∀ b, Owned X' H' b → Owned X H b ∨ w.heap.size ≤ b
  inI : ∀ b, X'.I b → X.I b ∨ Owned X H b ∨ w.heap.size ≤ b

theorem Sub.refl (t : Nat) (H : Heap) : Sub t H H := fun _ _ b' _ h => ⟨b', h, rfl, rfl⟩
theorem Sub.trans {t t' : Nat} {H H' H'' : Heap} (h : Sub t H H') (ht : t ≤ t') (h' : Sub t' H' H'') : Sub t H H'' := by
  intro id g b hg hl
  obtain ⟨b', hl', e1, e2⟩ := h' id g b (by omega) hl
  obtain ⟨b'', hl'', e3, e4⟩ := h id g b' hg hl'
  exact ⟨b'', hl'', e3.trans e1, e4.trans e2⟩

theorem Ev.refl (w : World) (X : Cx) (H : Heap) : Ev w X H w X H :=
  ⟨fun _ h => ⟨h, rfl⟩, Nat.le_refl _, fun _ _ => ⟨rfl, rfl⟩, Nat.le_refl _, rfl, rfl, rfl, Sub.refl _ _, fun _ _ _ => rfl, fun _ h => .inl h, fun _ h => .inl h⟩
theorem Ev.trans {w w' w'' : World} {X X' X'' : Cx} {H H' H'' : Heap} (h : Ev w X H w' X' H') (k : Ev w' X' H' w'' X'' H'') : Ev w X H w'' X'' H'' :=
  ⟨fun b hb => ⟨(k.imm b (h.imm b hb).1).1, ((k.imm b (h.imm b hb).1).2).trans (h.imm b hb).2⟩, Nat.le_trans h.t k.t,
   fun g hg => ⟨((k.mu g (Nat.lt_of_lt_of_le hg h.t)).1).trans (h.mu g hg).1, ((k.mu g (Nat.lt_of_lt_of_le hg h.t)).2).trans (h.mu g hg).2⟩,
   Nat.le_trans h.size k.size, k.os.trans h.os, k.tape.trans h.tape, k.output.trans h.output, h.sub.trans h.t k.sub,
   fun b hb hn => (k.frame b (Nat.lt_of_lt_of_le hb h.size) fun ho => (h.own b ho).elim hn (fun hl => absurd hb (Nat.not_lt.2 hl))).trans (h.frame b hb hn),
   fun b hb => (k.own b hb).elim (h.own b) fun hl => .inr (Nat.le_trans h.size hl),
   fun b hb => (k.inI b hb).elim (h.inI b) fun hl => hl.elim (fun ho => .inr (h.own b ho)) fun hl => .inr (.inr (Nat.le_trans h.size hl))⟩

theorem cell_of_block {w w' : World} {b : Nat} (h : w'.heap[b]? = w.heap[b]?) (o : Nat) : w'.cell? ⟨b, o, none⟩ = w.cell? ⟨b, o, none⟩ := by
  simp only [World.cell?, h]

theorem VF.mono {w w' : World} {I I' : Nat → Prop} (h : ∀ b, I b → I' b ∧ w'.heap[b]? = w.heap[b]?) {x : FV} {v : Value} (hv : VF w I x v) : VF w' I' x v := by
  induction hv with
  | int k n => exact .int k n
  | bool b => exact .bool b
  | str s => exact .str s
  | nil => exact .nil
  | sl0 a cap => exact .sl0 a cap
  | sl n cs b o cap u hc hI hu hv ih =>
    exact .sl n cs b o cap u hc (h b hI).1 (fun j hj => by rw [cell_of_block (h b hI).2]; exact hu j hj) ih

theorem FC.mono {w w' : World} {I I' : Nat → Prop} (h : ∀ b, I b → I' b ∧ w'.heap[b]? = w.heap[b]?) {cs : List FV} {b o : Nat} (hb : I b) (hv : FC w I cs b o) : FC w' I' cs b o := by
  intro j hj
  obtain ⟨u, h1, h2⟩ := hv j hj
  exact ⟨u, by rw [cell_of_block (h b hb).2]; exact h1, h2.mono h⟩

theorem VC.mono {w w' : World} {X X' : Cx} {H H' : Heap} (e : Ev w X H w' X' H') {x : CV} {v : Value} (h : VC w X H x v) : VC w' X' H' x v := by
  cases x with
  | f x => exact VF.mono e.imm h
  | fp cs off =>
    obtain ⟨b, o, h1, h2, h3⟩ := h
    exact ⟨b, o, h1, (e.imm b h2).1, FC.mono e.imm h2 h3⟩
  | nilp => exact h
  | ptr id g off =>
    obtain ⟨h1, h3, h2⟩ := h
    refine ⟨Nat.lt_of_lt_of_le h1 e.t, h3, fun hl => ?_⟩
    obtain ⟨b', hb'⟩ := Option.isSome_iff_exists.1 hl
    obtain ⟨b, hb, _⟩ := e.sub id g b' h1 hb'
    rw [(e.mu g h1).1]
    exact h2 (by rw [hb]; rfl)
  | own id g off n lim =>
    obtain ⟨h1, h3, h2⟩ := h
    refine ⟨Nat.lt_of_lt_of_le h1 e.t, h3, fun b' hb' => ?_⟩
    obtain ⟨b, hb, e1, e2⟩ := e.sub id g b' h1 hb'
    rw [(e.mu g h1).1, (e.mu g h1).2, ← e1, ← e2]
    exact h2 b hb
  | fn f caps =>
    obtain ⟨h1, h3, h2⟩ := h
    refine ⟨fun c hc => Nat.lt_of_lt_of_le (h1 c hc) e.t, h3, fun hl => ?_⟩
    have := h2 (fun c hc => by
      obtain ⟨b', hb'⟩ := Option.isSome_iff_exists.1 (hl c hc)
      obtain ⟨b, hb, _⟩ := e.sub c.1 c.2 b' (h1 c hc) hb'
      rw [hb]; rfl)
    rw [this]
    congr 2
    exact List.map_congr_left fun c hc => by rw [(e.mu c.2 (h1 c hc)).1]
  | nilf => exact h
  | emp => exact h

theorem VF.one {w : World} {I : Nat → Prop} {x : FV} {v : Value} (h : VF w I x v) : v.oneCell' = true := by
  cases h <;> rfl
theorem VC.one {w : World} {X : Cx} {H : Heap} {x : CV} {v : Value} (h : VC w X H x v) : v.oneCell' = true := by
  cases x with
  | f x => exact VF.one h
  | fp cs off => obtain ⟨b, o, rfl, _⟩ := h; rfl
  | nilp => cases h; rfl
  | ptr id g off => exact h.2.1
  | own id g off n lim => exact h.2.1
  | fn f caps => exact h.2.1
  | nilf => cases h; rfl
  | emp => obtain ⟨a, rfl⟩ := h; rfl

theorem VA.mono {w w' : World} {X X' : Cx} {H H' : Heap} (e : Ev w X H w' X' H') {x : AV} {v : Value} (h : VA w X H x v) : VA w' X' H' x v := by
  induction h with
  | c x v h => exact .c x v (h.mono e)
  | agg cs vs hs h => exact .agg cs vs hs fun j hj => let ⟨u, h1, h2⟩ := h j hj; ⟨u, h1, h2.mono e⟩
  | tup vs us h ih => exact .tup vs us ih
  | void => exact .void
  | any v => exact .any v

/-- Nothing that is there has turned. -/
structure Grow (w w' : World) : Prop where
  blk : ∀ b, b < w.heap.size → w'.heap[b]? = w.heap[b]?
  size : w.heap.size ≤ w'.heap.size
  os : w'.os = w.os
  tape : w'.tape = w.tape
  output : w'.output = w.output
theorem Grow.refl (w : World) : Grow w w := ⟨fun _ _ => rfl, Nat.le_refl _, rfl, rfl, rfl⟩
theorem Grow.trans {w w' w'' : World} (h : Grow w w') (k : Grow w' w'') : Grow w w'' :=
  ⟨fun b hb => (k.blk b (Nat.lt_of_lt_of_le hb h.size)).trans (h.blk b hb), Nat.le_trans h.size k.size, k.os.trans h.os, k.tape.trans h.tape, k.output.trans h.output⟩
theorem Grow.cell {w w' : World} (h : Grow w w') {a : Addr} {u : Value} (hc : w.cell? a = some u) : w'.cell? a = some u := by
  have hb : a.block < w.heap.size := World.block_lt_of_cell? w a hc
  simp only [World.cell?, h.blk _ hb] at hc ⊢
  exact hc
theorem Grow.ev {w w' : World} (h : Grow w w') {X : Cx} {H : Heap} (R : HRel w X H) : Ev w X H w' X H :=
  ⟨fun b hb => ⟨hb, h.blk b (R.imm b hb)⟩, Nat.le_refl _, fun _ _ => ⟨rfl, rfl⟩, h.size, h.os, h.tape, h.output, Sub.refl _ _, fun b hb _ => h.blk b hb, fun _ h => .inl h, fun _ h => .inl h⟩
theorem Grow.rel {w w' : World} (h : Grow w w') {X : Cx} {H : Heap} (R : HRel w X H) : HRel w' X H :=
  ⟨fun b hb => Nat.lt_of_lt_of_le (R.imm b hb) h.size, fun id b hb => by
    obtain ⟨h1, h2, cc, t, h3, h4, h5, h6⟩ := R.blk id b hb
    exact ⟨h1, h2, cc, t, by rw [h.blk _ (Array.getElem?_eq_some_iff.1 h3).1]; exact h3, h4, h5, fun j hj => let ⟨u, k1, k2⟩ := h6 j hj; ⟨u, k1, k2.mono (h.ev R)⟩⟩, R.inj⟩

structure St where
  s : List AV
  h : Heap

structure Rel (w : World) (X : Cx) (a : Act) (st : St) : Prop where
  defs : a.defers = []
  size : a.tmps.size = st.s.length
  slot : ∀ i (h : i < st.s.length), ∃ u, a.tmps[i]? = some u ∧ VA w X st.h st.s[i] u
  heap : HRel w X st.h

theorem Grow.st {w w' : World} (h : Grow w w') {X : Cx} {a : Act} {st : St} (R : Rel w X a st) : Rel w' X a st :=
  ⟨R.defs, R.size, fun i hi => let ⟨u, h1, h2⟩ := R.slot i hi; ⟨u, h1, h2.mono (h.ev R.heap)⟩, h.rel R.heap⟩

def RunC (P : Program) (c : Code) (st : St) (Q : Exit → St → Prop) : Prop :=
  ∀ w X a, Rel w X a st → c.wp P (fun e a' w' => ∃ X' st', Rel w' X' a' st' ∧ Ev w X st.h w' X' st'.h ∧ Q e st') a w

def VAs (w : World) (X : Cx) (H : Heap) (xs : List AV) (vs : Array Value) : Prop :=
  vs.size = xs.length ∧ ∀ i (h : i < xs.length), ∃ u, vs[i]? = some u ∧ VA w X H xs[i] u

def RunCall (P : Program) (f : FuncId) (args : List AV) (H : Heap) (Q : AV → Heap → Prop) : Prop :=
  ∀ w X vs, HRel w X H → VAs w X H args vs →
    Calls P f vs w fun e w' => ∃ v u X' H', e = .returned u ∧ VA w' X' H' v u ∧ HRel w' X' H' ∧ Ev w X H w' X' H' ∧ Q v H'

end Go.Lg

/- The operations that only compute or read, and that the machine's are as told. -/
set_option linter.unusedSimpArgs false
set_option linter.unusedVariables false
namespace Go.Lg

def cvOf : Value → Option CV
  | .int k n => some (.f (.int k n))
  | .bool b => some (.f (.bool b))
  | .string s => some (.f (.str s))
  | .slice none 0 0 => some (.f .nil)
  | .pointer none => some .nilp
  | .nilFunc => some .nilf
  | _ => none

def avOf (v : Value) : AV :=
  match v with
  | .agg cs => match cs.toList.mapM cvOf with
    | some l => .agg l
    | none => .any
  | v => match cvOf v with
    | some c => .c c
    | none => .any

theorem cvOf_sound {w : World} {X : Cx} {H : Heap} {v : Value} {x : CV} (h : cvOf v = some x) : VC w X H x v := by
  unfold cvOf at h
  split at h <;> simp at h <;> subst h
  · exact VF.int _ _
  · exact VF.bool _
  · exact VF.str _
  · exact VF.nil
  · exact rfl
  · exact rfl

theorem mapM_get {α β : Type} {f : α → Option β} : ∀ {l : List α} {r : List β}, l.mapM f = some r → r.length = l.length ∧ ∀ j (h : j < l.length), ∃ y, r[j]? = some y ∧ f l[j] = some y
  | [], r, h => by
    simp at h; subst h
    exact ⟨rfl, fun j h => absurd h (by simp)⟩
  | a :: l, r, h => by
    simp only [List.mapM_cons] at h
    cases hf : f a with
    | none => simp [hf] at h
    | some y =>
      cases hl : l.mapM f with
      | none => simp [hf, hl] at h
      | some r' =>
        simp [hf, hl] at h
        subst h
        obtain ⟨h1, h2⟩ := mapM_get hl
        refine ⟨by simp [h1], fun j hj => ?_⟩
        cases j with
        | zero => exact ⟨y, rfl, hf⟩
        | succ j => exact h2 j (by simpa using hj)

theorem avOf_sound {w : World} {X : Cx} {H : Heap} (v : Value) : VA w X H (avOf v) v := by
  unfold avOf
  split
  · rename_i cs
    split
    · rename_i l hl
      obtain ⟨h1, h2⟩ := mapM_get hl
      refine .agg _ _ (by simpa using h1.symm) fun j hj => ?_
      obtain ⟨y, h3, h4⟩ := h2 j (by omega)
      have : l[j] = y := by simpa [List.getElem?_eq_getElem hj] using h3
      rw [this]
      exact ⟨_, by simp at h1; simp [h1 ▸ hj], cvOf_sound h4⟩
    · exact .any _
  · split
    · rename_i c hc
      exact .c _ _ (cvOf_sound hc)
    · exact .any _

def evO (s : List AV) : Operand → AV
  | .tmp t => s.getD t .void
  | .const v => avOf v
  | .func f => .c (.fn f [])
  | .global _ => .any

theorem evO_sound {w : World} {X : Cx} {a : Act} {st : St} (R : Rel w X a st) (x : Operand) : VA w X st.h (evO st.s x) (a.eval x) := by
  cases x with
  | tmp t =>
    simp only [evO, Act.eval]
    by_cases h : t < st.s.length
    · obtain ⟨u, h1, h2⟩ := R.slot t h
      simp only [List.getD, List.getElem?_eq_getElem h, Option.getD_some]
      rw [Array.getD_eq_getD_getElem?, h1]
      exact h2
    · have hs := R.size
      rw [Array.getD_eq_getD_getElem?, Array.getElem?_eq_none (by rw [hs]; exact Nat.le_of_not_lt h)]
      simp only [List.getD, List.getElem?_eq_none (Nat.le_of_not_lt h), Option.getD_none]
      exact .void
  | const v => exact avOf_sound v
  | func f =>
    refine .c _ _ ⟨by simp, rfl, fun _ => by simp [Act.eval]⟩
  | «global» g => exact .any _

inductive TK where
  | int (k : IntKind) | bool | str | slice (e : TypeId) | struct (fs : List (TypeId × Nat)) | array (n : Nat) (e : TypeId) | ptr (e : TypeId) | func | other
  deriving Inhabited

def tkOf : TypeDesc → TK
  | .int k => .int k
  | .bool => .bool
  | .string => .str
  | .slice e => .slice e
  | .struct fs => .struct (fs.toList.map fun f => (f.type, f.offset))
  | .array n e => .array n e
  | .pointer e => .ptr e
  | .func .. => .func
  | _ => .other

structure TI where
  k : TK
  size : Nat
  bytes : Nat
  zero : List CV

def tinf (P : Program) (t : TypeId) : Option TI :=
  match P.info? t, P.underlying t with
  | some i, some d => match i.zero with
    | some z => (z.cells.toList.mapM cvOf).map fun l => ⟨tkOf d, i.size, i.bytes, l⟩
    | none => none
  | _, _ => none

theorem tinf_some {P : Program} {t : TypeId} {x : TI} (h : tinf P t = some x) : ∃ i d z, P.info? t = some i ∧ P.underlying t = some d ∧ i.zero = some z ∧
    z.cells.toList.mapM cvOf = some x.zero ∧ x.k = tkOf d ∧ x.size = i.size ∧ x.bytes = i.bytes := by
  unfold tinf at h
  split at h
  · rename_i i d hi hd
    split at h
    · rename_i z hz
      cases hm : z.cells.toList.mapM cvOf with
      | none => simp [hm] at h
      | some l =>
        simp [hm] at h
        subst h
        exact ⟨i, d, z, hi, hd, hz, hm, rfl, rfl, rfl⟩
    · cases h
  · cases h

theorem run_sizeOf' {P : Program} {t : TypeId} {x : TI} (h : tinf P t = some x) (w : World) : (sizeOf t).run P w = .ok x.size w := by
  obtain ⟨i, d, z, hi, hd, hz, hm, h1, h2, h3⟩ := tinf_some h
  simp [sizeOf, typeInfo, hi, h2]

/-- The machine carries the operation out where it stands, and yields v. -/
def Yields (P : Program) (op : Op) (a : Act) (w : World) (u : Value) : Prop :=
  ∀ o : Oper, o.op = op → (execOp a.eval o).run P w = .ok (.value u) w

section
variable {P : Program} {w : World} {X : Cx} {a : Act} {st : St}

theorem va_c {x : CV} {v : Value} {H : Heap} (h : VA w X H (.c x) v) : VC w X H x v := by cases h; assumption
theorem va_int {k : IntKind} {n : Int} {v : Value} {H : Heap} (h : VA w X H (.c (.f (.int k n))) v) : v = .int k n := by
  have h := va_c h; cases h; rfl
theorem va_bool {b : Bool} {v : Value} {H : Heap} (h : VA w X H (.c (.f (.bool b))) v) : v = .bool b := by
  have h := va_c h; cases h; rfl
theorem va_str {s : ByteArray} {v : Value} {H : Heap} (h : VA w X H (.c (.f (.str s))) v) : v = .string s := by
  have h := va_c h; cases h; rfl

theorem yields_move (x : Operand) : Yields P (.move x) a w (a.eval x) := by
  intro o ho; simp [execOp, ho]
theorem yields_assign (x : Operand) : Yields P (.assign x) a w (a.eval x) := by
  intro o ho; simp [execOp, ho]
theorem yields_pick {c x y : Operand} {t : Bool} (h : a.eval c = .bool t) : Yields P (.pick c x y) a w (if t then a.eval x else a.eval y) := by
  intro o ho; simp [execOp, ho, h, asBool]

end

/-! ### whole numbers, bools, strings -/
def bitsI (op : BinOp) (k : IntKind) (x y : Int) : Int :=
  let a := BitVec.ofInt k.bits x
  let b := BitVec.ofInt k.bits y
  k.wrap ((match op with | .and => a &&& b | .or => a ||| b | .xor => a ^^^ b | _ => a &&& ~~~b).toNat : Int)

def binI (op : BinOp) (k : IntKind) (a : Int) (k' : IntKind) (b : Int) : Option FV :=
  match op with
  | .shl => if b < 0 then none else some (.int k (k.wrap (a * 2 ^ min b.toNat k.bits)))
  | .shr => if b < 0 then none else some (.int k (a.fdiv (2 ^ min b.toNat k.bits)))
  | .add => if k = k' then some (.int k (k.wrap (a + b))) else none
  | .sub => if k = k' then some (.int k (k.wrap (a - b))) else none
  | .mul => if k = k' then some (.int k (k.wrap (a * b))) else none
  | .quo => if k = k' ∧ b ≠ 0 then some (.int k (k.wrap (a.tdiv b))) else none
  | .rem => if k = k' ∧ b ≠ 0 then some (.int k (a.tmod b)) else none
  | .and => if k = k' then some (.int k (bitsI .and k a b)) else none
  | .or => if k = k' then some (.int k (bitsI .or k a b)) else none
  | .xor => if k = k' then some (.int k (bitsI .xor k a b)) else none
  | .andNot => if k = k' then some (.int k (bitsI .andNot k a b)) else none
  | .eql => if k = k' then some (.bool (a == b)) else none
  | .neq => if k = k' then some (.bool (a != b)) else none
  | .lss => if k = k' then some (.bool (decide (a < b))) else none
  | .leq => if k = k' then some (.bool (decide (a ≤ b))) else none
  | .gtr => if k = k' then some (.bool (decide (a > b))) else none
  | .geq => if k = k' then some (.bool (decide (a ≥ b))) else none

/-- A plain value as the machine has it. -/
def scal : FV → Value
  | .int k n => .int k n
  | .bool b => .bool b
  | .str s => .string s
  | _ => undef
def isScal : FV → Bool
  | .int .. | .bool _ | .str _ => true
  | _ => false
theorem scal_sound {w : World} {I : Nat → Prop} {x : FV} (h : isScal x = true) : VF w I x (scal x) := by
  cases x <;> simp [isScal] at h
  · exact .int _ _
  · exact .bool _
  · exact .str _

theorem run_eqGuard_int (P : Program) (w : World) (op : BinOp) (t : TypeId) (x y : Operand) (k k' : IntKind) (a b : Int) : (eqGuard op t x y (.int k a) (.int k' b)).run P w = .ok () w := by
  unfold eqGuard
  split <;> simp

theorem binI_sound {P : Program} {w : World} {op : BinOp} {t : TypeId} {k k' : IntKind} {a b : Int} {r : FV} (h : binI op k a k' b = some r) :
    (binOp op t (.int k a) (.int k' b)).run P w = .ok (scal r) w ∧ isScal r = true := by
  cases op <;> simp only [binI] at h <;> split at h <;> simp only [Option.some.injEq, reduceCtorEq] at h <;> rename_i hc <;> subst h <;>
    first
      | (subst hc; exact ⟨by simp [binOp, Op.intArith, Op.intCmp, Op.intBits, bitsI, scal], rfl⟩)
      | (obtain ⟨hk, h0⟩ := hc; subst hk; exact ⟨by simp [binOp, Op.intDiv, h0, scal], rfl⟩)
      | exact ⟨by simp [binOp, Op.shift, hc, scal], rfl⟩
end Go.Lg

/- The operations that only compute or read, continued: each one's value, and that the machine yields it. -/
set_option linter.unusedSimpArgs false
set_option linter.unusedVariables false
namespace Go.Lg

theorem add_plain (b o j : Nat) : (⟨b, o, none⟩ : Addr).add j = ⟨b, o + j, none⟩ := by unfold Addr.add; split <;> simp_all

/-- The cells behind a pointer. -/
def cellsAt (H : Heap) : CV → Nat → Option (List CV)
  | .fp cs off, n => if off + n ≤ cs.length then some (((cs.drop off).take n).map .f) else none
  | .ptr id g off, n => match look H id g with
    | some b => if off + n ≤ b.cs.length then some ((b.cs.drop off).take n) else none
    | none => none
  | _, _ => none

theorem cellsAt_sound {w : World} {X : Cx} {H : Heap} (R : HRel w X H) {p : CV} {n : Nat} {l : List CV} {v : Value} (h : cellsAt H p n = some l) (hv : VC w X H p v) :
    ∃ b o, v = .pointer (some ⟨b, o, none⟩) ∧ l.length = n ∧ ∀ j (h : j < l.length), ∃ u, w.cell? ⟨b, o + j, none⟩ = some u ∧ VC w X H l[j] u := by
  cases p with
  | fp cs off =>
    obtain ⟨b, o, rfl, hI, hc⟩ := hv
    simp only [cellsAt] at h
    split at h
    · rename_i hl
      cases h
      refine ⟨b, o + off, rfl, by simp; omega, fun j hj => ?_⟩
      have hj' : off + j < cs.length := by simp at hj; omega
      obtain ⟨u, h1, h2⟩ := hc (off + j) hj'
      refine ⟨u, by rw [Nat.add_assoc]; exact h1, ?_⟩
      simp only [List.getElem_map, List.getElem_take, List.getElem_drop]
      exact h2
    · cases h
  | ptr id g off =>
    simp only [cellsAt] at h
    cases hl : look H id g with
    | none => simp [hl] at h
    | some b =>
      simp only [hl] at h
      split at h
      · rename_i hlen
        cases h
        obtain ⟨hid, hg⟩ := look_some hl
        obtain ⟨h1, h2, cc, t, h3, h4, h5, h6⟩ := R.blk id b hid
        have hv' := hv.2.2 (by rw [hl]; rfl)
        refine ⟨X.mu g, off, hv', by simp; omega, fun j hj => ?_⟩
        have hj' : off + j < b.cs.length := by simp at hj; omega
        obtain ⟨u, h7, h8⟩ := h6 (off + j) hj'
        refine ⟨u, ?_, by simpa using h8⟩
        subst hg
        simp [World.cell?, h3, h7]
      · cases h
  | _ => simp [cellsAt] at h

def isAggK : TK → Bool
  | .struct _ | .array .. => true
  | _ => false

theorem run_isAgg {P : Program} {t : TypeId} {x : TI} (h : tinf P t = some x) (w : World) : (isAgg t).run P w = .ok (isAggK x.k) w := by
  obtain ⟨i, d, z, hi, hd, hz, hm, h1, h2, h3⟩ := tinf_some h
  simp only [isAgg, Sem.run_bind, run_underlying hd, Result.andThen_ok, h1]
  cases d <;> rfl

def loadV (P : Program) (H : Heap) (t : TypeId) (p : AV) : Option AV :=
  match p, tinf P t with
  | .c p, some i => match isAggK i.k with
    | true => (cellsAt H p i.size).map .agg
    | false => match cellsAt H p 1 with
      | some [c] => some (.c c)
      | _ => none
  | _, _ => none

theorem va_agg_of {w : World} {X : Cx} {H : Heap} {l : List CV} {f : Nat → Value} (h : ∀ j (h : j < l.length), VC w X H l[j] (f j)) : VA w X H (.agg l) (.agg ((List.range l.length).map f).toArray) :=
  .agg _ _ (by simp) fun j hj => ⟨f j, by simp [hj], h j hj⟩

theorem loadV_sound {P : Program} {w : World} {X : Cx} {H : Heap} (R : HRel w X H) {t : TypeId} {p v : AV} {pv : Value} (h : loadV P H t p = some v) (hp : VA w X H p pv) :
    ∃ u, (∀ w', Grow w w' → (Instr.loadAt t pv).run P w' = .ok u w') ∧ VA w X H v u := by
  unfold loadV at h
  split at h
  · rename_i p' i hi
    have hp' := va_c hp
    split at h
    · rename_i hk
      cases hc : cellsAt H p' i.size with
      | none => simp [hc] at h
      | some l =>
        simp [hc] at h
        subst h
        obtain ⟨b, o, rfl, hl, hcs⟩ := cellsAt_sound R hc hp'
        have hx : ∀ j, ∃ u, j < l.length → (w.cell? ⟨b, o + j, none⟩ = some u ∧ ∀ h : j < l.length, VC w X H l[j] u) := fun j => by
          by_cases hj : j < l.length
          · obtain ⟨u, h1, h2⟩ := hcs j hj
            exact ⟨u, fun _ => ⟨h1, fun _ => h2⟩⟩
          · exact ⟨undef, fun h => absurd h hj⟩
        have hf := fun j => (hx j).choose_spec
        refine ⟨_, fun w' hg => ?_, va_agg_of (f := fun j => (hx j).choose) fun j hj => (hf j hj).2 hj⟩
        have hrun := run_loadCells (P := P) w' ⟨b, o, none⟩ l.length (fun j => (hx j).choose) (fun j hj => by rw [add_plain]; exact hg.cell (hf j hj).1)
        simp only [Instr.loadAt, Instr.sureAddr, Sem.run_bind, Sem.run_pure, Result.andThen_ok, loadVar, run_isAgg hi, hk, if_true, run_sizeOf' hi]
        rw [← hl, hrun]
        rfl
    · rename_i hk
      split at h
      · rename_i c hc
        cases h
        obtain ⟨b, o, rfl, hl, hcs⟩ := cellsAt_sound R hc hp'
        obtain ⟨u, h1, h2⟩ := hcs 0 (by simp)
        refine ⟨u, fun w' hg => ?_, .c _ _ h2⟩
        simp only [Instr.loadAt, Instr.sureAddr, Sem.run_bind, Sem.run_pure, Result.andThen_ok, loadVar, run_isAgg hi, hk, Bool.false_eq_true, if_false, run_load]
        simp only [Nat.add_zero] at h1
        rw [hg.cell h1]
      · cases h
  · cases h

/-- A pointer moved on. -/
def moved (H : Heap) : CV → Nat → Option CV
  | .fp cs off, n => some (.fp cs (off + n))
  | .ptr id g off, n => if (look H id g).isSome then some (.ptr id g (off + n)) else none
  | _, _ => none
theorem moved_sound {w : World} {X : Cx} {H : Heap} {p q : CV} {n : Nat} {v : Value} (h : moved H p n = some q) (hv : VC w X H p v) :
    ∃ b o, v = .pointer (some ⟨b, o, none⟩) ∧ VC w X H q (.pointer (some ⟨b, o + n, none⟩)) := by
  cases p with
  | fp cs off =>
    cases h
    obtain ⟨b, o, rfl, hI, hc⟩ := hv
    exact ⟨b, o + off, rfl, b, o, by rw [Nat.add_assoc], hI, hc⟩
  | ptr id g off =>
    simp only [moved] at h
    split at h
    · rename_i hl
      cases h
      have := hv.2.2 hl
      exact ⟨X.mu g, off, this, hv.1, rfl, fun _ => rfl⟩
    · cases h
  | _ => simp [moved] at h

def fieldV (P : Program) (H : Heap) (s : TypeId) (p : AV) (f : Nat) : Option AV :=
  match p, tinf P s with
  | .c p, some ⟨.struct fs, _, _, _⟩ => match fs[f]? with
    | some (ft, off) => match tinf P ft with
      | some i => if i.size = 0 then none else (moved H p off).map .c
      | none => none
    | none => none
  | _, _ => none
theorem fieldV_sound {P : Program} {w : World} {X : Cx} {H : Heap} {s : TypeId} {p v : AV} {f : Nat} {pv : Value} (h : fieldV P H s p f = some v) (hp : VA w X H p pv) :
    ∃ u, (∀ w', Grow w w' → (Instr.fieldAt s pv f).run P w' = .ok u w') ∧ VA w X H v u := by
  unfold fieldV at h
  split at h
  · rename_i p' fs sz by_ z hi
    split at h
    · rename_i ft off hf
      split at h
      · rename_i i hft
        split at h
        · cases h
        · rename_i hsz
          cases hm : moved H p' off with
          | none => simp [hm] at h
          | some q =>
            simp [hm] at h
            subst h
            obtain ⟨b, o, rfl, hq⟩ := moved_sound hm (va_c hp)
            obtain ⟨inf, d, z', h1, h2, h3, h4, h5, h6, h7⟩ := tinf_some hi
            cases d <;> simp [tkOf] at h5
            rename_i fields
            subst h5
            simp at hf
            obtain ⟨fl, hf1, hf2, hf3⟩ := hf
            subst hf2 hf3
            refine ⟨_, fun w' _ => ?_, .c _ _ hq⟩
            simp only [Instr.fieldAt, Sem.run_bind, run_underlying h2, Result.andThen_ok]
            simp only [hf1, Instr.sureAddr, Sem.run_bind, Sem.run_pure, Result.andThen_ok, fieldPlace, run_sizeOf' hft, if_neg hsz, add_plain]
      · cases h
    · cases h
  · cases h

/-- The address of an element. -/
def elemV (P : Program) (H : Heap) (t : TypeId) (x ix : AV) : Option AV :=
  match ix, tinf P t with
  | .c (.f (.int _ i)), some ti =>
    match ti.k, x with
    | .slice e, .c (.f (.sl n cs)) => match tinf P e with
      | some ei => if 0 ≤ i ∧ i < n then some (.c (.fp cs (i.toNat * ei.size))) else none
      | none => none
    | .slice e, .c (.own id g off n _) => match tinf P e, look H id g with
      | some ei, some _ => if 0 ≤ i ∧ i < n then some (.c (.ptr id g (off + i.toNat * ei.size))) else none
      | _, _ => none
    | .array n e, .c p => match tinf P e with
      | some ei => if 0 ≤ i ∧ i < n then (moved H p (i.toNat * ei.size)).map .c else none
      | none => none
    | _, _ => none
  | _, _ => none

theorem tk_slice {d : TypeDesc} {e : TypeId} (h : tkOf d = .slice e) : d = .slice e := by cases d <;> simp [tkOf] at h; subst h; rfl
theorem tk_array {d : TypeDesc} {n : Nat} {e : TypeId} (h : tkOf d = .array n e) : d = .array n e := by cases d <;> simp [tkOf] at h; obtain ⟨rfl, rfl⟩ := h; rfl
theorem tk_int {d : TypeDesc} {k : IntKind} (h : tkOf d = .int k) : d = .int k := by cases d <;> simp [tkOf] at h; subst h; rfl
theorem tk_str {d : TypeDesc} (h : tkOf d = .str) : d = .string := by cases d <;> simp [tkOf] at h; rfl
theorem tk_bool {d : TypeDesc} (h : tkOf d = .bool) : d = .bool := by cases d <;> simp [tkOf] at h; rfl

theorem run_indexAt_slice {P : Program} {w : World} {t e : TypeId} {ei : TI} {k : IntKind} {i : Int} {a : Addr} {n c : Nat} (hu : P.underlying t = some (.slice e)) (he : tinf P e = some ei) (h : 0 ≤ i ∧ i < n) :
    (Instr.indexAt t (.slice (some a) n c) (.int k i)).run P w = .ok (.pointer (some (a.add (i.toNat * ei.size)))) w := by
  simp [Instr.indexAt, asIntOf, run_underlying hu, run_sizeOf' he, h]

theorem run_indexAt_array {P : Program} {w : World} {t e : TypeId} {ei : TI} {k : IntKind} {i : Int} {a : Addr} {n : Nat} (hu : P.underlying t = some (.array n e)) (he : tinf P e = some ei) (h : 0 ≤ i ∧ i < n) :
    (Instr.indexAt t (.pointer (some a)) (.int k i)).run P w = .ok (.pointer (some (a.add (i.toNat * ei.size)))) w := by
  simp [Instr.indexAt, asIntOf, run_underlying hu, run_sizeOf' he, h, Instr.sureAddr]

theorem elemV_sound {P : Program} {w : World} {X : Cx} {H : Heap} {t : TypeId} {x ix v : AV} {xv iv : Value} (h : elemV P H t x ix = some v) (hx : VA w X H x xv) (hi : VA w X H ix iv) :
    ∃ u, (∀ w', Grow w w' → (Instr.indexAt t xv iv).run P w' = .ok u w') ∧ VA w X H v u := by
  unfold elemV at h
  split at h
  · rename_i k i ti hti
    cases va_int hi
    obtain ⟨inf, d, z', h1, h2, h3, h4, h5, h6, h7⟩ := tinf_some hti
    split at h
    · rename_i e n cs hk
      rw [h5] at hk
      cases tk_slice hk
      split at h
      · rename_i ei hei
        split at h
        · rename_i hb
          cases h
          have := va_c hx
          cases this with
          | sl0 a cap => exact absurd hb (by omega)
          | sl n cs b o cap u hc hI hu hv =>
            refine ⟨_, fun w' _ => run_indexAt_slice h2 hei hb, .c _ _ ⟨b, o, by rw [add_plain], hI, fun j hj => ⟨u j, hu j hj, hv j hj⟩⟩⟩
        · cases h
      · cases h
    · rename_i e id g off n lim hk
      rw [h5] at hk
      cases tk_slice hk
      split at h
      · rename_i ei b hei hl
        split at h
        · rename_i hb
          cases h
          obtain ⟨hg, h1, hlook⟩ := va_c hx
          obtain ⟨hn, a, cap, rfl, hc, ha, _⟩ := hlook b hl
          have := ha (by omega)
          subst this
          exact ⟨_, fun w' _ => run_indexAt_slice h2 hei hb, .c _ _ ⟨hg, rfl, fun _ => by rw [add_plain]⟩⟩
        · cases h
      · cases h
    · rename_i n e p hk
      rw [h5] at hk
      cases tk_array hk
      split at h
      · rename_i ei hei
        split at h
        · rename_i hb
          cases hm : moved H p (i.toNat * ei.size) with
          | none => simp [hm] at h
          | some q =>
            simp [hm] at h
            subst h
            obtain ⟨b, o, rfl, hq⟩ := moved_sound hm (va_c hx)
            exact ⟨_, fun w' _ => run_indexAt_array h2 hei hb, .c _ _ (by rw [add_plain]; exact hq)⟩
        · cases h
      · cases h
    · cases h
  · cases h

/-- A byte of a string. -/
def byteAt (s : ByteArray) (i : Nat) : Int := ((s.data.toList.getD i 0).toNat : Int)

def indexV (P : Program) (t : TypeId) (x ix : AV) : Option AV :=
  match ix, x, tinf P t with
  | .c (.f (.int _ i)), .c (.f (.str s)), some ti => match ti.k with
    | .str => if 0 ≤ i ∧ i < s.size then some (.c (.f (.int .u8 (byteAt s i.toNat)))) else none
    | _ => none
  | .c (.f (.int _ i)), .agg cs, some ti => match ti.k with
    | .array n e => match tinf P e with
      | some ei => if 0 ≤ i ∧ i < n ∧ isAggK ei.k = false then (cs[i.toNat * ei.size]?).map .c else none
      | none => none
    | _ => none
  | _, _, _ => none

theorem run_part {P : Program} {w : World} {e : TypeId} {ei : TI} (he : tinf P e = some ei) (hk : isAggK ei.k = false) {cs : Array Value} {off : Nat} {u : Value} (h : cs[off]? = some u) : (part e cs off).run P w = .ok u w := by
  simp only [part, Sem.run_bind, run_isAgg he, hk, Result.andThen_ok, Bool.false_eq_true, if_false, h, Sem.run_pure]

theorem indexV_sound {P : Program} {w : World} {X : Cx} {H : Heap} {t : TypeId} {x ix v : AV} {xv iv : Value} (h : indexV P t x ix = some v) (hx : VA w X H x xv) (hi : VA w X H ix iv) :
    ∃ u, (∀ w', Grow w w' → (Instr.index t xv iv).run P w' = .ok u w') ∧ VA w X H v u := by
  unfold indexV at h
  split at h
  · rename_i k i s ti hti
    cases va_int hi
    cases va_str hx
    obtain ⟨inf, d, z', h1, h2, h3, h4, h5, h6, h7⟩ := tinf_some hti
    split at h
    · rename_i hk
      rw [h5] at hk
      cases tk_str hk
      split at h
      · rename_i hb
        cases h
        have hlt : i.toNat < s.size := by omega
        refine ⟨.int .u8 (byteAt s i.toNat), fun w' _ => ?_, .c _ _ (VF.int _ _)⟩
        have e : s[i.toNat]? = some (s[i.toNat]'hlt) := by simp [hlt]
        have e2 : byteAt s i.toNat = ((s[i.toNat]'hlt).toNat : Int) := by
          have hl : i.toNat < s.data.toList.length := by simpa using hlt
          simp only [byteAt, List.getD, List.getElem?_eq_getElem hl, Option.getD_some]
          rfl
        simp only [Instr.index, asIntOf, Sem.run_bind, Sem.run_pure, Result.andThen_ok, run_underlying h2, if_pos hb.1, e, e2]
      · cases h
    · cases h
  · rename_i k i cs ti hti
    cases va_int hi
    obtain ⟨inf, d, z', h1, h2, h3, h4, h5, h6, h7⟩ := tinf_some hti
    split at h
    · rename_i n e hk
      rw [h5] at hk
      cases tk_array hk
      split at h
      · rename_i ei hei
        split at h
        · rename_i hb
          cases hx with
          | agg cs vs hs hcs =>
            cases hc : cs[i.toNat * ei.size]? with
            | none => simp [hc] at h
            | some c =>
              simp [hc] at h
              subst h
              obtain ⟨hlt, he⟩ := List.getElem?_eq_some_iff.1 hc
              obtain ⟨u, h8, h9⟩ := hcs _ hlt
              rw [he] at h9
              refine ⟨u, fun w' _ => ?_, .c _ _ h9⟩
              simp only [Instr.index, asIntOf, Sem.run_bind, Sem.run_pure, Result.andThen_ok, run_underlying h2, Sem.run_ite, if_pos (And.intro hb.1 hb.2.1), run_sizeOf' hei, run_part hei hb.2.2 h8]
        · cases h
      · cases h
    · cases h
  · cases h
end Go.Lg

/- Cuts, lengths, fields, tests, conversions. -/
set_option linter.unusedSimpArgs false
set_option linter.unusedVariables false
namespace Go.Lg

/-- A bound of a cut: absent, or a number. -/
def bound (s : List AV) : Option Operand → Option (Option Nat)
  | none => some none
  | some x => match evO s x with
    | .c (.f (.int _ i)) => if 0 ≤ i then some (some i.toNat) else none
    | _ => none

def sliceV (P : Program) (H : Heap) (t : TypeId) (x : AV) (lo hi mx : Option Nat) : Option AV :=
  match tinf P t, x with
  | some ti, .c (.f (.str s)) => match ti.k, mx with
    | .str, none => if lo.getD 0 ≤ hi.getD s.size ∧ hi.getD s.size ≤ s.size then some (.c (.f (.str (s.extract (lo.getD 0) (hi.getD s.size))))) else none
    | _, _ => none
  | some ti, .c (.f (.sl n cs)) => match ti.k with
    | .slice e => match tinf P e with
      | some ei =>
        let l := lo.getD 0
        let h := hi.getD n
        if l ≤ h ∧ h ≤ mx.getD h ∧ mx.getD h ≤ n ∧ (mx.isSome → hi.isSome) then (if mx = some l then some (.c .emp) else some (.c (.f (.sl (h - l) ((cs.drop (l * ei.size)).take ((h - l) * ei.size)))))) else none
      | none => none
    | _ => none
  | some ti, .c (.f .nil) => match ti.k with
    | .slice e => match tinf P e with
      | some _ => if lo.getD 0 = 0 ∧ hi.getD 0 = 0 ∧ mx.getD 0 = 0 ∧ (mx.isSome → hi.isSome) then some (.c (.f .nil)) else none
      | none => none
    | _ => none
  | some ti, .c (.own id g off n lim) => match ti.k with
    | .slice e => match tinf P e, look H id g with
      | some ei, some b =>
        let l := lo.getD 0
        let h := hi.getD n
        let m := mx.getD h
        if l ≤ h ∧ h ≤ m ∧ off + m * b.sz ≤ b.cs.length ∧ (mx.isSome → hi.isSome) ∧ b.sz = ei.size ∧ 0 < b.sz ∧ m ≤ lim.getD m then
          some (.c (.own id g (off + l * b.sz) (h - l) (match mx, lim with | some m, _ => some (m - l) | none, some c => some (c - l) | none, none => none)))
        else none
      | _, _ => none
    | _ => none
  | _, _ => none

def numV (s : List AV) : Option Operand → Option Value
  | none => none
  | some x => match evO s x with
    | .c (.f (.int k i)) => some (.int k i)
    | _ => none

/-- What the machine has for a bound. -/
theorem bound_sound {w : World} {X : Cx} {a : Act} {st : St} (R : Rel w X a st) {x : Option Operand} {r : Option Nat} (h : bound st.s x = some r) :
    (x = none ∧ r = none) ∨ ∃ y k i, x = some y ∧ a.eval y = .int k i ∧ 0 ≤ i ∧ r = some i.toNat := by
  cases x with
  | none => simp [bound] at h; exact .inl ⟨rfl, h.symm⟩
  | some y =>
    simp only [bound] at h
    split at h
    · rename_i k i hy
      split at h
      · rename_i h0
        cases h
        have := evO_sound R y
        rw [hy] at this
        exact .inr ⟨y, k, i, rfl, va_int this, h0, rfl⟩
      · cases h
    · cases h

theorem run_sliceBound {P : Program} {w : World} {k : IntKind} {i : Int} {y : Nat} {code : BoundsCode} (h0 : 0 ≤ i) (h : i.toNat ≤ y) : (Instr.sliceBound (.int k i) y code).run P w = .ok i.toNat w := by
  have : 0 ≤ i ∧ i ≤ y := ⟨h0, by omega⟩
  simp [Instr.sliceBound, asIntOf, this]

theorem run_sliceBounds {P : Program} {w : World} {X : Cx} {a : Act} {st : St} (R : Rel w X a st) {isS : Bool} {n c : Nat} {lo hi mx : Option Operand} {l h m : Option Nat} (hl : bound st.s lo = some l) (hh : bound st.s hi = some h) (hm : bound st.s mx = some m)
    (h1 : l.getD 0 ≤ h.getD n) (h2 : h.getD n ≤ m.getD c) (h3 : m.getD c ≤ c) (h4 : m.isSome → h.isSome) :
    ∀ w', (Instr.sliceBounds isS n c (lo.map a.eval) (hi.map a.eval) (mx.map a.eval)).run P w' = .ok (l.getD 0, h.getD n, m.getD c) w' := by
  intro w'
  rcases bound_sound R hl with ⟨rfl, rfl⟩ | ⟨yl, kl, il, rfl, el, pl, rfl⟩ <;> rcases bound_sound R hh with ⟨rfl, rfl⟩ | ⟨yh, kh, ih, rfl, eh, ph, rfl⟩ <;>
    rcases bound_sound R hm with ⟨rfl, rfl⟩ | ⟨ym, km, im, rfl, em, pm, rfl⟩ <;>
    simp only [Option.getD_some, Option.getD_none, Option.map_some, Option.map_none] at * <;>
    first
      | (simp at h4; done)
      | (simp only [Instr.sliceBounds, *]
         first
           | rfl
           | (simp only [Sem.run_bind, Sem.run_pure, Result.andThen_ok, Option.isSome_some, Option.isSome_none, if_true, Bool.false_eq_true, if_false]
              (repeat rw [run_sliceBound (by assumption) (by omega), Result.andThen_ok])
              try (first | rfl | (simp only [Result.andThen_ok, Sem.run_pure, Sem.run_bind]; (repeat rw [run_sliceBound (by assumption) (by omega), Result.andThen_ok]); try rfl))))

theorem run_slice_gen {P : Program} {w : World} {t e : TypeId} {ei : TI} {a : Option Addr} {n c l h m : Nat} {lo hi mx : Option Value} (hu : P.underlying t = some (.slice e)) (he : tinf P e = some ei)
    (hb : (Instr.sliceBounds true n c lo hi mx).run P w = .ok (l, h, m) w) :
    (Instr.sliceAt t (.slice a n c) lo hi mx).run P w = .ok (.slice (if m = l then a else a.map (·.add (l * ei.size))) (h - l) (m - l)) w := by
  simp [Instr.sliceAt, Instr.slice, run_underlying hu, hb, run_sizeOf' he]

theorem run_slice_str {P : Program} {w : World} {t : TypeId} {s : ByteArray} {l h m : Nat} {lo hi : Option Value} (hu : P.underlying t = some .string)
    (hb : (Instr.sliceBounds false s.size s.size lo hi none).run P w = .ok (l, h, m) w) :
    (Instr.sliceAt t (.string s) lo hi none).run P w = .ok (.string (s.extract l h)) w := by
  simp [Instr.sliceAt, Instr.slice, run_underlying hu, hb]

theorem sliceV_sound {P : Program} {w : World} {X : Cx} {a : Act} {st : St} (R : Rel w X a st) {t : TypeId} {x : AV} {xv : Value} {lo hi mx : Option Operand} {l h m : Option Nat} {v : AV}
    (hl : bound st.s lo = some l) (hh : bound st.s hi = some h) (hm : bound st.s mx = some m) (hx : VA w X st.h x xv) (hv : sliceV P st.h t x l h m = some v) :
    ∃ u, (∀ w', Grow w w' → (Instr.sliceAt t xv (lo.map a.eval) (hi.map a.eval) (mx.map a.eval)).run P w' = .ok u w') ∧ VA w X st.h v u := by
  unfold sliceV at hv
  split at hv
  · rename_i ti s hti
    cases va_str hx
    obtain ⟨inf, d, z', h1, h2, h3, h4, h5, h6, h7⟩ := tinf_some hti
    split at hv
    · rename_i hk
      rw [h5] at hk
      cases tk_str hk
      split at hv
      · rename_i hb
        cases hv
        have hmx : mx = none := by
          rcases bound_sound R hm with ⟨rfl, _⟩ | ⟨_, _, _, _, _, _, h⟩
          · rfl
          · cases h
        subst hmx
        exact ⟨_, fun w' _ => run_slice_str h2 (run_sliceBounds R hl hh hm hb.1 (by simpa using hb.2) (by simp) (by simp) w'), .c _ _ (VF.str _)⟩
      · cases hv
    · cases hv
  · rename_i ti n cs hti
    obtain ⟨inf, d, z', h1, h2, h3, h4, h5, h6, h7⟩ := tinf_some hti
    split at hv
    · rename_i e hk
      rw [h5] at hk
      cases tk_slice hk
      split at hv
      · rename_i ei hei
        simp only at hv
        split at hv
        · rename_i hb
          obtain ⟨b1, b2, b3, b4⟩ := hb
          have hd : ∀ c, n ≤ c → h.getD n ≤ m.getD c ∧ m.getD c ≤ c := fun c hc => by
            cases m with
            | none => simp at b2 b3 ⊢; omega
            | some m => simp at b2 b3 ⊢; omega
          have hx' := va_c hx
          split at hv
          · rename_i hml
            cases hv
            subst hml
            have hhl : h.getD n = l.getD 0 := by simp at b2; omega
            have : ∃ a c, xv = .slice a n c ∧ n ≤ c := by
              cases hx' with
              | sl0 a0 cap => exact ⟨_, _, rfl, Nat.zero_le _⟩
              | sl n cs b o cap u hc hI hu hvs => exact ⟨_, _, rfl, hc⟩
            obtain ⟨a0, cap, rfl, hcap⟩ := this
            obtain ⟨d1, d2⟩ := hd cap hcap
            refine ⟨_, fun w' _ => run_slice_gen h2 hei (run_sliceBounds R hl hh hm b1 d1 d2 b4 w'), .c _ _ ?_⟩
            simp only [Option.getD_some, hhl, Nat.sub_self, if_true]
            exact ⟨_, rfl⟩
          cases hv
          cases hx' with
          | sl0 a0 cap =>
            obtain ⟨d1, d2⟩ := hd cap (Nat.zero_le _)
            refine ⟨_, fun w' _ => run_slice_gen h2 hei (run_sliceBounds R hl hh hm b1 d1 d2 b4 w'), .c _ _ ?_⟩
            have e0 : h.getD 0 - l.getD 0 = 0 := by
              have : h.getD 0 ≤ 0 := by
                cases m with
                | none => simpa using b3
                | some m => simp at b2 b3; omega
              omega
            rw [e0]
            simp only [Nat.zero_mul, List.drop_nil, List.take_nil]
            exact VF.sl0 _ _
          | sl n cs b o cap u hc hI hu hvs =>
            obtain ⟨d1, d2⟩ := hd cap hc
            refine ⟨_, fun w' _ => run_slice_gen h2 hei (run_sliceBounds R hl hh hm b1 d1 d2 b4 w'), .c _ _ ?_⟩
            by_cases e0 : h.getD n - l.getD 0 = 0
            · rw [e0]
              simp only [Nat.zero_mul, List.take_zero]
              exact VF.sl0 _ _
            · rw [if_neg (by omega)]
              simp only [Option.map_some, add_plain]
              refine VF.sl _ _ _ _ _ (fun j => u (l.getD 0 * ei.size + j)) (by omega) hI (fun j hj => ?_) (fun j hj => ?_)
              · simp only [List.length_take, List.length_drop] at hj
                rw [Nat.add_assoc]
                exact hu _ (by omega)
              · simp only [List.length_take, List.length_drop] at hj
                simp only [List.getElem_take, List.getElem_drop]
                exact hvs _ (by omega)
        · cases hv
      · cases hv
    · cases hv
  · rename_i ti hti
    obtain ⟨inf, d, z', h1, h2, h3, h4, h5, h6, h7⟩ := tinf_some hti
    split at hv
    · rename_i e hk
      rw [h5] at hk
      cases tk_slice hk
      split at hv
      · rename_i ei hei
        split at hv
        · rename_i hb
          cases hv
          obtain ⟨b1, b2, b3, b4⟩ := hb
          have hx' := va_c hx
          cases hx' with
          | nil =>
            refine ⟨_, fun w' _ => run_slice_gen h2 hei (run_sliceBounds R hl hh hm (by omega) (by omega) (by omega) b4 w'), .c _ _ ?_⟩
            rw [b1, b2, b3]
            exact VF.nil
        · cases hv
      · cases hv
    · cases hv
  · rename_i ti id g off n lim hti
    obtain ⟨inf, d, z', h1, h2, h3, h4, h5, h6, h7⟩ := tinf_some hti
    split at hv
    · rename_i e hk
      rw [h5] at hk
      cases tk_slice hk
      split at hv
      · rename_i ei b hei hlk
        simp only at hv
        split at hv
        · rename_i hb
          cases hv
          obtain ⟨b1, b2, b3, b4, b5, b6, b7⟩ := hb
          obtain ⟨hg, ho, hall⟩ := va_c hx
          obtain ⟨c1, a0, cap, rfl, c2, c3, c4, c5⟩ := hall b hlk
          have hcap : m.getD (h.getD n) ≤ cap := by
            cases lim with
            | none =>
              simp only at c5
              have : m.getD (h.getD n) * b.sz ≤ cap * b.sz := by omega
              exact Nat.le_of_mul_le_mul_right this b6
            | some c =>
              simp only at c5
              simp at b7
              omega
          have d1 : h.getD n ≤ m.getD cap ∧ m.getD cap ≤ cap := by
            cases m with
            | none => simp at b2 hcap ⊢; omega
            | some m => simp at b2 hcap ⊢; omega
          refine ⟨_, fun w' _ => run_slice_gen h2 hei (run_sliceBounds R hl hh hm b1 d1.1 d1.2 b4 w'), .c _ _ ⟨hg, rfl, fun blk hblk => ?_⟩⟩
          rw [hlk] at hblk
          cases hblk
          have hcm : l.getD 0 ≤ m.getD cap := by omega
          have hsz : (h.getD n - l.getD 0) * b.sz + l.getD 0 * b.sz = h.getD n * b.sz := by rw [← Nat.add_mul]; congr 1; omega
          have hle : h.getD n * b.sz ≤ m.getD (h.getD n) * b.sz := Nat.mul_le_mul_right _ b2
          have hsz2 : (m.getD cap - l.getD 0) * b.sz + l.getD 0 * b.sz = m.getD cap * b.sz := by rw [← Nat.add_mul]; congr 1; omega
          have hle2 : m.getD cap * b.sz ≤ cap * b.sz := Nat.mul_le_mul_right _ d1.2
          refine ⟨by omega, ?_⟩
          by_cases e0 : m.getD cap = l.getD 0
          · rw [if_pos e0]
            refine ⟨_, _, rfl, by omega, fun hne => absurd (by omega) hne, by omega, ?_⟩
            cases m with
            | some m => simp only; simp
            | none =>
              cases lim with
              | none => simp only at c5 ⊢; simp at hsz2 ⊢; omega
              | some c => simp only at c5 ⊢; simp; omega
          · rw [if_neg e0]
            refine ⟨_, _, rfl, by omega, fun _ => ?_, by omega, ?_⟩
            · rw [c3 (by omega)]
              show Addr.add _ _ = _
              rw [add_plain, b5]
            · cases m with
              | some m => simp only; simp
              | none =>
                cases lim with
                | none => simp only at c5 ⊢; simp at hsz2 ⊢; omega
                | some c => simp only at c5 ⊢; simp; omega
        · cases hv
      · cases hv
    · cases hv
  · cases hv
end Go.Lg

/- The rest of the operations that only compute or read; all of them as one function. -/
set_option linter.unusedSimpArgs false
set_option linter.unusedVariables false
namespace Go.Lg

/-- The length of a slice of the call's own. -/
def lenO (P : Program) (H : Heap) (t : TypeId) (x : AV) : Option AV :=
  match tinf P t, x with
  | some ti, .c (.f (.str s)) => match ti.k with | .str => some (.c (.f (.int .i64 s.size))) | _ => none
  | some ti, .c (.f (.sl n _)) => match ti.k with | .slice _ => some (.c (.f (.int .i64 n))) | _ => none
  | some ti, .c (.f .nil) => match ti.k with | .slice _ => some (.c (.f (.int .i64 0))) | _ => none
  | some ti, .c .emp => match ti.k with | .slice _ => some (.c (.f (.int .i64 0))) | _ => none
  | some ti, .c (.own id g _ n _) => match ti.k with | .slice _ => if (look H id g).isSome then some (.c (.f (.int .i64 n))) else none | _ => none
  | _, _ => none

theorem lenO_sound {P : Program} {w : World} {X : Cx} {H : Heap} {t ty : TypeId} {x v : AV} {xv : Value} (h : lenO P H t x = some v) (hx : VA w X H x xv) :
    ∃ u, (∀ w', Grow w w' → (Builtin.len_ #[t] ty #[xv]).run P w' = .ok u w') ∧ VA w X H v u := by
  unfold lenO at h
  split at h
  · rename_i ti s hti
    cases va_str hx
    obtain ⟨inf, d, z', h1, h2, h3, h4, h5, h6, h7⟩ := tinf_some hti
    split at h
    · rename_i hk
      rw [h5] at hk; cases tk_str hk
      cases h
      exact ⟨_, fun w' _ => by simp [Builtin.len_, run_underlying h2, goInt], .c _ _ (VF.int _ _)⟩
    · cases h
  · rename_i ti n cs hti
    obtain ⟨inf, d, z', h1, h2, h3, h4, h5, h6, h7⟩ := tinf_some hti
    split at h
    · rename_i e hk
      rw [h5] at hk; cases tk_slice hk
      cases h
      have hx' := va_c hx
      cases hx' with
      | sl0 a cap => exact ⟨_, fun w' _ => by simp [Builtin.len_, run_underlying h2, goInt] <;> rfl, .c _ _ (VF.int _ _)⟩
      | sl n cs b o cap u hc hI hu hvs => exact ⟨_, fun w' _ => by simp [Builtin.len_, run_underlying h2, goInt] <;> rfl, .c _ _ (VF.int _ _)⟩
    · cases h
  · rename_i ti hti
    obtain ⟨inf, d, z', h1, h2, h3, h4, h5, h6, h7⟩ := tinf_some hti
    split at h
    · rename_i e hk
      rw [h5] at hk; cases tk_slice hk
      cases h
      have hx' := va_c hx
      cases hx' with
      | nil => exact ⟨_, fun w' _ => by simp [Builtin.len_, run_underlying h2, goInt] <;> rfl, .c _ _ (VF.int _ _)⟩
    · cases h
  · rename_i ti hti
    obtain ⟨inf, d, z', h1, h2, h3, h4, h5, h6, h7⟩ := tinf_some hti
    split at h
    · rename_i e hk
      rw [h5] at hk; cases tk_slice hk
      cases h
      obtain ⟨a0, rfl⟩ := va_c hx
      exact ⟨_, fun w' _ => by simp [Builtin.len_, run_underlying h2, goInt] <;> rfl, .c _ _ (VF.int _ _)⟩
    · cases h
  · rename_i ti id g off n lim hti
    obtain ⟨inf, d, z', h1, h2, h3, h4, h5, h6, h7⟩ := tinf_some hti
    split at h
    · rename_i e hk
      rw [h5] at hk; cases tk_slice hk
      split at h
      · rename_i hl
        cases h
        obtain ⟨b, hb⟩ := Option.isSome_iff_exists.1 hl
        obtain ⟨_, a0, cap, rfl, _⟩ := (va_c hx).2.2 b hb
        exact ⟨_, fun w' _ => by simp [Builtin.len_, run_underlying h2, goInt] <;> rfl, .c _ _ (VF.int _ _)⟩
      · cases h
    · cases h
  · cases h

/-- A field of a struct's value. -/
def fieldA (P : Program) (s : TypeId) (x : AV) (f : Nat) : Option AV :=
  match x, tinf P s with
  | .agg cs, some ⟨.struct fs, _, _, _⟩ => match fs[f]? with
    | some (ft, off) => match tinf P ft with
      | some i => if isAggK i.k then (if off + i.size ≤ cs.length then some (.agg ((cs.drop off).take i.size)) else none) else (cs[off]?).map .c
      | none => none
    | none => none
  | _, _ => none

theorem fieldA_sound {P : Program} {w : World} {X : Cx} {H : Heap} {s : TypeId} {x v : AV} {f : Nat} {xv : Value} (h : fieldA P s x f = some v) (hx : VA w X H x xv) :
    ∃ u, (∀ w', Grow w w' → (Instr.field s xv f).run P w' = .ok u w') ∧ VA w X H v u := by
  unfold fieldA at h
  split at h
  · rename_i cs fs sz by_ z hi
    split at h
    · rename_i ft off hf
      split at h
      · rename_i i hft
        obtain ⟨inf, d, z', h1, h2, h3, h4, h5, h6, h7⟩ := tinf_some hi
        cases d <;> simp [tkOf] at h5
        rename_i fields
        subst h5
        simp at hf
        obtain ⟨fl, hf1, hf2, hf3⟩ := hf
        subst hf2 hf3
        cases hx with
        | agg cs vs hs hcs =>
          split at h
          · rename_i hk
            split at h
            · rename_i hlen
              cases h
              refine ⟨.agg (vs.extract fl.offset (fl.offset + i.size)), fun w' _ => ?_, .agg _ _ (by simp; omega) fun j hj => ?_⟩
              · simp only [Instr.field, Sem.run_bind, run_underlying h2, Result.andThen_ok]
                simp only [hf1, asAgg, Sem.run_bind, Sem.run_pure, Result.andThen_ok, part, run_isAgg hft, hk, if_true, run_sizeOf' hft]
              · simp only [List.length_take, List.length_drop] at hj
                obtain ⟨u, h8, h9⟩ := hcs (fl.offset + j) (by omega)
                refine ⟨u, ?_, by simpa using h9⟩
                rw [Array.getElem?_extract_of_lt (by omega), ← h8]
                exact (Array.getElem?_eq_getElem _).symm
            · cases h
          · rename_i hk
            cases hc : cs[fl.offset]? with
            | none => simp [hc] at h
            | some c =>
              simp [hc] at h
              subst h
              obtain ⟨hlt, he⟩ := List.getElem?_eq_some_iff.1 hc
              obtain ⟨u, h8, h9⟩ := hcs _ hlt
              rw [he] at h9
              refine ⟨u, fun w' _ => ?_, .c _ _ h9⟩
              simp only [Instr.field, Sem.run_bind, run_underlying h2, Result.andThen_ok]
              simp only [hf1, asAgg, Sem.run_bind, Sem.run_pure, Result.andThen_ok]
              exact run_part hft (by simpa using hk) h8
      · cases h
    · cases h
  · cases h

def unV (op : UnOp) (x : AV) : Option AV :=
  match op, x with
  | .neg, .c (.f (.int k n)) => some (.c (.f (.int k (k.wrap (0 - n)))))
  | .not, .c (.f (.bool b)) => some (.c (.f (.bool (!b))))
  | .xor, .c (.f (.int k n)) => some (.c (.f (.int k (bitsI .xor k (if k.signed then -1 else k.max) n))))
  | _, _ => none
theorem unV_sound {P : Program} {w : World} {X : Cx} {H : Heap} {op : UnOp} {x v : AV} {xv : Value} (h : unV op x = some v) (hx : VA w X H x xv) :
    ∃ u, (∀ w', Grow w w' → (Op.unary op xv).run P w' = .ok u w') ∧ VA w X H v u := by
  unfold unV at h
  split at h <;> cases h
  · cases va_int hx; exact ⟨_, fun w' _ => by simp [Op.unary, Op.intArith] <;> rfl, .c _ _ (VF.int _ _)⟩
  · cases va_bool hx; exact ⟨_, fun w' _ => by simp [Op.unary] <;> rfl, .c _ _ (VF.bool _)⟩
  · cases va_int hx; exact ⟨_, fun w' _ => by simp [Op.unary, Op.intBits] <;> rfl, .c _ _ (VF.int _ _)⟩

def isNilV (H : Heap) : AV → Option Bool
  | .c (.f .nil) => some true
  | .c (.f (.sl n _)) => if n = 0 then none else some false
  | .c (.own id g _ _ _) => if (look H id g).isSome then some false else none
  | _ => none
theorem isNilV_sound {w : World} {X : Cx} {H : Heap} {x : AV} {b : Bool} {xv : Value} (h : isNilV H x = some b) (hx : VA w X H x xv) : ∃ a n c, xv = .slice a n c ∧ a.isNone = b := by
  unfold isNilV at h
  split at h
  · cases h; have := va_c hx; cases this; exact ⟨_, _, _, rfl, rfl⟩
  · split at h
    · cases h
    · rename_i hn
      cases h
      have := va_c hx
      cases this with
      | sl0 => exact absurd rfl hn
      | sl => exact ⟨_, _, _, rfl, rfl⟩
  · split at h
    · rename_i hl
      cases h
      obtain ⟨b, hb⟩ := Option.isSome_iff_exists.1 hl
      obtain ⟨_, a0, cap, rfl, _⟩ := (va_c hx).2.2 b hb
      exact ⟨_, _, _, rfl, rfl⟩
    · cases h
  · cases h

def isNilConst : Operand → Bool
  | .const (.slice none _ _) => true
  | _ => false

def binV (P : Program) (s : List AV) (H : Heap) (op : BinOp) (t : TypeId) (x y : Operand) : Option AV :=
  match evO s x, evO s y with
  | .c (.f (.int k a)), .c (.f (.int k' b)) => (binI op k a k' b).map fun r => .c (.f r)
  | .c (.f (.str a)), .c (.f (.str b)) => match op with
    | .add => if a.size + b.size ≤ 9223372036854775807 then some (.c (.f (.str (a ++ b)))) else none
    | .eql => some (.c (.f (.bool (a.toList == b.toList))))
    | .neq => some (.c (.f (.bool (!(a.toList == b.toList)))))
    | _ => none
  | .c (.f (.bool a)), .c (.f (.bool b)) => match tinf P t with
    | some ti => match ti.k, op with
      | .bool, .eql => some (.c (.f (.bool (a == b))))
      | .bool, .neq => some (.c (.f (.bool (!(a == b)))))
      | _, _ => none
    | none => none
  | vx, vy => match tinf P t, isNilV H vx, isNilV H vy with
    | some ti, some nx, some ny => match ti.k, op with
      | .slice _, .eql => if ny = true then some (.c (.f (.bool nx))) else if nx = true then some (.c (.f (.bool ny))) else none
      | .slice _, .neq => if ny = true then some (.c (.f (.bool (!nx)))) else if nx = true then some (.c (.f (.bool (!ny)))) else none
      | _, _ => none
    | _, _, _ => none

theorem run_eqGuard_plain {P : Program} {w : World} {op : BinOp} {t : TypeId} {x y : Operand} {a b : Value} (h : (match a with | .nilIface | .agg _ => false | _ => true) = true) : (eqGuard op t x y a b).run P w = .ok () w := by
  unfold eqGuard
  cases a <;> first | (simp at h; done) | (split <;> simp)

theorem nil_of_isNone {w : World} {X : Cx} {H : Heap} {x : AV} {xv : Value} (h : isNilV H x = some true) (hx : VA w X H x xv) : xv = .slice none 0 0 := by
  unfold isNilV at h
  split at h
  · have := va_c hx; cases this; rfl
  · split at h <;> simp at h
  · split at h <;> simp at h
  · cases h

theorem binV_sound {P : Program} {w : World} {X : Cx} {a : Act} {st : St} (R : Rel w X a st) {op : BinOp} {t : TypeId} {x y : Operand} {v : AV} (h : binV P st.s st.h op t x y = some v) :
    ∃ u, (∀ w', Grow w w' → (do eqGuard op t x y (a.eval x) (a.eval y); binOp op t (a.eval x) (a.eval y) : Sem Value).run P w' = .ok u w') ∧ VA w X st.h v u := by
  have hx := evO_sound R x
  have hy := evO_sound R y
  unfold binV at h
  split at h
  · rename_i k p k' q e1 e2
    rw [e1] at hx; rw [e2] at hy
    rw [va_int hx, va_int hy]
    cases hb : binI op k p k' q with
    | none => simp [hb] at h
    | some r =>
      simp [hb] at h
      subst h
      exact ⟨_, fun w' _ => by rw [Sem.run_bind, run_eqGuard_int, Result.andThen_ok, (binI_sound (P := P) (w := w') (t := t) hb).1], .c _ _ (scal_sound (binI_sound (P := P) (w := w) (t := t) hb).2)⟩
  · rename_i p q e1 e2
    rw [e1] at hx; rw [e2] at hy
    rw [va_str hx, va_str hy]
    have hgd : ∀ (w' : World) (m : Sem Value), (do eqGuard op t x y (.string p) (.string q); m : Sem Value).run P w' = m.run P w' := fun w' m => by rw [Sem.run_bind, run_eqGuard_plain rfl, Result.andThen_ok]
    split at h
    · split at h
      · rename_i hs
        cases h
        have hs' : ¬ (((p.size + q.size : Nat) : Int) > IntKind.i64.max) := by
          have : IntKind.i64.max = 9223372036854775807 := by decide
          omega
        exact ⟨.string (p ++ q), fun w' _ => by rw [hgd]; simp only [binOp, Op.stringOp]; rw [if_neg hs']; rfl, .c _ _ (VF.str _)⟩
      · cases h
    · cases h; exact ⟨.bool (p.toList == q.toList), fun w' _ => by rw [hgd]; simp [binOp, Op.stringOp], .c _ _ (VF.bool _)⟩
    · cases h; exact ⟨.bool (!(p.toList == q.toList)), fun w' _ => by rw [hgd]; simp [binOp, Op.stringOp], .c _ _ (VF.bool _)⟩
    · cases h
  · rename_i p q e1 e2
    rw [e1] at hx; rw [e2] at hy
    rw [va_bool hx, va_bool hy]
    have hgd : ∀ (w' : World) (m : Sem Value), (do eqGuard op t x y (.bool p) (.bool q); m : Sem Value).run P w' = m.run P w' := fun w' m => by rw [Sem.run_bind, run_eqGuard_plain rfl, Result.andThen_ok]
    split at h
    · rename_i ti hti
      obtain ⟨inf, d, z', h1, h2, h3, h4, h5, h6, h7⟩ := tinf_some hti
      split at h
      · rename_i hk
        rw [h5] at hk; cases tk_bool hk
        cases h
        exact ⟨_, fun w' _ => by rw [hgd]; exact run_eql_bool w' t p q h2, .c _ _ (VF.bool _)⟩
      · rename_i hk
        rw [h5] at hk; cases tk_bool hk
        cases h
        refine ⟨.bool (!(p == q)), fun w' _ => ?_, .c _ _ (VF.bool _)⟩
        rw [hgd]
        simp only [binOp]
        simp [run_equal_bool w' t p q h2]
      · cases h
    · cases h
  · rename_i n1 n2 n3
    split at h
    · rename_i ti nx ny hti hnx hny
      obtain ⟨inf, d, z', h1, h2, h3, h4, h5, h6, h7⟩ := tinf_some hti
      obtain ⟨ax, lx, cx, ex, hax⟩ := isNilV_sound hnx hx
      obtain ⟨ay, ly, cy, ey, hay⟩ := isNilV_sound hny hy
      have hgd : ∀ (w' : World) (m : Sem Value), (do eqGuard op t x y (a.eval x) (a.eval y); m : Sem Value).run P w' = m.run P w' := fun w' m => by rw [Sem.run_bind, run_eqGuard_plain (by rw [ex]), Result.andThen_ok]
      split at h
      · rename_i e hk
        rw [h5] at hk; cases tk_slice hk
        split at h
        · rename_i hny'
          subst hny'
          cases h
          have e2 := nil_of_isNone hny hy
          exact ⟨_, fun w' _ => by rw [hgd, e2, ex, ← hax]; exact Lib.run_eql_slice_nil w' t e _ _ _ _ _ h2, .c _ _ (VF.bool _)⟩
        · split at h
          · rename_i hnx'
            subst hnx'
            cases h
            have e2 := nil_of_isNone hnx hx
            exact ⟨_, fun w' _ => by rw [hgd, e2, ey, ← hay]; exact run_eql_nil_slice w' t e _ _ _ _ _ h2, .c _ _ (VF.bool _)⟩
          · cases h
      · rename_i e hk
        rw [h5] at hk; cases tk_slice hk
        split at h
        · rename_i hny'
          subst hny'
          cases h
          have e2 := nil_of_isNone hny hy
          exact ⟨_, fun w' _ => by rw [hgd, e2, ex, ← hax]; exact run_neq_slice_nil_any w' t e _ _ _ _ _ h2, .c _ _ (VF.bool _)⟩
        · split at h
          · rename_i hnx'
            subst hnx'
            cases h
            have e2 := nil_of_isNone hnx hx
            exact ⟨_, fun w' _ => by rw [hgd, e2, ey, ← hay]; exact run_neq_nil_slice w' t e _ _ _ _ _ h2, .c _ _ (VF.bool _)⟩
          · cases h
      · cases h
    · cases h

/-! ### conversions, and all as one function -/
def u8s : List CV → Option (List Int)
  | [] => some []
  | .f (.int .u8 n) :: l => (u8s l).map (n :: ·)
  | _ => none

theorem u8s_get : ∀ {l : List CV} {xs : List Int}, u8s l = some xs → l = xs.map fun n => CV.f (.int .u8 n)
  | [], xs, h => by cases h; rfl
  | c :: l, xs, h => by
    unfold u8s at h
    split at h
    · rename_i heq; cases heq
    · rename_i n l' heq
      cases heq
      cases hl : u8s l with
      | none => simp [hl] at h
      | some ys =>
        simp [hl] at h
        subst h
        simp [u8s_get hl]
    · cases h

theorem u8s_map (xs : List Int) : u8s (xs.map fun n => CV.f (.int .u8 n)) = some xs := by
  induction xs with
  | nil => rfl
  | cons x xs ih => simp [u8s, ih]

def convV (P : Program) (H : Heap) (src dst : TypeId) (x : AV) : Option AV :=
  match tinf P src, tinf P dst, x with
  | some si, some di, .c (.f (.int _ n)) => match di.k with
    | .int k => some (.c (.f (.int k (k.wrap n))))
    | _ => none
  | some si, some di, .c (.f (.sl n cs)) => match si.k, di.k with
    | .slice e, .str => match tinf P e with
      | some ei => match ei.k, u8s (cs.map .f) with
        | .int .u8, some xs => if xs.length = n then some (.c (.f (.str (strOfNums xs)))) else none
        | _, _ => none
      | none => none
    | _, _ => none
  | some si, some di, .c (.own id g off n lim) => match si.k, di.k, look H id g with
    | .slice e, .str, some b => match tinf P e with
      | some ei => match ei.k, u8s ((b.cs.drop off).take n) with
        | .int .u8, some xs => if xs.length = n ∧ b.sz = 1 then some (.c (.f (.str (strOfNums xs)))) else none
        | _, _ => none
      | none => none
    | _, _, _ => none
  | _, _, _ => none

theorem run_conv_slice {P : Program} {w : World} {src dst e : TypeId} {a : Addr} {n c : Nat} {xs : List Int} (hs : P.underlying src = some (.slice e)) (he : P.underlying e = some (.int .u8)) (hd : P.underlying dst = some .string)
    (hl : xs.length = n) (ha : n ≠ 0 → ∃ b o, a = ⟨b, o, none⟩ ∧ ∀ i, i < n → w.cell? ⟨b, o + i, none⟩ = some (.int .u8 (xs.getD i 0))) :
    (convert src dst (.slice (some a) n c)).run P w = .ok (.string (strOfNums xs)) w := by
  by_cases h0 : n = 0
  · subst h0
    have : xs = [] := List.eq_nil_of_length_eq_zero hl
    subst this
    have hld : (loadCells a 0).run P w = .ok #[] w := by simp [loadCells, loadCellsFrom]
    simp [convert, run_underlying hs, run_underlying he, run_underlying hd, Conv.bytesToString, hld]
    rfl
  · obtain ⟨b, o, rfl, hcell⟩ := ha h0
    exact run_convert_bytes_arg w src e hs he b o n c xs hl hcell dst hd

theorem convV_sound {P : Program} {w : World} {X : Cx} {H : Heap} (R : HRel w X H) {src dst : TypeId} {x v : AV} {xv : Value} (h : convV P H src dst x = some v) (hx : VA w X H x xv) :
    ∃ u, (∀ w', Grow w w' → (convert src dst xv).run P w' = .ok u w') ∧ VA w X H v u := by
  unfold convV at h
  split at h
  · rename_i si di k n hsi hdi
    cases va_int hx
    obtain ⟨inf, d, z', h1, h2, h3, h4, h5, h6, h7⟩ := tinf_some hdi
    obtain ⟨inf', d', z'', h1', h2', _⟩ := tinf_some hsi
    split at h
    · rename_i k' hk
      rw [h5] at hk; cases tk_int hk
      cases h
      exact ⟨_, fun w' _ => by simp [convert, run_underlying h2, run_underlying h2', Conv.intToInt] <;> rfl, .c _ _ (VF.int _ _)⟩
    · cases h
  · rename_i si di n cs hsi hdi
    obtain ⟨inf, d, z', h1, h2, h3, h4, h5, h6, h7⟩ := tinf_some hdi
    obtain ⟨inf', d', z'', h1', h2', h3', h4', h5', _⟩ := tinf_some hsi
    split at h
    · rename_i e hk1 hk2
      rw [h5'] at hk1; cases tk_slice hk1
      rw [h5] at hk2; cases tk_str hk2
      split at h
      · rename_i ei hei
        obtain ⟨inf'', d'', z''', h1'', h2'', h3'', h4'', h5'', _⟩ := tinf_some hei
        split at h
        · rename_i xs hk3 hu
          rw [h5''] at hk3; cases tk_int hk3
          split at h
          · rename_i hl
            cases h
            have hcs := u8s_get hu
            have hx' := va_c hx
            refine ⟨.string (strOfNums xs), fun w' hg => ?_, .c _ _ (VF.str _)⟩
            cases hx' with
            | sl0 a cap =>
              cases a with
              | some a => exact run_conv_slice h2' h2'' h2 hl (fun h => absurd rfl h)
              | none =>
                have : xs = [] := List.eq_nil_of_length_eq_zero hl
                subst this
                simp [convert, run_underlying h2', run_underlying h2'', run_underlying h2, Conv.bytesToString, strOfNums]; rfl
            | sl n cs b o cap u hc hI hu' hvs =>
              refine run_conv_slice h2' h2'' h2 hl (fun _ => ⟨b, o, rfl, fun i hi => ?_⟩)
              have hlen : cs.length = xs.length := by have := congrArg List.length hcs; simpa using this
              have hi' : i < cs.length := by omega
              rw [hg.cell (hu' i hi')]
              have e1 : cs[i] = FV.int .u8 (xs[i]'(by omega)) := by
                have := congrArg (fun l => l[i]?) hcs
                simp [hi', show i < xs.length by omega] at this
                exact this
              have := hvs i hi'
              rw [e1] at this
              cases hq : u i with
              | int k m =>
                rw [hq] at this
                cases this
                simp [List.getD, List.getElem?_eq_getElem (show i < xs.length by omega)]
              | _ => rw [hq] at this; cases this
          · cases h
        · cases h
      · cases h
    · cases h
  · rename_i si di id g off n lim hsi hdi
    obtain ⟨inf, d, z', h1, h2, h3, h4, h5, h6, h7⟩ := tinf_some hdi
    obtain ⟨inf', d', z'', h1', h2', h3', h4', h5', _⟩ := tinf_some hsi
    split at h
    · rename_i e b hk1 hk2 hl
      rw [h5'] at hk1; cases tk_slice hk1
      rw [h5] at hk2; cases tk_str hk2
      split at h
      · rename_i ei hei
        obtain ⟨inf'', d'', z''', h1'', h2'', h3'', h4'', h5'', _⟩ := tinf_some hei
        split at h
        · rename_i xs hk3 hu
          rw [h5''] at hk3; cases tk_int hk3
          split at h
          · rename_i hlen
            cases h
            obtain ⟨hlen, hsz⟩ := hlen
            have hcs := u8s_get hu
            obtain ⟨hg, _, hall⟩ := va_c hx
            obtain ⟨c1, a0, cap, rfl, c2, c3, c4, c5⟩ := hall b hl
            refine ⟨.string (strOfNums xs), fun w' hgw => run_conv_slice h2' h2'' h2 hlen (fun h0 => ⟨X.mu g, off, c3 (by omega), fun i hi => hgw.cell ?_⟩), .c _ _ (VF.str _)⟩
            obtain ⟨hid, hgg⟩ := look_some hl
            subst hgg
            obtain ⟨_, _, cc, t, h8, h9, h10, h11⟩ := R.blk id b hid
            have hlt : off + i < b.cs.length := by rw [hsz] at c1; omega
            obtain ⟨u, h12, h13⟩ := h11 (off + i) hlt
            have e1 : b.cs[off + i] = CV.f (.int .u8 (xs[i]'(by omega))) := by
              have := congrArg (fun l => l[i]?) hcs
              simp [hi, hlt, show i < xs.length by omega] at this
              exact this
            rw [e1] at h13
            have h13 : VF w X.I (.int .u8 (xs[i]'(by omega))) u := h13
            cases h13
            simp [World.cell?, h8, h12, List.getD, List.getElem?_eq_getElem (show i < xs.length by omega)]
          · cases h
        · cases h
      · cases h
    · cases h
  · cases h
end Go.Lg

/- All operations that only compute or read, as one function. -/
set_option linter.unusedSimpArgs false
set_option linter.unusedVariables false
namespace Go.Lg

def capOf (s : List AV) (o : Operand) : Option (Nat × Nat) :=
  match evO s o with
  | .c (.ptr id g 0) => some (id, g)
  | _ => none

def minV (mx : Bool) (x y : AV) : Option AV :=
  match x, y with
  | .c (.f (.int k a)), .c (.f (.int _ b)) => some (.c (.f (.int k (if mx then (if a < b then b else a) else (if b < a then b else a)))))
  | _, _ => none

def nilV (H : Heap) (x : AV) : Option AV :=
  match x with
  | .c (.ptr id g o) => if (look H id g).isSome then some (.c (.ptr id g o)) else none
  | .c (.fp cs o) => some (.c (.fp cs o))
  | .c (.fn f caps) => if caps.all fun c => (look H c.1 c.2).isSome then some (.c (.fn f caps)) else none
  | _ => none

def builtV (P : Program) (s : List AV) (H : Heap) (b : Builtin) (args : List Operand) (ts : List TypeId) : Option AV :=
  match b, args, ts with
  | .len, [x], [t] => lenO P H t (evO s x)
  | .min, [x, y], _ => minV false (evO s x) (evO s y)
  | .max, [x, y], _ => minV true (evO s x) (evO s y)
  | _, _, _ => none

def opV (P : Program) (s : List AV) (H : Heap) : Op → Option AV
  | .move x => some (evO s x)
  | .assign x => some (evO s x)
  | .pick c x y => match evO s c with
    | .c (.f (.bool t)) => some (if t then evO s x else evO s y)
    | _ => none
  | .nilCheck x => nilV H (evO s x)
  | .binOp op t x y _ => binV P s H op t x y
  | .unOp op _ x => unV op (evO s x)
  | .convert src dst x => convV P H src dst (evO s x)
  | .fieldAddr t x f => fieldV P H t (evO s x) f
  | .field t x f => fieldA P t (evO s x) f
  | .indexAddr t x i => elemV P H t (evO s x) (evO s i)
  | .index t x i => indexV P t (evO s x) (evO s i)
  | .extract t i => match evO s t with
    | .tup vs => vs[i]?
    | _ => none
  | .load t p => loadV P H t (evO s p)
  | .slice t x lo hi mx => match bound s lo, bound s hi, bound s mx with
    | some l, some h, some m => sliceV P H t (evO s x) l h m
    | _, _, _ => none
  | .makeFunc (.func f) first caps => if first.size = 0 then (caps.toList.mapM (capOf s)).map fun l => .c (.fn f l) else none
  | .call ⟨.builtin b, args, ts⟩ => builtV P s H b args.toList ts.toList
  | _ => none

theorem nilV_sound {P : Program} {w : World} {X : Cx} {a : Act} {st : St} (R : Rel w X a st) {x : Operand} {v : AV} (h : nilV st.h (evO st.s x) = some v) :
    (∀ w', Yields P (.nilCheck x) a w' (a.eval x)) ∧ VA w X st.h v (a.eval x) := by
  have hx := evO_sound R x
  unfold nilV at h
  split at h
  · rename_i id g o e
    rw [e] at hx
    split at h
    · rename_i hl
      cases h
      refine ⟨fun w' oo ho => ?_, hx⟩
      have := (va_c hx).2.2 hl
      simp [execOp, ho, this]
    · cases h
  · rename_i cs o e
    rw [e] at hx
    cases h
    refine ⟨fun w' oo ho => ?_, hx⟩
    obtain ⟨b, o', h1, _⟩ := va_c hx
    simp [execOp, ho, h1]
  · rename_i f caps e
    rw [e] at hx
    split at h
    · rename_i hl
      cases h
      refine ⟨fun w' oo ho => ?_, hx⟩
      have := (va_c hx).2.2 (fun c hc => List.all_eq_true.1 hl c hc)
      simp [execOp, ho, this]
    · cases h
  · cases h

theorem capOf_sound {w : World} {X : Cx} {a : Act} {st : St} (R : Rel w X a st) {o : Operand} {c : Nat × Nat} (h : capOf st.s o = some c) :
    c.2 < X.t ∧ ((look st.h c.1 c.2).isSome → a.eval o = .pointer (some ⟨X.mu c.2, 0, none⟩)) := by
  unfold capOf at h
  have hx := evO_sound R o
  split at h
  · rename_i id g e
    cases h
    rw [e] at hx
    exact ⟨(va_c hx).1, (va_c hx).2.2⟩
  · cases h

theorem opV_sound {P : Program} {w : World} {X : Cx} {a : Act} {st : St} (R : Rel w X a st) {op : Op} {v : AV} (h : opV P st.s st.h op = some v) :
    ∃ u, (∀ w', Grow w w' → Yields P op a w' u) ∧ VA w X st.h v u := by
  unfold opV at h
  split at h
  · rename_i x
    cases h; exact ⟨_, fun w' _ => yields_move x, evO_sound R x⟩
  · rename_i x
    cases h; exact ⟨_, fun w' _ => yields_assign x, evO_sound R x⟩
  · rename_i c x y
    split at h
    · rename_i t e
      cases h
      have hc := evO_sound R c
      rw [e] at hc
      refine ⟨_, fun w' _ => yields_pick (va_bool hc), ?_⟩
      cases t
      · exact evO_sound R y
      · exact evO_sound R x
    · cases h
  · rename_i x
    obtain ⟨h1, h2⟩ := nilV_sound (P := P) R h
    exact ⟨_, fun w' _ => h1 w', h2⟩
  · rename_i op t x y yt
    obtain ⟨u, h1, h2⟩ := binV_sound R h
    exact ⟨u, fun w' hg o ho => by simp only [execOp, ho]; rw [Sem.run_bind, h1 w' hg]; rfl, h2⟩
  · rename_i op t x
    obtain ⟨u, h1, h2⟩ := unV_sound (P := P) h (evO_sound R x)
    exact ⟨u, fun w' hg o ho => by simp only [execOp, ho]; rw [Sem.run_bind, h1 w' hg]; rfl, h2⟩
  · rename_i src dst x
    obtain ⟨u, h1, h2⟩ := convV_sound R.heap h (evO_sound R x)
    exact ⟨u, fun w' hg o ho => by simp only [execOp, ho]; rw [Sem.run_bind, h1 w' hg]; rfl, h2⟩
  · rename_i t x f
    obtain ⟨u, h1, h2⟩ := fieldV_sound (P := P) h (evO_sound R x)
    exact ⟨u, fun w' hg o ho => by simp only [execOp, ho]; rw [Sem.run_bind, h1 w' hg]; rfl, h2⟩
  · rename_i t x f
    obtain ⟨u, h1, h2⟩ := fieldA_sound (P := P) h (evO_sound R x)
    exact ⟨u, fun w' hg o ho => by simp only [execOp, ho]; rw [Sem.run_bind, h1 w' hg]; rfl, h2⟩
  · rename_i t x i
    obtain ⟨u, h1, h2⟩ := elemV_sound (P := P) h (evO_sound R x) (evO_sound R i)
    exact ⟨u, fun w' hg o ho => by simp only [execOp, ho]; rw [Sem.run_bind, h1 w' hg]; rfl, h2⟩
  · rename_i t x i
    obtain ⟨u, h1, h2⟩ := indexV_sound (P := P) h (evO_sound R x) (evO_sound R i)
    exact ⟨u, fun w' hg o ho => by simp only [execOp, ho]; rw [Sem.run_bind, h1 w' hg]; rfl, h2⟩
  · rename_i t i
    split at h
    · rename_i vs e
      have hx := evO_sound R t
      rw [e] at hx
      generalize hq : a.eval t = q at hx
      cases hx with
      | tup vs us hus =>
        obtain ⟨hlt, he⟩ := List.getElem?_eq_some_iff.1 h
        have h9 := hus i hlt
        rw [he] at h9
        refine ⟨us i, fun w' _ o ho => ?_, h9⟩
        simp only [execOp, ho, hq]
        simp [Instr.extract, hlt]
    · cases h
  · rename_i t p
    obtain ⟨u, h1, h2⟩ := loadV_sound (P := P) R.heap h (evO_sound R p)
    exact ⟨u, fun w' hg o ho => by simp only [execOp, ho]; rw [Sem.run_bind, h1 w' hg]; rfl, h2⟩
  · rename_i t x lo hi mx
    split at h
    · rename_i l hh m e1 e2 e3
      obtain ⟨u, h1, h2⟩ := sliceV_sound (P := P) R e1 e2 e3 (evO_sound R x) h
      exact ⟨u, fun w' hg o ho => by simp only [execOp, ho]; rw [Sem.run_bind, h1 w' hg]; rfl, h2⟩
    · cases h
  · rename_i f first caps
    split at h
    · rename_i h0
      cases hm : caps.toList.mapM (capOf st.s) with
      | none => simp [hm] at h
      | some l =>
        simp [hm] at h
        subst h
        obtain ⟨hl, hg⟩ := mapM_get hm
        have hg' : ∀ j (hj : j < l.length), ∃ o, caps.toList[j]? = some o ∧ capOf st.s o = some l[j] := fun j hj => by
          obtain ⟨y, h1, h2⟩ := hg j (by omega)
          have : l[j] = y := by simpa [List.getElem?_eq_getElem hj] using h1
          exact ⟨caps.toList[j]'(by omega), by simp [List.getElem?_eq_getElem (show j < caps.toList.length by omega)], by rw [this]; exact h2⟩
        have hfirst : first = #[] := Array.eq_empty_of_size_eq_zero h0
        subst hfirst
        refine ⟨.func (.func f) #[] (caps.map a.eval), fun w' _ o ho => by simp [execOp, ho, Instr.makeFunc], .c _ _ ⟨fun c hc => ?_, rfl, fun hall => ?_⟩⟩
        · obtain ⟨j, hj, rfl⟩ := List.mem_iff_getElem.1 hc
          obtain ⟨o, _, h2⟩ := hg' j hj
          exact (capOf_sound R h2).1
        · congr 1
          apply Array.ext'
          rw [Array.toList_map]
          apply List.ext_getElem
          · simp; simpa using hl.symm
          · intro j h1 h2
            simp only [List.length_map] at h1 h2
            obtain ⟨o, h3, h4⟩ := hg' j h2
            have h5 : caps.toList[j] = o := by simpa [List.getElem?_eq_getElem h1] using h3
            simp only [List.getElem_map]
            rw [h5]
            exact (capOf_sound R h4).2 (hall _ (List.getElem_mem h2))
    · cases h
  · rename_i b args ts
    unfold builtV at h
    split at h
    · rename_i x t e1 e2
      have hlen := fun ty => lenO_sound (P := P) (ty := ty) h (evO_sound R x)
      obtain ⟨u, h1, h2⟩ := hlen 0
      have ea : args = #[x] := by cases args; simp at e1; simp [e1]
      have et : ts = #[t] := by cases ts; simp at e2; simp [e2]
      subst ea et
      refine ⟨u, fun w' hg o ho => ?_, h2⟩
      simp only [execOp, ho]
      simp only [resolve, Sem.run_bind, Sem.run_pure, Result.andThen_ok, invoke, builtin, List.map_toArray, List.map_cons, List.map_nil]
      have : (Builtin.len_ #[t] o.type #[a.eval x]).run P w' = .ok u w' := h1 w' hg
      rw [this]
      rfl
    · rename_i x y e1
      unfold minV at h
      split at h
      · rename_i k p k' q e3 e4
        cases h
        have hx := evO_sound R x
        have hy := evO_sound R y
        rw [e3] at hx; rw [e4] at hy
        have ea : args = #[x, y] := by cases args; simp at e1; simp [e1]
        subst ea
        refine ⟨_, fun w' _ o ho => ?_, .c _ _ (VF.int _ _)⟩
        simp [execOp, ho, resolve, invoke, builtin, Builtin.min_, Builtin.min2, va_int hx, va_int hy]
      · cases h
    · rename_i x y e1
      unfold minV at h
      split at h
      · rename_i k p k' q e3 e4
        cases h
        have hx := evO_sound R x
        have hy := evO_sound R y
        rw [e3] at hx; rw [e4] at hy
        have ea : args = #[x, y] := by cases args; simp at e1; simp [e1]
        subst ea
        refine ⟨_, fun w' _ o ho => ?_, .c _ _ (VF.int _ _)⟩
        simp [execOp, ho, resolve, invoke, builtin, Builtin.max_, Builtin.max2, va_int hx, va_int hy]
      · cases h
    · cases h
  · cases h
end Go.Lg

/- What the heap's changes do to the relation. -/
set_option linter.unusedSimpArgs false
set_option linter.unusedVariables false
namespace Go.Lg

def Cx.new (X : Cx) (g c : Nat) : Cx :=
  { mu := fun k => if k = X.t then g else X.mu k, sz := fun k => if k = X.t then c else X.sz k, I := X.I, t := X.t + 1 }

theorem look_append {H : Heap} {b : Blk} {id g : Nat} {b' : Blk} (h : look (H ++ [some b]) id g = some b') : look H id g = some b' ∨ (b' = b ∧ g = b.g ∧ id = H.length) := by
  obtain ⟨h1, h2⟩ := look_some h
  by_cases hlt : id < H.length
  · rw [List.getElem?_append_left hlt] at h1
    left
    rw [← h2]
    exact look_of h1
  · right
    rw [List.getElem?_append_right (by omega)] at h1
    by_cases he : id - H.length = 0
    · rw [he] at h1
      simp at h1
      subst h1
      exact ⟨rfl, h2.symm, by omega⟩
    · rw [List.getElem?_eq_none (by simp; omega)] at h1
      cases h1

theorem new_block {w w' : World} {X : Cx} {H : Heap} (R : HRel w X H) {sz t : Nat} {cs : List CV} {cc : Array Value}
    (hh : w'.heap = w.heap.push (.cells cc t (0, 0))) (ho : w'.os = w.os) (ht : w'.tape = w.tape) (hout : w'.output = w.output)
    (hl : cs.length ≤ cc.size) (hc : ∀ j (h : j < cs.length), ∃ u, cc[j]? = some u ∧ VC w X H cs[j] u) :
    HRel w' (X.new w.heap.size cc.size) (H ++ [some ⟨X.t, sz, cs⟩]) ∧ Ev w X H w' (X.new w.heap.size cc.size) (H ++ [some ⟨X.t, sz, cs⟩]) := by
  have hold : ∀ b, b < w.heap.size → w'.heap[b]? = w.heap[b]? := fun b hb => by rw [hh, Array.getElem?_push, if_neg (by omega)]
  have hnew : w'.heap[w.heap.size]? = some (.cells cc t (0, 0)) := by rw [hh]; simp
  have E : Ev w X H w' (X.new w.heap.size cc.size) (H ++ [some ⟨X.t, sz, cs⟩]) := by
    refine ⟨fun b hb => ⟨hb, hold b (R.imm b hb)⟩, Nat.le_succ _, fun g hg => ?_, by rw [hh]; simp, ho, ht, hout, ?_, fun b hb _ => hold b hb, ?_, fun b hb => .inl hb⟩
    · simp only [Cx.new]
      rw [if_neg (by omega), if_neg (by omega)]
      exact ⟨rfl, rfl⟩
    · intro id g b' hg hlk
      rcases look_append hlk with h | ⟨rfl, rfl, _⟩
      · exact ⟨b', h, rfl, rfl⟩
      · exact absurd hg (Nat.lt_irrefl _)
    · rintro b ⟨id, blk, h1, h2⟩
      by_cases hlt : id < H.length
      · rw [List.getElem?_append_left hlt] at h1
        refine .inl ⟨id, blk, h1, ?_⟩
        rw [← h2]
        simp only [Cx.new]
        rw [if_neg (by have := (R.blk id blk h1).1; omega)]
      · rw [List.getElem?_append_right (by omega)] at h1
        have he : id - H.length = 0 := by
          by_cases he : id - H.length = 0
          · exact he
          · rw [List.getElem?_eq_none (by simp; omega)] at h1; cases h1
        rw [he] at h1
        simp at h1
        subst h1
        right
        rw [← h2]
        simp [Cx.new]
  refine ⟨⟨fun b hb => ?_, fun id b hb => ?_, fun id id' b b' hb hb' heq => ?_⟩, E⟩
  · have := R.imm b hb
    rw [hh]; simp; omega
  · by_cases hlt : id < H.length
    · rw [List.getElem?_append_left hlt] at hb
      obtain ⟨h1, h2, cc', t', h3, h4, h5, h6⟩ := R.blk id b hb
      have hm := E.mu b.g h1
      refine ⟨Nat.lt_of_lt_of_le h1 E.t, by rw [hm.1]; exact h2, cc', t', ?_, by rw [hm.2]; exact h4, h5, fun j hj => ?_⟩
      · rw [hm.1, hold _ ?_]
        · exact h3
        · exact (Array.getElem?_eq_some_iff.1 h3).1
      · obtain ⟨u, h7, h8⟩ := h6 j hj
        exact ⟨u, h7, h8.mono E⟩
    · rw [List.getElem?_append_right (by omega)] at hb
      have he : id - H.length = 0 := by
        by_cases he : id - H.length = 0
        · exact he
        · rw [List.getElem?_eq_none (by simp; omega)] at hb; cases hb
      rw [he] at hb
      simp at hb
      subst hb
      refine ⟨Nat.lt_succ_self _, ?_, cc, t, ?_, ?_, hl, fun j hj => ?_⟩
      · simp only [Cx.new, if_true]
        intro hI
        exact absurd (R.imm _ hI) (Nat.lt_irrefl _)
      · simp only [Cx.new, if_true]; exact hnew
      · simp only [Cx.new, if_true]
      · obtain ⟨u, h7, h8⟩ := hc j hj
        exact ⟨u, h7, h8.mono E⟩
  · have key : ∀ (i : Nat) (c : Blk), (H ++ [some ⟨X.t, sz, cs⟩])[i]? = some (some c) → (i < H.length ∧ H[i]? = some (some c) ∧ c.g < X.t ∧ (X.new w.heap.size cc.size).mu c.g = X.mu c.g ∧ X.mu c.g < w.heap.size) ∨ (i = H.length ∧ (X.new w.heap.size cc.size).mu c.g = w.heap.size) := by
      intro i c hi
      by_cases hlt : i < H.length
      · rw [List.getElem?_append_left hlt] at hi
        obtain ⟨h1, h2, cc', t', h3, _⟩ := R.blk i c hi
        exact .inl ⟨hlt, hi, h1, (E.mu c.g h1).1, (Array.getElem?_eq_some_iff.1 h3).1⟩
      · rw [List.getElem?_append_right (by omega)] at hi
        have he : i - H.length = 0 := by
          by_cases he : i - H.length = 0
          · exact he
          · rw [List.getElem?_eq_none (by simp; omega)] at hi; cases hi
        rw [he] at hi
        simp at hi
        subst hi
        exact .inr ⟨by omega, by simp [Cx.new]⟩
    rcases key id b hb with ⟨_, k1, k2, k3, k4⟩ | ⟨k1, k2⟩ <;> rcases key id' b' hb' with ⟨_, l1, l2, l3, l4⟩ | ⟨l1, l2⟩
    · exact R.inj id id' b b' k1 l1 (by rw [← k3, ← l3]; exact heq)
    · rw [k3, l2] at heq; omega
    · rw [k2, l3] at heq; omega
    · omega

theorem look_set {H : Heap} {id : Nat} {b0 b : Blk} (h0 : H[id]? = some (some b0)) {i g : Nat} {b' : Blk} (h : look (H.set id (some b)) i g = some b') :
    (i ≠ id ∧ look H i g = some b') ∨ (i = id ∧ b' = b ∧ g = b.g) := by
  obtain ⟨h1, h2⟩ := look_some h
  by_cases he : i = id
  · subst he
    have hlt : i < H.length := (List.getElem?_eq_some_iff.1 h0).1
    rw [List.getElem?_set_self hlt] at h1
    cases h1
    exact .inr ⟨rfl, rfl, h2.symm⟩
  · rw [List.getElem?_set_ne (fun h => he h.symm)] at h1
    refine .inl ⟨he, ?_⟩
    rw [← h2]
    exact look_of h1

/-- The cells of a block of the call's own, written anew. -/
theorem upd_block {w w' : World} {X : Cx} {H : Heap} (R : HRel w X H) {id : Nat} {b : Blk} (hb : H[id]? = some (some b)) {cs : List CV} {cc : Array Value} {t : TypeId}
    (hh : w'.heap[X.mu b.g]? = some (.cells cc t (0, 0))) (hoth : ∀ k, k ≠ X.mu b.g → w'.heap[k]? = w.heap[k]?) (hsz : w'.heap.size = w.heap.size)
    (ho : w'.os = w.os) (ht : w'.tape = w.tape) (hout : w'.output = w.output) (hcc : cc.size = X.sz b.g) (hl : cs.length = b.cs.length)
    (hc : ∀ j (h : j < cs.length), ∃ u, cc[j]? = some u ∧ VC w X H cs[j] u) :
    HRel w' X (H.set id (some ⟨b.g, b.sz, cs⟩)) ∧ Ev w X H w' X (H.set id (some ⟨b.g, b.sz, cs⟩)) := by
  obtain ⟨g1, g2, cc0, t0, g3, g4, g5, g6⟩ := R.blk id b hb
  have E : Ev w X H w' X (H.set id (some ⟨b.g, b.sz, cs⟩)) := by
    refine ⟨fun k hk => ⟨hk, hoth k (fun he => g2 (he ▸ hk))⟩, Nat.le_refl _, fun g hg => ⟨rfl, rfl⟩, by omega, ho, ht, hout, ?_, fun k hk hn => hoth k fun he => hn ⟨id, b, hb, he.symm⟩, ?_, fun k hk => .inl hk⟩
    · intro i g b' hg hlk
      rcases look_set hb hlk with ⟨_, h⟩ | ⟨rfl, rfl, rfl⟩
      · exact ⟨b', h, rfl, rfl⟩
      · exact ⟨b, look_of hb, hl.symm, rfl⟩
    · rintro k ⟨i, blk, h1, h2⟩
      left
      by_cases he : i = id
      · subst he
        rw [List.getElem?_set_self (List.getElem?_eq_some_iff.1 hb).1] at h1
        cases h1
        exact ⟨i, b, hb, h2⟩
      · rw [List.getElem?_set_ne (fun h => he h.symm)] at h1
        exact ⟨i, blk, h1, h2⟩
  have hlt : id < H.length := (List.getElem?_eq_some_iff.1 hb).1
  have key : ∀ (i : Nat) (c : Blk), (H.set id (some ⟨b.g, b.sz, cs⟩))[i]? = some (some c) → (i ≠ id ∧ H[i]? = some (some c)) ∨ (i = id ∧ c = ⟨b.g, b.sz, cs⟩) := by
    intro i c hi
    by_cases he : i = id
    · subst he
      rw [List.getElem?_set_self hlt] at hi
      cases hi
      exact .inr ⟨rfl, rfl⟩
    · rw [List.getElem?_set_ne (fun h => he h.symm)] at hi
      exact .inl ⟨he, hi⟩
  refine ⟨⟨fun k hk => by rw [hsz]; exact R.imm k hk, fun i c hi => ?_, fun i i' c c' hi hi' heq => ?_⟩, E⟩
  · rcases key i c hi with ⟨hne, hi⟩ | ⟨rfl, rfl⟩
    · obtain ⟨h1, h2, cc', t', h3, h4, h5, h6⟩ := R.blk i c hi
      refine ⟨h1, h2, cc', t', ?_, h4, h5, fun j hj => ?_⟩
      · rw [hoth _ (fun he => hne (R.inj i id c b hi hb he))]; exact h3
      · obtain ⟨u, h7, h8⟩ := h6 j hj
        exact ⟨u, h7, h8.mono E⟩
    · refine ⟨g1, g2, cc, t, hh, hcc, by simp only; omega, fun j hj => ?_⟩
      obtain ⟨u, h7, h8⟩ := hc j hj
      exact ⟨u, h7, h8.mono E⟩
  · rcases key i c hi with ⟨_, k1⟩ | ⟨e1, e2⟩ <;> rcases key i' c' hi' with ⟨_, k2⟩ | ⟨e3, e4⟩
    · exact R.inj _ _ _ _ k1 k2 heq
    · rw [e4] at heq
      rw [e3]
      exact R.inj _ _ c b k1 hb heq
    · rw [e2] at heq
      rw [e1]
      exact R.inj _ _ b c' hb k2 heq
    · rw [e1, e3]

/-- A block takes a new name: what it was known by before is no longer told. The new place is the old one, or a new one. -/
theorem ren_block {w w' : World} {X : Cx} {H : Heap} (R : HRel w X H) {id : Nat} {b : Blk} (hb : H[id]? = some (some b)) {sz' : Nat} {cs : List CV} {cc : Array Value} {t : TypeId} {p : Nat}
    (hp : p = X.mu b.g ∨ p = w.heap.size)
    (hh : w'.heap[p]? = some (.cells cc t (0, 0))) (hoth : ∀ k, k < w.heap.size → k ≠ p → w'.heap[k]? = w.heap[k]?) (hsz : w.heap.size ≤ w'.heap.size)
    (ho : w'.os = w.os) (ht : w'.tape = w.tape) (hout : w'.output = w.output) (hl : cs.length ≤ cc.size)
    (hc : ∀ j (h : j < cs.length), ∃ u, cc[j]? = some u ∧ VC w X H cs[j] u) :
    HRel w' (X.new p cc.size) (H.set id (some ⟨X.t, sz', cs⟩)) ∧ Ev w X H w' (X.new p cc.size) (H.set id (some ⟨X.t, sz', cs⟩)) := by
  obtain ⟨g1, g2, cc0, t0, g3, g4, g5, g6⟩ := R.blk id b hb
  have hpI : ¬ X.I p := by
    rcases hp with rfl | rfl
    · exact g2
    · intro hI; exact absurd (R.imm _ hI) (Nat.lt_irrefl _)
  have E : Ev w X H w' (X.new p cc.size) (H.set id (some ⟨X.t, sz', cs⟩)) := by
    refine ⟨fun k hk => ⟨hk, hoth k (R.imm k hk) (fun he => hpI (he ▸ hk))⟩, Nat.le_succ _, fun g hg => ?_, hsz, ho, ht, hout, ?_, fun k hk hn => hoth k hk ?_, ?_, fun k hk => .inl hk⟩
    · simp only [Cx.new]
      rw [if_neg (by omega), if_neg (by omega)]
      exact ⟨rfl, rfl⟩
    · intro i g b' hg hlk
      rcases look_set hb hlk with ⟨_, h⟩ | ⟨rfl, rfl, rfl⟩
      · exact ⟨b', h, rfl, rfl⟩
      · exact absurd hg (Nat.lt_irrefl _)
    · rintro rfl
      rcases hp with hp | hp
      · exact hn ⟨id, b, hb, hp.symm⟩
      · omega
    · rintro k ⟨i, blk, h1, h2⟩
      by_cases he : i = id
      · subst he
        rw [List.getElem?_set_self (List.getElem?_eq_some_iff.1 hb).1] at h1
        cases h1
        simp only [Cx.new, if_true] at h2
        subst h2
        rcases hp with hp | hp
        · exact .inl ⟨i, b, hb, hp.symm⟩
        · exact .inr (by omega)
      · rw [List.getElem?_set_ne (fun h => he h.symm)] at h1
        refine .inl ⟨i, blk, h1, ?_⟩
        rw [← h2]
        simp only [Cx.new]
        rw [if_neg (by have := (R.blk i blk h1).1; omega)]
  have hlt : id < H.length := (List.getElem?_eq_some_iff.1 hb).1
  have key : ∀ (i : Nat) (c : Blk), (H.set id (some ⟨X.t, sz', cs⟩))[i]? = some (some c) → (i ≠ id ∧ H[i]? = some (some c) ∧ (X.new p cc.size).mu c.g = X.mu c.g ∧ X.mu c.g ≠ p) ∨ (i = id ∧ c = ⟨X.t, sz', cs⟩) := by
    intro i c hi
    by_cases he : i = id
    · subst he
      rw [List.getElem?_set_self hlt] at hi
      cases hi
      exact .inr ⟨rfl, rfl⟩
    · rw [List.getElem?_set_ne (fun h => he h.symm)] at hi
      obtain ⟨h1, h2, cc', t', h3, _⟩ := R.blk i c hi
      refine .inl ⟨he, hi, (E.mu c.g h1).1, fun hq => ?_⟩
      rcases hp with hp | hp
      · exact he (R.inj i id c b hi hb (hq.trans hp))
      · have := (Array.getElem?_eq_some_iff.1 h3).1
        omega
  refine ⟨⟨fun k hk => Nat.lt_of_lt_of_le (R.imm k hk) hsz, fun i c hi => ?_, fun i i' c c' hi hi' heq => ?_⟩, E⟩
  · rcases key i c hi with ⟨hne, hi, hm, hq⟩ | ⟨rfl, rfl⟩
    · obtain ⟨h1, h2, cc', t', h3, h4, h5, h6⟩ := R.blk i c hi
      refine ⟨Nat.lt_succ_of_lt h1, by rw [hm]; exact h2, cc', t', ?_, by rw [(E.mu c.g h1).2]; exact h4, h5, fun j hj => ?_⟩
      · rw [hm, hoth _ (Array.getElem?_eq_some_iff.1 h3).1 hq]; exact h3
      · obtain ⟨u, h7, h8⟩ := h6 j hj
        exact ⟨u, h7, h8.mono E⟩
    · refine ⟨Nat.lt_succ_self _, by simp only [Cx.new, if_true]; exact hpI, cc, t, by simp only [Cx.new, if_true]; exact hh, by simp only [Cx.new, if_true], hl, fun j hj => ?_⟩
      obtain ⟨u, h7, h8⟩ := hc j hj
      exact ⟨u, h7, h8.mono E⟩
  · rcases key i c hi with ⟨_, hi, hm, hq⟩ | ⟨rfl, rfl⟩ <;> rcases key i' c' hi' with ⟨_, hi', hm', hq'⟩ | ⟨rfl, rfl⟩
    · rw [hm, hm'] at heq
      exact R.inj _ _ _ _ hi hi' heq
    · rw [hm] at heq
      simp only [Cx.new, if_true] at heq
      exact absurd heq hq
    · rw [hm'] at heq
      simp only [Cx.new, if_true] at heq
      exact absurd heq.symm hq'
    · rfl
end Go.Lg

/- The operations that change the heap, and calls: each with what must be shown of it. -/
set_option linter.unusedSimpArgs false
set_option linter.unusedVariables false
namespace Go.Lg

/-- Whatever the operation makes of the state meets K. -/
def OpS (P : Program) (o : Oper) (st : St) (K : AV → Heap → Prop) : Prop :=
  ∀ w X a, Rel w X a st → ∀ (next : Act → World → Prop) (Q : Exit → Act → World → Prop),
    (∀ v u X' H' w', VA w' X' H' v u → HRel w' X' H' → Ev w X st.h w' X' H' → K v H' → next (a.put o.dst u) w') → o.wp P a w next Q

theorem OpS.val {P : Program} {o : Oper} {st : St} {K : AV → Heap → Prop} {v : AV} (h : opV P st.s st.h o.op = some v) (hk : K v st.h) : OpS P o st K := by
  intro w X a R next Q hn
  obtain ⟨u, h1, h2⟩ := opV_sound (P := P) R h
  unfold Oper.wp
  rw [h1 w (Grow.refl w) o rfl, Oper.upon_value]
  exact hn v u X st.h w h2 R.heap (Ev.refl _ _ _) hk

def avCells : AV → Option (List CV)
  | .c c => some [c]
  | .agg cs => some cs
  | _ => none

theorem avCells_sound {w : World} {X : Cx} {H : Heap} {v : AV} {u : Value} {l : List CV} (h : avCells v = some l) (hv : VA w X H v u) :
    u.cells.size = l.length ∧ (∀ j (h : j < l.length), ∃ x, u.cells[j]? = some x ∧ VC w X H l[j] x) ∧ ∀ x ∈ u.cells.toList, x.oneCell' = true := by
  cases hv with
  | c x u hx =>
    cases h
    have h1 := hx.one
    have hu : u.cells = #[u] := by cases u <;> first | rfl | (simp [Value.oneCell'] at h1)
    rw [hu]
    refine ⟨rfl, fun j hj => ?_, fun x hx => by simp at hx; subst hx; exact h1⟩
    have : j = 0 := by simp at hj; omega
    subst this
    exact ⟨u, rfl, hx⟩
  | agg cs vs hs hc =>
    cases h
    refine ⟨hs, hc, fun x hx => ?_⟩
    obtain ⟨j, hj, rfl⟩ := List.mem_iff_getElem.1 hx
    simp only [Value.cells, Array.length_toList] at hj
    obtain ⟨y, h1, h2⟩ := hc j (by omega)
    have : (vs.toList[j]'(by simpa using hj)) = y := by
      simp only [Array.getElem_toList]
      simpa [hj] using h1
    simp only [Value.cells]
    rw [this]
    exact h2.one
  | _ => cases h

theorem cvOf_one {v : Value} {x : CV} (h : cvOf v = some x) : v.oneCell' = true := VC.one (w := default) (X := ⟨id, id, fun _ => False, 0⟩) (H := []) (cvOf_sound h)

/-- The zero cells of a type, as the machine has them. -/
theorem zero_sound {P : Program} {t : TypeId} {ti : TI} (h : tinf P t = some ti) : ∃ z, (∀ w, (zeroValue t).run P w = .ok z w) ∧ z.cells.size = ti.zero.length ∧
    ∀ (w : World) (X : Cx) (H : Heap) j (h : j < ti.zero.length), ∃ x, z.cells[j]? = some x ∧ VC w X H ti.zero[j] x := by
  obtain ⟨i, d, z, hi, hd, hz, hm, h1, h2, h3⟩ := tinf_some h
  obtain ⟨hl, hg⟩ := mapM_get hm
  refine ⟨z, fun w => by simp [zeroValue, typeInfo, hi, hz], by simpa using hl.symm, fun w X H j hj => ?_⟩
  obtain ⟨y, h4, h5⟩ := hg j (by omega)
  have : ti.zero[j] = y := by simpa [List.getElem?_eq_getElem hj] using h4
  rw [this]
  exact ⟨z.cells.toList[j]'(by omega), by simp at hl; simp [← hl, hj], cvOf_sound h5⟩

theorem wp_value {P : Program} {o : Oper} {a : Act} {w w' : World} {u : Value} {next : Act → World → Prop} {Q : Exit → Act → World → Prop} (h : (execOp a.eval o).run P w = .ok (.value u) w') (hn : next (a.put o.dst u) w') : o.wp P a w next Q := by
  unfold Oper.wp; rw [h, Oper.upon_value]; exact hn
theorem wp_skipv {P : Program} {o : Oper} {a : Act} {w w' : World} {next : Act → World → Prop} {Q : Exit → Act → World → Prop} (h : (execOp a.eval o).run P w = .ok .skip w') (hn : next (a.put o.dst undef) w') : o.wp P a w next Q := by
  unfold Oper.wp; rw [h, Oper.upon_skip]; exact hn

/-- What a new block is at hand with: its pointer. -/
theorem new_ptr {w w' : World} {X : Cx} {H : Heap} {sz c : Nat} {cs : List CV} : VA w' (X.new w.heap.size c) (H ++ [some ⟨X.t, sz, cs⟩]) (.c (.ptr H.length X.t 0)) (.pointer (some ⟨w.heap.size, 0, none⟩)) :=
  .c _ _ ⟨Nat.lt_succ_self _, rfl, fun _ => by simp [Cx.new]⟩

theorem OpS.alloc {P : Program} {o : Oper} {st : St} {K : AV → Heap → Prop} {t : TypeId} {ti : TI} (ho : o.op = .alloc t) (ht : tinf P t = some ti)
    (hk : ∀ g, K (.c (.ptr st.h.length g 0)) (st.h ++ [some ⟨g, ti.size, ti.zero⟩])) : OpS P o st K := by
  intro w X a R next Q hn
  obtain ⟨z, hz, hzs, hzc⟩ := zero_sound ht
  have hrun : (execOp a.eval o).run P w = .ok (.value (.pointer (some ⟨w.heap.size, 0, none⟩))) (w.alloc (.cells z.cells t)) := by
    simp only [execOp, ho, Instr.alloc, Sem.run_bind, hz, Result.andThen_ok]
    simp [newVar, newRow]
  obtain ⟨h1, h2⟩ := new_block (w' := w.alloc (.cells z.cells t)) R.heap (sz := ti.size) (t := t) (cs := ti.zero) (cc := z.cells) rfl rfl rfl rfl (by omega) (fun j hj => hzc w X st.h j hj)
  exact wp_value hrun (hn _ _ _ _ _ new_ptr h1 h2 (hk _))

theorem OpS.box {P : Program} {o : Oper} {st : St} {K : AV → Heap → Prop} {t : TypeId} {x : Operand} {cs : List CV} (ho : o.op = .box t x) (hx : avCells (evO st.s x) = some cs)
    (hk : ∀ g, K (.c (.ptr st.h.length g 0)) (st.h ++ [some ⟨g, 1, cs⟩])) : OpS P o st K := by
  intro w X a R next Q hn
  obtain ⟨h1, h2, h3⟩ := avCells_sound hx (evO_sound R x)
  have hrun : (execOp a.eval o).run P w = .ok (.value (.pointer (some ⟨w.heap.size, 0, none⟩))) (w.alloc (.cells (a.eval x).cells t)) := by
    simp [execOp, ho, Instr.box, newVar, newRow]
  obtain ⟨h4, h5⟩ := new_block (w' := w.alloc (.cells (a.eval x).cells t)) R.heap (sz := 1) (t := t) (cs := cs) (cc := (a.eval x).cells) rfl rfl rfl rfl (by omega) h2
  exact wp_value hrun (hn _ _ _ _ _ new_ptr h4 h5 (hk _))

/-- Cells written over others from a place on. -/
def setRange (l : List CV) (o : Nat) (m : List CV) : List CV := l.take o ++ m ++ l.drop (o + m.length)

theorem setRange_length {l m : List CV} {o : Nat} (h : o + m.length ≤ l.length) : (setRange l o m).length = l.length := by
  simp [setRange]; omega

theorem setRange_get {l m : List CV} {o : Nat} (h : o + m.length ≤ l.length) (j : Nat) (hj : j < (setRange l o m).length) :
    (j < o ∧ ∃ h : j < l.length, (setRange l o m)[j] = l[j]) ∨ (∃ h : j - o < m.length, o ≤ j ∧ (setRange l o m)[j] = m[j - o]) ∨ (o + m.length ≤ j ∧ ∃ h : j < l.length, (setRange l o m)[j] = l[j]) := by
  have hl := setRange_length h
  by_cases h1 : j < o
  · refine .inl ⟨h1, by omega, ?_⟩
    simp only [setRange, List.append_assoc]
    rw [List.getElem_append_left (by simp; omega)]
    simp
  · by_cases h2 : j < o + m.length
    · refine .inr (.inl ⟨by omega, by omega, ?_⟩)
      simp only [setRange, List.append_assoc]
      rw [List.getElem_append_right (by simp; omega)]
      rw [List.getElem_append_left (by simp; omega)]
      congr 1
      simp; omega
    · refine .inr (.inr ⟨by omega, by omega, ?_⟩)
      simp only [setRange]
      rw [List.getElem_append_right (by simp; omega)]
      simp only [List.getElem_drop]
      congr 1
      simp; omega

theorem setRow_get {l : Array Value} {m : List Value} {o j : Nat} (h : o + m.length ≤ l.size) :
    (l.toList.take o ++ m ++ l.toList.drop (o + m.length)).toArray[j]? = if o ≤ j ∧ j < o + m.length then m[j - o]? else l[j]? := by
  simp only [List.getElem?_toArray]
  split
  · rename_i hc
    rw [List.append_assoc, List.getElem?_append_right (by simp; omega), List.getElem?_append_left (by simp; omega)]
    congr 1
    simp; omega
  · rename_i hc
    by_cases h1 : j < o
    · rw [List.append_assoc, List.getElem?_append_left (by simp; omega)]
      rw [List.getElem?_take_of_lt h1]
      simp
    · rw [List.getElem?_append_right (by simp; omega), List.getElem?_drop]
      have : o + m.length + (j - (List.take o l.toList ++ m).length) = j := by simp; omega
      rw [this]
      simp

theorem setRow_world (w : World) (g : Nat) (cur cs : Array Value) (t : TypeId) (fr : Nat × Nat) (hg : w.heap[g]? = some (.cells cur t fr)) :
    (w.setRow g cs).heap[g]? = some (.cells cs t fr) ∧ (∀ k, k ≠ g → (w.setRow g cs).heap[k]? = w.heap[k]?) ∧ (w.setRow g cs).heap.size = w.heap.size := by
  refine ⟨?_, fun k hk => ?_, by simp [World.setRow]⟩
  · simp [World.setRow, Array.getElem?_modify, hg]
  · simp only [World.setRow, Array.getElem?_modify]
    rw [if_neg (fun h => hk h.symm)]

/-- Cells written into a block of the call's own. -/
theorem put_cells {w : World} {X : Cx} {H : Heap} (R : HRel w X H) {id g : Nat} {b : Blk} (hl : look H id g = some b) {o : Nat} {cs : List CV} {vs : List Value} (hvl : vs.length = cs.length) (ho : o + cs.length ≤ b.cs.length)
    (hv : ∀ j (h : j < cs.length), ∃ x, vs[j]? = some x ∧ VC w X H cs[j] x) (h1 : ∀ x ∈ vs, x.oneCell' = true) :
    ∃ w', (∀ P, (storeCells ⟨X.mu g, o, none⟩ vs).run P w = .ok () w') ∧ HRel w' X (H.set id (some ⟨b.g, b.sz, setRange b.cs o cs⟩)) ∧ Ev w X H w' X (H.set id (some ⟨b.g, b.sz, setRange b.cs o cs⟩)) := by
  obtain ⟨hid, hgg⟩ := look_some hl
  subst hgg
  obtain ⟨g1, g2, cc, t, g3, g4, g5, g6⟩ := R.blk id b hid
  have hle : o + vs.length ≤ cc.size := by omega
  obtain ⟨k1, k2, k3⟩ := setRow_world w (X.mu b.g) cc (cc.toList.take o ++ vs ++ cc.toList.drop (o + vs.length)).toArray t (0, 0) g3
  refine ⟨_, fun P => ?_, upd_block R hid k1 k2 k3 rfl rfl rfl (by simp; omega) (setRange_length ho) fun j hj => ?_⟩
  · have := run_storeCells_at (P := P) (X.mu b.g) o t vs 0 cc w g3 (by simpa using hle) h1
    simpa using this
  · rw [setRow_get hle]
    rcases setRange_get ho j hj with ⟨h2, h3, h4⟩ | ⟨h2, h3, h4⟩ | ⟨h2, h3, h4⟩
    · rw [if_neg (by omega), h4]; exact g6 j h3
    · rw [if_pos (by omega), h4]; exact hv _ h2
    · rw [if_neg (by omega), h4]; exact g6 j h3

theorem OpS.store {P : Program} {o : Oper} {st : St} {K : AV → Heap → Prop} {t : TypeId} {ti : TI} {p x : Operand} {id g off : Nat} {b : Blk} {cs : List CV} (ho : o.op = .store t p x) (ht : tinf P t = some ti)
    (hp : evO st.s p = .c (.ptr id g off)) (hl : look st.h id g = some b) (hx : avCells (evO st.s x) = some cs) (hs : cs.length = ti.size) (hle : off + cs.length ≤ b.cs.length)
    (hk : K .void (st.h.set id (some ⟨b.g, b.sz, setRange b.cs off cs⟩))) : OpS P o st K := by
  intro w X a R next Q hn
  obtain ⟨h1, h2, h3⟩ := avCells_sound hx (evO_sound R x)
  have hpv := evO_sound R p
  rw [hp] at hpv
  have hpe := (va_c hpv).2.2 (by rw [hl]; rfl)
  obtain ⟨w', h4, h5, h6⟩ := put_cells R.heap hl (o := off) (cs := cs) (vs := (a.eval x).cells.toList) (by simpa using h1) hle (fun j hj => by obtain ⟨y, h7, h8⟩ := h2 j hj; exact ⟨y, by simpa using h7, h8⟩) h3
  have hrun : (execOp a.eval o).run P w = .ok .skip w' := by
    have hsz : ¬ ((a.eval x).cells.size ≠ ti.size) := by omega
    simp only [execOp, ho, Instr.storeAt, hpe, Instr.sureAddr, Sem.run_bind, Sem.run_pure, Result.andThen_ok, storeVar, run_sizeOf' ht, Sem.run_ite, if_neg hsz, h4]
  exact wp_skipv hrun (hn .void undef _ _ _ .void h5 h6 hk)
end Go.Lg

/- Literals, make. -/
set_option linter.unusedSimpArgs false
set_option linter.unusedVariables false
namespace Go.Lg

theorem foldl_set_get (off : Nat) : ∀ (vs : List Value) (k : Nat) (cells : Array Value), off + k + vs.length ≤ cells.size →
    ((vs.zipIdx k).foldl (fun cs (x : Value × Nat) => cs.setIfInBounds (off + x.2) x.1) cells).size = cells.size ∧
    ∀ j, ((vs.zipIdx k).foldl (fun cs (x : Value × Nat) => cs.setIfInBounds (off + x.2) x.1) cells)[j]? = if off + k ≤ j ∧ j < off + k + vs.length then vs[j - (off + k)]? else cells[j]?
  | [], k, cells, _ => ⟨rfl, fun j => by rw [if_neg (by simp only [List.length_nil]; omega)]; rfl⟩
  | v :: vs, k, cells, h => by
    simp only [List.length_cons] at h
    obtain ⟨h1, h2⟩ := foldl_set_get off vs (k + 1) (cells.setIfInBounds (off + k) v) (by simp only [Array.size_setIfInBounds]; omega)
    simp only [List.zipIdx_cons, List.foldl_cons]
    refine ⟨by rw [h1]; simp, fun j => ?_⟩
    rw [h2]
    simp only [List.length_cons]
    by_cases hj : j = off + k
    · subst hj
      rw [if_neg (by omega), if_pos (by omega), Array.getElem?_setIfInBounds_self_of_lt (by omega)]
      simp
    · rw [Array.getElem?_setIfInBounds_ne (by omega)]
      by_cases hc : off + (k + 1) ≤ j ∧ j < off + (k + 1) + vs.length
      · rw [if_pos hc, if_pos (by omega)]
        have : j - (off + k) = (j - (off + (k + 1))) + 1 := by omega
        rw [this]
        simp
      · rw [if_neg hc, if_neg (by omega)]

def fillG (place : Nat → Option (Nat × Nat)) : List CV → List (Nat × List CV) → Option (List CV)
  | l, [] => some l
  | l, (i, cs) :: rest => match place i with
    | none => none
    | some (off, size) => if cs.length = size ∧ off + size ≤ l.length then fillG place (setRange l off cs) rest else none

def partsV (s : List AV) : List (Nat × Operand) → Option (List (Nat × List CV))
  | [] => some []
  | (i, x) :: rest => match avCells (evO s x), partsV s rest with
    | some cs, some r => some ((i, cs) :: r)
    | _, _ => none

theorem fill_sound {w : World} {X : Cx} {a : Act} {st : St} (R : Rel w X a st) {place : Nat → Option (Nat × Nat)} : ∀ (ps : List (Nat × Operand)) (l : List CV) (cells : Array Value) (rs : List (Nat × List CV)) (r : List CV),
    partsV st.s ps = some rs → fillG place l rs = some r → cells.size = l.length → (∀ j (h : j < l.length), ∃ x, cells[j]? = some x ∧ VC w X st.h l[j] x) →
    ∃ out, Instr.fill place cells (ps.map fun p => (p.1, a.eval p.2)) = some out ∧ out.size = r.length ∧ ∀ j (h : j < r.length), ∃ x, out[j]? = some x ∧ VC w X st.h r[j] x
  | [], l, cells, rs, r, h1, h2, h3, h4 => by
    cases h1
    cases h2
    exact ⟨cells, rfl, h3, h4⟩
  | (i, x) :: ps, l, cells, rs, r, h1, h2, h3, h4 => by
    unfold partsV at h1
    split at h1
    · rename_i cs r' e1 e2
      cases h1
      unfold fillG at h2
      split at h2
      · cases h2
      · rename_i off size hp
        split at h2
        · rename_i hc
          obtain ⟨hc1, hc2⟩ := hc
          obtain ⟨k1, k2, k3⟩ := avCells_sound e1 (evO_sound R x)
          obtain ⟨q1, q2⟩ := foldl_set_get off (a.eval x).cells.toList 0 cells (by simp; omega)
          have hle : off + cs.length ≤ l.length := by omega
          obtain ⟨out, o1, o2, o3⟩ := fill_sound R ps (setRange l off cs) (((a.eval x).cells.toList.zipIdx 0).foldl (fun cs (x : Value × Nat) => cs.setIfInBounds (off + x.2) x.1) cells) r' r e2 h2 (by rw [q1, setRange_length hle]; exact h3) (fun j hj => by
            rw [q2]
            rcases setRange_get hle j hj with ⟨p1, p2, p3⟩ | ⟨p1, p2, p3⟩ | ⟨p1, p2, p3⟩
            · rw [if_neg (by omega), p3]; exact h4 j p2
            · rw [if_pos (by simp; omega), p3]
              obtain ⟨y, y1, y2⟩ := k2 _ p1
              exact ⟨y, by simpa using y1, y2⟩
            · rw [if_neg (by simp; omega), p3]; exact h4 j p2)
          refine ⟨out, ?_, o2, o3⟩
          simp only [List.map_cons, Instr.fill, hp]
          rw [if_neg (by simp; omega)]
          rw [← o1]
          congr 1
          rw [← Array.foldl_toList, Array.toList_zipIdx]
        · cases h2
    · cases h1

/-- So many zero cells, the type's own over and over. -/
def zerosL (n : Nat) (z : List CV) : List CV := (List.range n).map fun j => z.getD (j % z.length) (.f .nil)

theorem zerosL_one (n : Nat) (c : CV) : zerosL n [c] = List.replicate n c := by
  simp only [zerosL, List.length_singleton, Nat.mod_one]
  apply List.ext_getElem
  · simp
  · intro i h1 h2
    simp

theorem zerosL_sound {w : World} {X : Cx} {H : Heap} {z : Array Value} {zs : List CV} (hl : z.size = zs.length) (hz : ∀ j (h : j < zs.length), ∃ x, z[j]? = some x ∧ VC w X H zs[j] x) (n : Nat) (hn : n ≠ 0 → zs.length ≠ 0) :
    ((Array.range n).map (z[· % z.size]!)).size = (zerosL n zs).length ∧ ∀ j (h : j < (zerosL n zs).length), ∃ x, ((Array.range n).map (z[· % z.size]!))[j]? = some x ∧ VC w X H (zerosL n zs)[j] x := by
  refine ⟨by simp [zerosL], fun j hj => ?_⟩
  simp only [zerosL, List.length_map, List.length_range] at hj
  have h0 := hn (by omega)
  have hlt : j % zs.length < zs.length := Nat.mod_lt _ (by omega)
  obtain ⟨x, h1, h2⟩ := hz _ hlt
  refine ⟨x, ?_, ?_⟩
  · simp only [Array.getElem?_map]
    rw [Array.getElem?_range]
    simp only [hj, if_true, Option.map_some, hl]
    rw [Array.getElem!_eq_getD, Array.getD_eq_getD_getElem?, h1]
    rfl
  · simp only [zerosL, List.getElem_map, List.getElem_range, List.getD, List.getElem?_eq_getElem hlt, Option.getD_some]
    exact h2

/-- A value in new memory: what it is at hand with. -/
theorem new_own {w w' : World} {X : Cx} {H : Heap} {sz c n cap : Nat} {cs : List CV} (h1 : n * sz ≤ cs.length) (h2 : n ≤ cap) (h3 : cap * sz ≤ c) (h4 : cs.length ≤ cap * sz) :
    VA w' (X.new w.heap.size c) (H ++ [some ⟨X.t, sz, cs⟩]) (.c (.own H.length X.t 0 n none)) (.slice (some ⟨w.heap.size, 0, none⟩) n cap) := by
  refine .c _ _ ⟨Nat.lt_succ_self _, rfl, fun blk hblk => ?_⟩
  obtain ⟨h5, h6⟩ := look_some hblk
  simp at h5
  subst h5
  exact ⟨by simpa using h1, _, _, rfl, h2, fun _ => by simp [Cx.new], by simpa [Cx.new] using h3, by simpa using h4⟩

theorem OpS.buildSlice {P : Program} {o : Oper} {st : St} {K : AV → Heap → Prop} {t e : TypeId} {ti ei : TI} {n : Nat} {parts : Array (Nat × Operand)} {rs : List (Nat × List CV)} {cs : List CV}
    (ho : o.op = .buildSlice t n parts) (ht : tinf P t = some ti) (hk : ti.k = .slice e) (he : tinf P e = some ei) (hz : ei.zero.length = ei.size) (hp : partsV st.s parts.toList = some rs)
    (hf : fillG (fun i => some (i * ei.size, ei.size)) (zerosL (n * ei.size) ei.zero) rs = some cs) (h24 : n * ei.size ≤ 16777216)
    (hK : ∀ g, K (.c (.own st.h.length g 0 n none)) (st.h ++ [some ⟨g, ei.size, cs⟩])) : OpS P o st K := by
  intro w X a R next Q hn
  obtain ⟨inf, d, z', h1, h2, h3, h4, h5, h6, h7⟩ := tinf_some ht
  rw [h5] at hk; cases tk_slice hk
  obtain ⟨z, hz1, hz2, hz3⟩ := zero_sound he
  have hz0 : n * ei.size ≠ 0 → ei.zero.length ≠ 0 := fun h => by rw [hz]; intro h0; rw [h0] at h; exact h (Nat.mul_zero _)
  obtain ⟨q1, q2⟩ := zerosL_sound (w := w) (X := X) (H := st.h) hz2 (hz3 w X st.h) (n * ei.size) hz0
  obtain ⟨out, o1, o2, o3⟩ := fill_sound R parts.toList (zerosL (n * ei.size) ei.zero) ((Array.range (n * ei.size)).map (z.cells[· % z.cells.size]!)) rs cs hp hf q1 q2
  have hlen : cs.length = n * ei.size := by
    have : ∀ (rs : List (Nat × List CV)) (l r : List CV), fillG (fun i => some (i * ei.size, ei.size)) l rs = some r → r.length = l.length := by
      intro rs
      induction rs with
      | nil => intro l r h; cases h; rfl
      | cons p rs ih =>
        intro l r h
        obtain ⟨i, c⟩ := p
        simp only [fillG] at h
        split at h
        · rename_i hc
          rw [ih _ _ h, setRange_length (by omega)]
        · cases h
    rw [this _ _ _ hf]; simp [zerosL]
  have hrun : (execOp a.eval o).run P w = .ok (.value (.slice (some ⟨w.heap.size, 0, none⟩) n n)) (w.alloc (.cells out e)) := by
    have h24' : ¬ (n * ei.size > 2 ^ 24) := by simpa using h24
    have hparts : (parts.map fun p => (p.1, a.eval p.2)).toList = parts.toList.map fun p => (p.1, a.eval p.2) := by simp
    simp only [execOp, ho, Instr.buildSlice, Sem.run_bind, run_underlying h2, Result.andThen_ok, run_sizeOf' he, Sem.run_ite, if_neg h24', Sem.run_pure]
    by_cases h0 : n * ei.size = 0
    · simp only [h0, if_true, Result.andThen_ok] at o1 ⊢
      have e0 : (Array.range 0).map ((#[] : Array Value)[· % (#[] : Array Value).size]!) = (Array.range 0).map (z.cells[· % z.cells.size]!) := by simp
      rw [e0, hparts, o1]
      simp [newRow]
    · simp only [if_neg h0, hz1, Result.andThen_ok, Sem.run_bind, Sem.run_pure]
      rw [hparts, o1]
      simp [newRow]
  obtain ⟨k1, k2⟩ := new_block (w' := w.alloc (.cells out e)) R.heap (sz := ei.size) (t := e) (cs := cs) (cc := out) rfl rfl rfl rfl (by omega) o3
  exact wp_value hrun (hn _ _ _ _ _ (new_own (by omega) (Nat.le_refl _) (by omega) (by omega)) k1 k2 (hK _))

theorem OpS.makeSlice {P : Program} {o : Oper} {st : St} {K : AV → Heap → Prop} {t e : TypeId} {ti ei : TI} {x y : Operand} {k k' : IntKind} {l c : Int}
    (ho : o.op = .makeSlice t x y) (ht : tinf P t = some ti) (hk : ti.k = .slice e) (he : tinf P e = some ei) (hz : ei.zero.length = ei.size)
    (hx : evO st.s x = .c (.f (.int k l))) (hy : evO st.s y = .c (.f (.int k' c))) (h0 : 0 ≤ l) (h1 : l ≤ c) (h63 : c ≤ 9223372036854775807) (h48 : ei.bytes * c ≤ 281474976710656)
    (hK : ∀ g, K (.c (.own st.h.length g 0 l.toNat none)) (st.h ++ [some ⟨g, ei.size, zerosL (l.toNat * ei.size) ei.zero⟩])) : OpS P o st K := by
  intro w X a R next Q hn
  obtain ⟨inf, d, z', i1, i2, i3, i4, i5, i6, i7⟩ := tinf_some ht
  rw [i5] at hk; cases tk_slice hk
  obtain ⟨infe, de, ze', e1, e2, e3, e4, e5, e6, e7⟩ := tinf_some he
  obtain ⟨z, hz1, hz2, hz3⟩ := zero_sound he
  have hxv := evO_sound R x
  have hyv := evO_sound R y
  rw [hx] at hxv; rw [hy] at hyv
  have hz0 : c.toNat * ei.size ≠ 0 → ei.zero.length ≠ 0 := fun h => by rw [hz]; intro h0; rw [h0] at h; exact h (Nat.mul_zero _)
  obtain ⟨q1, q2⟩ := zerosL_sound (w := w) (X := X) (H := st.h) hz2 (hz3 w X st.h) (c.toNat * ei.size) hz0
  have hw1 : IntKind.i64.wrap l = l := by
    simp only [IntKind.wrap, IntKind.bits, IntKind.signed]
    have : l % 2 ^ 64 = l := Int.emod_eq_of_lt h0 (by omega)
    simp [this]; omega
  have hw2 : IntKind.i64.wrap c = c := by
    simp only [IntKind.wrap, IntKind.bits, IntKind.signed]
    have : c % 2 ^ 64 = c := Int.emod_eq_of_lt (by omega) (by omega)
    simp [this]; omega
  let out := (Array.range (c.toNat * ei.size)).map (z.cells[· % z.cells.size]!)
  have hrun : (execOp a.eval o).run P w = .ok (.value (.slice (some ⟨w.heap.size, 0, none⟩) l.toNat c.toNat)) (w.alloc (.cells out e)) := by
    have n1 : ¬ ((c < 0 ∨ (281474976710656 : Int) < infe.bytes * c) ∨ l < 0 ∨ c < l) := by rw [← e7]; omega
    have hti : (typeInfo e).run P w = .ok infe w := by simp [typeInfo, e1]
    simp only [execOp, ho, Instr.makeSlice, Sem.run_bind, run_underlying i2, Result.andThen_ok, va_int hxv, va_int hyv, asInt, asIntOf, Sem.run_pure, hti, hw1, hw2]
    rw [if_neg (show ¬ ((decide (c < 0) || decide ((infe.bytes : Int) * c > 2 ^ 48) || decide (l < 0) || decide (l > c)) = true) by simp; omega)]
    by_cases hn0 : c.toNat * ei.size = 0
    · simp only [Sem.run_bind, run_askRoom, Result.andThen_ok, run_sizeOf' he, hn0, if_true, Sem.run_pure]
      have r0 : Array.range 0 = #[] := by simp
      simp only [r0, Array.map_empty, newRow, out, hn0]
      simp
    · simp only [Sem.run_bind, run_askRoom, Result.andThen_ok, run_sizeOf' he, if_neg hn0, Sem.run_pure, hz1]
      simp [newRow, out]
  have hle : l.toNat * ei.size ≤ c.toNat * ei.size := Nat.mul_le_mul_right _ (by omega)
  have hzl : (zerosL (l.toNat * ei.size) ei.zero).length = l.toNat * ei.size := by simp [zerosL]
  have hol : out.size = c.toNat * ei.size := by simp [out]
  obtain ⟨k1, k2⟩ := new_block (w' := w.alloc (.cells out e)) R.heap (sz := ei.size) (t := e) (cs := zerosL (l.toNat * ei.size) ei.zero) (cc := out) rfl rfl rfl rfl (by omega) (fun j hj => by
    obtain ⟨u, u1, u2⟩ := q2 j (by simp [zerosL] at hj ⊢; omega)
    refine ⟨u, u1, ?_⟩
    simp only [zerosL, List.getElem_map, List.getElem_range] at u2 ⊢
    exact u2)
  exact wp_value hrun (hn _ _ _ _ _ (new_own (by omega) (by omega) (by omega) (by omega)) k1 k2 (hK _))
end Go.Lg

/- append. -/
set_option linter.unusedSimpArgs false
set_option linter.unusedVariables false
namespace Go.Lg

/-- How many elements a slice has, and their cells. -/
def elems (H : Heap) (sz : Nat) : AV → Option (Nat × List CV)
  | .c (.f .nil) => some (0, [])
  | .c .emp => some (0, [])
  | .c (.f (.sl n cs)) => if cs.length = n * sz then some (n, cs.map .f) else none
  | .c (.own id g off n _) => match look H id g with
    | some b => if b.sz = sz then some (n, (b.cs.drop off).take (n * sz)) else none
    | none => none
  | _ => none

theorem elems_sound {w : World} {X : Cx} {H : Heap} (R : HRel w X H) {sz n : Nat} {x : AV} {l : List CV} {xv : Value} (h : elems H sz x = some (n, l)) (hx : VA w X H x xv) :
    l.length = n * sz ∧ ∃ (a : Option Addr) (c : Nat) (news : List Value), xv = .slice a n c ∧ n ≤ c ∧ news.length = l.length ∧
      (n ≠ 0 → ∃ ad, a = some ad ∧ ∀ j v, news[j]? = some v → w.cell? (ad.add j) = some v) ∧
      (∀ j (h : j < l.length), ∃ u, news[j]? = some u ∧ VC w X H l[j] u) ∧ ∀ u ∈ news, u.oneCell' = true := by
  unfold elems at h
  split at h
  · cases h
    have := va_c hx; cases this
    exact ⟨by simp, none, 0, [], rfl, Nat.le_refl _, rfl, fun h => absurd rfl h, fun j hj => absurd hj (by simp), by simp⟩
  · cases h
    obtain ⟨a, rfl⟩ := va_c hx
    exact ⟨by simp, a, 0, [], rfl, Nat.le_refl _, rfl, fun h => absurd rfl h, fun j hj => absurd hj (by simp), by simp⟩
  · rename_i n' cs
    split at h
    · rename_i hl
      cases h
      have hx' := va_c hx
      cases hx' with
      | sl0 a cap => exact ⟨by simp, a, cap, [], rfl, Nat.zero_le _, rfl, fun h => absurd rfl h, fun j hj => absurd hj (by simp), by simp⟩
      | sl n cs b o cap u hc hI hu hv =>
        refine ⟨by simpa using hl, some ⟨b, o, none⟩, cap, (List.range cs.length).map u, rfl, hc, by simp, fun _ => ⟨_, rfl, fun j v hj => ?_⟩, fun j hj => ?_, fun v hv' => ?_⟩
        · simp only [List.getElem?_map] at hj
          by_cases hlt : j < cs.length
          · simp [hlt] at hj
            rw [add_plain, hu j hlt, hj]
          · simp [hlt] at hj
        · have hlt : j < cs.length := by simpa using hj
          refine ⟨u j, by simp [hlt], ?_⟩
          simp only [List.getElem_map]
          exact hv j hlt
        · obtain ⟨j, hj, rfl⟩ := List.mem_map.1 hv'
          exact (hv j (by simpa using hj)).one
    · cases h
  · rename_i id g off n' lim
    split at h
    · rename_i b hl
      split at h
      · rename_i hsz
        cases h
        obtain ⟨hg, _, hall⟩ := va_c hx
        obtain ⟨c1, a0, cap, rfl, c2, c3, c4, c5⟩ := hall b hl
        obtain ⟨hid, hgg⟩ := look_some hl
        subst hgg
        obtain ⟨_, _, cc, t, g3, g4, g5, g6⟩ := R.blk id b hid
        subst hsz
        have hlen : ((b.cs.drop off).take (n * b.sz)).length = n * b.sz := by simp; omega
        have hget : ∀ j, j < n * b.sz → ((cc.toList.drop off).take (n * b.sz))[j]? = cc[off + j]? := fun j hj => by
          rw [List.getElem?_take_of_lt hj, List.getElem?_drop]; simp
        refine ⟨hlen, some a0, cap, (cc.toList.drop off).take (n * b.sz), rfl, c2, by rw [hlen]; simp; omega, fun h0 => ⟨a0, rfl, fun j v hj => ?_⟩, fun j hj => ?_, fun v hv' => ?_⟩
        · have hjl : j < n * b.sz := by
            rcases Nat.lt_or_ge j (n * b.sz) with h | h
            · exact h
            · rw [List.getElem?_eq_none (by simp; omega)] at hj; cases hj
          rw [hget j hjl] at hj
          rw [c3 (by omega), add_plain]
          simp [World.cell?, g3, hj]
        · rw [hlen] at hj
          obtain ⟨u, h7, h8⟩ := g6 (off + j) (by omega)
          refine ⟨u, by rw [hget j hj]; exact h7, ?_⟩
          simp only [List.getElem_take, List.getElem_drop]
          exact h8
        · obtain ⟨j, hj, he⟩ := List.mem_iff_getElem.1 hv'
          have hjl : j < n * b.sz := by simp at hj; omega
          obtain ⟨u, h7, h8⟩ := g6 (off + j) (by omega)
          have : v = u := by
            have := hget j hjl
            rw [List.getElem?_eq_getElem hj, he, h7] at this
            exact Option.some.inj this
          rw [this]
          exact h8.one
      · cases h
    · cases h
  · cases h

theorem run_append_zero {P : Program} (w : World) {t ty e : TypeId} {ei : TI} {base a : Option Addr} {n cap c : Nat} (hu : P.underlying t = some (.slice e)) (he : tinf P e = some ei) (h : n ≤ cap) :
    (Builtin.append_ #[t, t] ty #[.slice base n cap, .slice a 0 c]).run P w = .ok (.slice base n cap) w := by
  have hf : (Builtin.firstCells ei.size 0 (.slice a 0 c)).run P w = .ok #[] w := by
    cases a <;> simp [Builtin.firstCells, loadCells, loadCellsFrom]
  cases base <;> simp [Builtin.append_, run_underlying hu, run_sizeOf' he, Builtin.lenOf, h, hf, storeCells]

theorem exec_append {P : Program} {o : Oper} {a : Act} {w w' : World} {t : TypeId} {s x : Operand} {u : Value} (ho : o.op = .call ⟨.builtin .append, #[s, x], #[t, t]⟩)
    (h : (Builtin.append_ #[t, t] o.type #[a.eval s, a.eval x]).run P w = .ok u w') : (execOp a.eval o).run P w = .ok (.value u) w' := by
  simp only [execOp, ho, resolve, Sem.run_bind, Sem.run_pure, Result.andThen_ok, invoke, builtin, List.map_toArray, List.map_cons, List.map_nil]
  rw [h]
  rfl

/-- Nothing is appended. -/
theorem OpS.append_zero {P : Program} {o : Oper} {st : St} {K : AV → Heap → Prop} {t e : TypeId} {ti ei : TI} {s x : Operand} {n : Nat} {l : List CV}
    (ho : o.op = .call ⟨.builtin .append, #[s, x], #[t, t]⟩) (ht : tinf P t = some ti) (hk : ti.k = .slice e) (he : tinf P e = some ei)
    (hs : elems st.h ei.size (evO st.s s) = some (n, l)) (hx : elems st.h ei.size (evO st.s x) = some (0, [])) (hK : K (evO st.s s) st.h) : OpS P o st K := by
  intro w X a R next Q hn
  obtain ⟨inf, d, z', i1, i2, i3, i4, i5, i6, i7⟩ := tinf_some ht
  rw [i5] at hk; cases tk_slice hk
  obtain ⟨_, ba, bc, bn, hb, hb1, _⟩ := elems_sound R.heap hs (evO_sound R s)
  obtain ⟨_, xa, xc, xn, hxe, _⟩ := elems_sound R.heap hx (evO_sound R x)
  have hrun := exec_append ho (w := w) (w' := w) (u := a.eval s) (by rw [hb, hxe]; exact run_append_zero w i2 he hb1)
  exact wp_value hrun (hn _ _ _ _ _ (evO_sound R s) R.heap (Ev.refl _ _ _) hK)

/-- There is no room, for sure: all goes into new memory. -/
def noRoom (n m : Nat) : AV → Bool
  | .c (.f .nil) => true
  | .c .emp => true
  | .c (.own _ _ _ _ (some c)) => c < n + m
  | _ => false

theorem OpS.append_new {P : Program} {o : Oper} {st : St} {K : AV → Heap → Prop} {t e : TypeId} {ti ei : TI} {s x : Operand} {n m : Nat} {l k : List CV}
    (ho : o.op = .call ⟨.builtin .append, #[s, x], #[t, t]⟩) (ht : tinf P t = some ti) (hk : ti.k = .slice e) (he : tinf P e = some ei) (hz : ei.zero.length = ei.size)
    (hs : elems st.h ei.size (evO st.s s) = some (n, l)) (hx : elems st.h ei.size (evO st.s x) = some (m, k)) (hno : noRoom n m (evO st.s s) = true) (hm : 0 < m)
    (h63 : n + m ≤ 9223372036854775807) (h47 : (n + m) * ei.bytes ≤ 140737488355328)
    (hK : ∀ g, K (.c (.own st.h.length g 0 (n + m) none)) (st.h ++ [some ⟨g, ei.size, l ++ k⟩])) : OpS P o st K := by
  intro w X a R next Q hn
  obtain ⟨inf, d, z', i1, i2, i3, i4, i5, i6, i7⟩ := tinf_some ht
  rw [i5] at hk; cases tk_slice hk
  obtain ⟨infe, de, ze, e1, e2, e3, e4, e5, e6, e7⟩ := tinf_some he
  obtain ⟨hl, ba, bc, bn, hb, hb1, hb2, hb3, hb4, hb5⟩ := elems_sound R.heap hs (evO_sound R s)
  obtain ⟨hkl, xa, xc, xn, hxe, hx1, hx2, hx3, hx4, hx5⟩ := elems_sound R.heap hx (evO_sound R x)
  obtain ⟨xad, rfl, hxc⟩ := hx3 (by omega)
  have hze : ze.cells.size = ei.size := by
    obtain ⟨q1, _⟩ := mapM_get e4
    simp at q1; omega
  have hcap : bc < n + m := by
    have hsv := evO_sound R s
    revert hno
    cases hsa : evO st.s s with
    | c cv =>
      rw [hsa, hb] at hsv
      have hsv := va_c hsv
      cases cv with
      | f fv =>
        cases fv with
        | nil => intro _; cases hsv; omega
        | _ => intro h; cases h
      | emp => intro _; obtain ⟨_, h⟩ := hsv; cases h; omega
      | own id g off n' lim =>
        cases lim with
        | none => intro h; cases h
        | some c =>
          intro h
          simp [noRoom] at h
          rw [hsa] at hs
          simp only [elems] at hs
          split at hs
          · rename_i b hlk
            obtain ⟨_, _, cap, hv, _, _, _, hcc⟩ := hsv.2.2 b hlk
            cases hv
            simp only at hcc
            omega
          · cases hs
      | _ => intro h; cases h
    | _ => intro h; cases h
  -- the machine's new block
  have key : ∃ cap, (Builtin.append_ #[t, t] o.type #[a.eval s, a.eval x]).run P w = .ok (.slice (some ⟨w.heap.size, 0, none⟩) (n + m) cap)
      (w.drew.alloc (.cells (bn.toArray ++ xn.toArray ++ Builtin.zeroCells ze.cells (cap - (n + m))) e)) ∧ n + m ≤ cap := by
    rw [hb, hxe]
    cases ba with
    | none =>
      have hn0 : n = 0 := by
        by_cases h0 : n = 0
        · exact h0
        · obtain ⟨_, h, _⟩ := hb3 h0; cases h
      subst hn0
      have hbn : bn = [] := List.eq_nil_of_length_eq_zero (by rw [hb2, hl]; simp)
      have hbc : bc = 0 := by
        have hsv := evO_sound R s
        rw [hb] at hsv
        generalize evO st.s s = q at hsv hs hno
        cases hsv with
        | c cv _ hq =>
          cases cv with
          | f fv =>
            cases fv with
            | nil => cases hq; rfl
            | _ => simp [noRoom] at hno
          | fp cs off => obtain ⟨_, _, h, _⟩ := hq; cases h
          | nilp => cases hq
          | ptr id g off => simp [elems] at hs
          | own id g off n' lim =>
            simp only [elems] at hs
            split at hs
            · rename_i b hlk
              obtain ⟨_, _, cap, hv, _⟩ := hq.2.2 b hlk
              cases hv
            · cases hs
          | fn f caps => simp [elems] at hs
          | nilf => cases hq
          | emp => obtain ⟨_, h⟩ := hq; cases h; rfl
        | any => simp [elems] at hs
      subst hbc hbn
      refine ⟨grownCap w m 0 e, ?_, ?_⟩
      · have := run_append_nil (P := P) w t o.type e infe ze i2 e1 e3 xad m xc xn (by rw [hx2, hkl, e6]) hxc hm (by omega) (by rw [← e7]; simp at h47; omega)
        simpa using this
      · simpa using grownCap_ge w m 0 e
    | some bad =>
      have hbc' : ∀ j v, bn[j]? = some v → w.cell? (bad.add j) = some v := by
        by_cases h0 : n = 0
        · subst h0
          have hbn : bn = [] := List.eq_nil_of_length_eq_zero (by rw [hb2, hl]; simp)
          subst hbn
          intro j v hj; simp at hj
        · obtain ⟨ad, h, hh⟩ := hb3 h0
          cases h
          exact hh
      refine ⟨grownCap w (n + m) bc e, ?_, grownCap_ge w (n + m) bc e⟩
      exact run_append_grow (P := P) w t o.type e infe ze i2 e1 e3 bad n bc bn (by rw [hb2, hl, e6]) hbc' xad m xc xn (by rw [hx2, hkl, e6]) hxc hcap (by omega) (growslice_fits hcap (by rw [← e7]; exact h47))
  obtain ⟨cap, hrun, hge⟩ := key
  have hsz : (bn.toArray ++ xn.toArray ++ Builtin.zeroCells ze.cells (cap - (n + m))).size = cap * ei.size := by
    simp only [Array.size_append, List.size_toArray, size_zeroCells, hze, hb2, hx2, hl, hkl, ← Nat.add_mul]
    congr 1
    omega
  have hget : ∀ j (h : j < (l ++ k).length), ∃ u, (bn.toArray ++ xn.toArray ++ Builtin.zeroCells ze.cells (cap - (n + m)))[j]? = some u ∧ VC w X st.h (l ++ k)[j] u := by
    intro j hj
    by_cases h1 : j < l.length
    · obtain ⟨u, q1, q2⟩ := hb4 j h1
      refine ⟨u, ?_, by rw [List.getElem_append_left h1]; exact q2⟩
      rw [Array.getElem?_append_left (by simp; omega), Array.getElem?_append_left (by simp; omega)]
      simpa using q1
    · have h2 : j - l.length < k.length := by simp at hj; omega
      obtain ⟨u, q1, q2⟩ := hx4 _ h2
      refine ⟨u, ?_, by rw [List.getElem_append_right (by omega)]; exact q2⟩
      rw [Array.getElem?_append_left (by simp; omega), Array.getElem?_append_right (by simp; omega)]
      simpa [hb2] using q1
  have hll : (l ++ k).length = (n + m) * ei.size := by rw [List.length_append, hl, hkl, Nat.add_mul]
  have hle : (n + m) * ei.size ≤ cap * ei.size := Nat.mul_le_mul_right _ hge
  obtain ⟨k1, k2⟩ := new_block (w' := w.drew.alloc (.cells (bn.toArray ++ xn.toArray ++ Builtin.zeroCells ze.cells (cap - (n + m))) e)) R.heap (sz := ei.size) (t := e) (cs := l ++ k) (cc := bn.toArray ++ xn.toArray ++ Builtin.zeroCells ze.cells (cap - (n + m))) rfl rfl rfl rfl (by omega) hget
  exact wp_value (exec_append ho hrun) (hn _ _ _ _ _ (new_own (by omega) hge (by omega) (by omega)) k1 k2 (hK _))
end Go.Lg

/- append to what the call owns; calls. -/
set_option linter.unusedSimpArgs false
set_option linter.unusedVariables false
namespace Go.Lg

/-- Appended at the end of a block of the call's own: whether there was room or not, the block takes a new name. -/
theorem OpS.append_own {P : Program} {o : Oper} {st : St} {K : AV → Heap → Prop} {t e : TypeId} {ti ei : TI} {s x : Operand} {id g n m : Nat} {b : Blk} {k : List CV}
    (ho : o.op = .call ⟨.builtin .append, #[s, x], #[t, t]⟩) (ht : tinf P t = some ti) (hk : ti.k = .slice e) (he : tinf P e = some ei) (hz : ei.zero.length = ei.size)
    (hs : evO st.s s = .c (.own id g 0 n none)) (hl : look st.h id g = some b) (hbs : b.sz = ei.size) (hbl : b.cs.length = n * ei.size)
    (hx : elems st.h ei.size (evO st.s x) = some (m, k)) (hm : 0 < m)
    (h63 : n + m ≤ 9223372036854775807) (h47 : (n + m) * ei.bytes ≤ 140737488355328)
    (hK : ∀ g', K (.c (.own id g' 0 (n + m) none)) (st.h.set id (some ⟨g', ei.size, b.cs ++ k⟩))) : OpS P o st K := by
  intro w X a R next Q hn
  obtain ⟨inf, d, z', i1, i2, i3, i4, i5, i6, i7⟩ := tinf_some ht
  rw [i5] at hk; cases tk_slice hk
  obtain ⟨infe, de, ze, e1, e2, e3, e4, e5, e6, e7⟩ := tinf_some he
  obtain ⟨hkl, xa, xc, xn, hxe, hx1, hx2, hx3, hx4, hx5⟩ := elems_sound R.heap hx (evO_sound R x)
  obtain ⟨xad, rfl, hxc⟩ := hx3 (by omega)
  have hze : ze.cells.size = ei.size := by
    obtain ⟨q1, _⟩ := mapM_get e4
    simp at q1; omega
  have hsv := evO_sound R s
  rw [hs] at hsv
  obtain ⟨hgt, _, hall⟩ := va_c hsv
  obtain ⟨c1, a0, cap, hse, c2, c3, c4, c5⟩ := hall b hl
  simp only [Nat.zero_add] at c4 c5
  obtain ⟨hid, hgg⟩ := look_some hl
  subst hgg
  obtain ⟨g1, g2, cc, tt, g3, g4, g5, g6⟩ := R.heap.blk id b hid
  have hlt : id < st.h.length := (List.getElem?_eq_some_iff.1 hid).1
  -- what is told of the new value
  have hval : ∀ (w' : World) (p c cap' : Nat), n + m ≤ cap' → cap' * ei.size ≤ c →
      VA w' (X.new p c) (st.h.set id (some ⟨X.t, ei.size, b.cs ++ k⟩)) (.c (.own id X.t 0 (n + m) none)) (.slice (some ⟨p, 0, none⟩) (n + m) cap') := by
    intro w' p c cap' q1 q2
    refine .c _ _ ⟨Nat.lt_succ_self _, rfl, fun blk hblk => ?_⟩
    obtain ⟨h5, h6⟩ := look_some hblk
    rw [List.getElem?_set_self hlt] at h5
    cases h5
    have hll : (b.cs ++ k).length = (n + m) * ei.size := by rw [List.length_append, hbl, hkl, Nat.add_mul]
    have : (n + m) * ei.size ≤ cap' * ei.size := Nat.mul_le_mul_right _ q1
    exact ⟨by simp only; omega, _, _, rfl, q1, fun _ => by simp [Cx.new], by simpa [Cx.new] using q2, by simp only; omega⟩
  by_cases hr : n + m ≤ cap
  · have ha0 := c3 (by omega)
    subst ha0
    have hle : n * ei.size + xn.length ≤ cc.size := by
      have : (n + m) * ei.size ≤ cap * ei.size := Nat.mul_le_mul_right _ hr
      rw [Nat.add_mul] at this
      rw [hx2, hkl, g4]
      rw [hbs] at c4
      omega
    obtain ⟨k1, k2, k3⟩ := setRow_world w (X.mu b.g) cc (cc.toList.take (n * ei.size) ++ xn ++ cc.toList.drop (n * ei.size + xn.length)).toArray tt (0, 0) g3
    have hst := run_storeCells_at (P := P) (X.mu b.g) (n * ei.size) tt xn 0 cc w g3 (by simpa using hle) hx5
    simp only [Nat.add_zero] at hst
    have hf := run_firstCells_some (P := P) w ei.size m xad m xc xn (by rw [hx2, hkl]) hxc
    have hrun : (Builtin.append_ #[t, t] o.type #[a.eval s, a.eval x]).run P w = .ok (.slice (some ⟨X.mu b.g, 0, none⟩) (n + m) cap) (w.setRow (X.mu b.g) (cc.toList.take (n * ei.size) ++ xn ++ cc.toList.drop (n * ei.size + xn.length)).toArray) := by
      rw [hse, hxe]
      simp [Builtin.append_, run_underlying i2, run_sizeOf' he, Builtin.lenOf, hr, hf, add_plain, hst]
    have hcs : (cc.toList.take (n * ei.size) ++ xn ++ cc.toList.drop (n * ei.size + xn.length)).toArray.size = cc.size := by simp; omega
    obtain ⟨q1, q2⟩ := ren_block (sz' := ei.size) (cs := b.cs ++ k) (cc := (cc.toList.take (n * ei.size) ++ xn ++ cc.toList.drop (n * ei.size + xn.length)).toArray) R.heap hid (.inl rfl) k1 (fun k _ h => k2 k h) (by omega) rfl rfl rfl
      (by rw [hcs, List.length_append, hbl, ← hx2]; exact hle) (fun j hj => by
        rw [setRow_get hle]
        by_cases h1 : j < b.cs.length
        · rw [if_neg (by omega), List.getElem_append_left h1]
          exact g6 j h1
        · have h2 : j - b.cs.length < k.length := by simp at hj; omega
          rw [if_pos (by omega), List.getElem_append_right (by omega)]
          obtain ⟨u, u1, u2⟩ := hx4 _ h2
          exact ⟨u, by rw [← hbl]; exact u1, u2⟩)
    refine wp_value (exec_append ho hrun) (hn _ _ _ _ _ (hval _ _ _ cap hr ?_) q1 q2 (hK _))
    rw [hcs, g4, ← hbs]; exact c4
  · have hcap : cap < n + m := by omega
    have holds : ∀ j v, (cc.toList.take (n * ei.size))[j]? = some v → w.cell? (a0.add j) = some v := by
      intro j v hj
      have hjl : j < n * ei.size := by
        rcases Nat.lt_or_ge j (n * ei.size) with h | h
        · exact h
        · rw [List.getElem?_eq_none (by simp; omega)] at hj; cases hj
      have h0 : cap ≠ 0 := by
        intro h0
        have : n = 0 := by omega
        rw [this] at hjl; simp at hjl
      rw [c3 h0, add_plain, Nat.zero_add]
      rw [List.getElem?_take_of_lt hjl] at hj
      simp [World.cell?, g3]
      simpa using hj
    have hcl : (cc.toList.take (n * ei.size)).length = n * ei.size := by simp; omega
    have hrun : (Builtin.append_ #[t, t] o.type #[a.eval s, a.eval x]).run P w = .ok (.slice (some ⟨w.heap.size, 0, none⟩) (n + m) (grownCap w (n + m) cap e))
        (w.drew.alloc (.cells ((cc.toList.take (n * ei.size)).toArray ++ xn.toArray ++ Builtin.zeroCells ze.cells (grownCap w (n + m) cap e - (n + m))) e)) := by
      rw [hse, hxe]
      exact run_append_grow (P := P) w t o.type e infe ze i2 e1 e3 a0 n cap _ (by rw [hcl, e6]) holds xad m xc xn (by rw [hx2, hkl, e6]) hxc hcap (by omega) (growslice_fits hcap (by rw [← e7]; exact h47))
    have hge := grownCap_ge w (n + m) cap e
    have hsz : ((cc.toList.take (n * ei.size)).toArray ++ xn.toArray ++ Builtin.zeroCells ze.cells (grownCap w (n + m) cap e - (n + m))).size = grownCap w (n + m) cap e * ei.size := by
      simp only [Array.size_append, List.size_toArray, size_zeroCells, hze, hcl, hx2, hkl, ← Nat.add_mul]
      congr 1
      omega
    have hle : (n + m) * ei.size ≤ grownCap w (n + m) cap e * ei.size := Nat.mul_le_mul_right _ hge
    obtain ⟨q1, q2⟩ := ren_block (w' := w.drew.alloc (.cells ((cc.toList.take (n * ei.size)).toArray ++ xn.toArray ++ Builtin.zeroCells ze.cells (grownCap w (n + m) cap e - (n + m))) e)) (sz' := ei.size) (cs := b.cs ++ k)
      (cc := (cc.toList.take (n * ei.size)).toArray ++ xn.toArray ++ Builtin.zeroCells ze.cells (grownCap w (n + m) cap e - (n + m))) R.heap hid (.inr rfl) (heap_alloc_new w.drew _) (fun k hk _ => by show (w.heap.push _)[k]? = _; rw [Array.getElem?_push, if_neg (by omega)]) (by simp) rfl rfl rfl
      (by rw [hsz, List.length_append, hbl, hkl, ← Nat.add_mul]; exact hle) (fun j hj => by
        by_cases h1 : j < b.cs.length
        · rw [List.getElem_append_left h1, Array.getElem?_append_left (by simp; omega), Array.getElem?_append_left (by simp; omega)]
          obtain ⟨u, u1, u2⟩ := g6 j h1
          refine ⟨u, ?_, u2⟩
          rw [hbl] at h1
          simp [List.getElem?_take_of_lt h1, u1]
        · have h2 : j - b.cs.length < k.length := by simp at hj; omega
          obtain ⟨u, u1, u2⟩ := hx4 _ h2
          refine ⟨u, ?_, by rw [List.getElem_append_right (by omega)]; exact u2⟩
          rw [Array.getElem?_append_left (by simp; omega), Array.getElem?_append_right (by simp; omega)]
          have : min (n * ei.size) cc.size = n * ei.size := by omega
          simpa [this, hbl] using u1)
    exact wp_value (exec_append ho hrun) (hn _ _ _ _ _ (hval _ _ _ _ hge (by rw [hsz]; exact Nat.le_refl _)) q1 q2 (hK _))

/-- Appended within a block of the call's own: there is room, for sure. -/
theorem OpS.append_in {P : Program} {o : Oper} {st : St} {K : AV → Heap → Prop} {t e : TypeId} {ti ei : TI} {s x : Operand} {id g off n m : Nat} {lim : Option Nat} {b : Blk} {k : List CV}
    (ho : o.op = .call ⟨.builtin .append, #[s, x], #[t, t]⟩) (ht : tinf P t = some ti) (hk : ti.k = .slice e) (he : tinf P e = some ei) (h0 : 0 < ei.size)
    (hs : evO st.s s = .c (.own id g off n lim)) (hl : look st.h id g = some b) (hbs : b.sz = ei.size) (hfit : off + (n + m) * ei.size ≤ b.cs.length) (hlim : n + m ≤ lim.getD (n + m))
    (hx : elems st.h ei.size (evO st.s x) = some (m, k)) (hm : 0 < m)
    (hK : K (.c (.own id g off (n + m) lim)) (st.h.set id (some ⟨b.g, b.sz, setRange b.cs (off + n * ei.size) k⟩))) : OpS P o st K := by
  intro w X a R next Q hn
  obtain ⟨inf, d, z', i1, i2, i3, i4, i5, i6, i7⟩ := tinf_some ht
  rw [i5] at hk; cases tk_slice hk
  obtain ⟨hkl, xa, xc, xn, hxe, hx1, hx2, hx3, hx4, hx5⟩ := elems_sound R.heap hx (evO_sound R x)
  obtain ⟨xad, rfl, hxc⟩ := hx3 (by omega)
  have hsv := evO_sound R s
  rw [hs] at hsv
  obtain ⟨hgt, _, hall⟩ := va_c hsv
  obtain ⟨c1, a0, cap, hse, c2, c3, c4, c5⟩ := hall b hl
  have hr : n + m ≤ cap := by
    cases lim with
    | none =>
      simp only at c5
      have : (n + m) * ei.size ≤ cap * ei.size := by rw [hbs] at c5; omega
      exact Nat.le_of_mul_le_mul_right this h0
    | some c => simp only at c5; simp at hlim; omega
  have ha0 := c3 (by omega)
  subst ha0
  have hfit' : off + n * ei.size + k.length ≤ b.cs.length := by rw [hkl]; rw [Nat.add_mul] at hfit; omega
  obtain ⟨w', h4, h5, h6⟩ := put_cells R.heap hl (o := off + n * ei.size) (cs := k) (vs := xn) hx2 hfit' hx4 hx5
  have hf := run_firstCells_some (P := P) w ei.size m xad m xc xn (by rw [hx2, hkl]) hxc
  have hrun : (Builtin.append_ #[t, t] o.type #[a.eval s, a.eval x]).run P w = .ok (.slice (some ⟨X.mu g, off, none⟩) (n + m) cap) w' := by
    rw [hse, hxe]
    simp [Builtin.append_, run_underlying i2, run_sizeOf' he, Builtin.lenOf, hr, hf, add_plain, h4]
  have hv : VC w' X (st.h.set id (some ⟨b.g, b.sz, setRange b.cs (off + n * ei.size) k⟩)) (.own id g off (n + m) lim) (.slice (some ⟨X.mu g, off, none⟩) (n + m) cap) := by
    refine ⟨hgt, rfl, fun blk hblk => ?_⟩
    obtain ⟨hid, hgg⟩ := look_some hl
    obtain ⟨q1, q2⟩ := look_some hblk
    have hlt : id < st.h.length := (List.getElem?_eq_some_iff.1 hid).1
    rw [List.getElem?_set_self hlt] at q1
    cases q1
    refine ⟨by simp only [setRange_length hfit', hbs]; exact hfit, _, _, rfl, hr, fun _ => rfl, c4, ?_⟩
    cases lim with
    | none => simpa [setRange_length hfit'] using c5
    | some c => exact c5
  exact wp_value (exec_append ho hrun) (hn _ _ _ _ _ (.c _ _ hv) h5 h6 hK)

/-- The function has a body that is entered. -/
def Enters (P : Program) (f : FuncId) : Prop := ∃ fn, P.funcs[f]? = some fn ∧ (fn.name == "runtime.NumGoroutine") = false ∧ fn.body.isNone = false

theorem run_callFunc {P : Program} {f : FuncId} (h : Enters P f) (args : Array Value) (w : World) : (callFunc f args).run P w = .ok (.enter f args) w := by
  obtain ⟨fn, h1, h2, h3⟩ := h
  simp only [callFunc, Sem.run_bind, run_program, Result.andThen_ok, h1, h2, h3, Bool.false_eq_true, if_false, Sem.run_ite, Sem.run_pure]

theorem wp_enter {P : Program} {o : Oper} {a : Act} {w : World} {f : FuncId} {args : Array Value} {next : Act → World → Prop} {Q : Exit → Act → World → Prop} (h : (execOp a.eval o).run P w = .ok (.enter f args) w)
    (hc : Calls P f args w fun e w' => ∃ u, e = .returned u ∧ next (a.put o.dst u) w') : o.wp P a w next Q := by
  unfold Oper.wp
  rw [h, Oper.upon_enter]
  refine hc.mono fun e w' ⟨u, he, hn⟩ => ?_
  subst he
  exact hn

/-- What is called, and with what: a function, or a closure with what it has captured. -/
def target (H : Heap) : AV → Option (FuncId × List AV)
  | .c (.fn f caps) => if caps.all fun c => (look H c.1 c.2).isSome then some (f, caps.map fun c => .c (.ptr c.1 c.2 0)) else none
  | _ => none

theorem OpS.call {P : Program} {o : Oper} {st : St} {K : AV → Heap → Prop} {fo : Operand} {xs : Array Operand} {ts : Array TypeId} {f : FuncId} {caps : List AV}
    (ho : o.op = .call ⟨.value fo, xs, ts⟩) (hf : target st.h (evO st.s fo) = some (f, caps)) (he : Enters P f)
    (hc : RunCall P f (xs.toList.map (evO st.s) ++ caps) st.h K) : OpS P o st K := by
  intro w X a R next Q hn
  have hfv := evO_sound R fo
  unfold target at hf
  split at hf
  · rename_i f' cs e
    split at hf
    · rename_i hall
      cases hf
      rw [e] at hfv
      obtain ⟨q1, _, q2⟩ := va_c hfv
      have hfe := q2 (fun c hc => List.all_eq_true.1 hall c hc)
      let args : Array Value := xs.map a.eval ++ (cs.map fun c => Value.pointer (some ⟨X.mu c.2, 0, none⟩)).toArray
      have hrun : (execOp a.eval o).run P w = .ok (.enter f args) w := by
        simp only [execOp, ho, resolve, Sem.run_bind, hfe, Deferred.ofValue, Sem.run_pure, Result.andThen_ok, invoke]
        rw [run_callFunc he]
        simp [args]
      refine wp_enter hrun ((hc w X args R.heap ⟨?_, fun i hi => ?_⟩).mono fun e' w' ⟨v, u, X', H', h1, h2, h3, h4, h5⟩ => ⟨u, h1, hn v u X' H' w' h2 h3 h4 h5⟩)
      · simp [args]
      · simp only [List.length_append, List.length_map, Array.length_toList] at hi
        by_cases hlt : i < xs.size
        · refine ⟨a.eval xs[i], ?_, ?_⟩
          · simp only [args]
            rw [Array.getElem?_append_left (by simpa using hlt)]
            simp [hlt]
          · rw [List.getElem_append_left (by simpa using hlt)]
            simp only [List.getElem_map, Array.getElem_toList]
            exact evO_sound R _
        · have h2 : i - xs.size < cs.length := by omega
          refine ⟨.pointer (some ⟨X.mu (cs[i - xs.size]).2, 0, none⟩), ?_, ?_⟩
          · simp only [args]
            rw [Array.getElem?_append_right (by simp; omega)]
            simp [h2]
          · rw [List.getElem_append_right (by simp; omega)]
            simp only [List.getElem_map, List.length_map, Array.length_toList]
            exact .c _ _ ⟨q1 _ (List.getElem_mem h2), rfl, fun _ => rfl⟩
    · cases hf
  · cases hf
end Go.Lg

/- Lists of operations, code, calls of functions by their bodies. -/
set_option linter.unusedSimpArgs false
set_option linter.unusedVariables false
namespace Go.Lg

def putS (s : List AV) (d : Option Tmp) (v : AV) : List AV :=
  match d with
  | some d => s.set d v
  | none => s

theorem Rel.put {w w' : World} {X X' : Cx} {a : Act} {st : St} {H' : Heap} (R : Rel w X a st) (E : Ev w X st.h w' X' H') (hH : HRel w' X' H') {d : Option Tmp} {v : AV} {u : Value} (hv : VA w' X' H' v u) :
    Rel w' X' (a.put d u) ⟨putS st.s d v, H'⟩ := by
  cases d with
  | none => exact ⟨R.defs, R.size, fun i hi => let ⟨x, h1, h2⟩ := R.slot i hi; ⟨x, h1, h2.mono E⟩, hH⟩
  | some d =>
    refine ⟨R.defs, by simp [Act.put, putS, R.size], fun i hi => ?_, hH⟩
    simp only [putS, List.length_set] at hi
    obtain ⟨x, h1, h2⟩ := R.slot i hi
    simp only [putS, Act.put]
    by_cases he : d = i
    · subst he
      rw [List.getElem_set_self, Array.getElem?_setIfInBounds_self_of_lt (by rw [R.size]; exact hi)]
      exact ⟨u, rfl, hv⟩
    · rw [List.getElem_set_ne he, Array.getElem?_setIfInBounds_ne he]
      exact ⟨x, h1, h2.mono E⟩

/-- What a guard is known to be. -/
def guardV (ops : Array Oper) (s : List AV) (j : Nat) : Option (Option Bool) :=
  match (ops[j]?).bind (·.dst) with
  | none => some none
  | some d => match s[d]? with
    | none => some none
    | some (.c (.f (.bool b))) => some (some b)
    | some .void => some none
    | _ => none

theorem guardV_sound {w : World} {X : Cx} {a : Act} {st : St} (R : Rel w X a st) {ops : Array Oper} {j : Nat} {r : Option Bool} (h : guardV ops st.s j = some r) : yielded ops a.tmps j = r := by
  unfold guardV at h
  unfold yielded
  split at h
  · rename_i e; cases h; rw [e]; rfl
  · rename_i d e
    rw [e]
    simp only [Option.bind_some]
    split at h
    · rename_i hd
      cases h
      have : st.s.length ≤ d := by
        rcases Nat.lt_or_ge d st.s.length with h | h
        · simp [h] at hd
        · exact h
      rw [Array.getElem?_eq_none (by rw [R.size]; exact this)]
    · rename_i b hd
      cases h
      obtain ⟨hlt, he⟩ := List.getElem?_eq_some_iff.1 hd
      obtain ⟨u, h1, h2⟩ := R.slot d hlt
      rw [he] at h2
      rw [h1, va_bool h2]
    · rename_i hd
      cases h
      obtain ⟨hlt, he⟩ := List.getElem?_eq_some_iff.1 hd
      obtain ⟨u, h1, h2⟩ := R.slot d hlt
      rw [he] at h2
      rw [h1]
      cases h2
      rfl
    · cases h

/-- The operations one after the other. -/
def OpsS (P : Program) (ops : Array Oper) : List Oper → St → (St → Prop) → Prop
  | [], st, K => K st
  | o :: r, st, K => match o.guard with
    | none => OpS P o st fun v H' => OpsS P ops r ⟨putS st.s o.dst v, H'⟩ K
    | some (j, want) => ∃ g, guardV ops st.s j = some g ∧
      ((g = some want → OpS P o st fun v H' => OpsS P ops r ⟨putS st.s o.dst v, H'⟩ K) ∧ (g ≠ some want → OpsS P ops r ⟨putS st.s o.dst .void, st.h⟩ K))

theorem ops_sound {P : Program} {ops : Array Oper} {Q : Exit → Act → World → Prop} {w0 : World} {X0 : Cx} {H0 : Heap} {K : St → Prop}
    (hQ : ∀ w' X' a' st', Rel w' X' a' st' → Ev w0 X0 H0 w' X' st'.h → K st' → Q .normal a' w') : ∀ (l : List Oper) (w : World) (X : Cx) (a : Act) (st : St), OpsS P ops l st K → Rel w X a st → Ev w0 X0 H0 w X st.h → wpList P ops Q l a w
  | [], w, X, a, st, h, R, E => hQ w X a st R E h
  | o :: r, w, X, a, st, h, R, E => by
    refine wpList_step fun K' hK' => ?_
    have go : ∀ {o' : Oper}, o' = o → (OpS P o st fun v H' => OpsS P ops r ⟨putS st.s o.dst v, H'⟩ K) → o.wp P a w K' Q := by
      intro o' _ hop
      refine hop w X a R K' Q fun v u X' H' w' h1 h2 h3 h4 => hK' _ _ ?_
      exact ops_sound hQ r w' X' _ _ h4 (R.put h3 h2 h1) (E.trans h3)
    unfold OpsS at h
    split at h
    · rename_i hg
      rw [if_pos (by simp [Region.wanted, hg])]
      exact go rfl h
    · rename_i j want hg
      obtain ⟨g, h1, h2, h3⟩ := h
      have hy := guardV_sound R h1
      by_cases he : g = some want
      · rw [if_pos (by simp [Region.wanted, hg, hy, he])]
        exact go rfl (h2 he)
      · rw [if_neg (by simp only [Region.wanted, hg, hy]; simpa using he)]
        exact hK' _ _ (ops_sound hQ r w X _ _ (h3 he) (R.put (Ev.refl _ _ _) R.heap .void) E)

def Post (Q : Exit → St → Prop) (w : World) (X : Cx) (H : Heap) : Exit → Act → World → Prop :=
  fun e a' w' => ∃ X' st', Rel w' X' a' st' ∧ Ev w X H w' X' st'.h ∧ Q e st'

theorem RunC.mono {P : Program} {c : Code} {st : St} {Q Q' : Exit → St → Prop} (h : RunC P c st Q) (hq : ∀ e st', Q e st' → Q' e st') : RunC P c st Q' :=
  fun w X a R => wp_mono (h w X a R) fun _ _ _ ⟨X', st', h1, h2, h3⟩ => ⟨X', st', h1, h2, hq _ _ h3⟩

theorem RunC.skip {P : Program} {st : St} {Q : Exit → St → Prop} (h : Q .normal st) : RunC P .skip st Q :=
  fun w X a R => wp_skip ⟨X, st, R, Ev.refl _ _ _, h⟩
theorem RunC.exit {P : Program} {id : Nat} {st : St} {Q : Exit → St → Prop} (h : Q (.exit id) st) : RunC P (.exit id) st Q :=
  fun w X a R => wp_exit ⟨X, st, R, Ev.refl _ _ _, h⟩
theorem RunC.ret {P : Program} {st : St} {Q : Exit → St → Prop} (h : Q .ret st) : RunC P .ret st Q :=
  fun w X a R => wp_ret ⟨X, st, R, Ev.refl _ _ _, h⟩

/-- What follows where the first part ends normally. -/
def thenQ (next : St → Prop) (Q : Exit → St → Prop) : Exit → St → Prop
  | .normal, st => next st
  | e, st => Q e st

theorem RunC.seq {P : Program} {x y : Code} {st : St} {Q : Exit → St → Prop} (h : RunC P x st (thenQ (fun st' => RunC P y st' Q) Q)) : RunC P (.seq x y) st Q := by
  intro w X a R
  refine wp_seq (wp_mono (h w X a R) fun e a' w' ⟨X', st', h1, h2, h3⟩ => ?_)
  cases e with
  | normal =>
    have h3 : RunC P y st' Q := h3
    exact wp_mono (h3 w' X' a' h1) fun _ _ _ ⟨X'', st'', k1, k2, k3⟩ => ⟨X'', st'', k1, h2.trans k2, k3⟩
  | exit id => exact ⟨X', st', h1, h2, h3⟩
  | goto l => exact ⟨X', st', h1, h2, h3⟩
  | ret => exact ⟨X', st', h1, h2, h3⟩
  | panic c => exact ⟨X', st', h1, h2, h3⟩
  | outgrown => exact ⟨X', st', h1, h2, h3⟩

theorem RunC.cond {P : Program} {c : Operand} {x y : Code} {st : St} {Q : Exit → St → Prop} {b : Bool} (hc : evO st.s c = .c (.f (.bool b))) (ht : b = true → RunC P x st Q) (hf : b = false → RunC P y st Q) : RunC P (.cond c x y) st Q := by
  intro w X a R
  have h := evO_sound R c
  rw [hc] at h
  exact wp_cond_split (va_bool h) (fun hb => ht hb w X a R) (fun hb => hf hb w X a R)

def blockQ (id : Nat) (Q : Exit → St → Prop) : Exit → St → Prop
  | .exit id', st => if id' = id then Q .normal st else Q (.exit id') st
  | e, st => Q e st

theorem RunC.block {P : Program} {id : Nat} {c : Code} {st : St} {Q : Exit → St → Prop} (h : RunC P c st (blockQ id Q)) : RunC P (.block id c) st Q := by
  intro w X a R
  refine wp_block (wp_mono (h w X a R) fun e a' w' ⟨X', st', h1, h2, h3⟩ => ?_)
  cases e with
  | exit id' =>
    simp only [Exit.inBlock, blockQ] at h3 ⊢
    split
    · rename_i he; rw [if_pos he] at h3; exact ⟨X', st', h1, h2, h3⟩
    · rename_i he; rw [if_neg he] at h3; exact ⟨X', st', h1, h2, h3⟩
  | normal => exact ⟨X', st', h1, h2, h3⟩
  | goto l => exact ⟨X', st', h1, h2, h3⟩
  | ret => exact ⟨X', st', h1, h2, h3⟩
  | panic c => exact ⟨X', st', h1, h2, h3⟩
  | outgrown => exact ⟨X', st', h1, h2, h3⟩

theorem RunC.region {P : Program} {id : Nat} {ops : Array Oper} {st : St} {Q : Exit → St → Prop} (h : OpsS P ops ops.toList st fun st' => Q .normal st') : RunC P (.region id ops false) st Q :=
  fun w X a R => wp_region_list (ops_sound (Q := Post Q w X st.h) (fun w' X' a' st' h1 h2 h3 => ⟨X', st', h1, h2, h3⟩) _ w X a st h R (Ev.refl _ _ _))

/-- Less is told: a slot of which nothing is known, a block that is no longer known. -/
def HLe (H H' : Heap) : Prop := ∀ (id : Nat) (b : Blk), H'[id]? = some (some b) → H[id]? = some (some b)
def SLe (s s' : List AV) : Prop := s'.length = s.length ∧ ∀ i (h : i < s'.length), s'[i] = .any ∨ s[i]? = some s'[i]

theorem HLe.refl (H : Heap) : HLe H H := fun _ _ h => h
theorem HLe.look {H H' : Heap} (h : HLe H H') {id g : Nat} {b : Blk} (hl : look H' id g = some b) : look H id g = some b := by
  obtain ⟨h1, h2⟩ := look_some hl
  rw [← h2]
  exact look_of (h id b h1)
theorem HLe.ev {w : World} {X : Cx} {H H' : Heap} (h : HLe H H') : Ev w X H w X H' :=
  ⟨fun _ hb => ⟨hb, rfl⟩, Nat.le_refl _, fun _ _ => ⟨rfl, rfl⟩, Nat.le_refl _, rfl, rfl, rfl, fun id g b' _ hl => ⟨b', h.look hl, rfl, rfl⟩, fun _ _ _ => rfl, fun b ⟨id, blk, h1, h2⟩ => .inl ⟨id, blk, h id blk h1, h2⟩, fun _ hb => .inl hb⟩
theorem HLe.rel {w : World} {X : Cx} {H H' : Heap} (h : HLe H H') (R : HRel w X H) : HRel w X H' :=
  ⟨R.imm, fun id b hb => by
    obtain ⟨h1, h2, cc, t, h3, h4, h5, h6⟩ := R.blk id b (h id b hb)
    exact ⟨h1, h2, cc, t, h3, h4, h5, fun j hj => let ⟨u, k1, k2⟩ := h6 j hj; ⟨u, k1, k2.mono h.ev⟩⟩,
   fun id id' b b' hb hb' he => R.inj id id' b b' (h id b hb) (h id' b' hb') he⟩

theorem Rel.weaken {w : World} {X : Cx} {a : Act} {st st' : St} (R : Rel w X a st) (hs : SLe st.s st'.s) (hh : HLe st.h st'.h) : Rel w X a st' := by
  refine ⟨R.defs, by rw [R.size, hs.1], fun i hi => ?_, hh.rel R.heap⟩
  have hi' : i < st.s.length := by rw [← hs.1]; exact hi
  obtain ⟨u, h1, h2⟩ := R.slot i hi'
  refine ⟨u, h1, ?_⟩
  rcases hs.2 i hi with he | he
  · rw [he]; exact .any _
  · rw [List.getElem?_eq_getElem hi'] at he
    rw [← Option.some.inj he]
    exact h2.mono hh.ev

theorem RunC.weaken {P : Program} {c : Code} {st st' : St} {Q : Exit → St → Prop} (hs : SLe st.s st'.s) (hh : HLe st.h st'.h) (h : RunC P c st' Q) : RunC P c st Q :=
  fun w X a R => wp_mono (h w X a (R.weaken hs hh)) fun _ _ _ ⟨X', st'', k1, k2, k3⟩ => ⟨X', st'', k1, hh.ev.trans k2, k3⟩

theorem RunC.loop {P : Program} {c : Code} {Q : Exit → St → Prop} (I : Nat → St → Prop)
    (h : ∀ n st, I n st → RunC P c st (thenQ (fun st' => ∃ m st2, m < n ∧ SLe st'.s st2.s ∧ HLe st'.h st2.h ∧ I m st2) Q)) {n : Nat} {st : St} (h0 : I n st) : RunC P (.loop c) st Q := by
  intro w X a R b k cs
  have key : ∀ n w' X' a' st', I n st' → Rel w' X' a' st' → Ev w X st.h w' X' st'.h →
      ∃ e a'' w'', Post Q w X st.h e a'' w'' ∧ Arrives P (lone (b.at a' (.code c :: .inLoop c :: k)) cs w') b k cs e a'' w'' := by
    intro n
    induction n using Nat.strongRecOn with
    | _ n ih =>
      intro w' X' a' st' hI R' E'
      obtain ⟨e, a₁, w₁, ⟨X1, st1, hR1, hE1, hq⟩, harr⟩ := h n st' hI w' X' a' R' b (.inLoop c :: k) cs
      cases e with
      | normal =>
        obtain ⟨m, st2, hlt, hs, hh, hI2⟩ := hq
        obtain ⟨e₂, a₂, w₂, hq₂, harr₂⟩ := ih m hlt w₁ X1 a₁ st2 hI2 (hR1.weaken hs hh) (E'.trans (hE1.trans hh.ev))
        exact ⟨e₂, a₂, w₂, hq₂, .of_steps (Steps.trans harr (.one step_inLoop)) harr₂⟩
      | exit id => exact ⟨_, a₁, w₁, ⟨X1, st1, hR1, E'.trans hE1, hq⟩, .pass (x := .inLoop c) rfl (fun _ _ => .inl (by simp)) harr⟩
      | goto l => exact ⟨_, a₁, w₁, ⟨X1, st1, hR1, E'.trans hE1, hq⟩, .pass (x := .inLoop c) rfl (fun _ _ => .inl (by simp)) harr⟩
      | ret => exact ⟨_, a₁, w₁, ⟨X1, st1, hR1, E'.trans hE1, hq⟩, .pass (x := .inLoop c) rfl (fun _ _ => .inl (by simp)) harr⟩
      | panic ch => exact ⟨_, a₁, w₁, ⟨X1, st1, hR1, E'.trans hE1, hq⟩, .pass (x := .inLoop c) rfl (fun _ _ => .inl (by simp)) harr⟩
      | outgrown => exact ⟨_, a₁, w₁, ⟨X1, st1, hR1, E'.trans hE1, hq⟩, .pass (x := .inLoop c) rfl (fun _ _ => .inl (by simp)) harr⟩
  obtain ⟨e, a', w', hq, harr⟩ := key n w X a st h0 R (Ev.refl _ _ _)
  exact ⟨e, a', w', hq, .of_steps (.one step_loop) harr⟩

/-! ### results -/
def resOne (P : Program) (s : List AV) (H : Heap) : ResultVar → Option AV
  | .tmp t => some (s.getD t .void)
  | .cell a t => loadV P H t (s.getD a .void)

def resAll (P : Program) (s : List AV) (H : Heap) : List ResultVar → Option (List AV)
  | [] => some []
  | r :: rs => match resOne P s H r, resAll P s H rs with
    | some v, some vs => some (v :: vs)
    | _, _ => none

def resV (P : Program) (s : List AV) (H : Heap) (rs : List ResultVar) : Option AV :=
  match resAll P s H rs with
  | some [v] => some v
  | some vs => some (.tup vs)
  | none => none

theorem slot_getD {w : World} {X : Cx} {a : Act} {st : St} (R : Rel w X a st) (t : Nat) : VA w X st.h (st.s.getD t .void) (a.tmps.getD t undef) := evO_sound R (.tmp t)

theorem asAddr_of_loadAt {P : Program} {w : World} {t : TypeId} {pv u : Value} (h : (Instr.loadAt t pv).run P w = .ok u w) : (do loadVar t (← asAddr pv) : Sem Value).run P w = .ok u w := by
  unfold Instr.loadAt Instr.sureAddr at h
  cases pv with
  | pointer a =>
    cases a with
    | some a => simpa [asAddr] using h
    | none => simp at h
  | _ => simp at h

def resM (tmps : Array Value) : ResultVar → Sem Value
  | .tmp t => pure (tmps.getD t undef)
  | .cell b t => do loadVar t (← asAddr (tmps.getD b undef))
theorem results_eq (fn : Func) (tmps : Array Value) : results fn tmps = (fn.results.mapM (resM tmps) >>= fun vs => pure (if h : vs.size = 1 then vs[0] else .tuple vs)) := rfl

theorem resAll_sound {P : Program} {w : World} {X : Cx} {a : Act} {st : St} (R : Rel w X a st) : ∀ (rs : List ResultVar) (vs : List AV), resAll P st.s st.h rs = some vs →
    ∃ us : List Value, us.length = vs.length ∧ (rs.mapM (resM a.tmps)).run P w = .ok us w ∧ ∀ i (h : i < vs.length), ∃ u, us[i]? = some u ∧ VA w X st.h vs[i] u
  | [], vs, h => by
    cases h
    exact ⟨[], rfl, by simp, fun i hi => absurd hi (by simp)⟩
  | r :: rs, vs, h => by
    unfold resAll at h
    split at h
    · rename_i v vs' e1 e2
      cases h
      obtain ⟨us, h1, h2, h3⟩ := resAll_sound R rs vs' e2
      have hone : ∃ u, (resM a.tmps r).run P w = .ok u w ∧ VA w X st.h v u := by
        cases r with
        | tmp t =>
          simp only [resOne, Option.some.injEq] at e1
          subst e1
          exact ⟨_, rfl, slot_getD R t⟩
        | cell b t =>
          obtain ⟨u, k1, k2⟩ := loadV_sound (P := P) R.heap e1 (slot_getD R b)
          exact ⟨u, asAddr_of_loadAt (k1 w (Grow.refl w)), k2⟩
      obtain ⟨u, k1, k2⟩ := hone
      refine ⟨u :: us, by simp [h1], ?_, fun i hi => ?_⟩
      · rw [List.mapM_cons, Sem.run_bind, k1, Result.andThen_ok, Sem.run_bind, h2, Result.andThen_ok]
        rfl
      · cases i with
        | zero => exact ⟨u, rfl, k2⟩
        | succ i => exact h3 i (by simpa using hi)
    · cases h

theorem resV_sound {P : Program} {w : World} {X : Cx} {a : Act} {st : St} (R : Rel w X a st) {fn : Func} {v : AV} (h : resV P st.s st.h fn.results.toList = some v) :
    ∃ u, (results fn a.tmps).run P w = .ok u w ∧ VA w X st.h v u := by
  unfold resV at h
  have key : ∀ vs, resAll P st.s st.h fn.results.toList = some vs → ∃ us : List Value, us.length = vs.length ∧ (results fn a.tmps).run P w = .ok (if h : us.toArray.size = 1 then us.toArray[0] else .tuple us.toArray) w ∧ ∀ i (h : i < vs.length), ∃ u, us[i]? = some u ∧ VA w X st.h vs[i] u := by
    intro vs hvs
    obtain ⟨us, h1, h2, h3⟩ := resAll_sound R _ vs hvs
    refine ⟨us, h1, ?_, h3⟩
    have hm : fn.results.mapM (resM a.tmps) = List.toArray <$> fn.results.toList.mapM (resM a.tmps) := Array.mapM_eq_mapM_toList
    rw [results_eq, hm]
    simp only [Sem.run_bind, Sem.run_map, h2, Result.andThen_ok, Sem.run_pure]
  split at h
  · rename_i v' hvs
    cases h
    obtain ⟨us, h1, h2, h3⟩ := key [v] hvs
    obtain ⟨u, k1, k2⟩ := h3 0 (by simp)
    have hus : us = [u] := by
      cases us with
      | nil => simp at h1
      | cons x xs => simp at h1 k1; subst h1 k1; rfl
    subst hus
    exact ⟨u, by rw [h2]; simp, k2⟩
  · rename_i vs hne hvs
    cases h
    obtain ⟨us, h1, h2, h3⟩ := key vs hvs
    have hl : us.toArray.size ≠ 1 := by
      intro hl
      have : vs.length = 1 := by rw [← h1]; simpa using hl
      obtain ⟨x, hx⟩ := List.length_eq_one_iff.1 this
      exact hne x hx
    rw [dif_neg hl] at h2
    refine ⟨_, h2, ?_⟩
    have := VA.tup (w := w) (X := X) (H := st.h) vs (fun i => us.getD i undef) (fun j hj => by
      obtain ⟨u, k1, k2⟩ := h3 j hj
      simp only [List.getD, k1, Option.getD_some]
      exact k2)
    have e : ((List.range vs.length).map fun i => us.getD i undef) = us := by
      apply List.ext_getElem
      · simp [h1]
      · intro i q1 q2
        simp [List.getD, List.getElem?_eq_getElem q2]
    rw [e] at this
    exact this
  · cases h

theorem RunCall.of_body {P : Program} {f : FuncId} {fn : Func} {c : Code} {args : List AV} {H : Heap} {Q : AV → Heap → Prop} (hf : P.funcs[f]? = some fn) (hb : fn.body = some c)
    (h : RunC P c ⟨args ++ List.replicate (fn.ntmps - args.length) .void, H⟩ fun e st' => (e = .normal ∨ e = .ret) ∧ ∃ v H', resV P st'.s st'.h fn.results.toList = some v ∧ HLe st'.h H' ∧ Q v H') : RunCall P f args H Q := by
  intro w X vs hH hvs
  refine calls_of_wp hf hb ?_
  have R : Rel w X { tmps := vs ++ Array.replicate (fn.ntmps - vs.size) undef, defers := [] } ⟨args ++ List.replicate (fn.ntmps - args.length) .void, H⟩ := by
    refine ⟨rfl, by simp [hvs.1], fun i hi => ?_, hH⟩
    simp only [List.length_append, List.length_replicate] at hi
    by_cases hlt : i < args.length
    · obtain ⟨u, h1, h2⟩ := hvs.2 i hlt
      refine ⟨u, ?_, by rw [List.getElem_append_left hlt]; exact h2⟩
      rw [Array.getElem?_append_left (by rw [hvs.1]; exact hlt)]
      exact h1
    · refine ⟨undef, ?_, ?_⟩
      · rw [Array.getElem?_append_right (by rw [hvs.1]; omega)]
        rw [Array.getElem?_replicate, if_pos (by rw [hvs.1]; omega)]
      · rw [List.getElem_append_right (by omega)]
        simp only [List.getElem_replicate]
        exact .void
  refine wp_mono (h w X _ R) fun e a' w' ⟨X', st', h1, h2, he, v, H', h3, h4, h5⟩ => ?_
  obtain ⟨u, k1, k2⟩ := resV_sound (P := P) h1 h3
  have fin : a'.defers = [] ∧ ∃ v', (results fn a'.tmps).run P w' = .ok v' w' ∧ ∃ v u X' H', Ending.returned v' = .returned u ∧ VA w' X' H' v u ∧ HRel w' X' H' ∧ Ev w X H w' X' H' ∧ Q v H' :=
    ⟨h1.defs, u, k1, v, u, X', H', rfl, k2.mono h4.ev, h4.rel h1.heap, h2.trans h4.ev, h5⟩
  rcases he with rfl | rfl
  · exact fin
  · exact fin

theorem RunCall.mono {P : Program} {f : FuncId} {args : List AV} {H : Heap} {Q Q' : AV → Heap → Prop} (h : RunCall P f args H Q) (hq : ∀ v H', Q v H' → Q' v H') : RunCall P f args H Q' :=
  fun w X vs hH hvs => (h w X vs hH hvs).mono fun _ _ ⟨v, u, X', H', h1, h2, h3, h4, h5⟩ => ⟨v, u, X', H', h1, h2, h3, h4, hq _ _ h5⟩
end Go.Lg

/- Calls that only compute; regions that draw their order; what is read only from now on. -/
set_option linter.unusedSimpArgs false
set_option linter.unusedVariables false
namespace Go.Lg

/-! ### plain results -/
def flat1 : AV → Option Value
  | .c (.f x) => if isScal x then some (scal x) else none
  | _ => none
def flatV : AV → Option Value
  | .c (.f x) => if isScal x then some (scal x) else none
  | .tup vs => (vs.mapM flat1).map fun l => .tuple l.toArray
  | _ => none

theorem flat1_sound {v : AV} {u : Value} (h : flat1 v = some u) : (∀ (w : World) (X : Cx) (H : Heap), VA w X H v u) ∧ ∀ (w : World) (X : Cx) (H : Heap) u', VA w X H v u' → u' = u := by
  unfold flat1 at h
  split at h
  · rename_i x
    split at h
    · rename_i hx
      cases h
      refine ⟨fun w X H => .c _ _ (scal_sound hx), fun w X H u' hu => ?_⟩
      have hu := va_c hu
      cases x <;> simp [isScal] at hx <;> (have hu : VF w X.I _ u' := hu; cases hu; rfl)
    · cases h
  · cases h

theorem flatV_sound {v : AV} {u : Value} (h : flatV v = some u) : (∀ (w : World) (X : Cx) (H : Heap), VA w X H v u) ∧ ∀ (w : World) (X : Cx) (H : Heap) u', VA w X H v u' → u' = u := by
  unfold flatV at h
  split at h
  · rename_i x; exact flat1_sound h
  · rename_i vs
    cases hm : vs.mapM flat1 with
    | none => simp [hm] at h
    | some l =>
      simp [hm] at h
      subst h
      obtain ⟨hl, hg⟩ := mapM_get hm
      have hg' : ∀ j (hj : j < vs.length), flat1 vs[j] = some (l.getD j undef) := fun j hj => by
        obtain ⟨y, h1, h2⟩ := hg j hj
        simp only [List.getD, h1, Option.getD_some]
        exact h2
      have e : ((List.range vs.length).map fun i => l.getD i undef) = l := by
        apply List.ext_getElem
        · simp [hl]
        · intro i q1 q2
          simp [List.getD, List.getElem?_eq_getElem q2]
      refine ⟨fun w X H => ?_, fun w X H u' hu => ?_⟩
      · have := VA.tup (w := w) (X := X) (H := H) vs (fun i => l.getD i undef) fun j hj => (flat1_sound (hg' j hj)).1 w X H
        rw [e] at this
        exact this
      · cases hu with
        | tup vs us hus =>
          have : ((List.range vs.length).map us) = l := by
            rw [← e]
            apply List.map_congr_left
            intro j hj
            have hj : j < vs.length := by simpa using hj
            exact (flat1_sound (hg' j hj)).2 w X H _ (hus j hj)
          rw [this]
  · cases h

/-- A slice as it now reads, to be handed on to be read. -/
def fvs : List CV → Option (List FV)
  | [] => some []
  | .f x :: l => (fvs l).map (x :: ·)
  | _ => none
theorem fvs_get : ∀ {l : List CV} {xs : List FV}, fvs l = some xs → l = xs.map .f
  | [], xs, h => by cases h; rfl
  | c :: l, xs, h => by
    unfold fvs at h
    split at h
    · rename_i heq; cases heq
    · rename_i x l' heq
      cases heq
      cases hl : fvs l with
      | none => simp [hl] at h
      | some ys => simp [hl] at h; subst h; simp [fvs_get hl]
    · cases h
theorem fvs_map (xs : List FV) : fvs (xs.map .f) = some xs := by
  induction xs with
  | nil => rfl
  | cons x xs ih => simp [fvs, ih]

def snapC (H : Heap) : CV → Option CV
  | .own id g off n lim => match look H id g with
    | some b => (fvs ((b.cs.drop off).take (n * b.sz))).map fun xs => .f (.sl n xs)
    | none => none
  | .f x => some (.f x)
  | .fp cs off => some (.fp cs off)
  | .nilp => some .nilp
  | .nilf => some .nilf
  | .emp => some .emp
  | _ => none

def snapA (H : Heap) : AV → Option AV
  | .c x => (snapC H x).map .c
  | .agg cs => (cs.mapM (snapC H)).map .agg
  | .void => some .void
  | _ => none

/-- All that is there is read only. -/
def Cx.still (X : Cx) (w : World) : Cx := { X with I := fun b => b < w.heap.size }

theorem VF.wide {w : World} {I I' : Nat → Prop} (h : ∀ b, I b → I' b) {x : FV} {v : Value} (hv : VF w I x v) : VF w I' x v :=
  hv.mono (w' := w) (I' := I') fun b hb => ⟨h b hb, rfl⟩

theorem snapC_sound {w w' : World} {X : Cx} {H : Heap} (R : HRel w X H) (hg : Grow w w') {x y : CV} {v : Value} (h : snapC H x = some y) (hv : VC w X H x v) : VC w' (X.still w') [] y v := by
  have hI : ∀ b, X.I b → (X.still w').I b ∧ w'.heap[b]? = w.heap[b]? := fun b hb => ⟨Nat.lt_of_lt_of_le (R.imm b hb) hg.size, hg.blk b (R.imm b hb)⟩
  unfold snapC at h
  split at h
  · rename_i id g off n lim
    split at h
    · rename_i b hl
      cases hf : fvs ((b.cs.drop off).take (n * b.sz)) with
      | none => simp [hf] at h
      | some xs =>
        simp [hf] at h
        subst h
        have hcs := fvs_get hf
        obtain ⟨hgt, _, hall⟩ := hv
        obtain ⟨c1, a0, cap, rfl, c2, c3, c4, c5⟩ := hall b hl
        obtain ⟨hid, hgg⟩ := look_some hl
        subst hgg
        obtain ⟨_, _, cc, t, g3, g4, g5, g6⟩ := R.blk id b hid
        have hlen : xs.length = n * b.sz := by
          have := congrArg List.length hcs
          simp at this
          omega
        by_cases h0 : n * b.sz = 0
        · have hx0 : xs = [] := List.eq_nil_of_length_eq_zero (by omega)
          subst hx0
          by_cases hn : n = 0
          · subst hn; exact VF.sl0 _ _
          · by_cases hcap : cap = 0
            · omega
            · have := c3 hcap
              subst this
              exact VF.sl n [] (X.mu b.g) off cap (fun _ => undef) c2 (Nat.lt_of_lt_of_le (Array.getElem?_eq_some_iff.1 g3).1 hg.size) (fun j hj => absurd hj (by simp)) (fun j hj => absurd hj (by simp))
        · have hn : n ≠ 0 := fun h => h0 (by rw [h]; simp)
          have := c3 (by omega)
          subst this
          have hblk : w'.heap[X.mu b.g]? = some (.cells cc t (0, 0)) := by rw [hg.blk _ (Array.getElem?_eq_some_iff.1 g3).1]; exact g3
          have hget : ∀ j, j < xs.length → ∃ u, cc[off + j]? = some u ∧ ∀ h : j < xs.length, VF w X.I xs[j] u := fun j hj => by
            obtain ⟨u, h7, h8⟩ := g6 (off + j) (by omega)
            refine ⟨u, h7, fun hj => ?_⟩
            have e : b.cs[off + j]'(by omega) = .f xs[j] := by
              have := congrArg (fun l => l[j]?) hcs
              simp [hj, show j < n * b.sz by omega, show off + j < b.cs.length by omega] at this
              exact this
            rw [e] at h8
            exact h8
          refine VF.sl n xs (X.mu b.g) off cap (fun j => cc.getD (off + j) undef) c2 (Nat.lt_of_lt_of_le (Array.getElem?_eq_some_iff.1 g3).1 hg.size) (fun j hj => ?_) (fun j hj => ?_)
          · obtain ⟨u, h7, h8⟩ := hget j hj
            simp [World.cell?, hblk, Array.getD_eq_getD_getElem?, h7]
          · obtain ⟨u, h7, h8⟩ := hget j hj
            simp only [Array.getD_eq_getD_getElem?, h7, Option.getD_some]
            exact (h8 hj).mono hI
    · cases h
  · cases h; exact VF.mono hI hv
  · cases h
    obtain ⟨b, o, h1, h2, h3⟩ := hv
    exact ⟨b, o, h1, (hI b h2).1, h3.mono hI h2⟩
  · cases h; exact hv
  · cases h; exact hv
  · cases h; exact hv
  · cases h

theorem snapA_sound {w w' : World} {X : Cx} {H : Heap} (R : HRel w X H) (hg : Grow w w') {x y : AV} {v : Value} (h : snapA H x = some y) (hv : VA w X H x v) : VA w' (X.still w') [] y v := by
  unfold snapA at h
  split at h
  · rename_i x
    cases hs : snapC H x with
    | none => simp [hs] at h
    | some z => simp [hs] at h; subst h; exact .c _ _ (snapC_sound R hg hs (va_c hv))
  · rename_i cs
    cases hs : cs.mapM (snapC H) with
    | none => simp [hs] at h
    | some z =>
      simp [hs] at h; subst h
      obtain ⟨h1, h2⟩ := mapM_get hs
      cases hv with
      | agg cs vs hsz hc =>
        refine .agg _ _ (by omega) fun j hj => ?_
        obtain ⟨y, h3, h4⟩ := h2 j (by omega)
        obtain ⟨u, h5, h6⟩ := hc j (by omega)
        have : z[j] = y := by simpa [List.getElem?_eq_getElem hj] using h3
        rw [this]
        exact ⟨u, h5, snapC_sound R hg h4 h6⟩
  · cases h; cases hv; exact .void
  · cases h

/-- A call that makes nothing that is handed back: all that is there stays as it is, and it yields one value. -/
theorem call_still {P : Program} {f : FuncId} {args args' : List AV} {w w' : World} {X : Cx} {H : Heap} {vs : Array Value} {v : AV} {u : Value} (R : HRel w X H) (hg : Grow w w') (hvs : VAs w X H args vs) (hs : args.mapM (snapA H) = some args')
    (hf : flatV v = some u) (hc : RunCall P f args' [] fun r _ => r = v) : Calls P f vs w' fun e w'' => e = .returned u ∧ Grow w' w'' := by
  obtain ⟨hl, hgm⟩ := mapM_get hs
  have R0 : HRel w' (X.still w') [] := ⟨fun b hb => hb, fun id b hb => by simp at hb, fun id id' b b' hb => by simp at hb⟩
  refine (hc w' (X.still w') vs R0 ⟨by rw [hvs.1, hl], fun i hi => ?_⟩).mono fun e w'' ⟨r, u', X', H', h1, h2, h3, h4, h5⟩ => ?_
  · obtain ⟨x, h1, h2⟩ := hvs.2 i (by omega)
    obtain ⟨y, h3, h4⟩ := hgm i (by omega)
    have : args'[i] = y := by simpa [List.getElem?_eq_getElem hi] using h3
    rw [this]
    exact ⟨x, h1, snapA_sound R hg h4 h2⟩
  · subst h5
    refine ⟨by rw [h1, (flatV_sound hf).2 _ _ _ _ h2], fun b hb => (h4.imm b hb).2, h4.size, h4.os, h4.tape, h4.output⟩

/-- What the operands of a call are. -/
def callArgs (st : St) (fo : Operand) (xs : Array Operand) : Option (FuncId × List AV) :=
  match evO st.s fo with
  | .c (.fn f []) => some (f, xs.toList.map (evO st.s))
  | _ => none

theorem callArgs_sound {P : Program} {o : Oper} {w : World} {X : Cx} {a : Act} {st : St} (R : Rel w X a st) {fo : Operand} {xs : Array Operand} {ts : Array TypeId} {f : FuncId} {args : List AV}
    (ho : o.op = .call ⟨.value fo, xs, ts⟩) (h : callArgs st fo xs = some (f, args)) (he : Enters P f) :
    ∃ vs, (∀ w', (execOp a.eval o).run P w' = .ok (.enter f vs) w') ∧ VAs w X st.h args vs := by
  unfold callArgs at h
  split at h
  · rename_i f' e
    cases h
    have hfv := evO_sound R fo
    rw [e] at hfv
    have hfe := (va_c hfv).2.2 (by simp)
    refine ⟨xs.map a.eval, fun w' => ?_, by simp, fun i hi => ?_⟩
    · simp only [execOp, ho, resolve, Sem.run_bind, hfe, Deferred.ofValue, Sem.run_pure, Result.andThen_ok, invoke]
      rw [run_callFunc he]
      simp
    · simp only [List.length_map, Array.length_toList] at hi
      refine ⟨a.eval xs[i], by simp [hi], ?_⟩
      simp only [List.getElem_map, Array.getElem_toList]
      exact evO_sound R _
  · cases h

theorem OpS.callStill {P : Program} {o : Oper} {st : St} {K : AV → Heap → Prop} {fo : Operand} {xs : Array Operand} {ts : Array TypeId} {f : FuncId} {args args' : List AV} {v : AV} {u : Value}
    (ho : o.op = .call ⟨.value fo, xs, ts⟩) (ha : callArgs st fo xs = some (f, args)) (he : Enters P f) (hs : args.mapM (snapA st.h) = some args')
    (hc : RunCall P f args' [] fun r _ => r = v) (hf : flatV v = some u) (hk : K v st.h) : OpS P o st K := by
  intro w X a R next Q hn
  obtain ⟨vs, h1, h2⟩ := callArgs_sound (P := P) R ho ha he
  refine wp_enter (h1 w) ((call_still R.heap (Grow.refl w) h2 hs hf hc).mono fun e w' ⟨h3, h4⟩ => ⟨u, h3, ?_⟩)
  exact hn v u X st.h w' ((flatV_sound hf).1 _ _ _) (h4.rel R.heap) (h4.ev R.heap) hk

/-! ### regions that draw their order -/
/-- The operation yields this, whatever has been made beside. -/
def Quiet (P : Program) (o : Oper) (st : St) (v : AV) : Prop :=
  ∀ w X a, Rel w X a st → ∃ u, VA w X st.h v u ∧ ∀ w', Grow w w' → o.quietAt P a (Grow w) w' u

theorem Quiet.val {P : Program} {o : Oper} {st : St} {v : AV} (h : opV P st.s st.h o.op = some v) : Quiet P o st v := by
  intro w X a R
  obtain ⟨u, h1, h2⟩ := opV_sound (P := P) R h
  refine ⟨u, h2, fun w' hg => ?_⟩
  unfold Oper.quietAt
  rw [h1 w' hg o rfl]
  exact ⟨rfl, rfl⟩

theorem Quiet.call {P : Program} {o : Oper} {st : St} {fo : Operand} {xs : Array Operand} {ts : Array TypeId} {f : FuncId} {args args' : List AV} {v : AV} {u : Value}
    (ho : o.op = .call ⟨.value fo, xs, ts⟩) (ha : callArgs st fo xs = some (f, args)) (he : Enters P f) (hs : args.mapM (snapA st.h) = some args')
    (hc : RunCall P f args' [] fun r _ => r = v) (hf : flatV v = some u) : Quiet P o st v := by
  intro w X a R
  obtain ⟨vs, h1, h2⟩ := callArgs_sound (P := P) R ho ha he
  refine ⟨u, (flatV_sound hf).1 _ _ _, fun w' hg => ?_⟩
  unfold Oper.quietAt
  rw [h1 w']
  exact ⟨rfl, (call_still R.heap hg h2 hs hf hc).mono fun e w'' ⟨h3, h4⟩ => ⟨h3, hg.trans h4⟩⟩

end Go.Lg
