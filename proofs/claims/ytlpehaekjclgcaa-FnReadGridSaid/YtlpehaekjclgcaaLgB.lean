/- The operations that only compute or read, and that the machine's are as told. -/
import Derived.Test.YtlpehaekjclgcaaLgA
import Derived.Laws.Cells
import Derived.Laws.Rows
import Derived.Laws.CopyRow
set_option linter.unusedSimpArgs false
set_option linter.unusedVariables false
namespace Go.Lg

def cvOf : Value → Option CV
  | .int k n => some (.f (.int k n))
  | .bool b => some (.f (.bool b))
  | .string s => some (.f (.str s))
  | .slice none 0 0 => some (.f .nil)
  | .pointer none => some .nilp
  | .nilFunc => some .nilf
  | _ => none

def avOf (v : Value) : AV :=
  match v with
  | .agg cs => match cs.toList.mapM cvOf with
    | some l => .agg l
    | none => .any
  | v => match cvOf v with
    | some c => .c c
    | none => .any

theorem cvOf_sound {w : World} {X : Cx} {H : Heap} {v : Value} {x : CV} (h : cvOf v = some x) : VC w X H x v := by
  unfold cvOf at h
  split at h <;> simp at h <;> subst h
  · exact VF.int _ _
  · exact VF.bool _
  · exact VF.str _
  · exact VF.nil
  · exact rfl
  · exact rfl

theorem mapM_get {α β : Type} {f : α → Option β} : ∀ {l : List α} {r : List β}, l.mapM f = some r → r.length = l.length ∧ ∀ j (h : j < l.length), ∃ y, r[j]? = some y ∧ f l[j] = some y
  | [], r, h => by
    simp at h; subst h
    exact ⟨rfl, fun j h => absurd h (by simp)⟩
  | a :: l, r, h => by
    simp only [List.mapM_cons] at h
    cases hf : f a with
    | none => simp [hf] at h
    | some y =>
      cases hl : l.mapM f with
      | none => simp [hf, hl] at h
      | some r' =>
        simp [hf, hl] at h
        subst h
        obtain ⟨h1, h2⟩ := mapM_get hl
        refine ⟨by simp [h1], fun j hj => ?_⟩
        cases j with
        | zero => exact ⟨y, rfl, hf⟩
        | succ j => exact h2 j (by simpa using hj)

theorem avOf_sound {w : World} {X : Cx} {H : Heap} (v : Value) : VA w X H (avOf v) v := by
  unfold avOf
  split
  · rename_i cs
    split
    · rename_i l hl
      obtain ⟨h1, h2⟩ := mapM_get hl
      refine .agg _ _ (by simpa using h1.symm) fun j hj => ?_
      obtain ⟨y, h3, h4⟩ := h2 j (by omega)
      have : l[j] = y := by simpa [List.getElem?_eq_getElem hj] using h3
      rw [this]
      exact ⟨_, by simp at h1; simp [h1 ▸ hj], cvOf_sound h4⟩
    · exact .any _
  · split
    · rename_i c hc
      exact .c _ _ (cvOf_sound hc)
    · exact .any _

def evO (s : List AV) : Operand → AV
  | .tmp t => s.getD t .void
  | .const v => avOf v
  | .func f => .c (.fn f [])
  | .global _ => .any

theorem evO_sound {w : World} {X : Cx} {a : Act} {st : St} (R : Rel w X a st) (x : Operand) : VA w X st.h (evO st.s x) (a.eval x) := by
  cases x with
  | tmp t =>
    simp only [evO, Act.eval]
    by_cases h : t < st.s.length
    · obtain ⟨u, h1, h2⟩ := R.slot t h
      simp only [List.getD, List.getElem?_eq_getElem h, Option.getD_some]
      rw [Array.getD_eq_getD_getElem?, h1]
      exact h2
    · have hs := R.size
      rw [Array.getD_eq_getD_getElem?, Array.getElem?_eq_none (by rw [hs]; exact Nat.le_of_not_lt h)]
      simp only [List.getD, List.getElem?_eq_none (Nat.le_of_not_lt h), Option.getD_none]
      exact .void
  | const v => exact avOf_sound v
  | func f =>
    refine .c _ _ ⟨by simp, rfl, fun _ => by simp [Act.eval]⟩
  | «global» g => exact .any _

inductive TK where
  | int (k : IntKind) | bool | str | slice (e : TypeId) | struct (fs : List (TypeId × Nat)) | array (n : Nat) (e : TypeId) | ptr (e : TypeId) | func | other
  deriving Inhabited

def tkOf : TypeDesc → TK
  | .int k => .int k
  | .bool => .bool
  | .string => .str
  | .slice e => .slice e
  | .struct fs => .struct (fs.toList.map fun f => (f.type, f.offset))
  | .array n e => .array n e
  | .pointer e => .ptr e
  | .func .. => .func
  | _ => .other

structure TI where
  k : TK
  size : Nat
  bytes : Nat
  zero : List CV

def tinf (P : Program) (t : TypeId) : Option TI :=
  match P.info? t, P.underlying t with
  | some i, some d => match i.zero with
    | some z => (z.cells.toList.mapM cvOf).map fun l => ⟨tkOf d, i.size, i.bytes, l⟩
    | none => none
  | _, _ => none

theorem tinf_some {P : Program} {t : TypeId} {x : TI} (h : tinf P t = some x) : ∃ i d z, P.info? t = some i ∧ P.underlying t = some d ∧ i.zero = some z ∧
    z.cells.toList.mapM cvOf = some x.zero ∧ x.k = tkOf d ∧ x.size = i.size ∧ x.bytes = i.bytes := by
  unfold tinf at h
  split at h
  · rename_i i d hi hd
    split at h
    · rename_i z hz
      cases hm : z.cells.toList.mapM cvOf with
      | none => simp [hm] at h
      | some l =>
        simp [hm] at h
        subst h
        exact ⟨i, d, z, hi, hd, hz, hm, rfl, rfl, rfl⟩
    · cases h
  · cases h

theorem run_sizeOf' {P : Program} {t : TypeId} {x : TI} (h : tinf P t = some x) (w : World) : (sizeOf t).run P w = .ok x.size w := by
  obtain ⟨i, d, z, hi, hd, hz, hm, h1, h2, h3⟩ := tinf_some h
  simp [sizeOf, typeInfo, hi, h2]

/-- The machine carries the operation out where it stands, and yields v. -/
def Yields (P : Program) (op : Op) (a : Act) (w : World) (u : Value) : Prop :=
  ∀ o : Oper, o.op = op → (execOp a.eval o).run P w = .ok (.value u) w

section
variable {P : Program} {w : World} {X : Cx} {a : Act} {st : St}

theorem va_c {x : CV} {v : Value} {H : Heap} (h : VA w X H (.c x) v) : VC w X H x v := by cases h; assumption
theorem va_int {k : IntKind} {n : Int} {v : Value} {H : Heap} (h : VA w X H (.c (.f (.int k n))) v) : v = .int k n := by
  have h := va_c h; cases h; rfl
theorem va_bool {b : Bool} {v : Value} {H : Heap} (h : VA w X H (.c (.f (.bool b))) v) : v = .bool b := by
  have h := va_c h; cases h; rfl
theorem va_str {s : ByteArray} {v : Value} {H : Heap} (h : VA w X H (.c (.f (.str s))) v) : v = .string s := by
  have h := va_c h; cases h; rfl

theorem yields_move (x : Operand) : Yields P (.move x) a w (a.eval x) := by
  intro o ho; simp [execOp, ho]
theorem yields_assign (x : Operand) : Yields P (.assign x) a w (a.eval x) := by
  intro o ho; simp [execOp, ho]
theorem yields_pick {c x y : Operand} {t : Bool} (h : a.eval c = .bool t) : Yields P (.pick c x y) a w (if t then a.eval x else a.eval y) := by
  intro o ho; simp [execOp, ho, h, asBool]

end

/-! ### whole numbers, bools, strings -/
def bitsI (op : BinOp) (k : IntKind) (x y : Int) : Int :=
  let a := BitVec.ofInt k.bits x
  let b := BitVec.ofInt k.bits y
  k.wrap ((match op with | .and => a &&& b | .or => a ||| b | .xor => a ^^^ b | _ => a &&& ~~~b).toNat : Int)

def binI (op : BinOp) (k : IntKind) (a : Int) (k' : IntKind) (b : Int) : Option FV :=
  match op with
  | .shl => if b < 0 then none else some (.int k (k.wrap (a * 2 ^ min b.toNat k.bits)))
  | .shr => if b < 0 then none else some (.int k (a.fdiv (2 ^ min b.toNat k.bits)))
  | .add => if k = k' then some (.int k (k.wrap (a + b))) else none
  | .sub => if k = k' then some (.int k (k.wrap (a - b))) else none
  | .mul => if k = k' then some (.int k (k.wrap (a * b))) else none
  | .quo => if k = k' ∧ b ≠ 0 then some (.int k (k.wrap (a.tdiv b))) else none
  | .rem => if k = k' ∧ b ≠ 0 then some (.int k (a.tmod b)) else none
  | .and => if k = k' then some (.int k (bitsI .and k a b)) else none
  | .or => if k = k' then some (.int k (bitsI .or k a b)) else none
  | .xor => if k = k' then some (.int k (bitsI .xor k a b)) else none
  | .andNot => if k = k' then some (.int k (bitsI .andNot k a b)) else none
  | .eql => if k = k' then some (.bool (a == b)) else none
  | .neq => if k = k' then some (.bool (a != b)) else none
  | .lss => if k = k' then some (.bool (decide (a < b))) else none
  | .leq => if k = k' then some (.bool (decide (a ≤ b))) else none
  | .gtr => if k = k' then some (.bool (decide (a > b))) else none
  | .geq => if k = k' then some (.bool (decide (a ≥ b))) else none

/-- A plain value as the machine has it. -/
def scal : FV → Value
  | .int k n => .int k n
  | .bool b => .bool b
  | .str s => .string s
  | _ => undef
def isScal : FV → Bool
  | .int .. | .bool _ | .str _ => true
  | _ => false
theorem scal_sound {w : World} {I : Nat → Prop} {x : FV} (h : isScal x = true) : VF w I x (scal x) := by
  cases x <;> simp [isScal] at h
  · exact .int _ _
  · exact .bool _
  · exact .str _

theorem run_eqGuard_int (P : Program) (w : World) (op : BinOp) (t : TypeId) (x y : Operand) (k k' : IntKind) (a b : Int) : (eqGuard op t x y (.int k a) (.int k' b)).run P w = .ok () w := by
  unfold eqGuard
  split <;> simp

theorem binI_sound {P : Program} {w : World} {op : BinOp} {t : TypeId} {k k' : IntKind} {a b : Int} {r : FV} (h : binI op k a k' b = some r) :
    (binOp op t (.int k a) (.int k' b)).run P w = .ok (scal r) w ∧ isScal r = true := by
  cases op <;> simp only [binI] at h <;> split at h <;> simp only [Option.some.injEq, reduceCtorEq] at h <;> rename_i hc <;> subst h <;>
    first
      | (subst hc; exact ⟨by simp [binOp, Op.intArith, Op.intCmp, Op.intBits, bitsI, scal], rfl⟩)
      | (obtain ⟨hk, h0⟩ := hc; subst hk; exact ⟨by simp [binOp, Op.intDiv, h0, scal], rfl⟩)
      | exact ⟨by simp [binOp, Op.shift, hc, scal], rfl⟩
end Go.Lg
