/- Literals, make. -/
import Derived.Test.YtlpehaekjclgcaaLgH
set_option linter.unusedSimpArgs false
set_option linter.unusedVariables false
namespace Go.Lg

theorem foldl_set_get (off : Nat) : ∀ (vs : List Value) (k : Nat) (cells : Array Value), off + k + vs.length ≤ cells.size →
    ((vs.zipIdx k).foldl (fun cs (x : Value × Nat) => cs.setIfInBounds (off + x.2) x.1) cells).size = cells.size ∧
    ∀ j, ((vs.zipIdx k).foldl (fun cs (x : Value × Nat) => cs.setIfInBounds (off + x.2) x.1) cells)[j]? = if off + k ≤ j ∧ j < off + k + vs.length then vs[j - (off + k)]? else cells[j]?
  | [], k, cells, _ => ⟨rfl, fun j => by rw [if_neg (by simp only [List.length_nil]; omega)]; rfl⟩
  | v :: vs, k, cells, h => by
    simp only [List.length_cons] at h
    obtain ⟨h1, h2⟩ := foldl_set_get off vs (k + 1) (cells.setIfInBounds (off + k) v) (by simp only [Array.size_setIfInBounds]; omega)
    simp only [List.zipIdx_cons, List.foldl_cons]
    refine ⟨by rw [h1]; simp, fun j => ?_⟩
    rw [h2]
    simp only [List.length_cons]
    by_cases hj : j = off + k
    · subst hj
      rw [if_neg (by omega), if_pos (by omega), Array.getElem?_setIfInBounds_self_of_lt (by omega)]
      simp
    · rw [Array.getElem?_setIfInBounds_ne (by omega)]
      by_cases hc : off + (k + 1) ≤ j ∧ j < off + (k + 1) + vs.length
      · rw [if_pos hc, if_pos (by omega)]
        have : j - (off + k) = (j - (off + (k + 1))) + 1 := by omega
        rw [this]
        simp
      · rw [if_neg hc, if_neg (by omega)]

def fillG (place : Nat → Option (Nat × Nat)) : List CV → List (Nat × List CV) → Option (List CV)
  | l, [] => some l
  | l, (i, cs) :: rest => match place i with
    | none => none
    | some (off, size) => if cs.length = size ∧ off + size ≤ l.length then fillG place (setRange l off cs) rest else none

def partsV (s : List AV) : List (Nat × Operand) → Option (List (Nat × List CV))
  | [] => some []
  | (i, x) :: rest => match avCells (evO s x), partsV s rest with
    | some cs, some r => some ((i, cs) :: r)
    | _, _ => none

theorem fill_sound {w : World} {X : Cx} {a : Act} {st : St} (R : Rel w X a st) {place : Nat → Option (Nat × Nat)} : ∀ (ps : List (Nat × Operand)) (l : List CV) (cells : Array Value) (rs : List (Nat × List CV)) (r : List CV),
    partsV st.s ps = some rs → fillG place l rs = some r → cells.size = l.length → (∀ j (h : j < l.length), ∃ x, cells[j]? = some x ∧ VC w X st.h l[j] x) →
    ∃ out, Instr.fill place cells (ps.map fun p => (p.1, a.eval p.2)) = some out ∧ out.size = r.length ∧ ∀ j (h : j < r.length), ∃ x, out[j]? = some x ∧ VC w X st.h r[j] x
  | [], l, cells, rs, r, h1, h2, h3, h4 => by
    cases h1
    cases h2
    exact ⟨cells, rfl, h3, h4⟩
  | (i, x) :: ps, l, cells, rs, r, h1, h2, h3, h4 => by
    unfold partsV at h1
    split at h1
    · rename_i cs r' e1 e2
      cases h1
      unfold fillG at h2
      split at h2
      · cases h2
      · rename_i off size hp
        split at h2
        · rename_i hc
          obtain ⟨hc1, hc2⟩ := hc
          obtain ⟨k1, k2, k3⟩ := avCells_sound e1 (evO_sound R x)
          obtain ⟨q1, q2⟩ := foldl_set_get off (a.eval x).cells.toList 0 cells (by simp; omega)
          have hle : off + cs.length ≤ l.length := by omega
          obtain ⟨out, o1, o2, o3⟩ := fill_sound R ps (setRange l off cs) (((a.eval x).cells.toList.zipIdx 0).foldl (fun cs (x : Value × Nat) => cs.setIfInBounds (off + x.2) x.1) cells) r' r e2 h2 (by rw [q1, setRange_length hle]; exact h3) (fun j hj => by
            rw [q2]
            rcases setRange_get hle j hj with ⟨p1, p2, p3⟩ | ⟨p1, p2, p3⟩ | ⟨p1, p2, p3⟩
            · rw [if_neg (by omega), p3]; exact h4 j p2
            · rw [if_pos (by simp; omega), p3]
              obtain ⟨y, y1, y2⟩ := k2 _ p1
              exact ⟨y, by simpa using y1, y2⟩
            · rw [if_neg (by simp; omega), p3]; exact h4 j p2)
          refine ⟨out, ?_, o2, o3⟩
          simp only [List.map_cons, Instr.fill, hp]
          rw [if_neg (by simp; omega)]
          rw [← o1]
          congr 1
          rw [← Array.foldl_toList, Array.toList_zipIdx]
        · cases h2
    · cases h1

/-- So many zero cells, the type's own over and over. -/
def zerosL (n : Nat) (z : List CV) : List CV := (List.range n).map fun j => z.getD (j % z.length) (.f .nil)

theorem zerosL_one (n : Nat) (c : CV) : zerosL n [c] = List.replicate n c := by
  simp only [zerosL, List.length_singleton, Nat.mod_one]
  apply List.ext_getElem
  · simp
  · intro i h1 h2
    simp

theorem zerosL_sound {w : World} {X : Cx} {H : Heap} {z : Array Value} {zs : List CV} (hl : z.size = zs.length) (hz : ∀ j (h : j < zs.length), ∃ x, z[j]? = some x ∧ VC w X H zs[j] x) (n : Nat) (hn : n ≠ 0 → zs.length ≠ 0) :
    ((Array.range n).map (z[· % z.size]!)).size = (zerosL n zs).length ∧ ∀ j (h : j < (zerosL n zs).length), ∃ x, ((Array.range n).map (z[· % z.size]!))[j]? = some x ∧ VC w X H (zerosL n zs)[j] x := by
  refine ⟨by simp [zerosL], fun j hj => ?_⟩
  simp only [zerosL, List.length_map, List.length_range] at hj
  have h0 := hn (by omega)
  have hlt : j % zs.length < zs.length := Nat.mod_lt _ (by omega)
  obtain ⟨x, h1, h2⟩ := hz _ hlt
  refine ⟨x, ?_, ?_⟩
  · simp only [Array.getElem?_map]
    rw [Array.getElem?_range]
    simp only [hj, if_true, Option.map_some, hl]
    rw [Array.getElem!_eq_getD, Array.getD_eq_getD_getElem?, h1]
    rfl
  · simp only [zerosL, List.getElem_map, List.getElem_range, List.getD, List.getElem?_eq_getElem hlt, Option.getD_some]
    exact h2

/-- A value in new memory: what it is at hand with. -/
theorem new_own {w w' : World} {X : Cx} {H : Heap} {sz c n cap : Nat} {cs : List CV} (h1 : n * sz ≤ cs.length) (h2 : n ≤ cap) (h3 : cap * sz ≤ c) (h4 : cs.length ≤ cap * sz) :
    VA w' (X.new w.heap.size c) (H ++ [some ⟨X.t, sz, cs⟩]) (.c (.own H.length X.t 0 n none)) (.slice (some ⟨w.heap.size, 0, none⟩) n cap) := by
  refine .c _ _ ⟨Nat.lt_succ_self _, rfl, fun blk hblk => ?_⟩
  obtain ⟨h5, h6⟩ := look_some hblk
  simp at h5
  subst h5
  exact ⟨by simpa using h1, _, _, rfl, h2, fun _ => by simp [Cx.new], by simpa [Cx.new] using h3, by simpa using h4⟩

theorem OpS.buildSlice {P : Program} {o : Oper} {st : St} {K : AV → Heap → Prop} {t e : TypeId} {ti ei : TI} {n : Nat} {parts : Array (Nat × Operand)} {rs : List (Nat × List CV)} {cs : List CV}
    (ho : o.op = .buildSlice t n parts) (ht : tinf P t = some ti) (hk : ti.k = .slice e) (he : tinf P e = some ei) (hz : ei.zero.length = ei.size) (hp : partsV st.s parts.toList = some rs)
    (hf : fillG (fun i => some (i * ei.size, ei.size)) (zerosL (n * ei.size) ei.zero) rs = some cs) (h24 : n * ei.size ≤ 16777216)
    (hK : ∀ g, K (.c (.own st.h.length g 0 n none)) (st.h ++ [some ⟨g, ei.size, cs⟩])) : OpS P o st K := by
  intro w X a R next Q hn
  obtain ⟨inf, d, z', h1, h2, h3, h4, h5, h6, h7⟩ := tinf_some ht
  rw [h5] at hk; cases tk_slice hk
  obtain ⟨z, hz1, hz2, hz3⟩ := zero_sound he
  have hz0 : n * ei.size ≠ 0 → ei.zero.length ≠ 0 := fun h => by rw [hz]; intro h0; rw [h0] at h; exact h (Nat.mul_zero _)
  obtain ⟨q1, q2⟩ := zerosL_sound (w := w) (X := X) (H := st.h) hz2 (hz3 w X st.h) (n * ei.size) hz0
  obtain ⟨out, o1, o2, o3⟩ := fill_sound R parts.toList (zerosL (n * ei.size) ei.zero) ((Array.range (n * ei.size)).map (z.cells[· % z.cells.size]!)) rs cs hp hf q1 q2
  have hlen : cs.length = n * ei.size := by
    have : ∀ (rs : List (Nat × List CV)) (l r : List CV), fillG (fun i => some (i * ei.size, ei.size)) l rs = some r → r.length = l.length := by
      intro rs
      induction rs with
      | nil => intro l r h; cases h; rfl
      | cons p rs ih =>
        intro l r h
        obtain ⟨i, c⟩ := p
        simp only [fillG] at h
        split at h
        · rename_i hc
          rw [ih _ _ h, setRange_length (by omega)]
        · cases h
    rw [this _ _ _ hf]; simp [zerosL]
  have hrun : (execOp a.eval o).run P w = .ok (.value (.slice (some ⟨w.heap.size, 0, none⟩) n n)) (w.alloc (.cells out e)) := by
    have h24' : ¬ (n * ei.size > 2 ^ 24) := by simpa using h24
    have hparts : (parts.map fun p => (p.1, a.eval p.2)).toList = parts.toList.map fun p => (p.1, a.eval p.2) := by simp
    simp only [execOp, ho, Instr.buildSlice, Sem.run_bind, run_underlying h2, Result.andThen_ok, run_sizeOf' he, Sem.run_ite, if_neg h24', Sem.run_pure]
    by_cases h0 : n * ei.size = 0
    · simp only [h0, if_true, Result.andThen_ok] at o1 ⊢
      have e0 : (Array.range 0).map ((#[] : Array Value)[· % (#[] : Array Value).size]!) = (Array.range 0).map (z.cells[· % z.cells.size]!) := by simp
      rw [e0, hparts, o1]
      simp [newRow]
    · simp only [if_neg h0, hz1, Result.andThen_ok, Sem.run_bind, Sem.run_pure]
      rw [hparts, o1]
      simp [newRow]
  obtain ⟨k1, k2⟩ := new_block (w' := w.alloc (.cells out e)) R.heap (sz := ei.size) (t := e) (cs := cs) (cc := out) rfl rfl rfl rfl (by omega) o3
  exact wp_value hrun (hn _ _ _ _ _ (new_own (by omega) (Nat.le_refl _) (by omega) (by omega)) k1 k2 (hK _))

theorem OpS.makeSlice {P : Program} {o : Oper} {st : St} {K : AV → Heap → Prop} {t e : TypeId} {ti ei : TI} {x y : Operand} {k k' : IntKind} {l c : Int}
    (ho : o.op = .makeSlice t x y) (ht : tinf P t = some ti) (hk : ti.k = .slice e) (he : tinf P e = some ei) (hz : ei.zero.length = ei.size)
    (hx : evO st.s x = .c (.f (.int k l))) (hy : evO st.s y = .c (.f (.int k' c))) (h0 : 0 ≤ l) (h1 : l ≤ c) (h63 : c ≤ 9223372036854775807) (h48 : ei.bytes * c ≤ 281474976710656)
    (hK : ∀ g, K (.c (.own st.h.length g 0 l.toNat none)) (st.h ++ [some ⟨g, ei.size, zerosL (l.toNat * ei.size) ei.zero⟩])) : OpS P o st K := by
  intro w X a R next Q hn
  obtain ⟨inf, d, z', i1, i2, i3, i4, i5, i6, i7⟩ := tinf_some ht
  rw [i5] at hk; cases tk_slice hk
  obtain ⟨infe, de, ze', e1, e2, e3, e4, e5, e6, e7⟩ := tinf_some he
  obtain ⟨z, hz1, hz2, hz3⟩ := zero_sound he
  have hxv := evO_sound R x
  have hyv := evO_sound R y
  rw [hx] at hxv; rw [hy] at hyv
  have hz0 : c.toNat * ei.size ≠ 0 → ei.zero.length ≠ 0 := fun h => by rw [hz]; intro h0; rw [h0] at h; exact h (Nat.mul_zero _)
  obtain ⟨q1, q2⟩ := zerosL_sound (w := w) (X := X) (H := st.h) hz2 (hz3 w X st.h) (c.toNat * ei.size) hz0
  have hw1 : IntKind.i64.wrap l = l := by
    simp only [IntKind.wrap, IntKind.bits, IntKind.signed]
    have : l % 2 ^ 64 = l := Int.emod_eq_of_lt h0 (by omega)
    simp [this]; omega
  have hw2 : IntKind.i64.wrap c = c := by
    simp only [IntKind.wrap, IntKind.bits, IntKind.signed]
    have : c % 2 ^ 64 = c := Int.emod_eq_of_lt (by omega) (by omega)
    simp [this]; omega
  let out := (Array.range (c.toNat * ei.size)).map (z.cells[· % z.cells.size]!)
  have hrun : (execOp a.eval o).run P w = .ok (.value (.slice (some ⟨w.heap.size, 0, none⟩) l.toNat c.toNat)) (w.alloc (.cells out e)) := by
    have n1 : ¬ ((c < 0 ∨ (281474976710656 : Int) < infe.bytes * c) ∨ l < 0 ∨ c < l) := by rw [← e7]; omega
    have hti : (typeInfo e).run P w = .ok infe w := by simp [typeInfo, e1]
    simp only [execOp, ho, Instr.makeSlice, Sem.run_bind, run_underlying i2, Result.andThen_ok, va_int hxv, va_int hyv, asInt, asIntOf, Sem.run_pure, hti, hw1, hw2]
    rw [if_neg (show ¬ ((decide (c < 0) || decide ((infe.bytes : Int) * c > 2 ^ 48) || decide (l < 0) || decide (l > c)) = true) by simp; omega)]
    by_cases hn0 : c.toNat * ei.size = 0
    · simp only [Sem.run_bind, run_askRoom, Result.andThen_ok, run_sizeOf' he, hn0, if_true, Sem.run_pure]
      have r0 : Array.range 0 = #[] := by simp
      simp only [r0, Array.map_empty, newRow, out, hn0]
      simp
    · simp only [Sem.run_bind, run_askRoom, Result.andThen_ok, run_sizeOf' he, if_neg hn0, Sem.run_pure, hz1]
      simp [newRow, out]
  have hle : l.toNat * ei.size ≤ c.toNat * ei.size := Nat.mul_le_mul_right _ (by omega)
  have hzl : (zerosL (l.toNat * ei.size) ei.zero).length = l.toNat * ei.size := by simp [zerosL]
  have hol : out.size = c.toNat * ei.size := by simp [out]
  obtain ⟨k1, k2⟩ := new_block (w' := w.alloc (.cells out e)) R.heap (sz := ei.size) (t := e) (cs := zerosL (l.toNat * ei.size) ei.zero) (cc := out) rfl rfl rfl rfl (by omega) (fun j hj => by
    obtain ⟨u, u1, u2⟩ := q2 j (by simp [zerosL] at hj ⊢; omega)
    refine ⟨u, u1, ?_⟩
    simp only [zerosL, List.getElem_map, List.getElem_range] at u2 ⊢
    exact u2)
  exact wp_value hrun (hn _ _ _ _ _ (new_own (by omega) (by omega) (by omega) (by omega)) k1 k2 (hK _))
end Go.Lg
