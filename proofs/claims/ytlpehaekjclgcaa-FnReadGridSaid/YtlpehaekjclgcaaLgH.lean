/- The operations that change the heap, and calls: each with what must be shown of it. -/
import Derived.Test.YtlpehaekjclgcaaLgG
set_option linter.unusedSimpArgs false
set_option linter.unusedVariables false
namespace Go.Lg

/-- Whatever the operation makes of the state meets K. -/
def OpS (P : Program) (o : Oper) (st : St) (K : AV → Heap → Prop) : Prop :=
  ∀ w X a, Rel w X a st → ∀ (next : Act → World → Prop) (Q : Exit → Act → World → Prop),
    (∀ v u X' H' w', VA w' X' H' v u → HRel w' X' H' → Ev w X st.h w' X' H' → K v H' → next (a.put o.dst u) w') → o.wp P a w next Q

theorem OpS.val {P : Program} {o : Oper} {st : St} {K : AV → Heap → Prop} {v : AV} (h : opV P st.s st.h o.op = some v) (hk : K v st.h) : OpS P o st K := by
  intro w X a R next Q hn
  obtain ⟨u, h1, h2⟩ := opV_sound (P := P) R h
  unfold Oper.wp
  rw [h1 w (Grow.refl w) o rfl, Oper.upon_value]
  exact hn v u X st.h w h2 R.heap (Ev.refl _ _ _) hk

def avCells : AV → Option (List CV)
  | .c c => some [c]
  | .agg cs => some cs
  | _ => none

theorem avCells_sound {w : World} {X : Cx} {H : Heap} {v : AV} {u : Value} {l : List CV} (h : avCells v = some l) (hv : VA w X H v u) :
    u.cells.size = l.length ∧ (∀ j (h : j < l.length), ∃ x, u.cells[j]? = some x ∧ VC w X H l[j] x) ∧ ∀ x ∈ u.cells.toList, x.oneCell' = true := by
  cases hv with
  | c x u hx =>
    cases h
    have h1 := hx.one
    have hu : u.cells = #[u] := by cases u <;> first | rfl | (simp [Value.oneCell'] at h1)
    rw [hu]
    refine ⟨rfl, fun j hj => ?_, fun x hx => by simp at hx; subst hx; exact h1⟩
    have : j = 0 := by simp at hj; omega
    subst this
    exact ⟨u, rfl, hx⟩
  | agg cs vs hs hc =>
    cases h
    refine ⟨hs, hc, fun x hx => ?_⟩
    obtain ⟨j, hj, rfl⟩ := List.mem_iff_getElem.1 hx
    simp only [Value.cells, Array.length_toList] at hj
    obtain ⟨y, h1, h2⟩ := hc j (by omega)
    have : (vs.toList[j]'(by simpa using hj)) = y := by
      simp only [Array.getElem_toList]
      simpa [hj] using h1
    simp only [Value.cells]
    rw [this]
    exact h2.one
  | _ => cases h

theorem cvOf_one {v : Value} {x : CV} (h : cvOf v = some x) : v.oneCell' = true := VC.one (w := default) (X := ⟨id, id, fun _ => False, 0⟩) (H := []) (cvOf_sound h)

/-- The zero cells of a type, as the machine has them. -/
theorem zero_sound {P : Program} {t : TypeId} {ti : TI} (h : tinf P t = some ti) : ∃ z, (∀ w, (zeroValue t).run P w = .ok z w) ∧ z.cells.size = ti.zero.length ∧
    ∀ (w : World) (X : Cx) (H : Heap) j (h : j < ti.zero.length), ∃ x, z.cells[j]? = some x ∧ VC w X H ti.zero[j] x := by
  obtain ⟨i, d, z, hi, hd, hz, hm, h1, h2, h3⟩ := tinf_some h
  obtain ⟨hl, hg⟩ := mapM_get hm
  refine ⟨z, fun w => by simp [zeroValue, typeInfo, hi, hz], by simpa using hl.symm, fun w X H j hj => ?_⟩
  obtain ⟨y, h4, h5⟩ := hg j (by omega)
  have : ti.zero[j] = y := by simpa [List.getElem?_eq_getElem hj] using h4
  rw [this]
  exact ⟨z.cells.toList[j]'(by omega), by simp at hl; simp [← hl, hj], cvOf_sound h5⟩

theorem wp_value {P : Program} {o : Oper} {a : Act} {w w' : World} {u : Value} {next : Act → World → Prop} {Q : Exit → Act → World → Prop} (h : (execOp a.eval o).run P w = .ok (.value u) w') (hn : next (a.put o.dst u) w') : o.wp P a w next Q := by
  unfold Oper.wp; rw [h, Oper.upon_value]; exact hn
theorem wp_skipv {P : Program} {o : Oper} {a : Act} {w w' : World} {next : Act → World → Prop} {Q : Exit → Act → World → Prop} (h : (execOp a.eval o).run P w = .ok .skip w') (hn : next (a.put o.dst undef) w') : o.wp P a w next Q := by
  unfold Oper.wp; rw [h, Oper.upon_skip]; exact hn

/-- What a new block is at hand with: its pointer. -/
theorem new_ptr {w w' : World} {X : Cx} {H : Heap} {sz c : Nat} {cs : List CV} : VA w' (X.new w.heap.size c) (H ++ [some ⟨X.t, sz, cs⟩]) (.c (.ptr H.length X.t 0)) (.pointer (some ⟨w.heap.size, 0, none⟩)) :=
  .c _ _ ⟨Nat.lt_succ_self _, rfl, fun _ => by simp [Cx.new]⟩

theorem OpS.alloc {P : Program} {o : Oper} {st : St} {K : AV → Heap → Prop} {t : TypeId} {ti : TI} (ho : o.op = .alloc t) (ht : tinf P t = some ti)
    (hk : ∀ g, K (.c (.ptr st.h.length g 0)) (st.h ++ [some ⟨g, ti.size, ti.zero⟩])) : OpS P o st K := by
  intro w X a R next Q hn
  obtain ⟨z, hz, hzs, hzc⟩ := zero_sound ht
  have hrun : (execOp a.eval o).run P w = .ok (.value (.pointer (some ⟨w.heap.size, 0, none⟩))) (w.alloc (.cells z.cells t)) := by
    simp only [execOp, ho, Instr.alloc, Sem.run_bind, hz, Result.andThen_ok]
    simp [newVar, newRow]
  obtain ⟨h1, h2⟩ := new_block (w' := w.alloc (.cells z.cells t)) R.heap (sz := ti.size) (t := t) (cs := ti.zero) (cc := z.cells) rfl rfl rfl rfl (by omega) (fun j hj => hzc w X st.h j hj)
  exact wp_value hrun (hn _ _ _ _ _ new_ptr h1 h2 (hk _))

theorem OpS.box {P : Program} {o : Oper} {st : St} {K : AV → Heap → Prop} {t : TypeId} {x : Operand} {cs : List CV} (ho : o.op = .box t x) (hx : avCells (evO st.s x) = some cs)
    (hk : ∀ g, K (.c (.ptr st.h.length g 0)) (st.h ++ [some ⟨g, 1, cs⟩])) : OpS P o st K := by
  intro w X a R next Q hn
  obtain ⟨h1, h2, h3⟩ := avCells_sound hx (evO_sound R x)
  have hrun : (execOp a.eval o).run P w = .ok (.value (.pointer (some ⟨w.heap.size, 0, none⟩))) (w.alloc (.cells (a.eval x).cells t)) := by
    simp [execOp, ho, Instr.box, newVar, newRow]
  obtain ⟨h4, h5⟩ := new_block (w' := w.alloc (.cells (a.eval x).cells t)) R.heap (sz := 1) (t := t) (cs := cs) (cc := (a.eval x).cells) rfl rfl rfl rfl (by omega) h2
  exact wp_value hrun (hn _ _ _ _ _ new_ptr h4 h5 (hk _))

/-- Cells written over others from a place on. -/
def setRange (l : List CV) (o : Nat) (m : List CV) : List CV := l.take o ++ m ++ l.drop (o + m.length)

theorem setRange_length {l m : List CV} {o : Nat} (h : o + m.length ≤ l.length) : (setRange l o m).length = l.length := by
  simp [setRange]; omega

theorem setRange_get {l m : List CV} {o : Nat} (h : o + m.length ≤ l.length) (j : Nat) (hj : j < (setRange l o m).length) :
    (j < o ∧ ∃ h : j < l.length, (setRange l o m)[j] = l[j]) ∨ (∃ h : j - o < m.length, o ≤ j ∧ (setRange l o m)[j] = m[j - o]) ∨ (o + m.length ≤ j ∧ ∃ h : j < l.length, (setRange l o m)[j] = l[j]) := by
  have hl := setRange_length h
  by_cases h1 : j < o
  · refine .inl ⟨h1, by omega, ?_⟩
    simp only [setRange, List.append_assoc]
    rw [List.getElem_append_left (by simp; omega)]
    simp
  · by_cases h2 : j < o + m.length
    · refine .inr (.inl ⟨by omega, by omega, ?_⟩)
      simp only [setRange, List.append_assoc]
      rw [List.getElem_append_right (by simp; omega)]
      rw [List.getElem_append_left (by simp; omega)]
      congr 1
      simp; omega
    · refine .inr (.inr ⟨by omega, by omega, ?_⟩)
      simp only [setRange]
      rw [List.getElem_append_right (by simp; omega)]
      simp only [List.getElem_drop]
      congr 1
      simp; omega

theorem setRow_get {l : Array Value} {m : List Value} {o j : Nat} (h : o + m.length ≤ l.size) :
    (l.toList.take o ++ m ++ l.toList.drop (o + m.length)).toArray[j]? = if o ≤ j ∧ j < o + m.length then m[j - o]? else l[j]? := by
  simp only [List.getElem?_toArray]
  split
  · rename_i hc
    rw [List.append_assoc, List.getElem?_append_right (by simp; omega), List.getElem?_append_left (by simp; omega)]
    congr 1
    simp; omega
  · rename_i hc
    by_cases h1 : j < o
    · rw [List.append_assoc, List.getElem?_append_left (by simp; omega)]
      rw [List.getElem?_take_of_lt h1]
      simp
    · rw [List.getElem?_append_right (by simp; omega), List.getElem?_drop]
      have : o + m.length + (j - (List.take o l.toList ++ m).length) = j := by simp; omega
      rw [this]
      simp

theorem setRow_world (w : World) (g : Nat) (cur cs : Array Value) (t : TypeId) (fr : Nat × Nat) (hg : w.heap[g]? = some (.cells cur t fr)) :
    (w.setRow g cs).heap[g]? = some (.cells cs t fr) ∧ (∀ k, k ≠ g → (w.setRow g cs).heap[k]? = w.heap[k]?) ∧ (w.setRow g cs).heap.size = w.heap.size := by
  refine ⟨?_, fun k hk => ?_, by simp [World.setRow]⟩
  · simp [World.setRow, Array.getElem?_modify, hg]
  · simp only [World.setRow, Array.getElem?_modify]
    rw [if_neg (fun h => hk h.symm)]

/-- Cells written into a block of the call's own. -/
theorem put_cells {w : World} {X : Cx} {H : Heap} (R : HRel w X H) {id g : Nat} {b : Blk} (hl : look H id g = some b) {o : Nat} {cs : List CV} {vs : List Value} (hvl : vs.length = cs.length) (ho : o + cs.length ≤ b.cs.length)
    (hv : ∀ j (h : j < cs.length), ∃ x, vs[j]? = some x ∧ VC w X H cs[j] x) (h1 : ∀ x ∈ vs, x.oneCell' = true) :
    ∃ w', (∀ P, (storeCells ⟨X.mu g, o, none⟩ vs).run P w = .ok () w') ∧ HRel w' X (H.set id (some ⟨b.g, b.sz, setRange b.cs o cs⟩)) ∧ Ev w X H w' X (H.set id (some ⟨b.g, b.sz, setRange b.cs o cs⟩)) := by
  obtain ⟨hid, hgg⟩ := look_some hl
  subst hgg
  obtain ⟨g1, g2, cc, t, g3, g4, g5, g6⟩ := R.blk id b hid
  have hle : o + vs.length ≤ cc.size := by omega
  obtain ⟨k1, k2, k3⟩ := setRow_world w (X.mu b.g) cc (cc.toList.take o ++ vs ++ cc.toList.drop (o + vs.length)).toArray t (0, 0) g3
  refine ⟨_, fun P => ?_, upd_block R hid k1 k2 k3 rfl rfl rfl (by simp; omega) (setRange_length ho) fun j hj => ?_⟩
  · have := run_storeCells_at (P := P) (X.mu b.g) o t vs 0 cc w g3 (by simpa using hle) h1
    simpa using this
  · rw [setRow_get hle]
    rcases setRange_get ho j hj with ⟨h2, h3, h4⟩ | ⟨h2, h3, h4⟩ | ⟨h2, h3, h4⟩
    · rw [if_neg (by omega), h4]; exact g6 j h3
    · rw [if_pos (by omega), h4]; exact hv _ h2
    · rw [if_neg (by omega), h4]; exact g6 j h3

theorem OpS.store {P : Program} {o : Oper} {st : St} {K : AV → Heap → Prop} {t : TypeId} {ti : TI} {p x : Operand} {id g off : Nat} {b : Blk} {cs : List CV} (ho : o.op = .store t p x) (ht : tinf P t = some ti)
    (hp : evO st.s p = .c (.ptr id g off)) (hl : look st.h id g = some b) (hx : avCells (evO st.s x) = some cs) (hs : cs.length = ti.size) (hle : off + cs.length ≤ b.cs.length)
    (hk : K .void (st.h.set id (some ⟨b.g, b.sz, setRange b.cs off cs⟩))) : OpS P o st K := by
  intro w X a R next Q hn
  obtain ⟨h1, h2, h3⟩ := avCells_sound hx (evO_sound R x)
  have hpv := evO_sound R p
  rw [hp] at hpv
  have hpe := (va_c hpv).2.2 (by rw [hl]; rfl)
  obtain ⟨w', h4, h5, h6⟩ := put_cells R.heap hl (o := off) (cs := cs) (vs := (a.eval x).cells.toList) (by simpa using h1) hle (fun j hj => by obtain ⟨y, h7, h8⟩ := h2 j hj; exact ⟨y, by simpa using h7, h8⟩) h3
  have hrun : (execOp a.eval o).run P w = .ok .skip w' := by
    have hsz : ¬ ((a.eval x).cells.size ≠ ti.size) := by omega
    simp only [execOp, ho, Instr.storeAt, hpe, Instr.sureAddr, Sem.run_bind, Sem.run_pure, Result.andThen_ok, storeVar, run_sizeOf' ht, Sem.run_ite, if_neg hsz, h4]
  exact wp_skipv hrun (hn .void undef _ _ _ .void h5 h6 hk)
end Go.Lg
