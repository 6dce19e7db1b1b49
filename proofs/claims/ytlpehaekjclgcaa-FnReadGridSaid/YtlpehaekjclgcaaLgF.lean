/- All operations that only compute or read, as one function. -/
import Derived.Test.YtlpehaekjclgcaaLgE
set_option linter.unusedSimpArgs false
set_option linter.unusedVariables false
namespace Go.Lg

def capOf (s : List AV) (o : Operand) : Option (Nat × Nat) :=
  match evO s o with
  | .c (.ptr id g 0) => some (id, g)
  | _ => none

def minV (mx : Bool) (x y : AV) : Option AV :=
  match x, y with
  | .c (.f (.int k a)), .c (.f (.int _ b)) => some (.c (.f (.int k (if mx then (if a < b then b else a) else (if b < a then b else a)))))
  | _, _ => none

def nilV (H : Heap) (x : AV) : Option AV :=
  match x with
  | .c (.ptr id g o) => if (look H id g).isSome then some (.c (.ptr id g o)) else none
  | .c (.fp cs o) => some (.c (.fp cs o))
  | .c (.fn f caps) => if caps.all fun c => (look H c.1 c.2).isSome then some (.c (.fn f caps)) else none
  | _ => none

def builtV (P : Program) (s : List AV) (H : Heap) (b : Builtin) (args : List Operand) (ts : List TypeId) : Option AV :=
  match b, args, ts with
  | .len, [x], [t] => lenO P H t (evO s x)
  | .min, [x, y], _ => minV false (evO s x) (evO s y)
  | .max, [x, y], _ => minV true (evO s x) (evO s y)
  | _, _, _ => none

def opV (P : Program) (s : List AV) (H : Heap) : Op → Option AV
  | .move x => some (evO s x)
  | .assign x => some (evO s x)
  | .pick c x y => match evO s c with
    | .c (.f (.bool t)) => some (if t then evO s x else evO s y)
    | _ => none
  | .nilCheck x => nilV H (evO s x)
  | .binOp op t x y _ => binV P s H op t x y
  | .unOp op _ x => unV op (evO s x)
  | .convert src dst x => convV P H src dst (evO s x)
  | .fieldAddr t x f => fieldV P H t (evO s x) f
  | .field t x f => fieldA P t (evO s x) f
  | .indexAddr t x i => elemV P H t (evO s x) (evO s i)
  | .index t x i => indexV P t (evO s x) (evO s i)
  | .extract t i => match evO s t with
    | .tup vs => vs[i]?
    | _ => none
  | .load t p => loadV P H t (evO s p)
  | .slice t x lo hi mx => match bound s lo, bound s hi, bound s mx with
    | some l, some h, some m => sliceV P H t (evO s x) l h m
    | _, _, _ => none
  | .makeFunc (.func f) first caps => if first.size = 0 then (caps.toList.mapM (capOf s)).map fun l => .c (.fn f l) else none
  | .call ⟨.builtin b, args, ts⟩ => builtV P s H b args.toList ts.toList
  | _ => none

theorem nilV_sound {P : Program} {w : World} {X : Cx} {a : Act} {st : St} (R : Rel w X a st) {x : Operand} {v : AV} (h : nilV st.h (evO st.s x) = some v) :
    (∀ w', Yields P (.nilCheck x) a w' (a.eval x)) ∧ VA w X st.h v (a.eval x) := by
  have hx := evO_sound R x
  unfold nilV at h
  split at h
  · rename_i id g o e
    rw [e] at hx
    split at h
    · rename_i hl
      cases h
      refine ⟨fun w' oo ho => ?_, hx⟩
      have := (va_c hx).2.2 hl
      simp [execOp, ho, this]
    · cases h
  · rename_i cs o e
    rw [e] at hx
    cases h
    refine ⟨fun w' oo ho => ?_, hx⟩
    obtain ⟨b, o', h1, _⟩ := va_c hx
    simp [execOp, ho, h1]
  · rename_i f caps e
    rw [e] at hx
    split at h
    · rename_i hl
      cases h
      refine ⟨fun w' oo ho => ?_, hx⟩
      have := (va_c hx).2.2 (fun c hc => List.all_eq_true.1 hl c hc)
      simp [execOp, ho, this]
    · cases h
  · cases h

theorem capOf_sound {w : World} {X : Cx} {a : Act} {st : St} (R : Rel w X a st) {o : Operand} {c : Nat × Nat} (h : capOf st.s o = some c) :
    c.2 < X.t ∧ ((look st.h c.1 c.2).isSome → a.eval o = .pointer (some ⟨X.mu c.2, 0, none⟩)) := by
  unfold capOf at h
  have hx := evO_sound R o
  split at h
  · rename_i id g e
    cases h
    rw [e] at hx
    exact ⟨(va_c hx).1, (va_c hx).2.2⟩
  · cases h

theorem opV_sound {P : Program} {w : World} {X : Cx} {a : Act} {st : St} (R : Rel w X a st) {op : Op} {v : AV} (h : opV P st.s st.h op = some v) :
    ∃ u, (∀ w', Grow w w' → Yields P op a w' u) ∧ VA w X st.h v u := by
  unfold opV at h
  split at h
  · rename_i x
    cases h; exact ⟨_, fun w' _ => yields_move x, evO_sound R x⟩
  · rename_i x
    cases h; exact ⟨_, fun w' _ => yields_assign x, evO_sound R x⟩
  · rename_i c x y
    split at h
    · rename_i t e
      cases h
      have hc := evO_sound R c
      rw [e] at hc
      refine ⟨_, fun w' _ => yields_pick (va_bool hc), ?_⟩
      cases t
      · exact evO_sound R y
      · exact evO_sound R x
    · cases h
  · rename_i x
    obtain ⟨h1, h2⟩ := nilV_sound (P := P) R h
    exact ⟨_, fun w' _ => h1 w', h2⟩
  · rename_i op t x y yt
    obtain ⟨u, h1, h2⟩ := binV_sound R h
    exact ⟨u, fun w' hg o ho => by simp only [execOp, ho]; rw [Sem.run_bind, h1 w' hg]; rfl, h2⟩
  · rename_i op t x
    obtain ⟨u, h1, h2⟩ := unV_sound (P := P) h (evO_sound R x)
    exact ⟨u, fun w' hg o ho => by simp only [execOp, ho]; rw [Sem.run_bind, h1 w' hg]; rfl, h2⟩
  · rename_i src dst x
    obtain ⟨u, h1, h2⟩ := convV_sound R.heap h (evO_sound R x)
    exact ⟨u, fun w' hg o ho => by simp only [execOp, ho]; rw [Sem.run_bind, h1 w' hg]; rfl, h2⟩
  · rename_i t x f
    obtain ⟨u, h1, h2⟩ := fieldV_sound (P := P) h (evO_sound R x)
    exact ⟨u, fun w' hg o ho => by simp only [execOp, ho]; rw [Sem.run_bind, h1 w' hg]; rfl, h2⟩
  · rename_i t x f
    obtain ⟨u, h1, h2⟩ := fieldA_sound (P := P) h (evO_sound R x)
    exact ⟨u, fun w' hg o ho => by simp only [execOp, ho]; rw [Sem.run_bind, h1 w' hg]; rfl, h2⟩
  · rename_i t x i
    obtain ⟨u, h1, h2⟩ := elemV_sound (P := P) h (evO_sound R x) (evO_sound R i)
    exact ⟨u, fun w' hg o ho => by simp only [execOp, ho]; rw [Sem.run_bind, h1 w' hg]; rfl, h2⟩
  · rename_i t x i
    obtain ⟨u, h1, h2⟩ := indexV_sound (P := P) h (evO_sound R x) (evO_sound R i)
    exact ⟨u, fun w' hg o ho => by simp only [execOp, ho]; rw [Sem.run_bind, h1 w' hg]; rfl, h2⟩
  · rename_i t i
    split at h
    · rename_i vs e
      have hx := evO_sound R t
      rw [e] at hx
      generalize hq : a.eval t = q at hx
      cases hx with
      | tup vs us hus =>
        obtain ⟨hlt, he⟩ := List.getElem?_eq_some_iff.1 h
        have h9 := hus i hlt
        rw [he] at h9
        refine ⟨us i, fun w' _ o ho => ?_, h9⟩
        simp only [execOp, ho, hq]
        simp [Instr.extract, hlt]
    · cases h
  · rename_i t p
    obtain ⟨u, h1, h2⟩ := loadV_sound (P := P) R.heap h (evO_sound R p)
    exact ⟨u, fun w' hg o ho => by simp only [execOp, ho]; rw [Sem.run_bind, h1 w' hg]; rfl, h2⟩
  · rename_i t x lo hi mx
    split at h
    · rename_i l hh m e1 e2 e3
      obtain ⟨u, h1, h2⟩ := sliceV_sound (P := P) R e1 e2 e3 (evO_sound R x) h
      exact ⟨u, fun w' hg o ho => by simp only [execOp, ho]; rw [Sem.run_bind, h1 w' hg]; rfl, h2⟩
    · cases h
  · rename_i f first caps
    split at h
    · rename_i h0
      cases hm : caps.toList.mapM (capOf st.s) with
      | none => simp [hm] at h
      | some l =>
        simp [hm] at h
        subst h
        obtain ⟨hl, hg⟩ := mapM_get hm
        have hg' : ∀ j (hj : j < l.length), ∃ o, caps.toList[j]? = some o ∧ capOf st.s o = some l[j] := fun j hj => by
          obtain ⟨y, h1, h2⟩ := hg j (by omega)
          have : l[j] = y := by simpa [List.getElem?_eq_getElem hj] using h1
          exact ⟨caps.toList[j]'(by omega), by simp [List.getElem?_eq_getElem (show j < caps.toList.length by omega)], by rw [this]; exact h2⟩
        have hfirst : first = #[] := Array.eq_empty_of_size_eq_zero h0
        subst hfirst
        refine ⟨.func (.func f) #[] (caps.map a.eval), fun w' _ o ho => by simp [execOp, ho, Instr.makeFunc], .c _ _ ⟨fun c hc => ?_, rfl, fun hall => ?_⟩⟩
        · obtain ⟨j, hj, rfl⟩ := List.mem_iff_getElem.1 hc
          obtain ⟨o, _, h2⟩ := hg' j hj
          exact (capOf_sound R h2).1
        · congr 1
          apply Array.ext'
          rw [Array.toList_map]
          apply List.ext_getElem
          · simp; simpa using hl.symm
          · intro j h1 h2
            simp only [List.length_map] at h1 h2
            obtain ⟨o, h3, h4⟩ := hg' j h2
            have h5 : caps.toList[j] = o := by simpa [List.getElem?_eq_getElem h1] using h3
            simp only [List.getElem_map]
            rw [h5]
            exact (capOf_sound R h4).2 (hall _ (List.getElem_mem h2))
    · cases h
  · rename_i b args ts
    unfold builtV at h
    split at h
    · rename_i x t e1 e2
      have hlen := fun ty => lenO_sound (P := P) (ty := ty) h (evO_sound R x)
      obtain ⟨u, h1, h2⟩ := hlen 0
      have ea : args = #[x] := by cases args; simp at e1; simp [e1]
      have et : ts = #[t] := by cases ts; simp at e2; simp [e2]
      subst ea et
      refine ⟨u, fun w' hg o ho => ?_, h2⟩
      simp only [execOp, ho]
      simp only [resolve, Sem.run_bind, Sem.run_pure, Result.andThen_ok, invoke, builtin, List.map_toArray, List.map_cons, List.map_nil]
      have : (Builtin.len_ #[t] o.type #[a.eval x]).run P w' = .ok u w' := h1 w' hg
      rw [this]
      rfl
    · rename_i x y e1
      unfold minV at h
      split at h
      · rename_i k p k' q e3 e4
        cases h
        have hx := evO_sound R x
        have hy := evO_sound R y
        rw [e3] at hx; rw [e4] at hy
        have ea : args = #[x, y] := by cases args; simp at e1; simp [e1]
        subst ea
        refine ⟨_, fun w' _ o ho => ?_, .c _ _ (VF.int _ _)⟩
        simp [execOp, ho, resolve, invoke, builtin, Builtin.min_, Builtin.min2, va_int hx, va_int hy]
      · cases h
    · rename_i x y e1
      unfold minV at h
      split at h
      · rename_i k p k' q e3 e4
        cases h
        have hx := evO_sound R x
        have hy := evO_sound R y
        rw [e3] at hx; rw [e4] at hy
        have ea : args = #[x, y] := by cases args; simp at e1; simp [e1]
        subst ea
        refine ⟨_, fun w' _ o ho => ?_, .c _ _ (VF.int _ _)⟩
        simp [execOp, ho, resolve, invoke, builtin, Builtin.max_, Builtin.max2, va_int hx, va_int hy]
      · cases h
    · cases h
  · cases h
end Go.Lg
