/- What is the call's own, lists of rules with cells of their own: told, read deep, handed on. -/
import Derived.Test.YtlpehaekjclgcaaLgX
set_option linter.unusedSimpArgs false
set_option linter.unusedVariables false
namespace Go.Lg

/-! ### lists, each element by so many cells of any kind -/
class HSzK {α : Type} (E : α → List CV) (n : outParam Nat) : Prop where
  sz : ∀ x, (E x).length = n
def kl {α : Type} (E : α → List CV) (xs : List α) : List CV := xs.flatMap E
section
variable {α : Type} {E : α → List CV} {n : Nat}
theorem kl_length [h : HSzK E n] (xs : List α) : (kl E xs).length = xs.length * n := by
  induction xs with
  | nil => simp [kl]
  | cons x xs ih => simp only [kl, List.flatMap_cons, List.length_append, h.sz, List.length_cons] at ih ⊢; rw [ih, Nat.add_mul]; omega
theorem kl_append (xs ys : List α) : kl E (xs ++ ys) = kl E xs ++ kl E ys := by simp [kl]
theorem kl_drop [h : HSzK E n] : ∀ (xs : List α) (i : Nat), (kl E xs).drop (i * n) = kl E (xs.drop i)
  | [], i => by simp [kl]
  | x :: xs, 0 => by simp
  | x :: xs, i + 1 => by
    have ih := kl_drop xs i
    have : (i + 1) * n = (E x).length + i * n := by rw [h.sz, Nat.add_mul]; omega
    rw [this]
    simp only [kl, List.flatMap_cons, List.drop_append, List.drop_succ_cons] at ih ⊢
    rw [List.drop_eq_nil_of_le (by omega), Nat.add_sub_cancel_left, ih]
    rfl
theorem kl_take [h : HSzK E n] : ∀ (xs : List α) (i : Nat), (kl E xs).take (i * n) = kl E (xs.take i)
  | [], i => by simp [kl]
  | x :: xs, 0 => by simp [kl]
  | x :: xs, i + 1 => by
    have ih := kl_take xs i
    have : (i + 1) * n = (E x).length + i * n := by rw [h.sz, Nat.add_mul]; omega
    rw [this]
    simp only [kl, List.flatMap_cons, List.take_append, List.take_succ_cons] at ih ⊢
    rw [List.take_of_length_le (by omega), Nat.add_sub_cancel_left, ih]
theorem kl_at [h : HSzK E n] (xs : List α) {i : Nat} (hi : i < xs.length) : ((kl E xs).drop (i * n)).take n = E xs[i] := by
  rw [kl_drop, List.drop_eq_getElem_cons hi]
  simp only [kl, List.flatMap_cons]
  rw [List.take_append_of_le_length (by rw [h.sz]; exact Nat.le_refl _), List.take_of_length_le (by rw [h.sz]; exact Nat.le_refl _)]
theorem kl_getAt [hs : HSzK E n] {xs : List α} {i j : Nat} (hi : i < xs.length) (hj : j < n) : (kl E xs)[i * n + j]? = (E xs[i])[j]? := by
  have h := kl_at (E := E) xs hi
  have h2 := congrArg (fun l => l[j]?) h
  simp only [List.getElem?_take_of_lt hj, List.getElem?_drop] at h2
  exact h2
theorem setRange_kl [hs : HSzK E n] {xs : List α} {i : Nat} {v : α} (h : i < xs.length) : setRange (kl E xs) (0 + i * n) (E v) = kl E (xs.set i v) := by
  have e1 : (kl E xs).take (0 + i * n) = kl E (xs.take i) := by rw [Nat.zero_add, kl_take]
  have e2 : (kl E xs).drop (0 + i * n + (E v).length) = kl E (xs.drop (i + 1)) := by
    rw [hs.sz, Nat.zero_add, ← Nat.succ_mul, kl_drop]
  rw [setRange, e1, e2, List.set_eq_take_append_cons_drop, if_pos h]
  simp [kl]
/-- One cell of an element. -/
theorem setRange_klj [hs : HSzK E n] {xs : List α} {i j : Nat} {c : CV} {v : α} (h : i < xs.length) (hj : j < n) (hv : E v = (E xs[i]).set j c) : setRange (kl E xs) (0 + i * n + j) [c] = kl E (xs.set i v) := by
  have hlen : (E xs[i]).length = n := hs.sz _
  have key : setRange (kl E xs) (0 + i * n + j) [c] = setRange (kl E xs) (0 + i * n) ((E xs[i]).set j c) := by
    apply List.ext_getElem?
    intro q
    have hl := kl_length (E := E) xs
    have hle : (i + 1) * n ≤ xs.length * n := Nat.mul_le_mul_right _ h
    rw [Nat.add_mul, Nat.one_mul] at hle
    have g1 : ∀ (m : List CV) (o : Nat), o + m.length ≤ (kl E xs).length → (setRange (kl E xs) o m)[q]? = if q < o then (kl E xs)[q]? else if q < o + m.length then m[q - o]? else (kl E xs)[q]? := by
      intro m o hm
      simp only [setRange]
      by_cases h1 : q < o
      · rw [if_pos h1, List.append_assoc, List.getElem?_append_left (by simp; omega), List.getElem?_take_of_lt h1]
      · rw [if_neg h1]
        by_cases h2 : q < o + m.length
        · rw [if_pos h2, List.append_assoc, List.getElem?_append_right (by simp; omega), List.length_take, Nat.min_eq_left (by omega), List.getElem?_append_left (by omega)]
        · rw [if_neg h2, List.getElem?_append_right (by simp; omega), List.length_append, List.length_take, Nat.min_eq_left (by omega), List.getElem?_drop]
          congr 1; omega
    rw [g1 _ _ (by simp; omega), g1 _ _ (by simp [hlen]; omega)]
    simp only [List.length_singleton, List.length_set, hlen]
    by_cases h1 : q < 0 + i * n
    · rw [if_pos (by omega), if_pos h1]
    · rw [if_neg h1]
      by_cases h2 : q < 0 + i * n + n
      · rw [if_pos h2]
        have hq : (kl E xs)[q]? = (E xs[i])[q - i * n]? := by
          rw [← kl_getAt h (show q - i * n < n by omega)]
          congr 1; omega
        by_cases h3 : q = 0 + i * n + j
        · rw [if_neg (by omega), if_pos (by omega)]
          have e1 : q - (0 + i * n + j) = 0 := by omega
          have e2 : q - (0 + i * n) = j := by omega
          rw [e1, e2]
          simp [hlen, hj]
        · have e2 : q - (0 + i * n) = q - i * n := by omega
          rw [e2, List.getElem?_set_ne (by omega)]
          by_cases h4 : q < 0 + i * n + j
          · rw [if_pos h4, hq]
          · rw [if_neg h4, if_neg (by omega), hq]
      · rw [if_neg (by omega), if_neg (by omega), if_neg h2]
  rw [key, ← hv]
  exact setRange_kl h
end

/-! ### slices of numbers of the call's own -/
/-- The slice is the call's own and reads so: in these blocks. -/
inductive OwnI (H : Heap) : CV → List Int → List Nat → Prop where
  | e : OwnI H (.f (.sl 0 [])) [] []
  | o (id g : Nat) (lim : Option Nat) (xs ys : List Int) (h : look H id g = some ⟨g, 1, cl (eI .i64) (xs ++ ys)⟩) : OwnI H (.own id g 0 xs.length lim) xs [id]
/-- All other blocks are as they were. -/
def Frm (H H' : Heap) (S : List Nat) : Prop := H'.length = H.length ∧ ∀ id, id ∉ S → H'[id]? = H[id]?
theorem Frm.refl (H : Heap) (S : List Nat) : Frm H H S := ⟨rfl, fun _ _ => rfl⟩
theorem Frm.trans {H H' H'' : Heap} {S : List Nat} (h : Frm H H' S) (k : Frm H' H'' S) : Frm H H'' S := ⟨k.1.trans h.1, fun id hi => (k.2 id hi).trans (h.2 id hi)⟩
theorem Frm.mono {H H' : Heap} {S T : List Nat} (h : Frm H H' S) (hs : ∀ i ∈ S, i ∈ T) : Frm H H' T := ⟨h.1, fun id hi => h.2 id fun hm => hi (hs id hm)⟩
theorem Frm.look {H H' : Heap} {S : List Nat} (h : Frm H H' S) {id g : Nat} (hi : id ∉ S) : look H' id g = look H id g := by
  unfold Lg.look; rw [h.2 id hi]
theorem Frm.set (H : Heap) (id : Nat) (b : Option Blk) : Frm H (H.set id b) [id] := ⟨by simp, fun i hi => by rw [List.getElem?_set_ne (by simp at hi; exact fun h => hi h.symm)]⟩
theorem OwnI.frm {H H' : Heap} {c : CV} {xs : List Int} {S T : List Nat} (h : OwnI H c xs S) (hf : Frm H H' T) (hd : ∀ i ∈ S, i ∉ T) : OwnI H' c xs S := by
  cases h with
  | e => exact .e
  | o id g lim xs ys h => exact .o id g lim xs ys (by rw [hf.look (hd id (by simp))]; exact h)
theorem OwnI.frz {H : Heap} {c : CV} {xs : List Int} {S : List Nat} (h : OwnI H c xs S) (n : Nat) : frz H (n + 1) c = some (fints xs) := by
  cases h with
  | e => cases n <;> rfl
  | o id g lim xs ys h =>
    simp only [Lg.frz, h, List.drop_zero]
    rw [cl_append, List.take_append_of_le_length (by rw [cl_length]; exact Nat.le_refl _), List.take_of_length_le (by rw [cl_length]; exact Nat.le_refl _), frz_cl]
    rfl

/-! ### rules with cells of their own -/
structure RO where
  r : Rul
  c : CV
  i : List Nat
  deriving Inhabited
def kR (o : RO) : List CV := [.f (.int .i64 o.r.kind), o.c, .f (.int .i64 o.r.val)]
instance : HSzK kR 3 := ⟨fun _ => rfl⟩
def kRo (o : Option RO) : List CV := match o with | none => [.f (.int .i64 0), .f .nil, .f (.int .i64 0)] | some o => kR o
instance : HSzK kRo 3 := ⟨fun o => by cases o <;> rfl⟩
theorem kl_kRo (l : List RO) : kl kRo (l.map some) = kl kR l := by simp only [kl, List.flatMap_map]; rfl
/-- A list of rules, all of it the call's own. -/
inductive OwnR (H : Heap) : CV → List Rul → List Nat → Prop where
  | e : OwnR H (.f (.sl 0 [])) [] []
  | o (id g : Nat) (lim : Option Nat) (l : List RO) (ys : List CV) (h : look H id g = some ⟨g, 3, kl kR l ++ ys⟩) (hi : ∀ o ∈ l, OwnI H o.c o.r.cells o.i) (hd : (id :: l.flatMap (·.i)).Nodup) (hy : ∀ c ∈ ys, scalC c = true) :
      OwnR H (.own id g 0 l.length lim) (l.map (·.r)) (id :: l.flatMap (·.i))
theorem OwnR.frm {H H' : Heap} {c : CV} {rs : List Rul} {S T : List Nat} (h : OwnR H c rs S) (hf : Frm H H' T) (hd : ∀ i ∈ S, i ∉ T) : OwnR H' c rs S := by
  cases h with
  | e => exact .e
  | o id g lim l ys h hi hn hy =>
    refine .o id g lim l ys (by rw [hf.look (hd id (by simp))]; exact h) (fun o ho => (hi o ho).frm hf fun i hm => hd i ?_) hn hy
    exact List.mem_cons_of_mem _ (List.mem_flatMap.2 ⟨o, ho, hm⟩)
theorem mapM_frz_kR {H : Heap} {n : Nat} : ∀ (l : List RO), (∀ o ∈ l, OwnI H o.c o.r.cells o.i) → (kl kR l).mapM (frz H (n + 1)) = some (fl eR (l.map (·.r)))
  | [], _ => rfl
  | o :: l, h => by
    have h1 := (h o (by simp)).frz n
    have h2 := mapM_frz_kR (n := n) l fun x hx => h x (by simp [hx])
    simp only [kl, List.flatMap_cons, kR, List.cons_append, List.nil_append] at h2 ⊢
    simp only [List.mapM_cons, h1, h2, Option.pure_def, Option.bind_eq_bind, Option.bind_some]
    rfl
theorem OwnR.frz {H : Heap} {c : CV} {rs : List Rul} {S : List Nat} (h : OwnR H c rs S) (n : Nat) : frz H (n + 2) c = some (fsl eR rs) := by
  cases h with
  | e => rfl
  | o id g lim l ys h hi hn hy =>
    simp only [Lg.frz, h, List.drop_zero]
    rw [List.take_append_of_le_length (by rw [kl_length]; exact Nat.le_refl _), List.take_of_length_le (by rw [kl_length]; exact Nat.le_refl _), mapM_frz_kR l hi]
    simp

/-! ### handed on to be read, to the bottom -/
def snapD (H : Heap) : AV → Option AV
  | .c x => (frzC H x).map .c
  | .agg cs => (cs.mapM (frzC H)).map .agg
  | .void => some .void
  | _ => none
theorem frz_still {w : World} {X : Cx} {H : Heap} (R : HRel w X H) : ∀ (n : Nat) (x : CV) (y : FV) (v : Value), frz H n x = some y → VC w X H x v → VF w (X.still w).I y v := by
  intro n x y v h hv
  refine VF.wide (fun b hb => ?_) (frz_sound R n x y v h hv)
  rcases hb with hb | ⟨id, blk, h1, h2⟩
  · exact R.imm b hb
  · obtain ⟨_, _, cc, t, h3, _⟩ := R.blk id blk h1
    rw [← h2]
    exact (Array.getElem?_eq_some_iff.1 h3).1
theorem frzC_still {w : World} {X : Cx} {H : Heap} (R : HRel w X H) {x y : CV} {v : Value} (h : frzC H x = some y) (hv : VC w X H x v) : VC w (X.still w) [] y v := by
  have hw : ∀ b, (X.ice H).I b → (X.still w).I b := fun b hb => by
    rcases hb with hb | ⟨id, blk, h1, h2⟩
    · exact R.imm b hb
    · obtain ⟨_, _, cc, t, h3, _⟩ := R.blk id blk h1
      rw [← h2]
      exact (Array.getElem?_eq_some_iff.1 h3).1
  have h2 := frzC_sound R h hv
  cases y with
  | f y => exact VF.wide hw h2
  | fp cs off => obtain ⟨b, o, k1, k2, k3⟩ := h2; exact ⟨b, o, k1, hw b k2, k3.mono (fun b hb => ⟨hw b hb, rfl⟩) k2⟩
  | nilp => exact h2
  | nilf => exact h2
  | emp => exact h2
  | ptr id g off => obtain ⟨k1, k2, k3⟩ := h2; exact ⟨k1, k2, fun hl => by simp [look] at hl⟩
  | own id g off n lim => obtain ⟨k1, k2, k3⟩ := h2; exact ⟨k1, k2, fun b hb => by simp [look] at hb⟩
  | fn f caps => exact h2
theorem snapD_still {w : World} {X : Cx} {H : Heap} (R : HRel w X H) {x y : AV} {v : Value} (h : snapD H x = some y) (hv : VA w X H x v) : VA w (X.still w) [] y v := by
  unfold snapD at h
  split at h
  · rename_i x
    cases hs : frzC H x with
    | none => simp [hs] at h
    | some z => simp [hs] at h; subst h; exact .c _ _ (frzC_still R hs (va_c hv))
  · rename_i cs
    cases hs : cs.mapM (frzC H) with
    | none => simp [hs] at h
    | some z =>
      simp [hs] at h; subst h
      obtain ⟨h1, h2⟩ := mapM_get hs
      cases hv with
      | agg cs vs hsz hc =>
        refine .agg _ _ (by omega) fun j hj => ?_
        obtain ⟨y, h3, h4⟩ := h2 j (by omega)
        obtain ⟨u, h5, h6⟩ := hc j (by omega)
        have : z[j] = y := by simpa [List.getElem?_eq_getElem hj] using h3
        rw [this]
        exact ⟨u, h5, frzC_still R h4 h6⟩
  · cases h; cases hv; exact .void
  · cases h
end Go.Lg
