/- Code without loops as one formula, reckoned step by step. -/
import Derived.Test.YtlpehaekjclgcaaLgS
set_option linter.unusedSimpArgs false
set_option linter.unusedVariables false
namespace Go.Lg

/-- An operation that only computes or reads; any other is left as it is. -/
def isVal : Op → Bool
  | .move _ | .assign _ | .pick .. | .nilCheck _ | .binOp .. | .unOp .. | .convert .. | .fieldAddr .. | .field .. | .indexAddr .. | .index .. | .extract .. | .load .. | .slice .. | .makeFunc .. => true
  | .call ⟨.builtin .len, _, _⟩ | .call ⟨.builtin .min, _, _⟩ | .call ⟨.builtin .max, _, _⟩ => true
  | _ => false

/-- What must hold, ahead of the rest. -/
def okP (A B : Prop) : Prop := A ∧ B
theorem okP_true {B : Prop} : okP True B = B := by simp [okP]
theorem okP_ok {A B : Prop} (h : A) : okP A B = B := by simp [okP, h]
/-- The value is there, and what follows holds of it. -/
def bindP {α : Type} (o : Option α) (F : α → Prop) : Prop := ∃ v, o = some v ∧ F v
theorem bindP_some {α : Type} (x : α) (F : α → Prop) : bindP (some x) F = F x := by simp [bindP]
theorem bindP_ite {α : Type} {c : Prop} [Decidable c] {x : Option α} (F : α → Prop) : bindP (if c then x else none) F = okP c (bindP x F) := by
  by_cases h : c <;> simp [bindP, okP, h]
def compF {α β : Type} (f : α → β) (F : β → Prop) : α → Prop := fun a => F (f a)
theorem bindP_map {α β : Type} {f : α → β} {x : Option α} (F : β → Prop) : bindP (x.map f) F = bindP x (compF f F) := by
  cases x <;> simp [bindP, compF]
theorem compF_ap {α β : Type} (f : α → β) (F : β → Prop) (a : α) : compF f F a = F (f a) := propext Iff.rfl

def atH (F : KV) (H : Heap) : AV → Prop := fun v => F v H
theorem atH_ap (F : KV) (H : Heap) (v : AV) : atH F H v = F v H := propext Iff.rfl

/-! #### what changes memory, reckoned -/
def storeM (P : Program) (H : Heap) (t : TypeId) (p x : AV) (K : KV) : Prop :=
  match p, avCells x, tinf P t with
  | .c (.ptr id g off), some cs, some ti => match look H id g with
    | some b => okP (cs.length = ti.size ∧ off + cs.length ≤ b.cs.length) <| K .void (H.set id (some ⟨b.g, b.sz, setRange b.cs off cs⟩))
    | none => False
  | _, _, _ => False
def newM (H : Heap) (n : Option Nat) (sz : Nat) (cs : List CV) (K : KV) : Prop :=
  ∀ g, K (match n with | some n => .c (.own H.length g 0 n none) | none => .c (.ptr H.length g 0)) (H ++ [some ⟨g, sz, cs⟩])
def allocM (P : Program) (H : Heap) (t : TypeId) (K : KV) : Prop :=
  match tinf P t with
  | some ti => newM H none ti.size ti.zero K
  | none => False
def boxM (H : Heap) (x : AV) (K : KV) : Prop :=
  match avCells x with
  | some cs => newM H none 1 cs K
  | none => False
def sliceOf (P : Program) (t : TypeId) : Option TI :=
  match tinf P t with
  | some ti => match ti.k with
    | .slice e => tinf P e
    | _ => none
  | none => none
theorem sliceOf_some {P : Program} {t : TypeId} {ei : TI} (h : sliceOf P t = some ei) : ∃ ti e, tinf P t = some ti ∧ ti.k = .slice e ∧ tinf P e = some ei := by
  unfold sliceOf at h
  split at h
  · rename_i ti ht
    split at h
    · rename_i e hk; exact ⟨ti, e, ht, hk, h⟩
    · cases h
  · cases h
/-- All parts, one behind the other. -/
def seqOk (sz : Nat) : Nat → List (Nat × List CV) → Bool
  | _, [] => true
  | i, (j, cs) :: r => decide (j = i) && (decide (cs.length = sz) && seqOk sz (i + 1) r)
def catL : List (Nat × List CV) → List CV
  | [] => []
  | (_, cs) :: r => cs ++ catL r
theorem catL_length {sz : Nat} : ∀ (rs : List (Nat × List CV)) (i : Nat), seqOk sz i rs = true → (catL rs).length = rs.length * sz
  | [], _, _ => by simp [catL]
  | (j, cs) :: r, i, h => by
    simp only [seqOk, Bool.and_eq_true, decide_eq_true_eq] at h
    have := catL_length r (i + 1) h.2.2
    simp only [catL, List.length_append, List.length_cons, Nat.add_mul]
    omega
theorem fill_seq {sz : Nat} : ∀ (rs : List (Nat × List CV)) (i : Nat) (l : List CV), seqOk sz i rs = true → l.length = (i + rs.length) * sz →
    fillG (fun i => some (i * sz, sz)) l rs = some (l.take (i * sz) ++ catL rs)
  | [], i, l, _, hl => by
    simp only [fillG, catL, List.append_nil, Option.some.injEq]
    rw [List.take_of_length_le (by simp at hl; omega)]
  | (j, cs) :: r, i, l, h, hl => by
    simp only [seqOk, Bool.and_eq_true, decide_eq_true_eq] at h
    obtain ⟨rfl, h2, h3⟩ := h
    have e1 : (j + (r.length + 1)) * sz = j * sz + sz + r.length * sz := by rw [Nat.add_mul, Nat.add_mul]; omega
    have e2 : (j + 1) * sz = j * sz + sz := by rw [Nat.add_mul]; omega
    simp only [List.length_cons] at hl
    simp only [fillG, h2]
    rw [if_pos ⟨trivial, by omega⟩, fill_seq r (j + 1) _ h3 ?_]
    · have : (setRange l (j * sz) cs).take ((j + 1) * sz) = l.take (j * sz) ++ cs := by
        have hA : (l.take (j * sz) ++ cs).length = (j + 1) * sz := by
          rw [List.length_append, List.length_take, Nat.min_eq_left (by omega), h2, e2]
        simp only [setRange]
        rw [List.take_append_of_le_length (by omega), List.take_of_length_le (by omega)]
      rw [this]
      simp [catL]
    · have e3 : (j + 1 + r.length) * sz = j * sz + sz + r.length * sz := by rw [Nat.add_mul, Nat.add_mul]; omega
      simp only [setRange, List.length_append, List.length_take, List.length_drop, h2]
      rw [e1] at hl
      rw [Nat.min_eq_left (by omega), e3]
      omega
theorem zerosL_length (n : Nat) (z : List CV) : (zerosL n z).length = n := by simp [zerosL]
theorem fill_all {sz n : Nat} {z : List CV} {rs : List (Nat × List CV)} (h : seqOk sz 0 rs = true ∧ rs.length = n) : fillG (fun i => some (i * sz, sz)) (zerosL (n * sz) z) rs = some (catL rs) := by
  rw [fill_seq rs 0 _ h.1 (by rw [zerosL_length, h.2, Nat.zero_add])]
  simp
def buildM (P : Program) (s : List AV) (H : Heap) (t : TypeId) (n : Nat) (ps : List (Nat × Operand)) (K : KV) : Prop :=
  match sliceOf P t, partsV s ps with
  | some ei, some rs => if seqOk ei.size 0 rs = true ∧ rs.length = n then okP (ei.zero.length = ei.size ∧ n * ei.size ≤ 16777216) <| newM H (some n) ei.size (catL rs) K
    else match fillG (fun i => some (i * ei.size, ei.size)) (zerosL (n * ei.size) ei.zero) rs with
    | some cs => okP (ei.zero.length = ei.size ∧ n * ei.size ≤ 16777216) <| newM H (some n) ei.size cs K
    | none => False
  | _, _ => False
def cnt (l : Int) : Nat := l.toNat
theorem cnt_nat (n : Nat) : cnt (n : Int) = n := rfl
theorem cnt_zero : cnt 0 = 0 := rfl
def makeM (P : Program) (H : Heap) (t : TypeId) (l c : AV) (K : KV) : Prop :=
  match sliceOf P t, l, c with
  | some ei, .c (.f (.int _ l)), .c (.f (.int _ c)) => okP (ei.zero.length = ei.size ∧ (0 ≤ l ∧ l ≤ c) ∧ c ≤ 9223372036854775807 ∧ ei.bytes * c ≤ 281474976710656) <|
    newM H (some (cnt l)) ei.size (zerosL (cnt l * ei.size) ei.zero) K
  | _, _, _ => False
def appM (H : Heap) (ei : TI) (v : AV) (m : Nat) (k : List CV) (K : KV) : Prop :=
  if m = 0 then K v H else
  match v with
  | .c (.f .nil) => okP (m ≤ 9223372036854775807 ∧ m * ei.bytes ≤ 140737488355328) <| newM H (some m) ei.size k K
  | .c .emp => okP (m ≤ 9223372036854775807 ∧ m * ei.bytes ≤ 140737488355328) <| newM H (some m) ei.size k K
  | .c (.own id g off n lim) => match look H id g with
    | some b =>
      match lim with
      | none => if b.cs.length = n * ei.size then
          okP (b.sz = ei.size ∧ 0 < ei.size ∧ off = 0 ∧ n + m ≤ 9223372036854775807 ∧ (n + m) * ei.bytes ≤ 140737488355328) <| ∀ g', K (.c (.own id g' 0 (n + m) none)) (H.set id (some ⟨g', ei.size, b.cs ++ k⟩))
        else okP (b.sz = ei.size ∧ 0 < ei.size ∧ off + (n + m) * ei.size ≤ b.cs.length) <| K (.c (.own id g off (n + m) none)) (H.set id (some ⟨b.g, b.sz, setRange b.cs (off + n * ei.size) k⟩))
      | some c => if c < n + m then
          okP (b.sz = ei.size ∧ n + m ≤ 9223372036854775807 ∧ (n + m) * ei.bytes ≤ 140737488355328) <| newM H (some (n + m)) ei.size ((b.cs.drop off).take (n * ei.size) ++ k) K
        else okP (b.sz = ei.size ∧ 0 < ei.size ∧ off + (n + m) * ei.size ≤ b.cs.length) <| K (.c (.own id g off (n + m) (some c))) (H.set id (some ⟨b.g, b.sz, setRange b.cs (off + n * ei.size) k⟩))
    | none => False
  | _ => False
def appendM (P : Program) (H : Heap) (t : TypeId) (v x : AV) (K : KV) : Prop :=
  match sliceOf P t with
  | some ei => if ei.zero.length = ei.size then (match elems H ei.size v, elems H ei.size x with
    | some _, some (m, k) => appM H ei v m k K
    | _, _ => False) else False
  | none => False

def opM (P : Program) (o : Oper) (s : List AV) (H : Heap) (K : KV) : Prop :=
  match o.op with
  | .store t p x => storeM P H t (evO s p) (evO s x) K
  | .alloc t => allocM P H t K
  | .box _ x => boxM H (evO s x) K
  | .buildSlice t n ps => buildM P s H t n ps.toList K
  | .makeSlice t l c => makeM P H t (evO s l) (evO s c) K
  | .call ⟨.builtin .append, ⟨[v, x]⟩, ⟨[t, u]⟩⟩ => if t = u then appendM P H t (evO s v) (evO s x) K else False
  | _ => OpS P o ⟨s, H⟩ K

theorem elems_nil {H : Heap} {sz : Nat} {l : List CV} {n : Nat} (h : elems H sz (.c (.f .nil)) = some (n, l)) : n = 0 ∧ l = [] := by cases h; exact ⟨rfl, rfl⟩
theorem elems_emp {H : Heap} {sz : Nat} {l : List CV} {n : Nat} (h : elems H sz (.c .emp) = some (n, l)) : n = 0 ∧ l = [] := by cases h; exact ⟨rfl, rfl⟩

theorem elems_zero {H : Heap} {sz : Nat} {v : AV} {k : List CV} (h : elems H sz v = some (0, k)) : k = [] := by
  unfold elems at h
  split at h
  · cases h; rfl
  · cases h; rfl
  · rename_i n cs
    split at h
    · rename_i hl
      cases h
      have : cs = [] := List.eq_nil_of_length_eq_zero (by omega)
      simp [this]
    · cases h
  · rename_i id g off n' lim
    split at h
    · split at h
      · cases h; simp
      · cases h
    · cases h
  · cases h

theorem opM_sound {P : Program} {o : Oper} {s : List AV} {H : Heap} {K : KV} (h : opM P o s H K) : OpS P o ⟨s, H⟩ K := by
  unfold opM at h
  split at h
  · rename_i t p x ho
    unfold storeM at h
    split at h
    · rename_i id g off cs ti hp hx ht
      split at h
      · rename_i b hl
        exact OpS.store ho ht hp hl hx h.1.1 h.1.2 h.2
      · exact h.elim
    · exact h.elim
  · rename_i t ho
    unfold allocM at h
    split at h
    · rename_i ti ht; exact OpS.alloc ho ht h
    · exact h.elim
  · rename_i t x ho
    unfold boxM at h
    split at h
    · rename_i cs hx; exact OpS.box ho hx h
    · exact h.elim
  · rename_i t n ps ho
    unfold buildM at h
    split at h
    · rename_i ei rs h1 h2
      obtain ⟨ti, e, k1, k2, k3⟩ := sliceOf_some h1
      split at h
      · rename_i hq
        exact OpS.buildSlice ho k1 k2 k3 h.1.1 h2 (fill_all hq) h.1.2 h.2
      · split at h
        · rename_i cs hf
          exact OpS.buildSlice ho k1 k2 k3 h.1.1 h2 hf h.1.2 h.2
        · exact h.elim
    · exact h.elim
  · rename_i t l c ho
    unfold makeM at h
    split at h
    · rename_i ei _ l' _ c' h1 h2 h3
      obtain ⟨ti, e, k1, k2, k3⟩ := sliceOf_some h1
      obtain ⟨⟨q1, ⟨q2, q3⟩, q4, q5⟩, q6⟩ := h
      exact OpS.makeSlice ho k1 k2 k3 q1 h2 h3 q2 q3 q4 q5 q6
    · exact h.elim
  · rename_i v x t u ho
    split at h
    · rename_i htu
      subst htu
      have ho : o.op = .call ⟨.builtin .append, #[v, x], #[t, t]⟩ := ho
      unfold appendM at h
      split at h
      · rename_i ei h1
        obtain ⟨ti, e, k1, k2, k3⟩ := sliceOf_some h1
        split at h
        · rename_i hz
          split at h
          · rename_i nl m k hev hex
            obtain ⟨n0, l0⟩ := nl
            unfold appM at h
            split at h
            · rename_i hm
              subst hm
              have := elems_zero hex
              subst this
              exact OpS.append_zero ho k1 k2 k3 hev hex h
            · rename_i hm
              split at h
              · rename_i hv
                rw [hv] at hev
                obtain ⟨rfl, rfl⟩ := elems_nil hev
                refine OpS.append_new (n := 0) (l := []) ho k1 k2 k3 hz (by rw [hv]; exact hev) hex (by rw [hv]; rfl) (by omega) (by have := h.1.1; omega) (by simpa using h.1.2) fun g => ?_
                rw [Nat.zero_add]; exact h.2 g
              · rename_i hv
                rw [hv] at hev
                obtain ⟨rfl, rfl⟩ := elems_emp hev
                refine OpS.append_new (n := 0) (l := []) ho k1 k2 k3 hz (by rw [hv]; exact hev) hex (by rw [hv]; rfl) (by omega) (by have := h.1.1; omega) (by simpa using h.1.2) fun g => ?_
                rw [Nat.zero_add]; exact h.2 g
              · rename_i id g off n lim hv
                split at h
                · rename_i b hl
                  split at h
                  · split at h
                    · rename_i hbl
                      obtain ⟨⟨hsz, hpos, rfl, h63, h47⟩, hK⟩ := h
                      exact OpS.append_own ho k1 k2 k3 hz hv hl hsz hbl hex (by omega) h63 h47 hK
                    · obtain ⟨⟨hsz, hpos, hle⟩, hK⟩ := h
                      exact OpS.append_in ho k1 k2 k3 hpos hv hl hsz hle (by simp) hex (by omega) hK
                  · rename_i c
                    split at h
                    · rename_i hlim
                      obtain ⟨⟨hsz, h63, h47⟩, hK⟩ := h
                      rw [hv] at hev
                      have hev' := hev
                      simp only [elems, hl, hsz, if_true] at hev
                      cases hev
                      refine OpS.append_new ho k1 k2 k3 hz (by rw [hv]; exact hev') hex ?_ (by omega) h63 h47 hK
                      rw [hv]
                      simpa [noRoom] using hlim
                    · rename_i hlim
                      obtain ⟨⟨hsz, hpos, hle⟩, hK⟩ := h
                      exact OpS.append_in ho k1 k2 k3 hpos hv hl hsz hle (by simp; omega) hex (by omega) hK
                · exact h.elim
              · exact h.elim
          · exact h.elim
        · exact h.elim
      · exact h.elim
    · exact h.elim
  · exact h

def opW (P : Program) (o : Oper) (s : List AV) (H : Heap) (K : KV) : Prop :=
  if isVal o.op = true then bindP (opV P s H o.op) (atH K H) else opM P o s H K

theorem opW_sound {P : Program} {o : Oper} {s : List AV} {H : Heap} {K : KV} (h : opW P o s H K) : OpS P o ⟨s, H⟩ K := by
  unfold opW at h
  split at h
  · obtain ⟨v, h1, h2⟩ := h
    exact OpS.val h1 h2
  · exact opM_sound h

/-- A guard known to be this. -/
def guardP (g : Option Bool) (want : Bool) (A B : Prop) : Prop := (g = some want → A) ∧ (g ≠ some want → B)

abbrev KS := List AV → Heap → Prop
mutual
def vw (P : Program) (ops : Array Oper) : List Oper → List AV → Heap → KS → Prop
  | [], s, H, K => K s H
  | o :: r, s, H, K => match o.guard with
    | none => opW P o s H (fun v H' => vw P ops r (putS s o.dst v) H' K)
    | some (j, want) => bindP (guardV ops s j) fun g => guardP g want (opW P o s H (fun v H' => vw P ops r (putS s o.dst v) H' K)) (vw P ops r (putS s o.dst .void) H K)
end
def vwK (P : Program) (ops : Array Oper) (r : List Oper) (s : List AV) (d : Option Tmp) (K : KS) : KV := fun v H' => vw P ops r (putS s d v) H' K
def guardK (P : Program) (ops : Array Oper) (o : Oper) (r : List Oper) (s : List AV) (H : Heap) (K : KS) (want : Bool) : Option Bool → Prop :=
  fun g => guardP g want (opW P o s H (vwK P ops r s o.dst K)) (vw P ops r (putS s o.dst .void) H K)

theorem vw_sound {P : Program} {ops : Array Oper} : ∀ (l : List Oper) (s : List AV) (H : Heap) (K : KS), vw P ops l s H K → OpsS P ops l ⟨s, H⟩ fun st => K st.s st.h
  | [], s, H, K, h => h
  | o :: r, s, H, K, h => by
    unfold vw at h
    unfold OpsS
    split at h
    · rename_i hg
      rw [hg]
      exact (opW_sound h).mono fun v H' hv => vw_sound r _ _ K hv
    · rename_i j want hg
      obtain ⟨g, h1, h2, h3⟩ := h
      rw [hg]
      exact ⟨g, h1, fun he => (opW_sound (h2 he)).mono fun v H' hv => vw_sound r _ _ K hv, fun he => vw_sound r _ _ K (h3 he)⟩

/-- The same for a region that draws its order. -/
def softBuild (P : Program) (s : List AV) (t : TypeId) (n : Nat) (ps : List (Nat × Operand)) (K : AV → Prop) : Prop :=
  match sliceOf P t, partsV s ps with
  | some ei, some rs => match icedL (catL rs) with
    | some xs => okP (ei.zero.length = ei.size ∧ n * ei.size ≤ 16777216) <| if seqOk ei.size 0 rs = true ∧ rs.length = n then K (.c (.f (.sl n xs))) else False
    | none => False
  | _, _ => False
theorem iced_app {a b : List CV} {xs : List FV} (h : icedL (a ++ b) = some xs) : (∃ ys, icedL a = some ys) ∧ ∃ zs, icedL b = some zs := by
  induction a generalizing xs with
  | nil => exact ⟨⟨[], rfl⟩, xs, h⟩
  | cons c a ih =>
    cases c with
    | f x =>
      simp only [List.cons_append, icedL, Option.map_eq_some_iff] at h
      obtain ⟨ys, h1, _⟩ := h
      obtain ⟨⟨y, hy⟩, hz⟩ := ih h1
      exact ⟨⟨x :: y, by simp [icedL, hy]⟩, hz⟩
    | _ => simp [icedL] at h
theorem iced_frozen : ∀ {l : List CV} {xs : List FV}, icedL l = some xs → l.all frozenC = true
  | [], _, _ => rfl
  | c :: l, xs, h => by
    have := icedL_get h
    rw [this]
    simp [frozenC]
theorem parts_frozen {s : List AV} : ∀ (ps : List (Nat × Operand)) (rs : List (Nat × List CV)) (xs : List FV), partsV s ps = some rs → icedL (catL rs) = some xs → ∀ p ∈ ps, frozenA (evO s p.2) = true
  | [], _, _, _, _ => by simp
  | (i, x) :: r, rs, xs, h, hx => by
    simp only [partsV] at h
    split at h
    · rename_i cs r' h1 h2
      cases h
      simp only [catL] at hx
      obtain ⟨⟨ys, hy⟩, zs, hz⟩ := iced_app hx
      intro p hp
      rcases List.mem_cons.1 hp with rfl | hp
      · have := iced_frozen hy
        simp only
        cases hv : evO s x with
        | c c =>
          rw [hv] at h1
          simp only [avCells, Option.some.injEq] at h1
          subst h1
          simpa [frozenA] using this
        | agg cs' =>
          rw [hv] at h1
          simp only [avCells, Option.some.injEq] at h1
          subst h1
          exact this
        | _ => rw [hv] at h1; cases h1
      · exact parts_frozen r r' zs h2 hz p hp
    · cases h
theorem frz_list {H : Heap} {n : Nat} (l : List FV) : (l.map CV.f).mapM (frz H n) = some l := by
  induction l with
  | nil => rfl
  | cons x l ih =>
    rw [List.map_cons, List.mapM_cons, ih]
    cases n <;> rfl
theorem softBuild_sound {P : Program} {ops : Array Oper} {o : Oper} {s : List AV} {H : Heap} {K : AV → Prop} {t : TypeId} {n : Nat} {ps : Array (Nat × Operand)} (ho : o.op = .buildSlice t n ps) (h : softBuild P s t n ps.toList K) : ∃ v, Soft P ops o s H v ∧ K v := by
  unfold softBuild at h
  split at h
  · rename_i ei rs h1 h2
    obtain ⟨ti, e, k1, k2, k3⟩ := sliceOf_some h1
    split at h
    · rename_i xs h3
      obtain ⟨⟨hz, h24⟩, hif⟩ := h
      split at hif
      · rename_i hq
        refine ⟨_, Soft.ops (fun x hx => ?_) rfl (fun s' hs' => ?_), hif⟩
        · rw [ho] at hx
          simp only [Op.operands, List.mem_toArray, List.mem_map] at hx
          obtain ⟨p, hp, rfl⟩ := hx
          exact parts_frozen _ _ _ h2 h3 p hp
        · have e2 : partsV s' ps.toList = some rs := by
            rw [partsV_congr _ fun p hp => hs' p.2 (by rw [ho]; simp only [Op.operands, List.mem_toArray, List.mem_map]; exact ⟨p, hp, rfl⟩)]
            exact h2
          refine OpS.buildSlice ho k1 k2 k3 hz e2 (fill_all hq) h24 fun g => ?_
          have hl : (catL rs).length = n * ei.size := by rw [catL_length rs 0 hq.1, hq.2]
          simp only [frzA, frz1, frzC, frz, List.length_nil, List.nil_append]
          have : look [some ⟨g, ei.size, catL rs⟩] 0 g = some ⟨g, ei.size, catL rs⟩ := by simp [look]
          rw [this]
          simp only [List.drop_zero]
          rw [List.take_of_length_le (by omega), icedL_get h3, frz_list]
          rfl
      · exact hif.elim
    · exact h.elim
  · exact h.elim

def quietW (P : Program) (ops : Array Oper) (o : Oper) (s : List AV) (H : Heap) (K : AV → Prop) : Prop :=
  if isVal o.op = true then bindP (opV P s H o.op) K else match o.op with
    | .buildSlice t n ps => softBuild P s t n ps.toList K
    | _ => ∃ v, Soft P ops o s H v ∧ K v

theorem quietW_sound {P : Program} {ops : Array Oper} {o : Oper} {s : List AV} {H : Heap} {K : AV → Prop} (h : quietW P ops o s H K) : ∃ v, Soft P ops o s H v ∧ K v := by
  unfold quietW at h
  split at h
  · obtain ⟨v, h1, h2⟩ := h
    exact ⟨v, Soft.val h1, h2⟩
  · split at h
    · rename_i ho; exact softBuild_sound ho h
    · exact h

def qw (P : Program) (ops : Array Oper) : List Oper → List AV → Heap → KS → Prop
  | [], s, H, K => K s H
  | o :: r, s, H, K => match o.guard with
    | none => quietW P ops o s H fun v => qw P ops r (putS s o.dst v) H K
    | some (j, want) => bindP (guardV ops s j) fun g => guardP g want (quietW P ops o s H fun v => qw P ops r (putS s o.dst v) H K) (qw P ops r (putS s o.dst .void) H K)
def qwK (P : Program) (ops : Array Oper) (r : List Oper) (s : List AV) (d : Option Tmp) (H : Heap) (K : KS) : AV → Prop := fun v => qw P ops r (putS s d v) H K
def guardQ (P : Program) (ops : Array Oper) (o : Oper) (r : List Oper) (s : List AV) (H : Heap) (K : KS) (want : Bool) : Option Bool → Prop :=
  fun g => guardP g want (quietW P ops o s H (qwK P ops r s o.dst H K)) (qw P ops r (putS s o.dst .void) H K)

theorem qw_sound {P : Program} {ops : Array Oper} : ∀ (l : List Oper) (s : List AV) (H : Heap) (K : KS), qw P ops l s H K → OpsF P ops l s H fun s' => K s' H
  | [], s, H, K, h => h
  | o :: r, s, H, K, h => by
    unfold qw at h
    unfold OpsF
    split at h
    · rename_i hg
      rw [hg]
      obtain ⟨v, h1, h2⟩ := quietW_sound h
      exact ⟨v, h1, qw_sound r _ _ K h2⟩
    · rename_i j want hg
      obtain ⟨g, h1, h2, h3⟩ := h
      rw [hg]
      exact ⟨g, h1, fun he => let ⟨v, k1, k2⟩ := quietW_sound (h2 he); ⟨v, k1, qw_sound r _ _ K k2⟩, fun he => qw_sound r _ _ K (h3 he)⟩

def boolV : AV → Option Bool
  | .c (.f (.bool b)) => some b
  | _ => none
theorem boolV_some {v : AV} {b : Bool} (h : boolV v = some b) : v = .c (.f (.bool b)) := by
  unfold boolV at h
  split at h
  · cases h; rfl
  · cases h
def condP (b : Bool) (A B : Prop) : Prop := (b = true → A) ∧ (b = false → B)

abbrev KT := Exit → List AV → Heap → Prop

def cw (P : Program) : Code → List AV → Heap → KT → Prop
  | .skip, s, H, K => K .normal s H
  | .exit id, s, H, K => K (.exit id) s H
  | .ret, s, H, K => K .ret s H
  | .region _ ops false, s, H, K => vw P ops ops.toList s H (K .normal)
  | .region _ ops true, s, H, K => P.follows .mixedOrders = true ∧ softB ops = true ∧ qw P ops ops.toList s H (K .normal)
  | .seq x y, s, H, K => cw P x s H fun e s' H' => match e with
    | .normal => cw P y s' H' K
    | e => K e s' H'
  | .cond c x y, s, H, K => bindP (boolV (evO s c)) fun b => condP b (cw P x s H K) (cw P y s H K)
  | .block id c, s, H, K => cw P c s H fun e s' H' => match e with
    | .exit id' => if id' = id then K .normal s' H' else K (.exit id') s' H'
    | e => K e s' H'
  | c, s, H, K => RunC P c ⟨s, H⟩ fun e st => K e st.s st.h

def seqK (P : Program) (y : Code) (K : KT) : KT := fun e s' H' => match e with
    | .normal => cw P y s' H' K
    | e => K e s' H'
def condK (P : Program) (x y : Code) (s : List AV) (H : Heap) (K : KT) : Bool → Prop := fun b => condP b (cw P x s H K) (cw P y s H K)
def blockK (id : Nat) (K : KT) : KT := fun e s' H' => match e with
    | .exit id' => if id' = id then K .normal s' H' else K (.exit id') s' H'
    | e => K e s' H'
def stK (K : KT) : Exit → St → Prop := fun e st => K e st.s st.h

theorem cw_sound {P : Program} : ∀ (c : Code) (s : List AV) (H : Heap) (K : KT), cw P c s H K → RunC P c ⟨s, H⟩ (stK K)
  | .skip, s, H, K, h => RunC.skip h
  | .exit id, s, H, K, h => RunC.exit h
  | .ret, s, H, K, h => RunC.ret h
  | .region _ ops false, s, H, K, h => RunC.region (vw_sound _ _ _ _ h)
  | .region _ ops true, s, H, K, h => RunC.regionF h.1 h.2.1 (qw_sound _ _ _ _ h.2.2)
  | .seq x y, s, H, K, h => RunC.seq ((cw_sound x s H _ h).mono fun e st hq => by
      cases e with
      | normal => exact cw_sound y _ _ K hq
      | exit id => exact hq
      | goto l => exact hq
      | ret => exact hq
      | panic c => exact hq
      | outgrown => exact hq)
  | .cond c x y, s, H, K, h => by
    obtain ⟨b, h1, h2, h3⟩ := h
    exact RunC.cond (boolV_some h1) (fun hb => cw_sound x s H K (h2 hb)) (fun hb => cw_sound y s H K (h3 hb))
  | .block id c, s, H, K, h => RunC.block ((cw_sound c s H _ h).mono fun e st hq => by
      cases e with
      | exit id' => exact hq
      | normal => exact hq
      | goto l => exact hq
      | ret => exact hq
      | panic c => exact hq
      | outgrown => exact hq)
  | .loop _, s, H, K, h => h
  | .rangeFunc _ _ _ _, s, H, K, h => h
  | .scope _, s, H, K, h => h
  | .label _, s, H, K, h => h
  | .goto _, s, H, K, h => h
  | .refuse _, s, H, K, h => h

def doneK (P : Program) (rs : List ResultVar) (Q : KV) : KT := fun e s H => (e = .normal ∨ e = .ret) ∧ bindP (resV P s H rs) fun v => ∃ H', HLe H H' ∧ Q v H'
def lessQ (H : Heap) (Q : KV) : AV → Prop := fun v => ∃ H', HLe H H' ∧ Q v H'

theorem RunCall.cw {P : Program} {f : FuncId} {fn : Func} {c : Code} {args : List AV} {H : Heap} {Q : KV} (hf : P.funcs[f]? = some fn) (hb : fn.body = some c) {n : Nat} (hn : fn.ntmps = n) {rs : List ResultVar} (hr : fn.results.toList = rs)
    (h : Lg.cw P c (args ++ List.replicate (n - args.length) .void) H (doneK P rs Q)) : RunCall P f args H Q := by
  subst hn hr
  exact RunCall.of_body hf hb ((cw_sound _ _ _ _ h).mono fun e st ⟨h1, v, h2, H', h3, h4⟩ => ⟨h1, v, H', h2, h3, h4⟩)

/-! ### step by step -/
section
variable {P : Program} {ops : Array Oper} {s : List AV} {H : Heap} {K : KS} {Q : KT} {F : KV}
theorem cw_skip : cw P .skip s H Q = Q .normal s H := propext Iff.rfl
theorem cw_exit (i : Nat) : cw P (.exit i) s H Q = Q (.exit i) s H := propext Iff.rfl
theorem cw_ret : cw P .ret s H Q = Q .ret s H := propext Iff.rfl
theorem cw_region (i : Nat) (l : List Oper) : cw P (.region i l.toArray false) s H Q = vw P l.toArray l s H (Q .normal) := propext Iff.rfl
theorem cw_regionQ (i : Nat) (l : List Oper) : cw P (.region i l.toArray true) s H Q = (P.follows .mixedOrders = true ∧ softB l.toArray = true ∧ qw P l.toArray l s H (Q .normal)) := propext Iff.rfl
theorem cw_seq (x y : Code) : cw P (.seq x y) s H Q = cw P x s H (seqK P y Q) := propext Iff.rfl
theorem cw_cond (c : Operand) (x y : Code) : cw P (.cond c x y) s H Q = bindP (boolV (evO s c)) (condK P x y s H Q) := propext Iff.rfl
theorem cw_block (i : Nat) (c : Code) : cw P (.block i c) s H Q = cw P c s H (blockK i Q) := propext Iff.rfl
theorem cw_loop (c : Code) : cw P (.loop c) s H Q = RunC P (.loop c) ⟨s, H⟩ (stK Q) := propext Iff.rfl
theorem condK_ap (x y : Code) (b : Bool) : condK P x y s H Q b = condP b (cw P x s H Q) (cw P y s H Q) := propext Iff.rfl
theorem seqK_normal (y : Code) : seqK P y Q .normal s H = cw P y s H Q := propext Iff.rfl
theorem seqK_exit (y : Code) (i : Nat) : seqK P y Q (.exit i) s H = Q (.exit i) s H := propext Iff.rfl
theorem seqK_ret (y : Code) : seqK P y Q .ret s H = Q .ret s H := propext Iff.rfl
theorem blockK_normal (i : Nat) : blockK i Q .normal s H = Q .normal s H := propext Iff.rfl
theorem blockK_ret (i : Nat) : blockK i Q .ret s H = Q .ret s H := propext Iff.rfl
theorem blockK_hit (i : Nat) : blockK i Q (.exit i) s H = Q .normal s H := by simp [blockK]
theorem blockK_miss (i j : Nat) (h : (j == i) = false) : blockK i Q (.exit j) s H = Q (.exit j) s H := by
  have : j ≠ i := by simpa using h
  simp [blockK, this]
theorem doneK_ret (rs : List ResultVar) : doneK P rs F .ret s H = bindP (resV P s H rs) (lessQ H F) := by simp only [doneK, reduceCtorEq, true_or, or_true, true_and]; rfl
theorem doneK_normal (rs : List ResultVar) : doneK P rs F .normal s H = bindP (resV P s H rs) (lessQ H F) := by simp only [doneK, reduceCtorEq, true_or, or_true, true_and]; rfl

theorem vw_nil : vw P ops [] s H K = K s H := by rw [vw]
theorem vw_cons (d : Option Tmp) (op : Op) (t : TypeId) (p : String) (e : Array Edge) (r : List Oper) :
    vw P ops (⟨d, op, t, p, e, none⟩ :: r) s H K = opW P ⟨d, op, t, p, e, none⟩ s H (vwK P ops r s d K) := by rw [vw]; rfl
theorem vw_guard (d : Option Tmp) (op : Op) (t : TypeId) (p : String) (e : Array Edge) (j : Nat) (want : Bool) (r : List Oper) :
    vw P ops (⟨d, op, t, p, e, some (j, want)⟩ :: r) s H K = bindP (guardV ops s j) (guardK P ops ⟨d, op, t, p, e, some (j, want)⟩ r s H K want) := by rw [vw]; rfl
theorem vwK_ap (r : List Oper) (d : Option Tmp) (v : AV) (H' : Heap) : vwK P ops r s d K v H' = vw P ops r (putS s d v) H' K := propext Iff.rfl
theorem guardK_ap (d : Option Tmp) (op : Op) (t : TypeId) (p : String) (e : Array Edge) (gd : Option (Nat × Bool)) (r : List Oper) (want : Bool) (g : Option Bool) :
    guardK P ops ⟨d, op, t, p, e, gd⟩ r s H K want g = guardP g want (opW P ⟨d, op, t, p, e, gd⟩ s H (vwK P ops r s d K)) (vw P ops r (putS s d .void) H K) := propext Iff.rfl
theorem qw_nil : qw P ops [] s H K = K s H := by rw [qw]
theorem qw_cons (d : Option Tmp) (op : Op) (t : TypeId) (p : String) (e : Array Edge) (r : List Oper) :
    qw P ops (⟨d, op, t, p, e, none⟩ :: r) s H K = quietW P ops ⟨d, op, t, p, e, none⟩ s H (qwK P ops r s d H K) := by rw [qw]; rfl
theorem qw_guard (d : Option Tmp) (op : Op) (t : TypeId) (p : String) (e : Array Edge) (j : Nat) (want : Bool) (r : List Oper) :
    qw P ops (⟨d, op, t, p, e, some (j, want)⟩ :: r) s H K = bindP (guardV ops s j) (guardQ P ops ⟨d, op, t, p, e, some (j, want)⟩ r s H K want) := by rw [qw]; rfl
theorem qwK_ap (r : List Oper) (d : Option Tmp) (v : AV) : qwK P ops r s d H K v = qw P ops r (putS s d v) H K := propext Iff.rfl
theorem guardQ_ap (d : Option Tmp) (op : Op) (t : TypeId) (p : String) (e : Array Edge) (gd : Option (Nat × Bool)) (r : List Oper) (want : Bool) (g : Option Bool) :
    guardQ P ops ⟨d, op, t, p, e, gd⟩ r s H K want g = guardP g want (quietW P ops ⟨d, op, t, p, e, gd⟩ s H (qwK P ops r s d H K)) (qw P ops r (putS s d .void) H K) := propext Iff.rfl

theorem guardP_tt (A B : Prop) : guardP (some true) true A B = A := by simp [guardP]
theorem guardP_ff (A B : Prop) : guardP (some false) false A B = A := by simp [guardP]
theorem guardP_tf (A B : Prop) : guardP (some true) false A B = B := by simp [guardP]
theorem guardP_ft (A B : Prop) : guardP (some false) true A B = B := by simp [guardP]
theorem guardP_none (w : Bool) (A B : Prop) : guardP none w A B = B := by simp [guardP]
theorem guardP_t (b : Bool) (A B : Prop) : guardP (some b) true A B = ((b = true → A) ∧ (b = false → B)) := by simp [guardP]
theorem guardP_f (b : Bool) (A B : Prop) : guardP (some b) false A B = ((b = false → A) ∧ (b = true → B)) := by cases b <;> simp [guardP]
theorem condP_t (A B : Prop) : condP true A B = A := by simp [condP]
theorem condP_f (A B : Prop) : condP false A B = B := by simp [condP]
theorem condP_b (b : Bool) (A B : Prop) : condP b A B = ((b = true → A) ∧ (b = false → B)) := rfl
theorem boolV_b (b : Bool) : boolV (.c (.f (.bool b))) = some b := rfl

variable {d : Option Tmp} {t : TypeId} {p : String} {e : Array Edge} {g : Option (Nat × Bool)}
def pickK (s : List AV) (H : Heap) (x y : Operand) (F : KV) : Bool → Prop := fun b => F (if b then evO s x else evO s y) H
theorem pickK_t (x y : Operand) : pickK s H x y F true = F (evO s x) H := propext Iff.rfl
theorem pickK_f (x y : Operand) : pickK s H x y F false = F (evO s y) H := propext Iff.rfl
/-- Where nothing is decided: the bool that the two bools make. -/
def orB (b c : Bool) : Bool := b || c
theorem pickK_ap (x y : Operand) (b : Bool) : pickK s H x y F b = F (if b then evO s x else evO s y) H := propext Iff.rfl
theorem opW_move (x : Operand) : opW P ⟨d, .move x, t, p, e, g⟩ s H F = F (evO s x) H := by simp [opW, isVal, opV, bindP, atH]
theorem opW_assign (x : Operand) : opW P ⟨d, .assign x, t, p, e, g⟩ s H F = F (evO s x) H := by simp [opW, isVal, opV, bindP, atH]
theorem opV_pick (c x y : Operand) : opV P s H (.pick c x y) = (boolV (evO s c)).map fun b => if b then evO s x else evO s y := by
  simp only [opV, boolV]
  cases evO s c with
  | c x => cases x with
    | f y => cases y <;> rfl
    | _ => rfl
  | _ => rfl
theorem opW_pick (c x y : Operand) : opW P ⟨d, .pick c x y, t, p, e, g⟩ s H F = bindP (boolV (evO s c)) (pickK s H x y F) := by
  simp only [opW, isVal, if_true, opV_pick, bindP_map]; rfl
theorem opW_bin (op : BinOp) (xt : TypeId) (x y : Operand) (yt : TypeId) : opW P ⟨d, .binOp op xt x y yt, t, p, e, g⟩ s H F = bindP (binV P s H op xt x y) (atH F H) := propext Iff.rfl
theorem opW_un (op : UnOp) (xt : TypeId) (x : Operand) : opW P ⟨d, .unOp op xt x, t, p, e, g⟩ s H F = bindP (unV op (evO s x)) (atH F H) := propext Iff.rfl
theorem opW_conv (st dt : TypeId) (x : Operand) : opW P ⟨d, .convert st dt x, t, p, e, g⟩ s H F = bindP (convV P H st dt (evO s x)) (atH F H) := propext Iff.rfl
theorem opW_fieldAddr (st : TypeId) (x : Operand) (f : Nat) : opW P ⟨d, .fieldAddr st x f, t, p, e, g⟩ s H F = bindP (fieldV P H st (evO s x) f) (atH F H) := propext Iff.rfl
theorem opW_field (st : TypeId) (x : Operand) (f : Nat) : opW P ⟨d, .field st x f, t, p, e, g⟩ s H F = bindP (fieldA P st (evO s x) f) (atH F H) := propext Iff.rfl
theorem opW_indexAddr (st : TypeId) (x i : Operand) : opW P ⟨d, .indexAddr st x i, t, p, e, g⟩ s H F = bindP (elemV P H st (evO s x) (evO s i)) (atH F H) := propext Iff.rfl
theorem opW_index (st : TypeId) (x i : Operand) : opW P ⟨d, .index st x i, t, p, e, g⟩ s H F = bindP (indexV P st (evO s x) (evO s i)) (atH F H) := propext Iff.rfl
theorem opW_load (st : TypeId) (x : Operand) : opW P ⟨d, .load st x, t, p, e, g⟩ s H F = bindP (loadV P H st (evO s x)) (atH F H) := propext Iff.rfl
theorem opW_nilCheck (x : Operand) : opW P ⟨d, .nilCheck x, t, p, e, g⟩ s H F = bindP (nilV H (evO s x)) (atH F H) := propext Iff.rfl
def sliceO (P : Program) (s : List AV) (H : Heap) (st : TypeId) (x : Operand) (lo hi mx : Option Operand) : Option AV := match bound s lo, bound s hi, bound s mx with
    | some l, some h, some m => sliceV P H st (evO s x) l h m
    | _, _, _ => none
theorem opW_slice (st : TypeId) (x : Operand) (lo hi mx : Option Operand) : opW P ⟨d, .slice st x lo hi mx, t, p, e, g⟩ s H F = bindP (sliceO P s H st x lo hi mx) (atH F H) := propext Iff.rfl
theorem opW_len (x : Operand) (xt : TypeId) : opW P ⟨d, .call ⟨.builtin .len, #[x], #[xt]⟩, t, p, e, g⟩ s H F = bindP (lenO P H xt (evO s x)) (atH F H) := propext Iff.rfl
theorem opW_min (x y : Operand) (ts : Array TypeId) : opW P ⟨d, .call ⟨.builtin .min, #[x, y], ts⟩, t, p, e, g⟩ s H F = bindP (minV false (evO s x) (evO s y)) (atH F H) := propext Iff.rfl
theorem opW_max (x y : Operand) (ts : Array TypeId) : opW P ⟨d, .call ⟨.builtin .max, #[x, y], ts⟩, t, p, e, g⟩ s H F = bindP (minV true (evO s x) (evO s y)) (atH F H) := propext Iff.rfl
def extractO (i : Nat) : AV → Option AV
  | .tup vs => vs[i]?
  | _ => none
theorem opW_extract (x : Operand) (i : Nat) : opW P ⟨d, .extract x i, t, p, e, g⟩ s H F = bindP (extractO i (evO s x)) (atH F H) := propext Iff.rfl
theorem opW_makeFunc (f : FuncId) (fi ca : Array Operand) : opW P ⟨d, .makeFunc (.func f) fi ca, t, p, e, g⟩ s H F = bindP (if fi.size = 0 then (ca.toList.mapM (capOf s)).map fun l => .c (.fn f l) else none) (atH F H) := propext Iff.rfl
theorem opW_call (f : Operand) (xs : Array Operand) (ts : Array TypeId) : opW P ⟨d, .call ⟨.value f, xs, ts⟩, t, p, e, g⟩ s H F = OpS P ⟨d, .call ⟨.value f, xs, ts⟩, t, p, e, g⟩ ⟨s, H⟩ F := by simp [opW, isVal, opM]
theorem opW_append (x y : Operand) (u : TypeId) : opW P ⟨d, .call ⟨.builtin .append, #[x, y], #[u, u]⟩, t, p, e, g⟩ s H F = appendM P H u (evO s x) (evO s y) F := by simp [opW, isVal, opM]
theorem opW_box (bt : TypeId) (x : Operand) : opW P ⟨d, .box bt x, t, p, e, g⟩ s H F = boxM H (evO s x) F := propext Iff.rfl
theorem opW_alloc (bt : TypeId) : opW P ⟨d, .alloc bt, t, p, e, g⟩ s H F = allocM P H bt F := propext Iff.rfl
theorem opW_store (bt : TypeId) (x y : Operand) : opW P ⟨d, .store bt x y, t, p, e, g⟩ s H F = storeM P H bt (evO s x) (evO s y) F := propext Iff.rfl
theorem opW_buildSlice (bt : TypeId) (n : Nat) (ps : List (Nat × Operand)) : opW P ⟨d, .buildSlice bt n ps.toArray, t, p, e, g⟩ s H F = buildM P s H bt n ps F := propext Iff.rfl
theorem opW_makeSlice (bt : TypeId) (x y : Operand) : opW P ⟨d, .makeSlice bt x y, t, p, e, g⟩ s H F = makeM P H bt (evO s x) (evO s y) F := propext Iff.rfl
theorem evO_tmp (n : Nat) : evO s (.tmp n) = s.getD n .void := rfl
theorem evO_int (k : IntKind) (n : Int) : evO s (.const (.int k n)) = .c (.f (.int k n)) := rfl
theorem evO_bool (b : Bool) : evO s (.const (.bool b)) = .c (.f (.bool b)) := rfl
theorem evO_str (b : ByteArray) : evO s (.const (.string b)) = .c (.f (.str b)) := rfl
theorem evO_nil : evO s (.const (.slice none 0 0)) = .c (.f .nil) := rfl
theorem evO_fn (f : FuncId) : evO s (.func f) = .c (.fn f []) := rfl
theorem putS_some (n : Nat) (v : AV) : putS s (some n) v = s.set n v := rfl
theorem putS_none (v : AV) : putS s none v = s := rfl

/-- An operation on two values, whatever they are. -/
def binA (P : Program) (H : Heap) (op : BinOp) (t : TypeId) (x y : AV) : Option AV :=
  match x, y with
  | .c (.f (.int k a)), .c (.f (.int k' b)) => (binI op k a k' b).map fun r => .c (.f r)
  | .c (.f (.str a)), .c (.f (.str b)) => match op with
    | .add => if a.size + b.size ≤ 9223372036854775807 then some (.c (.f (.str (a ++ b)))) else none
    | .eql => some (.c (.f (.bool (a.toList == b.toList))))
    | .neq => some (.c (.f (.bool (!(a.toList == b.toList)))))
    | _ => none
  | .c (.f (.bool a)), .c (.f (.bool b)) => match tinf P t with
    | some ti => match ti.k, op with
      | .bool, .eql => some (.c (.f (.bool (a == b))))
      | .bool, .neq => some (.c (.f (.bool (!(a == b)))))
      | _, _ => none
    | none => none
  | vx, vy => match tinf P t, isNilV H vx, isNilV H vy with
    | some ti, some nx, some ny => match ti.k, op with
      | .slice _, .eql => if ny = true then some (.c (.f (.bool nx))) else if nx = true then some (.c (.f (.bool ny))) else none
      | .slice _, .neq => if ny = true then some (.c (.f (.bool (!nx)))) else if nx = true then some (.c (.f (.bool (!ny)))) else none
      | _, _ => none
    | _, _, _ => none
theorem binV_eq (op : BinOp) (xt : TypeId) (x y : Operand) : binV P s H op xt x y = binA P H op xt (evO s x) (evO s y) := rfl
theorem binA_int (op : BinOp) (xt : TypeId) (k k' : IntKind) (a b : Int) : binA P H op xt (.c (.f (.int k a))) (.c (.f (.int k' b))) = (binI op k a k' b).map fun r => .c (.f r) := rfl
end
end Go.Lg
