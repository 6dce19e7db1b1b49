/- The operations that only compute or read, continued: each one's value, and that the machine yields it. -/
import Derived.Test.YtlpehaekjclgcaaLgB
import Derived.Laws.BytesArg
import Derived.Laws.StructEq
import Derived.Laws.Small
import Derived.Lib.SliceRun
import Derived.WalkSpells
set_option linter.unusedSimpArgs false
set_option linter.unusedVariables false
namespace Go.Lg

theorem add_plain (b o j : Nat) : (⟨b, o, none⟩ : Addr).add j = ⟨b, o + j, none⟩ := by unfold Addr.add; split <;> simp_all

/-- The cells behind a pointer. -/
def cellsAt (H : Heap) : CV → Nat → Option (List CV)
  | .fp cs off, n => if off + n ≤ cs.length then some (((cs.drop off).take n).map .f) else none
  | .ptr id g off, n => match look H id g with
    | some b => if off + n ≤ b.cs.length then some ((b.cs.drop off).take n) else none
    | none => none
  | _, _ => none

theorem cellsAt_sound {w : World} {X : Cx} {H : Heap} (R : HRel w X H) {p : CV} {n : Nat} {l : List CV} {v : Value} (h : cellsAt H p n = some l) (hv : VC w X H p v) :
    ∃ b o, v = .pointer (some ⟨b, o, none⟩) ∧ l.length = n ∧ ∀ j (h : j < l.length), ∃ u, w.cell? ⟨b, o + j, none⟩ = some u ∧ VC w X H l[j] u := by
  cases p with
  | fp cs off =>
    obtain ⟨b, o, rfl, hI, hc⟩ := hv
    simp only [cellsAt] at h
    split at h
    · rename_i hl
      cases h
      refine ⟨b, o + off, rfl, by simp; omega, fun j hj => ?_⟩
      have hj' : off + j < cs.length := by simp at hj; omega
      obtain ⟨u, h1, h2⟩ := hc (off + j) hj'
      refine ⟨u, by rw [Nat.add_assoc]; exact h1, ?_⟩
      simp only [List.getElem_map, List.getElem_take, List.getElem_drop]
      exact h2
    · cases h
  | ptr id g off =>
    simp only [cellsAt] at h
    cases hl : look H id g with
    | none => simp [hl] at h
    | some b =>
      simp only [hl] at h
      split at h
      · rename_i hlen
        cases h
        obtain ⟨hid, hg⟩ := look_some hl
        obtain ⟨h1, h2, cc, t, h3, h4, h5, h6⟩ := R.blk id b hid
        have hv' := hv.2.2 (by rw [hl]; rfl)
        refine ⟨X.mu g, off, hv', by simp; omega, fun j hj => ?_⟩
        have hj' : off + j < b.cs.length := by simp at hj; omega
        obtain ⟨u, h7, h8⟩ := h6 (off + j) hj'
        refine ⟨u, ?_, by simpa using h8⟩
        subst hg
        simp [World.cell?, h3, h7]
      · cases h
  | _ => simp [cellsAt] at h

def isAggK : TK → Bool
  | .struct _ | .array .. => true
  | _ => false

theorem run_isAgg {P : Program} {t : TypeId} {x : TI} (h : tinf P t = some x) (w : World) : (isAgg t).run P w = .ok (isAggK x.k) w := by
  obtain ⟨i, d, z, hi, hd, hz, hm, h1, h2, h3⟩ := tinf_some h
  simp only [isAgg, Sem.run_bind, run_underlying hd, Result.andThen_ok, h1]
  cases d <;> rfl

def loadV (P : Program) (H : Heap) (t : TypeId) (p : AV) : Option AV :=
  match p, tinf P t with
  | .c p, some i => match isAggK i.k with
    | true => (cellsAt H p i.size).map .agg
    | false => match cellsAt H p 1 with
      | some [c] => some (.c c)
      | _ => none
  | _, _ => none

theorem va_agg_of {w : World} {X : Cx} {H : Heap} {l : List CV} {f : Nat → Value} (h : ∀ j (h : j < l.length), VC w X H l[j] (f j)) : VA w X H (.agg l) (.agg ((List.range l.length).map f).toArray) :=
  .agg _ _ (by simp) fun j hj => ⟨f j, by simp [hj], h j hj⟩

theorem loadV_sound {P : Program} {w : World} {X : Cx} {H : Heap} (R : HRel w X H) {t : TypeId} {p v : AV} {pv : Value} (h : loadV P H t p = some v) (hp : VA w X H p pv) :
    ∃ u, (∀ w', Grow w w' → (Instr.loadAt t pv).run P w' = .ok u w') ∧ VA w X H v u := by
  unfold loadV at h
  split at h
  · rename_i p' i hi
    have hp' := va_c hp
    split at h
    · rename_i hk
      cases hc : cellsAt H p' i.size with
      | none => simp [hc] at h
      | some l =>
        simp [hc] at h
        subst h
        obtain ⟨b, o, rfl, hl, hcs⟩ := cellsAt_sound R hc hp'
        have hx : ∀ j, ∃ u, j < l.length → (w.cell? ⟨b, o + j, none⟩ = some u ∧ ∀ h : j < l.length, VC w X H l[j] u) := fun j => by
          by_cases hj : j < l.length
          · obtain ⟨u, h1, h2⟩ := hcs j hj
            exact ⟨u, fun _ => ⟨h1, fun _ => h2⟩⟩
          · exact ⟨undef, fun h => absurd h hj⟩
        have hf := fun j => (hx j).choose_spec
        refine ⟨_, fun w' hg => ?_, va_agg_of (f := fun j => (hx j).choose) fun j hj => (hf j hj).2 hj⟩
        have hrun := run_loadCells (P := P) w' ⟨b, o, none⟩ l.length (fun j => (hx j).choose) (fun j hj => by rw [add_plain]; exact hg.cell (hf j hj).1)
        simp only [Instr.loadAt, Instr.sureAddr, Sem.run_bind, Sem.run_pure, Result.andThen_ok, loadVar, run_isAgg hi, hk, if_true, run_sizeOf' hi]
        rw [← hl, hrun]
        rfl
    · rename_i hk
      split at h
      · rename_i c hc
        cases h
        obtain ⟨b, o, rfl, hl, hcs⟩ := cellsAt_sound R hc hp'
        obtain ⟨u, h1, h2⟩ := hcs 0 (by simp)
        refine ⟨u, fun w' hg => ?_, .c _ _ h2⟩
        simp only [Instr.loadAt, Instr.sureAddr, Sem.run_bind, Sem.run_pure, Result.andThen_ok, loadVar, run_isAgg hi, hk, Bool.false_eq_true, if_false, run_load]
        simp only [Nat.add_zero] at h1
        rw [hg.cell h1]
      · cases h
  · cases h

/-- A pointer moved on. -/
def moved (H : Heap) : CV → Nat → Option CV
  | .fp cs off, n => some (.fp cs (off + n))
  | .ptr id g off, n => if (look H id g).isSome then some (.ptr id g (off + n)) else none
  | _, _ => none
theorem moved_sound {w : World} {X : Cx} {H : Heap} {p q : CV} {n : Nat} {v : Value} (h : moved H p n = some q) (hv : VC w X H p v) :
    ∃ b o, v = .pointer (some ⟨b, o, none⟩) ∧ VC w X H q (.pointer (some ⟨b, o + n, none⟩)) := by
  cases p with
  | fp cs off =>
    cases h
    obtain ⟨b, o, rfl, hI, hc⟩ := hv
    exact ⟨b, o + off, rfl, b, o, by rw [Nat.add_assoc], hI, hc⟩
  | ptr id g off =>
    simp only [moved] at h
    split at h
    · rename_i hl
      cases h
      have := hv.2.2 hl
      exact ⟨X.mu g, off, this, hv.1, rfl, fun _ => rfl⟩
    · cases h
  | _ => simp [moved] at h

def fieldV (P : Program) (H : Heap) (s : TypeId) (p : AV) (f : Nat) : Option AV :=
  match p, tinf P s with
  | .c p, some ⟨.struct fs, _, _, _⟩ => match fs[f]? with
    | some (ft, off) => match tinf P ft with
      | some i => if i.size = 0 then none else (moved H p off).map .c
      | none => none
    | none => none
  | _, _ => none
theorem fieldV_sound {P : Program} {w : World} {X : Cx} {H : Heap} {s : TypeId} {p v : AV} {f : Nat} {pv : Value} (h : fieldV P H s p f = some v) (hp : VA w X H p pv) :
    ∃ u, (∀ w', Grow w w' → (Instr.fieldAt s pv f).run P w' = .ok u w') ∧ VA w X H v u := by
  unfold fieldV at h
  split at h
  · rename_i p' fs sz by_ z hi
    split at h
    · rename_i ft off hf
      split at h
      · rename_i i hft
        split at h
        · cases h
        · rename_i hsz
          cases hm : moved H p' off with
          | none => simp [hm] at h
          | some q =>
            simp [hm] at h
            subst h
            obtain ⟨b, o, rfl, hq⟩ := moved_sound hm (va_c hp)
            obtain ⟨inf, d, z', h1, h2, h3, h4, h5, h6, h7⟩ := tinf_some hi
            cases d <;> simp [tkOf] at h5
            rename_i fields
            subst h5
            simp at hf
            obtain ⟨fl, hf1, hf2, hf3⟩ := hf
            subst hf2 hf3
            refine ⟨_, fun w' _ => ?_, .c _ _ hq⟩
            simp only [Instr.fieldAt, Sem.run_bind, run_underlying h2, Result.andThen_ok]
            simp only [hf1, Instr.sureAddr, Sem.run_bind, Sem.run_pure, Result.andThen_ok, fieldPlace, run_sizeOf' hft, if_neg hsz, add_plain]
      · cases h
    · cases h
  · cases h

/-- The address of an element. -/
def elemV (P : Program) (H : Heap) (t : TypeId) (x ix : AV) : Option AV :=
  match ix, tinf P t with
  | .c (.f (.int _ i)), some ti =>
    match ti.k, x with
    | .slice e, .c (.f (.sl n cs)) => match tinf P e with
      | some ei => if 0 ≤ i ∧ i < n then some (.c (.fp cs (i.toNat * ei.size))) else none
      | none => none
    | .slice e, .c (.own id g off n _) => match tinf P e, look H id g with
      | some ei, some _ => if 0 ≤ i ∧ i < n then some (.c (.ptr id g (off + i.toNat * ei.size))) else none
      | _, _ => none
    | .array n e, .c p => match tinf P e with
      | some ei => if 0 ≤ i ∧ i < n then (moved H p (i.toNat * ei.size)).map .c else none
      | none => none
    | _, _ => none
  | _, _ => none

theorem tk_slice {d : TypeDesc} {e : TypeId} (h : tkOf d = .slice e) : d = .slice e := by cases d <;> simp [tkOf] at h; subst h; rfl
theorem tk_array {d : TypeDesc} {n : Nat} {e : TypeId} (h : tkOf d = .array n e) : d = .array n e := by cases d <;> simp [tkOf] at h; obtain ⟨rfl, rfl⟩ := h; rfl
theorem tk_int {d : TypeDesc} {k : IntKind} (h : tkOf d = .int k) : d = .int k := by cases d <;> simp [tkOf] at h; subst h; rfl
theorem tk_str {d : TypeDesc} (h : tkOf d = .str) : d = .string := by cases d <;> simp [tkOf] at h; rfl
theorem tk_bool {d : TypeDesc} (h : tkOf d = .bool) : d = .bool := by cases d <;> simp [tkOf] at h; rfl

theorem run_indexAt_slice {P : Program} {w : World} {t e : TypeId} {ei : TI} {k : IntKind} {i : Int} {a : Addr} {n c : Nat} (hu : P.underlying t = some (.slice e)) (he : tinf P e = some ei) (h : 0 ≤ i ∧ i < n) :
    (Instr.indexAt t (.slice (some a) n c) (.int k i)).run P w = .ok (.pointer (some (a.add (i.toNat * ei.size)))) w := by
  simp [Instr.indexAt, asIntOf, run_underlying hu, run_sizeOf' he, h]

theorem run_indexAt_array {P : Program} {w : World} {t e : TypeId} {ei : TI} {k : IntKind} {i : Int} {a : Addr} {n : Nat} (hu : P.underlying t = some (.array n e)) (he : tinf P e = some ei) (h : 0 ≤ i ∧ i < n) :
    (Instr.indexAt t (.pointer (some a)) (.int k i)).run P w = .ok (.pointer (some (a.add (i.toNat * ei.size)))) w := by
  simp [Instr.indexAt, asIntOf, run_underlying hu, run_sizeOf' he, h, Instr.sureAddr]

theorem elemV_sound {P : Program} {w : World} {X : Cx} {H : Heap} {t : TypeId} {x ix v : AV} {xv iv : Value} (h : elemV P H t x ix = some v) (hx : VA w X H x xv) (hi : VA w X H ix iv) :
    ∃ u, (∀ w', Grow w w' → (Instr.indexAt t xv iv).run P w' = .ok u w') ∧ VA w X H v u := by
  unfold elemV at h
  split at h
  · rename_i k i ti hti
    cases va_int hi
    obtain ⟨inf, d, z', h1, h2, h3, h4, h5, h6, h7⟩ := tinf_some hti
    split at h
    · rename_i e n cs hk
      rw [h5] at hk
      cases tk_slice hk
      split at h
      · rename_i ei hei
        split at h
        · rename_i hb
          cases h
          have := va_c hx
          cases this with
          | sl0 a cap => exact absurd hb (by omega)
          | sl n cs b o cap u hc hI hu hv =>
            refine ⟨_, fun w' _ => run_indexAt_slice h2 hei hb, .c _ _ ⟨b, o, by rw [add_plain], hI, fun j hj => ⟨u j, hu j hj, hv j hj⟩⟩⟩
        · cases h
      · cases h
    · rename_i e id g off n lim hk
      rw [h5] at hk
      cases tk_slice hk
      split at h
      · rename_i ei b hei hl
        split at h
        · rename_i hb
          cases h
          obtain ⟨hg, h1, hlook⟩ := va_c hx
          obtain ⟨hn, a, cap, rfl, hc, ha, _⟩ := hlook b hl
          have := ha (by omega)
          subst this
          exact ⟨_, fun w' _ => run_indexAt_slice h2 hei hb, .c _ _ ⟨hg, rfl, fun _ => by rw [add_plain]⟩⟩
        · cases h
      · cases h
    · rename_i n e p hk
      rw [h5] at hk
      cases tk_array hk
      split at h
      · rename_i ei hei
        split at h
        · rename_i hb
          cases hm : moved H p (i.toNat * ei.size) with
          | none => simp [hm] at h
          | some q =>
            simp [hm] at h
            subst h
            obtain ⟨b, o, rfl, hq⟩ := moved_sound hm (va_c hx)
            exact ⟨_, fun w' _ => run_indexAt_array h2 hei hb, .c _ _ (by rw [add_plain]; exact hq)⟩
        · cases h
      · cases h
    · cases h
  · cases h

/-- A byte of a string. -/
def byteAt (s : ByteArray) (i : Nat) : Int := ((s.data.toList.getD i 0).toNat : Int)

def indexV (P : Program) (t : TypeId) (x ix : AV) : Option AV :=
  match ix, x, tinf P t with
  | .c (.f (.int _ i)), .c (.f (.str s)), some ti => match ti.k with
    | .str => if 0 ≤ i ∧ i < s.size then some (.c (.f (.int .u8 (byteAt s i.toNat)))) else none
    | _ => none
  | .c (.f (.int _ i)), .agg cs, some ti => match ti.k with
    | .array n e => match tinf P e with
      | some ei => if 0 ≤ i ∧ i < n ∧ isAggK ei.k = false then (cs[i.toNat * ei.size]?).map .c else none
      | none => none
    | _ => none
  | _, _, _ => none

theorem run_part {P : Program} {w : World} {e : TypeId} {ei : TI} (he : tinf P e = some ei) (hk : isAggK ei.k = false) {cs : Array Value} {off : Nat} {u : Value} (h : cs[off]? = some u) : (part e cs off).run P w = .ok u w := by
  simp only [part, Sem.run_bind, run_isAgg he, hk, Result.andThen_ok, Bool.false_eq_true, if_false, h, Sem.run_pure]

theorem indexV_sound {P : Program} {w : World} {X : Cx} {H : Heap} {t : TypeId} {x ix v : AV} {xv iv : Value} (h : indexV P t x ix = some v) (hx : VA w X H x xv) (hi : VA w X H ix iv) :
    ∃ u, (∀ w', Grow w w' → (Instr.index t xv iv).run P w' = .ok u w') ∧ VA w X H v u := by
  unfold indexV at h
  split at h
  · rename_i k i s ti hti
    cases va_int hi
    cases va_str hx
    obtain ⟨inf, d, z', h1, h2, h3, h4, h5, h6, h7⟩ := tinf_some hti
    split at h
    · rename_i hk
      rw [h5] at hk
      cases tk_str hk
      split at h
      · rename_i hb
        cases h
        have hlt : i.toNat < s.size := by omega
        refine ⟨.int .u8 (byteAt s i.toNat), fun w' _ => ?_, .c _ _ (VF.int _ _)⟩
        have e : s[i.toNat]? = some (s[i.toNat]'hlt) := by simp [hlt]
        have e2 : byteAt s i.toNat = ((s[i.toNat]'hlt).toNat : Int) := by
          have hl : i.toNat < s.data.toList.length := by simpa using hlt
          simp only [byteAt, List.getD, List.getElem?_eq_getElem hl, Option.getD_some]
          rfl
        simp only [Instr.index, asIntOf, Sem.run_bind, Sem.run_pure, Result.andThen_ok, run_underlying h2, if_pos hb.1, e, e2]
      · cases h
    · cases h
  · rename_i k i cs ti hti
    cases va_int hi
    obtain ⟨inf, d, z', h1, h2, h3, h4, h5, h6, h7⟩ := tinf_some hti
    split at h
    · rename_i n e hk
      rw [h5] at hk
      cases tk_array hk
      split at h
      · rename_i ei hei
        split at h
        · rename_i hb
          cases hx with
          | agg cs vs hs hcs =>
            cases hc : cs[i.toNat * ei.size]? with
            | none => simp [hc] at h
            | some c =>
              simp [hc] at h
              subst h
              obtain ⟨hlt, he⟩ := List.getElem?_eq_some_iff.1 hc
              obtain ⟨u, h8, h9⟩ := hcs _ hlt
              rw [he] at h9
              refine ⟨u, fun w' _ => ?_, .c _ _ h9⟩
              simp only [Instr.index, asIntOf, Sem.run_bind, Sem.run_pure, Result.andThen_ok, run_underlying h2, Sem.run_ite, if_pos (And.intro hb.1 hb.2.1), run_sizeOf' hei, run_part hei hb.2.2 h8]
        · cases h
      · cases h
    · cases h
  · cases h
end Go.Lg
