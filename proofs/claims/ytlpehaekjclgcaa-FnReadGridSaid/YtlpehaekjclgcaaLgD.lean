/- Cuts, lengths, fields, tests, conversions. -/
import Derived.Test.YtlpehaekjclgcaaLgC
set_option linter.unusedSimpArgs false
set_option linter.unusedVariables false
namespace Go.Lg

/-- A bound of a cut: absent, or a number. -/
def bound (s : List AV) : Option Operand → Option (Option Nat)
  | none => some none
  | some x => match evO s x with
    | .c (.f (.int _ i)) => if 0 ≤ i then some (some i.toNat) else none
    | _ => none

def sliceV (P : Program) (H : Heap) (t : TypeId) (x : AV) (lo hi mx : Option Nat) : Option AV :=
  match tinf P t, x with
  | some ti, .c (.f (.str s)) => match ti.k, mx with
    | .str, none => if lo.getD 0 ≤ hi.getD s.size ∧ hi.getD s.size ≤ s.size then some (.c (.f (.str (s.extract (lo.getD 0) (hi.getD s.size))))) else none
    | _, _ => none
  | some ti, .c (.f (.sl n cs)) => match ti.k with
    | .slice e => match tinf P e with
      | some ei =>
        let l := lo.getD 0
        let h := hi.getD n
        if l ≤ h ∧ h ≤ mx.getD h ∧ mx.getD h ≤ n ∧ (mx.isSome → hi.isSome) then (if mx = some l then some (.c .emp) else some (.c (.f (.sl (h - l) ((cs.drop (l * ei.size)).take ((h - l) * ei.size)))))) else none
      | none => none
    | _ => none
  | some ti, .c (.f .nil) => match ti.k with
    | .slice e => match tinf P e with
      | some _ => if lo.getD 0 = 0 ∧ hi.getD 0 = 0 ∧ mx.getD 0 = 0 ∧ (mx.isSome → hi.isSome) then some (.c (.f .nil)) else none
      | none => none
    | _ => none
  | some ti, .c (.own id g off n lim) => match ti.k with
    | .slice e => match tinf P e, look H id g with
      | some ei, some b =>
        let l := lo.getD 0
        let h := hi.getD n
        let m := mx.getD h
        if l ≤ h ∧ h ≤ m ∧ off + m * b.sz ≤ b.cs.length ∧ (mx.isSome → hi.isSome) ∧ b.sz = ei.size ∧ 0 < b.sz ∧ m ≤ lim.getD m then
          some (.c (.own id g (off + l * b.sz) (h - l) (match mx, lim with | some m, _ => some (m - l) | none, some c => some (c - l) | none, none => none)))
        else none
      | _, _ => none
    | _ => none
  | _, _ => none

def numV (s : List AV) : Option Operand → Option Value
  | none => none
  | some x => match evO s x with
    | .c (.f (.int k i)) => some (.int k i)
    | _ => none

/-- What the machine has for a bound. -/
theorem bound_sound {w : World} {X : Cx} {a : Act} {st : St} (R : Rel w X a st) {x : Option Operand} {r : Option Nat} (h : bound st.s x = some r) :
    (x = none ∧ r = none) ∨ ∃ y k i, x = some y ∧ a.eval y = .int k i ∧ 0 ≤ i ∧ r = some i.toNat := by
  cases x with
  | none => simp [bound] at h; exact .inl ⟨rfl, h.symm⟩
  | some y =>
    simp only [bound] at h
    split at h
    · rename_i k i hy
      split at h
      · rename_i h0
        cases h
        have := evO_sound R y
        rw [hy] at this
        exact .inr ⟨y, k, i, rfl, va_int this, h0, rfl⟩
      · cases h
    · cases h

theorem run_sliceBound {P : Program} {w : World} {k : IntKind} {i : Int} {y : Nat} {code : BoundsCode} (h0 : 0 ≤ i) (h : i.toNat ≤ y) : (Instr.sliceBound (.int k i) y code).run P w = .ok i.toNat w := by
  have : 0 ≤ i ∧ i ≤ y := ⟨h0, by omega⟩
  simp [Instr.sliceBound, asIntOf, this]

theorem run_sliceBounds {P : Program} {w : World} {X : Cx} {a : Act} {st : St} (R : Rel w X a st) {isS : Bool} {n c : Nat} {lo hi mx : Option Operand} {l h m : Option Nat} (hl : bound st.s lo = some l) (hh : bound st.s hi = some h) (hm : bound st.s mx = some m)
    (h1 : l.getD 0 ≤ h.getD n) (h2 : h.getD n ≤ m.getD c) (h3 : m.getD c ≤ c) (h4 : m.isSome → h.isSome) :
    ∀ w', (Instr.sliceBounds isS n c (lo.map a.eval) (hi.map a.eval) (mx.map a.eval)).run P w' = .ok (l.getD 0, h.getD n, m.getD c) w' := by
  intro w'
  rcases bound_sound R hl with ⟨rfl, rfl⟩ | ⟨yl, kl, il, rfl, el, pl, rfl⟩ <;> rcases bound_sound R hh with ⟨rfl, rfl⟩ | ⟨yh, kh, ih, rfl, eh, ph, rfl⟩ <;>
    rcases bound_sound R hm with ⟨rfl, rfl⟩ | ⟨ym, km, im, rfl, em, pm, rfl⟩ <;>
    simp only [Option.getD_some, Option.getD_none, Option.map_some, Option.map_none] at * <;>
    first
      | (simp at h4; done)
      | (simp only [Instr.sliceBounds, *]
         first
           | rfl
           | (simp only [Sem.run_bind, Sem.run_pure, Result.andThen_ok, Option.isSome_some, Option.isSome_none, if_true, Bool.false_eq_true, if_false]
              (repeat rw [run_sliceBound (by assumption) (by omega), Result.andThen_ok])
              try (first | rfl | (simp only [Result.andThen_ok, Sem.run_pure, Sem.run_bind]; (repeat rw [run_sliceBound (by assumption) (by omega), Result.andThen_ok]); try rfl))))

theorem run_slice_gen {P : Program} {w : World} {t e : TypeId} {ei : TI} {a : Option Addr} {n c l h m : Nat} {lo hi mx : Option Value} (hu : P.underlying t = some (.slice e)) (he : tinf P e = some ei)
    (hb : (Instr.sliceBounds true n c lo hi mx).run P w = .ok (l, h, m) w) :
    (Instr.sliceAt t (.slice a n c) lo hi mx).run P w = .ok (.slice (if m = l then a else a.map (·.add (l * ei.size))) (h - l) (m - l)) w := by
  simp [Instr.sliceAt, Instr.slice, run_underlying hu, hb, run_sizeOf' he]

theorem run_slice_str {P : Program} {w : World} {t : TypeId} {s : ByteArray} {l h m : Nat} {lo hi : Option Value} (hu : P.underlying t = some .string)
    (hb : (Instr.sliceBounds false s.size s.size lo hi none).run P w = .ok (l, h, m) w) :
    (Instr.sliceAt t (.string s) lo hi none).run P w = .ok (.string (s.extract l h)) w := by
  simp [Instr.sliceAt, Instr.slice, run_underlying hu, hb]

theorem sliceV_sound {P : Program} {w : World} {X : Cx} {a : Act} {st : St} (R : Rel w X a st) {t : TypeId} {x : AV} {xv : Value} {lo hi mx : Option Operand} {l h m : Option Nat} {v : AV}
    (hl : bound st.s lo = some l) (hh : bound st.s hi = some h) (hm : bound st.s mx = some m) (hx : VA w X st.h x xv) (hv : sliceV P st.h t x l h m = some v) :
    ∃ u, (∀ w', Grow w w' → (Instr.sliceAt t xv (lo.map a.eval) (hi.map a.eval) (mx.map a.eval)).run P w' = .ok u w') ∧ VA w X st.h v u := by
  unfold sliceV at hv
  split at hv
  · rename_i ti s hti
    cases va_str hx
    obtain ⟨inf, d, z', h1, h2, h3, h4, h5, h6, h7⟩ := tinf_some hti
    split at hv
    · rename_i hk
      rw [h5] at hk
      cases tk_str hk
      split at hv
      · rename_i hb
        cases hv
        have hmx : mx = none := by
          rcases bound_sound R hm with ⟨rfl, _⟩ | ⟨_, _, _, _, _, _, h⟩
          · rfl
          · cases h
        subst hmx
        exact ⟨_, fun w' _ => run_slice_str h2 (run_sliceBounds R hl hh hm hb.1 (by simpa using hb.2) (by simp) (by simp) w'), .c _ _ (VF.str _)⟩
      · cases hv
    · cases hv
  · rename_i ti n cs hti
    obtain ⟨inf, d, z', h1, h2, h3, h4, h5, h6, h7⟩ := tinf_some hti
    split at hv
    · rename_i e hk
      rw [h5] at hk
      cases tk_slice hk
      split at hv
      · rename_i ei hei
        simp only at hv
        split at hv
        · rename_i hb
          obtain ⟨b1, b2, b3, b4⟩ := hb
          have hd : ∀ c, n ≤ c → h.getD n ≤ m.getD c ∧ m.getD c ≤ c := fun c hc => by
            cases m with
            | none => simp at b2 b3 ⊢; omega
            | some m => simp at b2 b3 ⊢; omega
          have hx' := va_c hx
          split at hv
          · rename_i hml
            cases hv
            subst hml
            have hhl : h.getD n = l.getD 0 := by simp at b2; omega
            have : ∃ a c, xv = .slice a n c ∧ n ≤ c := by
              cases hx' with
              | sl0 a0 cap => exact ⟨_, _, rfl, Nat.zero_le _⟩
              | sl n cs b o cap u hc hI hu hvs => exact ⟨_, _, rfl, hc⟩
            obtain ⟨a0, cap, rfl, hcap⟩ := this
            obtain ⟨d1, d2⟩ := hd cap hcap
            refine ⟨_, fun w' _ => run_slice_gen h2 hei (run_sliceBounds R hl hh hm b1 d1 d2 b4 w'), .c _ _ ?_⟩
            simp only [Option.getD_some, hhl, Nat.sub_self, if_true]
            exact ⟨_, rfl⟩
          cases hv
          cases hx' with
          | sl0 a0 cap =>
            obtain ⟨d1, d2⟩ := hd cap (Nat.zero_le _)
            refine ⟨_, fun w' _ => run_slice_gen h2 hei (run_sliceBounds R hl hh hm b1 d1 d2 b4 w'), .c _ _ ?_⟩
            have e0 : h.getD 0 - l.getD 0 = 0 := by
              have : h.getD 0 ≤ 0 := by
                cases m with
                | none => simpa using b3
                | some m => simp at b2 b3; omega
              omega
            rw [e0]
            simp only [Nat.zero_mul, List.drop_nil, List.take_nil]
            exact VF.sl0 _ _
          | sl n cs b o cap u hc hI hu hvs =>
            obtain ⟨d1, d2⟩ := hd cap hc
            refine ⟨_, fun w' _ => run_slice_gen h2 hei (run_sliceBounds R hl hh hm b1 d1 d2 b4 w'), .c _ _ ?_⟩
            by_cases e0 : h.getD n - l.getD 0 = 0
            · rw [e0]
              simp only [Nat.zero_mul, List.take_zero]
              exact VF.sl0 _ _
            · rw [if_neg (by omega)]
              simp only [Option.map_some, add_plain]
              refine VF.sl _ _ _ _ _ (fun j => u (l.getD 0 * ei.size + j)) (by omega) hI (fun j hj => ?_) (fun j hj => ?_)
              · simp only [List.length_take, List.length_drop] at hj
                rw [Nat.add_assoc]
                exact hu _ (by omega)
              · simp only [List.length_take, List.length_drop] at hj
                simp only [List.getElem_take, List.getElem_drop]
                exact hvs _ (by omega)
        · cases hv
      · cases hv
    · cases hv
  · rename_i ti hti
    obtain ⟨inf, d, z', h1, h2, h3, h4, h5, h6, h7⟩ := tinf_some hti
    split at hv
    · rename_i e hk
      rw [h5] at hk
      cases tk_slice hk
      split at hv
      · rename_i ei hei
        split at hv
        · rename_i hb
          cases hv
          obtain ⟨b1, b2, b3, b4⟩ := hb
          have hx' := va_c hx
          cases hx' with
          | nil =>
            refine ⟨_, fun w' _ => run_slice_gen h2 hei (run_sliceBounds R hl hh hm (by omega) (by omega) (by omega) b4 w'), .c _ _ ?_⟩
            rw [b1, b2, b3]
            exact VF.nil
        · cases hv
      · cases hv
    · cases hv
  · rename_i ti id g off n lim hti
    obtain ⟨inf, d, z', h1, h2, h3, h4, h5, h6, h7⟩ := tinf_some hti
    split at hv
    · rename_i e hk
      rw [h5] at hk
      cases tk_slice hk
      split at hv
      · rename_i ei b hei hlk
        simp only at hv
        split at hv
        · rename_i hb
          cases hv
          obtain ⟨b1, b2, b3, b4, b5, b6, b7⟩ := hb
          obtain ⟨hg, ho, hall⟩ := va_c hx
          obtain ⟨c1, a0, cap, rfl, c2, c3, c4, c5⟩ := hall b hlk
          have hcap : m.getD (h.getD n) ≤ cap := by
            cases lim with
            | none =>
              simp only at c5
              have : m.getD (h.getD n) * b.sz ≤ cap * b.sz := by omega
              exact Nat.le_of_mul_le_mul_right this b6
            | some c =>
              simp only at c5
              simp at b7
              omega
          have d1 : h.getD n ≤ m.getD cap ∧ m.getD cap ≤ cap := by
            cases m with
            | none => simp at b2 hcap ⊢; omega
            | some m => simp at b2 hcap ⊢; omega
          refine ⟨_, fun w' _ => run_slice_gen h2 hei (run_sliceBounds R hl hh hm b1 d1.1 d1.2 b4 w'), .c _ _ ⟨hg, rfl, fun blk hblk => ?_⟩⟩
          rw [hlk] at hblk
          cases hblk
          have hcm : l.getD 0 ≤ m.getD cap := by omega
          have hsz : (h.getD n - l.getD 0) * b.sz + l.getD 0 * b.sz = h.getD n * b.sz := by rw [← Nat.add_mul]; congr 1; omega
          have hle : h.getD n * b.sz ≤ m.getD (h.getD n) * b.sz := Nat.mul_le_mul_right _ b2
          have hsz2 : (m.getD cap - l.getD 0) * b.sz + l.getD 0 * b.sz = m.getD cap * b.sz := by rw [← Nat.add_mul]; congr 1; omega
          have hle2 : m.getD cap * b.sz ≤ cap * b.sz := Nat.mul_le_mul_right _ d1.2
          refine ⟨by omega, ?_⟩
          by_cases e0 : m.getD cap = l.getD 0
          · rw [if_pos e0]
            refine ⟨_, _, rfl, by omega, fun hne => absurd (by omega) hne, by omega, ?_⟩
            cases m with
            | some m => simp only; simp
            | none =>
              cases lim with
              | none => simp only at c5 ⊢; simp at hsz2 ⊢; omega
              | some c => simp only at c5 ⊢; simp; omega
          · rw [if_neg e0]
            refine ⟨_, _, rfl, by omega, fun _ => ?_, by omega, ?_⟩
            · rw [c3 (by omega)]
              show Addr.add _ _ = _
              rw [add_plain, b5]
            · cases m with
              | some m => simp only; simp
              | none =>
                cases lim with
                | none => simp only at c5 ⊢; simp at hsz2 ⊢; omega
                | some c => simp only at c5 ⊢; simp; omega
        · cases hv
      · cases hv
    · cases hv
  · cases hv
end Go.Lg
