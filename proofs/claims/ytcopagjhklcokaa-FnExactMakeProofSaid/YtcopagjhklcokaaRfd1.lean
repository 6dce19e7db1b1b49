/- GpEG, LgZ3, GpCE, GpGA, GpGD, GpMK, cut to what is needed. -/
import Derived.Test.YtcopagjhklcokaaRfc4
import Derived.Test.YtcopagjhklcokaaRfc0
import Derived.Test.YtcopagjhklcokaaRfb3
import Derived.Test.YtcopagjhklcokaaRfb6
import Derived.Test.YtcopagjhklcokaaRfb4
import Derived.Test.YtcopagjhklcokaaRfd0
import Derived.Test.YtcopagjhklcokaaRfc3
open Nat(reduceAdd reduceMul reduceSub reduceEqDiff reduceLeDiff)
set_option linter.unusedSimpArgs false
set_option linter.unusedVariables false
set_option maxRecDepth 100000
namespace Go.Lg
open Go.Proofs
attribute [-go_sem] appendM lwF_cons
theorem setV {xs : List Int} {i : Nat} (h : i < xs.length) (w v : Int) : setRange (cl (eI .i64) (xs.set i w)) (0 + (i : Int).toNat * 1) [.f (.int .i64 v)] = cl (eI .i64) (xs.set i v) := by
  have := setRange_cl (E := eI .i64) (n := 1) (xs := xs.set i w) (i := i) (v := v) (by rw [List.length_set]; exact h)
  rw [List.set_set] at this
  exact this
structure Cap where
  gp : Nat
  gpg : Nat
  tb : Nat
  tbg : Nat
  ty : Nat
  tyg : Nat
  sz : Nat
  szg : Nat
  pb : Nat
  pbg : Nat
  mid : Nat
  mg : Nat
  pid : Nat
  pg : Nat
  gid : Nat
  gg : Nat
def Cap.ids (c : Cap) : List Nat := [c.gp, c.tb, c.ty, c.sz, c.pb, c.mid]
structure TryH (ft fy : FuncId) (p : Puz) (n most : Nat) (c : Cap) (H : Heap) : Prop where
  g : look H c.gp c.gpg = some ⟨c.gpg, 1, [.own c.gid c.gg 0 (n * n) none]⟩
  t : look H c.tb c.tbg = some ⟨c.tbg, 1, [.fn ft [(c.pid, c.pg), (c.mid, c.mg)]]⟩
  y : look H c.ty c.tyg = some ⟨c.tyg, 1, [.fn fy [(c.gp, c.gpg), (c.tb, c.tbg), (c.ty, c.tyg), (c.sz, c.szg), (c.pb, c.pbg)]]⟩
  z : look H c.sz c.szg = some ⟨c.szg, 1, [.f (.int .i64 n)]⟩
  b : look H c.pb c.pbg = some ⟨c.pbg, 1, cP p⟩
  m : look H c.mid c.mg = some ⟨c.mg, 1, [.f (.int .i64 most)]⟩
theorem TryH.same {ft fy : FuncId} {p : Puz} {n most : Nat} {c : Cap} {H H' : Heap} (h : TryH ft fy p n most c H) (hs : ∀ k ∈ c.ids, H'[k]? = H[k]?) : TryH ft fy p n most c H' := by
  have k : ∀ i g b, i ∈ c.ids → look H i g = b → look H' i g = b := fun i g b hi he => by unfold look at *; rw [hs i hi]; exact he
  exact ⟨k _ _ _ (by simp [Cap.ids]) h.g, k _ _ _ (by simp [Cap.ids]) h.t, k _ _ _ (by simp [Cap.ids]) h.y, k _ _ _ (by simp [Cap.ids]) h.z, k _ _ _ (by simp [Cap.ids]) h.b, k _ _ _ (by simp [Cap.ids]) h.m⟩
theorem TryH.lt {ft fy : FuncId} {p : Puz} {n most : Nat} {c : Cap} {H : Heap} (h : TryH ft fy p n most c H) : ∀ k ∈ c.ids, k < H.length := by
  intro k hk
  have hl : ∀ {i g : Nat} {b : Blk}, look H i g = some b → i < H.length := fun h => (List.getElem?_eq_some_iff.1 (look_some h).1).1
  simp only [Cap.ids, List.mem_cons, List.not_mem_nil, or_false] at hk
  rcases hk with rfl | rfl | rfl | rfl | rfl | rfl
  · exact hl h.g
  · exact hl h.t
  · exact hl h.y
  · exact hl h.z
  · exact hl h.b
  · exact hl h.m
end Go.Lg

set_option linter.unusedSimpArgs false
set_option linter.unusedVariables false
set_option maxRecDepth 100000
namespace Go.Lg
mutual
def nzF : FV → FV
  | .nil => .sl 0 []
  | .sl n cs => .sl n (nzL cs)
  | .int k n => .int k n
  | .bool b => .bool b
  | .str s => .str s
def nzL : List FV → List FV
  | [] => []
  | x :: l => nzF x :: nzL l
end
theorem nzL_map : ∀ l : List FV, nzL l = l.map nzF
  | [] => rfl
  | x :: l => by rw [nzL, nzL_map l]; rfl
theorem nzF_sl (n : Nat) (cs : List FV) : nzF (.sl n cs) = .sl n (cs.map nzF) := by rw [nzF, nzL_map]
theorem nzF_sound {w : World} {I : Nat → Prop} {x : FV} {v : Value} (h : VF w I x v) : VF w I (nzF x) v := by
  induction h with
  | int k n => exact .int k n
  | bool b => exact .bool b
  | str s => exact .str s
  | nil => exact .sl0 none 0
  | sl0 a cap => rw [nzF_sl]; exact .sl0 a cap
  | sl n cs b o cap u hc hI hu hv ih =>
    rw [nzF_sl]
    refine .sl n _ b o cap u hc hI (fun j hj => hu j (by simpa using hj)) fun j hj => ?_
    rw [List.getElem_map]
    exact ih j (by simpa using hj)
def frzS (S : Nat → Bool) (H : Heap) : Nat → CV → Option FV
  | _, .f x => some (nzF x)
  | _, .emp => some (.sl 0 [])
  | n + 1, .own id g off k _ => if S id then match look H id g with
    | some b => (((b.cs.drop off).take (k * b.sz)).mapM (frzS S H n)).map (.sl k)
    | none => none else none
  | _, _ => none
def Cx.iceS (X : Cx) (S : Nat → Bool) (H : Heap) : Cx := { X with I := fun b => X.I b ∨ ∃ (id : Nat) (blk : Blk), S id = true ∧ H[id]? = some (some blk) ∧ X.mu blk.g = b }
def IceC (S : Nat → Bool) (H : Heap) (c c' : CV) : Prop := c' = c ∨ ∃ y, frzS S H 6 c = some y ∧ c' = .f y
def IceH (S : Nat → Bool) (H H' : Heap) : Prop := ∀ (id : Nat) (b' : Blk), H'[id]? = some (some b') → S id = false ∧ ∃ b, H[id]? = some (some b) ∧ b'.g = b.g ∧ b'.sz = b.sz ∧ b'.cs.length = b.cs.length ∧ ∀ j (h : j < b.cs.length), ∃ c', b'.cs[j]? = some c' ∧ IceC S H b.cs[j] c'
inductive Ice1 (S : Nat → Bool) (H : Heap) : AV → AV → Prop where
  | c (x y : CV) (h : IceC S H x y) : Ice1 S H (.c x) (.c y)
  | agg (xs ys : List CV) (hl : ys.length = xs.length) (h : ∀ j (h : j < xs.length), ∃ y, ys[j]? = some y ∧ IceC S H xs[j] y) : Ice1 S H (.agg xs) (.agg ys)
  | s (x : AV) : Ice1 S H x x
inductive IceA (S : Nat → Bool) (H : Heap) : AV → AV → Prop where
  | o (x y : AV) (h : Ice1 S H x y) : IceA S H x y
  | tup (xs ys : List AV) (hl : ys.length = xs.length) (h : ∀ j (h : j < xs.length), ∃ y, ys[j]? = some y ∧ Ice1 S H xs[j] y) : IceA S H (.tup xs) (.tup ys)
section
variable {w : World} {X : Cx} {S : Nat → Bool} {H H' : Heap}
theorem iceS_ev (hh : IceH S H H') : Ev w X H w (X.iceS S H) H' :=
  ⟨fun b hb => ⟨.inl hb, rfl⟩, Nat.le_refl _, fun _ _ => ⟨rfl, rfl⟩, Nat.le_refl _, rfl, rfl, rfl,
   fun id g b' _ h => by
     obtain ⟨h1, h2⟩ := look_some h
     obtain ⟨_, b, k1, k2, k3, k4, _⟩ := hh id b' h1
     have hg : b.g = g := by rw [← k2]; exact h2
     refine ⟨b, ?_, k4.symm, k3.symm⟩
     subst hg
     exact look_of k1,
   fun _ _ _ => rfl,
   fun b ⟨id, blk, h1, h2⟩ => by
     obtain ⟨_, b0, k1, k2, _⟩ := hh id blk h1
     exact .inl ⟨id, b0, k1, by rw [← k2]; exact h2⟩,
   fun b hb => hb.elim .inl fun ⟨id, blk, _, h1, h2⟩ => .inr (.inl ⟨id, blk, h1, h2⟩)⟩
theorem frzS_sound (R : HRel w X H) : ∀ (n : Nat) (x : CV) (y : FV) (v : Value), frzS S H n x = some y → VC w X H x v → VF w (X.iceS S H).I y v := by
  intro n
  induction n with
  | zero =>
    intro x y v h hv
    cases x with
    | f x => simp only [frzS, Option.some.injEq] at h; subst h; exact nzF_sound (VF.wide (fun b hb => .inl hb) hv)
    | emp => simp only [frzS, Option.some.injEq] at h; subst h; obtain ⟨a, rfl⟩ := hv; exact .sl0 _ _
    | _ => simp [frzS] at h
  | succ n ih =>
    intro x y v h hv
    cases x with
    | f x => simp only [frzS, Option.some.injEq] at h; subst h; exact nzF_sound (VF.wide (fun b hb => .inl hb) hv)
    | emp => simp only [frzS, Option.some.injEq] at h; subst h; obtain ⟨a, rfl⟩ := hv; exact .sl0 _ _
    | own id g off k lim =>
      simp only [frzS] at h
      split at h
      rotate_left
      · cases h
      rename_i hS
      split at h
      · rename_i b hl
        cases hf : ((b.cs.drop off).take (k * b.sz)).mapM (frzS S H n) with
        | none => simp [hf] at h
        | some xs =>
          simp [hf] at h
          subst h
          obtain ⟨hl1, hl2⟩ := mapM_get hf
          obtain ⟨hgt, _, hall⟩ := hv
          obtain ⟨c1, a0, cap, rfl, c2, c3, c4, c5⟩ := hall b hl
          obtain ⟨hid, hgg⟩ := look_some hl
          subst hgg
          obtain ⟨_, _, cc, t, g3, g4, g5, g6⟩ := R.blk id b hid
          have hlen : xs.length = k * b.sz := by rw [hl1]; simp; omega
          have hI : (X.iceS S H).I (X.mu b.g) := .inr ⟨id, b, hS, hid, rfl⟩
          by_cases h0 : k * b.sz = 0
          · have hx0 : xs = [] := List.eq_nil_of_length_eq_zero (by omega)
            subst hx0
            by_cases hn : k = 0
            · subst hn; exact VF.sl0 _ _
            · by_cases hcap : cap = 0
              · omega
              · have := c3 hcap
                subst this
                exact VF.sl k [] (X.mu b.g) off cap (fun _ => undef) c2 hI (fun j hj => absurd hj (by simp)) (fun j hj => absurd hj (by simp))
          · have hn : k ≠ 0 := fun h => h0 (by rw [h]; simp)
            have := c3 (by omega)
            subst this
            have hget : ∀ j, j < xs.length → ∃ u, cc[off + j]? = some u ∧ ∀ h : j < xs.length, VF w (X.iceS S H).I xs[j] u := fun j hj => by
              obtain ⟨u, h7, h8⟩ := g6 (off + j) (by omega)
              refine ⟨u, h7, fun hj => ?_⟩
              obtain ⟨y, e1, e2⟩ := hl2 j (by rw [← hl1]; exact hj)
              have e3 : xs[j] = y := by simpa [List.getElem?_eq_getElem hj] using e1
              rw [e3]
              refine ih _ _ _ e2 ?_
              simp only [List.getElem_take, List.getElem_drop]
              exact h8
            refine VF.sl k xs (X.mu b.g) off cap (fun j => cc.getD (off + j) undef) c2 hI (fun j hj => ?_) (fun j hj => ?_)
            · obtain ⟨u, h7, h8⟩ := hget j hj
              simp [World.cell?, g3, Array.getD_eq_getD_getElem?, h7]
            · obtain ⟨u, h7, h8⟩ := hget j hj
              simp only [Array.getD_eq_getD_getElem?, h7, Option.getD_some]
              exact h8 hj
      · cases h
    | _ => simp [frzS] at h
theorem iceC_sound (R : HRel w X H) (hh : IceH S H H') {x y : CV} {v : Value} (h : IceC S H x y) (hv : VC w X H x v) : VC w (X.iceS S H) H' y v := by
  rcases h with rfl | ⟨z, h1, rfl⟩
  · exact hv.mono (iceS_ev hh)
  · exact frzS_sound R 6 x z v h1 hv
theorem iceS_rel (R : HRel w X H) (hh : IceH S H H') : HRel w (X.iceS S H) H' :=
  ⟨fun b hb => hb.elim (R.imm b) fun ⟨id, blk, _, h1, h2⟩ => by
    obtain ⟨_, _, cc, t, h3, _⟩ := R.blk id blk h1
    rw [← h2]
    exact (Array.getElem?_eq_some_iff.1 h3).1,
   fun id b' hb => by
    obtain ⟨k0, b, k1, k2, k3, k4, k5⟩ := hh id b' hb
    obtain ⟨h1, h2, cc, t, h3, h4, h5, h6⟩ := R.blk id b k1
    rw [k2]
    refine ⟨h1, fun hI => hI.elim h2 fun ⟨id2, b2, e1, e2, e3⟩ => ?_, cc, t, h3, h4, by rw [k4]; exact h5, fun j hj => ?_⟩
    · have := R.inj id2 id b2 b e2 k1 e3
      rw [this, k0] at e1
      cases e1
    · rw [k4] at hj
      obtain ⟨u, u1, u2⟩ := h6 j hj
      obtain ⟨c', e1, e2⟩ := k5 j hj
      refine ⟨u, u1, ?_⟩
      have e3 : b'.cs[j] = c' := by
        have := List.getElem?_eq_some_iff.1 e1
        exact this.2
      rw [e3]
      exact iceC_sound R hh e2 u2,
   fun id id' b b' h1 h2 he => by
    obtain ⟨_, a, k1, k2, _⟩ := hh id b h1
    obtain ⟨_, a', k1', k2', _⟩ := hh id' b' h2
    exact R.inj id id' a a' k1 k1' (by rw [← k2, ← k2']; exact he)⟩
theorem ice1_sound (R : HRel w X H) (hh : IceH S H H') {x y : AV} {v : Value} (h : Ice1 S H x y) (hv : VA w X H x v) : VA w (X.iceS S H) H' y v := by
  cases h with
  | c x y h => exact .c _ _ (iceC_sound R hh h (va_c hv))
  | agg xs ys hl h =>
    cases hv with
    | agg cs vs hsz hc =>
      refine .agg _ _ (by omega) fun j hj => ?_
      obtain ⟨y, h3, h4⟩ := h j (by omega)
      obtain ⟨u, h5, h6⟩ := hc j (by omega)
      have : ys[j] = y := by simpa [List.getElem?_eq_getElem hj] using h3
      rw [this]
      exact ⟨u, h5, iceC_sound R hh h4 h6⟩
  | s x => exact hv.mono (iceS_ev hh)
theorem iceA_sound (R : HRel w X H) (hh : IceH S H H') {x y : AV} {v : Value} (h : IceA S H x y) (hv : VA w X H x v) : VA w (X.iceS S H) H' y v := by
  cases h with
  | o x y h => exact ice1_sound R hh h hv
  | tup xs ys hl h =>
    cases hv with
    | tup vs us hus =>
      rw [← hl]
      refine .tup ys us fun j hj => ?_
      obtain ⟨y, h3, h4⟩ := h j (by omega)
      have : ys[j] = y := by simpa [List.getElem?_eq_getElem hj] using h3
      rw [this]
      exact ice1_sound R hh h4 (hus j (by omega))
end
theorem RunCall.iceS {P : Program} {f : FuncId} {args : List AV} {H : Heap} {Q Q' : KV} (h : RunCall P f args H Q') (hq : ∀ v H', Q' v H' → ∃ S H'' v', IceH S H' H'' ∧ IceA S H' v v' ∧ Q v' H'') : RunCall P f args H Q :=
  fun w X vs hH hvs => (h w X vs hH hvs).mono fun _ w' ⟨v, u, X', H', h1, h2, h3, h4, h5⟩ => by
    obtain ⟨S, H'', v', k1, k2, k3⟩ := hq v H' h5
    exact ⟨v', u, X'.iceS S H', H'', h1, iceA_sound h3 k1 k2 h2, iceS_rel h3 k1, h4.trans (iceS_ev k1), k3⟩
theorem iceH_same {S : Nat → Bool} {H H' : Heap} (h : ∀ (id : Nat) (b : Blk), H'[id]? = some (some b) → S id = false ∧ H[id]? = some (some b)) : IceH S H H' := fun id b hb =>
  ⟨(h id b hb).1, b, (h id b hb).2, rfl, rfl, rfl, fun j hj => ⟨b.cs[j], by rw [List.getElem?_eq_getElem hj], .inl rfl⟩⟩
theorem iceC_f {S : Nat → Bool} {H : Heap} {c : CV} {y : FV} (h : frzS S H 6 c = some y) : IceC S H c (.f y) := .inr ⟨y, h, rfl⟩
def Fz (S : Nat → Bool) (H : Heap) (n : Nat) (c : CV) (x : FV) : Prop := ∀ H' : Heap, (∀ i, S i = true → i < H.length → H'[i]? = H[i]?) → ∀ m, n ≤ m → frzS S H' m c = some x
theorem Fz.frz {S : Nat → Bool} {H : Heap} {n : Nat} {c : CV} {x : FV} (h : Fz S H n c x) {m : Nat} (hm : n ≤ m) : frzS S H m c = some x := h H (fun _ _ _ => rfl) m hm
theorem Fz.f {S : Nat → Bool} {H : Heap} {x : FV} (n : Nat) : Fz S H n (.f x) (nzF x) := fun H' _ m _ => by cases m <;> rfl
theorem Fz.emp {S : Nat → Bool} {H : Heap} (n : Nat) : Fz S H n .emp (.sl 0 []) := fun H' _ m _ => by cases m <;> rfl
theorem Fz.mono {S : Nat → Bool} {H H1 : Heap} {n : Nat} {c : CV} {x : FV} (h : Fz S H n c x) (hs : ∀ i, S i = true → i < H.length → H1[i]? = H[i]?) (hl : H.length ≤ H1.length) : Fz S H1 n c x :=
  fun H' k m hm => h H' (fun i hi hil => (k i hi (Nat.lt_of_lt_of_le hil hl)).trans (hs i hi hil)) m hm
theorem Fz.own {S : Nat → Bool} {H : Heap} {n : Nat} {id g k : Nat} {b : Blk} {xs : List FV} {lim : Option Nat} (hS : S id = true) (hl : look H id g = some b) (hlen : xs.length = k * b.sz) (hle : k * b.sz ≤ b.cs.length)
    (hc : ∀ j (h : j < xs.length), ∃ c, b.cs[j]? = some c ∧ Fz S H n c xs[j]) : Fz S H (n + 1) (.own id g 0 k lim) (.sl k xs) := fun H' hh m hm => by
  obtain ⟨m, rfl⟩ : ∃ m', m = m' + 1 := ⟨m - 1, by omega⟩
  have hlt : id < H.length := (List.getElem?_eq_some_iff.1 (look_some hl).1).1
  have hl' : look H' id g = some b := by unfold look at *; rw [hh id hS hlt]; exact hl
  simp only [frzS, hS, if_true, hl', List.drop_zero]
  have : ∀ (cs : List CV) (ys : List FV), cs.length = ys.length → (∀ j (h : j < ys.length), ∃ c, cs[j]? = some c ∧ frzS S H' m c = some ys[j]) → cs.mapM (frzS S H' m) = some ys := by
    intro cs
    induction cs with
    | nil => intro ys h _; have : ys = [] := List.eq_nil_of_length_eq_zero h.symm; subst this; rfl
    | cons c cs ih =>
      intro ys h hall
      cases ys with
      | nil => simp at h
      | cons y ys =>
        obtain ⟨c0, h0, h1⟩ := hall 0 (by simp)
        have : c = c0 := by simpa using h0
        subst this
        rw [List.mapM_cons, h1, ih ys (by simpa using h) fun j hj => by
          obtain ⟨c', q1, q2⟩ := hall (j + 1) (by simpa using hj)
          exact ⟨c', by simpa using q1, by simpa using q2⟩]
        rfl
  rw [this _ xs (by rw [List.length_take]; omega) fun j hj => ?_]
  · rfl
  · obtain ⟨c, h1, h2⟩ := hc j hj
    exact ⟨c, by rw [List.getElem?_take_of_lt (by omega)]; exact h1, h2 H' hh m (by omega)⟩
def headN : Nat → Code → Code
  | n + 1, .seq x y => .seq x (headN n y)
  | _, _ => .skip
def tailN : Nat → Code → Code
  | n + 1, .seq _ y => tailN n y
  | _, c => c
theorem headN_zero (c : Code) : headN 0 c = .skip := by cases c <;> rfl
theorem headN_seq (n : Nat) (x y : Code) : headN (n + 1) (.seq x y) = .seq x (headN n y) := rfl
theorem tailN_zero (c : Code) : tailN 0 c = c := by cases c <;> rfl
theorem tailN_seq (n : Nat) (x y : Code) : tailN (n + 1) (.seq x y) = tailN n y := rfl
def midK (R : KS) (K : KT) : KT := fun e s H => match e with
  | .normal => R s H
  | e => K e s H
theorem midK_normal (R : KS) (K : KT) (s : List AV) (H : Heap) : midK R K .normal s H = R s H := propext Iff.rfl
theorem midK_ret (R : KS) (K : KT) (s : List AV) (H : Heap) : midK R K .ret s H = K .ret s H := propext Iff.rfl
theorem midK_exit (R : KS) (K : KT) (i : Nat) (s : List AV) (H : Heap) : midK R K (.exit i) s H = K (.exit i) s H := propext Iff.rfl
theorem RunC.split {P : Program} {R : KS} {K : KT} : ∀ (n : Nat) (c : Code) (s : List AV) (H : Heap), cw P (headN n c) s H (midK R K) → (∀ s H, R s H → RunC P (tailN n c) ⟨s, H⟩ (stK K)) → RunC P c ⟨s, H⟩ (stK K)
  | 0, c, s, H, h, k => by
    rw [headN_zero] at h
    rw [← tailN_zero c]
    exact k s H h
  | n + 1, c, s, H, h, k => by
    cases c with
    | seq x y =>
      refine RunC.seq ((cw_sound x s H _ h).mono fun e st hq => ?_)
      cases e with
      | normal => exact RunC.split n y st.s st.h hq k
      | _ => exact hq
    | _ => exact k s H h
attribute [go_sem] headN_zero headN_seq tailN_zero tailN_seq midK_normal midK_ret midK_exit
theorem OpS.clear {P : Program} {o : Oper} {st : St} {K : AV → Heap → Prop} {t e : TypeId} {ti ei : TI} {x : Operand} {id g off n : Nat} {lim : Option Nat} {b : Blk}
    (ho : o.op = .call ⟨.builtin .clear, #[x], #[t]⟩) (ht : tinf P t = some ti) (hk : ti.k = .slice e) (he : tinf P e = some ei) (hz : ei.zero.length = ei.size)
    (hs : evO st.s x = .c (.own id g off n lim)) (hl : look st.h id g = some b) (hbs : b.sz = ei.size) (hn0 : 0 < n) (hfit : off + n * ei.size ≤ b.cs.length)
    (hK : K (.tup []) (st.h.set id (some ⟨b.g, b.sz, setRange b.cs off (zerosL (n * ei.size) ei.zero)⟩))) : OpS P o st K := by
  intro w X a R next Q hn
  obtain ⟨inf, d, z', i1, i2, i3, i4, i5, i6, i7⟩ := tinf_some ht
  rw [i5] at hk; cases tk_slice hk
  obtain ⟨z, hz1, hz2, hz3⟩ := zero_sound he
  have hsv := evO_sound R x
  rw [hs] at hsv
  obtain ⟨hgt, _, hall⟩ := va_c hsv
  obtain ⟨c1, a0, cap, hse, c2, c3, c4, c5⟩ := hall b hl
  have ha0 := c3 (by omega)
  subst ha0
  have hz0 : n * ei.size ≠ 0 → ei.zero.length ≠ 0 := fun h => by rw [hz]; intro h0; rw [h0] at h; exact h (Nat.mul_zero _)
  obtain ⟨q1, q2⟩ := zerosL_sound (w := w) (X := X) (H := st.h) hz2 (hz3 w X st.h) (n * ei.size) hz0
  have hone : ∀ y ∈ z.cells.toList, y.oneCell' = true := fun y hy => by
    obtain ⟨j, hj, rfl⟩ := List.mem_iff_getElem.1 hy
    obtain ⟨u, h1, h2⟩ := hz3 w X st.h j (by rw [← hz2]; simpa using hj)
    have : z.cells.toList[j] = u := by
      have := Array.getElem?_eq_some_iff.1 h1
      simpa using this.2
    rw [this]
    exact h2.one
  have hvs : (Builtin.zeroCells z.cells n).toList = ((Array.range (n * ei.size)).map (z.cells[· % z.cells.size]!)).toList := by
    unfold Builtin.zeroCells
    rw [show n * z.cells.size = n * ei.size by rw [hz2, hz]]
  have hlen : ((Array.range (n * ei.size)).map (z.cells[· % z.cells.size]!)).toList.length = (zerosL (n * ei.size) ei.zero).length := by simpa using q1
  have hzl : (zerosL (n * ei.size) ei.zero).length = n * ei.size := by simp [zerosL]
  obtain ⟨w', h4, h5, h6⟩ := put_cells R.heap hl (o := off) (cs := zerosL (n * ei.size) ei.zero) (vs := ((Array.range (n * ei.size)).map (z.cells[· % z.cells.size]!)).toList) hlen (by omega)
    (fun j hj => by obtain ⟨u, u1, u2⟩ := q2 j hj; exact ⟨u, by rw [Array.getElem?_toList]; exact u1, u2⟩) (fun y hy => by
      obtain ⟨j, hj, rfl⟩ := List.mem_iff_getElem.1 hy
      have hj' : j < (zerosL (n * ei.size) ei.zero).length := by rw [← hlen]; exact hj
      obtain ⟨u, u1, u2⟩ := q2 j hj'
      have : ((Array.range (n * ei.size)).map (z.cells[· % z.cells.size]!)).toList[j] = u := by
        have := Array.getElem?_eq_some_iff.1 u1
        simpa using this.2
      rw [this]
      exact u2.one)
  have hrun : (execOp a.eval o).run P w = .ok (.value (.tuple #[])) w' := by
    have hm : ∀ k : Nat, n = k + 1 → (Builtin.clear_ #[t] o.type #[.slice (some ⟨X.mu g, off, none⟩) n cap]).run P w = .ok (.tuple #[]) w' := fun k hk => by
      subst hk
      have h4' := h4 P
      simp only [Array.toList_map, Array.toList_range] at h4'
      simp [Builtin.clear_, run_underlying i2, hz1, hvs, h4']
    simp only [execOp, ho, resolve, Sem.run_bind, Sem.run_pure, Result.andThen_ok, invoke, builtin, List.map_toArray, List.map_cons, List.map_nil, hse]
    rw [hm (n - 1) (by omega)]
    rfl
  have hv : VA w' X (st.h.set id (some ⟨b.g, b.sz, setRange b.cs off (zerosL (n * ei.size) ei.zero)⟩)) (.tup []) (.tuple #[]) := .tup [] (fun _ => undef) fun j hj => absurd hj (Nat.not_lt_zero _)
  exact wp_value hrun (hn _ _ _ _ _ hv h5 h6 hK)
end Go.Lg

set_option linter.unusedSimpArgs false
set_option linter.unusedVariables false
set_option maxRecDepth 100000
namespace Go.Lg
open Go.Proofs
section
variable {P : Program} {o : Oper} {st : St} {K : KV} {fo : Operand} {xs : Array Operand} {ts : Array TypeId} {f : FuncId} {args args' : List AV} {zs : List Int}
theorem OpS.mkF {Q : AV → Prop} (hc : RunCall P f args [] fun v _ => Q v) (he : Enters P f) (ho : o.op = .call ⟨.value fo, xs, ts⟩) (ha : callArgs st fo xs = some (f, args)) (hf : args.all frozenA = true)
    (hk : ∀ v, Q v → tupOk v = true ∧ shiftA st.h.length v = v ∧ K v st.h) : OpS P o st K := by
  obtain ⟨h1, h2⟩ := target_of ha
  refine OpS.call ho h1 he ?_
  rw [h2]
  refine (RunCall.frame hf hc fun r H' h => (hk r h).1).weaker ?_
  rintro r H2 ⟨r', H', h3, rfl, rfl⟩
  exact ⟨st.h, HLe.app _ _, by rw [(hk _ h3).2.1]; exact (hk _ h3).2.2⟩
end
def GrdAt (H HI : Heap) (id g : Nat) (B : Int) (cid cg n2 : Nat) : Prop := (∃ zs : List Int, look HI cid cg = some ⟨cg, 1, cl (eI .i64) zs⟩ ∧ n2 ≤ zs.length) ∧ RdAt HI id g B ∧ id < H.length ∧ H.length ≤ cid ∧ H.length ≤ HI.length ∧ ∀ k, k < H.length → k ≠ id → HI[k]? = H[k]?
theorem GrdAt.mono {H HI : Heap} {id g cid cg n2 : Nat} {B B' : Int} (h : GrdAt H HI id g B cid cg n2) (hb : B ≤ B') : GrdAt H HI id g B' cid cg n2 := by
  obtain ⟨h1, h2, h3⟩ := h
  exact ⟨h1, h2.mono hb, h3⟩
theorem GrdAt.pick {H HI H2 : Heap} {id g cid cg n2 : Nat} {B B' : Int} (h : GrdAt H HI id g B cid cg n2) (hr : RdAt H2 id g B') (hf : Frm HI H2 [id]) : GrdAt H H2 id g B' cid cg n2 := by
  obtain ⟨⟨zs, h1, h2⟩, _, h3, h4, h5, h6⟩ := h
  refine ⟨⟨zs, by rw [hf.look (by simp; omega)]; exact h1, h2⟩, hr, h3, h4, by rw [hf.1]; exact h5, fun k hk hne => ?_⟩
  rw [hf.2 k (by simp; exact hne), h6 k hk hne]
theorem GrdAt.store {H HI : Heap} {id g cid cg n2 : Nat} {B : Int} (h : GrdAt H HI id g B cid cg n2) {zs : List Int} (hz : n2 ≤ zs.length) : GrdAt H (HI.set cid (some ⟨cg, 1, cl (eI .i64) zs⟩)) id g B cid cg n2 := by
  obtain ⟨⟨_, h1, _⟩, h2, h3, h4, h5, h6⟩ := h
  have hlt : cid < HI.length := (List.getElem?_eq_some_iff.1 (look_some h1).1).1
  refine ⟨⟨zs, look_set_eq' hlt, hz⟩, h2.same (by rw [List.getElem?_set_ne (by omega)]), h3, h4, by simpa using h5, fun k hk hne => ?_⟩
  rw [List.getElem?_set_ne (by omega), h6 k hk hne]
theorem GrdAt.app {H HI X : Heap} {id g cid cg n2 : Nat} {B : Int} (h : GrdAt H HI id g B cid cg n2) : GrdAt H (HI ++ X) id g B cid cg n2 := by
  obtain ⟨⟨zs, h1, h2⟩, h3, h4, h5, h6, h7⟩ := h
  refine ⟨⟨zs, look_appL h1, h2⟩, h3.app, h4, h5, by rw [List.length_append]; omega, fun k hk hne => ?_⟩
  rw [List.getElem?_append_left (by omega), h7 k hk hne]
end Go.Lg

set_option linter.unusedSimpArgs false
set_option linter.unusedVariables false
set_option maxRecDepth 100000
namespace Go.Lg
open Go.Proofs
attribute [-go_sem] appendM
inductive OwnL {α : Type} (E : α → List FV) (n : Nat) (H : Heap) : CV → List α → Prop where
  | n : OwnL E n H (.f .nil) []
  | m : OwnL E n H .emp []
  | o (id g : Nat) (xs : List α) (h : look H id g = some ⟨g, n, cl E xs⟩) : OwnL E n H (.own id g 0 xs.length none) xs
def idsC : CV → Nat → Prop
  | .own id _ _ _ _, k => k = id
  | _, _ => False
section
variable {α : Type} {E : α → List FV} {n : Nat} {H H' : Heap} {c : CV} {xs ys : List α}
theorem OwnL.same (h : OwnL E n H c xs) (hs : ∀ i, idsC c i → i < H.length → H'[i]? = H[i]?) : OwnL E n H' c xs := by
  cases h with
  | n => exact .n
  | m => exact .m
  | o id g xs h => exact .o id g xs (by unfold look at *; rw [hs id rfl (List.getElem?_eq_some_iff.1 (look_some h).1).1]; exact h)
theorem OwnL.lt (h : OwnL E n H c xs) : ∀ i, idsC c i → i < H.length := by
  cases h with
  | n => exact fun i hi => hi.elim
  | m => exact fun i hi => hi.elim
  | o id g xs h => intro i hi; cases hi; exact (List.getElem?_eq_some_iff.1 (look_some h).1).1
theorem OwnL.app (h : OwnL E n H c xs) : OwnL E n (H ++ H') c xs := h.same fun i _ hl => List.getElem?_append_left hl
theorem OwnL.snap [HSz E n] (h : OwnL E n H c xs) : snapD H (.c c) = some (rsl E xs) := by
  cases h with
  | n => rfl
  | m => rfl
  | o id g xs h =>
    have e : (cl E xs).take (xs.length * n) = cl E xs := List.take_of_length_le (Nat.le_of_eq (cl_length xs))
    simp only [snapD, Lg.frzC, Lg.frz, h, List.drop_zero, e, frz_cl, Option.map_some]
theorem OwnL.frzC [HSz E n] (h : OwnL E n H c xs) : frzC H c = some (.f (fsl E xs)) := by
  have := h.snap
  simp only [snapD, Option.map_eq_some_iff] at this
  obtain ⟨y, h1, h2⟩ := this
  cases h2
  exact h1
theorem OwnL.len (P : Program) (h : OwnL E n H c xs) {s : List AV} {t : TypeId} {ei : TI} (ht : sliceOf P t = some ei) (hs : ei.size = n) : True := trivial
end
theorem nzF_ints {k : IntKind} (xs : List Int) : (fl (eI k) xs).map nzF = fl (eI k) xs := by
  induction xs with
  | nil => rfl
  | cons x xs ih => 
    show nzF _ :: (fl (eI k) xs).map nzF = _
    rw [ih]; rfl
theorem nzF_rules (rs : List Rul) : (fl eR rs).map nzF = fl eR rs := by
  induction rs with
  | nil => rfl
  | cons x xs ih =>
    show [nzF _, nzF _, nzF _] ++ (fl eR xs).map nzF = _
    rw [ih, fints, nzF_sl, nzF_ints]; rfl
theorem frzS_cells {S : Nat → Bool} {H : Heap} {n : Nat} : ∀ (l : List FV), (l.map CV.f).mapM (frzS S H n) = some (l.map nzF)
  | [] => rfl
  | x :: l => by
    rw [List.map_cons, List.mapM_cons, frzS_cells l]
    cases n <;> rfl
theorem OwnL.frzS {S : Nat → Bool} {H : Heap} {c : CV} {rs : List Rul} (h : OwnL eR 3 H c rs) (hs : ∀ i, idsC c i → S i = true) (m : Nat) : frzS S H (m + 1) c = some (fsl eR rs) := by
  cases h with
  | n => rfl
  | m => rfl
  | o id g xs h =>
    have e : (cl eR rs).take (rs.length * 3) = cl eR rs := List.take_of_length_le (Nat.le_of_eq (cl_length rs))
    simp only [Lg.frzS, hs id rfl, if_true, h, List.drop_zero, e]
    rw [show cl eR rs = (fl eR rs).map CV.f from rfl, frzS_cells, nzF_rules]
    rfl
theorem elems_f {α : Type} {E : α → List FV} {n : Nat} [HSz E n] {H : Heap} {ys : List α} : elems H n (.c (.f (fsl E ys))) = some (ys.length, cl E ys) := by
  have : (fl E ys).length = ys.length * n := fl_length ys
  simp only [elems]
  first | rfl | simp [this, cl]
end Go.Lg

set_option linter.unusedSimpArgs false
set_option linter.unusedVariables false
set_option maxRecDepth 100000
namespace Go.Lg
open Go.Proofs
def solvedV (p : Puz) (xs : List Int) : Bool := (puzzleValid p && (gridValid xs p.size && fitsL p xs p.size.toNat)) && decide (gridFilled xs p.size = xs.length)
attribute [-go_sem] appendM lwF_cons
theorem look_off (H L : Heap) (n g : Nat) : look (H ++ L) (H.length + n) g = look L n g := by
  unfold look
  rw [List.getElem?_append_right (by omega), Nat.add_sub_cancel_left]
theorem look_off0 (H L : Heap) (g : Nat) : look (H ++ L) H.length g = look L 0 g := look_off H L 0 g
theorem set_off (H L : Heap) (n : Nat) (x : Option Blk) : (H ++ L).set (H.length + n) x = H ++ L.set n x := by
  rw [List.set_append_right _ _ (by omega), Nat.add_sub_cancel_left]
theorem set_off0 (H L : Heap) (x : Option Blk) : (H ++ L).set H.length x = H ++ L.set 0 x := set_off H L 0 x
theorem appendM_own {α : Type} {E : α → List FV} {n : Nat} [HSz E n] {P : Program} {H : Heap} {t : TypeId} {ei : TI} {K : KV} (ht : sliceOf P t = some ei) (hz : ei.zero.length = ei.size ∧ ei.size = n ∧ 0 < n ∧ ei.bytes ≤ 64) {id g k : Nat} {xs ys : List α} (hxk : xs.length = k) (hl : look H id g = some ⟨g, n, cl E xs⟩) (hx : xs.length ≤ 2 ^ 40 ∧ ys.length ≤ 2 ^ 40)
    {src : AV} (hel : elems H n src = some (ys.length, cl E ys)) (hk : ∀ g', K (.c (.own id g' 0 (k + ys.length) none)) (H.set id (some ⟨g', n, cl E (xs ++ ys)⟩))) : appendM P H t (.c (.own id g 0 k none)) src K := by
  subst hxk
  obtain ⟨hz1, rfl, hz3, hz4⟩ := hz
  have hcl : (cl E xs).length = xs.length * ei.size := cl_length xs
  have hel2 : elems H ei.size (.c (.own id g 0 xs.length none)) = some (xs.length, cl E xs) := by
    simp only [elems, hl, List.drop_zero, if_true, List.take_of_length_le (Nat.le_of_eq hcl)]
  have hb : (xs.length + ys.length) * ei.bytes ≤ 140737488355328 := by
    have : (xs.length + ys.length) * ei.bytes ≤ (xs.length + ys.length) * 64 := Nat.mul_le_mul_left _ hz4
    omega
  unfold appendM
  simp only [ht, hz1, if_true, hel, hel2]
  simp only [appM, hl, hcl, if_true, okP]
  split
  · rename_i h0
    have : ys = [] := List.eq_nil_of_length_eq_zero h0
    subst this
    have h1 := hk g
    rw [List.append_nil] at h1
    have h2 : H.set id (some ⟨g, ei.size, cl E xs⟩) = H := by
      obtain ⟨q1, _⟩ := look_some hl
      have hlt := (List.getElem?_eq_some_iff.1 q1).1
      refine List.ext_getElem? fun i => ?_
      by_cases hi : i = id
      · subst hi; rw [List.getElem?_set_self hlt, q1]
      · rw [List.getElem?_set_ne (Ne.symm hi)]
    rw [h2] at h1
    exact h1
  refine ⟨⟨trivial, hz3, trivial, by omega, hb⟩, fun g' => ?_⟩
  have := hk g'
  rw [cl_append] at this
  exact this
theorem elems_own {α : Type} {E : α → List FV} {n : Nat} [HSz E n] {H : Heap} {id g : Nat} {lim : Option Nat} {xs : List α} (hl : look H id g = some ⟨g, n, cl E xs⟩) : elems H n (.c (.own id g 0 xs.length lim)) = some (xs.length, cl E xs) := by
  have hcl : (cl E xs).length = xs.length * n := cl_length xs
  simp only [elems, hl, List.drop_zero, if_true, List.take_of_length_le (Nat.le_of_eq hcl)]
theorem resV_ct (P : Program) (s : List AV) (H : Heap) (t u : Nat) (ty : TypeId) : resV P s H [.cell t ty, .tmp u] = (loadV P H ty (s.getD t .void)).map fun v => .tup [v, s.getD u .void] := by
  simp only [resV, resAll, resOne]
  cases loadV P H ty (s.getD t .void) <;> rfl
attribute [go_sem] resV_ct
def PzO (H : Heap) (n0 : Nat) (z : Int) (gc rc : CV) (zs : List Int) (rs : List Rul) : Prop := ∃ gid gg, gc = .own gid gg 0 zs.length none ∧ look H gid gg = some ⟨gg, 1, cl (eI .i64) zs⟩ ∧ n0 ≤ gid ∧ OwnL eR 3 H rc rs ∧ (∀ i, idsC rc i → n0 ≤ i ∧ i ≠ gid)
theorem PzO.snap {H : Heap} {n0 : Nat} {z : Int} {gc rc : CV} {zs : List Int} {rs : List Rul} (h : PzO H n0 z gc rc zs rs) : snapD H (.agg [.f (.int .i64 z), gc, rc]) = some (aP ⟨z, zs, rs⟩) := by
  obtain ⟨gid, gg, rfl, h1, _, h2, _⟩ := h
  have e1 : ∀ x : Int, frzC H (.f (.int .i64 x)) = some (.f (.int .i64 x)) := fun _ => rfl
  have e2 := (OwnI.o (H := H) gid gg none zs [] (by rw [List.append_nil]; exact h1)).frzC
  simp only [snapD, List.mapM_cons, List.mapM_nil, e1, e2, h2.frzC, Option.bind_eq_bind, Option.pure_def, Option.bind_some, Option.map_some]
theorem PzO.same {H H' : Heap} {n0 : Nat} {z : Int} {gc rc : CV} {zs : List Int} {rs : List Rul} (h : PzO H n0 z gc rc zs rs) (hs : ∀ i, n0 ≤ i → (idsC gc i ∨ idsC rc i) → i < H.length → H'[i]? = H[i]?) : PzO H' n0 z gc rc zs rs := by
  obtain ⟨gid, gg, rfl, h1, h2, h3, h4⟩ := h
  exact ⟨gid, gg, rfl, by unfold look at *; rw [hs gid h2 (.inl rfl) (List.getElem?_eq_some_iff.1 (look_some h1).1).1]; exact h1, h2, h3.same fun i hi hl => hs i (h4 i hi).1 (.inr hi) hl, h4⟩
theorem PzO.n0 {H : Heap} {n0 n1 : Nat} {z : Int} {gc rc : CV} {zs : List Int} {rs : List Rul} (h : PzO H n0 z gc rc zs rs) (hn : n1 ≤ n0) : PzO H n1 z gc rc zs rs := by
  obtain ⟨gid, gg, rfl, h1, h2, h3, h4⟩ := h
  exact ⟨gid, gg, rfl, h1, by omega, h3, fun i hi => ⟨by have := (h4 i hi).1; omega, (h4 i hi).2⟩⟩
end Go.Lg

set_option linter.unusedSimpArgs false
set_option linter.unusedVariables false
set_option maxRecDepth 100000
namespace Go.Lg
open Go.Proofs
def fitsV (p : Puz) (xs : List Int) : Bool := puzzleValid p && (gridValid xs p.size && fitsL p xs p.size.toNat)
theorem sum_le_mul : ∀ (l : List Nat) (b : Nat), (∀ x ∈ l, x ≤ b) → l.sum ≤ b * l.length
  | [], b, _ => by simp
  | x :: l, b, h => by
    have h1 := sum_le_mul l b fun y hy => h y (by simp [hy])
    have h2 := h x (by simp)
    simp only [List.sum_cons, List.length_cons, Nat.mul_add, Nat.mul_one]
    omega
theorem MsN.sum {ms : List Nat} {n : Nat} (hn : n = 2 ∨ n = 3 ∨ n = 4) (h : MsN ms n) : ms.sum ≤ 480 := by
  have h1 := sum_le_mul ms 30 fun x hx => by have := (h.val x hx).1; have := pow_n hn; omega
  have h2 : ms.length ≤ 16 := by rw [h.len]; rcases hn with rfl | rfl | rfl <;> omega
  omega
theorem SquareFits_gen (xs : List Int) (n : Int) (hx : xs.length ≤ 2 ^ 40) : Reads Try.prog 122 [ints xs, int n] (bool (gridValid xs n && !clash xs n.toNat)) := by
  cases h : gridValid xs n with
  | true =>
    have hb := gridValid_bound h
    obtain ⟨m, rfl⟩ : ∃ m : Nat, n = m := ⟨n.toNat, by omega⟩
    have hn : m = 2 ∨ m = 3 ∨ m = 4 := by omega
    have := SquareFits_run hn xs (GrdN.of hn h)
    rw [Int.toNat_natCast, Bool.true_and]
    exact this
  | false =>
    refine RunCall.cw (c := _) Try.func122 rfl (n := 47) Try.ntmps122 (rs := [.tmp 4]) rfl ?_
    simp only [List.length_cons, List.length_nil, Nat.reduceAdd, Nat.reduceSub, List.replicate, List.cons_append, List.nil_append]
    simp(maxSteps:=999999)(disch:=omega)only[go_sem,reduceAdd,reduceMul,reduceSub,reduceEqDiff,reduceLeDiff]
    first | refine OpS.rd (GridValid_run xs n (by omega)) (⟨_, Try.func69, rfl, rfl⟩ : Enters Try.prog 69) rfl rfl rfl rfl ?_ | refine Loud.rd (GridValid_run xs n (by omega)) (⟨_, Try.func69, rfl, rfl⟩ : Enters Try.prog 69) rfl rfl rfl rfl ?_
    simp(maxSteps:=999999)(disch:=omega)only[go_sem,reduceAdd,reduceMul,reduceSub,reduceEqDiff,reduceLeDiff]
    ((first | with_reducible refine condK_dec ?_ ?_ | with_reducible refine condK_ndec ?_ ?_ | with_reducible refine condK_nb ?_ ?_ | refine condK_b ?_ ?_) <;> intro c1)
    · exfalso; rw [h] at c1; cases c1
    · simp(maxSteps:=999999)(disch:=omega)only[go_sem,reduceAdd,reduceMul,reduceSub,reduceEqDiff,reduceLeDiff]
      rfl
theorem PuzzleFits_gen (p : Puz) (xs : List Int) (hx : smP p) (hl : xs.length ≤ 2 ^ 40) : Reads Try.prog 82 [aP p, ints xs] (bool (fitsV p xs)) := by
  by_cases h : puzzleValid p = true ∧ gridValid xs p.size = true
  · obtain ⟨hp, hg, ha, _⟩ := grd_facts h.1 h.2
    have := PuzzleFits_run hp h.1 xs hg
    unfold fitsV
    rw [h.1, h.2, Bool.true_and, Bool.true_and]
    exact this
  · have e : fitsV p xs = false := by
      unfold fitsV
      cases h1 : puzzleValid p
      · rfl
      · cases h2 : gridValid xs p.size
        · rfl
        · exact absurd ⟨h1, h2⟩ h
    rw [e]
    refine RunCall.cw (c := _) Try.func82 rfl (n := 60) Try.ntmps82 (rs := [.tmp 4]) rfl ?_
    simp only [List.length_cons, List.length_nil, Nat.reduceAdd, Nat.reduceSub, List.replicate, List.cons_append, List.nil_append]
    simp(maxSteps:=999999)(disch:=omega)only[go_sem,reduceAdd,reduceMul,reduceSub,reduceEqDiff,reduceLeDiff]
    intro g
    first | refine OpS.rd (PuzzleValid_run p hx) (⟨_, Try.func66, rfl, rfl⟩ : Enters Try.prog 66) rfl rfl rfl rfl ?_ | refine Loud.rd (PuzzleValid_run p hx) (⟨_, Try.func66, rfl, rfl⟩ : Enters Try.prog 66) rfl rfl rfl rfl ?_
    simp(maxSteps:=999999)(disch:=omega)only[go_sem,reduceAdd,reduceMul,reduceSub,reduceEqDiff,reduceLeDiff]
    ((first | with_reducible refine guardK_dec ?_ ?_ | with_reducible refine guardK_ndec ?_ ?_ | with_reducible refine guardK_nb ?_ ?_ | with_reducible refine guardK_split ?_ ?_ | with_reducible refine guardQ_dec ?_ ?_ | with_reducible refine guardL_dec ?_ ?_ | with_reducible refine guardQ_ndec ?_ ?_ | with_reducible refine guardL_ndec ?_ ?_ | with_reducible refine guardQ_nb ?_ ?_ | with_reducible refine guardL_nb ?_ ?_ | with_reducible refine guardQ_split ?_ ?_ | with_reducible refine guardL_split ?_ ?_) <;> intro c1 <;> simp(maxSteps:=999999)(disch:=omega)only[go_sem,reduceAdd,reduceMul,reduceSub,reduceEqDiff,reduceLeDiff, c1])
    have c2 : (gridValid xs p.size && !clash xs p.size.toNat) = false := by
      cases h2 : gridValid xs p.size
      · rfl
      · exact absurd ⟨c1, h2⟩ h
    first | refine OpS.rd (SquareFits_gen xs p.size hl) (⟨_, Try.func122, rfl, rfl⟩ : Enters Try.prog 122) rfl rfl rfl rfl ?_ | refine Loud.rd (SquareFits_gen xs p.size hl) (⟨_, Try.func122, rfl, rfl⟩ : Enters Try.prog 122) rfl rfl rfl rfl ?_
    simp(maxSteps:=999999)(disch:=omega)only[go_sem,reduceAdd,reduceMul,reduceSub,reduceEqDiff,reduceLeDiff]
    rw [c2]
    simp(maxSteps:=999999)(disch:=omega)only[go_sem,reduceAdd,reduceMul,reduceSub,reduceEqDiff,reduceLeDiff]
end Go.Lg
