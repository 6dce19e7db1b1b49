/- Lists of operations, code, calls of functions by their bodies. -/
import Derived.Test.YtlpehaekjclgcaaLgK
set_option linter.unusedSimpArgs false
set_option linter.unusedVariables false
namespace Go.Lg

def putS (s : List AV) (d : Option Tmp) (v : AV) : List AV :=
  match d with
  | some d => s.set d v
  | none => s

theorem Rel.put {w w' : World} {X X' : Cx} {a : Act} {st : St} {H' : Heap} (R : Rel w X a st) (E : Ev w X st.h w' X' H') (hH : HRel w' X' H') {d : Option Tmp} {v : AV} {u : Value} (hv : VA w' X' H' v u) :
    Rel w' X' (a.put d u) ⟨putS st.s d v, H'⟩ := by
  cases d with
  | none => exact ⟨R.defs, R.size, fun i hi => let ⟨x, h1, h2⟩ := R.slot i hi; ⟨x, h1, h2.mono E⟩, hH⟩
  | some d =>
    refine ⟨R.defs, by simp [Act.put, putS, R.size], fun i hi => ?_, hH⟩
    simp only [putS, List.length_set] at hi
    obtain ⟨x, h1, h2⟩ := R.slot i hi
    simp only [putS, Act.put]
    by_cases he : d = i
    · subst he
      rw [List.getElem_set_self, Array.getElem?_setIfInBounds_self_of_lt (by rw [R.size]; exact hi)]
      exact ⟨u, rfl, hv⟩
    · rw [List.getElem_set_ne he, Array.getElem?_setIfInBounds_ne he]
      exact ⟨x, h1, h2.mono E⟩

/-- What a guard is known to be. -/
def guardV (ops : Array Oper) (s : List AV) (j : Nat) : Option (Option Bool) :=
  match (ops[j]?).bind (·.dst) with
  | none => some none
  | some d => match s[d]? with
    | none => some none
    | some (.c (.f (.bool b))) => some (some b)
    | some .void => some none
    | _ => none

theorem guardV_sound {w : World} {X : Cx} {a : Act} {st : St} (R : Rel w X a st) {ops : Array Oper} {j : Nat} {r : Option Bool} (h : guardV ops st.s j = some r) : yielded ops a.tmps j = r := by
  unfold guardV at h
  unfold yielded
  split at h
  · rename_i e; cases h; rw [e]; rfl
  · rename_i d e
    rw [e]
    simp only [Option.bind_some]
    split at h
    · rename_i hd
      cases h
      have : st.s.length ≤ d := by
        rcases Nat.lt_or_ge d st.s.length with h | h
        · simp [h] at hd
        · exact h
      rw [Array.getElem?_eq_none (by rw [R.size]; exact this)]
    · rename_i b hd
      cases h
      obtain ⟨hlt, he⟩ := List.getElem?_eq_some_iff.1 hd
      obtain ⟨u, h1, h2⟩ := R.slot d hlt
      rw [he] at h2
      rw [h1, va_bool h2]
    · rename_i hd
      cases h
      obtain ⟨hlt, he⟩ := List.getElem?_eq_some_iff.1 hd
      obtain ⟨u, h1, h2⟩ := R.slot d hlt
      rw [he] at h2
      rw [h1]
      cases h2
      rfl
    · cases h

/-- The operations one after the other. -/
def OpsS (P : Program) (ops : Array Oper) : List Oper → St → (St → Prop) → Prop
  | [], st, K => K st
  | o :: r, st, K => match o.guard with
    | none => OpS P o st fun v H' => OpsS P ops r ⟨putS st.s o.dst v, H'⟩ K
    | some (j, want) => ∃ g, guardV ops st.s j = some g ∧
      ((g = some want → OpS P o st fun v H' => OpsS P ops r ⟨putS st.s o.dst v, H'⟩ K) ∧ (g ≠ some want → OpsS P ops r ⟨putS st.s o.dst .void, st.h⟩ K))

theorem ops_sound {P : Program} {ops : Array Oper} {Q : Exit → Act → World → Prop} {w0 : World} {X0 : Cx} {H0 : Heap} {K : St → Prop}
    (hQ : ∀ w' X' a' st', Rel w' X' a' st' → Ev w0 X0 H0 w' X' st'.h → K st' → Q .normal a' w') : ∀ (l : List Oper) (w : World) (X : Cx) (a : Act) (st : St), OpsS P ops l st K → Rel w X a st → Ev w0 X0 H0 w X st.h → wpList P ops Q l a w
  | [], w, X, a, st, h, R, E => hQ w X a st R E h
  | o :: r, w, X, a, st, h, R, E => by
    refine wpList_step fun K' hK' => ?_
    have go : ∀ {o' : Oper}, o' = o → (OpS P o st fun v H' => OpsS P ops r ⟨putS st.s o.dst v, H'⟩ K) → o.wp P a w K' Q := by
      intro o' _ hop
      refine hop w X a R K' Q fun v u X' H' w' h1 h2 h3 h4 => hK' _ _ ?_
      exact ops_sound hQ r w' X' _ _ h4 (R.put h3 h2 h1) (E.trans h3)
    unfold OpsS at h
    split at h
    · rename_i hg
      rw [if_pos (by simp [Region.wanted, hg])]
      exact go rfl h
    · rename_i j want hg
      obtain ⟨g, h1, h2, h3⟩ := h
      have hy := guardV_sound R h1
      by_cases he : g = some want
      · rw [if_pos (by simp [Region.wanted, hg, hy, he])]
        exact go rfl (h2 he)
      · rw [if_neg (by simp only [Region.wanted, hg, hy]; simpa using he)]
        exact hK' _ _ (ops_sound hQ r w X _ _ (h3 he) (R.put (Ev.refl _ _ _) R.heap .void) E)

def Post (Q : Exit → St → Prop) (w : World) (X : Cx) (H : Heap) : Exit → Act → World → Prop :=
  fun e a' w' => ∃ X' st', Rel w' X' a' st' ∧ Ev w X H w' X' st'.h ∧ Q e st'

theorem RunC.mono {P : Program} {c : Code} {st : St} {Q Q' : Exit → St → Prop} (h : RunC P c st Q) (hq : ∀ e st', Q e st' → Q' e st') : RunC P c st Q' :=
  fun w X a R => wp_mono (h w X a R) fun _ _ _ ⟨X', st', h1, h2, h3⟩ => ⟨X', st', h1, h2, hq _ _ h3⟩

theorem RunC.skip {P : Program} {st : St} {Q : Exit → St → Prop} (h : Q .normal st) : RunC P .skip st Q :=
  fun w X a R => wp_skip ⟨X, st, R, Ev.refl _ _ _, h⟩
theorem RunC.exit {P : Program} {id : Nat} {st : St} {Q : Exit → St → Prop} (h : Q (.exit id) st) : RunC P (.exit id) st Q :=
  fun w X a R => wp_exit ⟨X, st, R, Ev.refl _ _ _, h⟩
theorem RunC.ret {P : Program} {st : St} {Q : Exit → St → Prop} (h : Q .ret st) : RunC P .ret st Q :=
  fun w X a R => wp_ret ⟨X, st, R, Ev.refl _ _ _, h⟩

/-- What follows where the first part ends normally. -/
def thenQ (next : St → Prop) (Q : Exit → St → Prop) : Exit → St → Prop
  | .normal, st => next st
  | e, st => Q e st

theorem RunC.seq {P : Program} {x y : Code} {st : St} {Q : Exit → St → Prop} (h : RunC P x st (thenQ (fun st' => RunC P y st' Q) Q)) : RunC P (.seq x y) st Q := by
  intro w X a R
  refine wp_seq (wp_mono (h w X a R) fun e a' w' ⟨X', st', h1, h2, h3⟩ => ?_)
  cases e with
  | normal =>
    have h3 : RunC P y st' Q := h3
    exact wp_mono (h3 w' X' a' h1) fun _ _ _ ⟨X'', st'', k1, k2, k3⟩ => ⟨X'', st'', k1, h2.trans k2, k3⟩
  | exit id => exact ⟨X', st', h1, h2, h3⟩
  | goto l => exact ⟨X', st', h1, h2, h3⟩
  | ret => exact ⟨X', st', h1, h2, h3⟩
  | panic c => exact ⟨X', st', h1, h2, h3⟩
  | outgrown => exact ⟨X', st', h1, h2, h3⟩

theorem RunC.cond {P : Program} {c : Operand} {x y : Code} {st : St} {Q : Exit → St → Prop} {b : Bool} (hc : evO st.s c = .c (.f (.bool b))) (ht : b = true → RunC P x st Q) (hf : b = false → RunC P y st Q) : RunC P (.cond c x y) st Q := by
  intro w X a R
  have h := evO_sound R c
  rw [hc] at h
  exact wp_cond_split (va_bool h) (fun hb => ht hb w X a R) (fun hb => hf hb w X a R)

def blockQ (id : Nat) (Q : Exit → St → Prop) : Exit → St → Prop
  | .exit id', st => if id' = id then Q .normal st else Q (.exit id') st
  | e, st => Q e st

theorem RunC.block {P : Program} {id : Nat} {c : Code} {st : St} {Q : Exit → St → Prop} (h : RunC P c st (blockQ id Q)) : RunC P (.block id c) st Q := by
  intro w X a R
  refine wp_block (wp_mono (h w X a R) fun e a' w' ⟨X', st', h1, h2, h3⟩ => ?_)
  cases e with
  | exit id' =>
    simp only [Exit.inBlock, blockQ] at h3 ⊢
    split
    · rename_i he; rw [if_pos he] at h3; exact ⟨X', st', h1, h2, h3⟩
    · rename_i he; rw [if_neg he] at h3; exact ⟨X', st', h1, h2, h3⟩
  | normal => exact ⟨X', st', h1, h2, h3⟩
  | goto l => exact ⟨X', st', h1, h2, h3⟩
  | ret => exact ⟨X', st', h1, h2, h3⟩
  | panic c => exact ⟨X', st', h1, h2, h3⟩
  | outgrown => exact ⟨X', st', h1, h2, h3⟩

theorem RunC.region {P : Program} {id : Nat} {ops : Array Oper} {st : St} {Q : Exit → St → Prop} (h : OpsS P ops ops.toList st fun st' => Q .normal st') : RunC P (.region id ops false) st Q :=
  fun w X a R => wp_region_list (ops_sound (Q := Post Q w X st.h) (fun w' X' a' st' h1 h2 h3 => ⟨X', st', h1, h2, h3⟩) _ w X a st h R (Ev.refl _ _ _))

/-- Less is told: a slot of which nothing is known, a block that is no longer known. -/
def HLe (H H' : Heap) : Prop := ∀ (id : Nat) (b : Blk), H'[id]? = some (some b) → H[id]? = some (some b)
def SLe (s s' : List AV) : Prop := s'.length = s.length ∧ ∀ i (h : i < s'.length), s'[i] = .any ∨ s[i]? = some s'[i]

theorem HLe.refl (H : Heap) : HLe H H := fun _ _ h => h
theorem HLe.look {H H' : Heap} (h : HLe H H') {id g : Nat} {b : Blk} (hl : look H' id g = some b) : look H id g = some b := by
  obtain ⟨h1, h2⟩ := look_some hl
  rw [← h2]
  exact look_of (h id b h1)
theorem HLe.ev {w : World} {X : Cx} {H H' : Heap} (h : HLe H H') : Ev w X H w X H' :=
  ⟨fun _ hb => ⟨hb, rfl⟩, Nat.le_refl _, fun _ _ => ⟨rfl, rfl⟩, Nat.le_refl _, rfl, rfl, rfl, fun id g b' _ hl => ⟨b', h.look hl, rfl, rfl⟩, fun _ _ _ => rfl, fun b ⟨id, blk, h1, h2⟩ => .inl ⟨id, blk, h id blk h1, h2⟩, fun _ hb => .inl hb⟩
theorem HLe.rel {w : World} {X : Cx} {H H' : Heap} (h : HLe H H') (R : HRel w X H) : HRel w X H' :=
  ⟨R.imm, fun id b hb => by
    obtain ⟨h1, h2, cc, t, h3, h4, h5, h6⟩ := R.blk id b (h id b hb)
    exact ⟨h1, h2, cc, t, h3, h4, h5, fun j hj => let ⟨u, k1, k2⟩ := h6 j hj; ⟨u, k1, k2.mono h.ev⟩⟩,
   fun id id' b b' hb hb' he => R.inj id id' b b' (h id b hb) (h id' b' hb') he⟩

theorem Rel.weaken {w : World} {X : Cx} {a : Act} {st st' : St} (R : Rel w X a st) (hs : SLe st.s st'.s) (hh : HLe st.h st'.h) : Rel w X a st' := by
  refine ⟨R.defs, by rw [R.size, hs.1], fun i hi => ?_, hh.rel R.heap⟩
  have hi' : i < st.s.length := by rw [← hs.1]; exact hi
  obtain ⟨u, h1, h2⟩ := R.slot i hi'
  refine ⟨u, h1, ?_⟩
  rcases hs.2 i hi with he | he
  · rw [he]; exact .any _
  · rw [List.getElem?_eq_getElem hi'] at he
    rw [← Option.some.inj he]
    exact h2.mono hh.ev

theorem RunC.weaken {P : Program} {c : Code} {st st' : St} {Q : Exit → St → Prop} (hs : SLe st.s st'.s) (hh : HLe st.h st'.h) (h : RunC P c st' Q) : RunC P c st Q :=
  fun w X a R => wp_mono (h w X a (R.weaken hs hh)) fun _ _ _ ⟨X', st'', k1, k2, k3⟩ => ⟨X', st'', k1, hh.ev.trans k2, k3⟩

theorem RunC.loop {P : Program} {c : Code} {Q : Exit → St → Prop} (I : Nat → St → Prop)
    (h : ∀ n st, I n st → RunC P c st (thenQ (fun st' => ∃ m st2, m < n ∧ SLe st'.s st2.s ∧ HLe st'.h st2.h ∧ I m st2) Q)) {n : Nat} {st : St} (h0 : I n st) : RunC P (.loop c) st Q := by
  intro w X a R b k cs
  have key : ∀ n w' X' a' st', I n st' → Rel w' X' a' st' → Ev w X st.h w' X' st'.h →
      ∃ e a'' w'', Post Q w X st.h e a'' w'' ∧ Arrives P (lone (b.at a' (.code c :: .inLoop c :: k)) cs w') b k cs e a'' w'' := by
    intro n
    induction n using Nat.strongRecOn with
    | _ n ih =>
      intro w' X' a' st' hI R' E'
      obtain ⟨e, a₁, w₁, ⟨X1, st1, hR1, hE1, hq⟩, harr⟩ := h n st' hI w' X' a' R' b (.inLoop c :: k) cs
      cases e with
      | normal =>
        obtain ⟨m, st2, hlt, hs, hh, hI2⟩ := hq
        obtain ⟨e₂, a₂, w₂, hq₂, harr₂⟩ := ih m hlt w₁ X1 a₁ st2 hI2 (hR1.weaken hs hh) (E'.trans (hE1.trans hh.ev))
        exact ⟨e₂, a₂, w₂, hq₂, .of_steps (Steps.trans harr (.one step_inLoop)) harr₂⟩
      | exit id => exact ⟨_, a₁, w₁, ⟨X1, st1, hR1, E'.trans hE1, hq⟩, .pass (x := .inLoop c) rfl (fun _ _ => .inl (by simp)) harr⟩
      | goto l => exact ⟨_, a₁, w₁, ⟨X1, st1, hR1, E'.trans hE1, hq⟩, .pass (x := .inLoop c) rfl (fun _ _ => .inl (by simp)) harr⟩
      | ret => exact ⟨_, a₁, w₁, ⟨X1, st1, hR1, E'.trans hE1, hq⟩, .pass (x := .inLoop c) rfl (fun _ _ => .inl (by simp)) harr⟩
      | panic ch => exact ⟨_, a₁, w₁, ⟨X1, st1, hR1, E'.trans hE1, hq⟩, .pass (x := .inLoop c) rfl (fun _ _ => .inl (by simp)) harr⟩
      | outgrown => exact ⟨_, a₁, w₁, ⟨X1, st1, hR1, E'.trans hE1, hq⟩, .pass (x := .inLoop c) rfl (fun _ _ => .inl (by simp)) harr⟩
  obtain ⟨e, a', w', hq, harr⟩ := key n w X a st h0 R (Ev.refl _ _ _)
  exact ⟨e, a', w', hq, .of_steps (.one step_loop) harr⟩

/-! ### results -/
def resOne (P : Program) (s : List AV) (H : Heap) : ResultVar → Option AV
  | .tmp t => some (s.getD t .void)
  | .cell a t => loadV P H t (s.getD a .void)

def resAll (P : Program) (s : List AV) (H : Heap) : List ResultVar → Option (List AV)
  | [] => some []
  | r :: rs => match resOne P s H r, resAll P s H rs with
    | some v, some vs => some (v :: vs)
    | _, _ => none

def resV (P : Program) (s : List AV) (H : Heap) (rs : List ResultVar) : Option AV :=
  match resAll P s H rs with
  | some [v] => some v
  | some vs => some (.tup vs)
  | none => none

theorem slot_getD {w : World} {X : Cx} {a : Act} {st : St} (R : Rel w X a st) (t : Nat) : VA w X st.h (st.s.getD t .void) (a.tmps.getD t undef) := evO_sound R (.tmp t)

theorem asAddr_of_loadAt {P : Program} {w : World} {t : TypeId} {pv u : Value} (h : (Instr.loadAt t pv).run P w = .ok u w) : (do loadVar t (← asAddr pv) : Sem Value).run P w = .ok u w := by
  unfold Instr.loadAt Instr.sureAddr at h
  cases pv with
  | pointer a =>
    cases a with
    | some a => simpa [asAddr] using h
    | none => simp at h
  | _ => simp at h

def resM (tmps : Array Value) : ResultVar → Sem Value
  | .tmp t => pure (tmps.getD t undef)
  | .cell b t => do loadVar t (← asAddr (tmps.getD b undef))
theorem results_eq (fn : Func) (tmps : Array Value) : results fn tmps = (fn.results.mapM (resM tmps) >>= fun vs => pure (if h : vs.size = 1 then vs[0] else .tuple vs)) := rfl

theorem resAll_sound {P : Program} {w : World} {X : Cx} {a : Act} {st : St} (R : Rel w X a st) : ∀ (rs : List ResultVar) (vs : List AV), resAll P st.s st.h rs = some vs →
    ∃ us : List Value, us.length = vs.length ∧ (rs.mapM (resM a.tmps)).run P w = .ok us w ∧ ∀ i (h : i < vs.length), ∃ u, us[i]? = some u ∧ VA w X st.h vs[i] u
  | [], vs, h => by
    cases h
    exact ⟨[], rfl, by simp, fun i hi => absurd hi (by simp)⟩
  | r :: rs, vs, h => by
    unfold resAll at h
    split at h
    · rename_i v vs' e1 e2
      cases h
      obtain ⟨us, h1, h2, h3⟩ := resAll_sound R rs vs' e2
      have hone : ∃ u, (resM a.tmps r).run P w = .ok u w ∧ VA w X st.h v u := by
        cases r with
        | tmp t =>
          simp only [resOne, Option.some.injEq] at e1
          subst e1
          exact ⟨_, rfl, slot_getD R t⟩
        | cell b t =>
          obtain ⟨u, k1, k2⟩ := loadV_sound (P := P) R.heap e1 (slot_getD R b)
          exact ⟨u, asAddr_of_loadAt (k1 w (Grow.refl w)), k2⟩
      obtain ⟨u, k1, k2⟩ := hone
      refine ⟨u :: us, by simp [h1], ?_, fun i hi => ?_⟩
      · rw [List.mapM_cons, Sem.run_bind, k1, Result.andThen_ok, Sem.run_bind, h2, Result.andThen_ok]
        rfl
      · cases i with
        | zero => exact ⟨u, rfl, k2⟩
        | succ i => exact h3 i (by simpa using hi)
    · cases h

theorem resV_sound {P : Program} {w : World} {X : Cx} {a : Act} {st : St} (R : Rel w X a st) {fn : Func} {v : AV} (h : resV P st.s st.h fn.results.toList = some v) :
    ∃ u, (results fn a.tmps).run P w = .ok u w ∧ VA w X st.h v u := by
  unfold resV at h
  have key : ∀ vs, resAll P st.s st.h fn.results.toList = some vs → ∃ us : List Value, us.length = vs.length ∧ (results fn a.tmps).run P w = .ok (if h : us.toArray.size = 1 then us.toArray[0] else .tuple us.toArray) w ∧ ∀ i (h : i < vs.length), ∃ u, us[i]? = some u ∧ VA w X st.h vs[i] u := by
    intro vs hvs
    obtain ⟨us, h1, h2, h3⟩ := resAll_sound R _ vs hvs
    refine ⟨us, h1, ?_, h3⟩
    have hm : fn.results.mapM (resM a.tmps) = List.toArray <$> fn.results.toList.mapM (resM a.tmps) := Array.mapM_eq_mapM_toList
    rw [results_eq, hm]
    simp only [Sem.run_bind, Sem.run_map, h2, Result.andThen_ok, Sem.run_pure]
  split at h
  · rename_i v' hvs
    cases h
    obtain ⟨us, h1, h2, h3⟩ := key [v] hvs
    obtain ⟨u, k1, k2⟩ := h3 0 (by simp)
    have hus : us = [u] := by
      cases us with
      | nil => simp at h1
      | cons x xs => simp at h1 k1; subst h1 k1; rfl
    subst hus
    exact ⟨u, by rw [h2]; simp, k2⟩
  · rename_i vs hne hvs
    cases h
    obtain ⟨us, h1, h2, h3⟩ := key vs hvs
    have hl : us.toArray.size ≠ 1 := by
      intro hl
      have : vs.length = 1 := by rw [← h1]; simpa using hl
      obtain ⟨x, hx⟩ := List.length_eq_one_iff.1 this
      exact hne x hx
    rw [dif_neg hl] at h2
    refine ⟨_, h2, ?_⟩
    have := VA.tup (w := w) (X := X) (H := st.h) vs (fun i => us.getD i undef) (fun j hj => by
      obtain ⟨u, k1, k2⟩ := h3 j hj
      simp only [List.getD, k1, Option.getD_some]
      exact k2)
    have e : ((List.range vs.length).map fun i => us.getD i undef) = us := by
      apply List.ext_getElem
      · simp [h1]
      · intro i q1 q2
        simp [List.getD, List.getElem?_eq_getElem q2]
    rw [e] at this
    exact this
  · cases h

theorem RunCall.of_body {P : Program} {f : FuncId} {fn : Func} {c : Code} {args : List AV} {H : Heap} {Q : AV → Heap → Prop} (hf : P.funcs[f]? = some fn) (hb : fn.body = some c)
    (h : RunC P c ⟨args ++ List.replicate (fn.ntmps - args.length) .void, H⟩ fun e st' => (e = .normal ∨ e = .ret) ∧ ∃ v H', resV P st'.s st'.h fn.results.toList = some v ∧ HLe st'.h H' ∧ Q v H') : RunCall P f args H Q := by
  intro w X vs hH hvs
  refine calls_of_wp hf hb ?_
  have R : Rel w X { tmps := vs ++ Array.replicate (fn.ntmps - vs.size) undef, defers := [] } ⟨args ++ List.replicate (fn.ntmps - args.length) .void, H⟩ := by
    refine ⟨rfl, by simp [hvs.1], fun i hi => ?_, hH⟩
    simp only [List.length_append, List.length_replicate] at hi
    by_cases hlt : i < args.length
    · obtain ⟨u, h1, h2⟩ := hvs.2 i hlt
      refine ⟨u, ?_, by rw [List.getElem_append_left hlt]; exact h2⟩
      rw [Array.getElem?_append_left (by rw [hvs.1]; exact hlt)]
      exact h1
    · refine ⟨undef, ?_, ?_⟩
      · rw [Array.getElem?_append_right (by rw [hvs.1]; omega)]
        rw [Array.getElem?_replicate, if_pos (by rw [hvs.1]; omega)]
      · rw [List.getElem_append_right (by omega)]
        simp only [List.getElem_replicate]
        exact .void
  refine wp_mono (h w X _ R) fun e a' w' ⟨X', st', h1, h2, he, v, H', h3, h4, h5⟩ => ?_
  obtain ⟨u, k1, k2⟩ := resV_sound (P := P) h1 h3
  have fin : a'.defers = [] ∧ ∃ v', (results fn a'.tmps).run P w' = .ok v' w' ∧ ∃ v u X' H', Ending.returned v' = .returned u ∧ VA w' X' H' v u ∧ HRel w' X' H' ∧ Ev w X H w' X' H' ∧ Q v H' :=
    ⟨h1.defs, u, k1, v, u, X', H', rfl, k2.mono h4.ev, h4.rel h1.heap, h2.trans h4.ev, h5⟩
  rcases he with rfl | rfl
  · exact fin
  · exact fin

theorem RunCall.mono {P : Program} {f : FuncId} {args : List AV} {H : Heap} {Q Q' : AV → Heap → Prop} (h : RunCall P f args H Q) (hq : ∀ v H', Q v H' → Q' v H') : RunCall P f args H Q' :=
  fun w X vs hH hvs => (h w X vs hH hvs).mono fun _ _ ⟨v, u, X', H', h1, h2, h3, h4, h5⟩ => ⟨v, u, X', H', h1, h2, h3, h4, hq _ _ h5⟩
end Go.Lg
