/- Calls that only compute; regions that draw their order; what is read only from now on. -/
import Derived.Test.YtlpehaekjclgcaaLgL
set_option linter.unusedSimpArgs false
set_option linter.unusedVariables false
namespace Go.Lg

/-! ### plain results -/
def flat1 : AV → Option Value
  | .c (.f x) => if isScal x then some (scal x) else none
  | _ => none
def flatV : AV → Option Value
  | .c (.f x) => if isScal x then some (scal x) else none
  | .tup vs => (vs.mapM flat1).map fun l => .tuple l.toArray
  | _ => none

theorem flat1_sound {v : AV} {u : Value} (h : flat1 v = some u) : (∀ (w : World) (X : Cx) (H : Heap), VA w X H v u) ∧ ∀ (w : World) (X : Cx) (H : Heap) u', VA w X H v u' → u' = u := by
  unfold flat1 at h
  split at h
  · rename_i x
    split at h
    · rename_i hx
      cases h
      refine ⟨fun w X H => .c _ _ (scal_sound hx), fun w X H u' hu => ?_⟩
      have hu := va_c hu
      cases x <;> simp [isScal] at hx <;> (have hu : VF w X.I _ u' := hu; cases hu; rfl)
    · cases h
  · cases h

theorem flatV_sound {v : AV} {u : Value} (h : flatV v = some u) : (∀ (w : World) (X : Cx) (H : Heap), VA w X H v u) ∧ ∀ (w : World) (X : Cx) (H : Heap) u', VA w X H v u' → u' = u := by
  unfold flatV at h
  split at h
  · rename_i x; exact flat1_sound h
  · rename_i vs
    cases hm : vs.mapM flat1 with
    | none => simp [hm] at h
    | some l =>
      simp [hm] at h
      subst h
      obtain ⟨hl, hg⟩ := mapM_get hm
      have hg' : ∀ j (hj : j < vs.length), flat1 vs[j] = some (l.getD j undef) := fun j hj => by
        obtain ⟨y, h1, h2⟩ := hg j hj
        simp only [List.getD, h1, Option.getD_some]
        exact h2
      have e : ((List.range vs.length).map fun i => l.getD i undef) = l := by
        apply List.ext_getElem
        · simp [hl]
        · intro i q1 q2
          simp [List.getD, List.getElem?_eq_getElem q2]
      refine ⟨fun w X H => ?_, fun w X H u' hu => ?_⟩
      · have := VA.tup (w := w) (X := X) (H := H) vs (fun i => l.getD i undef) fun j hj => (flat1_sound (hg' j hj)).1 w X H
        rw [e] at this
        exact this
      · cases hu with
        | tup vs us hus =>
          have : ((List.range vs.length).map us) = l := by
            rw [← e]
            apply List.map_congr_left
            intro j hj
            have hj : j < vs.length := by simpa using hj
            exact (flat1_sound (hg' j hj)).2 w X H _ (hus j hj)
          rw [this]
  · cases h

/-- A slice as it now reads, to be handed on to be read. -/
def fvs : List CV → Option (List FV)
  | [] => some []
  | .f x :: l => (fvs l).map (x :: ·)
  | _ => none
theorem fvs_get : ∀ {l : List CV} {xs : List FV}, fvs l = some xs → l = xs.map .f
  | [], xs, h => by cases h; rfl
  | c :: l, xs, h => by
    unfold fvs at h
    split at h
    · rename_i heq; cases heq
    · rename_i x l' heq
      cases heq
      cases hl : fvs l with
      | none => simp [hl] at h
      | some ys => simp [hl] at h; subst h; simp [fvs_get hl]
    · cases h
theorem fvs_map (xs : List FV) : fvs (xs.map .f) = some xs := by
  induction xs with
  | nil => rfl
  | cons x xs ih => simp [fvs, ih]

def snapC (H : Heap) : CV → Option CV
  | .own id g off n lim => match look H id g with
    | some b => (fvs ((b.cs.drop off).take (n * b.sz))).map fun xs => .f (.sl n xs)
    | none => none
  | .f x => some (.f x)
  | .fp cs off => some (.fp cs off)
  | .nilp => some .nilp
  | .nilf => some .nilf
  | .emp => some .emp
  | _ => none

def snapA (H : Heap) : AV → Option AV
  | .c x => (snapC H x).map .c
  | .agg cs => (cs.mapM (snapC H)).map .agg
  | .void => some .void
  | _ => none

/-- All that is there is read only. -/
def Cx.still (X : Cx) (w : World) : Cx := { X with I := fun b => b < w.heap.size }

theorem VF.wide {w : World} {I I' : Nat → Prop} (h : ∀ b, I b → I' b) {x : FV} {v : Value} (hv : VF w I x v) : VF w I' x v :=
  hv.mono (w' := w) (I' := I') fun b hb => ⟨h b hb, rfl⟩

theorem snapC_sound {w w' : World} {X : Cx} {H : Heap} (R : HRel w X H) (hg : Grow w w') {x y : CV} {v : Value} (h : snapC H x = some y) (hv : VC w X H x v) : VC w' (X.still w') [] y v := by
  have hI : ∀ b, X.I b → (X.still w').I b ∧ w'.heap[b]? = w.heap[b]? := fun b hb => ⟨Nat.lt_of_lt_of_le (R.imm b hb) hg.size, hg.blk b (R.imm b hb)⟩
  unfold snapC at h
  split at h
  · rename_i id g off n lim
    split at h
    · rename_i b hl
      cases hf : fvs ((b.cs.drop off).take (n * b.sz)) with
      | none => simp [hf] at h
      | some xs =>
        simp [hf] at h
        subst h
        have hcs := fvs_get hf
        obtain ⟨hgt, _, hall⟩ := hv
        obtain ⟨c1, a0, cap, rfl, c2, c3, c4, c5⟩ := hall b hl
        obtain ⟨hid, hgg⟩ := look_some hl
        subst hgg
        obtain ⟨_, _, cc, t, g3, g4, g5, g6⟩ := R.blk id b hid
        have hlen : xs.length = n * b.sz := by
          have := congrArg List.length hcs
          simp at this
          omega
        by_cases h0 : n * b.sz = 0
        · have hx0 : xs = [] := List.eq_nil_of_length_eq_zero (by omega)
          subst hx0
          by_cases hn : n = 0
          · subst hn; exact VF.sl0 _ _
          · by_cases hcap : cap = 0
            · omega
            · have := c3 hcap
              subst this
              exact VF.sl n [] (X.mu b.g) off cap (fun _ => undef) c2 (Nat.lt_of_lt_of_le (Array.getElem?_eq_some_iff.1 g3).1 hg.size) (fun j hj => absurd hj (by simp)) (fun j hj => absurd hj (by simp))
        · have hn : n ≠ 0 := fun h => h0 (by rw [h]; simp)
          have := c3 (by omega)
          subst this
          have hblk : w'.heap[X.mu b.g]? = some (.cells cc t (0, 0)) := by rw [hg.blk _ (Array.getElem?_eq_some_iff.1 g3).1]; exact g3
          have hget : ∀ j, j < xs.length → ∃ u, cc[off + j]? = some u ∧ ∀ h : j < xs.length, VF w X.I xs[j] u := fun j hj => by
            obtain ⟨u, h7, h8⟩ := g6 (off + j) (by omega)
            refine ⟨u, h7, fun hj => ?_⟩
            have e : b.cs[off + j]'(by omega) = .f xs[j] := by
              have := congrArg (fun l => l[j]?) hcs
              simp [hj, show j < n * b.sz by omega, show off + j < b.cs.length by omega] at this
              exact this
            rw [e] at h8
            exact h8
          refine VF.sl n xs (X.mu b.g) off cap (fun j => cc.getD (off + j) undef) c2 (Nat.lt_of_lt_of_le (Array.getElem?_eq_some_iff.1 g3).1 hg.size) (fun j hj => ?_) (fun j hj => ?_)
          · obtain ⟨u, h7, h8⟩ := hget j hj
            simp [World.cell?, hblk, Array.getD_eq_getD_getElem?, h7]
          · obtain ⟨u, h7, h8⟩ := hget j hj
            simp only [Array.getD_eq_getD_getElem?, h7, Option.getD_some]
            exact (h8 hj).mono hI
    · cases h
  · cases h; exact VF.mono hI hv
  · cases h
    obtain ⟨b, o, h1, h2, h3⟩ := hv
    exact ⟨b, o, h1, (hI b h2).1, h3.mono hI h2⟩
  · cases h; exact hv
  · cases h; exact hv
  · cases h; exact hv
  · cases h

theorem snapA_sound {w w' : World} {X : Cx} {H : Heap} (R : HRel w X H) (hg : Grow w w') {x y : AV} {v : Value} (h : snapA H x = some y) (hv : VA w X H x v) : VA w' (X.still w') [] y v := by
  unfold snapA at h
  split at h
  · rename_i x
    cases hs : snapC H x with
    | none => simp [hs] at h
    | some z => simp [hs] at h; subst h; exact .c _ _ (snapC_sound R hg hs (va_c hv))
  · rename_i cs
    cases hs : cs.mapM (snapC H) with
    | none => simp [hs] at h
    | some z =>
      simp [hs] at h; subst h
      obtain ⟨h1, h2⟩ := mapM_get hs
      cases hv with
      | agg cs vs hsz hc =>
        refine .agg _ _ (by omega) fun j hj => ?_
        obtain ⟨y, h3, h4⟩ := h2 j (by omega)
        obtain ⟨u, h5, h6⟩ := hc j (by omega)
        have : z[j] = y := by simpa [List.getElem?_eq_getElem hj] using h3
        rw [this]
        exact ⟨u, h5, snapC_sound R hg h4 h6⟩
  · cases h; cases hv; exact .void
  · cases h

/-- A call that makes nothing that is handed back: all that is there stays as it is, and it yields one value. -/
theorem call_still {P : Program} {f : FuncId} {args args' : List AV} {w w' : World} {X : Cx} {H : Heap} {vs : Array Value} {v : AV} {u : Value} (R : HRel w X H) (hg : Grow w w') (hvs : VAs w X H args vs) (hs : args.mapM (snapA H) = some args')
    (hf : flatV v = some u) (hc : RunCall P f args' [] fun r _ => r = v) : Calls P f vs w' fun e w'' => e = .returned u ∧ Grow w' w'' := by
  obtain ⟨hl, hgm⟩ := mapM_get hs
  have R0 : HRel w' (X.still w') [] := ⟨fun b hb => hb, fun id b hb => by simp at hb, fun id id' b b' hb => by simp at hb⟩
  refine (hc w' (X.still w') vs R0 ⟨by rw [hvs.1, hl], fun i hi => ?_⟩).mono fun e w'' ⟨r, u', X', H', h1, h2, h3, h4, h5⟩ => ?_
  · obtain ⟨x, h1, h2⟩ := hvs.2 i (by omega)
    obtain ⟨y, h3, h4⟩ := hgm i (by omega)
    have : args'[i] = y := by simpa [List.getElem?_eq_getElem hi] using h3
    rw [this]
    exact ⟨x, h1, snapA_sound R hg h4 h2⟩
  · subst h5
    refine ⟨by rw [h1, (flatV_sound hf).2 _ _ _ _ h2], fun b hb => (h4.imm b hb).2, h4.size, h4.os, h4.tape, h4.output⟩

/-- What the operands of a call are. -/
def callArgs (st : St) (fo : Operand) (xs : Array Operand) : Option (FuncId × List AV) :=
  match evO st.s fo with
  | .c (.fn f []) => some (f, xs.toList.map (evO st.s))
  | _ => none

theorem callArgs_sound {P : Program} {o : Oper} {w : World} {X : Cx} {a : Act} {st : St} (R : Rel w X a st) {fo : Operand} {xs : Array Operand} {ts : Array TypeId} {f : FuncId} {args : List AV}
    (ho : o.op = .call ⟨.value fo, xs, ts⟩) (h : callArgs st fo xs = some (f, args)) (he : Enters P f) :
    ∃ vs, (∀ w', (execOp a.eval o).run P w' = .ok (.enter f vs) w') ∧ VAs w X st.h args vs := by
  unfold callArgs at h
  split at h
  · rename_i f' e
    cases h
    have hfv := evO_sound R fo
    rw [e] at hfv
    have hfe := (va_c hfv).2.2 (by simp)
    refine ⟨xs.map a.eval, fun w' => ?_, by simp, fun i hi => ?_⟩
    · simp only [execOp, ho, resolve, Sem.run_bind, hfe, Deferred.ofValue, Sem.run_pure, Result.andThen_ok, invoke]
      rw [run_callFunc he]
      simp
    · simp only [List.length_map, Array.length_toList] at hi
      refine ⟨a.eval xs[i], by simp [hi], ?_⟩
      simp only [List.getElem_map, Array.getElem_toList]
      exact evO_sound R _
  · cases h

theorem OpS.callStill {P : Program} {o : Oper} {st : St} {K : AV → Heap → Prop} {fo : Operand} {xs : Array Operand} {ts : Array TypeId} {f : FuncId} {args args' : List AV} {v : AV} {u : Value}
    (ho : o.op = .call ⟨.value fo, xs, ts⟩) (ha : callArgs st fo xs = some (f, args)) (he : Enters P f) (hs : args.mapM (snapA st.h) = some args')
    (hc : RunCall P f args' [] fun r _ => r = v) (hf : flatV v = some u) (hk : K v st.h) : OpS P o st K := by
  intro w X a R next Q hn
  obtain ⟨vs, h1, h2⟩ := callArgs_sound (P := P) R ho ha he
  refine wp_enter (h1 w) ((call_still R.heap (Grow.refl w) h2 hs hf hc).mono fun e w' ⟨h3, h4⟩ => ⟨u, h3, ?_⟩)
  exact hn v u X st.h w' ((flatV_sound hf).1 _ _ _) (h4.rel R.heap) (h4.ev R.heap) hk

/-! ### regions that draw their order -/
/-- The operation yields this, whatever has been made beside. -/
def Quiet (P : Program) (o : Oper) (st : St) (v : AV) : Prop :=
  ∀ w X a, Rel w X a st → ∃ u, VA w X st.h v u ∧ ∀ w', Grow w w' → o.quietAt P a (Grow w) w' u

theorem Quiet.val {P : Program} {o : Oper} {st : St} {v : AV} (h : opV P st.s st.h o.op = some v) : Quiet P o st v := by
  intro w X a R
  obtain ⟨u, h1, h2⟩ := opV_sound (P := P) R h
  refine ⟨u, h2, fun w' hg => ?_⟩
  unfold Oper.quietAt
  rw [h1 w' hg o rfl]
  exact ⟨rfl, rfl⟩

theorem Quiet.call {P : Program} {o : Oper} {st : St} {fo : Operand} {xs : Array Operand} {ts : Array TypeId} {f : FuncId} {args args' : List AV} {v : AV} {u : Value}
    (ho : o.op = .call ⟨.value fo, xs, ts⟩) (ha : callArgs st fo xs = some (f, args)) (he : Enters P f) (hs : args.mapM (snapA st.h) = some args')
    (hc : RunCall P f args' [] fun r _ => r = v) (hf : flatV v = some u) : Quiet P o st v := by
  intro w X a R
  obtain ⟨vs, h1, h2⟩ := callArgs_sound (P := P) R ho ha he
  refine ⟨u, (flatV_sound hf).1 _ _ _, fun w' hg => ?_⟩
  unfold Oper.quietAt
  rw [h1 w']
  exact ⟨rfl, (call_still R.heap hg h2 hs hf hc).mono fun e w'' ⟨h3, h4⟩ => ⟨h3, hg.trans h4⟩⟩

end Go.Lg
