/- The logic's texts LgX, LgY, LgZ, LgZ2, LgR, LgV, one behind the other. -/
import Derived.Test.YtabihehfemedcaaLgQ
import Derived.ProofKit
import Derived.OpenShut
import Derived.ShutString
import Derived.ChangeOld
import Derived.SizedLaws
import Derived.ChangeSlices
import Derived.Carry
/- More of what the reckoning goes by: ways by what is known, structs, rules and puzzles as cells. -/
set_option linter.unusedSimpArgs false
set_option linter.unusedVariables false
namespace Go.Lg

section
variable {P : Program} {ops r : Array Oper} {rl : List Oper} {s : List AV} {H : Heap} {K : KS} {Q : KT} {d : Option Tmp} {op : Op} {t : TypeId} {p : String} {e : Array Edge} {gd : Option (Nat × Bool)} {c x y : Code} {w : Bool} {q : Prop} [Decidable q]
theorem guardK_dec (h1 : q → guardK P ops ⟨d, op, t, p, e, gd⟩ rl s H K w (some true)) (h2 : ¬ q → guardK P ops ⟨d, op, t, p, e, gd⟩ rl s H K w (some false)) : guardK P ops ⟨d, op, t, p, e, gd⟩ rl s H K w (some (decide q)) := by
  by_cases h : q
  · rw [decide_eq_true h]; exact h1 h
  · rw [decide_eq_false h]; exact h2 h
theorem guardK_ndec (h1 : q → guardK P ops ⟨d, op, t, p, e, gd⟩ rl s H K w (some false)) (h2 : ¬ q → guardK P ops ⟨d, op, t, p, e, gd⟩ rl s H K w (some true)) : guardK P ops ⟨d, op, t, p, e, gd⟩ rl s H K w (some (!decide q)) := by
  by_cases h : q
  · rw [decide_eq_true h]; exact h1 h
  · rw [decide_eq_false h]; exact h2 h
theorem guardK_nb {b : Bool} (h1 : b = true → guardK P ops ⟨d, op, t, p, e, gd⟩ rl s H K w (some false)) (h2 : b = false → guardK P ops ⟨d, op, t, p, e, gd⟩ rl s H K w (some true)) : guardK P ops ⟨d, op, t, p, e, gd⟩ rl s H K w (some (!b)) := by
  cases b
  · exact h2 rfl
  · exact h1 rfl
theorem guardQ_dec {G : KS} (h1 : q → guardQ P ops ⟨d, op, t, p, e, gd⟩ rl s H G w (some true)) (h2 : ¬ q → guardQ P ops ⟨d, op, t, p, e, gd⟩ rl s H G w (some false)) : guardQ P ops ⟨d, op, t, p, e, gd⟩ rl s H G w (some (decide q)) := by
  by_cases h : q
  · rw [decide_eq_true h]; exact h1 h
  · rw [decide_eq_false h]; exact h2 h
theorem guardQ_ndec {G : KS} (h1 : q → guardQ P ops ⟨d, op, t, p, e, gd⟩ rl s H G w (some false)) (h2 : ¬ q → guardQ P ops ⟨d, op, t, p, e, gd⟩ rl s H G w (some true)) : guardQ P ops ⟨d, op, t, p, e, gd⟩ rl s H G w (some (!decide q)) := by
  by_cases h : q
  · rw [decide_eq_true h]; exact h1 h
  · rw [decide_eq_false h]; exact h2 h
theorem guardQ_nb {b : Bool} {G : KS} (h1 : b = true → guardQ P ops ⟨d, op, t, p, e, gd⟩ rl s H G w (some false)) (h2 : b = false → guardQ P ops ⟨d, op, t, p, e, gd⟩ rl s H G w (some true)) : guardQ P ops ⟨d, op, t, p, e, gd⟩ rl s H G w (some (!b)) := by
  cases b
  · exact h2 rfl
  · exact h1 rfl
theorem condK_dec (h1 : q → cw P x s H Q) (h2 : ¬ q → cw P y s H Q) : condK P x y s H Q (decide q) := by
  by_cases h : q
  · rw [decide_eq_true h, condK_t]; exact h1 h
  · rw [decide_eq_false h, condK_f]; exact h2 h
theorem condK_ndec (h1 : q → cw P y s H Q) (h2 : ¬ q → cw P x s H Q) : condK P x y s H Q (!decide q) := by
  by_cases h : q
  · rw [decide_eq_true h]; exact condK_f ▸ h1 h
  · rw [decide_eq_false h]; exact condK_t ▸ h2 h
theorem condK_b {b : Bool} (h1 : b = true → cw P x s H Q) (h2 : b = false → cw P y s H Q) : condK P x y s H Q b := by
  cases b
  · rw [condK_f]; exact h2 rfl
  · rw [condK_t]; exact h1 rfl
theorem condK_nb {b : Bool} (h1 : b = true → cw P y s H Q) (h2 : b = false → cw P x s H Q) : condK P x y s H Q (!b) := by
  cases b
  · exact condK_t ▸ h2 rfl
  · exact condK_f ▸ h1 rfl
end

/-! ### regions that draw their order: one plan for all orders, reckoned -/
def okM (m : List Bool) (H H' : Heap) : Prop := HLe (mask m H') (mask m H)
theorem mask_nil (H : Heap) : mask [] H = H := by cases H <;> rfl
theorem mask_t (m : List Bool) (x : Option Blk) (H : Heap) : mask (true :: m) (x :: H) = none :: mask m H := rfl
theorem mask_f (m : List Bool) (x : Option Blk) (H : Heap) : mask (false :: m) (x :: H) = x :: mask m H := rfl
theorem mask_e (m : List Bool) : mask m [] = [] := by cases m with
  | nil => rfl
  | cons b m => cases b <;> rfl
theorem okM_self (m : List Bool) (H : Heap) : okM m H H = True := eq_true (HLe.refl _)
theorem okM_nil (m : List Bool) (H : Heap) : okM m [] H = True := eq_true (by unfold okM; rw [mask_e]; exact hle_nil _)
theorem okM_app (H H' : Heap) : okM [] H (H ++ H') = True := eq_true (by unfold okM; rw [mask_nil, mask_nil]; exact HLe.app _ _)
theorem hle_cons_iff (x : Option Blk) (H H' : Heap) : HLe (x :: H) (x :: H') ↔ HLe H H' :=
  ⟨fun h id b hb => h (id + 1) b hb, fun h => hle_self x H H' h⟩
theorem hle_none_iff (x : Option Blk) (H H' : Heap) : HLe (x :: H) (none :: H') ↔ HLe H H' :=
  ⟨fun h id b hb => h (id + 1) b hb, fun h => hle_none x H H' h⟩
theorem okM_cs (x : Option Blk) (H H' : Heap) : okM [] (x :: H) (x :: H') = okM [] H H' := by
  unfold okM; simp only [mask_nil]; exact propext (hle_cons_iff x H' H)
theorem okM_t (m : List Bool) (x y : Option Blk) (H H' : Heap) : okM (true :: m) (x :: H) (y :: H') = okM m H H' := by
  unfold okM; simp only [mask_t]; exact propext (hle_none_iff none _ _)
theorem okM_f (m : List Bool) (x : Option Blk) (H H' : Heap) : okM (false :: m) (x :: H) (x :: H') = okM m H H' := by
  unfold okM; simp only [mask_f]; exact propext (hle_cons_iff x _ _)

/-! ### what is made there and only read from now on -/
theorem Soft.empty {P : Program} {ops : Array Oper} {o : Oper} {s : List AV} {t : TypeId} {ei : TI} (ho : o.op = .buildSlice t 0 #[]) (hs : sliceOf P t = some ei) (H : Heap) : Soft P ops o s H (.c .emp) := by
  intro w X a R next Q hn
  obtain ⟨ti, e, ht, hk, he⟩ := sliceOf_some hs
  obtain ⟨inf, d, z', h1, h2, h3, h4, h5, h6, h7⟩ := tinf_some ht
  rw [h5] at hk; cases tk_slice hk
  have hrun : (execOp a.eval o).run P w = .ok (.value (.slice (some ⟨w.heap.size, 0, none⟩) 0 0)) (w.alloc (.cells #[] e)) := by
    simp only [execOp, ho, Instr.buildSlice, Sem.run_bind, run_underlying h2, Result.andThen_ok, run_sizeOf' he, Sem.run_ite, Sem.run_pure]
    simp [newRow, Instr.fill]
    rw [show Array.range 0 = #[] from rfl, Array.map_empty]
  have R0 : HRel w X [] := ⟨R.heap.imm, fun id b hb => by simp at hb, fun id id' b b' hb => by simp at hb⟩
  obtain ⟨_, k2⟩ := new_block (w' := w.alloc (.cells #[] e)) R0 (sz := 1) (t := e) (cs := []) (cc := #[]) rfl rfl rfl rfl (Nat.le_refl _) (fun j hj => absurd hj (Nat.not_lt_zero _))
  have no : ∀ b, ¬ Owned X [] b := fun b ⟨id, blk, h, _⟩ => by simp at h
  have hg : Grow w (w.alloc (.cells #[] e)) := ⟨fun b hb => k2.frame b hb (no b), k2.size, k2.os, k2.tape, k2.output⟩
  exact wp_value hrun (hn _ _ X hg (Wider.refl _ _) (.c _ _ ⟨_, rfl⟩) (hg.rel R.heap))
theorem softBuild_all {P : Program} {ops : Array Oper} {o : Oper} {s : List AV} {K : AV → Prop} {t : TypeId} {n : Nat} {ps : Array (Nat × Operand)} (ho : o.op = .buildSlice t n ps) (h : softBuild P s t n ps.toList K) : ∃ v, (∀ H, Soft P ops o s H v) ∧ K v := by
  have h0 := h
  unfold softBuild at h
  split at h
  · rename_i ei rs h1 h2
    split at h
    · rename_i xs h3
      refine ⟨.c (.f (.sl n xs)), fun H => ?_, ?_⟩
      · have : softBuild P s t n ps.toList (fun v => v = .c (.f (.sl n xs))) := by
          unfold softBuild
          simp only [h1, h2, h3]
          obtain ⟨hz, hif⟩ := h
          refine ⟨hz, ?_⟩
          split at hif
          · rename_i hq; rw [if_pos hq]; trivial
          · exact hif.elim
        obtain ⟨v, q1, q2⟩ := softBuild_sound (ops := ops) (H := H) ho this
        rw [← q2]; exact q1
      · obtain ⟨hz, hif⟩ := h
        split at hif
        · exact hif
        · exact hif.elim
    · exact h.elim
  · exact h.elim
def softApp (P : Program) (s : List AV) (t : TypeId) (v x : AV) (K : AV → Prop) : Prop :=
  match sliceOf P t, v, x with
  | some ei, .c .emp, .c (.f (.sl m cs)) => okP (ei.zero.length = ei.size ∧ cs.length = m * ei.size ∧ m ≤ 9223372036854775807 ∧ m * ei.bytes ≤ 140737488355328) (K (.c (.f (.sl m cs))))
  | _, _, _ => False
theorem softApp_all {P : Program} {ops : Array Oper} {o : Oper} {s : List AV} {K : AV → Prop} {t : TypeId} {v x : Operand} (ho : o.op = .call ⟨.builtin .append, #[v, x], #[t, t]⟩) (h : softApp P s t (evO s v) (evO s x) K) : ∃ r, (∀ H, Soft P ops o s H r) ∧ K r := by
  unfold softApp at h
  split at h
  · rename_i ei m cs hs hv hx
    obtain ⟨⟨hz, hl, h63, h47⟩, hK⟩ := h
    obtain ⟨ti, e, k1, k2, k3⟩ := sliceOf_some hs
    refine ⟨_, fun H => Soft.ops (fun y hy => ?_) rfl (fun s' hs' => ?_), hK⟩
    · rw [ho] at hy
      simp only [Op.operands, Call.operands] at hy
      have : y = v ∨ y = x := by simpa using hy
      rcases this with rfl | rfl
      · rw [hv]; rfl
      · rw [hx]; rfl
    · have e1 : evO s' v = .c .emp := by rw [hs' v (by rw [ho]; simp [Op.operands, Call.operands])]; exact hv
      have e2 : evO s' x = .c (.f (.sl m cs)) := by rw [hs' x (by rw [ho]; simp [Op.operands, Call.operands])]; exact hx
      by_cases hm : m = 0
      · subst hm
        have hcs : cs = [] := List.eq_nil_of_length_eq_zero (by omega)
        subst hcs
        refine OpS.append_zero (n := 0) (l := []) ho k1 k2 k3 ?_ ?_ ?_
        · rw [e1]; rfl
        · rw [e2]; simp [elems]
        · rw [e1]; rfl
      · refine OpS.append_new (n := 0) (m := m) (l := []) (k := cs.map .f) ho k1 k2 k3 hz ?_ ?_ ?_ (by omega) (by omega) (by simpa using h47) fun g => ?_
        · rw [e1]; rfl
        · rw [e2]; simp only [elems]; rw [if_pos hl]
        · rw [e1]; simp [noRoom]
        · have : look [some (⟨g, ei.size, ([] : List CV) ++ cs.map .f⟩ : Blk)] 0 g = some ⟨g, ei.size, cs.map .f⟩ := by simp [look]
          simp only [List.length_nil, List.nil_append, frzA, frz1, frzC, frz]
          have l0 : look [some (⟨g, ei.size, cs.map .f⟩ : Blk)] 0 g = some ⟨g, ei.size, cs.map .f⟩ := by simp [look]
          rw [l0]
          simp only [List.drop_zero, Nat.zero_add]
          rw [List.take_of_length_le (by simp [hl]), frz_list]
          rfl
  · exact h.elim
def softW (P : Program) (ops : Array Oper) (o : Oper) (s : List AV) (K : AV → Prop) : Prop :=
  match o.op with
  | .buildSlice t n ps => if n = 0 ∧ ps = #[] then bindP (sliceOf P t) (fun _ => K (.c .emp)) else softBuild P s t n ps.toList K
  | .call ⟨.builtin .append, ⟨[v, x]⟩, ⟨[t, u]⟩⟩ => if t = u then softApp P s t (evO s v) (evO s x) K else False
  | _ => ∃ v, (∀ H, Soft P ops o s H v) ∧ K v
theorem softW_all {P : Program} {ops : Array Oper} {o : Oper} {s : List AV} {K : AV → Prop} (h : softW P ops o s K) : ∃ v, (∀ H, Soft P ops o s H v) ∧ K v := by
  unfold softW at h
  split at h
  · rename_i t n ps ho
    split at h
    · rename_i hn
      obtain ⟨rfl, rfl⟩ := hn
      obtain ⟨ei, h1, h2⟩ := h
      exact ⟨_, fun H => Soft.empty ho h1 H, h2⟩
    · exact softBuild_all ho h
  · rename_i v x t u ho
    split at h
    · rename_i htu; subst htu
      exact softApp_all ho h
    · exact h.elim
  · exact h
theorem softW_build0 {P : Program} {ops : Array Oper} {s : List AV} {K : AV → Prop} {d : Option Tmp} {t t' : TypeId} {p : String} {e : Array Edge} {g : Option (Nat × Bool)} : softW P ops ⟨d, .buildSlice t 0 #[], t', p, e, g⟩ s K = bindP (sliceOf P t) (fun _ => K (.c .emp)) := by
  simp [softW]
theorem softW_build {P : Program} {ops : Array Oper} {s : List AV} {K : AV → Prop} {d : Option Tmp} {t t' : TypeId} {p : String} {e : Array Edge} {g : Option (Nat × Bool)} {n : Nat} {ps : List (Nat × Operand)} : softW P ops ⟨d, .buildSlice t (n + 1) ps.toArray, t', p, e, g⟩ s K = softBuild P s t (n + 1) ps K := by
  simp [softW]
theorem softW_app {P : Program} {ops : Array Oper} {s : List AV} {K : AV → Prop} {d : Option Tmp} {t t' : TypeId} {p : String} {e : Array Edge} {g : Option (Nat × Bool)} {v x : Operand} : softW P ops ⟨d, .call ⟨.builtin .append, #[v, x], #[t, t]⟩, t', p, e, g⟩ s K = softApp P s t (evO s v) (evO s x) K := by
  simp [softW]
theorem softApp_sl {P : Program} {s : List AV} {t : TypeId} {m : Nat} {cs : List FV} {K : AV → Prop} : softApp P s t (.c .emp) (.c (.f (.sl m cs))) K = bindP (sliceOf P t) (fun ei => okP (ei.zero.length = ei.size ∧ cs.length = m * ei.size ∧ m ≤ 9223372036854775807 ∧ m * ei.bytes ≤ 140737488355328) (K (.c (.f (.sl m cs))))) := by
  unfold softApp
  cases sliceOf P t <;> simp [bindP]

section
variable (P : Program) (ops : Array Oper) (m : List Bool) (F : List Nat) (D : Option Nat) (r : List Nat) (G : Option Gh) (s : List AV) (H : Heap) (K : KS)
def lwF : List Nat → Option Gh → List AV → Heap → KS → Prop
  | [], G, s, H, K => realize G s H K
  | i :: r, G, s, H, K => match ops[i]? with
    | none => False
    | some o => if D = some i then bindP (ghV P s o) (fun e => e.d < s.length ∧ lwF r (some e) (putS s o.dst .any) H K) else match o.guard with
      | none => if isVal o.op = true then opW P o s (mask m H) (fun v _ => lwF r G (putS s o.dst v) H K) else if F.contains i = true then softW P ops o s (fun v => lwF r G (putS s o.dst v) H K) else if isMemo o.op = true then opW P o s H (fun v H' => okM m H H' ∧ lwF r G (putS s o.dst v) H' K) else Loud P ops o s H (fun v H' => okM m H H' ∧ lwF r G (putS s o.dst v) H' K)
      | some (j, want) => bindP (guardV ops s j) (fun g => guardP g want (if isVal o.op = true then opW P o s (mask m H) (fun v _ => lwF r G (putS s o.dst v) H K) else if F.contains i = true then softW P ops o s (fun v => lwF r G (putS s o.dst v) H K) else if isMemo o.op = true then opW P o s H (fun v H' => okM m H H' ∧ lwF r G (putS s o.dst v) H' K) else Loud P ops o s H (fun v H' => okM m H H' ∧ lwF r G (putS s o.dst v) H' K)) (lwF r G (putS s o.dst .void) H K))
def lwV (d : Option Tmp) : KV := fun v _ => lwF P ops m F D r G (putS s d v) H K
def lwL (d : Option Tmp) : KV := fun v H' => okM m H H' ∧ lwF P ops m F D r G (putS s d v) H' K
def lwG (d : Option Tmp) : Gh → Prop := fun e => e.d < s.length ∧ lwF P ops m F D r (some e) (putS s d .any) H K
def lwS (d : Option Tmp) : AV → Prop := fun v => lwF P ops m F D r G (putS s d v) H K
def lwOne (i : Nat) (o : Oper) : Prop := if isVal o.op = true then opW P o s (mask m H) (lwV P ops m F D r G s H K o.dst) else if F.contains i = true then softW P ops o s (lwS P ops m F D r G s H K o.dst) else if isMemo o.op = true then opW P o s H (lwL P ops m F D r G s H K o.dst) else Loud P ops o s H (lwL P ops m F D r G s H K o.dst)
def lwW (i : Nat) (o : Oper) (want : Bool) : Option Bool → Prop := fun g => guardP g want (lwOne P ops m F D r G s H K i o) (lwF P ops m F D r G (putS s o.dst .void) H K)
def lwO (i : Nat) : Option Oper → Prop
  | none => False
  | some o => if D = some i then bindP (ghV P s o) (lwG P ops m F D r s H K o.dst) else match o.guard with
    | none => lwOne P ops m F D r G s H K i o
    | some (j, want) => bindP (guardV ops s j) (lwW P ops m F D r G s H K i o want)
theorem lwF_cons (i : Nat) : lwF P ops m F D (i :: r) G s H K = lwO P ops m F D r G s H K i ops[i]? := by
  rw [lwF]
  cases ops[i]? with
  | none => rfl
  | some o => rfl
theorem lwOne_imp (ih : ∀ G s H, lwF P ops m F D r G s H K → lw P ops m F D r G s H K) (i : Nat) (o : Oper) (h : lwOne P ops m F D r G s H K i o) : (if isAt F i o = true then ∃ v, qv P ops m o s H v ∧ lw P ops m F D r G (putS s o.dst v) H K
          else Loud P ops o s H fun v H' => HLe (mask m H') (mask m H) ∧ lw P ops m F D r G (putS s o.dst v) H' K) := by
  unfold lwOne at h
  split at h
  · rename_i hv
    rw [if_pos (by simp only [isAt, hv, Bool.true_or])]
    simp only [opW, hv, if_true, bindP, atH, lwV] at h
    obtain ⟨v, h1, h2⟩ := h
    exact ⟨v, by unfold qv; rw [if_pos hv]; exact h1, ih _ _ _ h2⟩
  · rename_i hv
    split at h
    · rename_i hc
      rw [if_pos (by unfold isAt; rw [hc]; simp only [Bool.or_true])]
      obtain ⟨v, h1, h2⟩ := softW_all h
      exact ⟨v, by unfold qv; rw [if_neg hv]; exact h1, ih _ _ _ h2⟩
    · rename_i hc
      rw [if_neg (by simp only [isAt, Bool.or_eq_true]; exact fun h => h.elim hv hc)]
      have hL : Loud P ops o s H (lwL P ops m F D r G s H K o.dst) := by
        split at h
        · rename_i hm
          refine loudW_sound ?_
          unfold loudW
          rw [if_pos hm]
          simp only [opW, if_neg hv] at h
          exact h
        · exact h
      exact hL.mono fun v H' hk => ⟨hk.1, ih _ _ _ hk.2⟩
theorem lwF_nil : lwF P ops m F D [] G s H K = realize G s H K := by rw [lwF]
theorem lw_of : ∀ (r : List Nat) (G : Option Gh) (s : List AV) (H : Heap), lwF P ops m F D r G s H K → lw P ops m F D r G s H K
  | [], G, s, H, h => by rw [lwF_nil] at h; rw [lw]; exact h
  | i :: r, G, s, H, h => by
    have ih := lw_of r
    rw [lwF_cons] at h
    unfold lw
    cases ho : ops[i]? with
    | none => rw [ho] at h; exact h.elim
    | some o =>
      rw [ho] at h
      simp only [lwO] at h ⊢
      split at h
      · rename_i hD
        rw [if_pos hD]
        obtain ⟨e, h1, h2, h3⟩ := h
        exact ⟨e, h1, h2, ih _ _ _ h3⟩
      · rename_i hD
        rw [if_neg hD]
        split at h
        · rename_i hg; simp only [hg]; exact lwOne_imp P ops m F D r G s H K ih i o h
        · rename_i j want hg
          simp only [hg]
          obtain ⟨g, h1, h2, h3⟩ := h
          exact ⟨g, h1, fun he => lwOne_imp P ops m F D r G s H K ih i o (h2 he), fun hn => ih _ _ _ (h3 hn)⟩
theorem drawP_lF {P : Program} {ops : Array Oper} {s : List AV} {H : Heap} {K : KS} (π : List Nat) (F : List Nat) (D : Option Nat) (σ : List Nat) (m : List Bool) (hm : P.follows .mixedOrders = true) (hB : planB ops π F D σ = true) (h : lwF P ops m F D π none s H (swK P ops σ K)) : drawP P ops s H K :=
  drawP_l π F D σ m hm hB (lw_of P ops m F D _ π none s H h)
theorem lwO_some (i : Nat) (d : Option Tmp) (op : Op) (t : TypeId) (p : String) (e : Array Edge) :
    lwO P ops m F D r G s H K i (some ⟨d, op, t, p, e, none⟩) = if D = some i then bindP (ghV P s ⟨d, op, t, p, e, none⟩) (lwG P ops m F D r s H K d) else lwOne P ops m F D r G s H K i ⟨d, op, t, p, e, none⟩ := propext Iff.rfl
theorem lwO_guard (i : Nat) (d : Option Tmp) (op : Op) (t : TypeId) (p : String) (e : Array Edge) (j : Nat) (want : Bool) :
    lwO P ops m F D r G s H K i (some ⟨d, op, t, p, e, some (j, want)⟩) = if D = some i then bindP (ghV P s ⟨d, op, t, p, e, some (j, want)⟩) (lwG P ops m F D r s H K d) else bindP (guardV ops s j) (lwW P ops m F D r G s H K i ⟨d, op, t, p, e, some (j, want)⟩ want) := propext Iff.rfl
theorem lwOne_op (i : Nat) (d : Option Tmp) (op : Op) (t : TypeId) (p : String) (e : Array Edge) (g : Option (Nat × Bool)) :
    lwOne P ops m F D r G s H K i ⟨d, op, t, p, e, g⟩ = if isVal op = true then opW P ⟨d, op, t, p, e, g⟩ s (mask m H) (lwV P ops m F D r G s H K d) else if F.contains i = true then softW P ops ⟨d, op, t, p, e, g⟩ s (lwS P ops m F D r G s H K d) else if isMemo op = true then opW P ⟨d, op, t, p, e, g⟩ s H (lwL P ops m F D r G s H K d) else Loud P ops ⟨d, op, t, p, e, g⟩ s H (lwL P ops m F D r G s H K d) := propext Iff.rfl
theorem lwV_ap (d : Option Tmp) (v : AV) (H' : Heap) : lwV P ops m F D r G s H K d v H' = lwF P ops m F D r G (putS s d v) H K := propext Iff.rfl
theorem lwS_ap (d : Option Tmp) (v : AV) : lwS P ops m F D r G s H K d v = lwF P ops m F D r G (putS s d v) H K := propext Iff.rfl
theorem lwL_ap (d : Option Tmp) (v : AV) (H' : Heap) : lwL P ops m F D r G s H K d v H' = okP (okM m H H') (lwF P ops m F D r G (putS s d v) H' K) := propext Iff.rfl
theorem lwG_ap (d : Option Tmp) (e : Gh) : lwG P ops m F D r s H K d e = okP (e.d < s.length) (lwF P ops m F D r (some e) (putS s d .any) H K) := propext Iff.rfl
theorem lwW_ap (i : Nat) (d : Option Tmp) (op : Op) (t : TypeId) (p : String) (e : Array Edge) (gd : Option (Nat × Bool)) (want : Bool) (g : Option Bool) :
    lwW P ops m F D r G s H K i ⟨d, op, t, p, e, gd⟩ want g = guardP g want (lwOne P ops m F D r G s H K i ⟨d, op, t, p, e, gd⟩) (lwF P ops m F D r G (putS s d .void) H K) := propext Iff.rfl
theorem realize_none : realize none s H K = K s H := propext Iff.rfl
theorem realize_some (d : Tmp) (n : Option Nat) (sz : Nat) (cs : List CV) : realize (some ⟨d, n, sz, cs⟩) s H K = ∀ g, K (s.set d (ghA H.length g n)) (H ++ [some ⟨g, sz, cs⟩]) := propext Iff.rfl
def swO : Option Oper → Prop
  | none => False
  | some o => vw P ops [o] s H (swK P ops r K)
theorem sw_cons (i : Nat) : sw P ops (i :: r) s H K = swO P ops r s H K ops[i]? := by
  rw [sw]
  cases ops[i]? <;> rfl
theorem sw_nil : sw P ops [] s H K = K s H := by rw [sw]
theorem swO_some (o : Oper) : swO P ops r s H K (some o) = vw P ops [o] s H (swK P ops r K) := propext Iff.rfl
theorem swK_ap : swK P ops r K s H = sw P ops r s H K := propext Iff.rfl
end
theorem ghV_alloc {P : Program} {s : List AV} {d : Tmp} {t : TypeId} {t' : TypeId} {p : String} {e : Array Edge} {g : Option (Nat × Bool)} : ghV P s ⟨some d, .alloc t, t', p, e, g⟩ = match tinf P t with
    | some ti => if ti.zero.all constC = true then some ⟨d, none, ti.size, ti.zero⟩ else none
    | none => none := rfl
theorem ghV_make {P : Program} {s : List AV} {d : Tmp} {t : TypeId} {t' : TypeId} {p : String} {e : Array Edge} {g : Option (Nat × Bool)} {l c : Operand} : ghV P s ⟨some d, .makeSlice t l c, t', p, e, g⟩ = match sliceOf P t, evO s l, evO s c with
    | some ei, .c (.f (.int _ l)), .c (.f (.int _ c)) => if ei.zero.all constC ∧ ei.zero.length = ei.size ∧ (0 ≤ l ∧ l ≤ c) ∧ c ≤ 9223372036854775807 ∧ ei.bytes * c ≤ 281474976710656 then some ⟨d, some (cnt l), ei.size, zerosL (cnt l * ei.size) ei.zero⟩ else none
    | _, _, _ => none := rfl
section
variable {P : Program} {ops : Array Oper} {m : List Bool} {F : List Nat} {D : Option Nat} {i : Nat} {rl : List Nat} {G : Option Gh} {s : List AV} {H : Heap} {K : KS} {d : Option Tmp} {op : Op} {t : TypeId} {p : String} {e : Array Edge} {gd : Option (Nat × Bool)} {b w : Bool} {q : Prop} [Decidable q]
theorem lwW_tt : lwW P ops m F D rl G s H K i ⟨d, op, t, p, e, gd⟩ true (some true) = lwOne P ops m F D rl G s H K i ⟨d, op, t, p, e, gd⟩ := by rw [lwW_ap, guardP_tt]
theorem lwW_ff : lwW P ops m F D rl G s H K i ⟨d, op, t, p, e, gd⟩ false (some false) = lwOne P ops m F D rl G s H K i ⟨d, op, t, p, e, gd⟩ := by rw [lwW_ap, guardP_ff]
theorem lwW_tf : lwW P ops m F D rl G s H K i ⟨d, op, t, p, e, gd⟩ true (some false) = lwF P ops m F D rl G (putS s d .void) H K := by rw [lwW_ap, guardP_ft]
theorem lwW_ft : lwW P ops m F D rl G s H K i ⟨d, op, t, p, e, gd⟩ false (some true) = lwF P ops m F D rl G (putS s d .void) H K := by rw [lwW_ap, guardP_tf]
theorem lwW_no : lwW P ops m F D rl G s H K i ⟨d, op, t, p, e, gd⟩ w none = lwF P ops m F D rl G (putS s d .void) H K := by rw [lwW_ap, guardP_none]
theorem guardL_split (h1 : b = true → lwW P ops m F D rl G s H K i ⟨d, op, t, p, e, gd⟩ w (some true)) (h2 : b = false → lwW P ops m F D rl G s H K i ⟨d, op, t, p, e, gd⟩ w (some false)) : lwW P ops m F D rl G s H K i ⟨d, op, t, p, e, gd⟩ w (some b) := by
  cases b
  · exact h2 rfl
  · exact h1 rfl
theorem guardL_nb (h1 : b = true → lwW P ops m F D rl G s H K i ⟨d, op, t, p, e, gd⟩ w (some false)) (h2 : b = false → lwW P ops m F D rl G s H K i ⟨d, op, t, p, e, gd⟩ w (some true)) : lwW P ops m F D rl G s H K i ⟨d, op, t, p, e, gd⟩ w (some (!b)) := by
  cases b
  · exact h2 rfl
  · exact h1 rfl
theorem guardL_dec (h1 : q → lwW P ops m F D rl G s H K i ⟨d, op, t, p, e, gd⟩ w (some true)) (h2 : ¬ q → lwW P ops m F D rl G s H K i ⟨d, op, t, p, e, gd⟩ w (some false)) : lwW P ops m F D rl G s H K i ⟨d, op, t, p, e, gd⟩ w (some (decide q)) := by
  by_cases h : q
  · rw [decide_eq_true h]; exact h1 h
  · rw [decide_eq_false h]; exact h2 h
theorem guardL_ndec (h1 : q → lwW P ops m F D rl G s H K i ⟨d, op, t, p, e, gd⟩ w (some false)) (h2 : ¬ q → lwW P ops m F D rl G s H K i ⟨d, op, t, p, e, gd⟩ w (some true)) : lwW P ops m F D rl G s H K i ⟨d, op, t, p, e, gd⟩ w (some (!decide q)) := by
  by_cases h : q
  · rw [decide_eq_true h]; exact h1 h
  · rw [decide_eq_false h]; exact h2 h
end
/-! calls there -/
section
variable {P : Program} {ops : Array Oper} {o : Oper} {s : List AV} {H : Heap} {K : KV} {fo : Operand} {xs : Array Operand} {ts : Array TypeId} {f : FuncId} {args args' : List AV} {v : AV} {u : Value} {Q : KV}
theorem Loud.call (ho : o.op = .call ⟨.value fo, xs, ts⟩) (ha : callArgs ⟨s, H⟩ fo xs = some (f, args)) (h : ∀ s', callArgs ⟨s', H⟩ fo xs = some (f, args) → OpS P o ⟨s', H⟩ K) : Loud P ops o s H K :=
  Loud.of (h _ (by rw [callArgs_congr (s := s) (H := H) ts fun x hx => evO_restr (tmp_looks (by rw [ho]; exact hx))]; exact ha))
theorem Loud.rd (hc : Reads P f args' v) (he : Enters P f) (ho : o.op = .call ⟨.value fo, xs, ts⟩) (ha : callArgs ⟨s, H⟩ fo xs = some (f, args)) (hs : args.mapM (snapA H) = some args')
    (hf : flatV v = some u) (hk : K v H) : Loud P ops o s H K := Loud.call ho ha fun s' ha' => OpS.rd hc he ho ha' hs hf hk
theorem Loud.mk (hc : Reads P f args v) (he : Enters P f) (ho : o.op = .call ⟨.value fo, xs, ts⟩) (ha : callArgs ⟨s, H⟩ fo xs = some (f, args)) (hf : args.all frozenA = true)
    (ht : tupOk v = true) (hv : shiftA H.length v = v) (hk : K v H) : Loud P ops o s H K := Loud.call ho ha fun s' ha' => OpS.mk hc he ho ha' hf ht hv hk
theorem Loud.mkQ (hc : RunCall P f args [] Q) (he : Enters P f) (ho : o.op = .call ⟨.value fo, xs, ts⟩) (ha : callArgs ⟨s, H⟩ fo xs = some (f, args)) (hf : args.all frozenA = true)
    (hk : ∀ r H', Q r H' → tupOk r = true ∧ K (shiftA H.length r) (H ++ shiftH H.length H')) : Loud P ops o s H K := Loud.call ho ha fun s' ha' => OpS.mkQ hc he ho ha' hf hk
theorem Loud.mkS (hc : RunCall P f args' [] Q) (he : Enters P f) (ho : o.op = .call ⟨.value fo, xs, ts⟩) (ha : callArgs ⟨s, H⟩ fo xs = some (f, args)) (hf : args.mapM (snapA H) = some args')
    (hk : ∀ r H', Q r H' → (tupOk r = true ∧ scal1 r = true ∧ scalH H') ∧ K (shiftA H.length r) (H ++ shiftH H.length H')) : Loud P ops o s H K := Loud.call ho ha fun s' ha' => OpS.mkS hc he ho ha' hf hk
theorem Loud.run (hc : RunCall P f args H Q) (he : Enters P f) (ho : o.op = .call ⟨.value fo, xs, ts⟩) (ha : callArgs ⟨s, H⟩ fo xs = some (f, args)) (hk : ∀ r H', Q r H' → K r H') : Loud P ops o s H K :=
  Loud.call ho ha fun s' ha' => OpS.run hc he ho ha' hk
end
/-! structs out of their parts -/
theorem opW_build {P : Program} {s : List AV} {H : Heap} {F : KV} {d : Option Tmp} {t : TypeId} {p : String} {e : Array Edge} {g : Option (Nat × Bool)} (bt : TypeId) (ps : List (Nat × Operand)) : opW P ⟨d, .build bt ps.toArray, t, p, e, g⟩ s H F = aggM P s H bt ps F := propext Iff.rfl
theorem all_isSome_nil {P : Program} : (∀ f ∈ ([] : List (TypeId × Nat)), (tinf P f.1).isSome = true) = True := eq_true (by simp)
theorem all_isSome_cons {P : Program} {t : TypeId} {n : Nat} {l : List (TypeId × Nat)} : (∀ f ∈ (t, n) :: l, (tinf P f.1).isSome = true) = ((tinf P t).isSome = true ∧ ∀ f ∈ l, (tinf P f.1).isSome = true) := by simp

theorem minV_max (k k' : IntKind) (a b : Int) : minV true (.c (.f (.int k a))) (.c (.f (.int k' b))) = some (.c (.f (.int k (max a b)))) := by
  simp only [minV, if_true]
  congr 4
  split <;> omega
theorem minV_min (k k' : IntKind) (a b : Int) : minV false (.c (.f (.int k a))) (.c (.f (.int k' b))) = some (.c (.f (.int k (min a b)))) := by
  simp only [minV, Bool.false_eq_true, if_false]
  congr 4
  split <;> omega
attribute [go_sem] lwF_cons minV_max minV_min Option.map_none mask_nil mask_t mask_f mask_e okM_self okM_nil okM_app okM_cs okM_t okM_f lwF_nil lwO_some lwO_guard lwOne_op lwV_ap lwS_ap lwL_ap softW_build0 softW_build softW_app softApp_sl List.contains_cons List.contains_nil Bool.or_false Bool.false_or Nat.reduceBEq lwG_ap lwW_tt lwW_ff lwW_tf lwW_ft lwW_no realize_none realize_some sw_cons sw_nil swO_some swK_ap ghV_alloc ghV_make ghA
  isVal isMemo Option.some.injEq List.all_cons List.all_nil constC Bool.and_self opW_build aggM all_isSome_nil all_isSome_cons szOf

/-! memory whose cells are told one by one -/
theorem resV_cell (P : Program) (s : List AV) (H : Heap) (t : Nat) (ty : TypeId) : resV P s H [.cell t ty] = loadV P H ty (s.getD t .void) := by
  simp only [resV, resAll, resOne]
  cases loadV P H ty (s.getD t .void) <;> rfl
theorem ldP_zero {g sz : Nat} {c : CV} {l : List CV} : ldP (some ⟨g, sz, c :: l⟩) 0 = some (.c c) := rfl
theorem ldP_succ {g sz n : Nat} {c : CV} {l : List CV} : ldP (some ⟨g, sz, c :: l⟩) (n + 1) = ldP (some ⟨g, sz, l⟩) n := rfl
def ldN (b : Option Blk) (off n : Nat) : Option (List CV) := match b with
  | some b => if off + n ≤ b.cs.length then some ((b.cs.drop off).take n) else none
  | none => none
theorem cellsAt_ptr {H : Heap} {id g off n : Nat} : cellsAt H (.ptr id g off) n = ldN (look H id g) off n := rfl
theorem ldN_succ {g sz n off : Nat} {c : CV} {l : List CV} : ldN (some ⟨g, sz, c :: l⟩) (off + 1) n = ldN (some ⟨g, sz, l⟩) off n := by
  simp only [ldN, List.length_cons, List.drop_succ_cons]
  by_cases h : off + n ≤ l.length
  · rw [if_pos h, if_pos (by omega)]
  · rw [if_neg h, if_neg (by omega)]
theorem ldN_z {g sz : Nat} {l : List CV} : ldN (some ⟨g, sz, l⟩) 0 0 = some [] := by simp [ldN]
theorem ldN_zs {g sz n : Nat} {c : CV} {l : List CV} : ldN (some ⟨g, sz, c :: l⟩) 0 (n + 1) = (ldN (some ⟨g, sz, l⟩) 0 n).map (c :: ·) := by
  simp only [ldN, List.length_cons, List.drop_zero, List.take_succ_cons]
  by_cases h : 0 + n ≤ l.length
  · rw [if_pos h, if_pos (by omega)]; rfl
  · rw [if_neg h, if_neg (by omega)]; rfl
theorem setRange_z {l : List CV} : setRange l 0 [] = l := by simp [setRange]
theorem setRange_zs {c d : CV} {l m : List CV} : setRange (c :: l) 0 (d :: m) = d :: setRange l 0 m := by simp [setRange]
theorem setRange_s {c : CV} {l m : List CV} {n : Nat} : setRange (c :: l) (n + 1) m = c :: setRange l n m := by
  simp only [setRange, List.take_succ_cons, List.cons_append, List.cons.injEq, true_and]
  rw [show n + 1 + m.length = n + m.length + 1 by omega, List.drop_succ_cons]
theorem ldP_clj {α : Type} {E : α → List FV} {n : Nat} [Inhabited α] [hs : HSz E n] {g sz : Nat} {xs : List α} {e : Int} {j : Nat} (h : 0 ≤ e ∧ e < (xs.length : Int)) (hj : j < n) :
    ldP (some ⟨g, sz, cl E xs⟩) (0 + e.toNat * n + j) = some (.c (.f ((E (nth xs e)).getD j .nil))) := by
  have hi : e.toNat < xs.length := by omega
  have := fl_getAt (E := E) (xs := xs) hi hj
  rw [ldP_some, Nat.zero_add, nth_eq h]
  simp only [cl, List.getElem?_map, this, Option.map_some]
theorem ldN_cl {α : Type} {E : α → List FV} {n : Nat} [Inhabited α] [hs : HSz E n] {g sz : Nat} {xs : List α} {e : Int} (h : 0 ≤ e ∧ e < (xs.length : Int)) :
    ldN (some ⟨g, sz, cl E xs⟩) (0 + e.toNat * n) n = some ((E (nth xs e)).map .f) := by
  have hi : e.toNat < xs.length := by omega
  have h2 := fl_at (E := E) xs hi
  simp only [ldN, cl_length, Nat.zero_add]
  rw [if_pos (by rw [← Nat.succ_mul]; exact Nat.mul_le_mul_right _ hi), nth_eq h]
  simp only [cl, ← List.map_drop, ← List.map_take, h2]
theorem setRange_clI {α : Type} {E : α → List FV} {n : Nat} [hs : HSz E n] {xs : List α} {e : Int} {v : α} {l : List CV} (hl : (E v).map .f = l) (h : 0 ≤ e ∧ e < (xs.length : Int)) :
    setRange (cl E xs) (0 + e.toNat * n) l = cl E (xs.set e.toNat v) := by
  subst hl
  exact setRange_cl (E := E) (by omega)

theorem cutS_fl0 {α : Type} {E : α → List FV} {sz : Nat} [h : HSz E sz] {xs : List α} {b : Int} (hb : 0 ≤ b ∧ b ≤ xs.length) : cutS sz xs.length (fl E xs) 0 b.toNat = some (rsl E (sub xs 0 b)) := cutS_fl (a := 0) (by omega)
theorem cutS_flN {α : Type} {E : α → List FV} {sz : Nat} [h : HSz E sz] {xs : List α} {a : Int} (hb : 0 ≤ a ∧ a ≤ xs.length) : cutS sz xs.length (fl E xs) a.toNat xs.length = some (rsl E (sub xs a xs.length)) := cutS_fl (b := xs.length) (by omega)
theorem cutT_sub0 {l : List UInt8} {b : Int} (hb : 0 ≤ b ∧ b ≤ l.length) : cutT l 0 b.toNat = some (txt (sub l 0 b)) := cutT_sub (a := 0) (by omega)
theorem cutT_subN {l : List UInt8} {a : Int} (hb : 0 ≤ a ∧ a ≤ l.length) : cutT l a.toNat l.length = some (txt (sub l a l.length)) := cutT_sub (b := l.length) (by omega)
theorem bool_ff {q : Prop} [Decidable q] (h : ¬ q) : false = decide q := (decide_eq_false h).symm
theorem bool_tt {q : Prop} [Decidable q] (h : q) : true = decide q := (decide_eq_true h).symm
theorem bool_pq {p q : Prop} [Decidable p] [Decidable q] (h : p ↔ q) : decide p = decide q := decide_eq_decide.2 h
/-! rules, puzzles, games, lines of proofs -/
structure Rul where
  kind : Int
  cells : List Int
  val : Int
  deriving DecidableEq, Inhabited
structure Puz where
  size : Int
  given : List Int
  rules : List Rul
  deriving DecidableEq, Inhabited
structure Gam where
  task : Puz
  put : List Int
  moves : List Int
  deriving DecidableEq, Inhabited
structure Brn where
  tech : Int
  cell : Int
  deriving DecidableEq, Inhabited
structure Hnt where
  tech : Int
  cell : Int
  val : Int
  deriving DecidableEq, Inhabited
def eR (r : Rul) : List FV := [.int .i64 r.kind, fints r.cells, .int .i64 r.val]
instance : HSz eR 3 := ⟨fun _ => rfl⟩
def eB (b : Brn) : List FV := [.int .i64 b.tech, .int .i64 b.cell]
instance : HSz eB 2 := ⟨fun _ => rfl⟩
/-- A list of lists of numbers. -/
def eL (l : List Int) : List FV := [fints l]
instance : HSz eL 1 := ⟨fun _ => rfl⟩
theorem eR_0 (r : Rul) : (eR r).getD 0 .nil = .int .i64 r.kind := rfl
theorem eR_1 (r : Rul) : (eR r).getD 1 .nil = fints r.cells := rfl
theorem eR_2 (r : Rul) : (eR r).getD 2 .nil = .int .i64 r.val := rfl
theorem eB_0 (r : Brn) : (eB r).getD 0 .nil = .int .i64 r.tech := rfl
theorem eB_1 (r : Brn) : (eB r).getD 1 .nil = .int .i64 r.cell := rfl
theorem eL_0 (l : List Int) : (eL l).getD 0 .nil = fints l := rfl
abbrev cR (r : Rul) : List CV := [.f (.int .i64 r.kind), .f (fints r.cells), .f (.int .i64 r.val)]
abbrev cB (b : Brn) : List CV := [.f (.int .i64 b.tech), .f (.int .i64 b.cell)]
abbrev cP (p : Puz) : List CV := [.f (.int .i64 p.size), .f (fints p.given), .f (fsl eR p.rules)]
abbrev cG (g : Gam) : List CV := [.f (.int .i64 g.task.size), .f (fints g.task.given), .f (fsl eR g.task.rules), .f (fints g.put), .f (fints g.moves)]
abbrev cH (h : Hnt) : List CV := [.f (.int .i64 h.tech), .f (.int .i64 h.cell), .f (.int .i64 h.val)]
abbrev aR (r : Rul) : AV := .agg (cR r)
abbrev aB (b : Brn) : AV := .agg (cB b)
abbrev aP (p : Puz) : AV := .agg (cP p)
abbrev aG (g : Gam) : AV := .agg (cG g)
abbrev aH (h : Hnt) : AV := .agg (cH h)
theorem eR_map (r : Rul) : (eR r).map CV.f = cR r := rfl
theorem eB_map (r : Brn) : (eB r).map CV.f = cB r := rfl
theorem eL_map (r : List Int) : (eL r).map CV.f = [.f (fints r)] := rfl
theorem rul_eta (r : Rul) : (⟨r.kind, r.cells, r.val⟩ : Rul) = r := rfl

attribute [go_sem] cutS_fl0 cutS_flN cutT_sub0 cutT_subN resV_cell ldP_zero ldP_succ cellsAt_ptr ldN_succ ldN_z ldN_zs setRange_z setRange_zs setRange_s ldP_clj ldN_cl eR_0 eR_1 eR_2 eB_0 eB_1 eL_0 eR_map eB_map eL_map moved fieldV fieldA boxM
end Go.Lg

/- The order that is told, checked with what each operation waits for laid beside it. -/
set_option linter.unusedSimpArgs false
set_option linter.unusedVariables false
namespace Go.Lg

/-- What an operation waits for, out of what the ones before it wait for. -/
def maskOf (W : List Nat) (o : Oper) : Nat := o.after.toList.foldl (fun m e => if Region.binds .any e = true then m ||| 2 ^ e.on ||| W.getD e.on 0 else m) 0
def fixB (ops : Array Oper) (W : List Nat) : Bool := (List.range ops.size).all fun i => match ops[i]? with | some o => W.getD i 0 == maskOf W o | none => true
theorem maskOf_bit (W : List Nat) (j : Nat) : ∀ (l : List Edge) (m : Nat), (l.foldl (fun m e => if Region.binds .any e = true then m ||| 2 ^ e.on ||| W.getD e.on 0 else m) m).testBit j =
    (m.testBit j || l.any fun e => Region.binds .any e && (e.on == j || (W.getD e.on 0).testBit j))
  | [], m => by simp
  | e :: l, m => by
    rw [List.foldl_cons, maskOf_bit W j l]
    simp only [List.any_cons]
    by_cases hb : Region.binds .any e = true
    · simp only [hb, if_true, Bool.true_and, Nat.testBit_or, Nat.testBit_two_pow]
      have : decide (e.on = j) = (e.on == j) := by by_cases h : e.on = j <;> simp [h]
      rw [this]
      cases m.testBit j <;> cases (e.on == j) <;> cases (W.getD e.on 0).testBit j <;> simp
    · simp only [hb, Bool.false_and, Bool.false_or]
      simp
theorem waits_mask {ops : Array Oper} {W : List Nat} (hf : fixB ops W = true) (hb : ∀ i o, ops[i]? = some o → ∀ e ∈ o.after, Region.binds .any e = true → e.on < i) : ∀ (f i j : Nat), i < f → i < ops.size → waitsB ops f i j = (W.getD i 0).testBit j
  | 0, _, _, h, _ => by omega
  | f + 1, i, j, h, hi => by
    have ho : ops[i]? = some ops[i] := Array.getElem?_eq_getElem hi
    have hw : W.getD i 0 = maskOf W ops[i] := by
      have := List.all_eq_true.1 hf i (List.mem_range.2 hi)
      simp only [ho] at this
      simpa using this
    rw [hw, maskOf, maskOf_bit]
    simp only [waitsB, ho, Nat.zero_testBit, Bool.false_or]
    have e1 : ∀ e ∈ ops[i].after, Region.binds .any e = true → waitsB ops f e.on j = (W.getD e.on 0).testBit j := fun e he hbe => by
      have := hb i _ ho e he hbe
      exact waits_mask hf hb f e.on j (by omega) (by omega)
    rw [← Array.any_toList, ← Array.any_toList]
    have hm : ∀ l : List Edge, (∀ e ∈ l, e ∈ ops[i].after) → ((l.any fun e => Region.binds .any e && e.on == j) || l.any fun e => Region.binds .any e && waitsB ops f e.on j) = l.any fun e => Region.binds .any e && (e.on == j || (W.getD e.on 0).testBit j) := by
      intro l hl
      induction l with
      | nil => rfl
      | cons e l ih =>
        have ih := ih fun x hx => hl x (by simp [hx])
        have := e1 e (hl e (by simp))
        simp only [List.any_cons, ← ih]
        by_cases hbe : Region.binds .any e = true
        · rw [this hbe]
          simp only [hbe, Bool.true_and]
          cases (e.on == j) <;> cases (W.getD e.on 0).testBit j <;> simp
        · simp only [hbe, Bool.false_and, Bool.false_or]
    exact hm _ fun e he => by simpa using he
theorem pairsB_congr {f g : Nat → Nat → Bool} : ∀ (l : List Nat), (∀ i ∈ l, ∀ j ∈ l, f i j = g i j) → planB.pairsB f l = planB.pairsB g l
  | [], _ => rfl
  | i :: r, h => by
    simp only [planB.pairsB]
    rw [pairsB_congr r fun a ha b hb => h a (by simp [ha]) b (by simp [hb])]
    congr 1
    rw [Bool.eq_iff_iff]
    simp only [List.all_eq_true]
    exact ⟨fun k x hx => by rw [← h i (by simp) x (by simp [hx])]; exact k x hx, fun k x hx => by rw [h i (by simp) x (by simp [hx])]; exact k x hx⟩
def planM (ops : Array Oper) (π : List Nat) (F : List Nat) (D : Option Nat) (σ : List Nat) (W : List Nat) : Bool :=
  fixB ops W && (((List.range ops.size).all fun i => match ops[i]? with | some o => o.after.all fun e => !Region.binds .any e || decide (e.on < i) | none => true) &&
  ((List.range ops.size).all fun i => π.contains i || σ.contains i) && (π ++ σ).all (fun i => decide (i < ops.size)) && decide (π ++ σ).Nodup &&
  planB.pairsB (fun i j => !((W.getD i 0).testBit j) && (!(meets ops i j || meets ops j i) || (W.getD j 0).testBit i) && (isQuiet ops F D i || (W.getD j 0).testBit i)) π &&
  (match D with | some d => (match ops[d]? with | some o => o.guard.isNone && (match o.op with | .alloc _ => true | .makeSlice .. => true | _ => false) | none => false) && π.all (fun i => decide (i = d) || !meets ops i d) | none => true) &&
  σ.all (fun i => π.all fun j => (W.getD i 0).testBit j) && planB.pairsB (fun i j => (W.getD j 0).testBit i) σ)
theorem planB_of {ops : Array Oper} {π F : List Nat} {D : Option Nat} {σ W : List Nat} (h : planM ops π F D σ W = true) : planB ops π F D σ = true := by
  simp only [planM, Bool.and_eq_true] at h
  obtain ⟨hf, ⟨⟨⟨⟨⟨⟨h1, h2⟩, h3⟩, h4⟩, h5⟩, h6⟩, h7⟩, h8⟩ := h
  have hb : ∀ i o, ops[i]? = some o → ∀ e ∈ o.after, Region.binds .any e = true → e.on < i := fun i o ho e he hbe => by
    have hi : i < ops.size := (Array.getElem?_eq_some_iff.1 ho).1
    have := List.all_eq_true.1 h1 i (List.mem_range.2 hi)
    simp only [ho] at this
    have := Array.all_eq_true_iff_forall_mem.1 this e he
    simpa [hbe] using this
  have key : ∀ i j, i < ops.size → waitsB ops ops.size i j = (W.getD i 0).testBit j := fun i j hi => waits_mask hf hb _ i j hi hi
  have hlt : ∀ i ∈ π ++ σ, i < ops.size := fun i hi => by simpa using List.all_eq_true.1 h3 i hi
  have lp : ∀ i ∈ π, i < ops.size := fun i hi => hlt i (by simp [hi])
  have ls : ∀ i ∈ σ, i < ops.size := fun i hi => hlt i (by simp [hi])
  simp only [planB, Bool.and_eq_true]
  refine ⟨⟨⟨⟨⟨⟨⟨h1, h2⟩, h3⟩, h4⟩, ?_⟩, h6⟩, ?_⟩, ?_⟩
  · rw [pairsB_congr π fun i hi j hj => by rw [key i j (lp i hi), key j i (lp j hj)]]; exact h5
  · rw [List.all_eq_true] at h7 ⊢
    intro i hi
    have := h7 i hi
    rw [List.all_eq_true] at this ⊢
    intro j hj
    rw [key i j (ls i hi)]; exact this j hj
  · rw [pairsB_congr σ fun i hi j hj => by rw [key j i (ls j hj)]]; exact h8
theorem drawP_lM {P : Program} {ops : Array Oper} {s : List AV} {H : Heap} {K : KS} (π : List Nat) (F : List Nat) (D : Option Nat) (σ : List Nat) (m : List Bool) (W : List Nat) (hm : P.follows .mixedOrders = true) (hB : planM ops π F D σ W = true)
    (h : lwF P ops m F D π none s H (swK P ops σ K)) : drawP P ops s H K := drawP_lF π F D σ m hm (planB_of hB) h
end Go.Lg

/- What is the call's own, lists of rules with cells of their own: told, read deep, handed on. -/
set_option linter.unusedSimpArgs false
set_option linter.unusedVariables false
namespace Go.Lg

/-! ### lists, each element by so many cells of any kind -/
class HSzK {α : Type} (E : α → List CV) (n : outParam Nat) : Prop where
  sz : ∀ x, (E x).length = n
def kl {α : Type} (E : α → List CV) (xs : List α) : List CV := xs.flatMap E
section
variable {α : Type} {E : α → List CV} {n : Nat}
theorem kl_length [h : HSzK E n] (xs : List α) : (kl E xs).length = xs.length * n := by
  induction xs with
  | nil => simp [kl]
  | cons x xs ih => simp only [kl, List.flatMap_cons, List.length_append, h.sz, List.length_cons] at ih ⊢; rw [ih, Nat.add_mul]; omega
theorem kl_append (xs ys : List α) : kl E (xs ++ ys) = kl E xs ++ kl E ys := by simp [kl]
theorem kl_drop [h : HSzK E n] : ∀ (xs : List α) (i : Nat), (kl E xs).drop (i * n) = kl E (xs.drop i)
  | [], i => by simp [kl]
  | x :: xs, 0 => by simp
  | x :: xs, i + 1 => by
    have ih := kl_drop xs i
    have : (i + 1) * n = (E x).length + i * n := by rw [h.sz, Nat.add_mul]; omega
    rw [this]
    simp only [kl, List.flatMap_cons, List.drop_append, List.drop_succ_cons] at ih ⊢
    rw [List.drop_eq_nil_of_le (by omega), Nat.add_sub_cancel_left, ih]
    rfl
theorem kl_take [h : HSzK E n] : ∀ (xs : List α) (i : Nat), (kl E xs).take (i * n) = kl E (xs.take i)
  | [], i => by simp [kl]
  | x :: xs, 0 => by simp [kl]
  | x :: xs, i + 1 => by
    have ih := kl_take xs i
    have : (i + 1) * n = (E x).length + i * n := by rw [h.sz, Nat.add_mul]; omega
    rw [this]
    simp only [kl, List.flatMap_cons, List.take_append, List.take_succ_cons] at ih ⊢
    rw [List.take_of_length_le (by omega), Nat.add_sub_cancel_left, ih]
theorem kl_at [h : HSzK E n] (xs : List α) {i : Nat} (hi : i < xs.length) : ((kl E xs).drop (i * n)).take n = E xs[i] := by
  rw [kl_drop, List.drop_eq_getElem_cons hi]
  simp only [kl, List.flatMap_cons]
  rw [List.take_append_of_le_length (by rw [h.sz]; exact Nat.le_refl _), List.take_of_length_le (by rw [h.sz]; exact Nat.le_refl _)]
theorem kl_getAt [hs : HSzK E n] {xs : List α} {i j : Nat} (hi : i < xs.length) (hj : j < n) : (kl E xs)[i * n + j]? = (E xs[i])[j]? := by
  have h := kl_at (E := E) xs hi
  have h2 := congrArg (fun l => l[j]?) h
  simp only [List.getElem?_take_of_lt hj, List.getElem?_drop] at h2
  exact h2
theorem setRange_kl [hs : HSzK E n] {xs : List α} {i : Nat} {v : α} (h : i < xs.length) : setRange (kl E xs) (0 + i * n) (E v) = kl E (xs.set i v) := by
  have e1 : (kl E xs).take (0 + i * n) = kl E (xs.take i) := by rw [Nat.zero_add, kl_take]
  have e2 : (kl E xs).drop (0 + i * n + (E v).length) = kl E (xs.drop (i + 1)) := by
    rw [hs.sz, Nat.zero_add, ← Nat.succ_mul, kl_drop]
  rw [setRange, e1, e2, List.set_eq_take_append_cons_drop, if_pos h]
  simp [kl]
/-- One cell of an element. -/
theorem setRange_klj [hs : HSzK E n] {xs : List α} {i j : Nat} {c : CV} {v : α} (h : i < xs.length) (hj : j < n) (hv : E v = (E xs[i]).set j c) : setRange (kl E xs) (0 + i * n + j) [c] = kl E (xs.set i v) := by
  have hlen : (E xs[i]).length = n := hs.sz _
  have key : setRange (kl E xs) (0 + i * n + j) [c] = setRange (kl E xs) (0 + i * n) ((E xs[i]).set j c) := by
    apply List.ext_getElem?
    intro q
    have hl := kl_length (E := E) xs
    have hle : (i + 1) * n ≤ xs.length * n := Nat.mul_le_mul_right _ h
    rw [Nat.add_mul, Nat.one_mul] at hle
    have g1 : ∀ (m : List CV) (o : Nat), o + m.length ≤ (kl E xs).length → (setRange (kl E xs) o m)[q]? = if q < o then (kl E xs)[q]? else if q < o + m.length then m[q - o]? else (kl E xs)[q]? := by
      intro m o hm
      simp only [setRange]
      by_cases h1 : q < o
      · rw [if_pos h1, List.append_assoc, List.getElem?_append_left (by simp; omega), List.getElem?_take_of_lt h1]
      · rw [if_neg h1]
        by_cases h2 : q < o + m.length
        · rw [if_pos h2, List.append_assoc, List.getElem?_append_right (by simp; omega), List.length_take, Nat.min_eq_left (by omega), List.getElem?_append_left (by omega)]
        · rw [if_neg h2, List.getElem?_append_right (by simp; omega), List.length_append, List.length_take, Nat.min_eq_left (by omega), List.getElem?_drop]
          congr 1; omega
    rw [g1 _ _ (by simp; omega), g1 _ _ (by simp [hlen]; omega)]
    simp only [List.length_singleton, List.length_set, hlen]
    by_cases h1 : q < 0 + i * n
    · rw [if_pos (by omega), if_pos h1]
    · rw [if_neg h1]
      by_cases h2 : q < 0 + i * n + n
      · rw [if_pos h2]
        have hq : (kl E xs)[q]? = (E xs[i])[q - i * n]? := by
          rw [← kl_getAt h (show q - i * n < n by omega)]
          congr 1; omega
        by_cases h3 : q = 0 + i * n + j
        · rw [if_neg (by omega), if_pos (by omega)]
          have e1 : q - (0 + i * n + j) = 0 := by omega
          have e2 : q - (0 + i * n) = j := by omega
          rw [e1, e2]
          simp [hlen, hj]
        · have e2 : q - (0 + i * n) = q - i * n := by omega
          rw [e2, List.getElem?_set_ne (by omega)]
          by_cases h4 : q < 0 + i * n + j
          · rw [if_pos h4, hq]
          · rw [if_neg h4, if_neg (by omega), hq]
      · rw [if_neg (by omega), if_neg (by omega), if_neg h2]
  rw [key, ← hv]
  exact setRange_kl h
end

/-! ### slices of numbers of the call's own -/
/-- The slice is the call's own and reads so: in these blocks. -/
inductive OwnI (H : Heap) : CV → List Int → List Nat → Prop where
  | e : OwnI H (.f (.sl 0 [])) [] []
  | o (id g : Nat) (lim : Option Nat) (xs ys : List Int) (h : look H id g = some ⟨g, 1, cl (eI .i64) (xs ++ ys)⟩) : OwnI H (.own id g 0 xs.length lim) xs [id]
/-- All other blocks are as they were. -/
def Frm (H H' : Heap) (S : List Nat) : Prop := H'.length = H.length ∧ ∀ id, id ∉ S → H'[id]? = H[id]?
theorem Frm.refl (H : Heap) (S : List Nat) : Frm H H S := ⟨rfl, fun _ _ => rfl⟩
theorem Frm.trans {H H' H'' : Heap} {S : List Nat} (h : Frm H H' S) (k : Frm H' H'' S) : Frm H H'' S := ⟨k.1.trans h.1, fun id hi => (k.2 id hi).trans (h.2 id hi)⟩
theorem Frm.mono {H H' : Heap} {S T : List Nat} (h : Frm H H' S) (hs : ∀ i ∈ S, i ∈ T) : Frm H H' T := ⟨h.1, fun id hi => h.2 id fun hm => hi (hs id hm)⟩
theorem Frm.look {H H' : Heap} {S : List Nat} (h : Frm H H' S) {id g : Nat} (hi : id ∉ S) : look H' id g = look H id g := by
  unfold Lg.look; rw [h.2 id hi]
theorem Frm.set (H : Heap) (id : Nat) (b : Option Blk) : Frm H (H.set id b) [id] := ⟨by simp, fun i hi => by rw [List.getElem?_set_ne (by simp at hi; exact fun h => hi h.symm)]⟩
theorem OwnI.frm {H H' : Heap} {c : CV} {xs : List Int} {S T : List Nat} (h : OwnI H c xs S) (hf : Frm H H' T) (hd : ∀ i ∈ S, i ∉ T) : OwnI H' c xs S := by
  cases h with
  | e => exact .e
  | o id g lim xs ys h => exact .o id g lim xs ys (by rw [hf.look (hd id (by simp))]; exact h)
theorem OwnI.frz {H : Heap} {c : CV} {xs : List Int} {S : List Nat} (h : OwnI H c xs S) (n : Nat) : frz H (n + 1) c = some (fints xs) := by
  cases h with
  | e => cases n <;> rfl
  | o id g lim xs ys h =>
    simp only [Lg.frz, h, List.drop_zero]
    rw [cl_append, List.take_append_of_le_length (by rw [cl_length]; exact Nat.le_refl _), List.take_of_length_le (by rw [cl_length]; exact Nat.le_refl _), frz_cl]
    rfl

/-! ### rules with cells of their own -/
structure RO where
  r : Rul
  c : CV
  i : List Nat
  deriving Inhabited
def kR (o : RO) : List CV := [.f (.int .i64 o.r.kind), o.c, .f (.int .i64 o.r.val)]
instance : HSzK kR 3 := ⟨fun _ => rfl⟩
def kRo (o : Option RO) : List CV := match o with | none => [.f (.int .i64 0), .f .nil, .f (.int .i64 0)] | some o => kR o
instance : HSzK kRo 3 := ⟨fun o => by cases o <;> rfl⟩
theorem kl_kRo (l : List RO) : kl kRo (l.map some) = kl kR l := by simp only [kl, List.flatMap_map]; rfl
/-- A list of rules, all of it the call's own. -/
inductive OwnR (H : Heap) : CV → List Rul → List Nat → Prop where
  | e : OwnR H (.f (.sl 0 [])) [] []
  | o (id g : Nat) (lim : Option Nat) (l : List RO) (ys : List CV) (h : look H id g = some ⟨g, 3, kl kR l ++ ys⟩) (hi : ∀ o ∈ l, OwnI H o.c o.r.cells o.i) (hd : (id :: l.flatMap (·.i)).Nodup) (hy : ∀ c ∈ ys, scalC c = true) :
      OwnR H (.own id g 0 l.length lim) (l.map (·.r)) (id :: l.flatMap (·.i))
theorem OwnR.frm {H H' : Heap} {c : CV} {rs : List Rul} {S T : List Nat} (h : OwnR H c rs S) (hf : Frm H H' T) (hd : ∀ i ∈ S, i ∉ T) : OwnR H' c rs S := by
  cases h with
  | e => exact .e
  | o id g lim l ys h hi hn hy =>
    refine .o id g lim l ys (by rw [hf.look (hd id (by simp))]; exact h) (fun o ho => (hi o ho).frm hf fun i hm => hd i ?_) hn hy
    exact List.mem_cons_of_mem _ (List.mem_flatMap.2 ⟨o, ho, hm⟩)
theorem mapM_frz_kR {H : Heap} {n : Nat} : ∀ (l : List RO), (∀ o ∈ l, OwnI H o.c o.r.cells o.i) → (kl kR l).mapM (frz H (n + 1)) = some (fl eR (l.map (·.r)))
  | [], _ => rfl
  | o :: l, h => by
    have h1 := (h o (by simp)).frz n
    have h2 := mapM_frz_kR (n := n) l fun x hx => h x (by simp [hx])
    simp only [kl, List.flatMap_cons, kR, List.cons_append, List.nil_append] at h2 ⊢
    simp only [List.mapM_cons, h1, h2, Option.pure_def, Option.bind_eq_bind, Option.bind_some]
    rfl
theorem OwnR.frz {H : Heap} {c : CV} {rs : List Rul} {S : List Nat} (h : OwnR H c rs S) (n : Nat) : frz H (n + 2) c = some (fsl eR rs) := by
  cases h with
  | e => rfl
  | o id g lim l ys h hi hn hy =>
    simp only [Lg.frz, h, List.drop_zero]
    rw [List.take_append_of_le_length (by rw [kl_length]; exact Nat.le_refl _), List.take_of_length_le (by rw [kl_length]; exact Nat.le_refl _), mapM_frz_kR l hi]
    simp

/-! ### handed on to be read, to the bottom -/
def snapD (H : Heap) : AV → Option AV
  | .c x => (frzC H x).map .c
  | .agg cs => (cs.mapM (frzC H)).map .agg
  | .void => some .void
  | _ => none
theorem frz_still {w : World} {X : Cx} {H : Heap} (R : HRel w X H) : ∀ (n : Nat) (x : CV) (y : FV) (v : Value), frz H n x = some y → VC w X H x v → VF w (X.still w).I y v := by
  intro n x y v h hv
  refine VF.wide (fun b hb => ?_) (frz_sound R n x y v h hv)
  rcases hb with hb | ⟨id, blk, h1, h2⟩
  · exact R.imm b hb
  · obtain ⟨_, _, cc, t, h3, _⟩ := R.blk id blk h1
    rw [← h2]
    exact (Array.getElem?_eq_some_iff.1 h3).1
theorem frzC_still {w : World} {X : Cx} {H : Heap} (R : HRel w X H) {x y : CV} {v : Value} (h : frzC H x = some y) (hv : VC w X H x v) : VC w (X.still w) [] y v := by
  have hw : ∀ b, (X.ice H).I b → (X.still w).I b := fun b hb => by
    rcases hb with hb | ⟨id, blk, h1, h2⟩
    · exact R.imm b hb
    · obtain ⟨_, _, cc, t, h3, _⟩ := R.blk id blk h1
      rw [← h2]
      exact (Array.getElem?_eq_some_iff.1 h3).1
  have h2 := frzC_sound R h hv
  cases y with
  | f y => exact VF.wide hw h2
  | fp cs off => obtain ⟨b, o, k1, k2, k3⟩ := h2; exact ⟨b, o, k1, hw b k2, k3.mono (fun b hb => ⟨hw b hb, rfl⟩) k2⟩
  | nilp => exact h2
  | nilf => exact h2
  | emp => exact h2
  | ptr id g off => obtain ⟨k1, k2, k3⟩ := h2; exact ⟨k1, k2, fun hl => by simp [look] at hl⟩
  | own id g off n lim => obtain ⟨k1, k2, k3⟩ := h2; exact ⟨k1, k2, fun b hb => by simp [look] at hb⟩
  | fn f caps => exact h2
theorem snapD_still {w : World} {X : Cx} {H : Heap} (R : HRel w X H) {x y : AV} {v : Value} (h : snapD H x = some y) (hv : VA w X H x v) : VA w (X.still w) [] y v := by
  unfold snapD at h
  split at h
  · rename_i x
    cases hs : frzC H x with
    | none => simp [hs] at h
    | some z => simp [hs] at h; subst h; exact .c _ _ (frzC_still R hs (va_c hv))
  · rename_i cs
    cases hs : cs.mapM (frzC H) with
    | none => simp [hs] at h
    | some z =>
      simp [hs] at h; subst h
      obtain ⟨h1, h2⟩ := mapM_get hs
      cases hv with
      | agg cs vs hsz hc =>
        refine .agg _ _ (by omega) fun j hj => ?_
        obtain ⟨y, h3, h4⟩ := h2 j (by omega)
        obtain ⟨u, h5, h6⟩ := hc j (by omega)
        have : z[j] = y := by simpa [List.getElem?_eq_getElem hj] using h3
        rw [this]
        exact ⟨u, h5, frzC_still R h4 h6⟩
  · cases h; cases hv; exact .void
  · cases h
end Go.Lg

/- Calls that read what is the call's own to the bottom; what is the call's own, moved; puzzles and games of the call's own. -/
set_option linter.unusedSimpArgs false
set_option linter.unusedVariables false
namespace Go.Lg

section
variable {P : Program} {o : Oper} {st : St} {K : KV} {fo : Operand} {xs : Array Operand} {ts : Array TypeId} {f : FuncId} {args args' : List AV} {v : AV} {u : Value} {Q : KV}
/-- A call that reads to the bottom what is the call's own, and yields a plain value. -/
theorem OpS.rdD (hc : Reads P f args' v) (he : Enters P f) (ho : o.op = .call ⟨.value fo, xs, ts⟩) (ha : callArgs st fo xs = some (f, args)) (hs : args.mapM (snapD st.h) = some args')
    (hf : flatV v = some u) (hk : K v st.h) : OpS P o st K := by
  intro w X a R next Q hn
  obtain ⟨vs, h1, hvs⟩ := callArgs_sound (P := P) R ho ha he
  obtain ⟨hl, hgm⟩ := mapM_get hs
  have R0 : HRel w (X.still w) [] := ⟨fun b hb => hb, fun id b hb => by simp at hb, fun id id' b b' hb => by simp at hb⟩
  refine wp_enter (h1 w) ((hc w (X.still w) vs R0 ⟨by rw [hvs.1, hl], fun i hi => ?_⟩).mono fun e w'' ⟨r, u', X', H', k1, k2, k3, k4, k5⟩ => ⟨u, ?_, ?_⟩)
  · obtain ⟨x, q1, q2⟩ := hvs.2 i (by omega)
    obtain ⟨y, q3, q4⟩ := hgm i (by omega)
    have : args'[i] = y := by simpa [List.getElem?_eq_getElem hi] using q3
    rw [this]
    exact ⟨x, q1, snapD_still R.heap q4 q2⟩
  · have k5 : r = v := k5
    subst k5
    rw [k1, (flatV_sound hf).2 _ _ _ _ k2]
  · have hg : Grow w w'' := ⟨fun b hb => (k4.imm b hb).2, k4.size, k4.os, k4.tape, k4.output⟩
    exact hn v u X st.h w'' ((flatV_sound hf).1 _ _ _) (hg.rel R.heap) (hg.ev R.heap) hk
/-- A call that reads to the bottom what is the call's own, and makes something new. -/
theorem OpS.mkD (hc : RunCall P f args' [] Q) (he : Enters P f) (ho : o.op = .call ⟨.value fo, xs, ts⟩) (ha : callArgs st fo xs = some (f, args)) (hs : args.mapM (snapD st.h) = some args')
    (hk : ∀ r H', Q r H' → (tupOk r = true ∧ scal1 r = true ∧ scalH H') ∧ K (shiftA st.h.length r) (st.h ++ shiftH st.h.length H')) : OpS P o st K := by
  obtain ⟨h1, h2⟩ := target_of ha
  refine OpS.call ho h1 he ?_
  rw [h2]
  refine (RunCall.frameSn (snapD st.h) (fun w X x y v R h hv => snapD_still R h hv) hs hc fun r H' h => (hk r H' h).1).mono ?_
  rintro r H2 ⟨r', H', h3, rfl, rfl⟩
  exact (hk _ _ h3).2
end
section
variable {P : Program} {ops : Array Oper} {o : Oper} {s : List AV} {H : Heap} {K : KV} {fo : Operand} {xs : Array Operand} {ts : Array TypeId} {f : FuncId} {args args' : List AV} {v : AV} {u : Value} {Q : KV}
theorem Loud.rdD (hc : Reads P f args' v) (he : Enters P f) (ho : o.op = .call ⟨.value fo, xs, ts⟩) (ha : callArgs ⟨s, H⟩ fo xs = some (f, args)) (hs : args.mapM (snapD H) = some args')
    (hf : flatV v = some u) (hk : K v H) : Loud P ops o s H K := Loud.call ho ha fun s' ha' => OpS.rdD hc he ho ha' hs hf hk
theorem Loud.mkD (hc : RunCall P f args' [] Q) (he : Enters P f) (ho : o.op = .call ⟨.value fo, xs, ts⟩) (ha : callArgs ⟨s, H⟩ fo xs = some (f, args)) (hs : args.mapM (snapD H) = some args')
    (hk : ∀ r H', Q r H' → (tupOk r = true ∧ scal1 r = true ∧ scalH H') ∧ K (shiftA H.length r) (H ++ shiftH H.length H')) : Loud P ops o s H K := Loud.call ho ha fun s' ha' => OpS.mkD hc he ho ha' hs hk
end

/-! ### moved behind what is there -/
theorem look_shiftH {H0 H : Heap} {id g : Nat} {b : Blk} (h : look H id g = some b) : look (H0 ++ shiftH H0.length H) (id + H0.length) g = some (shiftB H0.length b) := by
  obtain ⟨h1, h2⟩ := look_some h
  have : (H0 ++ shiftH H0.length H)[id + H0.length]? = some (some (shiftB H0.length b)) := by
    rw [List.getElem?_append_right (by omega), Nat.add_sub_cancel]
    simp [shiftH, h1]
  have := look_of this
  simp only [shiftB] at this ⊢
  rw [h2] at this ⊢
  exact this
theorem look_appL {H H' : Heap} {id g : Nat} {b : Blk} (h : look H id g = some b) : look (H ++ H') id g = some b := (HLe.app H H').look h
theorem scalC_shift (k : Nat) (c : CV) : scalC (shiftC k c) = scalC c := by cases c <;> rfl
theorem OwnI.shift {H0 H : Heap} {c : CV} {xs : List Int} {S : List Nat} (h : OwnI H c xs S) : OwnI (H0 ++ shiftH H0.length H) (shiftC H0.length c) xs (S.map (· + H0.length)) := by
  cases h with
  | e => exact .e
  | o id g lim xs ys h =>
    refine .o (id + H0.length) g lim xs ys ?_
    rw [look_shiftH h]
    simp only [shiftB, shift_cl]
theorem OwnI.app {H H' : Heap} {c : CV} {xs : List Int} {S : List Nat} (h : OwnI H c xs S) : OwnI (H ++ H') c xs S := by
  cases h with
  | e => exact .e
  | o id g lim xs ys h => exact .o id g lim xs ys (look_appL h)
def RO.sh (k : Nat) (o : RO) : RO := ⟨o.r, shiftC k o.c, o.i.map (· + k)⟩
theorem kl_sh (k : Nat) (l : List RO) : (kl kR l).map (shiftC k) = kl kR (l.map (RO.sh k)) := by
  simp only [kl, List.map_flatMap, List.flatMap_map]; rfl
theorem OwnR.shift {H0 H : Heap} {c : CV} {rs : List Rul} {S : List Nat} (h : OwnR H c rs S) : OwnR (H0 ++ shiftH H0.length H) (shiftC H0.length c) rs (S.map (· + H0.length)) := by
  cases h with
  | e => exact .e
  | o id g lim l ys h hi hd hy =>
    have := OwnR.o (H := H0 ++ shiftH H0.length H) (id + H0.length) g lim (l.map (RO.sh H0.length)) (ys.map (shiftC H0.length)) (by
      rw [look_shiftH h]
      simp only [shiftB, List.map_append, kl_sh]) (fun o ho => by
      obtain ⟨p, hp, rfl⟩ := List.mem_map.1 ho
      exact (hi p hp).shift) (by
      have e : (id + H0.length) :: (l.map (RO.sh H0.length)).flatMap (·.i) = (id :: l.flatMap (·.i)).map (· + H0.length) := by
        simp only [List.map_cons, List.flatMap_map, List.map_flatMap]; rfl
      rw [e]
      exact List.pairwise_map.2 (hd.imp fun h he => h (by omega))) (fun c hc => by
      obtain ⟨d, hd, rfl⟩ := List.mem_map.1 hc
      rw [scalC_shift]; exact hy d hd)
    simp only [List.length_map, List.map_map, List.flatMap_map] at this
    simp only [shiftC, List.map_cons, List.map_flatMap]
    exact this
theorem OwnR.app {H H' : Heap} {c : CV} {rs : List Rul} {S : List Nat} (h : OwnR H c rs S) : OwnR (H ++ H') c rs S := by
  cases h with
  | e => exact .e
  | o id g lim l ys h hi hd hy => exact .o id g lim l ys (look_appL h) (fun o ho => (hi o ho).app) hd hy
theorem OwnI.frzC {H : Heap} {c : CV} {xs : List Int} {S : List Nat} (h : OwnI H c xs S) : Lg.frzC H c = some (.f (fints xs)) := by
  have := h.frz 5
  cases h with
  | e => rfl
  | o id g lim xs ys h => simp only [Lg.frzC, this, Option.map_some]
theorem OwnR.frzC {H : Heap} {c : CV} {rs : List Rul} {S : List Nat} (h : OwnR H c rs S) : Lg.frzC H c = some (.f (fsl eR rs)) := by
  have := h.frz 4
  cases h with
  | e => rfl
  | o id g lim l ys h hi hd hy => simp only [Lg.frzC, this, Option.map_some]
theorem OwnI.lt {H : Heap} {c : CV} {xs : List Int} {S : List Nat} (h : OwnI H c xs S) : ∀ i ∈ S, i < H.length := by
  cases h with
  | e => simp
  | o id g lim xs ys h => intro i hi; have : i = id := by simpa using hi
                          subst this; exact (List.getElem?_eq_some_iff.1 (look_some h).1).1
theorem OwnR.lt {H : Heap} {c : CV} {xs : List Rul} {S : List Nat} (h : OwnR H c xs S) : ∀ i ∈ S, i < H.length := by
  cases h with
  | e => simp
  | o id g lim l ys h hi hd hy =>
    intro i hm
    rcases List.mem_cons.1 hm with rfl | hm
    · exact (List.getElem?_eq_some_iff.1 (look_some h).1).1
    · obtain ⟨o, ho, hm⟩ := List.mem_flatMap.1 hm
      exact (hi o ho).lt i hm

theorem OwnI.nd {H : Heap} {c : CV} {xs : List Int} {S : List Nat} (h : OwnI H c xs S) : S.Nodup := by cases h <;> simp
theorem OwnR.nd {H : Heap} {c : CV} {xs : List Rul} {S : List Nat} (h : OwnR H c xs S) : S.Nodup := by
  cases h with
  | e => simp
  | o id g lim l ys h hi hd hy => exact hd
/-- A puzzle of the call's own. -/
structure OwnP (H : Heap) (cs : List CV) (p : Puz) (S : List Nat) : Prop where
  ex : ∃ c1 c2 S1 S2, cs = [.f (.int .i64 p.size), c1, c2] ∧ S = S1 ++ S2 ∧ OwnI H c1 p.given S1 ∧ OwnR H c2 p.rules S2
  nd : S.Nodup
structure OwnG (H : Heap) (cs : List CV) (q : Gam) (S : List Nat) : Prop where
  ex : ∃ c1 c2 c3 c4 S1 S2 S3 S4, cs = [.f (.int .i64 q.task.size), c1, c2, c3, c4] ∧ S = S1 ++ (S2 ++ (S3 ++ S4)) ∧ OwnI H c1 q.task.given S1 ∧ OwnR H c2 q.task.rules S2 ∧ OwnI H c3 q.put S3 ∧ OwnI H c4 q.moves S4
  nd : S.Nodup
theorem OwnP.snap {H : Heap} {cs : List CV} {p : Puz} {S : List Nat} (h : OwnP H cs p S) : snapD H (.agg cs) = some (aP p) := by
  obtain ⟨c1, c2, S1, S2, rfl, _, h1, h2⟩ := h.ex
  simp only [snapD, List.mapM_cons, List.mapM_nil, h1.frzC, h2.frzC, Option.pure_def, Option.bind_eq_bind, Option.bind_some]
  rfl
theorem OwnG.snap {H : Heap} {cs : List CV} {q : Gam} {S : List Nat} (h : OwnG H cs q S) : snapD H (.agg cs) = some (aG q) := by
  obtain ⟨c1, c2, c3, c4, S1, S2, S3, S4, rfl, _, h1, h2, h3, h4⟩ := h.ex
  simp only [snapD, List.mapM_cons, List.mapM_nil, h1.frzC, h2.frzC, h3.frzC, h4.frzC, Option.pure_def, Option.bind_eq_bind, Option.bind_some]
  rfl
theorem nodup_shift {S : List Nat} {k : Nat} (h : S.Nodup) : (S.map (· + k)).Nodup := List.pairwise_map.2 (h.imp fun h he => h (by omega))
theorem OwnP.shift {H0 H : Heap} {cs : List CV} {p : Puz} {S : List Nat} (h : OwnP H cs p S) : OwnP (H0 ++ shiftH H0.length H) (cs.map (shiftC H0.length)) p (S.map (· + H0.length)) := by
  obtain ⟨c1, c2, S1, S2, rfl, rfl, h1, h2⟩ := h.ex
  exact ⟨⟨_, _, _, _, rfl, by simp, h1.shift, h2.shift⟩, nodup_shift h.nd⟩
theorem OwnG.shift {H0 H : Heap} {cs : List CV} {q : Gam} {S : List Nat} (h : OwnG H cs q S) : OwnG (H0 ++ shiftH H0.length H) (cs.map (shiftC H0.length)) q (S.map (· + H0.length)) := by
  obtain ⟨c1, c2, c3, c4, S1, S2, S3, S4, rfl, rfl, h1, h2, h3, h4⟩ := h.ex
  exact ⟨⟨_, _, _, _, _, _, _, _, rfl, by simp, h1.shift, h2.shift, h3.shift, h4.shift⟩, nodup_shift h.nd⟩
theorem OwnP.app {H H' : Heap} {cs : List CV} {p : Puz} {S : List Nat} (h : OwnP H cs p S) : OwnP (H ++ H') cs p S := by
  obtain ⟨c1, c2, S1, S2, rfl, rfl, h1, h2⟩ := h.ex
  exact ⟨⟨_, _, _, _, rfl, rfl, h1.app, h2.app⟩, h.nd⟩
theorem OwnG.app {H H' : Heap} {cs : List CV} {q : Gam} {S : List Nat} (h : OwnG H cs q S) : OwnG (H ++ H') cs q S := by
  obtain ⟨c1, c2, c3, c4, S1, S2, S3, S4, rfl, rfl, h1, h2, h3, h4⟩ := h.ex
  exact ⟨⟨_, _, _, _, _, _, _, _, rfl, rfl, h1.app, h2.app, h3.app, h4.app⟩, h.nd⟩
theorem OwnG.frm {H H' : Heap} {cs : List CV} {q : Gam} {S T : List Nat} (h : OwnG H cs q S) (hf : Frm H H' T) (hd : ∀ i ∈ S, i ∉ T) : OwnG H' cs q S := by
  obtain ⟨c1, c2, c3, c4, S1, S2, S3, S4, rfl, rfl, h1, h2, h3, h4⟩ := h.ex
  refine ⟨⟨_, _, _, _, _, _, _, _, rfl, rfl, h1.frm hf fun i hi => hd i ?_, h2.frm hf fun i hi => hd i ?_, h3.frm hf fun i hi => hd i ?_, h4.frm hf fun i hi => hd i ?_⟩, h.nd⟩ <;> simp [hi]
theorem OwnP.frm {H H' : Heap} {cs : List CV} {p : Puz} {S T : List Nat} (h : OwnP H cs p S) (hf : Frm H H' T) (hd : ∀ i ∈ S, i ∉ T) : OwnP H' cs p S := by
  obtain ⟨c1, c2, S1, S2, rfl, rfl, h1, h2⟩ := h.ex
  refine ⟨⟨_, _, _, _, rfl, rfl, h1.frm hf fun i hi => hd i ?_, h2.frm hf fun i hi => hd i ?_⟩, h.nd⟩ <;> simp [hi]

theorem OwnI.same {H H' : Heap} {c : CV} {xs : List Int} {S : List Nat} (h : OwnI H c xs S) (hs : ∀ i ∈ S, H'[i]? = H[i]?) : OwnI H' c xs S := by
  cases h with
  | e => exact .e
  | o id g lim xs ys h => exact .o id g lim xs ys (by unfold look at *; rw [hs id (by simp)]; exact h)
theorem OwnR.same {H H' : Heap} {c : CV} {rs : List Rul} {S : List Nat} (h : OwnR H c rs S) (hs : ∀ i ∈ S, H'[i]? = H[i]?) : OwnR H' c rs S := by
  cases h with
  | e => exact .e
  | o id g lim l ys h hi hn hy =>
    refine .o id g lim l ys (by unfold look at *; rw [hs id (by simp)]; exact h) (fun o ho => (hi o ho).same fun i hm => hs i ?_) hn hy
    exact List.mem_cons_of_mem _ (List.mem_flatMap.2 ⟨o, ho, hm⟩)
theorem same3 {a b c a' b' c' : Option Blk} {H X : Heap} {S : List Nat} (hS : ∀ i ∈ S, 3 ≤ i ∧ i < 3 + H.length) : ∀ i ∈ S, (a' :: b' :: c' :: (H ++ X))[i]? = (a :: b :: c :: H)[i]? := by
  intro i hi
  obtain ⟨h1, h2⟩ := hS i hi
  obtain ⟨j, rfl⟩ : ∃ j, i = j + 3 := ⟨i - 3, by omega⟩
  simp only [List.getElem?_cons_succ]
  rw [List.getElem?_append_left (by omega)]
theorem OwnP.same {H H' : Heap} {cs : List CV} {p : Puz} {S : List Nat} (h : OwnP H cs p S) (hs : ∀ i ∈ S, H'[i]? = H[i]?) : OwnP H' cs p S := by
  obtain ⟨c1, c2, S1, S2, rfl, rfl, h1, h2⟩ := h.ex
  exact ⟨⟨_, _, _, _, rfl, rfl, h1.same fun i hi => hs i (by simp [hi]), h2.same fun i hi => hs i (by simp [hi])⟩, h.nd⟩
theorem OwnG.of {H : Heap} {z : Int} {c1 c2 c3 c4 : CV} {p : Puz} {xs ys : List Int} {S1 S2 S3 S4 : List Nat} (h : OwnP H [.f (.int .i64 z), c1, c2] p (S1 ++ S2)) (h3 : OwnI H c3 xs S3) (h4 : OwnI H c4 ys S4) (hn : (S1 ++ (S2 ++ (S3 ++ S4))).Nodup) :
    OwnG H [.f (.int .i64 z), c1, c2, c3, c4] ⟨p, xs, ys⟩ (S1 ++ (S2 ++ (S3 ++ S4))) := by
  obtain ⟨d1, d2, T1, T2, e1, e2, k1, k2⟩ := h.ex
  cases e1
  refine ⟨⟨_, _, _, _, T1, T2, S3, S4, rfl, ?_, k1, k2, h3, h4⟩, hn⟩
  rw [← List.append_assoc, e2, List.append_assoc]
theorem look_last {H : Heap} {g sz : Nat} {cs : List CV} : look (H ++ [some ⟨g, sz, cs⟩]) H.length g = some ⟨g, sz, cs⟩ := look_of (b := ⟨g, sz, cs⟩) (by simp)
theorem set_last {H : Heap} {x y : Option Blk} : (H ++ [x]).set H.length y = H ++ [y] := by rw [List.set_append_right _ _ (Nat.le_refl _), Nat.sub_self]; rfl
theorem look_app_lt {H H' : Heap} {id g : Nat} (h : id < H.length) : look (H ++ H') id g = look H id g := by
  unfold look; rw [List.getElem?_append_left h]
/-! ### calls that make such -/
def rulesQ (rs : List Rul) : KV := fun v H => ∃ c S, v = .c c ∧ OwnR H c rs S
def puzQ (p : Puz) : KV := fun v H => ∃ cs S, v = .agg cs ∧ OwnP H cs p S
def gamQ (q : Gam) : KV := fun v H => ∃ cs S, v = .agg cs ∧ OwnG H cs q S
theorem OwnP.lt {H : Heap} {cs : List CV} {p : Puz} {S : List Nat} (h : OwnP H cs p S) : ∀ i ∈ S, i < H.length := by
  obtain ⟨c1, c2, S1, S2, rfl, rfl, h1, h2⟩ := h.ex
  intro i hi
  rcases List.mem_append.1 hi with hi | hi
  · exact h1.lt i hi
  · exact h2.lt i hi
theorem OwnG.lt {H : Heap} {cs : List CV} {q : Gam} {S : List Nat} (h : OwnG H cs q S) : ∀ i ∈ S, i < H.length := by
  obtain ⟨c1, c2, c3, c4, S1, S2, S3, S4, rfl, rfl, h1, h2, h3, h4⟩ := h.ex
  intro i hi
  simp only [List.mem_append] at hi
  rcases hi with hi | hi | hi | hi
  · exact h1.lt i hi
  · exact h2.lt i hi
  · exact h3.lt i hi
  · exact h4.lt i hi
theorem shiftH_length (k : Nat) (H : Heap) : (shiftH k H).length = H.length := by simp [shiftH]
theorem shift_ge {S : List Nat} {k n : Nat} (h : ∀ i ∈ S, i < n) : ∀ i ∈ S.map (· + k), k ≤ i ∧ i < k + n := by
  intro i hi
  obtain ⟨x, hx, rfl⟩ := List.mem_map.1 hi
  have := h x hx
  omega
section
variable {P : Program} {o : Oper} {st : St} {K : KV} {fo : Operand} {xs : Array Operand} {ts : Array TypeId} {f : FuncId} {args args' : List AV}
theorem OpS.mkR {rs : List Rul} (hc : RunCall P f args [] (rulesQ rs)) (he : Enters P f) (ho : o.op = .call ⟨.value fo, xs, ts⟩) (ha : callArgs st fo xs = some (f, args)) (hf : args.all frozenA = true)
    (hk : ∀ c H' S, OwnR (st.h ++ H') c rs S → (∀ i ∈ S, st.h.length ≤ i ∧ i < st.h.length + H'.length) → K (.c c) (st.h ++ H')) : OpS P o st K :=
  OpS.mkQ hc he ho ha hf fun r H' ⟨c, S, h1, h2⟩ => by
    subst h1
    exact ⟨rfl, hk _ _ _ h2.shift (by rw [shiftH_length]; exact shift_ge h2.lt)⟩
theorem OpS.mkP {p : Puz} (hc : RunCall P f args [] (puzQ p)) (he : Enters P f) (ho : o.op = .call ⟨.value fo, xs, ts⟩) (ha : callArgs st fo xs = some (f, args)) (hf : args.all frozenA = true)
    (hk : ∀ cs H' S, OwnP (st.h ++ H') cs p S → (∀ i ∈ S, st.h.length ≤ i ∧ i < st.h.length + H'.length) → K (.agg cs) (st.h ++ H')) : OpS P o st K :=
  OpS.mkQ hc he ho ha hf fun r H' ⟨c, S, h1, h2⟩ => by
    subst h1
    exact ⟨rfl, hk _ _ _ h2.shift (by rw [shiftH_length]; exact shift_ge h2.lt)⟩
theorem OpS.mkG {q : Gam} (hc : RunCall P f args [] (gamQ q)) (he : Enters P f) (ho : o.op = .call ⟨.value fo, xs, ts⟩) (ha : callArgs st fo xs = some (f, args)) (hf : args.all frozenA = true)
    (hk : ∀ cs H' S, OwnG (st.h ++ H') cs q S → (∀ i ∈ S, st.h.length ≤ i ∧ i < st.h.length + H'.length) → K (.agg cs) (st.h ++ H')) : OpS P o st K :=
  OpS.mkQ hc he ho ha hf fun r H' ⟨c, S, h1, h2⟩ => by
    subst h1
    exact ⟨rfl, hk _ _ _ h2.shift (by rw [shiftH_length]; exact shift_ge h2.lt)⟩
end

/-! ### only what is told stays -/
/-- Only these blocks. -/
def keepH (S : List Nat) (H : Heap) : Heap := (List.range H.length).map fun i => if i ∈ S then H[i]?.join else none
theorem keepH_get {S : List Nat} {H : Heap} {i : Nat} (h : i ∈ S) (hl : i < H.length) : (keepH S H)[i]? = H[i]? := by
  simp [keepH, hl, h, List.getElem?_eq_getElem hl]
theorem keepH_some {S : List Nat} {H : Heap} {i : Nat} {b : Blk} (h : (keepH S H)[i]? = some (some b)) : i ∈ S ∧ H[i]? = some (some b) := by
  simp only [keepH, List.getElem?_map, Option.map_eq_some_iff] at h
  obtain ⟨j, h1, h2⟩ := h
  have hj := List.getElem?_eq_some_iff.1 h1
  obtain ⟨hj1, hj2⟩ := hj
  simp only [List.length_range, List.getElem_range] at hj1 hj2
  subst hj2
  split at h2
  · rename_i hm
    refine ⟨hm, ?_⟩
    rw [List.getElem?_eq_getElem hj1] at h2 ⊢
    simpa using h2
  · cases h2
theorem keepH_le (S : List Nat) (H : Heap) : HLe H (keepH S H) := fun id b h => (keepH_some h).2
theorem OwnI.blk {H : Heap} {c : CV} {xs : List Int} {S : List Nat} (h : OwnI H c xs S) : ∀ i ∈ S, ∀ b, H[i]? = some (some b) → ∀ x ∈ b.cs, scalC x = true := by
  cases h with
  | e => simp
  | o id g lim xs ys h =>
    intro i hi b hb x hx
    obtain rfl : i = id := by simpa using hi
    rw [(look_some h).1] at hb
    cases hb
    exact scal_own (g := g) (n := 1) (scalI .i64 (xs ++ ys)) 0 _ rfl x hx
theorem OwnI.scal1 {H : Heap} {c : CV} {xs : List Int} {S : List Nat} (h : OwnI H c xs S) : scalC c = true := by cases h <;> rfl
theorem OwnR.scal1 {H : Heap} {c : CV} {xs : List Rul} {S : List Nat} (h : OwnR H c xs S) : scalC c = true := by cases h <;> rfl
theorem OwnR.blk {H : Heap} {c : CV} {xs : List Rul} {S : List Nat} (h : OwnR H c xs S) : ∀ i ∈ S, ∀ b, H[i]? = some (some b) → ∀ x ∈ b.cs, scalC x = true := by
  cases h with
  | e => simp
  | o id g lim l ys h hi hd hy =>
    intro i hm b hb x hx
    rcases List.mem_cons.1 hm with rfl | hm
    · rw [(look_some h).1] at hb
      cases hb
      rcases List.mem_append.1 hx with hx | hx
      · obtain ⟨o, ho, hx⟩ := List.mem_flatMap.1 hx
        simp only [kR, List.mem_cons, List.not_mem_nil, or_false] at hx
        rcases hx with rfl | rfl | rfl
        · rfl
        · exact (hi o ho).scal1
        · rfl
      · exact hy x hx
    · obtain ⟨o, ho, hm⟩ := List.mem_flatMap.1 hm
      exact (hi o ho).blk i hm b hb x hx
theorem OwnP.blk {H : Heap} {cs : List CV} {p : Puz} {S : List Nat} (h : OwnP H cs p S) : (∀ i ∈ S, ∀ b, H[i]? = some (some b) → ∀ x ∈ b.cs, scalC x = true) ∧ cs.all scalC = true := by
  obtain ⟨c1, c2, S1, S2, rfl, rfl, h1, h2⟩ := h.ex
  refine ⟨fun i hi => ?_, by simp only [List.all_cons, List.all_nil, h1.scal1, h2.scal1, Bool.and_true]; rfl⟩
  rcases List.mem_append.1 hi with hi | hi
  · exact h1.blk i hi
  · exact h2.blk i hi
theorem OwnG.blk {H : Heap} {cs : List CV} {q : Gam} {S : List Nat} (h : OwnG H cs q S) : (∀ i ∈ S, ∀ b, H[i]? = some (some b) → ∀ x ∈ b.cs, scalC x = true) ∧ cs.all scalC = true := by
  obtain ⟨c1, c2, c3, c4, S1, S2, S3, S4, rfl, rfl, h1, h2, h3, h4⟩ := h.ex
  refine ⟨fun i hi => ?_, by simp only [List.all_cons, List.all_nil, h1.scal1, h2.scal1, h3.scal1, h4.scal1, Bool.and_true]; rfl⟩
  simp only [List.mem_append] at hi
  rcases hi with hi | hi | hi | hi
  · exact h1.blk i hi
  · exact h2.blk i hi
  · exact h3.blk i hi
  · exact h4.blk i hi
theorem OwnG.same {H H' : Heap} {cs : List CV} {q : Gam} {S : List Nat} (h : OwnG H cs q S) (hs : ∀ i ∈ S, H'[i]? = H[i]?) : OwnG H' cs q S := by
  obtain ⟨c1, c2, c3, c4, S1, S2, S3, S4, rfl, rfl, h1, h2, h3, h4⟩ := h.ex
  refine ⟨⟨_, _, _, _, _, _, _, _, rfl, rfl, h1.same fun i hi => hs i ?_, h2.same fun i hi => hs i ?_, h3.same fun i hi => hs i ?_, h4.same fun i hi => hs i ?_⟩, h.nd⟩ <;> simp [hi]
theorem scalH_keep {S : List Nat} {H : Heap} (h : ∀ i ∈ S, ∀ b, H[i]? = some (some b) → ∀ x ∈ b.cs, scalC x = true) : scalH (keepH S H) := fun id b hb c hc => by
  obtain ⟨h1, h2⟩ := keepH_some hb
  exact h id h1 b h2 c hc
/-- A game of the call's own, behind a function that makes the result of it. -/
def gamWQ (F : AV → AV) (q : Gam) : KV := fun v H => ∃ cs S, v = F (.agg cs) ∧ OwnG H cs q S
def gamWS (F : AV → AV) (q : Gam) : KV := fun v H => ∃ cs S, v = F (.agg cs) ∧ OwnG H cs q S ∧ scalH H ∧ cs.all scalC = true
theorem RunCall.gamS {P : Program} {f : FuncId} {args : List AV} {H : Heap} {F : AV → AV} {q : Gam} (h : RunCall P f args H (gamWQ F q)) : RunCall P f args H (gamWS F q) :=
  h.weaker fun v H' ⟨cs, S, h1, h2⟩ => ⟨keepH S H', keepH_le _ _, cs, S, h1, h2.same fun i hi => keepH_get hi (h2.lt i hi), scalH_keep h2.blk.1, h2.blk.2⟩
def withB (b : Bool) (v : AV) : AV := .tup [v, bool b]
section
variable {P : Program} {o : Oper} {st : St} {K : KV} {fo : Operand} {xs : Array Operand} {ts : Array TypeId} {f : FuncId} {args args' : List AV} {q : Gam}
theorem OpS.mkDG (hc : RunCall P f args' [] (gamQ q)) (he : Enters P f) (ho : o.op = .call ⟨.value fo, xs, ts⟩) (ha : callArgs st fo xs = some (f, args)) (hs : args.mapM (snapD st.h) = some args')
    (hk : ∀ cs H' S, OwnG (st.h ++ H') cs q S → (∀ i ∈ S, st.h.length ≤ i ∧ i < st.h.length + H'.length) → K (.agg cs) (st.h ++ H')) : OpS P o st K :=
  OpS.mkD (RunCall.gamS (F := id) hc) he ho ha hs fun r H' ⟨cs, S, h1, h2, h3, h4⟩ => by
    subst h1
    exact ⟨⟨rfl, h4, h3⟩, hk _ _ _ h2.shift (by rw [shiftH_length]; exact shift_ge h2.lt)⟩
theorem OpS.mkDGB {b : Bool} (hc : RunCall P f args' [] (gamWQ (withB b) q)) (he : Enters P f) (ho : o.op = .call ⟨.value fo, xs, ts⟩) (ha : callArgs st fo xs = some (f, args)) (hs : args.mapM (snapD st.h) = some args')
    (hk : ∀ cs H' S, OwnG (st.h ++ H') cs q S → (∀ i ∈ S, st.h.length ≤ i ∧ i < st.h.length + H'.length) → K (.tup [.agg cs, bool b]) (st.h ++ H')) : OpS P o st K :=
  OpS.mkD (RunCall.gamS hc) he ho ha hs fun r H' ⟨cs, S, h1, h2, h3, h4⟩ => by
    subst h1
    exact ⟨⟨rfl, by simp only [withB, Lg.scal1, List.all_cons, List.all_nil, scalA, h4, Bool.true_and, Bool.and_true]; rfl, h3⟩, hk _ _ _ h2.shift (by rw [shiftH_length]; exact shift_ge h2.lt)⟩
theorem Reads.ownG (h : RunCall P f args [] (gamQ q)) : Reads P f args (aG q) :=
  Reads.ice h fun r H' ⟨c, S, h1, h2⟩ => by
    subst h1
    exact h2.snap
theorem Reads.ownGB {b : Bool} (h : RunCall P f args [] (gamWQ (withB b) q)) : Reads P f args (.tup [aG q, bool b]) :=
  Reads.ice h fun r H' ⟨c, S, h1, h2⟩ => by
    subst h1
    have := h2.snap
    simp only [snapD] at this
    simp only [withB, frzA, List.mapM_cons, List.mapM_nil, frz1, this, Option.pure_def, Option.bind_eq_bind, Option.bind_some, Option.map_some, frzC, frz]
end

/-! ### a slice of numbers, new and the call's own -/
def ownIQ (xs : List Int) : KV := fun r H => ∃ c S, r = .c c ∧ OwnI H c xs S ∧ scalH H
theorem OwnI.scal {H : Heap} {c : CV} {xs : List Int} {S : List Nat} (h : OwnI H c xs S) : scalC c = true := by cases h <;> rfl
theorem scalH_none {H : Heap} (h : scalH H) : scalH (none :: H) := fun id b hb c hc => by
  cases id with
  | zero => simp at hb
  | succ id => exact h id b hb c hc
theorem scalH_ints {g n : Nat} {xs : List Int} {H : Heap} (h : scalH H) : scalH (some ⟨g, n, cl (eI .i64) xs⟩ :: H) := fun id b hb c hc => by
  cases id with
  | zero =>
    simp at hb
    subst hb
    exact scal_own (g := g) (n := n) (scalI .i64 xs) 0 _ rfl c hc
  | succ id => exact h id b hb c hc
theorem ownI_nil : OwnI [] (.f (.sl 0 [])) [] [] := .e
section
variable {P : Program} {o : Oper} {st : St} {K : KV} {fo : Operand} {xs : Array Operand} {ts : Array TypeId} {f : FuncId} {args args' : List AV} {zs : List Int}
theorem OpS.mkI (hc : RunCall P f args [] (ownIQ zs)) (he : Enters P f) (ho : o.op = .call ⟨.value fo, xs, ts⟩) (ha : callArgs st fo xs = some (f, args)) (hf : args.all frozenA = true)
    (hk : ∀ c H' S, OwnI (st.h ++ H') c zs S → (∀ i ∈ S, st.h.length ≤ i ∧ i < st.h.length + H'.length) → K (.c c) (st.h ++ H')) : OpS P o st K :=
  OpS.mkQ hc he ho ha hf fun r H' ⟨c, S, h1, h2, _⟩ => by
    subst h1
    exact ⟨rfl, hk _ _ _ h2.shift (by rw [shiftH_length]; exact shift_ge h2.lt)⟩
theorem OpS.mkDI (hc : RunCall P f args' [] (ownIQ zs)) (he : Enters P f) (ho : o.op = .call ⟨.value fo, xs, ts⟩) (ha : callArgs st fo xs = some (f, args)) (hs : args.mapM (snapD st.h) = some args')
    (hk : ∀ c H' S, OwnI (st.h ++ H') c zs S → (∀ i ∈ S, st.h.length ≤ i ∧ i < st.h.length + H'.length) → K (.c c) (st.h ++ H')) : OpS P o st K :=
  OpS.mkD hc he ho ha hs fun r H' ⟨c, S, h1, h2, h3⟩ => by
    subst h1
    exact ⟨⟨rfl, h2.scal, h3⟩, hk _ _ _ h2.shift (by rw [shiftH_length]; exact shift_ge h2.lt)⟩
theorem Reads.ownI {P : Program} {f : FuncId} {args : List AV} {zs : List Int} (h : RunCall P f args [] (ownIQ zs)) : Reads P f args (ints zs) :=
  Reads.ice h fun r H' ⟨c, S, h1, h2, _⟩ => by subst h1; simp only [frzA, frz1, h2.frzC, Option.map_some]
end
theorem snap_one {H : Heap} {x y : AV} (h : snapD H x = some y) : [x].mapM (snapD H) = some [y] := by
  simp only [List.mapM_cons, List.mapM_nil, h, Option.pure_def, Option.bind_eq_bind, Option.bind_some]
theorem snap_two {H : Heap} {x y x' y' : AV} (h : snapD H x = some y) (h' : snapD H x' = some y') : [x, x'].mapM (snapD H) = some [y, y'] := by
  simp only [List.mapM_cons, List.mapM_nil, h, h', Option.pure_def, Option.bind_eq_bind, Option.bind_some]
theorem snap_three {H : Heap} {x y x' y' z z' : AV} (h : snapD H x = some y) (h' : snapD H x' = some y') (h2 : snapD H z = some z') : [x, x', z].mapM (snapD H) = some [y, y', z'] := by
  simp only [List.mapM_cons, List.mapM_nil, h, h', h2, Option.pure_def, Option.bind_eq_bind, Option.bind_some]
theorem OwnI.snap {H : Heap} {c : CV} {xs : List Int} {S : List Nat} (h : OwnI H c xs S) : snapD H (.c c) = some (ints xs) := by
  simp only [snapD, h.frzC, Option.map_some]
theorem snapD_aG {H : Heap} {q : Gam} : snapD H (aG q) = some (aG q) := rfl
theorem snapD_aP {H : Heap} {q : Puz} : snapD H (aP q) = some (aP q) := rfl
theorem snapD_ints {H : Heap} {xs : List Int} : snapD H (ints xs) = some (ints xs) := rfl
theorem snapD_int {H : Heap} {x : Int} : snapD H (int x) = some (int x) := rfl
theorem fl_if {α β : Type} {E : α → List FV} {n : Nat} [HSz E n] {xs : List α} {x y : β} : (if (fl E xs).length = xs.length * n then x else y) = x := if_pos (fl_length xs)
theorem map_fl {α : Type} {E : α → List FV} {xs : List α} : (fl E xs).map CV.f = cl E xs := rfl
attribute [go_sem] fl_if map_fl
end Go.Lg

/- From the walk of a law to its row: arguments read as data, and what a call leaves. -/
set_option linter.unusedSimpArgs false
set_option linter.unusedVariables false
namespace Go.Lg
open Go.ChangeShapes Go.WideShapes Go.ChangeAt Go.RowKit
open Go.ChangeMaps (open_string)

/-- All that is there is read only. -/
def Cx.base (W : World) : Cx := ⟨fun _ => 0, fun _ => 0, fun b => b < W.heap.size, 0⟩
theorem base_rel (W : World) : HRel W (Cx.base W) [] := ⟨fun b hb => hb, fun id b hb => by simp at hb, fun id id' b b' hb => by simp at hb⟩

theorem Reads.below {P : Program} {f : FuncId} {args : List AV} {b : Bool} (h : Reads P f args (bool b)) {W : World} {vs : Array Value} (hv : VAs W (Cx.base W) [] args vs) :
    Calls P f vs W fun e W' => e = .returned (.bool b) ∧ Below W.heap.size W W' :=
  (h W (Cx.base W) vs (base_rel W) hv).mono fun e W' ⟨v, u, X', H', h1, h2, h3, h4, h5⟩ => by
    have h5 : v = bool b := h5
    subst h5
    refine ⟨by rw [h1, va_bool h2], h4.os, h4.tape, h4.output, h4.size, fun k hk => (h4.imm k hk).2⟩

theorem vas_nil {W : World} {X : Cx} {H : Heap} : VAs W X H [] #[] := ⟨rfl, fun i hi => absurd hi (Nat.not_lt_zero _)⟩
theorem vas_one {W : World} {X : Cx} {H : Heap} {x : AV} {v : Value} (h : VA W X H x v) : VAs W X H [x] #[v] :=
  ⟨rfl, fun i hi => by
    have : i = 0 := by simpa using hi
    subst this; exact ⟨v, rfl, h⟩⟩
theorem vas_two {W : World} {X : Cx} {H : Heap} {x y : AV} {v u : Value} (h : VA W X H x v) (k : VA W X H y u) : VAs W X H [x, y] #[v, u] :=
  ⟨rfl, fun i hi => by
    match i, hi with
    | 0, _ => exact ⟨v, rfl, h⟩
    | 1, _ => exact ⟨u, rfl, k⟩⟩
theorem vas_three {W : World} {X : Cx} {H : Heap} {x y z : AV} {v u t : Value} (h : VA W X H x v) (k : VA W X H y u) (l : VA W X H z t) : VAs W X H [x, y, z] #[v, u, t] :=
  ⟨rfl, fun i hi => by
    match i, hi with
    | 0, _ => exact ⟨v, rfl, h⟩
    | 1, _ => exact ⟨u, rfl, k⟩
    | 2, _ => exact ⟨t, rfl, l⟩⟩
theorem vas_four {W : World} {X : Cx} {H : Heap} {x y z s : AV} {v u t r : Value} (h : VA W X H x v) (k : VA W X H y u) (l : VA W X H z t) (m : VA W X H s r) : VAs W X H [x, y, z, s] #[v, u, t, r] :=
  ⟨rfl, fun i hi => by
    match i, hi with
    | 0, _ => exact ⟨v, rfl, h⟩
    | 1, _ => exact ⟨u, rfl, k⟩
    | 2, _ => exact ⟨t, rfl, l⟩
    | 3, _ => exact ⟨r, rfl, m⟩⟩

theorem va_txt {W : World} {X : Cx} {H : Heap} (s : ByteArray) : VA W X H (txt s.data.toList) (.string s) := by
  have : bs s.data.toList = s := by simp [bs]
  unfold txt
  rw [this]
  exact .c _ _ (VF.str _)
theorem str_len {s : ByteArray} (h : s.size ≤ maxLen) : s.data.toList.length ≤ 9223372036854775807 := by
  have : maxLen ≤ 9223372036854775807 := by decide
  simp only [Array.length_toList]
  exact Nat.le_trans h this
section
variable {H : Type} {enc : TypeId × Value → H} {P : Program} {W : World}
theorem fl_ints (k : IntKind) (xs : List Int) : fl (eI k) xs = xs.map (.int k) := by
  induction xs with
  | nil => rfl
  | cons x xs ih => simp only [fl, List.flatMap_cons, List.map_cons] at ih ⊢; rw [ih]; rfl

theorem read_ints {b0 : Nat} {r : Reach} {t e : TypeId} {k : IntKind} {v : Value} {d : DataW H} {ps : List MemPlace} (ht : P.underlying t = some (.slice e)) (he : P.underlying e = some (.int k)) (hc : P.cellsOf e = 1)
    (hval : Value.okWide P W r b0 t v) (h : DataW.Trod enc P W 0 (fun _ => true) true t v d ps) : ∃ xs : List Int, VA W (Cx.base W) [] (rsl (eI k) xs) v ∧ xs.length ≤ 9223372036854775807 ∧ ∀ x ∈ xs, (Lit.int k x).wf = true := by
  obtain ⟨a, len, cap, rfl⟩ := okWide_slice ht hval
  obtain ⟨fuel, hf⟩ := h
  rcases open_ints ht he hc hf with ⟨hcs, _⟩ | ⟨x, l, c, zs, hcs, _, hl, hm, hz, _, hcell, hwz⟩
  · simp [Value.cells] at hcs
    obtain ⟨rfl, rfl, rfl⟩ := hcs
    exact ⟨[], .c _ _ (VF.sl0 none 0), by simp, by simp⟩
  · simp [Value.cells] at hcs
    obtain ⟨rfl, rfl, rfl⟩ := hcs
    have hz : zs.length = cap := by simpa using hz
    have hlen : (zs.take len).length = len := by simp; omega
    refine ⟨zs.take len, ?_, by rw [hlen]; have : maxLen ≤ 9223372036854775807 := by decide
                                omega, fun y hy => hwz y (List.mem_of_mem_take hy)⟩
    by_cases h0 : len = 0
    · subst h0
      exact .c _ _ (VF.sl0 _ _)
    · have hlt : 0 < zs.length := by omega
      have hsp : x.spot = none := by
        have hx := hcell 0 hlt
        simp only [World.cell?] at hx
        split at hx
        · split at hx
          · cases hx
          · rename_i hsp; simpa [Addr.add] using hsp
        · cases hx
      obtain ⟨b, o, sp⟩ := x
      simp only at hsp
      subst hsp
      have hb : b < W.heap.size := World.block_lt_of_cell? W _ (hcell 0 hlt)
      have := VF.sl (w := W) (I := (Cx.base W).I) len (fl (eI k) (zs.take len)) b o cap (fun j => .int k (zs.getD j 0)) hl hb (fun j hj => by
        rw [fl_length, hlen] at hj
        have := hcell j (by omega)
        simpa [add_plain] using this) (fun j hj => by
        rw [fl_length, hlen] at hj
        have e : (fl (eI k) (zs.take len))[j]'(by rw [fl_length, hlen]; exact hj) = .int k (zs.getD j 0) := by
          simp only [fl_ints, List.getElem_map, List.getElem_take]
          simp [List.getD, List.getElem?_eq_getElem (show j < zs.length by omega)]
        rw [e]
        exact VF.int _ _)
      exact .c _ _ (by rw [fsl, hlen]; exact this)
end
end Go.Lg

/- Arguments of all kinds, read as what is only read. -/
set_option linter.unusedSimpArgs false
set_option linter.unusedVariables false
namespace Go.Lg
open Go.ChangeShapes Go.WideShapes Go.ChangeAt Go.RowKit

/-- Cells, one behind the other, as they read. -/
def CsF (w : World) (I : Nat → Prop) (ys : List FV) (cs : List Value) : Prop :=
  ys.length = cs.length ∧ ∀ j (h : j < ys.length), ∃ u, cs[j]? = some u ∧ VF w I ys[j] u

section
variable {w : World} {I : Nat → Prop}
theorem CsF.nil : CsF w I [] [] := ⟨rfl, fun j h => absurd h (Nat.not_lt_zero _)⟩
theorem CsF.one {y : FV} {v : Value} (h : VF w I y v) : CsF w I [y] [v] := ⟨rfl, fun j hj => by
  have : j = 0 := by simpa using hj
  subst this; exact ⟨v, rfl, h⟩⟩
theorem CsF.app {ys ys' : List FV} {cs cs' : List Value} (h : CsF w I ys cs) (h' : CsF w I ys' cs') : CsF w I (ys ++ ys') (cs ++ cs') := by
  refine ⟨by simp [h.1, h'.1], fun j hj => ?_⟩
  by_cases hl : j < ys.length
  · obtain ⟨u, h1, h2⟩ := h.2 j hl
    refine ⟨u, by rw [List.getElem?_append_left (by rw [← h.1]; exact hl)]; exact h1, ?_⟩
    rw [List.getElem_append_left hl]; exact h2
  · have hj' : j - ys.length < ys'.length := by simp at hj; omega
    obtain ⟨u, h1, h2⟩ := h'.2 _ hj'
    refine ⟨u, by rw [List.getElem?_append_right (by rw [← h.1]; omega), ← h.1]; exact h1, ?_⟩
    rw [List.getElem_append_right (by omega)]; exact h2
end

/-- What reads as a value of this type. -/
def Shp (P : Program) : Nat → TypeId → List FV → Prop
  | 0, _, _ => False
  | n + 1, t, ys => match P.underlying t with
    | some (.int k) => ∃ x, ys = [.int k x] ∧ (Lit.int k x).wf = true
    | some .bool => ∃ b, ys = [.bool b]
    | some .string => ∃ s : List UInt8, ys = [.str (bs s)] ∧ s.length ≤ 9223372036854775807
    | some (.slice e) => ∃ es : List (List FV), ys = [.sl es.length es.flatten] ∧ es.length ≤ 9223372036854775807 ∧ ∀ x ∈ es, Shp P n e x
    | some (.struct fs) => ∃ es : List (List FV), ys = es.flatten ∧ es.length = fs.size ∧ ∀ (i : Nat) (f : Field), fs[i]? = some f → ∃ x, es[i]? = some x ∧ Shp P n f.type x
    | _ => False

def contigB (P : Program) (tot : Nat) : Nat → List Field → Bool
  | o, [] => o == tot
  | o, f :: fs => f.offset == o && contigB P tot (o + P.cellsOf f.type) fs
def plainT (P : Program) : Nat → TypeId → Bool
  | 0, _ => false
  | n + 1, t => match P.underlying t with
    | some (.int _) => true
    | some .bool => true
    | some .string => true
    | some (.slice e) => decide (0 < P.cellsOf e) && plainT P n e
    | some (.struct fs) => contigB P (P.cellsOf t) 0 fs.toList && fs.toList.all fun f => plainT P n f.type
    | _ => false

theorem cell_plain {W : World} {a : Addr} {i : Nat} (hi : i = 0) {u : Value} (h : W.cell? ((a.add i).add 0) = some u) : a.spot = none := by
  simp only [World.cell?] at h
  split at h
  · split at h
    · cases h
    · rename_i hsp
      have : ((a.add i).add 0).spot = none := by simpa using hsp
      obtain ⟨b, o, sp⟩ := a
      cases sp with
      | none => rfl
      | some s => exfalso; revert this; unfold Addr.add; simp [hi]
  · cases h

section
variable {H : Type} {enc : TypeId × Value → H} {P : Program} {W : World}
theorem read_all : ∀ (n fuel : Nat) (t : TypeId) (cs : List Value) (x : DataW H × List MemPlace), plainT P n t = true → DataW.trod enc P W 0 (fun _ => true) true fuel t cs = some x →
    ∃ ys, CsF W (Cx.base W).I ys cs ∧ Shp P n t ys := by
  intro n
  induction n with
  | zero => intro fuel t cs x hp; simp [plainT] at hp
  | succ n ih =>
    intro fuel t cs x hp h
    unfold plainT at hp
    split at hp
    · rename_i k hu
      obtain ⟨m, rfl, rfl, hw⟩ := DataW.trod_int hu h
      exact ⟨[.int k m], CsF.one (VF.int k m), by unfold Shp; rw [hu]; exact ⟨m, rfl, hw⟩⟩
    · rename_i hu
      obtain ⟨b, rfl, rfl⟩ := DataW.trod_bool hu h
      exact ⟨[.bool b], CsF.one (VF.bool b), by unfold Shp; rw [hu]; exact ⟨b, rfl⟩⟩
    · rename_i hu
      obtain ⟨s, rfl, rfl, hs⟩ := DataW.trod_string hu h
      have e : bs s.data.toList = s := by simp [bs]
      exact ⟨[.str s], CsF.one (VF.str s), by unfold Shp; rw [hu]; exact ⟨s.data.toList, by rw [e], str_len hs⟩⟩
    · rename_i e hu
      simp only [Bool.and_eq_true, decide_eq_true_eq] at hp
      rcases DataW.trod_slice hu h with ⟨rfl, rfl⟩ | ⟨a, len, cap, elems, rest, m, rfl, rfl, rfl, hb, hl, hm, hlen, hel, _, _⟩
      · exact ⟨[.sl 0 []], CsF.one (VF.sl0 none 0), by unfold Shp; rw [hu]; exact ⟨[], rfl, by simp, by simp⟩⟩
      · have each : ∀ i, i < len → ∃ cs', W.cells? 0 (a.add (i * P.cellsOf e)) (P.cellsOf e) = some cs' ∧ ∃ ys, CsF W (Cx.base W).I ys cs' ∧ Shp P n e ys := by
          intro i hi
          have h1 := hel i hi
          rw [List.getElem?_eq_getElem (by omega)] at h1
          obtain ⟨cs', h2, h3⟩ := Option.bind_eq_some_iff.1 h1
          exact ⟨cs', h2, ih _ _ _ _ hp.2 h3⟩
        have hml : len ≤ 9223372036854775807 := by
          have : maxLen ≤ 9223372036854775807 := by decide
          omega
        by_cases h0 : len = 0
        · subst h0
          exact ⟨[.sl 0 []], CsF.one (VF.sl0 _ _), by unfold Shp; rw [hu]; exact ⟨[], rfl, by simp, by simp⟩⟩
        obtain ⟨b, o, sp⟩ := a
        have hsp : sp = none := by
          obtain ⟨cs', h2, ys, h3, h4⟩ := each 0 (by omega)
          obtain ⟨_, h5, h6⟩ := World.cells?_some h2
          have h7 := h6 0 hp.1
          rw [List.getElem?_eq_getElem (by omega)] at h7
          exact cell_plain (a := ⟨b, o, sp⟩) (Nat.zero_mul _) h7
        subst hsp
        have build : ∀ k, k ≤ len → ∃ es : List (List FV), es.length = k ∧ (∀ x ∈ es, Shp P n e x) ∧ es.flatten.length = k * P.cellsOf e ∧
            ∀ j (h : j < es.flatten.length), ∃ u, W.cell? ⟨b, o + j, none⟩ = some u ∧ VF W (Cx.base W).I es.flatten[j] u := by
          intro k
          induction k with
          | zero => intro _; exact ⟨[], rfl, by simp, by simp, fun j hj => absurd hj (by simp)⟩
          | succ k ihk =>
            intro hk
            obtain ⟨es, e1, e2, e3, e4⟩ := ihk (by omega)
            obtain ⟨cs', h2, ys, h3, h4⟩ := each k (by omega)
            obtain ⟨_, h5, h6⟩ := World.cells?_some h2
            have hys : ys.length = P.cellsOf e := by rw [h3.1, h5]
            refine ⟨es ++ [ys], by simp [e1], fun x hx => ?_, ?_, fun j hj => ?_⟩
            · rcases List.mem_append.1 hx with hx | hx
              · exact e2 x hx
              · have : x = ys := by simpa using hx
                subst this; exact h4
            · simp only [List.flatten_append, List.length_append, e3, List.flatten_cons, List.flatten_nil, List.append_nil, hys, Nat.add_mul, Nat.one_mul]
            · have hfl : (es ++ [ys]).flatten = es.flatten ++ ys := by simp
              by_cases hjl : j < es.flatten.length
              · obtain ⟨u, k1, k2⟩ := e4 j hjl
                refine ⟨u, k1, ?_⟩
                have : (es ++ [ys]).flatten[j] = es.flatten[j] := by simp only [hfl]; exact List.getElem_append_left hjl
                rw [this]; exact k2
              · have hj' : j - es.flatten.length < ys.length := by
                  have : j < (es.flatten ++ ys).length := by rw [← hfl]; exact hj
                  rw [List.length_append] at this; omega
                obtain ⟨u, k1, k2⟩ := h3.2 _ hj'
                have h8 := h6 (j - es.flatten.length) (by omega)
                rw [add_plain, add_plain, k1] at h8
                refine ⟨u, ?_, ?_⟩
                · rw [show o + k * P.cellsOf e + (j - es.flatten.length) = o + j by omega] at h8
                  exact h8
                · have : (es ++ [ys]).flatten[j] = ys[j - es.flatten.length] := by simp only [hfl]; exact List.getElem_append_right (by omega)
                  rw [this]; exact k2
        obtain ⟨es, e1, e2, e3, e4⟩ := build len (Nat.le_refl _)
        have hI : (Cx.base W).I b := by
          obtain ⟨u, k1, _⟩ := e4 0 (by rw [e3]; exact Nat.mul_pos (by omega) hp.1)
          exact World.block_lt_of_cell? W _ k1
        refine ⟨[.sl es.length es.flatten], CsF.one ?_, by unfold Shp; rw [hu]; exact ⟨es, rfl, by omega, e2⟩⟩
        rw [e1]
        refine VF.sl len es.flatten b o cap (fun j => (W.cell? ⟨b, o + j, none⟩).getD undef) hl hI (fun j hj => ?_) (fun j hj => ?_)
        · obtain ⟨u, k1, _⟩ := e4 j hj
          rw [k1]; rfl
        · obtain ⟨u, k1, k2⟩ := e4 j hj
          simp only [k1, Option.getD_some]; exact k2
    · rename_i fs hu
      simp only [Bool.and_eq_true, List.all_eq_true] at hp
      obtain ⟨xs, m, rfl, rfl, hl, hlen, hf⟩ := DataW.trod_struct hu h
      have go : ∀ (l : List Field) (o : Nat), contigB P (P.cellsOf t) o l = true → (∀ (i : Nat) (f : Field), l[i]? = some f → plainT P n f.type = true ∧ ∃ y, DataW.trod enc P W 0 (fun _ => true) true m f.type ((cs.drop f.offset).take (P.cellsOf f.type)) = some y) →
          ∃ es : List (List FV), CsF W (Cx.base W).I es.flatten (cs.drop o) ∧ es.length = l.length ∧ ∀ (i : Nat) (f : Field), l[i]? = some f → ∃ x, es[i]? = some x ∧ Shp P n f.type x := by
        intro l
        induction l with
        | nil =>
          intro o ho _
          simp only [contigB, beq_iff_eq] at ho
          refine ⟨[], ?_, rfl, fun i f hi => by simp at hi⟩
          rw [List.drop_eq_nil_of_le (by omega)]; exact CsF.nil
        | cons f l ihl =>
          intro o ho hall
          simp only [contigB, Bool.and_eq_true, beq_iff_eq] at ho
          obtain ⟨es, k1, k2, k3⟩ := ihl _ ho.2 fun i f' hi => hall (i + 1) f' hi
          obtain ⟨hp0, y, hy⟩ := hall 0 f rfl
          obtain ⟨ys, q1, q2⟩ := ih _ _ _ _ hp0 hy
          rw [ho.1] at q1
          refine ⟨ys :: es, ?_, by simp [k2], fun i f' hi => ?_⟩
          · have : cs.drop o = (cs.drop o).take (P.cellsOf f.type) ++ cs.drop (o + P.cellsOf f.type) := by
              rw [← List.drop_drop, List.take_append_drop]
            rw [this]
            exact q1.app k1
          · cases i with
            | zero =>
              have : f = f' := by simpa using hi
              subst this
              exact ⟨ys, rfl, q2⟩
            | succ i => exact k3 i f' hi
      obtain ⟨es, k1, k2, k3⟩ := go fs.toList 0 hp.1 fun i f hi => by
        have hi' : fs[i]? = some f := by simpa using hi
        refine ⟨hp.2 f (List.mem_of_getElem? hi), ?_⟩
        have := hf i f hi'
        have hlt : i < xs.length := by rw [hlen]; exact (Array.getElem?_eq_some_iff.1 hi').1
        rw [List.getElem?_eq_getElem hlt] at this
        exact ⟨_, this⟩
      refine ⟨es.flatten, by simpa using k1, ?_⟩
      unfold Shp; rw [hu]
      exact ⟨es, rfl, by simpa using k2, fun i f hi => k3 i f (by simpa using hi)⟩
    · cases hp

theorem read_one {t : TypeId} {v : Value} {d : DataW H} {ps : List MemPlace} (n : Nat) (hp : plainT P n t = true) (h : DataW.Trod enc P W 0 (fun _ => true) true t v d ps) :
    ∃ ys, CsF W (Cx.base W).I ys v.cells.toList ∧ Shp P n t ys := by
  obtain ⟨fuel, hf⟩ := h
  exact read_all n fuel t _ _ hp hf
theorem CsF.agg {ys : List FV} {cs : Array Value} (h : CsF W (Cx.base W).I ys cs.toList) : VA W (Cx.base W) [] (.agg (ys.map .f)) (.agg cs) := by
  refine .agg _ _ (by simpa using h.1.symm) fun j hj => ?_
  have hj' : j < ys.length := by simpa using hj
  obtain ⟨u, h1, h2⟩ := h.2 j hj'
  refine ⟨u, by simpa using h1, ?_⟩
  rw [List.getElem_map]; exact h2
theorem CsF.val {y : FV} {v : Value} (h : CsF W (Cx.base W).I [y] [v]) : VA W (Cx.base W) [] (.c (.f y)) v := by
  obtain ⟨u, h1, h2⟩ := h.2 0 (by simp)
  have : v = u := by simpa using h1
  subst this
  exact .c _ _ h2
theorem shp_list {α : Type} {E : α → List FV} {F : α → Prop} : ∀ {es : List (List FV)}, (∀ x ∈ es, ∃ a, x = E a ∧ F a) → ∃ xs : List α, es.length = xs.length ∧ es.flatten = fl E xs ∧ ∀ a ∈ xs, F a
  | [], _ => ⟨[], rfl, rfl, by simp⟩
  | x :: es, h => by
    obtain ⟨a, rfl, h1⟩ := h x (by simp)
    obtain ⟨xs, h2, h3, h4⟩ := shp_list (es := es) fun y hy => h y (by simp [hy])
    exact ⟨a :: xs, by simp [h2], by simp [fl, h3], fun b hb => by
      rcases List.mem_cons.1 hb with rfl | hb
      · exact h1
      · exact h4 b hb⟩
end
end Go.Lg
