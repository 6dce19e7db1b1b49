/- append to what the call owns; calls. -/
import Derived.Test.YtlpehaekjclgcaaLgJ
set_option linter.unusedSimpArgs false
set_option linter.unusedVariables false
namespace Go.Lg

/-- Appended at the end of a block of the call's own: whether there was room or not, the block takes a new name. -/
theorem OpS.append_own {P : Program} {o : Oper} {st : St} {K : AV → Heap → Prop} {t e : TypeId} {ti ei : TI} {s x : Operand} {id g n m : Nat} {b : Blk} {k : List CV}
    (ho : o.op = .call ⟨.builtin .append, #[s, x], #[t, t]⟩) (ht : tinf P t = some ti) (hk : ti.k = .slice e) (he : tinf P e = some ei) (hz : ei.zero.length = ei.size)
    (hs : evO st.s s = .c (.own id g 0 n none)) (hl : look st.h id g = some b) (hbs : b.sz = ei.size) (hbl : b.cs.length = n * ei.size)
    (hx : elems st.h ei.size (evO st.s x) = some (m, k)) (hm : 0 < m)
    (h63 : n + m ≤ 9223372036854775807) (h47 : (n + m) * ei.bytes ≤ 140737488355328)
    (hK : ∀ g', K (.c (.own id g' 0 (n + m) none)) (st.h.set id (some ⟨g', ei.size, b.cs ++ k⟩))) : OpS P o st K := by
  intro w X a R next Q hn
  obtain ⟨inf, d, z', i1, i2, i3, i4, i5, i6, i7⟩ := tinf_some ht
  rw [i5] at hk; cases tk_slice hk
  obtain ⟨infe, de, ze, e1, e2, e3, e4, e5, e6, e7⟩ := tinf_some he
  obtain ⟨hkl, xa, xc, xn, hxe, hx1, hx2, hx3, hx4, hx5⟩ := elems_sound R.heap hx (evO_sound R x)
  obtain ⟨xad, rfl, hxc⟩ := hx3 (by omega)
  have hze : ze.cells.size = ei.size := by
    obtain ⟨q1, _⟩ := mapM_get e4
    simp at q1; omega
  have hsv := evO_sound R s
  rw [hs] at hsv
  obtain ⟨hgt, _, hall⟩ := va_c hsv
  obtain ⟨c1, a0, cap, hse, c2, c3, c4, c5⟩ := hall b hl
  simp only [Nat.zero_add] at c4 c5
  obtain ⟨hid, hgg⟩ := look_some hl
  subst hgg
  obtain ⟨g1, g2, cc, tt, g3, g4, g5, g6⟩ := R.heap.blk id b hid
  have hlt : id < st.h.length := (List.getElem?_eq_some_iff.1 hid).1
  -- what is told of the new value
  have hval : ∀ (w' : World) (p c cap' : Nat), n + m ≤ cap' → cap' * ei.size ≤ c →
      VA w' (X.new p c) (st.h.set id (some ⟨X.t, ei.size, b.cs ++ k⟩)) (.c (.own id X.t 0 (n + m) none)) (.slice (some ⟨p, 0, none⟩) (n + m) cap') := by
    intro w' p c cap' q1 q2
    refine .c _ _ ⟨Nat.lt_succ_self _, rfl, fun blk hblk => ?_⟩
    obtain ⟨h5, h6⟩ := look_some hblk
    rw [List.getElem?_set_self hlt] at h5
    cases h5
    have hll : (b.cs ++ k).length = (n + m) * ei.size := by rw [List.length_append, hbl, hkl, Nat.add_mul]
    have : (n + m) * ei.size ≤ cap' * ei.size := Nat.mul_le_mul_right _ q1
    exact ⟨by simp only; omega, _, _, rfl, q1, fun _ => by simp [Cx.new], by simpa [Cx.new] using q2, by simp only; omega⟩
  by_cases hr : n + m ≤ cap
  · have ha0 := c3 (by omega)
    subst ha0
    have hle : n * ei.size + xn.length ≤ cc.size := by
      have : (n + m) * ei.size ≤ cap * ei.size := Nat.mul_le_mul_right _ hr
      rw [Nat.add_mul] at this
      rw [hx2, hkl, g4]
      rw [hbs] at c4
      omega
    obtain ⟨k1, k2, k3⟩ := setRow_world w (X.mu b.g) cc (cc.toList.take (n * ei.size) ++ xn ++ cc.toList.drop (n * ei.size + xn.length)).toArray tt (0, 0) g3
    have hst := run_storeCells_at (P := P) (X.mu b.g) (n * ei.size) tt xn 0 cc w g3 (by simpa using hle) hx5
    simp only [Nat.add_zero] at hst
    have hf := run_firstCells_some (P := P) w ei.size m xad m xc xn (by rw [hx2, hkl]) hxc
    have hrun : (Builtin.append_ #[t, t] o.type #[a.eval s, a.eval x]).run P w = .ok (.slice (some ⟨X.mu b.g, 0, none⟩) (n + m) cap) (w.setRow (X.mu b.g) (cc.toList.take (n * ei.size) ++ xn ++ cc.toList.drop (n * ei.size + xn.length)).toArray) := by
      rw [hse, hxe]
      simp [Builtin.append_, run_underlying i2, run_sizeOf' he, Builtin.lenOf, hr, hf, add_plain, hst]
    have hcs : (cc.toList.take (n * ei.size) ++ xn ++ cc.toList.drop (n * ei.size + xn.length)).toArray.size = cc.size := by simp; omega
    obtain ⟨q1, q2⟩ := ren_block (sz' := ei.size) (cs := b.cs ++ k) (cc := (cc.toList.take (n * ei.size) ++ xn ++ cc.toList.drop (n * ei.size + xn.length)).toArray) R.heap hid (.inl rfl) k1 (fun k _ h => k2 k h) (by omega) rfl rfl rfl
      (by rw [hcs, List.length_append, hbl, ← hx2]; exact hle) (fun j hj => by
        rw [setRow_get hle]
        by_cases h1 : j < b.cs.length
        · rw [if_neg (by omega), List.getElem_append_left h1]
          exact g6 j h1
        · have h2 : j - b.cs.length < k.length := by simp at hj; omega
          rw [if_pos (by omega), List.getElem_append_right (by omega)]
          obtain ⟨u, u1, u2⟩ := hx4 _ h2
          exact ⟨u, by rw [← hbl]; exact u1, u2⟩)
    refine wp_value (exec_append ho hrun) (hn _ _ _ _ _ (hval _ _ _ cap hr ?_) q1 q2 (hK _))
    rw [hcs, g4, ← hbs]; exact c4
  · have hcap : cap < n + m := by omega
    have holds : ∀ j v, (cc.toList.take (n * ei.size))[j]? = some v → w.cell? (a0.add j) = some v := by
      intro j v hj
      have hjl : j < n * ei.size := by
        rcases Nat.lt_or_ge j (n * ei.size) with h | h
        · exact h
        · rw [List.getElem?_eq_none (by simp; omega)] at hj; cases hj
      have h0 : cap ≠ 0 := by
        intro h0
        have : n = 0 := by omega
        rw [this] at hjl; simp at hjl
      rw [c3 h0, add_plain, Nat.zero_add]
      rw [List.getElem?_take_of_lt hjl] at hj
      simp [World.cell?, g3]
      simpa using hj
    have hcl : (cc.toList.take (n * ei.size)).length = n * ei.size := by simp; omega
    have hrun : (Builtin.append_ #[t, t] o.type #[a.eval s, a.eval x]).run P w = .ok (.slice (some ⟨w.heap.size, 0, none⟩) (n + m) (grownCap w (n + m) cap e))
        (w.drew.alloc (.cells ((cc.toList.take (n * ei.size)).toArray ++ xn.toArray ++ Builtin.zeroCells ze.cells (grownCap w (n + m) cap e - (n + m))) e)) := by
      rw [hse, hxe]
      exact run_append_grow (P := P) w t o.type e infe ze i2 e1 e3 a0 n cap _ (by rw [hcl, e6]) holds xad m xc xn (by rw [hx2, hkl, e6]) hxc hcap (by omega) (growslice_fits hcap (by rw [← e7]; exact h47))
    have hge := grownCap_ge w (n + m) cap e
    have hsz : ((cc.toList.take (n * ei.size)).toArray ++ xn.toArray ++ Builtin.zeroCells ze.cells (grownCap w (n + m) cap e - (n + m))).size = grownCap w (n + m) cap e * ei.size := by
      simp only [Array.size_append, List.size_toArray, size_zeroCells, hze, hcl, hx2, hkl, ← Nat.add_mul]
      congr 1
      omega
    have hle : (n + m) * ei.size ≤ grownCap w (n + m) cap e * ei.size := Nat.mul_le_mul_right _ hge
    obtain ⟨q1, q2⟩ := ren_block (w' := w.drew.alloc (.cells ((cc.toList.take (n * ei.size)).toArray ++ xn.toArray ++ Builtin.zeroCells ze.cells (grownCap w (n + m) cap e - (n + m))) e)) (sz' := ei.size) (cs := b.cs ++ k)
      (cc := (cc.toList.take (n * ei.size)).toArray ++ xn.toArray ++ Builtin.zeroCells ze.cells (grownCap w (n + m) cap e - (n + m))) R.heap hid (.inr rfl) (heap_alloc_new w.drew _) (fun k hk _ => by show (w.heap.push _)[k]? = _; rw [Array.getElem?_push, if_neg (by omega)]) (by simp) rfl rfl rfl
      (by rw [hsz, List.length_append, hbl, hkl, ← Nat.add_mul]; exact hle) (fun j hj => by
        by_cases h1 : j < b.cs.length
        · rw [List.getElem_append_left h1, Array.getElem?_append_left (by simp; omega), Array.getElem?_append_left (by simp; omega)]
          obtain ⟨u, u1, u2⟩ := g6 j h1
          refine ⟨u, ?_, u2⟩
          rw [hbl] at h1
          simp [List.getElem?_take_of_lt h1, u1]
        · have h2 : j - b.cs.length < k.length := by simp at hj; omega
          obtain ⟨u, u1, u2⟩ := hx4 _ h2
          refine ⟨u, ?_, by rw [List.getElem_append_right (by omega)]; exact u2⟩
          rw [Array.getElem?_append_left (by simp; omega), Array.getElem?_append_right (by simp; omega)]
          have : min (n * ei.size) cc.size = n * ei.size := by omega
          simpa [this, hbl] using u1)
    exact wp_value (exec_append ho hrun) (hn _ _ _ _ _ (hval _ _ _ _ hge (by rw [hsz]; exact Nat.le_refl _)) q1 q2 (hK _))

/-- Appended within a block of the call's own: there is room, for sure. -/
theorem OpS.append_in {P : Program} {o : Oper} {st : St} {K : AV → Heap → Prop} {t e : TypeId} {ti ei : TI} {s x : Operand} {id g off n m : Nat} {lim : Option Nat} {b : Blk} {k : List CV}
    (ho : o.op = .call ⟨.builtin .append, #[s, x], #[t, t]⟩) (ht : tinf P t = some ti) (hk : ti.k = .slice e) (he : tinf P e = some ei) (h0 : 0 < ei.size)
    (hs : evO st.s s = .c (.own id g off n lim)) (hl : look st.h id g = some b) (hbs : b.sz = ei.size) (hfit : off + (n + m) * ei.size ≤ b.cs.length) (hlim : n + m ≤ lim.getD (n + m))
    (hx : elems st.h ei.size (evO st.s x) = some (m, k)) (hm : 0 < m)
    (hK : K (.c (.own id g off (n + m) lim)) (st.h.set id (some ⟨b.g, b.sz, setRange b.cs (off + n * ei.size) k⟩))) : OpS P o st K := by
  intro w X a R next Q hn
  obtain ⟨inf, d, z', i1, i2, i3, i4, i5, i6, i7⟩ := tinf_some ht
  rw [i5] at hk; cases tk_slice hk
  obtain ⟨hkl, xa, xc, xn, hxe, hx1, hx2, hx3, hx4, hx5⟩ := elems_sound R.heap hx (evO_sound R x)
  obtain ⟨xad, rfl, hxc⟩ := hx3 (by omega)
  have hsv := evO_sound R s
  rw [hs] at hsv
  obtain ⟨hgt, _, hall⟩ := va_c hsv
  obtain ⟨c1, a0, cap, hse, c2, c3, c4, c5⟩ := hall b hl
  have hr : n + m ≤ cap := by
    cases lim with
    | none =>
      simp only at c5
      have : (n + m) * ei.size ≤ cap * ei.size := by rw [hbs] at c5; omega
      exact Nat.le_of_mul_le_mul_right this h0
    | some c => simp only at c5; simp at hlim; omega
  have ha0 := c3 (by omega)
  subst ha0
  have hfit' : off + n * ei.size + k.length ≤ b.cs.length := by rw [hkl]; rw [Nat.add_mul] at hfit; omega
  obtain ⟨w', h4, h5, h6⟩ := put_cells R.heap hl (o := off + n * ei.size) (cs := k) (vs := xn) hx2 hfit' hx4 hx5
  have hf := run_firstCells_some (P := P) w ei.size m xad m xc xn (by rw [hx2, hkl]) hxc
  have hrun : (Builtin.append_ #[t, t] o.type #[a.eval s, a.eval x]).run P w = .ok (.slice (some ⟨X.mu g, off, none⟩) (n + m) cap) w' := by
    rw [hse, hxe]
    simp [Builtin.append_, run_underlying i2, run_sizeOf' he, Builtin.lenOf, hr, hf, add_plain, h4]
  have hv : VC w' X (st.h.set id (some ⟨b.g, b.sz, setRange b.cs (off + n * ei.size) k⟩)) (.own id g off (n + m) lim) (.slice (some ⟨X.mu g, off, none⟩) (n + m) cap) := by
    refine ⟨hgt, rfl, fun blk hblk => ?_⟩
    obtain ⟨hid, hgg⟩ := look_some hl
    obtain ⟨q1, q2⟩ := look_some hblk
    have hlt : id < st.h.length := (List.getElem?_eq_some_iff.1 hid).1
    rw [List.getElem?_set_self hlt] at q1
    cases q1
    refine ⟨by simp only [setRange_length hfit', hbs]; exact hfit, _, _, rfl, hr, fun _ => rfl, c4, ?_⟩
    cases lim with
    | none => simpa [setRange_length hfit'] using c5
    | some c => exact c5
  exact wp_value (exec_append ho hrun) (hn _ _ _ _ _ (.c _ _ hv) h5 h6 hK)

/-- The function has a body that is entered. -/
def Enters (P : Program) (f : FuncId) : Prop := ∃ fn, P.funcs[f]? = some fn ∧ (fn.name == "runtime.NumGoroutine") = false ∧ fn.body.isNone = false

theorem run_callFunc {P : Program} {f : FuncId} (h : Enters P f) (args : Array Value) (w : World) : (callFunc f args).run P w = .ok (.enter f args) w := by
  obtain ⟨fn, h1, h2, h3⟩ := h
  simp only [callFunc, Sem.run_bind, run_program, Result.andThen_ok, h1, h2, h3, Bool.false_eq_true, if_false, Sem.run_ite, Sem.run_pure]

theorem wp_enter {P : Program} {o : Oper} {a : Act} {w : World} {f : FuncId} {args : Array Value} {next : Act → World → Prop} {Q : Exit → Act → World → Prop} (h : (execOp a.eval o).run P w = .ok (.enter f args) w)
    (hc : Calls P f args w fun e w' => ∃ u, e = .returned u ∧ next (a.put o.dst u) w') : o.wp P a w next Q := by
  unfold Oper.wp
  rw [h, Oper.upon_enter]
  refine hc.mono fun e w' ⟨u, he, hn⟩ => ?_
  subst he
  exact hn

/-- What is called, and with what: a function, or a closure with what it has captured. -/
def target (H : Heap) : AV → Option (FuncId × List AV)
  | .c (.fn f caps) => if caps.all fun c => (look H c.1 c.2).isSome then some (f, caps.map fun c => .c (.ptr c.1 c.2 0)) else none
  | _ => none

theorem OpS.call {P : Program} {o : Oper} {st : St} {K : AV → Heap → Prop} {fo : Operand} {xs : Array Operand} {ts : Array TypeId} {f : FuncId} {caps : List AV}
    (ho : o.op = .call ⟨.value fo, xs, ts⟩) (hf : target st.h (evO st.s fo) = some (f, caps)) (he : Enters P f)
    (hc : RunCall P f (xs.toList.map (evO st.s) ++ caps) st.h K) : OpS P o st K := by
  intro w X a R next Q hn
  have hfv := evO_sound R fo
  unfold target at hf
  split at hf
  · rename_i f' cs e
    split at hf
    · rename_i hall
      cases hf
      rw [e] at hfv
      obtain ⟨q1, _, q2⟩ := va_c hfv
      have hfe := q2 (fun c hc => List.all_eq_true.1 hall c hc)
      let args : Array Value := xs.map a.eval ++ (cs.map fun c => Value.pointer (some ⟨X.mu c.2, 0, none⟩)).toArray
      have hrun : (execOp a.eval o).run P w = .ok (.enter f args) w := by
        simp only [execOp, ho, resolve, Sem.run_bind, hfe, Deferred.ofValue, Sem.run_pure, Result.andThen_ok, invoke]
        rw [run_callFunc he]
        simp [args]
      refine wp_enter hrun ((hc w X args R.heap ⟨?_, fun i hi => ?_⟩).mono fun e' w' ⟨v, u, X', H', h1, h2, h3, h4, h5⟩ => ⟨u, h1, hn v u X' H' w' h2 h3 h4 h5⟩)
      · simp [args]
      · simp only [List.length_append, List.length_map, Array.length_toList] at hi
        by_cases hlt : i < xs.size
        · refine ⟨a.eval xs[i], ?_, ?_⟩
          · simp only [args]
            rw [Array.getElem?_append_left (by simpa using hlt)]
            simp [hlt]
          · rw [List.getElem_append_left (by simpa using hlt)]
            simp only [List.getElem_map, Array.getElem_toList]
            exact evO_sound R _
        · have h2 : i - xs.size < cs.length := by omega
          refine ⟨.pointer (some ⟨X.mu (cs[i - xs.size]).2, 0, none⟩), ?_, ?_⟩
          · simp only [args]
            rw [Array.getElem?_append_right (by simp; omega)]
            simp [h2]
          · rw [List.getElem_append_right (by simp; omega)]
            simp only [List.getElem_map, List.length_map, Array.length_toList]
            exact .c _ _ ⟨q1 _ (List.getElem_mem h2), rfl, fun _ => rfl⟩
    · cases hf
  · cases hf
end Go.Lg
