/- append. -/
import Derived.Test.YtlpehaekjclgcaaLgI
set_option linter.unusedSimpArgs false
set_option linter.unusedVariables false
namespace Go.Lg

/-- How many elements a slice has, and their cells. -/
def elems (H : Heap) (sz : Nat) : AV → Option (Nat × List CV)
  | .c (.f .nil) => some (0, [])
  | .c .emp => some (0, [])
  | .c (.f (.sl n cs)) => if cs.length = n * sz then some (n, cs.map .f) else none
  | .c (.own id g off n _) => match look H id g with
    | some b => if b.sz = sz then some (n, (b.cs.drop off).take (n * sz)) else none
    | none => none
  | _ => none

theorem elems_sound {w : World} {X : Cx} {H : Heap} (R : HRel w X H) {sz n : Nat} {x : AV} {l : List CV} {xv : Value} (h : elems H sz x = some (n, l)) (hx : VA w X H x xv) :
    l.length = n * sz ∧ ∃ (a : Option Addr) (c : Nat) (news : List Value), xv = .slice a n c ∧ n ≤ c ∧ news.length = l.length ∧
      (n ≠ 0 → ∃ ad, a = some ad ∧ ∀ j v, news[j]? = some v → w.cell? (ad.add j) = some v) ∧
      (∀ j (h : j < l.length), ∃ u, news[j]? = some u ∧ VC w X H l[j] u) ∧ ∀ u ∈ news, u.oneCell' = true := by
  unfold elems at h
  split at h
  · cases h
    have := va_c hx; cases this
    exact ⟨by simp, none, 0, [], rfl, Nat.le_refl _, rfl, fun h => absurd rfl h, fun j hj => absurd hj (by simp), by simp⟩
  · cases h
    obtain ⟨a, rfl⟩ := va_c hx
    exact ⟨by simp, a, 0, [], rfl, Nat.le_refl _, rfl, fun h => absurd rfl h, fun j hj => absurd hj (by simp), by simp⟩
  · rename_i n' cs
    split at h
    · rename_i hl
      cases h
      have hx' := va_c hx
      cases hx' with
      | sl0 a cap => exact ⟨by simp, a, cap, [], rfl, Nat.zero_le _, rfl, fun h => absurd rfl h, fun j hj => absurd hj (by simp), by simp⟩
      | sl n cs b o cap u hc hI hu hv =>
        refine ⟨by simpa using hl, some ⟨b, o, none⟩, cap, (List.range cs.length).map u, rfl, hc, by simp, fun _ => ⟨_, rfl, fun j v hj => ?_⟩, fun j hj => ?_, fun v hv' => ?_⟩
        · simp only [List.getElem?_map] at hj
          by_cases hlt : j < cs.length
          · simp [hlt] at hj
            rw [add_plain, hu j hlt, hj]
          · simp [hlt] at hj
        · have hlt : j < cs.length := by simpa using hj
          refine ⟨u j, by simp [hlt], ?_⟩
          simp only [List.getElem_map]
          exact hv j hlt
        · obtain ⟨j, hj, rfl⟩ := List.mem_map.1 hv'
          exact (hv j (by simpa using hj)).one
    · cases h
  · rename_i id g off n' lim
    split at h
    · rename_i b hl
      split at h
      · rename_i hsz
        cases h
        obtain ⟨hg, _, hall⟩ := va_c hx
        obtain ⟨c1, a0, cap, rfl, c2, c3, c4, c5⟩ := hall b hl
        obtain ⟨hid, hgg⟩ := look_some hl
        subst hgg
        obtain ⟨_, _, cc, t, g3, g4, g5, g6⟩ := R.blk id b hid
        subst hsz
        have hlen : ((b.cs.drop off).take (n * b.sz)).length = n * b.sz := by simp; omega
        have hget : ∀ j, j < n * b.sz → ((cc.toList.drop off).take (n * b.sz))[j]? = cc[off + j]? := fun j hj => by
          rw [List.getElem?_take_of_lt hj, List.getElem?_drop]; simp
        refine ⟨hlen, some a0, cap, (cc.toList.drop off).take (n * b.sz), rfl, c2, by rw [hlen]; simp; omega, fun h0 => ⟨a0, rfl, fun j v hj => ?_⟩, fun j hj => ?_, fun v hv' => ?_⟩
        · have hjl : j < n * b.sz := by
            rcases Nat.lt_or_ge j (n * b.sz) with h | h
            · exact h
            · rw [List.getElem?_eq_none (by simp; omega)] at hj; cases hj
          rw [hget j hjl] at hj
          rw [c3 (by omega), add_plain]
          simp [World.cell?, g3, hj]
        · rw [hlen] at hj
          obtain ⟨u, h7, h8⟩ := g6 (off + j) (by omega)
          refine ⟨u, by rw [hget j hj]; exact h7, ?_⟩
          simp only [List.getElem_take, List.getElem_drop]
          exact h8
        · obtain ⟨j, hj, he⟩ := List.mem_iff_getElem.1 hv'
          have hjl : j < n * b.sz := by simp at hj; omega
          obtain ⟨u, h7, h8⟩ := g6 (off + j) (by omega)
          have : v = u := by
            have := hget j hjl
            rw [List.getElem?_eq_getElem hj, he, h7] at this
            exact Option.some.inj this
          rw [this]
          exact h8.one
      · cases h
    · cases h
  · cases h

theorem run_append_zero {P : Program} (w : World) {t ty e : TypeId} {ei : TI} {base a : Option Addr} {n cap c : Nat} (hu : P.underlying t = some (.slice e)) (he : tinf P e = some ei) (h : n ≤ cap) :
    (Builtin.append_ #[t, t] ty #[.slice base n cap, .slice a 0 c]).run P w = .ok (.slice base n cap) w := by
  have hf : (Builtin.firstCells ei.size 0 (.slice a 0 c)).run P w = .ok #[] w := by
    cases a <;> simp [Builtin.firstCells, loadCells, loadCellsFrom]
  cases base <;> simp [Builtin.append_, run_underlying hu, run_sizeOf' he, Builtin.lenOf, h, hf, storeCells]

theorem exec_append {P : Program} {o : Oper} {a : Act} {w w' : World} {t : TypeId} {s x : Operand} {u : Value} (ho : o.op = .call ⟨.builtin .append, #[s, x], #[t, t]⟩)
    (h : (Builtin.append_ #[t, t] o.type #[a.eval s, a.eval x]).run P w = .ok u w') : (execOp a.eval o).run P w = .ok (.value u) w' := by
  simp only [execOp, ho, resolve, Sem.run_bind, Sem.run_pure, Result.andThen_ok, invoke, builtin, List.map_toArray, List.map_cons, List.map_nil]
  rw [h]
  rfl

/-- Nothing is appended. -/
theorem OpS.append_zero {P : Program} {o : Oper} {st : St} {K : AV → Heap → Prop} {t e : TypeId} {ti ei : TI} {s x : Operand} {n : Nat} {l : List CV}
    (ho : o.op = .call ⟨.builtin .append, #[s, x], #[t, t]⟩) (ht : tinf P t = some ti) (hk : ti.k = .slice e) (he : tinf P e = some ei)
    (hs : elems st.h ei.size (evO st.s s) = some (n, l)) (hx : elems st.h ei.size (evO st.s x) = some (0, [])) (hK : K (evO st.s s) st.h) : OpS P o st K := by
  intro w X a R next Q hn
  obtain ⟨inf, d, z', i1, i2, i3, i4, i5, i6, i7⟩ := tinf_some ht
  rw [i5] at hk; cases tk_slice hk
  obtain ⟨_, ba, bc, bn, hb, hb1, _⟩ := elems_sound R.heap hs (evO_sound R s)
  obtain ⟨_, xa, xc, xn, hxe, _⟩ := elems_sound R.heap hx (evO_sound R x)
  have hrun := exec_append ho (w := w) (w' := w) (u := a.eval s) (by rw [hb, hxe]; exact run_append_zero w i2 he hb1)
  exact wp_value hrun (hn _ _ _ _ _ (evO_sound R s) R.heap (Ev.refl _ _ _) hK)

/-- There is no room, for sure: all goes into new memory. -/
def noRoom (n m : Nat) : AV → Bool
  | .c (.f .nil) => true
  | .c .emp => true
  | .c (.own _ _ _ _ (some c)) => c < n + m
  | _ => false

theorem OpS.append_new {P : Program} {o : Oper} {st : St} {K : AV → Heap → Prop} {t e : TypeId} {ti ei : TI} {s x : Operand} {n m : Nat} {l k : List CV}
    (ho : o.op = .call ⟨.builtin .append, #[s, x], #[t, t]⟩) (ht : tinf P t = some ti) (hk : ti.k = .slice e) (he : tinf P e = some ei) (hz : ei.zero.length = ei.size)
    (hs : elems st.h ei.size (evO st.s s) = some (n, l)) (hx : elems st.h ei.size (evO st.s x) = some (m, k)) (hno : noRoom n m (evO st.s s) = true) (hm : 0 < m)
    (h63 : n + m ≤ 9223372036854775807) (h47 : (n + m) * ei.bytes ≤ 140737488355328)
    (hK : ∀ g, K (.c (.own st.h.length g 0 (n + m) none)) (st.h ++ [some ⟨g, ei.size, l ++ k⟩])) : OpS P o st K := by
  intro w X a R next Q hn
  obtain ⟨inf, d, z', i1, i2, i3, i4, i5, i6, i7⟩ := tinf_some ht
  rw [i5] at hk; cases tk_slice hk
  obtain ⟨infe, de, ze, e1, e2, e3, e4, e5, e6, e7⟩ := tinf_some he
  obtain ⟨hl, ba, bc, bn, hb, hb1, hb2, hb3, hb4, hb5⟩ := elems_sound R.heap hs (evO_sound R s)
  obtain ⟨hkl, xa, xc, xn, hxe, hx1, hx2, hx3, hx4, hx5⟩ := elems_sound R.heap hx (evO_sound R x)
  obtain ⟨xad, rfl, hxc⟩ := hx3 (by omega)
  have hze : ze.cells.size = ei.size := by
    obtain ⟨q1, _⟩ := mapM_get e4
    simp at q1; omega
  have hcap : bc < n + m := by
    have hsv := evO_sound R s
    revert hno
    cases hsa : evO st.s s with
    | c cv =>
      rw [hsa, hb] at hsv
      have hsv := va_c hsv
      cases cv with
      | f fv =>
        cases fv with
        | nil => intro _; cases hsv; omega
        | _ => intro h; cases h
      | emp => intro _; obtain ⟨_, h⟩ := hsv; cases h; omega
      | own id g off n' lim =>
        cases lim with
        | none => intro h; cases h
        | some c =>
          intro h
          simp [noRoom] at h
          rw [hsa] at hs
          simp only [elems] at hs
          split at hs
          · rename_i b hlk
            obtain ⟨_, _, cap, hv, _, _, _, hcc⟩ := hsv.2.2 b hlk
            cases hv
            simp only at hcc
            omega
          · cases hs
      | _ => intro h; cases h
    | _ => intro h; cases h
  -- the machine's new block
  have key : ∃ cap, (Builtin.append_ #[t, t] o.type #[a.eval s, a.eval x]).run P w = .ok (.slice (some ⟨w.heap.size, 0, none⟩) (n + m) cap)
      (w.drew.alloc (.cells (bn.toArray ++ xn.toArray ++ Builtin.zeroCells ze.cells (cap - (n + m))) e)) ∧ n + m ≤ cap := by
    rw [hb, hxe]
    cases ba with
    | none =>
      have hn0 : n = 0 := by
        by_cases h0 : n = 0
        · exact h0
        · obtain ⟨_, h, _⟩ := hb3 h0; cases h
      subst hn0
      have hbn : bn = [] := List.eq_nil_of_length_eq_zero (by rw [hb2, hl]; simp)
      have hbc : bc = 0 := by
        have hsv := evO_sound R s
        rw [hb] at hsv
        generalize evO st.s s = q at hsv hs hno
        cases hsv with
        | c cv _ hq =>
          cases cv with
          | f fv =>
            cases fv with
            | nil => cases hq; rfl
            | _ => simp [noRoom] at hno
          | fp cs off => obtain ⟨_, _, h, _⟩ := hq; cases h
          | nilp => cases hq
          | ptr id g off => simp [elems] at hs
          | own id g off n' lim =>
            simp only [elems] at hs
            split at hs
            · rename_i b hlk
              obtain ⟨_, _, cap, hv, _⟩ := hq.2.2 b hlk
              cases hv
            · cases hs
          | fn f caps => simp [elems] at hs
          | nilf => cases hq
          | emp => obtain ⟨_, h⟩ := hq; cases h; rfl
        | any => simp [elems] at hs
      subst hbc hbn
      refine ⟨grownCap w m 0 e, ?_, ?_⟩
      · have := run_append_nil (P := P) w t o.type e infe ze i2 e1 e3 xad m xc xn (by rw [hx2, hkl, e6]) hxc hm (by omega) (by rw [← e7]; simp at h47; omega)
        simpa using this
      · simpa using grownCap_ge w m 0 e
    | some bad =>
      have hbc' : ∀ j v, bn[j]? = some v → w.cell? (bad.add j) = some v := by
        by_cases h0 : n = 0
        · subst h0
          have hbn : bn = [] := List.eq_nil_of_length_eq_zero (by rw [hb2, hl]; simp)
          subst hbn
          intro j v hj; simp at hj
        · obtain ⟨ad, h, hh⟩ := hb3 h0
          cases h
          exact hh
      refine ⟨grownCap w (n + m) bc e, ?_, grownCap_ge w (n + m) bc e⟩
      exact run_append_grow (P := P) w t o.type e infe ze i2 e1 e3 bad n bc bn (by rw [hb2, hl, e6]) hbc' xad m xc xn (by rw [hx2, hkl, e6]) hxc hcap (by omega) (growslice_fits hcap (by rw [← e7]; exact h47))
  obtain ⟨cap, hrun, hge⟩ := key
  have hsz : (bn.toArray ++ xn.toArray ++ Builtin.zeroCells ze.cells (cap - (n + m))).size = cap * ei.size := by
    simp only [Array.size_append, List.size_toArray, size_zeroCells, hze, hb2, hx2, hl, hkl, ← Nat.add_mul]
    congr 1
    omega
  have hget : ∀ j (h : j < (l ++ k).length), ∃ u, (bn.toArray ++ xn.toArray ++ Builtin.zeroCells ze.cells (cap - (n + m)))[j]? = some u ∧ VC w X st.h (l ++ k)[j] u := by
    intro j hj
    by_cases h1 : j < l.length
    · obtain ⟨u, q1, q2⟩ := hb4 j h1
      refine ⟨u, ?_, by rw [List.getElem_append_left h1]; exact q2⟩
      rw [Array.getElem?_append_left (by simp; omega), Array.getElem?_append_left (by simp; omega)]
      simpa using q1
    · have h2 : j - l.length < k.length := by simp at hj; omega
      obtain ⟨u, q1, q2⟩ := hx4 _ h2
      refine ⟨u, ?_, by rw [List.getElem_append_right (by omega)]; exact q2⟩
      rw [Array.getElem?_append_left (by simp; omega), Array.getElem?_append_right (by simp; omega)]
      simpa [hb2] using q1
  have hll : (l ++ k).length = (n + m) * ei.size := by rw [List.length_append, hl, hkl, Nat.add_mul]
  have hle : (n + m) * ei.size ≤ cap * ei.size := Nat.mul_le_mul_right _ hge
  obtain ⟨k1, k2⟩ := new_block (w' := w.drew.alloc (.cells (bn.toArray ++ xn.toArray ++ Builtin.zeroCells ze.cells (cap - (n + m))) e)) R.heap (sz := ei.size) (t := e) (cs := l ++ k) (cc := bn.toArray ++ xn.toArray ++ Builtin.zeroCells ze.cells (cap - (n + m))) rfl rfl rfl rfl (by omega) hget
  exact wp_value (exec_append ho hrun) (hn _ _ _ _ _ (new_own (by omega) hge (by omega) (by omega)) k1 k2 (hK _))
end Go.Lg
