/- GpFA, GpGF, GpGG, GpK, cut to what is needed. -/
import Derived.Test.YtpdaalgdkdpihaaUac5
import Derived.Test.YtpdaalgdkdpihaaUac9
import Derived.Test.YtpdaalgdkdpihaaUac3
import Derived.Test.YtpdaalgdkdpihaaUab5
open Nat(reduceAdd reduceMul reduceSub reduceEqDiff reduceLeDiff)
set_option linter.unusedSimpArgs false
set_option linter.unusedVariables false
set_option maxRecDepth 100000
namespace Go.Lg
open Go.Proofs
theorem GrdN.set {xs : List Int} {n i v : Nat} (hg : GrdN xs n) (hi : i < xs.length) (hv : v ≤ n) : GrdN (xs.set i (v : Int)) n := ⟨by rw [List.length_set]; exact hg.len, fun k hk => by
  rw [List.length_set] at hk
  rw [nth_setN _ _ _ _ hi]
  split
  · omega
  · exact hg.val k hk⟩
def LeB (o o' : List Nat) : Prop := o.length = o'.length ∧ ∀ k b : Nat, (o.getD k 0).testBit b = true → (o'.getD k 0).testBit b = true
theorem LeB.refl (o : List Nat) : LeB o o := ⟨rfl, fun _ _ h => h⟩
theorem LeB.trans {a b c : List Nat} (h1 : LeB a b) (h2 : LeB b c) : LeB a c := ⟨h1.1.trans h2.1, fun k x h => h2.2 k x (h1.2 k x h)⟩
def Has (p : Puz) (xs : List Int) : Prop := ∀ k : Nat, 0 < nth p.given k → nth xs k = nth p.given k
theorem Has.clear {p : Puz} {xs : List Int} (h : Has p xs) : Lg.clear p xs = true := by
  simp only [Lg.clear, decide_eq_true_eq]
  exact fun k hk ⟨a, b, c⟩ => c (h k a)
theorem Has.set {p : Puz} {xs : List Int} (h : Has p xs) {i : Nat} {v : Int} (hi : i < xs.length) (h0 : ¬ 0 < nth xs i) : Has p (xs.set i v) := fun k hk => by
  rw [nth_setN _ _ _ _ hi]
  have := h k hk
  split
  · rename_i hki
    subst hki
    omega
  · exact this
end Go.Lg

set_option linter.unusedSimpArgs false
set_option linter.unusedVariables false
set_option maxRecDepth 100000
namespace Go.Lg
open Go.Proofs
attribute [-go_sem] appendM lwF_cons
def LstO (H : Heap) (c : CV) (ls : List (List Int)) : Prop := ∃ oid og cs, c = .own oid og 0 ls.length none ∧ look H oid og = some ⟨og, 1, cs⟩ ∧ cs.length = ls.length ∧ ∀ i (h : i < ls.length), ∃ id g, cs[i]? = some (.own id g 0 ls[i].length none) ∧ look H id g = some ⟨g, 1, cl (eI .i64) ls[i]⟩
theorem LstO.shift {H0 H : Heap} {c : CV} {ls : List (List Int)} (h : LstO H c ls) : LstO (H0 ++ shiftH H0.length H) (shiftC H0.length c) ls := by
  obtain ⟨oid, og, cs, rfl, k1, k2, k3⟩ := h
  refine ⟨oid + H0.length, og, cs.map (shiftC H0.length), rfl, look_shiftH k1, by rw [List.length_map]; exact k2, fun i hi => ?_⟩
  obtain ⟨id, g, q1, q2⟩ := k3 i hi
  refine ⟨id + H0.length, g, by rw [List.getElem?_map, q1]; rfl, ?_⟩
  rw [look_shiftH q2]
  simp only [shiftB, shift_cl]
section
variable {P : Program} {o : Oper} {st : St} {K : KV} {fo : Operand} {xs : Array Operand} {ts : Array TypeId} {f : FuncId} {args : List AV}
end
def smD (p : Puz) : Prop := p.given.length ≤ 16 ∧ ruleSm p.rules 30 5
theorem smD.sm {p : Puz} (h : smD p) : smP p := ⟨by have := h.1; omega, by have := h.2.1; omega, fun r hr => by have := h.2.2 r hr; omega⟩
structure TrI (H HI : Heap) (id g : Nat) (B : Int) (g4 J g6 : Nat) (p : Puz) (c : CV) (zs : List Int) : Prop where
  out : look HI H.length g4 = some ⟨g4, 3, [.f (.int .i64 0), .f .nil, .f .nil]⟩
  puz : look HI J g6 = some ⟨g6, 3, cP p⟩
  grid : ∃ gid gg, c = .own gid gg 0 zs.length none ∧ look HI gid gg = some ⟨gg, 1, cl (eI .i64) zs⟩ ∧ H.length < gid ∧ gid ≠ J
  rd : RdAt HI id g B
  lt : id < H.length
  ln : H.length < J ∧ J < HI.length
  frm : ∀ k, k < H.length → k ≠ id → HI[k]? = H[k]?
section
variable {H HI H2 : Heap} {id g g4 J g6 : Nat} {B B' : Int} {p : Puz} {c : CV} {zs : List Int}
theorem TrI.mono (h : TrI H HI id g B g4 J g6 p c zs) (hb : B ≤ B') : TrI H HI id g B' g4 J g6 p c zs := { h with rd := h.rd.mono hb }
theorem TrI.step (h : TrI H HI id g B g4 J g6 p c zs) (hs : ∀ i, H.length ≤ i → i < HI.length → H2[i]? = HI[i]?) (hl : HI.length ≤ H2.length) (hr : RdAt H2 id g B') (hf : ∀ k, k < H.length → k ≠ id → H2[k]? = HI[k]?) : TrI H H2 id g B' g4 J g6 p c zs := by
  have hn := h.ln
  have hL : ∀ i g, H.length ≤ i → i < HI.length → look H2 i g = look HI i g := fun i g h1 h2 => by unfold look; rw [hs i h1 h2]
  obtain ⟨gid, gg, g1, g2, g3, g4⟩ := h.grid
  have hgl : gid < HI.length := (List.getElem?_eq_some_iff.1 (look_some g2).1).1
  exact { out := by rw [hL _ _ (Nat.le_refl _) (by omega)]; exact h.out
          puz := by rw [hL _ _ (by omega) (by omega)]; exact h.puz
          grid := ⟨gid, gg, g1, by rw [hL _ _ (by omega) hgl]; exact g2, g3, g4⟩
          rd := hr, lt := h.lt, ln := by omega
          frm := fun k hk hne => by rw [hf k hk hne]; exact h.frm k hk hne }
theorem TrI.pick (h : TrI H HI id g B g4 J g6 p c zs) (hr : RdAt H2 id g B') (hf : Frm HI H2 [id]) : TrI H H2 id g B' g4 J g6 p c zs := by
  have hl := h.lt
  exact h.step (fun i hi _ => hf.2 i (by simp; omega)) (by rw [hf.1]; exact Nat.le_refl _) hr fun k hk hne => hf.2 k (by simpa using hne)
theorem TrI.app {X : Heap} (h : TrI H HI id g B g4 J g6 p c zs) : TrI H (HI ++ X) id g B g4 J g6 p c zs := by
  have hn := h.ln
  exact h.step (fun i _ hi => List.getElem?_append_left hi) (by simp) h.rd.app fun k hk _ => List.getElem?_append_left (by omega)
theorem TrI.set (h : TrI H HI id g B g4 J g6 p c zs) {gid gg : Nat} (hc : c = .own gid gg 0 zs.length none) (k : Nat) (v : Int) : TrI H (HI.set gid (some ⟨gg, 1, cl (eI .i64) (zs.set k v)⟩)) id g B g4 J g6 p c (zs.set k v) := by
  have hn := h.ln
  have hl := h.lt
  obtain ⟨gid', gg', g1, g2, g3, g4⟩ := h.grid
  rw [hc] at g1
  cases g1
  have hgl : gid < HI.length := (List.getElem?_eq_some_iff.1 (look_some g2).1).1
  exact { out := by rw [look_set_ne' (by omega)]; exact h.out
          puz := by rw [look_set_ne' (by omega)]; exact h.puz
          grid := ⟨gid, gg, by rw [hc, List.length_set], look_set_eq' hgl, g3, g4⟩
          rd := h.rd.same (by rw [List.getElem?_set_ne (by omega)])
          lt := hl, ln := by rw [List.length_set]; exact hn
          frm := fun k hk hne => by rw [List.getElem?_set_ne (by omega)]; exact h.frm k hk hne }
end
def dPuz : AV → Prop := fun v => ∃ p : Puz, v = aP p ∧ smD p
theorem wf_u8' {xs : List Int} (h : ∀ x ∈ xs, (Lit.int .u8 x).wf = true) : ∀ x ∈ xs, 0 ≤ x ∧ x ≤ 255 := fun x hx => by
  have := h x hx
  simp [Lit.wf] at this
  have e1 : IntKind.u8.min = 0 := by decide
  have e2 : IntKind.u8.max = 255 := by decide
  omega
theorem RdAt.shift {H0 H : Heap} {id g : Nat} {B : Int} (h : RdAt H id g B) : RdAt (H0 ++ shiftH H0.length H) (id + H0.length) g B := by
  obtain ⟨sz, b, p, h1, h2⟩ := h
  exact ⟨sz, b, p, by rw [look_shiftH h1]; rfl, h2⟩
theorem OpS.mkRd {P : Program} {o : Oper} {st : St} {K : KV} {fo : Operand} {xs : Array Operand} {ts : Array TypeId} {f : FuncId} {args : List AV} (hc : RunCall P f args [] (fun v H' => ∃ g, v = .c (.ptr 0 g 0) ∧ RdAt H' 0 g 0 ∧ H'.length = 1)) (he : Enters P f) (ho : o.op = .call ⟨.value fo, xs, ts⟩) (ha : callArgs st fo xs = some (f, args)) (hf : args.all frozenA = true)
    (hk : ∀ g H', RdAt (st.h ++ H') st.h.length g 0 → H'.length = 1 → K (.c (.ptr st.h.length g 0)) (st.h ++ H')) : OpS P o st K :=
  OpS.mkQ hc he ho ha hf fun r H' ⟨g, h1, h2, h3⟩ => by
    subst h1
    refine ⟨rfl, ?_⟩
    have := hk g (shiftH st.h.length H') (by have := h2.shift (H0 := st.h); rwa [Nat.zero_add] at this) (by rw [shiftH_length]; exact h3)
    show K (.c (.ptr (0 + st.h.length) g 0)) _
    rw [Nat.zero_add]
    exact this
end Go.Lg

set_option linter.unusedSimpArgs false
set_option linter.unusedVariables false
set_option maxRecDepth 100000
namespace Go.Lg
open Go.Proofs
attribute [-go_sem] appendM lwF_cons
theorem resV_ctt (P : Program) (s : List AV) (H : Heap) (t u w : Nat) (ty : TypeId) : resV P s H [.cell t ty, .tmp u, .tmp w] = (loadV P H ty (s.getD t .void)).map fun v => .tup [v, s.getD u .void, s.getD w .void] := by
  simp only [resV, resAll, resOne]
  cases loadV P H ty (s.getD t .void) <;> rfl
attribute [go_sem] resV_ctt
theorem DrawGameOf_run (code : List Int) (hb : ∀ x ∈ code, 0 ≤ x ∧ x ≤ 255) (hl : code.length ≤ 2 ^ 40) : RunCall Try.prog 34 [rsl (eI .u8) code] [] (fun v _ => dPuz v) := by
  refine RunCall.cw (c := _) Try.func34 rfl (n := 6) Try.ntmps34 (rs := [.cell 2 32]) rfl ?_
  simp only [List.length_cons, List.length_nil, Nat.reduceAdd, Nat.reduceSub, List.replicate, List.cons_append, List.nil_append]
  simp(maxSteps:=999999)(disch:=omega)only[go_sem,reduceAdd,reduceMul,reduceSub,reduceEqDiff,reduceLeDiff]
  intro g4
  refine OpS.mkRd (l20Open_run code hb hl) (⟨_, Try.func65, rfl, rfl⟩ : Enters Try.prog 65) rfl rfl rfl ?_
  intro g H1 r1 hl1
  simp(maxSteps:=999999)(disch:=omega)only[go_sem,reduceAdd,reduceMul,reduceSub,reduceEqDiff,reduceLeDiff]
  refine OpS.run (l20Puzzle_run _ 1 g 0 6 r1 (by omega) (by omega)) (⟨_, Try.func64, rfl, rfl⟩ : Enters Try.prog 64) rfl rfl ?_
  rintro _ H2 ⟨⟨p, rfl, hp⟩, r2, f2⟩
  have h4 : look H2 0 g4 = some ⟨g4, 3, [.f (.int .i64 0), .f .nil, .f .nil]⟩ := by rw [f2.look (by simp)]; exact look_zero
  have hS : ∀ b, look (H2.set 0 (some ⟨g4, 3, b⟩)) 0 g4 = some ⟨g4, 3, b⟩ := fun b => look_set_eq' (List.getElem?_eq_some_iff.1 (look_some h4).1).1
  simp(maxSteps:=999999)(disch:=omega)only[go_sem,reduceAdd,reduceMul,reduceSub,reduceEqDiff,reduceLeDiff, h4, hS]
  exact ⟨_, HLe.refl _, p, rfl, hp⟩
theorem aliveF_run : Reads Try.prog 37 [] (bool true) := by
  refine RunCall.cw (c := _) Try.func37 rfl (n := 4) Try.ntmps37 (rs := [.tmp 0]) rfl ?_
  simp only [List.length_cons, List.length_nil, Nat.reduceAdd, Nat.reduceSub, List.replicate, List.cons_append, List.nil_append]
  simp(maxSteps:=999999)(disch:=omega)only[go_sem,reduceAdd,reduceMul,reduceSub,reduceEqDiff,reduceLeDiff]
  intro g
  have hown : OwnI [some ⟨g, 1, [.f (.int .i64 1), .f (.int .i64 0), .f (.int .i64 0), .f (.int .i64 2)]⟩] (.own 0 g 0 4 none) [1, 0, 0, 2] [0] := OwnI.o 0 g none [1, 0, 0, 2] [] (by rw [look_zero]; rfl)
  refine OpS.rdD (GridFilled_run [1, 0, 0, 2] 2 (by simp)) (⟨_, Try.func43, rfl, rfl⟩ : Enters Try.prog 43) rfl rfl (snap_two hown.snap snapD_int) rfl ?_
  have e : gridFilled [1, 0, 0, 2] 2 = 2 := by decide
  rw [e]
  simp(maxSteps:=999999)(disch:=omega)only[go_sem,reduceAdd,reduceMul,reduceSub,reduceEqDiff,reduceLeDiff]
theorem sameIntsF_run (xs ys : List Int) (hx : xs.length ≤ 2 ^ 40) : Reads Try.prog 39 [ints xs, ints ys] (bool (decide (xs = ys))) := by
  refine RunCall.cw (c := _) Try.func39 rfl (n := 26) Try.ntmps39 (rs := [.tmp 4]) rfl ?_
  simp only [List.length_cons, List.length_nil, Nat.reduceAdd, Nat.reduceSub, List.replicate, List.cons_append, List.nil_append]
  simp(maxSteps:=999999)(disch:=omega)only[go_sem,reduceAdd,reduceMul,reduceSub,reduceEqDiff,reduceLeDiff]
  ((first | with_reducible refine condK_dec ?_ ?_ | with_reducible refine condK_ndec ?_ ?_ | with_reducible refine condK_nb ?_ ?_ | refine condK_b ?_ ?_) <;> intro h)
  rotate_left
  · simp(maxSteps:=999999)(disch:=omega)only[go_sem,reduceAdd,reduceMul,reduceSub,reduceEqDiff,reduceLeDiff]
    rw [eq_comm, decide_eq_false_iff_not]
    intro h2
    exact h (by rw [h2])
  have hl : xs.length = ys.length := by omega
  simp(maxSteps:=999999)(disch:=omega)only[go_sem,reduceAdd,reduceMul,reduceSub,reduceEqDiff,reduceLeDiff]
  refine loop_rule (fun i : Nat => xs.length - i) (fun i => i ≤ xs.length ∧ ∀ j : Nat, j < i → nth xs j = nth ys j) (fun i => [.k, .k, .a, .a, .a, .p (int i), .a, .a, .a, .a, .a, .a, .a, .a, .a, .a, .a, .a, .a, .a, .a, .a, .a, .a, .a, .a]) (fun i => []) 0
    ⟨Nat.zero_le _, fun j hj => absurd hj (Nat.not_lt_zero _)⟩ (by simp(maxSteps:=999999)(disch:=omega)only[go_sem,reduceAdd,reduceMul,reduceSub,reduceEqDiff,reduceLeDiff]; rfl) (hle_nil _) ?_
  rintro i ⟨hi, hall⟩
  simp(maxSteps:=999999)(disch:=omega)only[go_sem,reduceAdd,reduceMul,reduceSub,reduceEqDiff,reduceLeDiff]
  ((first | with_reducible refine condK_dec ?_ ?_ | with_reducible refine condK_ndec ?_ ?_ | with_reducible refine condK_nb ?_ ?_ | refine condK_b ?_ ?_) <;> intro h)
  · have h : i < xs.length := by omega
    simp(maxSteps:=999999)(disch:=omega)only[go_sem,reduceAdd,reduceMul,reduceSub,reduceEqDiff,reduceLeDiff]
    refine drawP_q foll (by kernel_rfl) ?_
    simp (maxSteps := 1000000) (disch := omega) only [go_sem, Nat.reduceBEq, Bool.true_or, Nat.reduceAdd, Nat.reduceMul, Nat.reduceSub, Nat.reduceEqDiff, Nat.reduceLeDiff]
    ((first | with_reducible refine condK_dec ?_ ?_ | with_reducible refine condK_ndec ?_ ?_ | with_reducible refine condK_nb ?_ ?_ | refine condK_b ?_ ?_) <;> intro h2)
    · simp(maxSteps:=999999)(disch:=omega)only[go_sem,reduceAdd,reduceMul,reduceSub,reduceEqDiff,reduceLeDiff]
      refine ⟨i + 1, ⟨⟨by omega, fun j hj => ?_⟩, by omega⟩, by push_cast; omega, hle_nil _⟩
      rcases Nat.lt_succ_iff_lt_or_eq.1 hj with hj | rfl
      · exact hall j hj
      · exact h2
    · simp(maxSteps:=999999)(disch:=omega)only[go_sem,reduceAdd,reduceMul,reduceSub,reduceEqDiff,reduceLeDiff]
      rw [eq_comm, decide_eq_false_iff_not]
      intro h3
      exact h2 (by rw [h3])
  · simp(maxSteps:=999999)(disch:=omega)only[go_sem,reduceAdd,reduceMul,reduceSub,reduceEqDiff,reduceLeDiff]
    rw [decide_eq_true (ext_nth hl fun j hj => hall j (by omega))]
end Go.Lg

set_option linter.unusedSimpArgs false
set_option linter.unusedVariables false
set_option maxRecDepth 100000
namespace Go.Lg
open Go.Proofs
theorem len_le_of_sub : ∀ (a b : List Int), a.Nodup → (∀ x ∈ a, x ∈ b) → a.length ≤ b.length
  | [], b, _, _ => by simp
  | x :: a, b, hn, hs => by
    obtain ⟨h1, h2⟩ := List.nodup_cons.1 hn
    have hx : x ∈ b := hs x (by simp)
    have := len_le_of_sub a (b.erase x) h2 fun y hy => by
      have hne : y ≠ x := fun h => h1 (h ▸ hy)
      exact (List.mem_erase_of_ne hne).2 (hs y (by simp [hy]))
    have hl := List.length_erase_of_mem hx
    have hp := List.length_pos_of_mem hx
    simp only [List.length_cons]
    omega
theorem sub_full (a b : List Int) (hn : a.Nodup) (hs : ∀ x ∈ a, x ∈ b) (hl : b.length ≤ a.length) : b.Nodup ∧ ∀ x ∈ b, x ∈ a := by
  have key : ∀ x ∈ b, x ∈ a := by
    intro x hx
    refine Classical.byContradiction fun hxa => ?_
    have := len_le_of_sub a (b.erase x) hn fun y hy => by
      have hne : y ≠ x := fun h => hxa (h ▸ hy)
      exact (List.mem_erase_of_ne hne).2 (hs y hy)
    have hl2 := List.length_erase_of_mem hx
    have hp := List.length_pos_of_mem hx
    omega
  refine ⟨?_, key⟩
  have gen : ∀ (b a : List Int), a.Nodup → (∀ x ∈ a, x ∈ b) → b.length ≤ a.length → (∀ x ∈ b, x ∈ a) → b.Nodup := by
    intro b
    induction b with
    | nil => intros; exact List.nodup_nil
    | cons y b ih =>
      intro a hn hs hl hk
      have hy : y ∈ a := hk y (by simp)
      have hyb : y ∉ b := fun hyb => by
        have := len_le_of_sub a b hn fun x hx => by
          rcases List.mem_cons.1 (hs x hx) with rfl | h
          · exact hyb
          · exact h
        simp only [List.length_cons] at hl
        omega
      refine List.nodup_cons.2 ⟨hyb, ih (a.erase y) (hn.erase y) (fun x hx => ?_) ?_ fun x hx => ?_⟩
      · have hx' := (hn.mem_erase_iff).1 hx
        rcases List.mem_cons.1 (hs x hx'.2) with h | h
        · exact absurd h hx'.1
        · exact h
      · have := List.length_erase_of_mem hy
        simp only [List.length_cons] at hl
        omega
      · exact (hn.mem_erase_iff).2 ⟨fun h => hyb (h ▸ hx), hk x (by simp [hx])⟩
  exact gen b a hn hs hl key
def filledAt (xs : List Int) : List Int := ((List.range xs.length).filter fun i : Nat => decide (0 < nth xs i)).map fun i : Nat => (i : Int)
theorem filledAt_nodup (xs : List Int) : (filledAt xs).Nodup := by
  unfold filledAt
  refine List.pairwise_map.2 (List.Pairwise.imp ?_ (List.nodup_range.filter _))
  intro a b h h2
  exact h (by omega)
theorem mem_filledAt {xs : List Int} {c : Int} : c ∈ filledAt xs ↔ 0 ≤ c ∧ c < xs.length ∧ 0 < nth xs c := by
  simp only [filledAt, List.mem_map, List.mem_filter, List.mem_range, decide_eq_true_eq]
  constructor
  · rintro ⟨i, ⟨h1, h2⟩, rfl⟩; exact ⟨by omega, by omega, h2⟩
  · rintro ⟨h1, h2, h3⟩; exact ⟨c.toNat, ⟨by omega, by rw [show ((c.toNat : Nat) : Int) = c by omega]; exact h3⟩, by omega⟩
theorem filledAt_length (xs : List Int) : (filledAt xs).length = xs.countP fun v => decide (0 < v) := by
  have h : ∀ n, n ≤ xs.length → ((List.range n).filter fun i : Nat => decide (0 < nth xs i)).length = (xs.take n).countP fun v => decide (0 < v) := by
    intro n
    induction n with
    | zero => intro _; rfl
    | succ n ih =>
      intro hn
      rw [List.range_succ, List.filter_append, List.length_append, ih (by omega), countP_take (by omega)]
      simp only [List.filter_cons, List.filter_nil, decide_eq_true_eq]
      split <;> simp
  simp only [filledAt, List.length_map]
  rw [h xs.length (Nat.le_refl _), List.take_length]
def gameOk (g : Gam) : Prop := g.moves.Nodup ∧ (∀ c ∈ g.moves, c ∈ filledAt g.put) ∧ ∀ c ∈ filledAt g.put, c ∈ g.moves ∧ nth g.task.given c ≤ 0
instance (g : Gam) : Decidable (gameOk g) := by unfold gameOk; infer_instance
def gameValid (g : Gam) : Bool := puzzleValid g.task && (gridValid g.put g.task.size && (decide (g.moves.length ≤ 40) && decide (gameOk g)))
theorem puzzleValid_grid {p : Puz} (h : puzzleValid p = true) : gridValid p.given p.size = true := by
  simp only [puzzleValid, Bool.and_eq_true] at h; exact h.1
theorem gameOk_num {g : Gam} : gameOk g ↔ g.moves.length = g.put.countP (fun v => decide (0 < v)) ∧ ∀ c ∈ filledAt g.put, c ∈ g.moves ∧ nth g.task.given c ≤ 0 := by
  rw [← filledAt_length]
  constructor
  · rintro ⟨h1, h2, h3⟩
    refine ⟨Nat.le_antisymm (len_le_of_sub _ _ h1 h2) (len_le_of_sub _ _ (filledAt_nodup _) fun c hc => (h3 c hc).1), h3⟩
  · rintro ⟨h1, h2⟩
    obtain ⟨h3, h4⟩ := sub_full (filledAt g.put) g.moves (filledAt_nodup _) (fun c hc => (h2 c hc).1) (by omega)
    exact ⟨h3, h4, h2⟩
theorem GameValid_run (q : Gam) (hx : smG q) : Reads Try.prog 38 [aG q] (bool (gameValid q)) := by
  obtain ⟨hx1, hx2, hx3⟩ := hx
  refine RunCall.cw (c := _) Try.func38 rfl (n := 63) Try.ntmps38 (rs := [.tmp 2]) rfl ?_
  simp only [List.length_cons, List.length_nil, Nat.reduceAdd, Nat.reduceSub, List.replicate, List.cons_append, List.nil_append]
  simp(maxSteps:=999999)(disch:=omega)only[go_sem,reduceAdd,reduceMul,reduceSub,reduceEqDiff,reduceLeDiff]
  intro g
  refine drawP_q foll (by kernel_rfl) ?_
  simp (maxSteps := 1000000) (disch := omega) only [go_sem, Nat.reduceBEq, Bool.true_or, Nat.reduceAdd, Nat.reduceMul, Nat.reduceSub, Nat.reduceEqDiff, Nat.reduceLeDiff]
  refine quietW.rd (PuzzleValid_run q.task hx1) (⟨_, Try.func55, rfl, rfl⟩ : Enters Try.prog 55) rfl rfl rfl rfl ?_
  simp(maxSteps:=999999)(disch:=omega)only[go_sem,reduceAdd,reduceMul,reduceSub,reduceEqDiff,reduceLeDiff]
  ((first | with_reducible refine guardK_dec ?_ ?_ | with_reducible refine guardK_ndec ?_ ?_ | with_reducible refine guardK_nb ?_ ?_ | with_reducible refine guardK_split ?_ ?_ | with_reducible refine guardQ_dec ?_ ?_ | with_reducible refine guardL_dec ?_ ?_ | with_reducible refine guardQ_ndec ?_ ?_ | with_reducible refine guardL_ndec ?_ ?_ | with_reducible refine guardQ_nb ?_ ?_ | with_reducible refine guardL_nb ?_ ?_ | with_reducible refine guardQ_split ?_ ?_ | with_reducible refine guardL_split ?_ ?_) <;> intro hv <;> simp(maxSteps:=999999)(disch:=omega)only[go_sem,reduceAdd,reduceMul,reduceSub,reduceEqDiff,reduceLeDiff, hv])
  rotate_left
  · simp [gameValid, hv]
  refine quietW.rd (GridValid_run q.put q.task.size (by omega)) (⟨_, Try.func69, rfl, rfl⟩ : Enters Try.prog 69) rfl rfl rfl rfl ?_
  simp(maxSteps:=999999)(disch:=omega)only[go_sem,reduceAdd,reduceMul,reduceSub,reduceEqDiff,reduceLeDiff]
  ((first | with_reducible refine guardK_dec ?_ ?_ | with_reducible refine guardK_ndec ?_ ?_ | with_reducible refine guardK_nb ?_ ?_ | with_reducible refine guardK_split ?_ ?_ | with_reducible refine guardQ_dec ?_ ?_ | with_reducible refine guardL_dec ?_ ?_ | with_reducible refine guardQ_ndec ?_ ?_ | with_reducible refine guardL_ndec ?_ ?_ | with_reducible refine guardQ_nb ?_ ?_ | with_reducible refine guardL_nb ?_ ?_ | with_reducible refine guardQ_split ?_ ?_ | with_reducible refine guardL_split ?_ ?_) <;> intro hv2 <;> simp(maxSteps:=999999)(disch:=omega)only[go_sem,reduceAdd,reduceMul,reduceSub,reduceEqDiff,reduceLeDiff, hv2])
  rotate_left
  · simp [gameValid, hv2]
  ((first | with_reducible refine guardK_dec ?_ ?_ | with_reducible refine guardK_ndec ?_ ?_ | with_reducible refine guardK_nb ?_ ?_ | with_reducible refine guardK_split ?_ ?_ | with_reducible refine guardQ_dec ?_ ?_ | with_reducible refine guardL_dec ?_ ?_ | with_reducible refine guardQ_ndec ?_ ?_ | with_reducible refine guardL_ndec ?_ ?_ | with_reducible refine guardQ_nb ?_ ?_ | with_reducible refine guardL_nb ?_ ?_ | with_reducible refine guardQ_split ?_ ?_ | with_reducible refine guardL_split ?_ ?_) <;> intro h40 <;> simp(maxSteps:=999999)(disch:=omega)only[go_sem,reduceAdd,reduceMul,reduceSub,reduceEqDiff,reduceLeDiff, h40])
  · symm; simp only [gameValid, hv, hv2, Bool.true_and, Bool.and_eq_false_iff, decide_eq_false_iff_not]; exact .inl (by omega)
  refine quietW.rd (GridFilled_run q.put q.task.size hx2) (⟨_, Try.func43, rfl, rfl⟩ : Enters Try.prog 43) rfl rfl rfl rfl ?_
  simp(maxSteps:=999999)(disch:=omega)only[go_sem,reduceAdd,reduceMul,reduceSub,reduceEqDiff,reduceLeDiff]
  have hgf : gridFilled q.put q.task.size = (q.put.countP (fun v => decide (0 < v)) : Nat) := by simp [gridFilled, hv2]
  have hval : gameValid q = decide (gameOk q) := by simp only [gameValid, hv, hv2, Bool.true_and]; rw [decide_eq_true (show q.moves.length ≤ 40 by omega), Bool.true_and]
  rw [hval, hgf]
  ((first | with_reducible refine condK_dec ?_ ?_ | with_reducible refine condK_ndec ?_ ?_ | with_reducible refine condK_nb ?_ ?_ | refine condK_b ?_ ?_) <;> intro hnum)
  rotate_left
  · simp(maxSteps:=999999)(disch:=omega)only[go_sem,reduceAdd,reduceMul,reduceSub,reduceEqDiff,reduceLeDiff]
    symm; rw [decide_eq_false_iff_not, gameOk_num]; rintro ⟨h1, _⟩; omega
  simp(maxSteps:=999999)(disch:=omega)only[go_sem,reduceAdd,reduceMul,reduceSub,reduceEqDiff,reduceLeDiff]
  have hlen : q.put.length = q.task.given.length := by
    have h1 := (gridValid_bound hv2).2.2.1
    have h2 := (gridValid_bound (puzzleValid_grid hv)).2.2.1
    omega
  refine loop_rule (fun i : Nat => q.put.length - i) (fun i => i ≤ q.put.length ∧ ∀ j : Nat, j < i → 0 < nth q.put j → (j : Int) ∈ q.moves ∧ nth q.task.given j ≤ 0) (fun i => [.a, .k, .a, .a, .a, .a, .a, .a, .a, .a, .a, .a, .a, .a, .a, .a, .a, .a, .a, .a, .a, .a, .a, .a, .a, .a, .a, .a, .a, .a, .a, .a, .a, .a, .a, .a, .a, .k, .k, .p (int i), .a, .a, .a, .a, .a, .a, .a, .a, .a, .a, .a, .a, .a, .a, .a, .a, .a, .a, .a, .a, .a, .a, .a]) (fun _ => [some ⟨g, 1, cG q⟩]) 0
    ⟨Nat.zero_le _, fun j hj => absurd hj (Nat.not_lt_zero _)⟩ (by simp(maxSteps:=999999)(disch:=omega)only[go_sem,reduceAdd,reduceMul,reduceSub,reduceEqDiff,reduceLeDiff]; rfl) (HLe.refl _) ?_
  rintro i ⟨hi, hall⟩
  simp(maxSteps:=999999)(disch:=omega)only[go_sem,reduceAdd,reduceMul,reduceSub,reduceEqDiff,reduceLeDiff]
  ((first | with_reducible refine condK_dec ?_ ?_ | with_reducible refine condK_ndec ?_ ?_ | with_reducible refine condK_nb ?_ ?_ | refine condK_b ?_ ?_) <;> intro h)
  · have h : i < q.put.length := by omega
    have no : (0 < nth q.put i ∧ ¬ ((i : Int) ∈ q.moves ∧ nth q.task.given i ≤ 0)) → false = decide (gameOk q) := fun h1 => by
      symm; rw [decide_eq_false_iff_not]
      rintro ⟨_, _, h2⟩
      exact h1.2 (h2 i (mem_filledAt.2 ⟨by omega, by omega, h1.1⟩))
    simp(maxSteps:=999999)(disch:=omega)only[go_sem,reduceAdd,reduceMul,reduceSub,reduceEqDiff,reduceLeDiff]
    ((first | with_reducible refine guardK_dec ?_ ?_ | with_reducible refine guardK_ndec ?_ ?_ | with_reducible refine guardK_nb ?_ ?_ | with_reducible refine guardK_split ?_ ?_ | with_reducible refine guardQ_dec ?_ ?_ | with_reducible refine guardL_dec ?_ ?_ | with_reducible refine guardQ_ndec ?_ ?_ | with_reducible refine guardL_ndec ?_ ?_ | with_reducible refine guardQ_nb ?_ ?_ | with_reducible refine guardL_nb ?_ ?_ | with_reducible refine guardQ_split ?_ ?_ | with_reducible refine guardL_split ?_ ?_) <;> intro h1 <;> simp(maxSteps:=999999)(disch:=omega)only[go_sem,reduceAdd,reduceMul,reduceSub,reduceEqDiff,reduceLeDiff, h1])
    rotate_left
    · exact ⟨i + 1, ⟨⟨h, all_step hall fun h2 => absurd h2 h1⟩, by omega⟩, by omega, HLe.refl _⟩
    ((first | with_reducible refine guardK_dec ?_ ?_ | with_reducible refine guardK_ndec ?_ ?_ | with_reducible refine guardK_nb ?_ ?_ | with_reducible refine guardK_split ?_ ?_ | with_reducible refine guardQ_dec ?_ ?_ | with_reducible refine guardL_dec ?_ ?_ | with_reducible refine guardQ_ndec ?_ ?_ | with_reducible refine guardL_ndec ?_ ?_ | with_reducible refine guardQ_nb ?_ ?_ | with_reducible refine guardL_nb ?_ ?_ | with_reducible refine guardQ_split ?_ ?_ | with_reducible refine guardL_split ?_ ?_) <;> intro h2 <;> simp(maxSteps:=999999)(disch:=omega)only[go_sem,reduceAdd,reduceMul,reduceSub,reduceEqDiff,reduceLeDiff, h2])
    · exact no ⟨h1, fun h3 => by omega⟩
    first | refine OpS.rd (Contains_run q.moves i hx3) (⟨_, Try.func70, rfl, rfl⟩ : Enters Try.prog 70) rfl rfl rfl rfl ?_ | refine Loud.rd (Contains_run q.moves i hx3) (⟨_, Try.func70, rfl, rfl⟩ : Enters Try.prog 70) rfl rfl rfl rfl ?_
    simp(maxSteps:=999999)(disch:=omega)only[go_sem,reduceAdd,reduceMul,reduceSub,reduceEqDiff,reduceLeDiff]
    ((first | with_reducible refine condK_dec ?_ ?_ | with_reducible refine condK_ndec ?_ ?_ | with_reducible refine condK_nb ?_ ?_ | refine condK_b ?_ ?_) <;> intro h3)
    · simp(maxSteps:=999999)(disch:=omega)only[go_sem,reduceAdd,reduceMul,reduceSub,reduceEqDiff,reduceLeDiff]
      exact ⟨i + 1, ⟨⟨h, all_step hall fun _ => ⟨h3, by omega⟩⟩, by omega⟩, by omega, HLe.refl _⟩
    · simp(maxSteps:=999999)(disch:=omega)only[go_sem,reduceAdd,reduceMul,reduceSub,reduceEqDiff,reduceLeDiff]
      exact no ⟨h1, fun h4 => h3 h4.1⟩
  · simp(maxSteps:=999999)(disch:=omega)only[go_sem,reduceAdd,reduceMul,reduceSub,reduceEqDiff,reduceLeDiff]
    symm; rw [decide_eq_true_eq, gameOk_num]
    refine ⟨by omega, fun c hc => ?_⟩
    obtain ⟨h1, h2, h3⟩ := mem_filledAt.1 hc
    have := hall c.toNat (by omega)
    rw [show ((c.toNat : Nat) : Int) = c by omega] at this
    exact this h3
def eBo (b : Bool) : List FV := [.bool b]
instance : HSz eBo 1 := ⟨fun _ => rfl⟩
theorem eBo_0 (b : Bool) (d : FV) : (eBo b).getD 0 d = .bool b := rfl
theorem zerosBo (n : Nat) : zerosL (n * 1) [.f (.bool false)] = cl eBo (List.replicate n false) := by
  simp only [zerosL, Nat.mul_one, List.length_singleton, Nat.mod_one]
  induction n with
  | zero => rfl
  | succ n ih => rw [List.range_succ, List.map_append, ih, List.replicate_succ', cl_append]; rfl
theorem setBo {xs : List Bool} {e : Int} {v : Bool} (h : 0 ≤ e ∧ e < (xs.length : Int)) : setRange (cl eBo xs) (0 + e.toNat * 1) [.f (.bool v)] = cl eBo (xs.set e.toNat v) :=
  setRange_cl (E := eBo) (by omega)
attribute [go_sem] eBo_0 zerosBo setBo
end Go.Lg
