/- LgZ3, GpCE, GpGA, GpGD, GpMK, GpTA, cut to what is needed. -/
import Derived.Test.YtcopagjhklcokaaReb3
import Derived.Test.YtcopagjhklcokaaReb6
import Derived.Test.YtcopagjhklcokaaRec2
import Derived.Test.YtcopagjhklcokaaReb4
import Derived.Test.YtcopagjhklcokaaRed1
import Derived.Test.YtcopagjhklcokaaRec4
import Derived.Test.YtcopagjhklcokaaRec1
open Nat(reduceAdd reduceMul reduceSub reduceEqDiff reduceLeDiff)
set_option linter.unusedSimpArgs false
set_option linter.unusedVariables false
set_option maxRecDepth 100000
namespace Go.Lg
mutual
def nzF : FV → FV
  | .nil => .sl 0 []
  | .sl n cs => .sl n (nzL cs)
  | .int k n => .int k n
  | .bool b => .bool b
  | .str s => .str s
def nzL : List FV → List FV
  | [] => []
  | x :: l => nzF x :: nzL l
end
theorem nzL_map : ∀ l : List FV, nzL l = l.map nzF
  | [] => rfl
  | x :: l => by rw [nzL, nzL_map l]; rfl
theorem nzF_sl (n : Nat) (cs : List FV) : nzF (.sl n cs) = .sl n (cs.map nzF) := by rw [nzF, nzL_map]
def frzS (S : Nat → Bool) (H : Heap) : Nat → CV → Option FV
  | _, .f x => some (nzF x)
  | _, .emp => some (.sl 0 [])
  | n + 1, .own id g off k _ => if S id then match look H id g with
    | some b => (((b.cs.drop off).take (k * b.sz)).mapM (frzS S H n)).map (.sl k)
    | none => none else none
  | _, _ => none
section
variable {w : World} {X : Cx} {S : Nat → Bool} {H H' : Heap}
end
def Fz (S : Nat → Bool) (H : Heap) (n : Nat) (c : CV) (x : FV) : Prop := ∀ H' : Heap, (∀ i, S i = true → i < H.length → H'[i]? = H[i]?) → ∀ m, n ≤ m → frzS S H' m c = some x
theorem Fz.frz {S : Nat → Bool} {H : Heap} {n : Nat} {c : CV} {x : FV} (h : Fz S H n c x) {m : Nat} (hm : n ≤ m) : frzS S H m c = some x := h H (fun _ _ _ => rfl) m hm
theorem Fz.f {S : Nat → Bool} {H : Heap} {x : FV} (n : Nat) : Fz S H n (.f x) (nzF x) := fun H' _ m _ => by cases m <;> rfl
theorem Fz.emp {S : Nat → Bool} {H : Heap} (n : Nat) : Fz S H n .emp (.sl 0 []) := fun H' _ m _ => by cases m <;> rfl
theorem Fz.mono {S : Nat → Bool} {H H1 : Heap} {n : Nat} {c : CV} {x : FV} (h : Fz S H n c x) (hs : ∀ i, S i = true → i < H.length → H1[i]? = H[i]?) (hl : H.length ≤ H1.length) : Fz S H1 n c x :=
  fun H' k m hm => h H' (fun i hi hil => (k i hi (Nat.lt_of_lt_of_le hil hl)).trans (hs i hi hil)) m hm
theorem Fz.own {S : Nat → Bool} {H : Heap} {n : Nat} {id g k : Nat} {b : Blk} {xs : List FV} {lim : Option Nat} (hS : S id = true) (hl : look H id g = some b) (hlen : xs.length = k * b.sz) (hle : k * b.sz ≤ b.cs.length)
    (hc : ∀ j (h : j < xs.length), ∃ c, b.cs[j]? = some c ∧ Fz S H n c xs[j]) : Fz S H (n + 1) (.own id g 0 k lim) (.sl k xs) := fun H' hh m hm => by
  obtain ⟨m, rfl⟩ : ∃ m', m = m' + 1 := ⟨m - 1, by omega⟩
  have hlt : id < H.length := (List.getElem?_eq_some_iff.1 (look_some hl).1).1
  have hl' : look H' id g = some b := by unfold look at *; rw [hh id hS hlt]; exact hl
  simp only [frzS, hS, if_true, hl', List.drop_zero]
  have : ∀ (cs : List CV) (ys : List FV), cs.length = ys.length → (∀ j (h : j < ys.length), ∃ c, cs[j]? = some c ∧ frzS S H' m c = some ys[j]) → cs.mapM (frzS S H' m) = some ys := by
    intro cs
    induction cs with
    | nil => intro ys h _; have : ys = [] := List.eq_nil_of_length_eq_zero h.symm; subst this; rfl
    | cons c cs ih =>
      intro ys h hall
      cases ys with
      | nil => simp at h
      | cons y ys =>
        obtain ⟨c0, h0, h1⟩ := hall 0 (by simp)
        have : c = c0 := by simpa using h0
        subst this
        rw [List.mapM_cons, h1, ih ys (by simpa using h) fun j hj => by
          obtain ⟨c', q1, q2⟩ := hall (j + 1) (by simpa using hj)
          exact ⟨c', by simpa using q1, by simpa using q2⟩]
        rfl
  rw [this _ xs (by rw [List.length_take]; omega) fun j hj => ?_]
  · rfl
  · obtain ⟨c, h1, h2⟩ := hc j hj
    exact ⟨c, by rw [List.getElem?_take_of_lt (by omega)]; exact h1, h2 H' hh m (by omega)⟩
def headN : Nat → Code → Code
  | n + 1, .seq x y => .seq x (headN n y)
  | _, _ => .skip
def tailN : Nat → Code → Code
  | n + 1, .seq _ y => tailN n y
  | _, c => c
theorem headN_zero (c : Code) : headN 0 c = .skip := by cases c <;> rfl
theorem headN_seq (n : Nat) (x y : Code) : headN (n + 1) (.seq x y) = .seq x (headN n y) := rfl
theorem tailN_zero (c : Code) : tailN 0 c = c := by cases c <;> rfl
theorem tailN_seq (n : Nat) (x y : Code) : tailN (n + 1) (.seq x y) = tailN n y := rfl
def midK (R : KS) (K : KT) : KT := fun e s H => match e with
  | .normal => R s H
  | e => K e s H
theorem midK_normal (R : KS) (K : KT) (s : List AV) (H : Heap) : midK R K .normal s H = R s H := propext Iff.rfl
theorem midK_ret (R : KS) (K : KT) (s : List AV) (H : Heap) : midK R K .ret s H = K .ret s H := propext Iff.rfl
theorem midK_exit (R : KS) (K : KT) (i : Nat) (s : List AV) (H : Heap) : midK R K (.exit i) s H = K (.exit i) s H := propext Iff.rfl
theorem RunC.split {P : Program} {R : KS} {K : KT} : ∀ (n : Nat) (c : Code) (s : List AV) (H : Heap), cw P (headN n c) s H (midK R K) → (∀ s H, R s H → RunC P (tailN n c) ⟨s, H⟩ (stK K)) → RunC P c ⟨s, H⟩ (stK K)
  | 0, c, s, H, h, k => by
    rw [headN_zero] at h
    rw [← tailN_zero c]
    exact k s H h
  | n + 1, c, s, H, h, k => by
    cases c with
    | seq x y =>
      refine RunC.seq ((cw_sound x s H _ h).mono fun e st hq => ?_)
      cases e with
      | normal => exact RunC.split n y st.s st.h hq k
      | _ => exact hq
    | _ => exact k s H h
attribute [go_sem] headN_zero headN_seq tailN_zero tailN_seq midK_normal midK_ret midK_exit
theorem OpS.clear {P : Program} {o : Oper} {st : St} {K : AV → Heap → Prop} {t e : TypeId} {ti ei : TI} {x : Operand} {id g off n : Nat} {lim : Option Nat} {b : Blk}
    (ho : o.op = .call ⟨.builtin .clear, #[x], #[t]⟩) (ht : tinf P t = some ti) (hk : ti.k = .slice e) (he : tinf P e = some ei) (hz : ei.zero.length = ei.size)
    (hs : evO st.s x = .c (.own id g off n lim)) (hl : look st.h id g = some b) (hbs : b.sz = ei.size) (hn0 : 0 < n) (hfit : off + n * ei.size ≤ b.cs.length)
    (hK : K (.tup []) (st.h.set id (some ⟨b.g, b.sz, setRange b.cs off (zerosL (n * ei.size) ei.zero)⟩))) : OpS P o st K := by
  intro w X a R next Q hn
  obtain ⟨inf, d, z', i1, i2, i3, i4, i5, i6, i7⟩ := tinf_some ht
  rw [i5] at hk; cases tk_slice hk
  obtain ⟨z, hz1, hz2, hz3⟩ := zero_sound he
  have hsv := evO_sound R x
  rw [hs] at hsv
  obtain ⟨hgt, _, hall⟩ := va_c hsv
  obtain ⟨c1, a0, cap, hse, c2, c3, c4, c5⟩ := hall b hl
  have ha0 := c3 (by omega)
  subst ha0
  have hz0 : n * ei.size ≠ 0 → ei.zero.length ≠ 0 := fun h => by rw [hz]; intro h0; rw [h0] at h; exact h (Nat.mul_zero _)
  obtain ⟨q1, q2⟩ := zerosL_sound (w := w) (X := X) (H := st.h) hz2 (hz3 w X st.h) (n * ei.size) hz0
  have hone : ∀ y ∈ z.cells.toList, y.oneCell' = true := fun y hy => by
    obtain ⟨j, hj, rfl⟩ := List.mem_iff_getElem.1 hy
    obtain ⟨u, h1, h2⟩ := hz3 w X st.h j (by rw [← hz2]; simpa using hj)
    have : z.cells.toList[j] = u := by
      have := Array.getElem?_eq_some_iff.1 h1
      simpa using this.2
    rw [this]
    exact h2.one
  have hvs : (Builtin.zeroCells z.cells n).toList = ((Array.range (n * ei.size)).map (z.cells[· % z.cells.size]!)).toList := by
    unfold Builtin.zeroCells
    rw [show n * z.cells.size = n * ei.size by rw [hz2, hz]]
  have hlen : ((Array.range (n * ei.size)).map (z.cells[· % z.cells.size]!)).toList.length = (zerosL (n * ei.size) ei.zero).length := by simpa using q1
  have hzl : (zerosL (n * ei.size) ei.zero).length = n * ei.size := by simp [zerosL]
  obtain ⟨w', h4, h5, h6⟩ := put_cells R.heap hl (o := off) (cs := zerosL (n * ei.size) ei.zero) (vs := ((Array.range (n * ei.size)).map (z.cells[· % z.cells.size]!)).toList) hlen (by omega)
    (fun j hj => by obtain ⟨u, u1, u2⟩ := q2 j hj; exact ⟨u, by rw [Array.getElem?_toList]; exact u1, u2⟩) (fun y hy => by
      obtain ⟨j, hj, rfl⟩ := List.mem_iff_getElem.1 hy
      have hj' : j < (zerosL (n * ei.size) ei.zero).length := by rw [← hlen]; exact hj
      obtain ⟨u, u1, u2⟩ := q2 j hj'
      have : ((Array.range (n * ei.size)).map (z.cells[· % z.cells.size]!)).toList[j] = u := by
        have := Array.getElem?_eq_some_iff.1 u1
        simpa using this.2
      rw [this]
      exact u2.one)
  have hrun : (execOp a.eval o).run P w = .ok (.value (.tuple #[])) w' := by
    have hm : ∀ k : Nat, n = k + 1 → (Builtin.clear_ #[t] o.type #[.slice (some ⟨X.mu g, off, none⟩) n cap]).run P w = .ok (.tuple #[]) w' := fun k hk => by
      subst hk
      have h4' := h4 P
      simp only [Array.toList_map, Array.toList_range] at h4'
      simp [Builtin.clear_, run_underlying i2, hz1, hvs, h4']
    simp only [execOp, ho, resolve, Sem.run_bind, Sem.run_pure, Result.andThen_ok, invoke, builtin, List.map_toArray, List.map_cons, List.map_nil, hse]
    rw [hm (n - 1) (by omega)]
    rfl
  have hv : VA w' X (st.h.set id (some ⟨b.g, b.sz, setRange b.cs off (zerosL (n * ei.size) ei.zero)⟩)) (.tup []) (.tuple #[]) := .tup [] (fun _ => undef) fun j hj => absurd hj (Nat.not_lt_zero _)
  exact wp_value hrun (hn _ _ _ _ _ hv h5 h6 hK)
end Go.Lg

set_option linter.unusedSimpArgs false
set_option linter.unusedVariables false
set_option maxRecDepth 100000
namespace Go.Lg
open Go.Proofs
section
variable {P : Program} {o : Oper} {st : St} {K : KV} {fo : Operand} {xs : Array Operand} {ts : Array TypeId} {f : FuncId} {args args' : List AV} {zs : List Int}
end
def GrdAt (H HI : Heap) (id g : Nat) (B : Int) (cid cg n2 : Nat) : Prop := (∃ zs : List Int, look HI cid cg = some ⟨cg, 1, cl (eI .i64) zs⟩ ∧ n2 ≤ zs.length) ∧ RdAt HI id g B ∧ id < H.length ∧ H.length ≤ cid ∧ H.length ≤ HI.length ∧ ∀ k, k < H.length → k ≠ id → HI[k]? = H[k]?
theorem GrdAt.mono {H HI : Heap} {id g cid cg n2 : Nat} {B B' : Int} (h : GrdAt H HI id g B cid cg n2) (hb : B ≤ B') : GrdAt H HI id g B' cid cg n2 := by
  obtain ⟨h1, h2, h3⟩ := h
  exact ⟨h1, h2.mono hb, h3⟩
theorem GrdAt.pick {H HI H2 : Heap} {id g cid cg n2 : Nat} {B B' : Int} (h : GrdAt H HI id g B cid cg n2) (hr : RdAt H2 id g B') (hf : Frm HI H2 [id]) : GrdAt H H2 id g B' cid cg n2 := by
  obtain ⟨⟨zs, h1, h2⟩, _, h3, h4, h5, h6⟩ := h
  refine ⟨⟨zs, by rw [hf.look (by simp; omega)]; exact h1, h2⟩, hr, h3, h4, by rw [hf.1]; exact h5, fun k hk hne => ?_⟩
  rw [hf.2 k (by simp; exact hne), h6 k hk hne]
theorem GrdAt.store {H HI : Heap} {id g cid cg n2 : Nat} {B : Int} (h : GrdAt H HI id g B cid cg n2) {zs : List Int} (hz : n2 ≤ zs.length) : GrdAt H (HI.set cid (some ⟨cg, 1, cl (eI .i64) zs⟩)) id g B cid cg n2 := by
  obtain ⟨⟨_, h1, _⟩, h2, h3, h4, h5, h6⟩ := h
  have hlt : cid < HI.length := (List.getElem?_eq_some_iff.1 (look_some h1).1).1
  refine ⟨⟨zs, look_set_eq' hlt, hz⟩, h2.same (by rw [List.getElem?_set_ne (by omega)]), h3, h4, by simpa using h5, fun k hk hne => ?_⟩
  rw [List.getElem?_set_ne (by omega), h6 k hk hne]
theorem GrdAt.app {H HI X : Heap} {id g cid cg n2 : Nat} {B : Int} (h : GrdAt H HI id g B cid cg n2) : GrdAt H (HI ++ X) id g B cid cg n2 := by
  obtain ⟨⟨zs, h1, h2⟩, h3, h4, h5, h6, h7⟩ := h
  refine ⟨⟨zs, look_appL h1, h2⟩, h3.app, h4, h5, by rw [List.length_append]; omega, fun k hk hne => ?_⟩
  rw [List.getElem?_append_left (by omega), h7 k hk hne]
end Go.Lg

set_option linter.unusedSimpArgs false
set_option linter.unusedVariables false
set_option maxRecDepth 100000
namespace Go.Lg
open Go.Proofs
attribute [-go_sem] appendM
inductive OwnL {α : Type} (E : α → List FV) (n : Nat) (H : Heap) : CV → List α → Prop where
  | n : OwnL E n H (.f .nil) []
  | m : OwnL E n H .emp []
  | o (id g : Nat) (xs : List α) (h : look H id g = some ⟨g, n, cl E xs⟩) : OwnL E n H (.own id g 0 xs.length none) xs
def idsC : CV → Nat → Prop
  | .own id _ _ _ _, k => k = id
  | _, _ => False
section
variable {α : Type} {E : α → List FV} {n : Nat} {H H' : Heap} {c : CV} {xs ys : List α}
theorem OwnL.same (h : OwnL E n H c xs) (hs : ∀ i, idsC c i → i < H.length → H'[i]? = H[i]?) : OwnL E n H' c xs := by
  cases h with
  | n => exact .n
  | m => exact .m
  | o id g xs h => exact .o id g xs (by unfold look at *; rw [hs id rfl (List.getElem?_eq_some_iff.1 (look_some h).1).1]; exact h)
theorem OwnL.lt (h : OwnL E n H c xs) : ∀ i, idsC c i → i < H.length := by
  cases h with
  | n => exact fun i hi => hi.elim
  | m => exact fun i hi => hi.elim
  | o id g xs h => intro i hi; cases hi; exact (List.getElem?_eq_some_iff.1 (look_some h).1).1
theorem OwnL.app (h : OwnL E n H c xs) : OwnL E n (H ++ H') c xs := h.same fun i _ hl => List.getElem?_append_left hl
theorem OwnL.snap [HSz E n] (h : OwnL E n H c xs) : snapD H (.c c) = some (rsl E xs) := by
  cases h with
  | n => rfl
  | m => rfl
  | o id g xs h =>
    have e : (cl E xs).take (xs.length * n) = cl E xs := List.take_of_length_le (Nat.le_of_eq (cl_length xs))
    simp only [snapD, Lg.frzC, Lg.frz, h, List.drop_zero, e, frz_cl, Option.map_some]
theorem OwnL.frzC [HSz E n] (h : OwnL E n H c xs) : frzC H c = some (.f (fsl E xs)) := by
  have := h.snap
  simp only [snapD, Option.map_eq_some_iff] at this
  obtain ⟨y, h1, h2⟩ := this
  cases h2
  exact h1
theorem OwnL.len (P : Program) (h : OwnL E n H c xs) {s : List AV} {t : TypeId} {ei : TI} (ht : sliceOf P t = some ei) (hs : ei.size = n) : True := trivial
end
theorem nzF_ints {k : IntKind} (xs : List Int) : (fl (eI k) xs).map nzF = fl (eI k) xs := by
  induction xs with
  | nil => rfl
  | cons x xs ih => 
    show nzF _ :: (fl (eI k) xs).map nzF = _
    rw [ih]; rfl
theorem nzF_rules (rs : List Rul) : (fl eR rs).map nzF = fl eR rs := by
  induction rs with
  | nil => rfl
  | cons x xs ih =>
    show [nzF _, nzF _, nzF _] ++ (fl eR xs).map nzF = _
    rw [ih, fints, nzF_sl, nzF_ints]; rfl
theorem frzS_cells {S : Nat → Bool} {H : Heap} {n : Nat} : ∀ (l : List FV), (l.map CV.f).mapM (frzS S H n) = some (l.map nzF)
  | [] => rfl
  | x :: l => by
    rw [List.map_cons, List.mapM_cons, frzS_cells l]
    cases n <;> rfl
theorem OwnL.frzS {S : Nat → Bool} {H : Heap} {c : CV} {rs : List Rul} (h : OwnL eR 3 H c rs) (hs : ∀ i, idsC c i → S i = true) (m : Nat) : frzS S H (m + 1) c = some (fsl eR rs) := by
  cases h with
  | n => rfl
  | m => rfl
  | o id g xs h =>
    have e : (cl eR rs).take (rs.length * 3) = cl eR rs := List.take_of_length_le (Nat.le_of_eq (cl_length rs))
    simp only [Lg.frzS, hs id rfl, if_true, h, List.drop_zero, e]
    rw [show cl eR rs = (fl eR rs).map CV.f from rfl, frzS_cells, nzF_rules]
    rfl
end Go.Lg

set_option linter.unusedSimpArgs false
set_option linter.unusedVariables false
set_option maxRecDepth 100000
namespace Go.Lg
open Go.Proofs
theorem sGridFilled_run (xs : List Int) (n : Int) (hx : xs.length ≤ 2 ^ 40) : Reads Try.prog 137 [ints xs, int n] (int (gridFilled xs n)) := by
  refine RunCall.cw (c := _) Try.func137 rfl (n := 25) Try.ntmps137 (rs := [.tmp 4]) rfl ?_
  simp only [List.length_cons, List.length_nil, Nat.reduceAdd, Nat.reduceSub, List.replicate, List.cons_append, List.nil_append]
  simp(maxSteps:=999999)(disch:=omega)only[go_sem,reduceAdd,reduceMul,reduceSub,reduceEqDiff,reduceLeDiff]
  first | refine OpS.rd (sGridValid_run xs n hx) (⟨_, Try.func26, rfl, rfl⟩ : Enters Try.prog 26) rfl rfl rfl rfl ?_ | refine Loud.rd (sGridValid_run xs n hx) (⟨_, Try.func26, rfl, rfl⟩ : Enters Try.prog 26) rfl rfl rfl rfl ?_
  simp(maxSteps:=999999)(disch:=omega)only[go_sem,reduceAdd,reduceMul,reduceSub,reduceEqDiff,reduceLeDiff]
  ((first | with_reducible refine condK_dec ?_ ?_ | with_reducible refine condK_ndec ?_ ?_ | with_reducible refine condK_nb ?_ ?_ | refine condK_b ?_ ?_) <;> intro hv)
  rotate_left
  · simp(maxSteps:=999999)(disch:=omega)only[go_sem,reduceAdd,reduceMul,reduceSub,reduceEqDiff,reduceLeDiff]
    unfold gridFilled
    rw [if_neg (by rw [hv]; simp)]
  have hg : gridFilled xs n = (xs.countP fun v => decide (0 < v) : Nat) := by unfold gridFilled; rw [if_pos hv]
  rw [hg]
  simp(maxSteps:=999999)(disch:=omega)only[go_sem,reduceAdd,reduceMul,reduceSub,reduceEqDiff,reduceLeDiff]
  refine loop_rule (fun k : Nat => xs.length - k) (fun k => k ≤ xs.length) (fun k => [.k, .a, .a, .a, .a, .p (int ((xs.take k).countP fun v => decide (0 < v) : Nat)), .p (int k), .a, .a, .a, .a, .a, .a, .a, .a, .a, .a, .a, .a, .a, .a, .a, .a, .a, .a]) (fun _ => []) 0 (Nat.zero_le _) (by simp(maxSteps:=999999)(disch:=omega)only[go_sem,reduceAdd,reduceMul,reduceSub,reduceEqDiff,reduceLeDiff]; exact ⟨by simp, rfl⟩) (hle_nil _) ?_
  intro k hk
  have hc := countP_le xs (fun v => decide (0 < v)) k
  simp(maxSteps:=999999)(disch:=omega)only[go_sem,reduceAdd,reduceMul,reduceSub,reduceEqDiff,reduceLeDiff]
  ((first | with_reducible refine condK_dec ?_ ?_ | with_reducible refine condK_ndec ?_ ?_ | with_reducible refine condK_nb ?_ ?_ | refine condK_b ?_ ?_) <;> intro c1)
  · have c1 : k < xs.length := by omega
    have hs := countP_take (f := fun v => decide (0 < v)) c1
    simp(maxSteps:=999999)(disch:=omega)only[go_sem,reduceAdd,reduceMul,reduceSub,reduceEqDiff,reduceLeDiff]
    ((first | with_reducible refine condK_dec ?_ ?_ | with_reducible refine condK_ndec ?_ ?_ | with_reducible refine condK_nb ?_ ?_ | refine condK_b ?_ ?_) <;> intro c2)
    · rw [decide_eq_true c2, if_pos rfl] at hs
      simp(maxSteps:=999999)(disch:=omega)only[go_sem,reduceAdd,reduceMul,reduceSub,reduceEqDiff,reduceLeDiff]
      refine ⟨k + 1, ⟨by omega, by omega⟩, ⟨by rw [hs]; push_cast; omega, by push_cast; omega⟩, hle_nil _⟩
    · rw [decide_eq_false c2, if_neg (by simp)] at hs
      simp(maxSteps:=999999)(disch:=omega)only[go_sem,reduceAdd,reduceMul,reduceSub,reduceEqDiff,reduceLeDiff]
      refine ⟨k + 1, ⟨by omega, by omega⟩, ⟨by rw [hs]; rfl, by push_cast; omega⟩, hle_nil _⟩
  · have hke : k = xs.length := by omega
    simp(maxSteps:=999999)(disch:=omega)only[go_sem,reduceAdd,reduceMul,reduceSub,reduceEqDiff,reduceLeDiff]
    rw [hke, List.take_length]
def solvedV (p : Puz) (xs : List Int) : Bool := (puzzleValid p && (gridValid xs p.size && fitsL p xs p.size.toNat)) && decide (gridFilled xs p.size = xs.length)
theorem sPuzzleSolved_run (p : Puz) (xs : List Int) (hx : smP p) (hl : xs.length ≤ 2 ^ 40) : Reads Try.prog 103 [aP p, ints xs] (bool (solvedV p xs)) := by
  refine RunCall.cw (c := _) Try.func103 rfl (n := 17) Try.ntmps103 (rs := [.tmp 4]) rfl ?_
  simp only [List.length_cons, List.length_nil, Nat.reduceAdd, Nat.reduceSub, List.replicate, List.cons_append, List.nil_append]
  simp(maxSteps:=999999)(disch:=omega)only[go_sem,reduceAdd,reduceMul,reduceSub,reduceEqDiff,reduceLeDiff]
  intro g
  first | refine OpS.rd (sPuzzleFits_run p xs hx hl) (⟨_, Try.func75, rfl, rfl⟩ : Enters Try.prog 75) rfl rfl rfl rfl ?_ | refine Loud.rd (sPuzzleFits_run p xs hx hl) (⟨_, Try.func75, rfl, rfl⟩ : Enters Try.prog 75) rfl rfl rfl rfl ?_
  simp(maxSteps:=999999)(disch:=omega)only[go_sem,reduceAdd,reduceMul,reduceSub,reduceEqDiff,reduceLeDiff]
  unfold solvedV
  cases puzzleValid p && (gridValid xs p.size && fitsL p xs p.size.toNat) with
  | false =>
    simp(maxSteps:=999999)(disch:=omega)only[go_sem,reduceAdd,reduceMul,reduceSub,reduceEqDiff,reduceLeDiff]
    rw [Bool.false_and]
  | true =>
    simp(maxSteps:=999999)(disch:=omega)only[go_sem,reduceAdd,reduceMul,reduceSub,reduceEqDiff,reduceLeDiff]
    first | refine OpS.rd (sGridFilled_run xs p.size hl) (⟨_, Try.func137, rfl, rfl⟩ : Enters Try.prog 137) rfl rfl rfl rfl ?_ | refine Loud.rd (sGridFilled_run xs p.size hl) (⟨_, Try.func137, rfl, rfl⟩ : Enters Try.prog 137) rfl rfl rfl rfl ?_
    simp(maxSteps:=999999)(disch:=omega)only[go_sem,reduceAdd,reduceMul,reduceSub,reduceEqDiff,reduceLeDiff]
attribute [-go_sem] appendM lwF_cons
theorem resV_ct (P : Program) (s : List AV) (H : Heap) (t u : Nat) (ty : TypeId) : resV P s H [.cell t ty, .tmp u] = (loadV P H ty (s.getD t .void)).map fun v => .tup [v, s.getD u .void] := by
  simp only [resV, resAll, resOne]
  cases loadV P H ty (s.getD t .void) <;> rfl
attribute [go_sem] resV_ct
def PzO (H : Heap) (n0 : Nat) (z : Int) (gc rc : CV) (zs : List Int) (rs : List Rul) : Prop := ∃ gid gg, gc = .own gid gg 0 zs.length none ∧ look H gid gg = some ⟨gg, 1, cl (eI .i64) zs⟩ ∧ n0 ≤ gid ∧ OwnL eR 3 H rc rs ∧ (∀ i, idsC rc i → n0 ≤ i ∧ i ≠ gid)
theorem PzO.snap {H : Heap} {n0 : Nat} {z : Int} {gc rc : CV} {zs : List Int} {rs : List Rul} (h : PzO H n0 z gc rc zs rs) : snapD H (.agg [.f (.int .i64 z), gc, rc]) = some (aP ⟨z, zs, rs⟩) := by
  obtain ⟨gid, gg, rfl, h1, _, h2, _⟩ := h
  have e1 : ∀ x : Int, frzC H (.f (.int .i64 x)) = some (.f (.int .i64 x)) := fun _ => rfl
  have e2 := (OwnI.o (H := H) gid gg none zs [] (by rw [List.append_nil]; exact h1)).frzC
  simp only [snapD, List.mapM_cons, List.mapM_nil, e1, e2, h2.frzC, Option.bind_eq_bind, Option.pure_def, Option.bind_some, Option.map_some]
theorem PzO.same {H H' : Heap} {n0 : Nat} {z : Int} {gc rc : CV} {zs : List Int} {rs : List Rul} (h : PzO H n0 z gc rc zs rs) (hs : ∀ i, n0 ≤ i → (idsC gc i ∨ idsC rc i) → i < H.length → H'[i]? = H[i]?) : PzO H' n0 z gc rc zs rs := by
  obtain ⟨gid, gg, rfl, h1, h2, h3, h4⟩ := h
  exact ⟨gid, gg, rfl, by unfold look at *; rw [hs gid h2 (.inl rfl) (List.getElem?_eq_some_iff.1 (look_some h1).1).1]; exact h1, h2, h3.same fun i hi hl => hs i (h4 i hi).1 (.inr hi) hl, h4⟩
theorem PzO.n0 {H : Heap} {n0 n1 : Nat} {z : Int} {gc rc : CV} {zs : List Int} {rs : List Rul} (h : PzO H n0 z gc rc zs rs) (hn : n1 ≤ n0) : PzO H n1 z gc rc zs rs := by
  obtain ⟨gid, gg, rfl, h1, h2, h3, h4⟩ := h
  exact ⟨gid, gg, rfl, h1, by omega, h3, fun i hi => ⟨by have := (h4 i hi).1; omega, (h4 i hi).2⟩⟩
end Go.Lg

set_option linter.unusedSimpArgs false
set_option linter.unusedVariables false
set_option maxRecDepth 100000
namespace Go.Lg
open Go.Proofs
def fitsV (p : Puz) (xs : List Int) : Bool := puzzleValid p && (gridValid xs p.size && fitsL p xs p.size.toNat)
theorem sum_le_mul : ∀ (l : List Nat) (b : Nat), (∀ x ∈ l, x ≤ b) → l.sum ≤ b * l.length
  | [], b, _ => by simp
  | x :: l, b, h => by
    have h1 := sum_le_mul l b fun y hy => h y (by simp [hy])
    have h2 := h x (by simp)
    simp only [List.sum_cons, List.length_cons, Nat.mul_add, Nat.mul_one]
    omega
theorem MsN.sum {ms : List Nat} {n : Nat} (hn : n = 2 ∨ n = 3 ∨ n = 4) (h : MsN ms n) : ms.sum ≤ 480 := by
  have h1 := sum_le_mul ms 30 fun x hx => by have := (h.val x hx).1; have := pow_n hn; omega
  have h2 : ms.length ≤ 16 := by rw [h.len]; rcases hn with rfl | rfl | rfl <;> omega
  omega
theorem SquareFits_gen (xs : List Int) (n : Int) (hx : xs.length ≤ 2 ^ 40) : Reads Try.prog 122 [ints xs, int n] (bool (gridValid xs n && !clash xs n.toNat)) := by
  cases h : gridValid xs n with
  | true =>
    have hb := gridValid_bound h
    obtain ⟨m, rfl⟩ : ∃ m : Nat, n = m := ⟨n.toNat, by omega⟩
    have hn : m = 2 ∨ m = 3 ∨ m = 4 := by omega
    have := SquareFits_run hn xs (GrdN.of hn h)
    rw [Int.toNat_natCast, Bool.true_and]
    exact this
  | false =>
    refine RunCall.cw (c := _) Try.func122 rfl (n := 47) Try.ntmps122 (rs := [.tmp 4]) rfl ?_
    simp only [List.length_cons, List.length_nil, Nat.reduceAdd, Nat.reduceSub, List.replicate, List.cons_append, List.nil_append]
    simp(maxSteps:=999999)(disch:=omega)only[go_sem,reduceAdd,reduceMul,reduceSub,reduceEqDiff,reduceLeDiff]
    first | refine OpS.rd (GridValid_run xs n (by omega)) (⟨_, Try.func69, rfl, rfl⟩ : Enters Try.prog 69) rfl rfl rfl rfl ?_ | refine Loud.rd (GridValid_run xs n (by omega)) (⟨_, Try.func69, rfl, rfl⟩ : Enters Try.prog 69) rfl rfl rfl rfl ?_
    simp(maxSteps:=999999)(disch:=omega)only[go_sem,reduceAdd,reduceMul,reduceSub,reduceEqDiff,reduceLeDiff]
    ((first | with_reducible refine condK_dec ?_ ?_ | with_reducible refine condK_ndec ?_ ?_ | with_reducible refine condK_nb ?_ ?_ | refine condK_b ?_ ?_) <;> intro c1)
    · exfalso; rw [h] at c1; cases c1
    · simp(maxSteps:=999999)(disch:=omega)only[go_sem,reduceAdd,reduceMul,reduceSub,reduceEqDiff,reduceLeDiff]
      rfl
theorem PuzzleFits_gen (p : Puz) (xs : List Int) (hx : smP p) (hl : xs.length ≤ 2 ^ 40) : Reads Try.prog 82 [aP p, ints xs] (bool (fitsV p xs)) := by
  by_cases h : puzzleValid p = true ∧ gridValid xs p.size = true
  · obtain ⟨hp, hg, ha, _⟩ := grd_facts h.1 h.2
    have := PuzzleFits_run hp h.1 xs hg
    unfold fitsV
    rw [h.1, h.2, Bool.true_and, Bool.true_and]
    exact this
  · have e : fitsV p xs = false := by
      unfold fitsV
      cases h1 : puzzleValid p
      · rfl
      · cases h2 : gridValid xs p.size
        · rfl
        · exact absurd ⟨h1, h2⟩ h
    rw [e]
    refine RunCall.cw (c := _) Try.func82 rfl (n := 60) Try.ntmps82 (rs := [.tmp 4]) rfl ?_
    simp only [List.length_cons, List.length_nil, Nat.reduceAdd, Nat.reduceSub, List.replicate, List.cons_append, List.nil_append]
    simp(maxSteps:=999999)(disch:=omega)only[go_sem,reduceAdd,reduceMul,reduceSub,reduceEqDiff,reduceLeDiff]
    intro g
    first | refine OpS.rd (PuzzleValid_run p hx) (⟨_, Try.func66, rfl, rfl⟩ : Enters Try.prog 66) rfl rfl rfl rfl ?_ | refine Loud.rd (PuzzleValid_run p hx) (⟨_, Try.func66, rfl, rfl⟩ : Enters Try.prog 66) rfl rfl rfl rfl ?_
    simp(maxSteps:=999999)(disch:=omega)only[go_sem,reduceAdd,reduceMul,reduceSub,reduceEqDiff,reduceLeDiff]
    ((first | with_reducible refine guardK_dec ?_ ?_ | with_reducible refine guardK_ndec ?_ ?_ | with_reducible refine guardK_nb ?_ ?_ | with_reducible refine guardK_split ?_ ?_ | with_reducible refine guardQ_dec ?_ ?_ | with_reducible refine guardL_dec ?_ ?_ | with_reducible refine guardQ_ndec ?_ ?_ | with_reducible refine guardL_ndec ?_ ?_ | with_reducible refine guardQ_nb ?_ ?_ | with_reducible refine guardL_nb ?_ ?_ | with_reducible refine guardQ_split ?_ ?_ | with_reducible refine guardL_split ?_ ?_) <;> intro c1 <;> simp(maxSteps:=999999)(disch:=omega)only[go_sem,reduceAdd,reduceMul,reduceSub,reduceEqDiff,reduceLeDiff, c1])
    have c2 : (gridValid xs p.size && !clash xs p.size.toNat) = false := by
      cases h2 : gridValid xs p.size
      · rfl
      · exact absurd ⟨c1, h2⟩ h
    first | refine OpS.rd (SquareFits_gen xs p.size hl) (⟨_, Try.func122, rfl, rfl⟩ : Enters Try.prog 122) rfl rfl rfl rfl ?_ | refine Loud.rd (SquareFits_gen xs p.size hl) (⟨_, Try.func122, rfl, rfl⟩ : Enters Try.prog 122) rfl rfl rfl rfl ?_
    simp(maxSteps:=999999)(disch:=omega)only[go_sem,reduceAdd,reduceMul,reduceSub,reduceEqDiff,reduceLeDiff]
    rw [c2]
    simp(maxSteps:=999999)(disch:=omega)only[go_sem,reduceAdd,reduceMul,reduceSub,reduceEqDiff,reduceLeDiff]
end Go.Lg

set_option linter.unusedSimpArgs false
set_option linter.unusedVariables false
set_option maxRecDepth 100000
namespace Go.Lg
open Go.Proofs
def onlyL (ms : List Nat) : List Nat := ms.map onlyV
def endM (p : Puz) (ms : List Nat) : Option Nat :=
  if (∃ m ∈ ms, m = 0) then some 0 else if (∀ m ∈ ms, onlyV m ≠ 0) then some (if solvedV p (nats (onlyL ms)) = true then 1 else 0) else none
def tryL (c : List Nat → List Brn → Option (Nat × List Brn)) (ms : List Nat) (k : Nat) : List Int → List Brn → Nat → Option (Nat × List Brn)
  | [], bs, s => some (s, bs)
  | v :: vs, bs, s => match c (ms.set k (2 ^ v.toNat)) bs with
    | none => none
    | some (n, l) => tryL c ms k vs l (s + n)
def chkF (p : Puz) : Nat → List Nat → List Brn → Option (Nat × List Brn)
  | 0, _, _ => none
  | f + 1, ms, bs => match endM p ms with
    | some n => some (n, bs)
    | none => match bs with
      | [] => none
      | b :: r => if 0 < b.tech then chkF p f (narM p b.tech.toNat ms) r else tryL (chkF p f) ms b.cell.toNat (mvals (mAt ms b.cell.toNat) 4) r 0
theorem tryL_step {c : List Nat → List Brn → Option (Nat × List Brn)} {ms : List Nat} {k i s : Nat} {vals : List Int} {l : List Brn} (h : i < vals.length) :
    tryL c ms k (vals.drop i) l s = match c (ms.set k (2 ^ (nth vals i).toNat)) l with
      | none => none
      | some (n, l') => tryL c ms k (vals.drop (i + 1)) l' (s + n) := by
  rw [List.drop_eq_getElem_cons h, nth_eq (by omega)]
  rfl
theorem tryL_end {c : List Nat → List Brn → Option (Nat × List Brn)} {ms : List Nat} {k i s : Nat} {vals : List Int} {l : List Brn} (h : vals.length ≤ i) : tryL c ms k (vals.drop i) l s = some (s, l) := by
  rw [List.drop_eq_nil_of_le h]
  rfl
def ChkOk (bs : List Brn) : Option (Nat × List Brn) → Prop
  | none => True
  | some (n, l) => (∃ pre, bs = pre ++ l) ∧ n + 3 * l.length ≤ 3 * bs.length + 1
theorem tryL_ok {c : List Nat → List Brn → Option (Nat × List Brn)} (hc : ∀ ms bs, ChkOk bs (c ms bs)) (ms : List Nat) (k : Nat) (r : List Brn) (L : Nat) : ∀ (vs : List Int) (bs : List Brn) (s : Nat), (∃ pre, r = pre ++ bs) → s + 3 * bs.length + vs.length ≤ 3 * r.length + L →
    match tryL c ms k vs bs s with
    | none => True
    | some (n, l) => (∃ pre, r = pre ++ l) ∧ n + 3 * l.length ≤ 3 * r.length + L
  | [], bs, s, hp, hs => ⟨hp, by simpa using hs⟩
  | v :: vs, bs, s, hp, hs => by
    have h := hc (ms.set k (2 ^ v.toNat)) bs
    unfold tryL
    cases e : c (ms.set k (2 ^ v.toNat)) bs with
    | none => trivial
    | some q =>
      obtain ⟨n, l⟩ := q
      rw [e] at h
      obtain ⟨⟨pre, h1⟩, h2⟩ := h
      obtain ⟨pre2, h3⟩ := hp
      simp only [List.length_cons] at hs
      exact tryL_ok hc ms k r L vs l (s + n) ⟨pre2 ++ pre, by rw [h3, h1, List.append_assoc]⟩ (by omega)
theorem chkF_ok (p : Puz) : ∀ (f : Nat) (ms : List Nat) (bs : List Brn), ChkOk bs (chkF p f ms bs)
  | 0, _, _ => trivial
  | f + 1, ms, bs => by
    unfold chkF
    cases e : endM p ms with
    | some n =>
      refine ⟨⟨[], rfl⟩, ?_⟩
      unfold endM at e
      split at e
      · cases e; omega
      · split at e
        · cases e; split <;> omega
        · cases e
    | none =>
      cases bs with
      | nil => trivial
      | cons b r =>
        show ChkOk (b :: r) (if _ then _ else _)
        split
        · have h := chkF_ok p f (narM p b.tech.toNat ms) r
          cases e2 : chkF p f (narM p b.tech.toNat ms) r with
          | none => trivial
          | some q =>
            rw [e2] at h
            obtain ⟨⟨pre, h1⟩, h2⟩ := h
            exact ⟨⟨b :: pre, by rw [h1]; rfl⟩, by simp only [List.length_cons]; omega⟩
        · have h := tryL_ok (chkF_ok p f) ms b.cell.toNat r 4 (mvals (mAt ms b.cell.toNat) 4) r 0 ⟨[], rfl⟩ (by have := mvals_len (mAt ms b.cell.toNat) 4; omega)
          cases e2 : tryL (chkF p f) ms b.cell.toNat (mvals (mAt ms b.cell.toNat) 4) r 0 with
          | none => trivial
          | some q =>
            rw [e2] at h
            obtain ⟨⟨pre, h1⟩, h2⟩ := h
            exact ⟨⟨b :: pre, by rw [h1]; rfl⟩, by simp only [List.length_cons]; omega⟩
theorem mvals_bit {m : Nat} {v : Int} (h : v ∈ mvals m 4) : ∃ u : Nat, v = u ∧ 1 ≤ u ∧ u ≤ 4 ∧ m.testBit u = true := by
  unfold mvals at h
  obtain ⟨u, hu, hx⟩ := List.mem_flatMap.1 h
  have := List.mem_of_mem_take hu
  split at hx
  · rename_i hb
    simp only [List.mem_singleton] at hx
    simp only [List.mem_cons, List.not_mem_nil, or_false] at this
    exact ⟨u, hx, by omega, by omega, hb⟩
  · simp at hx
theorem MsN.tried {ms : List Nat} {n k : Nat} {v : Int} (hm : MsN ms n) (hv : v ∈ mvals (mAt ms k) 4) : MsN (ms.set k (2 ^ v.toNat)) n := by
  obtain ⟨u, rfl, h1, h2, h3⟩ := mvals_bit hv
  have h4 := Nat.ge_two_pow_of_testBit h3
  have h5 := hm.at k
  refine hm.set ⟨by rw [Int.toNat_natCast]; omega, ?_⟩
  rw [Int.toNat_natCast]
  have : u = 1 ∨ u = 2 ∨ u = 3 ∨ u = 4 := by omega
  rcases this with rfl | rfl | rfl | rfl <;> rfl
theorem onlyL_len (ms : List Nat) : (onlyL ms).length = ms.length := by simp [onlyL]
theorem onlyL_at (ms : List Nat) (k : Nat) : mAt (onlyL ms) k = onlyV (mAt ms k) := by
  unfold mAt onlyL
  simp only [List.getD, List.getElem?_map]
  cases ms[k]? <;> rfl
end Go.Lg
