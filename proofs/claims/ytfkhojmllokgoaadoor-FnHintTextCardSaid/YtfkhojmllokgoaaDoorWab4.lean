/- GpCA, GpCC, GpCE, GpGA, GpOE, GpDC, GpI2, GpDF, GpDG, GpDH, GpDJ, GpGB, GpGC, GpGD, cut to what is needed. -/
import Derived.Test.YtfkhojmllokgoaaDoorWab3
import Derived.Test.YtfkhojmllokgoaaDoorWab2
import Derived.KernelRfl
import Derived.Test.YtfkhojmllokgoaaDoorWab1
open Nat(reduceAdd reduceMul reduceSub reduceEqDiff reduceLeDiff)
set_option linter.unusedSimpArgs false
set_option linter.unusedVariables false
set_option maxRecDepth 100000
namespace Go.Lg
open Go.Proofs
def RdAt (H : Heap) (id g : Nat) (B : Int) : Prop := ∃ (sz : Nat) (b : List Int) (p : Int), look H id g = some ⟨g, sz, [.f (.sl b.length (fl (eI .u8) b)), .f (.int .i64 p)]⟩ ∧ b.length ≤ 2000 ∧ (∀ x ∈ b, 0 ≤ x ∧ x ≤ 255) ∧ 0 ≤ p ∧ p ≤ B
theorem RdAt.mono {H : Heap} {id g : Nat} {B B' : Int} (h : RdAt H id g B) (hb : B ≤ B') : RdAt H id g B' := by
  obtain ⟨sz, b, p, h1, h2, h3, h4, h5⟩ := h
  exact ⟨sz, b, p, h1, h2, h3, h4, by omega⟩
theorem RdAt.same {H H' : Heap} {id g : Nat} {B : Int} (h : RdAt H id g B) (hs : H'[id]? = H[id]?) : RdAt H' id g B := by
  obtain ⟨sz, b, p, h1, h2⟩ := h
  exact ⟨sz, b, p, by unfold look at *; rw [hs]; exact h1, h2⟩
theorem RdAt.lt {H : Heap} {id g : Nat} {B : Int} (h : RdAt H id g B) : id < H.length := by
  obtain ⟨sz, b, p, h1, _⟩ := h
  exact (List.getElem?_eq_some_iff.1 (look_some h1).1).1
theorem xor_nat {a b : Int} (ha : 0 ≤ a ∧ a < 2 ^ 62) (hb : 0 ≤ b ∧ b < 2 ^ 62) : 0 ≤ bitsI .xor .i64 a b ∧ bitsI .xor .i64 a b < 2 ^ 62 := by
  obtain ⟨x, rfl⟩ : ∃ x : Nat, a = x := ⟨a.toNat, by omega⟩
  obtain ⟨y, rfl⟩ : ∃ y : Nat, b = y := ⟨b.toNat, by omega⟩
  have hx : x < 2 ^ 62 := by omega
  have hy : y < 2 ^ 62 := by omega
  have hz : x ^^^ y < 2 ^ 62 := Nat.xor_lt_two_pow hx hy
  have e : (BitVec.ofInt 64 (x : Int) ^^^ BitVec.ofInt 64 (y : Int)).toNat = x ^^^ y := by
    simp only [BitVec.toNat_xor, BitVec.ofInt_natCast, BitVec.toNat_ofNat]
    rw [Nat.mod_eq_of_lt (by omega), Nat.mod_eq_of_lt (by omega)]
  have e2 : bitsI .xor .i64 (x : Int) (y : Int) = ((x ^^^ y : Nat) : Int) := by
    unfold bitsI
    show IntKind.wrap .i64 ((BitVec.ofInt 64 (x : Int) ^^^ BitVec.ofInt 64 (y : Int)).toNat : Int) = _
    rw [e]
    exact ok_i64 (by omega)
  rw [e2]
  omega
theorem look_set_eq' {H : Heap} {id g sz : Nat} {cs : List CV} (h : id < H.length) : look (H.set id (some ⟨g, sz, cs⟩)) id g = some ⟨g, sz, cs⟩ := look_of (b := ⟨g, sz, cs⟩) (by rw [List.getElem?_set_self h])
theorem tdiv_nn {a b : Int} (h : 0 ≤ a) : a.tdiv b = a / b := Int.tdiv_eq_ediv_of_nonneg h
theorem tmod_nn {a b : Int} (h : 0 ≤ a) : a.tmod b = a % b := Int.tmod_eq_emod_of_nonneg h
theorem nilV_ptr {H : Heap} {id g off : Nat} {b : Blk} (h : look H id g = some b) : nilV H (.c (.ptr id g off)) = some (.c (.ptr id g off)) := by simp [nilV, h]
def pickQ (H : Heap) (id g : Nat) (B n : Int) : KV := fun v H' => (∃ y, v = int y ∧ 0 ≤ y ∧ (1 ≤ n → y < n)) ∧ RdAt H' id g (B + 1) ∧ Frm H H' [id]
theorem pick_run (H : Heap) (id g : Nat) (B n : Int) (hr : RdAt H id g B) (hB : B ≤ 2 ^ 40) : RunCall Tryd.prog 31 [.c (.ptr id g 0), int n] H (pickQ H id g B n) := by
  have hlt := hr.lt
  obtain ⟨sz, b, p, hl, hb1, hb2, hp0, hp1⟩ := hr
  have hs : ∀ x, look (H.set id (some ⟨g, sz, x⟩)) id g = some ⟨g, sz, x⟩ := fun x => look_set_eq' hlt
  have fin : ∀ y, 0 ≤ y → (1 ≤ n → y < n) → lessQ (H.set id (some ⟨g, sz, [.f (.sl b.length (fl (eI .u8) b)), .f (.int .i64 (p + 1))]⟩)) (pickQ H id g B n) (int y) := fun y h0 h1 =>
    ⟨_, HLe.refl _, ⟨y, rfl, h0, h1⟩, ⟨sz, b, p + 1, hs _, hb1, hb2, by omega, by omega⟩, Frm.set _ _ _⟩
  have nl : nilV H (.c (.ptr id g 0)) = some (.c (.ptr id g 0)) := nilV_ptr hl
  have ns : ∀ x, nilV (H.set id (some ⟨g, sz, x⟩)) (.c (.ptr id g 0)) = some (.c (.ptr id g 0)) := fun x => nilV_ptr (hs x)
  refine RunCall.cw (c := _) Tryd.func31 rfl (n := 99) Tryd.ntmps31 (rs := [.tmp 4]) rfl ?_
  simp only[List.length_cons,List.length_nil,reduceAdd,reduceSub,List.replicate,List.cons_append,List.nil_append]
  simp(maxSteps:=999999)(disch:=omega)only[go_sem,reduceAdd,reduceMul,reduceSub,reduceEqDiff,reduceLeDiff, hl, hs, nl, ns]
  ((with_reducible first|refine guardK_dec ?_ ?_|refine guardK_ndec ?_ ?_|refine guardK_nb ?_ ?_|refine guardK_split ?_ ?_|refine guardQ_dec ?_ ?_|refine guardL_dec ?_ ?_|refine guardQ_ndec ?_ ?_|refine guardL_ndec ?_ ?_|refine guardQ_nb ?_ ?_|refine guardL_nb ?_ ?_|refine guardQ_split ?_ ?_|refine guardL_split ?_ ?_) <;> intro h1 <;> simp(maxSteps:=999999)(disch:=omega)only[go_sem,reduceAdd,reduceMul,reduceSub,reduceEqDiff,reduceLeDiff, h1])
  · exact fin 0 (by omega) (by omega)
  simp(maxSteps:=999999)(disch:=omega)only[go_sem,reduceAdd,reduceMul,reduceSub,reduceEqDiff,reduceLeDiff, hl, hs, nl, ns]
  ((first|(with_reducible first|refine condK_dec ?_ ?_|refine condK_ndec ?_ ?_|refine condK_nb ?_ ?_)|refine condK_b ?_ ?_) <;> intro h2)
  · simp(maxSteps:=999999)(disch:=omega)only[go_sem,reduceAdd,reduceMul,reduceSub,reduceEqDiff,reduceLeDiff]
    have : b.length = 0 := by omega
    exact fin 0 (by omega) (by omega)
  have hbl : 0 < b.length := by omega
  simp(maxSteps:=999999)(disch:=omega)only[go_sem,reduceAdd,reduceMul,reduceSub,reduceEqDiff,reduceLeDiff, hl, hs, nl, ns]
  obtain ⟨i, hi⟩ : ∃ i : Nat, p + 1 - 1 = i := ⟨p.toNat, by omega⟩
  rw [hi]
  have hbm : ∀ k : Nat, k < b.length → 0 ≤ nth b k ∧ nth b k ≤ 255 := fun k hk => hb2 _ (by rw [nth_eq (by omega)]; exact List.getElem_mem _)
  ((first|(with_reducible first|refine condK_dec ?_ ?_|refine condK_ndec ?_ ?_|refine condK_nb ?_ ?_)|refine condK_b ?_ ?_) <;> intro h3)
  · have hil : i < b.length := by omega
    have hx := hbm i hil
    simp(maxSteps:=999999)(disch:=omega)only[go_sem,reduceAdd,reduceMul,reduceSub,reduceEqDiff,reduceLeDiff, hl, hs, nl, ns]
    rw [tmod_nn hx.1]
    exact fin _ (Int.emod_nonneg _ (by omega)) (fun h => Int.emod_lt_of_pos _ (by omega))
  simp(maxSteps:=999999)(disch:=omega)only[go_sem,reduceAdd,reduceMul,reduceSub,reduceEqDiff,reduceLeDiff]
  have hi40 : (i : Int) ≤ 2 ^ 40 := by omega
  have hbz : (0 : Int) < (b.length : Int) := by omega
  obtain ⟨j1, e1⟩ : ∃ j : Nat, ((i : Int)).tmod (b.length : Int) = j := ⟨(((i : Int)).tmod (b.length : Int)).toNat, by rw [tmod_nn (by omega)]; have := Int.emod_nonneg (i : Int) (show (b.length : Int) ≠ 0 by omega); omega⟩
  obtain ⟨j2, e2⟩ : ∃ j : Nat, ((i : Int) * 7 + 3).tmod (b.length : Int) = j := ⟨(((i : Int) * 7 + 3).tmod (b.length : Int)).toNat, by rw [tmod_nn (by omega)]; have := Int.emod_nonneg ((i : Int) * 7 + 3) (show (b.length : Int) ≠ 0 by omega); omega⟩
  obtain ⟨q, e3⟩ : ∃ j : Nat, ((i : Int)).tdiv (b.length : Int) = j := ⟨(((i : Int)).tdiv (b.length : Int)).toNat, by rw [tdiv_nn (by omega)]; have := Int.ediv_nonneg (show (0 : Int) ≤ i by omega) (show (0 : Int) ≤ b.length by omega); omega⟩
  have l1 : j1 < b.length := by rw [tmod_nn (by omega)] at e1; have := Int.emod_lt_of_pos (i : Int) hbz; omega
  have l2 : j2 < b.length := by rw [tmod_nn (by omega)] at e2; have := Int.emod_lt_of_pos ((i : Int) * 7 + 3) hbz; omega
  have l3 : (q : Int) ≤ i := by rw [tdiv_nn (by omega)] at e3; have := Int.ediv_le_self (b.length : Int) (show (0 : Int) ≤ i by omega); omega
  have m1 := hbm j1 l1
  have m2 := hbm j2 l2
  refine drawP_q foll (by kernel_rfl) ?_
  simp(maxSteps:=999999)(disch:=omega)only[go_sem,reduceAdd,reduceMul,reduceSub,reduceEqDiff,reduceLeDiff, hl, hs, nl, ns, e1, e2, e3]
  generalize hX : nth b ↑j1 * 131 + nth b ↑j2 * 1117 + ↑i * 29 + ↑q * 53 = X
  have hX0 : 0 ≤ X ∧ X < 2 ^ 60 := by omega
  have hd : X.tdiv 64 = X / 64 := tdiv_nn hX0.1
  rw [hd, ok_i64 (n := X / 64) (by omega)]
  have hx := xor_nat (a := X) (b := X / 64) (by omega) (by omega)
  rw [tmod_nn hx.1]
  exact fin _ (Int.emod_nonneg _ (by omega)) (fun h => Int.emod_lt_of_pos _ (by omega))
theorem RdAt.take {H : Heap} {id g n : Nat} {B : Int} (h : RdAt H id g B) (hn : id < n) : RdAt (H.take n) id g B := h.same (by rw [List.getElem?_take_of_lt hn])
theorem RdAt.app {H X : Heap} {id g : Nat} {B : Int} (h : RdAt H id g B) : RdAt (H ++ X) id g B := h.same (by rw [List.getElem?_append_left h.lt])
theorem Frm.last {H H2 : Heap} {id sz gb : Nat} {cs : List CV} (f : Frm (H ++ [some ⟨gb, sz, cs⟩]) H2 [id]) (hid : id < H.length) : Lg.look H2 H.length gb = some ⟨gb, sz, cs⟩ := by
  rw [f.look (by simp; omega)]; exact look_last
theorem l20Open_run (b : List Int) (hb : ∀ x ∈ b, 0 ≤ x ∧ x ≤ 255) (hl : b.length ≤ 2 ^ 40) : RunCall Tryd.prog 30 [rsl (eI .u8) b] [] (fun v H' => ∃ g, v = .c (.ptr 0 g 0) ∧ RdAt H' 0 g 0 ∧ H'.length = 1) := by
  refine RunCall.cw (c := _) Tryd.func30 rfl (n := 11) Tryd.ntmps30 (rs := [.tmp 2]) rfl ?_
  simp only[List.length_cons,List.length_nil,reduceAdd,reduceSub,List.replicate,List.cons_append,List.nil_append]
  simp(maxSteps:=999999)(disch:=omega)only[go_sem,reduceAdd,reduceMul,reduceSub,reduceEqDiff,reduceLeDiff]
  ((first|(with_reducible first|refine condK_dec ?_ ?_|refine condK_ndec ?_ ?_|refine condK_nb ?_ ?_)|refine condK_b ?_ ?_) <;> intro h)
  · simp(maxSteps:=999999)(disch:=omega)only[go_sem,reduceAdd,reduceMul,reduceSub,reduceEqDiff,reduceLeDiff]
    intro g
    refine ⟨_, HLe.refl _, g, rfl, ⟨1, sub b 0 2000, 0, by rw [look_zero], ?_, ?_, by omega, by omega⟩, rfl⟩
    · simp [sub]; omega
    · intro x hx
      exact hb x (List.mem_of_mem_drop (List.mem_of_mem_take hx))
  · simp(maxSteps:=999999)(disch:=omega)only[go_sem,reduceAdd,reduceMul,reduceSub,reduceEqDiff,reduceLeDiff]
    intro g
    exact ⟨_, HLe.refl _, g, rfl, ⟨1, b, 0, by rw [look_zero], by omega, hb, by omega, by omega⟩, rfl⟩
end Go.Lg

namespace Go.Lg
open Go.Proofs
theorem nth_setN (l : List Int) (i : Nat) (v : Int) (k : Nat) (h : i < l.length) : nth (l.set i v) (k : Int) = if k = i then v else nth l k := by
  rw [nth_set _ _ _ _ h (by omega)]
  by_cases hk : k = i
  · rw [if_pos (by omega), if_pos hk]
  · rw [if_neg (by omega), if_neg hk]
end Go.Lg

namespace Go.Lg
open Go.Proofs
section
variable {P : Program} {o : Oper} {st : St} {K : KV} {fo : Operand} {xs : Array Operand} {ts : Array TypeId} {f : FuncId} {args args' : List AV} {zs : List Int}
theorem OpS.mkF {Q : AV → Prop} (hc : RunCall P f args [] fun v _ => Q v) (he : Enters P f) (ho : o.op = .call ⟨.value fo, xs, ts⟩) (ha : callArgs st fo xs = some (f, args)) (hf : args.all frozenA = true)
    (hk : ∀ v, Q v → tupOk v = true ∧ shiftA st.h.length v = v ∧ K v st.h) : OpS P o st K := by
  obtain ⟨h1, h2⟩ := target_of ha
  refine OpS.call ho h1 he ?_
  rw [h2]
  refine (RunCall.frame hf hc fun r H' h => (hk r h).1).weaker ?_
  rintro r H2 ⟨r', H', h3, rfl, rfl⟩
  exact ⟨st.h, HLe.app _ _, by rw [(hk _ h3).2.1]; exact (hk _ h3).2.2⟩
end
def GrdAt (H HI : Heap) (id g : Nat) (B : Int) (cid cg n2 : Nat) : Prop := (∃ zs : List Int, look HI cid cg = some ⟨cg, 1, cl (eI .i64) zs⟩ ∧ n2 ≤ zs.length) ∧ RdAt HI id g B ∧ id < H.length ∧ H.length ≤ cid ∧ H.length ≤ HI.length ∧ ∀ k, k < H.length → k ≠ id → HI[k]? = H[k]?
theorem GrdAt.mono {H HI : Heap} {id g cid cg n2 : Nat} {B B' : Int} (h : GrdAt H HI id g B cid cg n2) (hb : B ≤ B') : GrdAt H HI id g B' cid cg n2 := by
  obtain ⟨h1, h2, h3⟩ := h
  exact ⟨h1, h2.mono hb, h3⟩
theorem GrdAt.pick {H HI H2 : Heap} {id g cid cg n2 : Nat} {B B' : Int} (h : GrdAt H HI id g B cid cg n2) (hr : RdAt H2 id g B') (hf : Frm HI H2 [id]) : GrdAt H H2 id g B' cid cg n2 := by
  obtain ⟨⟨zs, h1, h2⟩, _, h3, h4, h5, h6⟩ := h
  refine ⟨⟨zs, by rw [hf.look (by simp; omega)]; exact h1, h2⟩, hr, h3, h4, by rw [hf.1]; exact h5, fun k hk hne => ?_⟩
  rw [hf.2 k (by simp; exact hne), h6 k hk hne]
theorem GrdAt.store {H HI : Heap} {id g cid cg n2 : Nat} {B : Int} (h : GrdAt H HI id g B cid cg n2) {zs : List Int} (hz : n2 ≤ zs.length) : GrdAt H (HI.set cid (some ⟨cg, 1, cl (eI .i64) zs⟩)) id g B cid cg n2 := by
  obtain ⟨⟨_, h1, _⟩, h2, h3, h4, h5, h6⟩ := h
  have hlt : cid < HI.length := (List.getElem?_eq_some_iff.1 (look_some h1).1).1
  refine ⟨⟨zs, look_set_eq' hlt, hz⟩, h2.same (by rw [List.getElem?_set_ne (by omega)]), h3, h4, by simpa using h5, fun k hk hne => ?_⟩
  rw [List.getElem?_set_ne (by omega), h6 k hk hne]
theorem GrdAt.app {H HI X : Heap} {id g cid cg n2 : Nat} {B : Int} (h : GrdAt H HI id g B cid cg n2) : GrdAt H (HI ++ X) id g B cid cg n2 := by
  obtain ⟨⟨zs, h1, h2⟩, h3, h4, h5, h6, h7⟩ := h
  refine ⟨⟨zs, look_appL h1, h2⟩, h3.app, h4, h5, by rw [List.length_append]; omega, fun k hk hne => ?_⟩
  rw [List.getElem?_append_left (by omega), h7 k hk hne]
theorem frz_view {H : Heap} {id g off n : Nat} {lim : Option Nat} {zs : List Int} (h : look H id g = some ⟨g, 1, cl (eI .i64) zs⟩) (hn : off + n ≤ zs.length) : frzC H (.own id g off n lim) = some (.f (fints ((zs.drop off).take n))) := by
  have e : ((cl (eI .i64) zs).drop off).take (n * 1) = cl (eI .i64) ((zs.drop off).take n) := by
    have e1 : (cl (eI .i64) zs).drop off = cl (eI .i64) (zs.drop off) := by
      have := List.take_append_drop off zs
      conv => lhs; rw [← this, cl_append]
      rw [List.drop_append_of_le_length (by rw [cl_length]; simp; omega), List.drop_of_length_le (by rw [cl_length]; simp; omega), List.nil_append]
    rw [e1, Nat.mul_one]
    have := List.take_append_drop n (zs.drop off)
    conv => lhs; rw [← this, cl_append]
    rw [List.take_append_of_le_length (by rw [cl_length]; simp; omega), List.take_of_length_le (by rw [cl_length]; simp; omega)]
  have hl : ((zs.drop off).take n).length = n := by simp; omega
  simp only [frzC, frz, h, e, frz_cl, Option.map_some]
  rw [show fints ((zs.drop off).take n) = .sl ((zs.drop off).take n).length (fl (eI .i64) ((zs.drop off).take n)) from rfl, hl]
end Go.Lg

namespace Go.Lg
open Go.Proofs
attribute [-go_sem] appendM
inductive OwnL {α : Type} (E : α → List FV) (n : Nat) (H : Heap) : CV → List α → Prop where
  | n : OwnL E n H (.f .nil) []
  | m : OwnL E n H .emp []
  | o (id g : Nat) (xs : List α) (h : look H id g = some ⟨g, n, cl E xs⟩) : OwnL E n H (.own id g 0 xs.length none) xs
def idsC : CV → Nat → Prop
  | .own id _ _ _ _, k => k = id
  | _, _ => False
section
variable {α : Type} {E : α → List FV} {n : Nat} {H H' : Heap} {c : CV} {xs ys : List α}
theorem OwnL.same (h : OwnL E n H c xs) (hs : ∀ i, idsC c i → i < H.length → H'[i]? = H[i]?) : OwnL E n H' c xs := by
  cases h with
  | n => exact .n
  | m => exact .m
  | o id g xs h => exact .o id g xs (by unfold look at *; rw [hs id rfl (List.getElem?_eq_some_iff.1 (look_some h).1).1]; exact h)
theorem OwnL.lt (h : OwnL E n H c xs) : ∀ i, idsC c i → i < H.length := by
  cases h with
  | n => exact fun i hi => hi.elim
  | m => exact fun i hi => hi.elim
  | o id g xs h => intro i hi; cases hi; exact (List.getElem?_eq_some_iff.1 (look_some h).1).1
theorem OwnL.app (h : OwnL E n H c xs) : OwnL E n (H ++ H') c xs := h.same fun i _ hl => List.getElem?_append_left hl
theorem OwnL.snap [HSz E n] (h : OwnL E n H c xs) : snapD H (.c c) = some (rsl E xs) := by
  cases h with
  | n => rfl
  | m => rfl
  | o id g xs h =>
    have e : (cl E xs).take (xs.length * n) = cl E xs := List.take_of_length_le (Nat.le_of_eq (cl_length xs))
    simp only [snapD, Lg.frzC, Lg.frz, h, List.drop_zero, e, frz_cl, Option.map_some]
theorem OwnL.frzC [HSz E n] (h : OwnL E n H c xs) : frzC H c = some (.f (fsl E xs)) := by
  have := h.snap
  simp only [snapD, Option.map_eq_some_iff] at this
  obtain ⟨y, h1, h2⟩ := this
  cases h2
  exact h1
theorem OwnL.len (P : Program) (h : OwnL E n H c xs) {s : List AV} {t : TypeId} {ei : TI} (ht : sliceOf P t = some ei) (hs : ei.size = n) : True := trivial
end
theorem nzF_ints {k : IntKind} (xs : List Int) : (fl (eI k) xs).map nzF = fl (eI k) xs := by
  induction xs with
  | nil => rfl
  | cons x xs ih => 
    show nzF _ :: (fl (eI k) xs).map nzF = _
    rw [ih]; rfl
theorem nzF_rules (rs : List Rul) : (fl eR rs).map nzF = fl eR rs := by
  induction rs with
  | nil => rfl
  | cons x xs ih =>
    show [nzF _, nzF _, nzF _] ++ (fl eR xs).map nzF = _
    rw [ih, fints, nzF_sl, nzF_ints]; rfl
theorem frzS_cells {S : Nat → Bool} {H : Heap} {n : Nat} : ∀ (l : List FV), (l.map CV.f).mapM (frzS S H n) = some (l.map nzF)
  | [] => rfl
  | x :: l => by
    rw [List.map_cons, List.mapM_cons, frzS_cells l]
    cases n <;> rfl
theorem OwnL.frzS {S : Nat → Bool} {H : Heap} {c : CV} {rs : List Rul} (h : OwnL eR 3 H c rs) (hs : ∀ i, idsC c i → S i = true) (m : Nat) : frzS S H (m + 1) c = some (fsl eR rs) := by
  cases h with
  | n => rfl
  | m => rfl
  | o id g xs h =>
    have e : (cl eR rs).take (rs.length * 3) = cl eR rs := List.take_of_length_le (Nat.le_of_eq (cl_length rs))
    simp only [Lg.frzS, hs id rfl, if_true, h, List.drop_zero, e]
    rw [show cl eR rs = (fl eR rs).map CV.f from rfl, frzS_cells, nzF_rules]
    rfl
theorem frzS_view {S : Nat → Bool} {H : Heap} {id g off n : Nat} {lim : Option Nat} {zs : List Int} (h : look H id g = some ⟨g, 1, cl (eI .i64) zs⟩) (hs : S id = true) (hn : off + n ≤ zs.length) (m : Nat) : Lg.frzS S H (m + 1) (.own id g off n lim) = some (fints ((zs.drop off).take n)) := by
  have hv := frz_view (lim := lim) h hn
  have hl : ((zs.drop off).take n).length = n := by simp; omega
  simp only [frzC, frz, h, Option.map_map, Option.map_eq_some_iff] at hv
  obtain ⟨l, h1, h2⟩ := hv
  simp only [Lg.frzS, hs, if_true, h]
  have e : ((cl (eI .i64) zs).drop off).take (n * 1) = cl (eI .i64) ((zs.drop off).take n) := by
    have e1 : (cl (eI .i64) zs).drop off = cl (eI .i64) (zs.drop off) := by
      have := List.take_append_drop off zs
      conv => lhs; rw [← this, cl_append]
      rw [List.drop_append_of_le_length (by rw [cl_length]; simp; omega), List.drop_of_length_le (by rw [cl_length]; simp; omega), List.nil_append]
    rw [e1, Nat.mul_one]
    have := List.take_append_drop n (zs.drop off)
    conv => lhs; rw [← this, cl_append]
    rw [List.take_append_of_le_length (by rw [cl_length]; simp; omega), List.take_of_length_le (by rw [cl_length]; simp; omega)]
  rw [e, show cl (eI .i64) ((zs.drop off).take n) = (fl (eI .i64) ((zs.drop off).take n)).map CV.f from rfl, frzS_cells, nzF_ints, Option.map_some]
  rw [show fints ((zs.drop off).take n) = .sl ((zs.drop off).take n).length (fl (eI .i64) ((zs.drop off).take n)) from rfl, hl]
theorem elems_f {α : Type} {E : α → List FV} {n : Nat} [HSz E n] {H : Heap} {ys : List α} : elems H n (.c (.f (fsl E ys))) = some (ys.length, cl E ys) := by
  have : (fl E ys).length = ys.length * n := fl_length ys
  simp only [elems]
  first | rfl | simp [this, cl]
end Go.Lg

namespace Go.Lg
attribute [-go_sem] appendM
inductive OwnE (H : Heap) : CV → List Int → List Nat → Prop where
  | m : OwnE H .emp [] []
  | o (id g : Nat) (xs : List Int) (h : look H id g = some ⟨g, 1, cl (eI .i64) xs⟩) : OwnE H (.own id g 0 xs.length none) xs [id]
theorem OwnE.frzC {H : Heap} {c : CV} {xs : List Int} {S : List Nat} (h : OwnE H c xs S) : Lg.frzC H c = some (.f (fints xs)) := by
  cases h with
  | m => rfl
  | o id g xs h => exact (OwnI.o id g none xs [] (by rw [List.append_nil]; exact h)).frzC
theorem OwnE.same {H H' : Heap} {c : CV} {xs : List Int} {S : List Nat} (h : OwnE H c xs S) (hs : ∀ i ∈ S, H'[i]? = H[i]?) : OwnE H' c xs S := by
  cases h with
  | m => exact .m
  | o id g xs h => exact .o id g xs (by unfold look at *; rw [hs id (by simp)]; exact h)
theorem OwnE.shift {H0 H : Heap} {c : CV} {xs : List Int} {S : List Nat} (h : OwnE H c xs S) : OwnE (H0 ++ shiftH H0.length H) (shiftC H0.length c) xs (S.map (· + H0.length)) := by
  cases h with
  | m => exact .m
  | o id g xs h =>
    refine .o (id + H0.length) g xs ?_
    rw [look_shiftH h]
    simp only [shiftB, shift_cl]
theorem OwnE.lt {H : Heap} {c : CV} {xs : List Int} {S : List Nat} (h : OwnE H c xs S) : ∀ i ∈ S, i < H.length := by
  cases h with
  | m => simp
  | o id g xs h => intro i hi; have : i = id := by simpa using hi
                   subst this; exact (List.getElem?_eq_some_iff.1 (look_some h).1).1
theorem OwnE.nd {H : Heap} {c : CV} {xs : List Int} {S : List Nat} (h : OwnE H c xs S) : S.Nodup := by cases h <;> simp
theorem OwnE.inv {H : Heap} {c : CV} {xs : List Int} {S : List Nat} (h : OwnE H c xs S) (hn : xs ≠ []) : ∃ id g, c = .own id g 0 xs.length none ∧ S = [id] ∧ look H id g = some ⟨g, 1, cl (eI .i64) xs⟩ := by
  cases h with
  | m => exact absurd rfl hn
  | o id g xs h => exact ⟨id, g, rfl, rfl, h⟩
end Go.Lg

namespace Go.Lg
open Go.Proofs
attribute [-go_sem] appendM lwF_cons
theorem look_set_ne' {H : Heap} {id j g : Nat} {x : Option Blk} (h : id ≠ j) : look (H.set id x) j g = look H j g := by
  unfold look; rw [List.getElem?_set_ne h]
theorem resV_none (P : Program) (s : List AV) (H : Heap) : resV P s H [] = some (.tup []) := rfl
attribute [go_sem] resV_none
end Go.Lg

namespace Go.Lg
open Go.Proofs
def puzzleValid (p : Puz) : Bool := gridValid p.given p.size && (decide (p.rules.length ≤ 20) && p.rules.all fun r => ruleValid r p.size)
end Go.Lg

namespace Go.Lg
open Go.Proofs
structure PuzN (p : Puz) (n : Nat) : Prop where
  hn : n = 2 ∨ n = 3 ∨ n = 4
  size : p.size = n
  len : p.given.length = n * n
  rl : p.rules.length ≤ 40
  rv : ∀ r ∈ p.rules, ruleValid r n = true
theorem PuzN.of {p : Puz} (h : puzzleValid p = true) : PuzN p p.size.toNat ∧ ((p.size.toNat : Nat) : Int) = p.size := by
  simp only [puzzleValid, Bool.and_eq_true, decide_eq_true_eq, List.all_eq_true] at h
  obtain ⟨h1, h2, h3⟩ := h
  have hb := gridValid_bound h1
  have hs : ((p.size.toNat : Nat) : Int) = p.size := by omega
  have hn : p.size.toNat = 2 ∨ p.size.toNat = 3 ∨ p.size.toNat = 4 := by omega
  refine ⟨⟨hn, hs.symm, ?_, by omega, fun r hr => by rw [hs]; exact h3 r hr⟩, hs⟩
  have := hb.2.2.1
  rw [← hs] at this
  exact_mod_cast this
structure GrdN (xs : List Int) (n : Nat) : Prop where
  len : xs.length = n * n
  val : ∀ k : Nat, k < xs.length → 0 ≤ nth xs k ∧ nth xs k ≤ n
theorem GrdN.of {xs : List Int} {n : Nat} (hn : n = 2 ∨ n = 3 ∨ n = 4) (h : gridValid xs n = true) : GrdN xs n := by
  have hb := gridValid_bound h
  exact ⟨by have := hb.2.2.1; rcases hn with rfl | rfl | rfl <;> omega, hb.2.2.2.2⟩
end Go.Lg

namespace Go.Lg
open Go.Proofs
structure OutL (H : Heap) (pid pg : Nat) (ls : List (List Int)) (S : List Nat) : Prop where
  ex : ∃ oid og cs, look H pid pg = some ⟨pg, 1, [.own oid og 0 ls.length none]⟩ ∧ look H oid og = some ⟨og, 1, cs⟩ ∧ oid ∈ S ∧ cs.length = ls.length ∧ ∀ i (h : i < ls.length), ∃ id g, cs[i]? = some (.own id g 0 ls[i].length none) ∧ look H id g = some ⟨g, 1, cl (eI .i64) ls[i]⟩ ∧ id ∈ S ∧ id ≠ oid
  pn : pid ∉ S
theorem OutL.same {H H' : Heap} {pid pg : Nat} {ls : List (List Int)} {S : List Nat} (h : OutL H pid pg ls S) (hs : ∀ i, i = pid ∨ i ∈ S → H'[i]? = H[i]?) : OutL H' pid pg ls S := by
  obtain ⟨⟨oid, og, cs, h1, h2, h3, h4, h5⟩, hn⟩ := h
  refine ⟨⟨oid, og, cs, by unfold look at *; rw [hs pid (.inl rfl)]; exact h1, by unfold look at *; rw [hs oid (.inr h3)]; exact h2, h3, h4, fun i hi => ?_⟩, hn⟩
  obtain ⟨id, g, k1, k2, k3, k4⟩ := h5 i hi
  exact ⟨id, g, k1, by unfold look at *; rw [hs id (.inr k3)]; exact k2, k3, k4⟩
end Go.Lg

namespace Go.Lg
open Go.Proofs
attribute [-go_sem] appendM lwF_cons
def vals (n v : Nat) : List Nat := ((List.range n).map (· + 1)).drop (v - 1)
end Go.Lg

namespace Go.Lg
open Go.Proofs
theorem mapM_of {α β : Type} {f : α → Option β} : ∀ (l : List α) (r : List β), l.length = r.length → (∀ i (h : i < l.length) (h' : i < r.length), f l[i] = some r[i]) → l.mapM f = some r
  | [], [], _, _ => rfl
  | [], _ :: _, h, _ => by simp at h
  | _ :: _, [], h, _ => by simp at h
  | a :: l, b :: r, hl, h => by
    have h0 := h 0 (by simp) (by simp)
    have ih := mapM_of l r (by simpa using hl) fun i h1 h2 => h (i + 1) (by simpa using h1) (by simpa using h2)
    simp only [List.getElem_cons_zero] at h0
    simp only [List.mapM_cons, h0, ih, Option.pure_def, Option.bind_eq_bind, Option.bind_some]
theorem OutL.frz {H : Heap} {pid pg : Nat} {ls : List (List Int)} {S : List Nat} (h : OutL H pid pg ls S) : ∃ oid og, look H pid pg = some ⟨pg, 1, [.own oid og 0 ls.length none]⟩ ∧ frzC H (.own oid og 0 ls.length none) = some (.f (fsl eL ls)) := by
  obtain ⟨⟨oid, og, cs, h1, h2, h3, h4, h5⟩, _⟩ := h
  refine ⟨oid, og, h1, ?_⟩
  have hm : cs.mapM (Lg.frz H 5) = some (ls.map fints) := by
    refine mapM_of _ _ (by simp [h4]) fun i hi hi' => ?_
    have hil : i < ls.length := by omega
    obtain ⟨id, g, k1, k2, k3, k4⟩ := h5 i hil
    have e : cs[i] = .own id g 0 ls[i].length none := by
      rw [List.getElem?_eq_getElem hi] at k1
      exact Option.some.inj k1
    rw [e, List.getElem_map]
    exact (OwnI.o (H := H) id g none ls[i] [] (by rw [List.append_nil]; exact k2)).frz 4
  have et : (cs.drop 0).take (ls.length * 1) = cs := by rw [List.drop_zero, List.take_of_length_le (by omega)]
  have ef : ls.map fints = fl eL ls := by
    have : ∀ l : List (List Int), l.map fints = fl eL l := fun l => by
      induction l with
      | nil => rfl
      | cons x l ih => simp only [List.map_cons, ih, fl, List.flatMap_cons, eL, List.cons_append, List.nil_append]
    exact this ls
  simp only [frzC, Lg.frz, h2, et, hm, Option.map_some, ef]
end Go.Lg

namespace Go.Lg
open Go.Proofs
attribute [-go_sem] appendM lwF_cons
structure RlI (H HI : Heap) (id g : Nat) (B : Int) (m g8 g2 : Nat) (ys : List Int) : Prop where
  out : look HI H.length g8 = some ⟨g8, 3, [.f (.int .i64 0), .f .nil, .f (.int .i64 0)]⟩
  cells : look HI (H.length + 1) g2 = some ⟨g2, 1, cl (eI .i64) ys⟩
  l1 : 1 ≤ ys.length
  l4 : ys.length ≤ 4
  val : ∀ k : Nat, k < ys.length → 0 ≤ nth ys k ∧ nth ys k < (m : Int) * m
  rd : RdAt HI id g B
  lt : id < H.length
  ln : H.length + 2 ≤ HI.length
  frm : ∀ k, k < H.length → k ≠ id → HI[k]? = H[k]?
section
variable {H HI H2 : Heap} {id g m g8 g2 : Nat} {B B' : Int} {ys : List Int}
theorem RlI.mono (h : RlI H HI id g B m g8 g2 ys) (hb : B ≤ B') : RlI H HI id g B' m g8 g2 ys := { h with rd := h.rd.mono hb }
theorem RlI.pick (h : RlI H HI id g B m g8 g2 ys) (hr : RdAt H2 id g B') (hf : Frm HI H2 [id]) : RlI H H2 id g B' m g8 g2 ys :=
  { out := by rw [hf.look (by have := h.lt; simp; omega)]; exact h.out
    cells := by rw [hf.look (by have := h.lt; simp; omega)]; exact h.cells
    l1 := h.l1, l4 := h.l4, val := h.val, rd := hr, lt := h.lt, ln := by rw [hf.1]; exact h.ln
    frm := fun k hk hn => by rw [hf.2 k (by simpa using hn)]; exact h.frm k hk hn }
theorem RlI.app {X : Heap} (h : RlI H HI id g B m g8 g2 ys) : RlI H (HI ++ X) id g B m g8 g2 ys :=
  { out := look_appL h.out, cells := look_appL h.cells, l1 := h.l1, l4 := h.l4, val := h.val, rd := h.rd.app, lt := h.lt
    ln := by have := h.ln; rw [List.length_append]; omega
    frm := fun k hk hn => by rw [List.getElem?_append_left (by have := h.ln; omega)]; exact h.frm k hk hn }
theorem RlI.set (h : RlI H HI id g B m g8 g2 ys) {g' : Nat} {zs : List Int} (h1 : 1 ≤ zs.length) (h4 : zs.length ≤ 4) (hv : ∀ k : Nat, k < zs.length → 0 ≤ nth zs k ∧ nth zs k < (m : Int) * m) : RlI H (HI.set (H.length + 1) (some ⟨g', 1, cl (eI .i64) zs⟩)) id g B m g8 g' zs := by
  have hl := h.ln
  have ht := h.lt
  exact { out := by rw [look_set_ne' (by omega)]; exact h.out
          cells := look_set_eq' (by omega)
          l1 := h1, l4 := h4, val := hv
          rd := h.rd.same (by rw [List.getElem?_set_ne (by omega)])
          lt := ht, ln := by rw [List.length_set]; exact hl
          frm := fun k hk hn => by rw [List.getElem?_set_ne (by omega)]; exact h.frm k hk hn }
end
def CellO (H HE : Heap) (J : Nat) (c : CV) (xs : List Int) : Prop := c = .f (fints xs) ∨ ∃ (i g k : Nat) (ys : List Int), c = .own i g 0 k none ∧ look HE i g = some ⟨g, 1, cl (eI .i64) ys⟩ ∧ k ≤ ys.length ∧ xs = ys.take k ∧ H.length < i ∧ i ≠ J
theorem CellO.same {H HE HE' : Heap} {J : Nat} {c : CV} {xs : List Int} (h : CellO H HE J c xs) (hs : ∀ i, H.length < i → i ≠ J → i < HE.length → HE'[i]? = HE[i]?) : CellO H HE' J c xs := by
  rcases h with h | ⟨i, g, k, ys, h1, h2, h3, h4, h5, h6⟩
  · exact .inl h
  · exact .inr ⟨i, g, k, ys, h1, by unfold look at *; rw [hs i h5 h6 (List.getElem?_eq_some_iff.1 (look_some h2).1).1]; exact h2, h3, h4, h5, h6⟩
theorem CellO.elems {H HE : Heap} {J : Nat} {c : CV} {xs : List Int} (h : CellO H HE J c xs) : elems HE 1 (.c c) = some (xs.length, cl (eI .i64) xs) := by
  rcases h with rfl | ⟨i, g, k, ys, rfl, h2, h3, rfl, h5, h6⟩
  · exact elems_f (E := eI .i64) (ys := xs)
  · have e : (cl (eI .i64) ys).take (k * 1) = cl (eI .i64) (ys.take k) := by
      rw [Nat.mul_one]
      have := List.take_append_drop k ys
      conv => lhs; rw [← this, cl_append]
      rw [List.take_append_of_le_length (by rw [cl_length]; simp; omega), List.take_of_length_le (by rw [cl_length]; simp; omega)]
    simp only [Lg.elems, h2, if_true, List.drop_zero, e, List.length_take, Nat.min_eq_left h3]
theorem CellO.frz {H HE : Heap} {J : Nat} {c : CV} {xs : List Int} (h : CellO H HE J c xs) : frzS (tailS H.length) HE 6 c = some (fints xs) := by
  rcases h with rfl | ⟨i, g, k, ys, rfl, h2, h3, rfl, h5, h6⟩
  · show some (nzF (fints xs)) = _
    rw [fints, nzF_sl, nzF_ints]
  · have := frzS_view (S := tailS H.length) (lim := none) (n := k) (off := 0) h2 (by simp [tailS]; omega) (by omega) 5
    rw [List.drop_zero] at this
    exact this
structure RuO (H HE : Heap) (id g : Nat) (B : Int) (N g8 J g18 : Nat) (xs : List Int) : Prop where
  out : look HE H.length g8 = some ⟨g8, 3, [.f (.int .i64 0), .f .nil, .f (.int .i64 0)]⟩
  ex : ∃ a b c, look HE J g18 = some ⟨g18, 3, [.f (.int .i64 a), c, .f (.int .i64 b)]⟩ ∧ CellO H HE J c xs
  l1 : 1 ≤ xs.length
  l5 : xs.length ≤ N
  rd : RdAt HE id g B
  lt : id < H.length
  ln : H.length < J ∧ J < HE.length
  frm : ∀ k, k < H.length → k ≠ id → HE[k]? = H[k]?
section
variable {H HE H2 : Heap} {id g N g8 J g18 : Nat} {B B' : Int} {xs : List Int}
theorem RuO.mono (h : RuO H HE id g B N g8 J g18 xs) (hb : B ≤ B') : RuO H HE id g B' N g8 J g18 xs := { h with rd := h.rd.mono hb }
theorem RuO.pick (h : RuO H HE id g B N g8 J g18 xs) (hr : RdAt H2 id g B') (hf : Frm HE H2 [id]) : RuO H H2 id g B' N g8 J g18 xs := by
  have hl := h.lt
  have hn := h.ln
  obtain ⟨a, b, c, h1, h2⟩ := h.ex
  exact { out := by rw [hf.look (by simp; omega)]; exact h.out
          ex := ⟨a, b, c, by rw [hf.look (by simp; omega)]; exact h1, h2.same fun i hi _ _ => hf.2 i (by simp; omega)⟩
          l1 := h.l1, l5 := h.l5, rd := hr, lt := hl, ln := ⟨hn.1, by rw [hf.1]; exact hn.2⟩
          frm := fun k hk hn => by rw [hf.2 k (by simpa using hn)]; exact h.frm k hk hn }
theorem RuO.app {X : Heap} (h : RuO H HE id g B N g8 J g18 xs) : RuO H (HE ++ X) id g B N g8 J g18 xs := by
  have hn := h.ln
  obtain ⟨a, b, c, h1, h2⟩ := h.ex
  exact { out := look_appL h.out
          ex := ⟨a, b, c, look_appL h1, h2.same fun i _ _ hi => List.getElem?_append_left hi⟩
          l1 := h.l1, l5 := h.l5, rd := h.rd.app, lt := h.lt, ln := ⟨hn.1, by rw [List.length_append]; omega⟩
          frm := fun k hk hn' => by rw [List.getElem?_append_left (by omega)]; exact h.frm k hk hn' }
theorem RuO.set (h : RuO H HE id g B N g8 J g18 xs) {a b : Int} {c : CV} {zs : List Int} (hc : CellO H HE J c zs) (h1 : 1 ≤ zs.length) (h5 : zs.length ≤ N) : RuO H (HE.set J (some ⟨g18, 3, [.f (.int .i64 a), c, .f (.int .i64 b)]⟩)) id g B N g8 J g18 zs := by
  have hn := h.ln
  have hl := h.lt
  exact { out := by rw [look_set_ne' (by omega)]; exact h.out
          ex := ⟨a, b, c, look_set_eq' hn.2, hc.same fun i _ hi _ => by rw [List.getElem?_set_ne (Ne.symm hi)]⟩
          l1 := h1, l5 := h5, rd := h.rd.same (by rw [List.getElem?_set_ne (by omega)]), lt := hl, ln := ⟨hn.1, by rw [List.length_set]; exact hn.2⟩
          frm := fun k hk hn' => by rw [List.getElem?_set_ne (by omega)]; exact h.frm k hk hn' }
theorem RuO.len (h : RuO H HE id g B N g8 J g18 xs) : H.length + 2 ≤ HE.length := by have := h.ln; omega
end
end Go.Lg

namespace Go.Lg
open Go.Proofs
def ruleSm (rs : List Rul) (a b : Nat) : Prop := rs.length ≤ a ∧ ∀ r ∈ rs, r.cells.length ≤ b
end Go.Lg

namespace Go.Lg
open Go.Proofs
attribute [-go_sem] appendM lwF_cons
theorem resV_ct (P : Program) (s : List AV) (H : Heap) (t u : Nat) (ty : TypeId) : resV P s H [.cell t ty, .tmp u] = (loadV P H ty (s.getD t .void)).map fun v => .tup [v, s.getD u .void] := by
  simp only [resV, resAll, resOne]
  cases loadV P H ty (s.getD t .void) <;> rfl
attribute [go_sem] resV_ct
def PzO (H : Heap) (n0 : Nat) (z : Int) (gc rc : CV) (zs : List Int) (rs : List Rul) : Prop := ∃ gid gg, gc = .own gid gg 0 zs.length none ∧ look H gid gg = some ⟨gg, 1, cl (eI .i64) zs⟩ ∧ n0 ≤ gid ∧ OwnL eR 3 H rc rs ∧ (∀ i, idsC rc i → n0 ≤ i ∧ i ≠ gid)
theorem PzO.snap {H : Heap} {n0 : Nat} {z : Int} {gc rc : CV} {zs : List Int} {rs : List Rul} (h : PzO H n0 z gc rc zs rs) : snapD H (.agg [.f (.int .i64 z), gc, rc]) = some (aP ⟨z, zs, rs⟩) := by
  obtain ⟨gid, gg, rfl, h1, _, h2, _⟩ := h
  have e1 : ∀ x : Int, frzC H (.f (.int .i64 x)) = some (.f (.int .i64 x)) := fun _ => rfl
  have e2 := (OwnI.o (H := H) gid gg none zs [] (by rw [List.append_nil]; exact h1)).frzC
  simp only [snapD, List.mapM_cons, List.mapM_nil, e1, e2, h2.frzC, Option.bind_eq_bind, Option.pure_def, Option.bind_some, Option.map_some]
theorem PzO.same {H H' : Heap} {n0 : Nat} {z : Int} {gc rc : CV} {zs : List Int} {rs : List Rul} (h : PzO H n0 z gc rc zs rs) (hs : ∀ i, n0 ≤ i → (idsC gc i ∨ idsC rc i) → i < H.length → H'[i]? = H[i]?) : PzO H' n0 z gc rc zs rs := by
  obtain ⟨gid, gg, rfl, h1, h2, h3, h4⟩ := h
  exact ⟨gid, gg, rfl, by unfold look at *; rw [hs gid h2 (.inl rfl) (List.getElem?_eq_some_iff.1 (look_some h1).1).1]; exact h1, h2, h3.same fun i hi hl => hs i (h4 i hi).1 (.inr hi) hl, h4⟩
theorem PzO.n0 {H : Heap} {n0 n1 : Nat} {z : Int} {gc rc : CV} {zs : List Int} {rs : List Rul} (h : PzO H n0 z gc rc zs rs) (hn : n1 ≤ n0) : PzO H n1 z gc rc zs rs := by
  obtain ⟨gid, gg, rfl, h1, h2, h3, h4⟩ := h
  exact ⟨gid, gg, rfl, h1, by omega, h3, fun i hi => ⟨by have := (h4 i hi).1; omega, (h4 i hi).2⟩⟩
end Go.Lg
