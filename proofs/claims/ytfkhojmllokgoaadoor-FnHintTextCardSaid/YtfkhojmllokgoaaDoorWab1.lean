/- LgT, LgR, LgT3, GpXS, LgV, cut to what is needed. -/
import Derived.Test.YtfkhojmllokgoaaDoorWab0
import Derived.ProofKit
import Derived.OpenShut
import Derived.ShutString
import Derived.ChangeOld
import Derived.SizedLaws
import Derived.ChangeSlices
import Derived.Carry
import Derived.Shelf.Strconv.Itoa0
import Derived.Shelf.Strconv.Itoa1
import Derived.Shelf.LaysM
import Derived.Shelf.Strconv.Itoa2
import Derived.Shelf.Strconv.Itoa3
open Nat(reduceAdd reduceMul reduceSub reduceEqDiff reduceLeDiff)
set_option linter.unusedSimpArgs false
set_option linter.unusedVariables false
set_option maxRecDepth 100000
namespace Go.Lg
open Go.Proofs
theorem sizeOk_run (n : Int) : Reads Tryd.prog 48 [int n] (bool (decide (2 ≤ n ∧ n ≤ 4))) := by
  refine RunCall.cw (c := _) Tryd.func48 rfl (n := 9) Tryd.ntmps48 (rs := [.tmp 2]) rfl ?_
  simp only[List.length_cons,List.length_nil,reduceAdd,reduceSub,List.replicate,List.cons_append,List.nil_append]
  simp(maxSteps:=999999)(disch:=omega)only[go_sem,reduceAdd,reduceMul,reduceSub,reduceEqDiff,reduceLeDiff]
  refine guardK_split (fun h => ?_) (fun h => ?_) <;> simp(maxSteps:=999999)(disch:=omega)only[go_sem,reduceAdd,reduceMul,reduceSub,reduceEqDiff,reduceLeDiff, h] <;> simp at h <;> simp [h]
  omega
def gridValid (xs : List Int) (n : Int) : Bool := decide (2 ≤ n ∧ n ≤ 4 ∧ (xs.length : Int) = n * n ∧ ∀ j, j < xs.length → 0 ≤ nth xs j ∧ nth xs j ≤ n)
theorem GridValid_run (xs : List Int) (n : Int) (hx : xs.length ≤ 2 ^ 44) : Reads Tryd.prog 53 [ints xs, int n] (bool (gridValid xs n)) := by
  refine RunCall.cw (c := _) Tryd.func53 rfl (n := 32) Tryd.ntmps53 (rs := [.tmp 4]) rfl ?_
  simp only[List.length_cons,List.length_nil,reduceAdd,reduceSub,List.replicate,List.cons_append,List.nil_append]
  simp(maxSteps:=999999)(disch:=omega)only[go_sem,reduceAdd,reduceMul,reduceSub,reduceEqDiff,reduceLeDiff]
  refine OpS.rd (sizeOk_run n) (⟨_, Tryd.func48, rfl, rfl⟩ : Enters Tryd.prog 48) rfl rfl rfl rfl ?_
  simp(maxSteps:=999999)(disch:=omega)only[go_sem,reduceAdd,reduceMul,reduceSub,reduceEqDiff,reduceLeDiff]
  refine guardK_split (fun h => ?_) (fun h => ?_) <;> simp(maxSteps:=999999)(disch:=omega)only[go_sem,reduceAdd,reduceMul,reduceSub,reduceEqDiff,reduceLeDiff, h]
  · simp at h
    simp [gridValid]; omega
  have hn : 2 ≤ n ∧ n ≤ 4 := by simpa using h
  have hw : 4 ≤ n * n ∧ n * n ≤ 16 := by
    have : n = 2 ∨ n = 3 ∨ n = 4 := by omega
    rcases this with rfl | rfl | rfl <;> decide
  simp(maxSteps:=999999)(disch:=omega)only[go_sem,reduceAdd,reduceMul,reduceSub,reduceEqDiff,reduceLeDiff]
  refine condK_split (fun h2 => ?_) (fun h2 => ?_) <;> simp(maxSteps:=999999)(disch:=omega)only[go_sem,reduceAdd,reduceMul,reduceSub,reduceEqDiff,reduceLeDiff]
  · simp at h2
    simp [gridValid, h2]
  have hl : (xs.length : Int) = n * n := by simpa using h2
  refine loop_rule (fun i : Nat => xs.length - i) (fun i => i ≤ xs.length ∧ ∀ j, j < i → 0 ≤ nth xs j ∧ nth xs j ≤ n)
    (fun i => [.a, .k, .a, .a, .a, .a, .a, .a, .a, .a, .a, .a, .a, .a, .a, .a, .a, .a, .k, .k, .p (int i), .a, .a, .a, .a, .a, .a, .a, .a, .a, .a, .a]) (fun _ => []) 0 ⟨Nat.zero_le _, fun j hj => absurd hj (Nat.not_lt_zero _)⟩ (by simp(maxSteps:=999999)(disch:=omega)only[go_sem,reduceAdd,reduceMul,reduceSub,reduceEqDiff,reduceLeDiff]; rfl) (hle_nil _) ?_
  rintro i ⟨hi, hall⟩
  simp(maxSteps:=999999)(disch:=omega)only[go_sem,reduceAdd,reduceMul,reduceSub,reduceEqDiff,reduceLeDiff]
  refine condK_split (fun h3 => ?_) (fun h3 => ?_)
  · have h3 : i < xs.length := by simpa using h3
    simp(maxSteps:=999999)(disch:=omega)only[go_sem,reduceAdd,reduceMul,reduceSub,reduceEqDiff,reduceLeDiff]
    refine guardK_split (fun h4 => ?_) (fun h4 => ?_) <;> simp(maxSteps:=999999)(disch:=omega)only[go_sem,reduceAdd,reduceMul,reduceSub,reduceEqDiff,reduceLeDiff, h4]
    · simp at h4
      symm; simp [gridValid]; intro _ _ _; exact ⟨i, h3, fun h => by omega⟩
    refine condK_split (fun h5 => ?_) (fun h5 => ?_) <;> simp(maxSteps:=999999)(disch:=omega)only[go_sem,reduceAdd,reduceMul,reduceSub,reduceEqDiff,reduceLeDiff]
    · simp at h5
      symm; simp [gridValid]; intro _ _ _; exact ⟨i, h3, fun h => by omega⟩
    simp at h4 h5
    refine ⟨i + 1, ⟨⟨h3, fun j hj => ?_⟩, by omega⟩, by omega, hle_nil _⟩
    rcases Nat.lt_succ_iff_lt_or_eq.1 hj with h | rfl
    · exact hall j h
    · exact ⟨h4, h5⟩
  simp(maxSteps:=999999)(disch:=omega)only[go_sem,reduceAdd,reduceMul,reduceSub,reduceEqDiff,reduceLeDiff]
  simp at h3
  symm; simp [gridValid]
  exact ⟨hn.1, hn.2, hl, fun j hj => hall j (by omega)⟩
end Go.Lg

namespace Go.Lg
open Go.ChangeShapes Go.WideShapes Go.ChangeAt Go.RowKit
open Go.ChangeMaps (open_string)
def Cx.base (W : World) : Cx := ⟨fun _ => 0, fun _ => 0, fun b => b < W.heap.size, 0⟩
theorem base_rel (W : World) (ht : TabR W (Cx.base W).I) : HRel W (Cx.base W) [] := ⟨fun b hb => hb, fun id b hb => by simp at hb, fun id id' b b' hb => by simp at hb, ht⟩
theorem Reads.below {P : Program} {f : FuncId} {args : List AV} {b : Bool} (h : Reads P f args (bool b)) {W : World} {vs : Array Value} (hv : VAs W (Cx.base W) [] args vs) (ht : TabR W (Cx.base W).I := by intro G cs h; simp [tabC] at h) :
    Calls P f vs W fun e W' => e = .returned (.bool b) ∧ Below W.heap.size W W' :=
  (h W (Cx.base W) vs (base_rel W ht) hv).mono fun e W' ⟨v, u, X', H', h1, h2, h3, h4, h5⟩ => by
    have h5 : v = bool b := h5
    subst h5
    refine ⟨by rw [h1, va_bool h2], h4.os, h4.tape, h4.output, h4.size, fun k hk => (h4.imm k hk).2⟩
theorem vas_one {W : World} {X : Cx} {H : Heap} {x : AV} {v : Value} (h : VA W X H x v) : VAs W X H [x] #[v] :=
  ⟨rfl, fun i hi => by
    have : i = 0 := by simpa using hi
    subst this; exact ⟨v, rfl, h⟩⟩
theorem str_len {s : ByteArray} (h : s.size ≤ maxLen) : s.data.toList.length ≤ 9223372036854775807 := by
  have : maxLen ≤ 9223372036854775807 := by decide
  simp only [Array.length_toList]
  exact Nat.le_trans h this
section
variable {H : Type} {enc : TypeId × Value → H} {P : Program} {W : World}
theorem fl_ints (k : IntKind) (xs : List Int) : fl (eI k) xs = xs.map (.int k) := by
  induction xs with
  | nil => rfl
  | cons x xs ih => simp only [fl, List.flatMap_cons, List.map_cons] at ih ⊢; rw [ih]; rfl
theorem read_ints {b0 : Nat} {r : Reach} {t e : TypeId} {k : IntKind} {v : Value} {d : DataW H} {ps : List MemPlace} (ht : P.underlying t = some (.slice e)) (he : P.underlying e = some (.int k)) (hc : P.cellsOf e = 1)
    (hval : Value.okWide P W r b0 t v) (h : DataW.Trod enc P W 0 (fun _ => true) true t v d ps) : ∃ xs : List Int, VA W (Cx.base W) [] (rsl (eI k) xs) v ∧ xs.length ≤ 9223372036854775807 ∧ ∀ x ∈ xs, (Lit.int k x).wf = true := by
  obtain ⟨a, len, cap, rfl⟩ := okWide_slice ht hval
  obtain ⟨fuel, hf⟩ := h
  rcases open_ints ht he hc hf with ⟨hcs, _⟩ | ⟨x, l, c, zs, hcs, _, hl, hm, hz, _, hcell, hwz⟩
  · simp [Value.cells] at hcs
    obtain ⟨rfl, rfl, rfl⟩ := hcs
    exact ⟨[], .c _ _ (VF.sl0 none 0), by simp, by simp⟩
  · simp [Value.cells] at hcs
    obtain ⟨rfl, rfl, rfl⟩ := hcs
    have hz : zs.length = cap := by simpa using hz
    have hlen : (zs.take len).length = len := by simp; omega
    refine ⟨zs.take len, ?_, by rw [hlen]; have : maxLen ≤ 9223372036854775807 := by decide
                                omega, fun y hy => hwz y (List.mem_of_mem_take hy)⟩
    by_cases h0 : len = 0
    · subst h0
      exact .c _ _ (VF.sl0 _ _)
    · have hlt : 0 < zs.length := by omega
      have hsp : x.spot = none := by
        have hx := hcell 0 hlt
        simp only [World.cell?] at hx
        split at hx
        · split at hx
          · cases hx
          · rename_i hsp; simpa [Addr.add] using hsp
        · cases hx
      obtain ⟨b, o, sp⟩ := x
      simp only at hsp
      subst hsp
      have hb : b < W.heap.size := World.block_lt_of_cell? W _ (hcell 0 hlt)
      have := VF.sl (w := W) (I := (Cx.base W).I) len (fl (eI k) (zs.take len)) b o cap (fun j => .int k (zs.getD j 0)) hl hb (fun j hj => by
        rw [fl_length, hlen] at hj
        have := hcell j (by omega)
        simpa [add_plain] using this) (fun j hj => by
        rw [fl_length, hlen] at hj
        have e : (fl (eI k) (zs.take len))[j]'(by rw [fl_length, hlen]; exact hj) = .int k (zs.getD j 0) := by
          simp only [fl_ints, List.getElem_map, List.getElem_take]
          simp [List.getD, List.getElem?_eq_getElem (show j < zs.length by omega)]
        rw [e]
        exact VF.int _ _)
      exact .c _ _ (by rw [fsl, hlen]; exact this)
end
end Go.Lg

namespace Go.Lg
open Go.Proofs
theorem gridValid_bound {xs : List Int} {n : Int} (h : gridValid xs n = true) : 2 ≤ n ∧ n ≤ 4 ∧ (xs.length : Int) = n * n ∧ xs.length ≤ 16 ∧ ∀ j : Nat, j < xs.length → 0 ≤ nth xs j ∧ nth xs j ≤ n := by
  simp only [gridValid, decide_eq_true_eq] at h
  refine ⟨h.1, h.2.1, h.2.2.1, ?_, h.2.2.2⟩
  have : n = 2 ∨ n = 3 ∨ n = 4 := by omega
  rcases this with rfl | rfl | rfl <;> omega
theorem l1In_run (v a b : Int) : Reads Tryd.prog 28 [int v, int a, int b] (bool (decide (a ≤ v ∧ v ≤ b))) := by
  refine RunCall.cw (c := _) Tryd.func28 rfl (n := 15) Tryd.ntmps28 (rs := [.tmp 6]) rfl ?_
  simp only[List.length_cons,List.length_nil,reduceAdd,reduceSub,List.replicate,List.cons_append,List.nil_append]
  simp(maxSteps:=999999)(disch:=omega)only[go_sem,reduceAdd,reduceMul,reduceSub,reduceEqDiff,reduceLeDiff]
  refine guardK_split (fun h => ?_) (fun h => ?_) <;> simp(maxSteps:=999999)(disch:=omega)only[go_sem,reduceAdd,reduceMul,reduceSub,reduceEqDiff,reduceLeDiff, h] <;> simp at h <;> simp [h]
  omega
end Go.Lg

namespace Go.Lg
open Go.Proofs Go.Shelf
def itoaLays_ren : Go.Shelf.Ren := ⟨fun | 171 => 29 | 243 => 52 | 246 => 68 | 283 => 81 | 284 => 82 | 285 => 83 | 286 => 84 | 129 => 93 | 317 => 92 | 318 => 94 | 319 => 95 | 320 => 96 | 337 => 103 | 338 => 104 | n => n, fun | 3 => 3 | 9 => 9 | 2 => 2 | 4 => 4 | 171 => 95 | 0 => 0 | 53 => 96 | 37 => 28 | 5 => 5 | 173 => 99 | 212 => 108 | 51 => 109 | 20 => 20 | 213 => 110 | 46 => 111 | 232 => 120 | 233 => 121 | n => n, fun | 17 => 0 | 18 => 1 | 19 => 2 | n => n⟩
theorem itoaLays : Go.Proofs.LaysM.n171 Tryd.prog itoaLays_ren := {
  mixed := by kernel_rfl
  f129 := Tryd.func93.trans (congrArg some (by kernel_rfl))
  f171 := Tryd.func29.trans (congrArg some (by kernel_rfl))
  f243 := Tryd.func52.trans (congrArg some (by kernel_rfl))
  f246 := Tryd.func68.trans (congrArg some (by kernel_rfl))
  f283 := Tryd.func81.trans (congrArg some (by kernel_rfl))
  f284 := Tryd.func82.trans (congrArg some (by kernel_rfl))
  f285 := Tryd.func83.trans (congrArg some (by kernel_rfl))
  f286 := Tryd.func84.trans (congrArg some (by kernel_rfl))
  f317 := Tryd.func92.trans (congrArg some (by kernel_rfl))
  f318 := Tryd.func94.trans (congrArg some (by kernel_rfl))
  f319 := Tryd.func95.trans (congrArg some (by kernel_rfl))
  f320 := Tryd.func96.trans (congrArg some (by kernel_rfl))
  f337 := Tryd.func103.trans (congrArg some (by kernel_rfl))
  f338 := Tryd.func104.trans (congrArg some (by kernel_rfl))
  t0 := Tryd.underlying0
  a0 := Tryd.isAgg0
  z0 := Tryd.sizeOf0
  v0 := Tryd.zeroValue0
  t2 := Tryd.underlying2
  a2 := Tryd.isAgg2
  z2 := Tryd.sizeOf2
  v2 := Tryd.zeroValue2
  t3 := Tryd.underlying3
  a3 := Tryd.isAgg3
  z3 := Tryd.sizeOf3
  v3 := Tryd.zeroValue3
  t4 := Tryd.underlying4
  a4 := Tryd.isAgg4
  z4 := Tryd.sizeOf4
  v4 := Tryd.zeroValue4
  t5 := Tryd.underlying5
  a5 := Tryd.isAgg5
  z5 := Tryd.sizeOf5
  v5 := Tryd.zeroValue5
  t9 := Tryd.underlying9
  a9 := Tryd.isAgg9
  z9 := Tryd.sizeOf9
  v9 := Tryd.zeroValue9
  t20 := Tryd.underlying20
  a20 := Tryd.isAgg20
  z20 := Tryd.sizeOf20
  v20 := Tryd.zeroValue20
  t37 := Tryd.underlying28
  a37 := Tryd.isAgg28
  z37 := Tryd.sizeOf28
  v37 := Tryd.zeroValue28
  t46 := Tryd.underlying111
  a46 := Tryd.isAgg111
  z46 := Tryd.sizeOf111
  v46 := Tryd.zeroValue111
  t51 := Tryd.underlying109
  a51 := Tryd.isAgg109
  z51 := Tryd.sizeOf109
  v51 := Tryd.zeroValue109
  t53 := Tryd.underlying96
  a53 := Tryd.isAgg96
  z53 := Tryd.sizeOf96
  v53 := Tryd.zeroValue96
  t171 := Tryd.underlying95
  a171 := Tryd.isAgg95
  z171 := Tryd.sizeOf95
  v171 := Tryd.zeroValue95
  t173 := Tryd.underlying99
  a173 := Tryd.isAgg99
  z173 := Tryd.sizeOf99
  v173 := Tryd.zeroValue99
  t212 := Tryd.underlying108
  a212 := Tryd.isAgg108
  z212 := Tryd.sizeOf108
  v212 := Tryd.zeroValue108
  t213 := Tryd.underlying110
  a213 := Tryd.isAgg110
  z213 := Tryd.sizeOf110
  t232 := Tryd.underlying120
  a232 := Tryd.isAgg120
  z232 := Tryd.sizeOf120
  v232 := Tryd.zeroValue120
  t233 := Tryd.underlying121
  a233 := Tryd.isAgg121
  z233 := Tryd.sizeOf121
  v233 := Tryd.zeroValue121
  g17 := by kernel_rfl
  g18 := by kernel_rfl
  g19 := by kernel_rfl
  i0 := by kernel_rfl
  i2 := by kernel_rfl
  i3 := by kernel_rfl
  i4 := by kernel_rfl
  i5 := by kernel_rfl
  i9 := by kernel_rfl
  i20 := by kernel_rfl
  i37 := by kernel_rfl
  i46 := by kernel_rfl
  i51 := by kernel_rfl
  i53 := by kernel_rfl
  i171 := by kernel_rfl
  i173 := by kernel_rfl
  i212 := by kernel_rfl
  i232 := by kernel_rfl
  i233 := by kernel_rfl
  m17 := by kernel_rfl
  m18 := by kernel_rfl
  m19 := by kernel_rfl }
theorem itoa_calls (n : Int) (h0 : -9223372036854775808 ≤ n) (h1 : n ≤ 9223372036854775807) (w : World) (htab : Go.Lib.TabIs Tryd.prog w "internal/strconv.uint64pow10" .u64 Go.Lib.pow10Tab) :
    Calls Tryd.prog 29 #[.int .i64 n] w fun e w' => e = .returned (.string ⟨(Go.Lib.itoa n).toArray⟩) ∧ ∃ k os, w' = Go.Sort.grow (w.drewN k) os := Any.strconv_Itoa itoaLays n h0 h1 w htab
theorem itoa_glob : Program.globalNamed Tryd.prog "internal/strconv.uint64pow10" = some 0 := by kernel_rfl
theorem itoa_tab {w : World} {I : Nat → Prop} (h : TabR w I) : Go.Lib.TabIs Tryd.prog w "internal/strconv.uint64pow10" .u64 Go.Lib.pow10Tab := by
  obtain ⟨_, _, cc, t, o, h1, h2⟩ := h 0 _ rfl
  unfold Go.Lib.TabIs World.var?
  rw [itoa_glob]
  simp only [Option.bind_some, h1]
  have e : cc = (Go.Lib.pow10Tab.map fun z => Value.int .u64 z).toArray := by
    apply Array.ext'
    rw [h2]
    rfl
  rw [e]
theorem grow_grow (w : World) (k : Nat) (os : Array Obj) : Grow w (Go.Sort.grow (w.drewN k) os) := by
  refine ⟨fun b hb => ?_, ?_, rfl, rfl, rfl⟩
  · show (w.heap ++ os)[b]? = w.heap[b]?
    rw [Array.getElem?_append_left hb]
  · show w.heap.size ≤ (w.heap ++ os).size
    simp
theorem Itoa_run (i : Int) (h0 : -9223372036854775808 ≤ i) (h1 : i ≤ 9223372036854775807) : Reads Tryd.prog 29 [int i] (txt (Go.Lib.itoa i)) := by
  intro w X vs hH hvs
  obtain ⟨hs, hv⟩ := hvs
  obtain ⟨u, hu1, hu2⟩ := hv 0 (by simp)
  have e : vs = #[.int .i64 i] := by
    have hu : u = .int .i64 i := va_int hu2
    subst hu
    apply Array.ext'
    have hl : vs.toList.length = 1 := by simpa using hs
    obtain ⟨x, hx⟩ := List.length_eq_one_iff.1 hl
    have : vs.toList[0]? = some (.int .i64 i) := by rw [Array.getElem?_toList]; exact hu1
    rw [hx] at this ⊢
    simpa using this
  subst e
  refine (itoa_calls i h0 h1 w (itoa_tab hH.tab)).mono fun e w' ⟨he, k, os, hw⟩ => ?_
  subst hw
  have hg := grow_grow w k os
  exact ⟨txt (Go.Lib.itoa i), _, X, [], he, .c _ _ (VF.str _), hg.rel hH, hg.ev hH, rfl⟩
end Go.Lg

namespace Go.Lg
open Go.ChangeShapes Go.WideShapes Go.ChangeAt Go.RowKit
def CsF (w : World) (I : Nat → Prop) (ys : List FV) (cs : List Value) : Prop :=
  ys.length = cs.length ∧ ∀ j (h : j < ys.length), ∃ u, cs[j]? = some u ∧ VF w I ys[j] u
section
variable {w : World} {I : Nat → Prop}
theorem CsF.nil : CsF w I [] [] := ⟨rfl, fun j h => absurd h (Nat.not_lt_zero _)⟩
theorem CsF.one {y : FV} {v : Value} (h : VF w I y v) : CsF w I [y] [v] := ⟨rfl, fun j hj => by
  have : j = 0 := by simpa using hj
  subst this; exact ⟨v, rfl, h⟩⟩
theorem CsF.app {ys ys' : List FV} {cs cs' : List Value} (h : CsF w I ys cs) (h' : CsF w I ys' cs') : CsF w I (ys ++ ys') (cs ++ cs') := by
  refine ⟨by simp [h.1, h'.1], fun j hj => ?_⟩
  by_cases hl : j < ys.length
  · obtain ⟨u, h1, h2⟩ := h.2 j hl
    refine ⟨u, by rw [List.getElem?_append_left (by rw [← h.1]; exact hl)]; exact h1, ?_⟩
    rw [List.getElem_append_left hl]; exact h2
  · have hj' : j - ys.length < ys'.length := by simp at hj; omega
    obtain ⟨u, h1, h2⟩ := h'.2 _ hj'
    refine ⟨u, by rw [List.getElem?_append_right (by rw [← h.1]; omega), ← h.1]; exact h1, ?_⟩
    rw [List.getElem_append_right (by omega)]; exact h2
end
def Shp (P : Program) : Nat → TypeId → List FV → Prop
  | 0, _, _ => False
  | n + 1, t, ys => match P.underlying t with
    | some (.int k) => ∃ x, ys = [.int k x] ∧ (Lit.int k x).wf = true
    | some .bool => ∃ b, ys = [.bool b]
    | some .string => ∃ s : List UInt8, ys = [.str (bs s)] ∧ s.length ≤ 9223372036854775807
    | some (.slice e) => ∃ es : List (List FV), ys = [.sl es.length es.flatten] ∧ es.length ≤ 9223372036854775807 ∧ ∀ x ∈ es, Shp P n e x
    | some (.struct fs) => ∃ es : List (List FV), ys = es.flatten ∧ es.length = fs.size ∧ ∀ (i : Nat) (f : Field), fs[i]? = some f → ∃ x, es[i]? = some x ∧ Shp P n f.type x
    | _ => False
def contigB (P : Program) (tot : Nat) : Nat → List Field → Bool
  | o, [] => o == tot
  | o, f :: fs => f.offset == o && contigB P tot (o + P.cellsOf f.type) fs
def plainT (P : Program) : Nat → TypeId → Bool
  | 0, _ => false
  | n + 1, t => match P.underlying t with
    | some (.int _) => true
    | some .bool => true
    | some .string => true
    | some (.slice e) => decide (0 < P.cellsOf e) && plainT P n e
    | some (.struct fs) => contigB P (P.cellsOf t) 0 fs.toList && fs.toList.all fun f => plainT P n f.type
    | _ => false
theorem cell_plain {W : World} {a : Addr} {i : Nat} (hi : i = 0) {u : Value} (h : W.cell? ((a.add i).add 0) = some u) : a.spot = none := by
  simp only [World.cell?] at h
  split at h
  · split at h
    · cases h
    · rename_i hsp
      have : ((a.add i).add 0).spot = none := by simpa using hsp
      obtain ⟨b, o, sp⟩ := a
      cases sp with
      | none => rfl
      | some s => exfalso; revert this; unfold Addr.add; simp [hi]
  · cases h
section
variable {H : Type} {enc : TypeId × Value → H} {P : Program} {W : World}
theorem read_all : ∀ (n fuel : Nat) (t : TypeId) (cs : List Value) (x : DataW H × List MemPlace), plainT P n t = true → DataW.trod enc P W 0 (fun _ => true) true fuel t cs = some x →
    ∃ ys, CsF W (Cx.base W).I ys cs ∧ Shp P n t ys := by
  intro n
  induction n with
  | zero => intro fuel t cs x hp; simp [plainT] at hp
  | succ n ih =>
    intro fuel t cs x hp h
    unfold plainT at hp
    split at hp
    · rename_i k hu
      obtain ⟨m, rfl, rfl, hw⟩ := DataW.trod_int hu h
      exact ⟨[.int k m], CsF.one (VF.int k m), by unfold Shp; rw [hu]; exact ⟨m, rfl, hw⟩⟩
    · rename_i hu
      obtain ⟨b, rfl, rfl⟩ := DataW.trod_bool hu h
      exact ⟨[.bool b], CsF.one (VF.bool b), by unfold Shp; rw [hu]; exact ⟨b, rfl⟩⟩
    · rename_i hu
      obtain ⟨s, rfl, rfl, hs⟩ := DataW.trod_string hu h
      have e : bs s.data.toList = s := by simp [bs]
      exact ⟨[.str s], CsF.one (VF.str s), by unfold Shp; rw [hu]; exact ⟨s.data.toList, by rw [e], str_len hs⟩⟩
    · rename_i e hu
      simp only [Bool.and_eq_true, decide_eq_true_eq] at hp
      rcases DataW.trod_slice hu h with ⟨rfl, rfl⟩ | ⟨a, len, cap, elems, rest, m, rfl, rfl, rfl, hb, hl, hm, hlen, hel, _, _⟩
      · exact ⟨[.sl 0 []], CsF.one (VF.sl0 none 0), by unfold Shp; rw [hu]; exact ⟨[], rfl, by simp, by simp⟩⟩
      · have each : ∀ i, i < len → ∃ cs', W.cells? 0 (a.add (i * P.cellsOf e)) (P.cellsOf e) = some cs' ∧ ∃ ys, CsF W (Cx.base W).I ys cs' ∧ Shp P n e ys := by
          intro i hi
          have h1 := hel i hi
          rw [List.getElem?_eq_getElem (by omega)] at h1
          obtain ⟨cs', h2, h3⟩ := Option.bind_eq_some_iff.1 h1
          exact ⟨cs', h2, ih _ _ _ _ hp.2 h3⟩
        have hml : len ≤ 9223372036854775807 := by
          have : maxLen ≤ 9223372036854775807 := by decide
          omega
        by_cases h0 : len = 0
        · subst h0
          exact ⟨[.sl 0 []], CsF.one (VF.sl0 _ _), by unfold Shp; rw [hu]; exact ⟨[], rfl, by simp, by simp⟩⟩
        obtain ⟨b, o, sp⟩ := a
        have hsp : sp = none := by
          obtain ⟨cs', h2, ys, h3, h4⟩ := each 0 (by omega)
          obtain ⟨_, h5, h6⟩ := World.cells?_some h2
          have h7 := h6 0 hp.1
          rw [List.getElem?_eq_getElem (by omega)] at h7
          exact cell_plain (a := ⟨b, o, sp⟩) (Nat.zero_mul _) h7
        subst hsp
        have build : ∀ k, k ≤ len → ∃ es : List (List FV), es.length = k ∧ (∀ x ∈ es, Shp P n e x) ∧ es.flatten.length = k * P.cellsOf e ∧
            ∀ j (h : j < es.flatten.length), ∃ u, W.cell? ⟨b, o + j, none⟩ = some u ∧ VF W (Cx.base W).I es.flatten[j] u := by
          intro k
          induction k with
          | zero => intro _; exact ⟨[], rfl, by simp, by simp, fun j hj => absurd hj (by simp)⟩
          | succ k ihk =>
            intro hk
            obtain ⟨es, e1, e2, e3, e4⟩ := ihk (by omega)
            obtain ⟨cs', h2, ys, h3, h4⟩ := each k (by omega)
            obtain ⟨_, h5, h6⟩ := World.cells?_some h2
            have hys : ys.length = P.cellsOf e := by rw [h3.1, h5]
            refine ⟨es ++ [ys], by simp [e1], fun x hx => ?_, ?_, fun j hj => ?_⟩
            · rcases List.mem_append.1 hx with hx | hx
              · exact e2 x hx
              · have : x = ys := by simpa using hx
                subst this; exact h4
            · simp only [List.flatten_append, List.length_append, e3, List.flatten_cons, List.flatten_nil, List.append_nil, hys, Nat.add_mul, Nat.one_mul]
            · have hfl : (es ++ [ys]).flatten = es.flatten ++ ys := by simp
              by_cases hjl : j < es.flatten.length
              · obtain ⟨u, k1, k2⟩ := e4 j hjl
                refine ⟨u, k1, ?_⟩
                have : (es ++ [ys]).flatten[j] = es.flatten[j] := by simp only [hfl]; exact List.getElem_append_left hjl
                rw [this]; exact k2
              · have hj' : j - es.flatten.length < ys.length := by
                  have : j < (es.flatten ++ ys).length := by rw [← hfl]; exact hj
                  rw [List.length_append] at this; omega
                obtain ⟨u, k1, k2⟩ := h3.2 _ hj'
                have h8 := h6 (j - es.flatten.length) (by omega)
                rw [add_plain, add_plain, k1] at h8
                refine ⟨u, ?_, ?_⟩
                · rw [show o + k * P.cellsOf e + (j - es.flatten.length) = o + j by omega] at h8
                  exact h8
                · have : (es ++ [ys]).flatten[j] = ys[j - es.flatten.length] := by simp only [hfl]; exact List.getElem_append_right (by omega)
                  rw [this]; exact k2
        obtain ⟨es, e1, e2, e3, e4⟩ := build len (Nat.le_refl _)
        have hI : (Cx.base W).I b := by
          obtain ⟨u, k1, _⟩ := e4 0 (by rw [e3]; exact Nat.mul_pos (by omega) hp.1)
          exact World.block_lt_of_cell? W _ k1
        refine ⟨[.sl es.length es.flatten], CsF.one ?_, by unfold Shp; rw [hu]; exact ⟨es, rfl, by omega, e2⟩⟩
        rw [e1]
        refine VF.sl len es.flatten b o cap (fun j => (W.cell? ⟨b, o + j, none⟩).getD undef) hl hI (fun j hj => ?_) (fun j hj => ?_)
        · obtain ⟨u, k1, _⟩ := e4 j hj
          rw [k1]; rfl
        · obtain ⟨u, k1, k2⟩ := e4 j hj
          simp only [k1, Option.getD_some]; exact k2
    · rename_i fs hu
      simp only [Bool.and_eq_true, List.all_eq_true] at hp
      obtain ⟨xs, m, rfl, rfl, hl, hlen, hf⟩ := DataW.trod_struct hu h
      have go : ∀ (l : List Field) (o : Nat), contigB P (P.cellsOf t) o l = true → (∀ (i : Nat) (f : Field), l[i]? = some f → plainT P n f.type = true ∧ ∃ y, DataW.trod enc P W 0 (fun _ => true) true m f.type ((cs.drop f.offset).take (P.cellsOf f.type)) = some y) →
          ∃ es : List (List FV), CsF W (Cx.base W).I es.flatten (cs.drop o) ∧ es.length = l.length ∧ ∀ (i : Nat) (f : Field), l[i]? = some f → ∃ x, es[i]? = some x ∧ Shp P n f.type x := by
        intro l
        induction l with
        | nil =>
          intro o ho _
          simp only [contigB, beq_iff_eq] at ho
          refine ⟨[], ?_, rfl, fun i f hi => by simp at hi⟩
          rw [List.drop_eq_nil_of_le (by omega)]; exact CsF.nil
        | cons f l ihl =>
          intro o ho hall
          simp only [contigB, Bool.and_eq_true, beq_iff_eq] at ho
          obtain ⟨es, k1, k2, k3⟩ := ihl _ ho.2 fun i f' hi => hall (i + 1) f' hi
          obtain ⟨hp0, y, hy⟩ := hall 0 f rfl
          obtain ⟨ys, q1, q2⟩ := ih _ _ _ _ hp0 hy
          rw [ho.1] at q1
          refine ⟨ys :: es, ?_, by simp [k2], fun i f' hi => ?_⟩
          · have : cs.drop o = (cs.drop o).take (P.cellsOf f.type) ++ cs.drop (o + P.cellsOf f.type) := by
              rw [← List.drop_drop, List.take_append_drop]
            rw [this]
            exact q1.app k1
          · cases i with
            | zero =>
              have : f = f' := by simpa using hi
              subst this
              exact ⟨ys, rfl, q2⟩
            | succ i => exact k3 i f' hi
      obtain ⟨es, k1, k2, k3⟩ := go fs.toList 0 hp.1 fun i f hi => by
        have hi' : fs[i]? = some f := by simpa using hi
        refine ⟨hp.2 f (List.mem_of_getElem? hi), ?_⟩
        have := hf i f hi'
        have hlt : i < xs.length := by rw [hlen]; exact (Array.getElem?_eq_some_iff.1 hi').1
        rw [List.getElem?_eq_getElem hlt] at this
        exact ⟨_, this⟩
      refine ⟨es.flatten, by simpa using k1, ?_⟩
      unfold Shp; rw [hu]
      exact ⟨es, rfl, by simpa using k2, fun i f hi => k3 i f (by simpa using hi)⟩
    · cases hp
theorem read_one {t : TypeId} {v : Value} {d : DataW H} {ps : List MemPlace} (n : Nat) (hp : plainT P n t = true) (h : DataW.Trod enc P W 0 (fun _ => true) true t v d ps) :
    ∃ ys, CsF W (Cx.base W).I ys v.cells.toList ∧ Shp P n t ys := by
  obtain ⟨fuel, hf⟩ := h
  exact read_all n fuel t _ _ hp hf
theorem CsF.agg {ys : List FV} {cs : Array Value} (h : CsF W (Cx.base W).I ys cs.toList) : VA W (Cx.base W) [] (.agg (ys.map .f)) (.agg cs) := by
  refine .agg _ _ (by simpa using h.1.symm) fun j hj => ?_
  have hj' : j < ys.length := by simpa using hj
  obtain ⟨u, h1, h2⟩ := h.2 j hj'
  refine ⟨u, by simpa using h1, ?_⟩
  rw [List.getElem_map]; exact h2
theorem CsF.val {y : FV} {v : Value} (h : CsF W (Cx.base W).I [y] [v]) : VA W (Cx.base W) [] (.c (.f y)) v := by
  obtain ⟨u, h1, h2⟩ := h.2 0 (by simp)
  have : v = u := by simpa using h1
  subst this
  exact .c _ _ h2
end
end Go.Lg
