/- LgT, LgT2, LgR, LgT3, GpXS, LgV, cut to what is needed. -/
import Derived.Test.YtfkhojmllokgoaaDoorZab1
import Derived.ProofKit
import Derived.OpenShut
import Derived.ShutString
import Derived.ChangeOld
import Derived.SizedLaws
import Derived.ChangeSlices
import Derived.Carry
import Derived.Shelf.Strconv.Itoa0
import Derived.Shelf.Strconv.Itoa1
import Derived.Shelf.LaysM
import Derived.Shelf.Strconv.Itoa2
import Derived.Shelf.Strconv.Itoa3
open Nat renaming reduceAdd → zA, reduceMul → zM, reduceSub → zS, reduceEqDiff → zE, reduceLeDiff → zL
set_option linter.unusedSimpArgs false
set_option linter.unusedVariables false
set_option maxRecDepth 100000
namespace Go.Lg
open Go.Proofs
theorem sizeOk_run (n : Int) : Reads Tryd.prog 48 [int n] (bool (decide (2 ≤ n ∧ n ≤ 4))) := by
  refine RunCall.cw (c := _) Tryd.func48 rfl (n := 9) Tryd.ntmps48 (rs := [.tmp 2]) rfl ?_
  simp only[List.length_cons,List.length_nil,zA,zS,List.replicate,List.cons_append,List.nil_append]
  simp(maxSteps:=999999)(disch:=omega)only[go_sem,zA,zM,zS,zE,zL]
  refine guardK_split (fun h => ?_) (fun h => ?_) <;> simp(maxSteps:=999999)(disch:=omega)only[go_sem,zA,zM,zS,zE,zL, h] <;> simp at h <;> simp [h]
  omega
def gridValid (xs : List Int) (n : Int) : Bool := decide (2 ≤ n ∧ n ≤ 4 ∧ (xs.length : Int) = n * n ∧ ∀ j, j < xs.length → 0 ≤ nth xs j ∧ nth xs j ≤ n)
theorem GridValid_run (xs : List Int) (n : Int) (hx : xs.length ≤ 2 ^ 44) : Reads Tryd.prog 53 [ints xs, int n] (bool (gridValid xs n)) := by
  refine RunCall.cw (c := _) Tryd.func53 rfl (n := 32) Tryd.ntmps53 (rs := [.tmp 4]) rfl ?_
  simp only[List.length_cons,List.length_nil,zA,zS,List.replicate,List.cons_append,List.nil_append]
  simp(maxSteps:=999999)(disch:=omega)only[go_sem,zA,zM,zS,zE,zL]
  refine OpS.rd (sizeOk_run n) (⟨_, Tryd.func48, rfl, rfl⟩ : Enters Tryd.prog 48) rfl rfl rfl rfl ?_
  simp(maxSteps:=999999)(disch:=omega)only[go_sem,zA,zM,zS,zE,zL]
  refine guardK_split (fun h => ?_) (fun h => ?_) <;> simp(maxSteps:=999999)(disch:=omega)only[go_sem,zA,zM,zS,zE,zL, h]
  · simp at h
    simp [gridValid]; omega
  have hn : 2 ≤ n ∧ n ≤ 4 := by simpa using h
  have hw : 4 ≤ n * n ∧ n * n ≤ 16 := by
    have : n = 2 ∨ n = 3 ∨ n = 4 := by omega
    rcases this with rfl | rfl | rfl <;> decide
  simp(maxSteps:=999999)(disch:=omega)only[go_sem,zA,zM,zS,zE,zL]
  refine condK_split (fun h2 => ?_) (fun h2 => ?_) <;> simp(maxSteps:=999999)(disch:=omega)only[go_sem,zA,zM,zS,zE,zL]
  · simp at h2
    simp [gridValid, h2]
  have hl : (xs.length : Int) = n * n := by simpa using h2
  refine loop_rule (fun i : Nat => xs.length - i) (fun i => i ≤ xs.length ∧ ∀ j, j < i → 0 ≤ nth xs j ∧ nth xs j ≤ n)
    (fun i => [.a, .k, .a, .a, .a, .a, .a, .a, .a, .a, .a, .a, .a, .a, .a, .a, .a, .a, .k, .k, .p (int i), .a, .a, .a, .a, .a, .a, .a, .a, .a, .a, .a]) (fun _ => []) 0 ⟨Nat.zero_le _, fun j hj => absurd hj (Nat.not_lt_zero _)⟩ (by simp(maxSteps:=999999)(disch:=omega)only[go_sem,zA,zM,zS,zE,zL]; rfl) (hle_nil _) ?_
  rintro i ⟨hi, hall⟩
  simp(maxSteps:=999999)(disch:=omega)only[go_sem,zA,zM,zS,zE,zL]
  refine condK_split (fun h3 => ?_) (fun h3 => ?_)
  · have h3 : i < xs.length := by simpa using h3
    simp(maxSteps:=999999)(disch:=omega)only[go_sem,zA,zM,zS,zE,zL]
    refine guardK_split (fun h4 => ?_) (fun h4 => ?_) <;> simp(maxSteps:=999999)(disch:=omega)only[go_sem,zA,zM,zS,zE,zL, h4]
    · simp at h4
      symm; simp [gridValid]; intro _ _ _; exact ⟨i, h3, fun h => by omega⟩
    refine condK_split (fun h5 => ?_) (fun h5 => ?_) <;> simp(maxSteps:=999999)(disch:=omega)only[go_sem,zA,zM,zS,zE,zL]
    · simp at h5
      symm; simp [gridValid]; intro _ _ _; exact ⟨i, h3, fun h => by omega⟩
    simp at h4 h5
    refine ⟨i + 1, ⟨⟨h3, fun j hj => ?_⟩, by omega⟩, by omega, hle_nil _⟩
    rcases Nat.lt_succ_iff_lt_or_eq.1 hj with h | rfl
    · exact hall j h
    · exact ⟨h4, h5⟩
  simp(maxSteps:=999999)(disch:=omega)only[go_sem,zA,zM,zS,zE,zL]
  simp at h3
  symm; simp [gridValid]
  exact ⟨hn.1, hn.2, hl, fun j hj => hall j (by omega)⟩
end Go.Lg

namespace Go.Lg
open Go.Proofs
def chI (v : Int) : Int := if v = 0 then 46 else 48 + v
def chOf (v : Int) : UInt8 := u8 (chI v)
theorem cellsText_run (xs : List Int) (hx : xs.length ≤ 2 ^ 40) (hv : ∀ j : Nat, j < xs.length → 0 ≤ nth xs j ∧ nth xs j ≤ 9) : Reads Tryd.prog 55 [ints xs] (txt (xs.map chOf)) := by
  refine RunCall.cw (c := _) Tryd.func55 rfl (n := 29) Tryd.ntmps55 (rs := [.tmp 2]) rfl ?_
  simp only[List.length_cons,List.length_nil,zA,zS,List.replicate,List.cons_append,List.nil_append]
  simp(maxSteps:=999999)(disch:=omega)only[go_sem,zA,zM,zS,zE,zL]
  intro g
  refine loop_rule2 (fun (i g : Nat) => xs.length - i) (fun i g => i ≤ xs.length) (fun i g => [.a, .a, .a, .p (.c (.own 0 g 0 i none)), .a, .a, .a, .a, .a, .k, .k, .p (int i), .a, .a, .a, .a, .a, .a, .a, .a, .a, .a, .a, .a, .a, .a, .a, .a, .a]) (fun i g => [some ⟨g, 1, cl (eI .u8) ((xs.take i).map chI)⟩]) 0 g
    (Nat.zero_le _) (by simp(maxSteps:=999999)(disch:=omega)only[go_sem,zA,zM,zS,zE,zL]; rfl) (HLe.refl _) ?_
  intro i g hi
  simp(maxSteps:=999999)(disch:=omega)only[go_sem,zA,zM,zS,zE,zL]
  refine condK_split (fun h => ?_) (fun h => ?_)
  · have h : i < xs.length := by simpa using h
    have hv := hv i h
    simp(maxSteps:=999999)(disch:=omega)only[go_sem,zA,zM,zS,zE,zL]
    refine condK_split (fun h2 => ?_) (fun h2 => ?_) <;> simp(maxSteps:=999999)(disch:=omega)only[go_sem,zA,zM,zS,zE,zL]
    · simp at h2
      intro g1 g2
      exact ⟨i + 1, g2, ⟨h, by omega⟩, ⟨⟨rfl, rfl⟩, rfl⟩, hle_eq (by rw [take_succ_nth h, List.map_append]; simp [chI, h2]) (hle_nil _)⟩
    simp at h2
    intro g1 g2
    exact ⟨i + 1, g2, ⟨h, by omega⟩, ⟨⟨rfl, rfl⟩, rfl⟩, hle_eq (by rw [take_succ_nth h, List.map_append]; simp [chI, h2]) (hle_nil _)⟩
  have h : ¬ i < xs.length := by simpa using h
  have : i = xs.length := by omega
  subst this
  simp(maxSteps:=999999)(disch:=omega)only[go_sem,zA,zM,zS,zE,zL]
  congr 1
  rw [List.take_of_length_le (by simp), List.take_length, List.map_map]
  rfl
end Go.Lg

namespace Go.Lg
open Go.ChangeShapes Go.WideShapes Go.ChangeAt Go.RowKit
open Go.ChangeMaps (open_string)
def Cx.base (W : World) : Cx := ⟨fun _ => 0, fun _ => 0, fun b => b < W.heap.size, 0⟩
theorem base_rel (W : World) (ht : TabR W (Cx.base W).I) : HRel W (Cx.base W) [] := ⟨fun b hb => hb, fun id b hb => by simp at hb, fun id id' b b' hb => by simp at hb, ht⟩
theorem Reads.below {P : Program} {f : FuncId} {args : List AV} {b : Bool} (h : Reads P f args (bool b)) {W : World} {vs : Array Value} (hv : VAs W (Cx.base W) [] args vs) (ht : TabR W (Cx.base W).I := by intro G cs h; simp [tabC] at h) :
    Calls P f vs W fun e W' => e = .returned (.bool b) ∧ Below W.heap.size W W' :=
  (h W (Cx.base W) vs (base_rel W ht) hv).mono fun e W' ⟨v, u, X', H', h1, h2, h3, h4, h5⟩ => by
    have h5 : v = bool b := h5
    subst h5
    refine ⟨by rw [h1, va_bool h2], h4.os, h4.tape, h4.output, h4.size, fun k hk => (h4.imm k hk).2⟩
theorem vas_one {W : World} {X : Cx} {H : Heap} {x : AV} {v : Value} (h : VA W X H x v) : VAs W X H [x] #[v] :=
  ⟨rfl, fun i hi => by
    have : i = 0 := by simpa using hi
    subst this; exact ⟨v, rfl, h⟩⟩
section
variable {H : Type} {enc : TypeId × Value → H} {P : Program} {W : World}
theorem fl_ints (k : IntKind) (xs : List Int) : fl (eI k) xs = xs.map (.int k) := by
  induction xs with
  | nil => rfl
  | cons x xs ih => simp only [fl, List.flatMap_cons, List.map_cons] at ih ⊢; rw [ih]; rfl
theorem read_ints {b0 : Nat} {r : Reach} {t e : TypeId} {k : IntKind} {v : Value} {d : DataW H} {ps : List MemPlace} (ht : P.underlying t = some (.slice e)) (he : P.underlying e = some (.int k)) (hc : P.cellsOf e = 1)
    (hval : Value.okWide P W r b0 t v) (h : DataW.Trod enc P W 0 (fun _ => true) true t v d ps) : ∃ xs : List Int, VA W (Cx.base W) [] (rsl (eI k) xs) v ∧ xs.length ≤ 9223372036854775807 ∧ ∀ x ∈ xs, (Lit.int k x).wf = true := by
  obtain ⟨a, len, cap, rfl⟩ := okWide_slice ht hval
  obtain ⟨fuel, hf⟩ := h
  rcases open_ints ht he hc hf with ⟨hcs, _⟩ | ⟨x, l, c, zs, hcs, _, hl, hm, hz, _, hcell, hwz⟩
  · simp [Value.cells] at hcs
    obtain ⟨rfl, rfl, rfl⟩ := hcs
    exact ⟨[], .c _ _ (VF.sl0 none 0), by simp, by simp⟩
  · simp [Value.cells] at hcs
    obtain ⟨rfl, rfl, rfl⟩ := hcs
    have hz : zs.length = cap := by simpa using hz
    have hlen : (zs.take len).length = len := by simp; omega
    refine ⟨zs.take len, ?_, by rw [hlen]; have : maxLen ≤ 9223372036854775807 := by decide
                                omega, fun y hy => hwz y (List.mem_of_mem_take hy)⟩
    by_cases h0 : len = 0
    · subst h0
      exact .c _ _ (VF.sl0 _ _)
    · have hlt : 0 < zs.length := by omega
      have hsp : x.spot = none := by
        have hx := hcell 0 hlt
        simp only [World.cell?] at hx
        split at hx
        · split at hx
          · cases hx
          · rename_i hsp; simpa [Addr.add] using hsp
        · cases hx
      obtain ⟨b, o, sp⟩ := x
      simp only at hsp
      subst hsp
      have hb : b < W.heap.size := World.block_lt_of_cell? W _ (hcell 0 hlt)
      have := VF.sl (w := W) (I := (Cx.base W).I) len (fl (eI k) (zs.take len)) b o cap (fun j => .int k (zs.getD j 0)) hl hb (fun j hj => by
        rw [fl_length, hlen] at hj
        have := hcell j (by omega)
        simpa [add_plain] using this) (fun j hj => by
        rw [fl_length, hlen] at hj
        have e : (fl (eI k) (zs.take len))[j]'(by rw [fl_length, hlen]; exact hj) = .int k (zs.getD j 0) := by
          simp only [fl_ints, List.getElem_map, List.getElem_take]
          simp [List.getD, List.getElem?_eq_getElem (show j < zs.length by omega)]
        rw [e]
        exact VF.int _ _)
      exact .c _ _ (by rw [fsl, hlen]; exact this)
end
end Go.Lg

namespace Go.Lg
open Go.Proofs
def gridText (xs : List Int) (n : Int) : List UInt8 := if gridValid xs n then u8 (48 + n) :: 58 :: xs.map chOf else []
theorem gridValid_bound {xs : List Int} {n : Int} (h : gridValid xs n = true) : 2 ≤ n ∧ n ≤ 4 ∧ (xs.length : Int) = n * n ∧ xs.length ≤ 16 ∧ ∀ j : Nat, j < xs.length → 0 ≤ nth xs j ∧ nth xs j ≤ n := by
  simp only [gridValid, decide_eq_true_eq] at h
  refine ⟨h.1, h.2.1, h.2.2.1, ?_, h.2.2.2⟩
  have : n = 2 ∨ n = 3 ∨ n = 4 := by omega
  rcases this with rfl | rfl | rfl <;> omega
theorem GridText_run (xs : List Int) (n : Int) (hx : xs.length ≤ 2 ^ 40) : Reads Tryd.prog 43 [ints xs, int n] (txt (gridText xs n)) := by
  refine RunCall.cw (c := _) Tryd.func43 rfl (n := 17) Tryd.ntmps43 (rs := [.tmp 4]) rfl ?_
  simp only[List.length_cons,List.length_nil,zA,zS,List.replicate,List.cons_append,List.nil_append]
  simp(maxSteps:=999999)(disch:=omega)only[go_sem,zA,zM,zS,zE,zL]
  refine OpS.rd (GridValid_run xs n (by omega)) (⟨_, Tryd.func53, rfl, rfl⟩ : Enters Tryd.prog 53) rfl rfl rfl rfl ?_
  simp(maxSteps:=999999)(disch:=omega)only[go_sem,zA,zM,zS,zE,zL]
  refine condK_split (fun h => ?_) (fun h => ?_)
  · simp(maxSteps:=999999)(disch:=omega)only[go_sem,zA,zM,zS,zE,zL]
    simp at h
    simp [gridText, h]
  have h : gridValid xs n = true := by simpa using h
  obtain ⟨h1, h2, h3, h4, h5⟩ := gridValid_bound h
  simp(maxSteps:=999999)(disch:=omega)only[go_sem,zA,zM,zS,zE,zL]
  refine drawP_q foll (by kernel_rfl) ?_
  simp(maxSteps:=999999)(disch:=omega)only[go_sem,Nat.reduceBEq,Bool.true_or,zA,zM,zS,zE,zL]
  refine quietW.rd (cellsText_run xs (by omega) fun j hj => by have := h5 j hj; omega) (⟨_, Tryd.func55, rfl, rfl⟩ : Enters Tryd.prog 55) rfl rfl rfl rfl ?_
  simp(maxSteps:=999999)(disch:=omega)only[go_sem,zA,zM,zS,zE,zL]
  simp [gridText, h, show u8 58 = 58 from rfl]
theorem l1In_run (v a b : Int) : Reads Tryd.prog 28 [int v, int a, int b] (bool (decide (a ≤ v ∧ v ≤ b))) := by
  refine RunCall.cw (c := _) Tryd.func28 rfl (n := 15) Tryd.ntmps28 (rs := [.tmp 6]) rfl ?_
  simp only[List.length_cons,List.length_nil,zA,zS,List.replicate,List.cons_append,List.nil_append]
  simp(maxSteps:=999999)(disch:=omega)only[go_sem,zA,zM,zS,zE,zL]
  refine guardK_split (fun h => ?_) (fun h => ?_) <;> simp(maxSteps:=999999)(disch:=omega)only[go_sem,zA,zM,zS,zE,zL, h] <;> simp at h <;> simp [h]
  omega
theorem sGridValid_run (xs : List Int) (n : Int) (hx : xs.length ≤ 2 ^ 40) : Reads Tryd.prog 46 [ints xs, int n] (bool (gridValid xs n)) := by
  refine RunCall.cw (c := _) Tryd.func46 rfl (n := 29) Tryd.ntmps46 (rs := [.tmp 4]) rfl ?_
  simp only[List.length_cons,List.length_nil,zA,zS,List.replicate,List.cons_append,List.nil_append]
  simp(maxSteps:=999999)(disch:=omega)only[go_sem,zA,zM,zS,zE,zL]
  refine loop_rule (fun i : Nat => xs.length - i) (fun i => i ≤ xs.length ∧ ∀ j : Nat, j < i → 0 ≤ nth xs j ∧ nth xs j ≤ n) (fun i => [.k, .k, .a, .a, .a, .p (int i), .a, .a, .a, .a, .a, .a, .a, .a, .a, .a, .a, .a, .a, .a, .a, .a, .a, .a, .a, .a, .a, .a, .a]) (fun i => []) 0
    ⟨Nat.zero_le _, fun j hj => absurd hj (Nat.not_lt_zero _)⟩ (by simp(maxSteps:=999999)(disch:=omega)only[go_sem,zA,zM,zS,zE,zL]; rfl) (hle_nil _) ?_
  rintro i ⟨hi, hall⟩
  simp(maxSteps:=999999)(disch:=omega)only[go_sem,zA,zM,zS,zE,zL]
  refine condK_split (fun h => ?_) (fun h => ?_)
  · have h : i < xs.length := by simpa using h
    simp(maxSteps:=999999)(disch:=omega)only[go_sem,zA,zM,zS,zE,zL]
    refine OpS.rd (l1In_run _ _ _) (⟨_, Tryd.func28, rfl, rfl⟩ : Enters Tryd.prog 28) rfl rfl rfl rfl ?_
    simp(maxSteps:=999999)(disch:=omega)only[go_sem,zA,zM,zS,zE,zL]
    refine condK_split (fun h2 => ?_) (fun h2 => ?_) <;> simp(maxSteps:=999999)(disch:=omega)only[go_sem,zA,zM,zS,zE,zL]
    · simp at h2
      symm; simp [gridValid]; intro _ _ _; exact ⟨i, h, fun h => by omega⟩
    simp at h2
    refine ⟨i + 1, ⟨⟨h, fun j hj => ?_⟩, by omega⟩, by omega, hle_nil _⟩
    rcases Nat.lt_succ_iff_lt_or_eq.1 hj with h | rfl
    · exact hall j h
    · exact h2
  have h : ¬ i < xs.length := by simpa using h
  simp(maxSteps:=999999)(disch:=omega)only[go_sem,zA,zM,zS,zE,zL]
  refine OpS.rd (l1In_run _ _ _) (⟨_, Tryd.func28, rfl, rfl⟩ : Enters Tryd.prog 28) rfl rfl rfl rfl ?_
  simp(maxSteps:=999999)(disch:=omega)only[go_sem,zA,zM,zS,zE,zL]
  refine guardK_split (fun h2 => ?_) (fun h2 => ?_) <;> simp(maxSteps:=999999)(disch:=omega)only[go_sem,zA,zM,zS,zE,zL, h2]
  · have h2 : 2 ≤ n ∧ n ≤ 4 := by simpa using h2
    have hw : 4 ≤ n * n ∧ n * n ≤ 16 := by
      have : n = 2 ∨ n = 3 ∨ n = 4 := by omega
      rcases this with rfl | rfl | rfl <;> decide
    simp(maxSteps:=999999)(disch:=omega)only[go_sem,zA,zM,zS,zE,zL]
    simp only [gridValid, h2, true_and, decide_eq_decide]
    exact ⟨fun h3 => ⟨h3, fun j hj => hall j (by omega)⟩, fun h3 => h3.1⟩
  · simp at h2
    symm; simp [gridValid]; omega
theorem sGridText_run (xs : List Int) (n : Int) (hx : xs.length ≤ 2 ^ 40) : Reads Tryd.prog 40 [ints xs, int n] (txt (gridText xs n)) := by
  refine RunCall.cw (c := _) Tryd.func40 rfl (n := 41) Tryd.ntmps40 (rs := [.tmp 4]) rfl ?_
  simp only[List.length_cons,List.length_nil,zA,zS,List.replicate,List.cons_append,List.nil_append]
  simp(maxSteps:=999999)(disch:=omega)only[go_sem,zA,zM,zS,zE,zL]
  refine OpS.rd (sGridValid_run xs n (by omega)) (⟨_, Tryd.func46, rfl, rfl⟩ : Enters Tryd.prog 46) rfl rfl rfl rfl ?_
  simp(maxSteps:=999999)(disch:=omega)only[go_sem,zA,zM,zS,zE,zL]
  refine condK_split (fun h => ?_) (fun h => ?_)
  · simp(maxSteps:=999999)(disch:=omega)only[go_sem,zA,zM,zS,zE,zL]
    simp at h
    simp [gridText, h]
  have h : gridValid xs n = true := by simpa using h
  obtain ⟨h1, h2, h3, h4, h5⟩ := gridValid_bound h
  simp(maxSteps:=999999)(disch:=omega)only[go_sem,zA,zM,zS,zE,zL]
  intro g1
  refine loop_rule (fun i : Nat => xs.length - i) (fun i => i ≤ xs.length) (fun i => [.k, .a, .a, .a, .a, .p (txt (u8 (48 + n) :: 58 :: (xs.take i).map chOf)), .p (int i), .a, .a, .a, .a, .a, .a, .a, .a, .a, .a, .a, .a, .a, .a, .a, .a, .a, .a, .a, .a, .a, .a, .a, .a, .a, .a, .a, .a, .a, .a, .a, .a, .a, .a]) (fun _ => []) 0
    (Nat.zero_le _) (by simp(maxSteps:=999999)(disch:=omega)only[go_sem,zA,zM,zS,zE,zL]; rfl) (hle_nil _) ?_
  intro i hi
  simp(maxSteps:=999999)(disch:=omega)only[go_sem,zA,zM,zS,zE,zL]
  refine condK_split (fun h => ?_) (fun h => ?_)
  · have h : i < xs.length := by simpa using h
    have h5 := h5 i h
    simp(maxSteps:=999999)(disch:=omega)only[go_sem,zA,zM,zS,zE,zL]
    refine condK_split (fun h6 => ?_) (fun h6 => ?_) <;> simp at h6 <;> simp(maxSteps:=999999)(disch:=omega)only[go_sem,zA,zM,zS,zE,zL]
    · exact ⟨i + 1, ⟨h, by omega⟩, ⟨by rw [take_succ_nth h]; simp [chOf, chI, h6]; rfl, by omega⟩, hle_nil _⟩
    · intro g2
      exact ⟨i + 1, ⟨h, by omega⟩, ⟨by rw [take_succ_nth h]; simp [chOf, chI, h6], by omega⟩, hle_nil _⟩
  have h : i = xs.length := by have : ¬ i < xs.length := by simpa using h
                               omega
  subst h
  simp(maxSteps:=999999)(disch:=omega)only[go_sem,zA,zM,zS,zE,zL]
  simp [gridText, *]
end Go.Lg

namespace Go.Lg
open Go.Proofs Go.Shelf
def itoaLays_ren : Go.Shelf.Ren := ⟨fun | 171 => 29 | 243 => 52 | 246 => 68 | 283 => 81 | 284 => 82 | 285 => 83 | 286 => 84 | 129 => 93 | 317 => 92 | 318 => 94 | 319 => 95 | 320 => 96 | 337 => 103 | 338 => 104 | n => n, fun | 3 => 3 | 9 => 9 | 2 => 2 | 4 => 4 | 171 => 95 | 0 => 0 | 53 => 96 | 37 => 28 | 5 => 5 | 173 => 99 | 212 => 108 | 51 => 109 | 20 => 20 | 213 => 110 | 46 => 111 | 232 => 120 | 233 => 121 | n => n, fun | 17 => 0 | 18 => 1 | 19 => 2 | n => n⟩
theorem itoaLays : Go.Proofs.LaysM.n171 Tryd.prog itoaLays_ren := {
  mixed := by kernel_rfl
  f129 := Tryd.func93.trans (congrArg some (by kernel_rfl))
  f171 := Tryd.func29.trans (congrArg some (by kernel_rfl))
  f243 := Tryd.func52.trans (congrArg some (by kernel_rfl))
  f246 := Tryd.func68.trans (congrArg some (by kernel_rfl))
  f283 := Tryd.func81.trans (congrArg some (by kernel_rfl))
  f284 := Tryd.func82.trans (congrArg some (by kernel_rfl))
  f285 := Tryd.func83.trans (congrArg some (by kernel_rfl))
  f286 := Tryd.func84.trans (congrArg some (by kernel_rfl))
  f317 := Tryd.func92.trans (congrArg some (by kernel_rfl))
  f318 := Tryd.func94.trans (congrArg some (by kernel_rfl))
  f319 := Tryd.func95.trans (congrArg some (by kernel_rfl))
  f320 := Tryd.func96.trans (congrArg some (by kernel_rfl))
  f337 := Tryd.func103.trans (congrArg some (by kernel_rfl))
  f338 := Tryd.func104.trans (congrArg some (by kernel_rfl))
  t0 := Tryd.underlying0
  a0 := Tryd.isAgg0
  z0 := Tryd.sizeOf0
  v0 := Tryd.zeroValue0
  t2 := Tryd.underlying2
  a2 := Tryd.isAgg2
  z2 := Tryd.sizeOf2
  v2 := Tryd.zeroValue2
  t3 := Tryd.underlying3
  a3 := Tryd.isAgg3
  z3 := Tryd.sizeOf3
  v3 := Tryd.zeroValue3
  t4 := Tryd.underlying4
  a4 := Tryd.isAgg4
  z4 := Tryd.sizeOf4
  v4 := Tryd.zeroValue4
  t5 := Tryd.underlying5
  a5 := Tryd.isAgg5
  z5 := Tryd.sizeOf5
  v5 := Tryd.zeroValue5
  t9 := Tryd.underlying9
  a9 := Tryd.isAgg9
  z9 := Tryd.sizeOf9
  v9 := Tryd.zeroValue9
  t20 := Tryd.underlying20
  a20 := Tryd.isAgg20
  z20 := Tryd.sizeOf20
  v20 := Tryd.zeroValue20
  t37 := Tryd.underlying28
  a37 := Tryd.isAgg28
  z37 := Tryd.sizeOf28
  v37 := Tryd.zeroValue28
  t46 := Tryd.underlying111
  a46 := Tryd.isAgg111
  z46 := Tryd.sizeOf111
  v46 := Tryd.zeroValue111
  t51 := Tryd.underlying109
  a51 := Tryd.isAgg109
  z51 := Tryd.sizeOf109
  v51 := Tryd.zeroValue109
  t53 := Tryd.underlying96
  a53 := Tryd.isAgg96
  z53 := Tryd.sizeOf96
  v53 := Tryd.zeroValue96
  t171 := Tryd.underlying95
  a171 := Tryd.isAgg95
  z171 := Tryd.sizeOf95
  v171 := Tryd.zeroValue95
  t173 := Tryd.underlying99
  a173 := Tryd.isAgg99
  z173 := Tryd.sizeOf99
  v173 := Tryd.zeroValue99
  t212 := Tryd.underlying108
  a212 := Tryd.isAgg108
  z212 := Tryd.sizeOf108
  v212 := Tryd.zeroValue108
  t213 := Tryd.underlying110
  a213 := Tryd.isAgg110
  z213 := Tryd.sizeOf110
  t232 := Tryd.underlying120
  a232 := Tryd.isAgg120
  z232 := Tryd.sizeOf120
  v232 := Tryd.zeroValue120
  t233 := Tryd.underlying121
  a233 := Tryd.isAgg121
  z233 := Tryd.sizeOf121
  v233 := Tryd.zeroValue121
  g17 := by kernel_rfl
  g18 := by kernel_rfl
  g19 := by kernel_rfl
  i0 := by kernel_rfl
  i2 := by kernel_rfl
  i3 := by kernel_rfl
  i4 := by kernel_rfl
  i5 := by kernel_rfl
  i9 := by kernel_rfl
  i20 := by kernel_rfl
  i37 := by kernel_rfl
  i46 := by kernel_rfl
  i51 := by kernel_rfl
  i53 := by kernel_rfl
  i171 := by kernel_rfl
  i173 := by kernel_rfl
  i212 := by kernel_rfl
  i232 := by kernel_rfl
  i233 := by kernel_rfl
  m17 := by kernel_rfl
  m18 := by kernel_rfl
  m19 := by kernel_rfl }
theorem itoa_calls (n : Int) (h0 : -9223372036854775808 ≤ n) (h1 : n ≤ 9223372036854775807) (w : World) (htab : Go.Lib.TabIs Tryd.prog w "internal/strconv.uint64pow10" .u64 Go.Lib.pow10Tab) :
    Calls Tryd.prog 29 #[.int .i64 n] w fun e w' => e = .returned (.string ⟨(Go.Lib.itoa n).toArray⟩) ∧ ∃ k os, w' = Go.Sort.grow (w.drewN k) os := Any.strconv_Itoa itoaLays n h0 h1 w htab
theorem itoa_glob : Program.globalNamed Tryd.prog "internal/strconv.uint64pow10" = some 0 := by kernel_rfl
theorem itoa_tab {w : World} {I : Nat → Prop} (h : TabR w I) : Go.Lib.TabIs Tryd.prog w "internal/strconv.uint64pow10" .u64 Go.Lib.pow10Tab := by
  obtain ⟨_, _, cc, t, o, h1, h2⟩ := h 0 _ rfl
  unfold Go.Lib.TabIs World.var?
  rw [itoa_glob]
  simp only [Option.bind_some, h1]
  have e : cc = (Go.Lib.pow10Tab.map fun z => Value.int .u64 z).toArray := by
    apply Array.ext'
    rw [h2]
    rfl
  rw [e]
theorem grow_grow (w : World) (k : Nat) (os : Array Obj) : Grow w (Go.Sort.grow (w.drewN k) os) := by
  refine ⟨fun b hb => ?_, ?_, rfl, rfl, rfl⟩
  · show (w.heap ++ os)[b]? = w.heap[b]?
    rw [Array.getElem?_append_left hb]
  · show w.heap.size ≤ (w.heap ++ os).size
    simp
theorem Itoa_run (i : Int) (h0 : -9223372036854775808 ≤ i) (h1 : i ≤ 9223372036854775807) : Reads Tryd.prog 29 [int i] (txt (Go.Lib.itoa i)) := by
  intro w X vs hH hvs
  obtain ⟨hs, hv⟩ := hvs
  obtain ⟨u, hu1, hu2⟩ := hv 0 (by simp)
  have e : vs = #[.int .i64 i] := by
    have hu : u = .int .i64 i := va_int hu2
    subst hu
    apply Array.ext'
    have hl : vs.toList.length = 1 := by simpa using hs
    obtain ⟨x, hx⟩ := List.length_eq_one_iff.1 hl
    have : vs.toList[0]? = some (.int .i64 i) := by rw [Array.getElem?_toList]; exact hu1
    rw [hx] at this ⊢
    simpa using this
  subst e
  refine (itoa_calls i h0 h1 w (itoa_tab hH.tab)).mono fun e w' ⟨he, k, os, hw⟩ => ?_
  subst hw
  have hg := grow_grow w k os
  exact ⟨txt (Go.Lib.itoa i), _, X, [], he, .c _ _ (VF.str _), hg.rel hH, hg.ev hH, rfl⟩
end Go.Lg

namespace Go.Lg
open Go.ChangeShapes Go.WideShapes Go.ChangeAt Go.RowKit
def CsF (w : World) (I : Nat → Prop) (ys : List FV) (cs : List Value) : Prop :=
  ys.length = cs.length ∧ ∀ j (h : j < ys.length), ∃ u, cs[j]? = some u ∧ VF w I ys[j] u
section
variable {w : World} {I : Nat → Prop}
theorem CsF.nil : CsF w I [] [] := ⟨rfl, fun j h => absurd h (Nat.not_lt_zero _)⟩
theorem CsF.one {y : FV} {v : Value} (h : VF w I y v) : CsF w I [y] [v] := ⟨rfl, fun j hj => by
  have : j = 0 := by simpa using hj
  subst this; exact ⟨v, rfl, h⟩⟩
theorem CsF.app {ys ys' : List FV} {cs cs' : List Value} (h : CsF w I ys cs) (h' : CsF w I ys' cs') : CsF w I (ys ++ ys') (cs ++ cs') := by
  refine ⟨by simp [h.1, h'.1], fun j hj => ?_⟩
  by_cases hl : j < ys.length
  · obtain ⟨u, h1, h2⟩ := h.2 j hl
    refine ⟨u, by rw [List.getElem?_append_left (by rw [← h.1]; exact hl)]; exact h1, ?_⟩
    rw [List.getElem_append_left hl]; exact h2
  · have hj' : j - ys.length < ys'.length := by simp at hj; omega
    obtain ⟨u, h1, h2⟩ := h'.2 _ hj'
    refine ⟨u, by rw [List.getElem?_append_right (by rw [← h.1]; omega), ← h.1]; exact h1, ?_⟩
    rw [List.getElem_append_right (by omega)]; exact h2
end
section
variable {H : Type} {enc : TypeId × Value → H} {P : Program} {W : World}
theorem CsF.agg {ys : List FV} {cs : Array Value} (h : CsF W (Cx.base W).I ys cs.toList) : VA W (Cx.base W) [] (.agg (ys.map .f)) (.agg cs) := by
  refine .agg _ _ (by simpa using h.1.symm) fun j hj => ?_
  have hj' : j < ys.length := by simpa using hj
  obtain ⟨u, h1, h2⟩ := h.2 j hj'
  refine ⟨u, by simpa using h1, ?_⟩
  rw [List.getElem_map]; exact h2
theorem CsF.val {y : FV} {v : Value} (h : CsF W (Cx.base W).I [y] [v]) : VA W (Cx.base W) [] (.c (.f y)) v := by
  obtain ⟨u, h1, h2⟩ := h.2 0 (by simp)
  have : v = u := by simpa using h1
  subst this
  exact .c _ _ h2
end
end Go.Lg
