/- From the walk of a law to its row: arguments read as data, and what a call leaves. -/
import Derived.Test.YtlpehaekjclgcaaLgQ
import Derived.ProofKit
import Derived.OpenShut
import Derived.ShutString
import Derived.ChangeOld
import Derived.SizedLaws
import Derived.ChangeSlices
import Derived.Carry
set_option linter.unusedSimpArgs false
set_option linter.unusedVariables false
namespace Go.Lg
open Go.ChangeShapes Go.WideShapes Go.ChangeAt Go.RowKit
open Go.ChangeMaps (open_string)

/-- All that is there is read only. -/
def Cx.base (W : World) : Cx := ⟨fun _ => 0, fun _ => 0, fun b => b < W.heap.size, 0⟩
theorem base_rel (W : World) : HRel W (Cx.base W) [] := ⟨fun b hb => hb, fun id b hb => by simp at hb, fun id id' b b' hb => by simp at hb⟩

theorem Reads.below {P : Program} {f : FuncId} {args : List AV} {b : Bool} (h : Reads P f args (bool b)) {W : World} {vs : Array Value} (hv : VAs W (Cx.base W) [] args vs) :
    Calls P f vs W fun e W' => e = .returned (.bool b) ∧ Below W.heap.size W W' :=
  (h W (Cx.base W) vs (base_rel W) hv).mono fun e W' ⟨v, u, X', H', h1, h2, h3, h4, h5⟩ => by
    have h5 : v = bool b := h5
    subst h5
    refine ⟨by rw [h1, va_bool h2], h4.os, h4.tape, h4.output, h4.size, fun k hk => (h4.imm k hk).2⟩

theorem vas_nil {W : World} {X : Cx} {H : Heap} : VAs W X H [] #[] := ⟨rfl, fun i hi => absurd hi (Nat.not_lt_zero _)⟩
theorem vas_one {W : World} {X : Cx} {H : Heap} {x : AV} {v : Value} (h : VA W X H x v) : VAs W X H [x] #[v] :=
  ⟨rfl, fun i hi => by
    have : i = 0 := by simpa using hi
    subst this; exact ⟨v, rfl, h⟩⟩
theorem vas_two {W : World} {X : Cx} {H : Heap} {x y : AV} {v u : Value} (h : VA W X H x v) (k : VA W X H y u) : VAs W X H [x, y] #[v, u] :=
  ⟨rfl, fun i hi => by
    match i, hi with
    | 0, _ => exact ⟨v, rfl, h⟩
    | 1, _ => exact ⟨u, rfl, k⟩⟩
theorem vas_three {W : World} {X : Cx} {H : Heap} {x y z : AV} {v u t : Value} (h : VA W X H x v) (k : VA W X H y u) (l : VA W X H z t) : VAs W X H [x, y, z] #[v, u, t] :=
  ⟨rfl, fun i hi => by
    match i, hi with
    | 0, _ => exact ⟨v, rfl, h⟩
    | 1, _ => exact ⟨u, rfl, k⟩
    | 2, _ => exact ⟨t, rfl, l⟩⟩
theorem vas_four {W : World} {X : Cx} {H : Heap} {x y z s : AV} {v u t r : Value} (h : VA W X H x v) (k : VA W X H y u) (l : VA W X H z t) (m : VA W X H s r) : VAs W X H [x, y, z, s] #[v, u, t, r] :=
  ⟨rfl, fun i hi => by
    match i, hi with
    | 0, _ => exact ⟨v, rfl, h⟩
    | 1, _ => exact ⟨u, rfl, k⟩
    | 2, _ => exact ⟨t, rfl, l⟩
    | 3, _ => exact ⟨r, rfl, m⟩⟩

theorem va_txt {W : World} {X : Cx} {H : Heap} (s : ByteArray) : VA W X H (txt s.data.toList) (.string s) := by
  have : bs s.data.toList = s := by simp [bs]
  unfold txt
  rw [this]
  exact .c _ _ (VF.str _)
theorem str_len {s : ByteArray} (h : s.size ≤ maxLen) : s.data.toList.length ≤ 9223372036854775807 := by
  have : maxLen ≤ 9223372036854775807 := by decide
  simp only [Array.length_toList]
  exact Nat.le_trans h this
section
variable {H : Type} {enc : TypeId × Value → H} {P : Program} {W : World}
theorem fl_ints (k : IntKind) (xs : List Int) : fl (eI k) xs = xs.map (.int k) := by
  induction xs with
  | nil => rfl
  | cons x xs ih => simp only [fl, List.flatMap_cons, List.map_cons] at ih ⊢; rw [ih]; rfl

theorem read_ints {b0 : Nat} {r : Reach} {t e : TypeId} {k : IntKind} {v : Value} {d : DataW H} {ps : List MemPlace} (ht : P.underlying t = some (.slice e)) (he : P.underlying e = some (.int k)) (hc : P.cellsOf e = 1)
    (hval : Value.okWide P W r b0 t v) (h : DataW.Trod enc P W 0 (fun _ => true) true t v d ps) : ∃ xs : List Int, VA W (Cx.base W) [] (rsl (eI k) xs) v ∧ xs.length ≤ 9223372036854775807 ∧ ∀ x ∈ xs, (Lit.int k x).wf = true := by
  obtain ⟨a, len, cap, rfl⟩ := okWide_slice ht hval
  obtain ⟨fuel, hf⟩ := h
  rcases open_ints ht he hc hf with ⟨hcs, _⟩ | ⟨x, l, c, zs, hcs, _, hl, hm, hz, _, hcell, hwz⟩
  · simp [Value.cells] at hcs
    obtain ⟨rfl, rfl, rfl⟩ := hcs
    exact ⟨[], .c _ _ (VF.sl0 none 0), by simp, by simp⟩
  · simp [Value.cells] at hcs
    obtain ⟨rfl, rfl, rfl⟩ := hcs
    have hz : zs.length = cap := by simpa using hz
    have hlen : (zs.take len).length = len := by simp; omega
    refine ⟨zs.take len, ?_, by rw [hlen]; have : maxLen ≤ 9223372036854775807 := by decide
                                omega, fun y hy => hwz y (List.mem_of_mem_take hy)⟩
    by_cases h0 : len = 0
    · subst h0
      exact .c _ _ (VF.sl0 _ _)
    · have hlt : 0 < zs.length := by omega
      have hsp : x.spot = none := by
        have hx := hcell 0 hlt
        simp only [World.cell?] at hx
        split at hx
        · split at hx
          · cases hx
          · rename_i hsp; simpa [Addr.add] using hsp
        · cases hx
      obtain ⟨b, o, sp⟩ := x
      simp only at hsp
      subst hsp
      have hb : b < W.heap.size := World.block_lt_of_cell? W _ (hcell 0 hlt)
      have := VF.sl (w := W) (I := (Cx.base W).I) len (fl (eI k) (zs.take len)) b o cap (fun j => .int k (zs.getD j 0)) hl hb (fun j hj => by
        rw [fl_length, hlen] at hj
        have := hcell j (by omega)
        simpa [add_plain] using this) (fun j hj => by
        rw [fl_length, hlen] at hj
        have e : (fl (eI k) (zs.take len))[j]'(by rw [fl_length, hlen]; exact hj) = .int k (zs.getD j 0) := by
          simp only [fl_ints, List.getElem_map, List.getElem_take]
          simp [List.getD, List.getElem?_eq_getElem (show j < zs.length by omega)]
        rw [e]
        exact VF.int _ _)
      exact .c _ _ (by rw [fsl, hlen]; exact this)
end
end Go.Lg
