/- GpDA, LgR, LgT3, GpCB, LgV, cut to what is needed. -/
import Derived.Test.YtapopcmgggfedaaGreatXbb5
import Derived.Test.YtapopcmgggfedaaGreatXbb2
import Derived.Test.YtapopcmgggfedaaGreatXbb1
import Derived.ProofKit
import Derived.OpenShut
import Derived.ShutString
import Derived.ChangeOld
import Derived.SizedLaws
import Derived.ChangeSlices
import Derived.Carry
import Derived.Test.YtapopcmgggfedaaGreatXbb4
open Nat renaming reduceAdd → zA, reduceMul → zM, reduceSub → zS, reduceEqDiff → zE, reduceLeDiff → zL
set_option linter.unusedSimpArgs false
set_option linter.unusedVariables false
set_option maxRecDepth 100000
namespace Go.Lg
open Go.Proofs
def prodV (vs : List Int) : Int := vs.foldl (fun a v => a * v) 1
def holdsV (r : Rul) (vs : List Int) : Bool :=
  if r.kind = 1 then decide vs.Nodup else if r.kind = 2 then decide (vs.sum = r.val) else if r.kind = 3 then decide (prodV vs = r.val)
  else if r.kind = 4 then decide (nth vs 0 < nth vs 1) else decide (max (nth vs 0 - nth vs 1) (nth vs 1 - nth vs 0) = r.val)
def orV (o : List Nat) (vs : List Int) : List Nat := o.zipWith (fun x v => x ||| 2 ^ v.toNat) vs
def ways (r : Rul) : List Nat → List Int → List Nat → List Nat
  | [], pre, o => if holdsV r pre = true then orV o pre else o
  | m :: ms, pre, o => [1, 2, 3, 4].foldl (fun o (v : Nat) => if m.testBit v = true then ways r ms (pre ++ [(v : Int)]) o else o) o
def maskAt (xs : List Int) (n : Nat) (c : Int) : Nat := if 0 < nth xs c then 2 ^ (nth xs c).toNat else 2 ^ (n + 1) - 2
def canHold (r : Rul) (xs : List Int) (n : Nat) : Bool := (ways r (r.cells.map (maskAt xs n)) [] (List.replicate r.cells.length 0)).getD 0 0 != 0
theorem canHold_congr {r : Rul} {xs ys : List Int} {n : Nat} (h : ∀ c ∈ r.cells, nth xs c = nth ys c) : canHold r xs n = canHold r ys n := by
  unfold canHold
  rw [List.map_congr_left (f := maskAt xs n) (g := maskAt ys n) fun c hc => by unfold maskAt; rw [h c hc]]
def clear (p : Puz) (xs : List Int) : Bool := decide (∀ k : Nat, k < xs.length → ¬ (0 < nth p.given k ∧ 0 < nth xs k ∧ nth xs k ≠ nth p.given k))
def fitsL (p : Puz) (xs : List Int) (n : Nat) : Bool := clear p xs && (p.rules.all (fun r => canHold r xs n) && !clash xs n)
def cellFits (p : Puz) (xs : List Int) (n i : Nat) : Bool := decide (∀ j : Nat, j < n * n → j ≠ i → (j / n = i / n ∨ j % n = i % n) → nth xs j ≠ nth xs i) && p.rules.all (fun r => !r.cells.contains (i : Int) || canHold r xs n)
theorem nc_set {n : Nat} {xs : List Int} {i v : Nat} (h : NC xs n) (hl : xs.length = n * n) (hi : i < n * n) (hv : 1 ≤ v) (h0 : nth xs i = 0) :
    NC (xs.set i v) n ↔ ∀ j : Nat, j < n * n → j ≠ i → (j / n = i / n ∨ j % n = i % n) → nth (xs.set i (v : Int)) j ≠ v := by
  have hset : ∀ k : Nat, nth (xs.set i (v : Int)) k = if k = i then (v : Int) else nth xs k := fun k => nth_setN _ _ _ _ (by rw [hl]; exact hi)
  constructor
  · intro hc j hj hne hln
    rcases Nat.lt_or_ge j i with h1 | h1
    · have := hc j i h1 hi hln
      rw [hset i, if_pos rfl] at this
      intro he
      rw [he] at this
      exact this (by omega) rfl
    · have := hc i j (by omega) hj (hln.imp Eq.symm Eq.symm)
      rw [hset i, if_pos rfl] at this
      intro he
      rw [he] at this
      exact this (by omega) rfl
  · intro hc p q hpq hq hln hp
    by_cases hpi : p = i
    · subst hpi
      rw [hset p, if_pos rfl]
      exact fun he => hc q hq (by omega) (hln.imp Eq.symm Eq.symm) he.symm
    · by_cases hqi : q = i
      · subst hqi
        rw [hset q, if_pos rfl]
        exact hc p (by omega) hpi hln
      · rw [hset p, if_neg hpi] at hp ⊢
        rw [hset q, if_neg hqi]
        exact h p q hpq hq hln hp
theorem fits_step {p : Puz} {n : Nat} (hn : n = 2 ∨ n = 3 ∨ n = 4) {xs : List Int} {i v : Nat} (h : fitsL p xs n = true) (hl : xs.length = n * n) (hx : ∀ c : Int, 0 ≤ nth xs c) (hi : i < n * n) (hv : 1 ≤ v) (h0 : nth xs i = 0) (hg : nth p.given i ≤ 0) (hcs : ∀ r ∈ p.rules, ∀ c ∈ r.cells, 0 ≤ c) :
    fitsL p (xs.set i v) n = cellFits p (xs.set i v) n i := by
  have hset : ∀ k : Nat, nth (xs.set i (v : Int)) k = if k = i then (v : Int) else nth xs k := fun k => nth_setN _ _ _ _ (by rw [hl]; exact hi)
  have hx' : ∀ c : Int, 0 ≤ nth (xs.set i (v : Int)) c := fun c => by
    rw [nth_toNat, hset]
    split
    · omega
    · exact hx _
  simp only [fitsL, Bool.and_eq_true, clear, decide_eq_true_eq, Bool.not_eq_true', List.all_eq_true] at h
  obtain ⟨h1, h2, h3⟩ := h
  have hclear : clear p (xs.set i v) = true := by
    simp only [clear, decide_eq_true_eq]
    rintro k hk ⟨a, b, c⟩
    rw [hset] at b c
    by_cases hki : k = i
    · rw [hki] at a; omega
    · rw [if_neg hki] at b c
      exact h1 k (by simpa using hk) ⟨a, b, c⟩
  have hcl : (!clash (xs.set i (v : Int)) n) = decide (∀ j : Nat, j < n * n → j ≠ i → (j / n = i / n ∨ j % n = i % n) → nth (xs.set i (v : Int)) j ≠ nth (xs.set i (v : Int)) i) := by
    rw [Bool.eq_iff_iff, Bool.not_eq_true', clash_nc hn hx', nc_set ((clash_nc hn hx).1 h3) hl hi hv h0, decide_eq_true_eq, hset i, if_pos rfl]
  have hr : p.rules.all (fun r => canHold r (xs.set i (v : Int)) n) = p.rules.all (fun r => !r.cells.contains (i : Int) || canHold r (xs.set i (v : Int)) n) := by
    rw [Bool.eq_iff_iff]
    simp only [List.all_eq_true, Bool.or_eq_true, Bool.not_eq_true']
    constructor
    · exact fun k r hr => .inr (k r hr)
    · intro k r hr
      rcases k r hr with k | k
      · rw [← h2 r hr]
        refine canHold_congr fun c hc => ?_
        have hci : c ≠ (i : Int) := fun he => by rw [he] at hc; simp at k; exact k hc
        have hc0 := hcs r hr c hc
        obtain ⟨m, rfl⟩ : ∃ m : Nat, c = m := ⟨c.toNat, by omega⟩
        rw [hset, if_neg (by omega)]
      · exact k
  unfold fitsL cellFits
  rw [hclear, hr, hcl, Bool.true_and, Bool.and_comm]
def sols (p : Puz) (n : Nat) : Nat → List Int → List (List Int)
  | 0, xs => [xs]
  | m + 1, xs => if 0 < nth xs ((xs.length - (m + 1) : Nat) : Int) then sols p n m xs else ((List.range n).map (· + 1)).flatMap fun (v : Nat) => if fitsL p (xs.set (xs.length - (m + 1)) (v : Int)) n = true then sols p n m (xs.set (xs.length - (m + 1)) (v : Int)) else []
end Go.Lg

namespace Go.Lg
open Go.ChangeShapes Go.WideShapes Go.ChangeAt Go.RowKit
open Go.ChangeMaps (open_string)
def Cx.base (W : World) : Cx := ⟨fun _ => 0, fun _ => 0, fun b => b < W.heap.size, 0⟩
theorem base_rel (W : World) (ht : TabR W (Cx.base W).I) : HRel W (Cx.base W) [] := ⟨fun b hb => hb, fun id b hb => by simp at hb, fun id id' b b' hb => by simp at hb, ht⟩
theorem Reads.below {P : Program} {f : FuncId} {args : List AV} {b : Bool} (h : Reads P f args (bool b)) {W : World} {vs : Array Value} (hv : VAs W (Cx.base W) [] args vs) (ht : TabR W (Cx.base W).I := by intro G cs h; simp [tabC] at h) :
    Calls P f vs W fun e W' => e = .returned (.bool b) ∧ Below W.heap.size W W' :=
  (h W (Cx.base W) vs (base_rel W ht) hv).mono fun e W' ⟨v, u, X', H', h1, h2, h3, h4, h5⟩ => by
    have h5 : v = bool b := h5
    subst h5
    refine ⟨by rw [h1, va_bool h2], h4.os, h4.tape, h4.output, h4.size, fun k hk => (h4.imm k hk).2⟩
theorem vas_one {W : World} {X : Cx} {H : Heap} {x : AV} {v : Value} (h : VA W X H x v) : VAs W X H [x] #[v] :=
  ⟨rfl, fun i hi => by
    have : i = 0 := by simpa using hi
    subst this; exact ⟨v, rfl, h⟩⟩
section
variable {H : Type} {enc : TypeId × Value → H} {P : Program} {W : World}
theorem fl_ints (k : IntKind) (xs : List Int) : fl (eI k) xs = xs.map (.int k) := by
  induction xs with
  | nil => rfl
  | cons x xs ih => simp only [fl, List.flatMap_cons, List.map_cons] at ih ⊢; rw [ih]; rfl
theorem read_ints {b0 : Nat} {r : Reach} {t e : TypeId} {k : IntKind} {v : Value} {d : DataW H} {ps : List MemPlace} (ht : P.underlying t = some (.slice e)) (he : P.underlying e = some (.int k)) (hc : P.cellsOf e = 1)
    (hval : Value.okWide P W r b0 t v) (h : DataW.Trod enc P W 0 (fun _ => true) true t v d ps) : ∃ xs : List Int, VA W (Cx.base W) [] (rsl (eI k) xs) v ∧ xs.length ≤ 9223372036854775807 ∧ ∀ x ∈ xs, (Lit.int k x).wf = true := by
  obtain ⟨a, len, cap, rfl⟩ := okWide_slice ht hval
  obtain ⟨fuel, hf⟩ := h
  rcases open_ints ht he hc hf with ⟨hcs, _⟩ | ⟨x, l, c, zs, hcs, _, hl, hm, hz, _, hcell, hwz⟩
  · simp [Value.cells] at hcs
    obtain ⟨rfl, rfl, rfl⟩ := hcs
    exact ⟨[], .c _ _ (VF.sl0 none 0), by simp, by simp⟩
  · simp [Value.cells] at hcs
    obtain ⟨rfl, rfl, rfl⟩ := hcs
    have hz : zs.length = cap := by simpa using hz
    have hlen : (zs.take len).length = len := by simp; omega
    refine ⟨zs.take len, ?_, by rw [hlen]; have : maxLen ≤ 9223372036854775807 := by decide
                                omega, fun y hy => hwz y (List.mem_of_mem_take hy)⟩
    by_cases h0 : len = 0
    · subst h0
      exact .c _ _ (VF.sl0 _ _)
    · have hlt : 0 < zs.length := by omega
      have hsp : x.spot = none := by
        have hx := hcell 0 hlt
        simp only [World.cell?] at hx
        split at hx
        · split at hx
          · cases hx
          · rename_i hsp; simpa [Addr.add] using hsp
        · cases hx
      obtain ⟨b, o, sp⟩ := x
      simp only at hsp
      subst hsp
      have hb : b < W.heap.size := World.block_lt_of_cell? W _ (hcell 0 hlt)
      have := VF.sl (w := W) (I := (Cx.base W).I) len (fl (eI k) (zs.take len)) b o cap (fun j => .int k (zs.getD j 0)) hl hb (fun j hj => by
        rw [fl_length, hlen] at hj
        have := hcell j (by omega)
        simpa [add_plain] using this) (fun j hj => by
        rw [fl_length, hlen] at hj
        have e : (fl (eI k) (zs.take len))[j]'(by rw [fl_length, hlen]; exact hj) = .int k (zs.getD j 0) := by
          simp only [fl_ints, List.getElem_map, List.getElem_take]
          simp [List.getD, List.getElem?_eq_getElem (show j < zs.length by omega)]
        rw [e]
        exact VF.int _ _)
      exact .c _ _ (by rw [fsl, hlen]; exact this)
end
end Go.Lg

namespace Go.Lg
open Go.Proofs
theorem gridValid_bound {xs : List Int} {n : Int} (h : gridValid xs n = true) : 2 ≤ n ∧ n ≤ 4 ∧ (xs.length : Int) = n * n ∧ xs.length ≤ 16 ∧ ∀ j : Nat, j < xs.length → 0 ≤ nth xs j ∧ nth xs j ≤ n := by
  simp only [gridValid, decide_eq_true_eq] at h
  refine ⟨h.1, h.2.1, h.2.2.1, ?_, h.2.2.2⟩
  have : n = 2 ∨ n = 3 ∨ n = 4 := by omega
  rcases this with rfl | rfl | rfl <;> omega
theorem l1In_run (v a b : Int) : Reads Tryz.prog 25 [int v, int a, int b] (bool (decide (a ≤ v ∧ v ≤ b))) := by
  refine RunCall.cw (c := _) Tryz.func25 rfl (n := 15) Tryz.ntmps25 (rs := [.tmp 6]) rfl ?_
  simp only[List.length_cons,List.length_nil,zA,zS,List.replicate,List.cons_append,List.nil_append]
  simp(maxSteps:=999999)(disch:=omega)only[go_sem,zA,zM,zS,zE,zL]
  refine guardK_split (fun h => ?_) (fun h => ?_) <;> simp(maxSteps:=999999)(disch:=omega)only[go_sem,zA,zM,zS,zE,zL, h] <;> simp at h <;> simp [h]
  omega
theorem sGridValid_run (xs : List Int) (n : Int) (hx : xs.length ≤ 2 ^ 40) : Reads Tryz.prog 50 [ints xs, int n] (bool (gridValid xs n)) := by
  refine RunCall.cw (c := _) Tryz.func50 rfl (n := 29) Tryz.ntmps50 (rs := [.tmp 4]) rfl ?_
  simp only[List.length_cons,List.length_nil,zA,zS,List.replicate,List.cons_append,List.nil_append]
  simp(maxSteps:=999999)(disch:=omega)only[go_sem,zA,zM,zS,zE,zL]
  refine loop_rule (fun i : Nat => xs.length - i) (fun i => i ≤ xs.length ∧ ∀ j : Nat, j < i → 0 ≤ nth xs j ∧ nth xs j ≤ n) (fun i => [.k, .k, .a, .a, .a, .p (int i), .a, .a, .a, .a, .a, .a, .a, .a, .a, .a, .a, .a, .a, .a, .a, .a, .a, .a, .a, .a, .a, .a, .a]) (fun i => []) 0
    ⟨Nat.zero_le _, fun j hj => absurd hj (Nat.not_lt_zero _)⟩ (by simp(maxSteps:=999999)(disch:=omega)only[go_sem,zA,zM,zS,zE,zL]; rfl) (hle_nil _) ?_
  rintro i ⟨hi, hall⟩
  simp(maxSteps:=999999)(disch:=omega)only[go_sem,zA,zM,zS,zE,zL]
  refine condK_split (fun h => ?_) (fun h => ?_)
  · have h : i < xs.length := by simpa using h
    simp(maxSteps:=999999)(disch:=omega)only[go_sem,zA,zM,zS,zE,zL]
    refine OpS.rd (l1In_run _ _ _) (⟨_, Tryz.func25, rfl, rfl⟩ : Enters Tryz.prog 25) rfl rfl rfl rfl ?_
    simp(maxSteps:=999999)(disch:=omega)only[go_sem,zA,zM,zS,zE,zL]
    refine condK_split (fun h2 => ?_) (fun h2 => ?_) <;> simp(maxSteps:=999999)(disch:=omega)only[go_sem,zA,zM,zS,zE,zL]
    · simp at h2
      symm; simp [gridValid]; intro _ _ _; exact ⟨i, h, fun h => by omega⟩
    simp at h2
    refine ⟨i + 1, ⟨⟨h, fun j hj => ?_⟩, by omega⟩, by omega, hle_nil _⟩
    rcases Nat.lt_succ_iff_lt_or_eq.1 hj with h | rfl
    · exact hall j h
    · exact h2
  have h : ¬ i < xs.length := by simpa using h
  simp(maxSteps:=999999)(disch:=omega)only[go_sem,zA,zM,zS,zE,zL]
  refine OpS.rd (l1In_run _ _ _) (⟨_, Tryz.func25, rfl, rfl⟩ : Enters Tryz.prog 25) rfl rfl rfl rfl ?_
  simp(maxSteps:=999999)(disch:=omega)only[go_sem,zA,zM,zS,zE,zL]
  refine guardK_split (fun h2 => ?_) (fun h2 => ?_) <;> simp(maxSteps:=999999)(disch:=omega)only[go_sem,zA,zM,zS,zE,zL, h2]
  · have h2 : 2 ≤ n ∧ n ≤ 4 := by simpa using h2
    have hw : 4 ≤ n * n ∧ n * n ≤ 16 := by
      have : n = 2 ∨ n = 3 ∨ n = 4 := by omega
      rcases this with rfl | rfl | rfl <;> decide
    simp(maxSteps:=999999)(disch:=omega)only[go_sem,zA,zM,zS,zE,zL]
    simp only [gridValid, h2, true_and, decide_eq_decide]
    exact ⟨fun h3 => ⟨h3, fun j hj => hall j (by omega)⟩, fun h3 => h3.1⟩
  · simp at h2
    symm; simp [gridValid]; omega
end Go.Lg

namespace Go.Lg
open Go.Proofs
theorem lineC_length (n line : Nat) : (lineC n line).length = n := by simp [lineC]
theorem lineC_nth {n line k : Nat} (h : k < n) : nth (lineC n line) k = if line < n then ((line * n + k : Nat) : Int) else ((k * n + line - n : Nat) : Int) := by
  rw [nth_eq (by rw [lineC_length]; omega)]
  simp [lineC]
theorem lineC_bound {n line k : Nat} (hn : n = 2 ∨ n = 3 ∨ n = 4) (hl : line < 2 * n) (h : k < n) : 0 ≤ nth (lineC n line) k ∧ nth (lineC n line) k < (n * n : Nat) := by
  rw [lineC_nth h]
  split <;> rcases hn with rfl | rfl | rfl <;> omega
theorem LineCells_own {n line : Nat} (hn : n = 2 ∨ n = 3 ∨ n = 4) (hl : line < 2 * n) : RunCall Tryz.prog 98 [int n, int line] [] (ownQ (eI .i64) 1 (lineC n line)) := by
  have hb : (line : Int) * n ≤ 28 ∧ 0 ≤ (line : Int) * n := by rcases hn with rfl | rfl | rfl <;> omega
  have hn4 : 2 ≤ n ∧ n ≤ 4 := by omega
  have hlen := lineC_length n line
  refine RunCall.cw (c := _) Tryz.func98 rfl (n := 46) Tryz.ntmps98 (rs := [.tmp 4]) rfl ?_
  simp only[List.length_cons,List.length_nil,zA,zS,List.replicate,List.cons_append,List.nil_append]
  simp(maxSteps:=999999)(disch:=omega)only[go_sem,zA,zM,zS,zE,zL]
  intro g
  refine loop_rule2 (fun (k g : Nat) => n - k) (fun k g => k ≤ n) (fun k g => [.k, .k, .a, .a, .a, .p (.c (.own 0 g 0 k none)), .p (int k), .a, .a, .a, .a, .a, .a, .a, .a, .a, .a, .a, .a, .a, .a, .a, .a, .a, .a, .a, .a, .a, .a, .a, .a, .a, .a, .a, .a, .a, .a, .a, .a, .a, .a, .a, .a, .a, .a, .a]) (fun k g => [some ⟨g, 1, cl (eI .i64) ((lineC n line).take k)⟩]) 0 g
    (Nat.zero_le _) (by simp(maxSteps:=999999)(disch:=omega)only[go_sem,zA,zM,zS,zE,zL]; rfl) (HLe.refl _) ?_
  intro k g hk
  simp(maxSteps:=999999)(disch:=omega)only[go_sem,zA,zM,zS,zE,zL]
  ((with_reducible first|refine guardK_dec ?_ ?_|refine guardK_ndec ?_ ?_|refine guardK_nb ?_ ?_|refine guardK_split ?_ ?_|refine guardQ_dec ?_ ?_|refine guardL_dec ?_ ?_|refine guardQ_ndec ?_ ?_|refine guardL_ndec ?_ ?_|refine guardQ_nb ?_ ?_|refine guardL_nb ?_ ?_|refine guardQ_split ?_ ?_|refine guardL_split ?_ ?_) <;> intro h1 <;> simp(maxSteps:=999999)(disch:=omega)only[go_sem,zA,zM,zS,zE,zL, h1])
  · first | refine OpS.rd (l1In_run _ _ _) (⟨_, Tryz.func25, rfl, rfl⟩ : Enters Tryz.prog 25) rfl rfl rfl rfl ?_ | refine Loud.rd (l1In_run _ _ _) (⟨_, Tryz.func25, rfl, rfl⟩ : Enters Tryz.prog 25) rfl rfl rfl rfl ?_
    simp(maxSteps:=999999)(disch:=omega)only[go_sem,zA,zM,zS,zE,zL]
    ((with_reducible first|refine guardK_dec ?_ ?_|refine guardK_ndec ?_ ?_|refine guardK_nb ?_ ?_|refine guardK_split ?_ ?_|refine guardQ_dec ?_ ?_|refine guardL_dec ?_ ?_|refine guardQ_ndec ?_ ?_|refine guardL_ndec ?_ ?_|refine guardQ_nb ?_ ?_|refine guardL_nb ?_ ?_|refine guardQ_split ?_ ?_|refine guardL_split ?_ ?_) <;> intro h2 <;> simp(maxSteps:=999999)(disch:=omega)only[go_sem,zA,zM,zS,zE,zL, h2])
    rotate_left
    · exfalso; omega
    first | refine OpS.rd (l1In_run _ _ _) (⟨_, Tryz.func25, rfl, rfl⟩ : Enters Tryz.prog 25) rfl rfl rfl rfl ?_ | refine Loud.rd (l1In_run _ _ _) (⟨_, Tryz.func25, rfl, rfl⟩ : Enters Tryz.prog 25) rfl rfl rfl rfl ?_
    simp(maxSteps:=999999)(disch:=omega)only[go_sem,zA,zM,zS,zE,zL]
    have h1 : k < n := by omega
    have hkb : (k : Int) * n ≤ 16 ∧ 0 ≤ (k : Int) * n := by rcases hn with rfl | rfl | rfl <;> omega
    have hne := lineC_nth (line := line) h1
    ((first|(with_reducible first|refine condK_dec ?_ ?_|refine condK_ndec ?_ ?_|refine condK_nb ?_ ?_)|refine condK_b ?_ ?_) <;> intro h3)
    · simp(maxSteps:=999999)(disch:=omega)only[go_sem,zA,zM,zS,zE,zL]
      ((first|(with_reducible first|refine condK_dec ?_ ?_|refine condK_ndec ?_ ?_|refine condK_nb ?_ ?_)|refine condK_b ?_ ?_) <;> intro h4)
      · simp(maxSteps:=999999)(disch:=omega)only[go_sem,zA,zM,zS,zE,zL]
        intro g1 g2
        refine ⟨k + 1, g2, ⟨by omega, by omega⟩, ⟨⟨rfl, rfl⟩, by push_cast; omega⟩, hle_eq ?_ (hle_nil _)⟩
        rw [take_succ_nth (by omega), hne, if_pos (by omega)]
        push_cast
        rfl
      · simp(maxSteps:=999999)(disch:=omega)only[go_sem,zA,zM,zS,zE,zL]
        intro g1 g2
        refine ⟨k + 1, g2, ⟨by omega, by omega⟩, ⟨⟨rfl, rfl⟩, by push_cast; omega⟩, hle_eq ?_ (hle_nil _)⟩
        rw [take_succ_nth (by omega), hne, if_neg (by omega)]
        have : ((k * n + line - n : Nat) : Int) = (k : Int) * n + line - n := by
          have : n ≤ k * n + line := by omega
          omega
        rw [this]
    · exfalso; omega
  · have hi' : k = n := by omega
    subst hi'
    rw [List.take_of_length_le (by omega)]
    have := lessQ_own (E := eI .i64) (n := 1) (g := g) (xs := lineC k line) (HLe.refl [some ⟨g, 1, cl (eI .i64) (lineC k line)⟩])
    rw [hlen] at this
    exact this
theorem LineCells_run {n line : Nat} (hn : n = 2 ∨ n = 3 ∨ n = 4) (hl : line < 2 * n) : Reads Tryz.prog 98 [int n, int line] (ints (lineC n line)) := Reads.own (LineCells_own hn hl)
theorem shl_small {v : Int} (h : 0 ≤ v ∧ v ≤ 4) : binI .shl .i64 1 .i64 v = some (.int .i64 ((2 ^ v.toNat : Nat) : Int)) := by
  obtain ⟨k, rfl⟩ : ∃ k : Nat, v = k := ⟨v.toNat, by omega⟩
  have hk : k = 0 ∨ k = 1 ∨ k = 2 ∨ k = 3 ∨ k = 4 := by omega
  rcases hk with rfl | rfl | rfl | rfl | rfl <;> rfl
theorem shr_small {s : Nat} {v : Int} (h : 0 ≤ v ∧ v ≤ 4) : binI .shr .i64 (s : Int) .i64 v = some (.int .i64 ((s >>> v.toNat : Nat) : Int)) := by
  obtain ⟨k, rfl⟩ : ∃ k : Nat, v = k := ⟨v.toNat, by omega⟩
  simp only [binI]
  rw [if_neg (by omega)]
  have hb : min (k : Int).toNat IntKind.i64.bits = k := by
    rw [Int.toNat_natCast]
    have : IntKind.i64.bits = 64 := rfl
    omega
  rw [hb, Int.toNat_natCast, Nat.shiftRight_eq_div_pow]
  have e : ((s : Int)).fdiv (2 ^ k) = ((s / 2 ^ k : Nat) : Int) := by
    rw [Int.fdiv_eq_ediv_of_nonneg _ (by have : (0 : Int) < 2 ^ k := Int.pow_pos (by omega); omega)]
    push_cast
    rfl
  rw [e]
theorem or_small {a b : Nat} (ha : a < 2 ^ 62) (hb : b < 2 ^ 62) : bitsI .or .i64 (a : Int) (b : Int) = ((a ||| b : Nat) : Int) := by
  have hz : a ||| b < 2 ^ 62 := Nat.or_lt_two_pow ha hb
  have e : (BitVec.ofInt 64 (a : Int) ||| BitVec.ofInt 64 (b : Int)).toNat = a ||| b := by
    simp only [BitVec.toNat_or, BitVec.ofInt_natCast, BitVec.toNat_ofNat]
    rw [Nat.mod_eq_of_lt (by omega), Nat.mod_eq_of_lt (by omega)]
  unfold bitsI
  show IntKind.wrap .i64 ((BitVec.ofInt 64 (a : Int) ||| BitVec.ofInt 64 (b : Int)).toNat : Int) = _
  rw [e]
  exact ok_i64 (by omega)
theorem bit_mod {s k : Nat} : decide ((((s >>> k : Nat) : Int)).tmod 2 = 1) = s.testBit k := by
  rw [Nat.testBit_eq_decide_div_mod_eq, Nat.shiftRight_eq_div_pow]
  generalize s / 2 ^ k = m
  rw [tmod_nn (by omega), decide_eq_decide]
  omega
theorem clashC_cons (xs : List Int) (c : Int) (cs : List Int) (seen : Nat) : clashC xs (c :: cs) seen = if (decide (0 < nth xs c) && seen.testBit (nth xs c).toNat) = true then true else clashC xs cs (seen ||| 2 ^ (nth xs c).toNat) := rfl
theorem l2Clash_run {n : Nat} (hn : n = 2 ∨ n = 3 ∨ n = 4) (xs : List Int) (hl : xs.length = n * n) (hv : ∀ k : Nat, k < xs.length → 0 ≤ nth xs k ∧ nth xs k ≤ 4) : Reads Tryz.prog 93 [ints xs, int n] (bool (clash xs n)) := by
  have hn4 : 2 ≤ n ∧ n ≤ 4 := by omega
  refine RunCall.cw (c := _) Tryz.func93 rfl (n := 45) Tryz.ntmps93 (rs := [.tmp 4]) rfl ?_
  simp only[List.length_cons,List.length_nil,zA,zS,List.replicate,List.cons_append,List.nil_append]
  simp(maxSteps:=999999)(disch:=omega)only[go_sem,zA,zM,zS,zE,zL]
  refine loop_rule (fun i : Nat => 2 * n - i) (fun i => i ≤ 2 * n ∧ ∀ j, j < i → clashC xs (lineC n j) 0 = false) (fun i => [.k, .k, .a, .a, .a, .p (int i), .a, .a, .a, .a, .a, .a, .a, .a, .a, .a, .a, .a, .a, .a, .a, .a, .a, .a, .a, .a, .a, .a, .a, .a, .a, .a, .a, .a, .a, .a, .a, .a, .a, .a, .a, .a, .a, .a, .a]) (fun _ => []) 0 ⟨Nat.zero_le _, fun j hj => absurd hj (Nat.not_lt_zero _)⟩ (by simp(maxSteps:=999999)(disch:=omega)only[go_sem,zA,zM,zS,zE,zL]; rfl) (hle_nil _) ?_
  rintro i ⟨hi, hno⟩
  simp(maxSteps:=999999)(disch:=omega)only[go_sem,zA,zM,zS,zE,zL]
  ((first|(with_reducible first|refine condK_dec ?_ ?_|refine condK_ndec ?_ ?_|refine condK_nb ?_ ?_)|refine condK_b ?_ ?_) <;> intro h1)
  · have h1 : i < 2 * n := by omega
    simp(maxSteps:=999999)(disch:=omega)only[go_sem,zA,zM,zS,zE,zL]
    first | refine OpS.mk (LineCells_run hn h1) (⟨_, Tryz.func98, rfl, rfl⟩ : Enters Tryz.prog 98) rfl rfl rfl rfl rfl ?_ | refine Loud.mk (LineCells_run hn h1) (⟨_, Tryz.func98, rfl, rfl⟩ : Enters Tryz.prog 98) rfl rfl rfl rfl rfl ?_
    simp(maxSteps:=999999)(disch:=omega)only[go_sem,zA,zM,zS,zE,zL]
    have hlen := lineC_length n i
    refine loop_rule2 (fun (k seen : Nat) => n - k) (fun k seen => k ≤ n ∧ clashC xs (lineC n i) 0 = clashC xs ((lineC n i).drop k) seen ∧ seen < 32) (fun k seen => [.k, .k, .a, .a, .a, .k, .k, .p (int seen), .p (int k), .a, .a, .a, .a, .a, .a, .a, .a, .a, .a, .a, .a, .a, .a, .a, .a, .a, .a, .a, .a, .a, .a, .a, .a, .a, .a, .a, .a, .a, .a, .a, .a, .a, .a, .a, .a]) (fun _ _ => []) 0 0 ⟨Nat.zero_le _, rfl, by omega⟩ (by simp(maxSteps:=999999)(disch:=omega)only[go_sem,zA,zM,zS,zE,zL]; rfl) (hle_nil _) ?_
    rintro k seen ⟨hk, hc, hs⟩
    simp(maxSteps:=999999)(disch:=omega)only[go_sem,zA,zM,zS,zE,zL]
    ((first|(with_reducible first|refine condK_dec ?_ ?_|refine condK_ndec ?_ ?_|refine condK_nb ?_ ?_)|refine condK_b ?_ ?_) <;> intro h2)
    · have h2 : k < n := by omega
      obtain ⟨hb0, hb1⟩ := lineC_bound hn h1 h2
      obtain ⟨c, hcc⟩ : ∃ c : Nat, nth (lineC n i) k = c := ⟨(nth (lineC n i) k).toNat, by omega⟩
      have hcl : c < xs.length := by omega
      have hvc := hv c hcl
      have hd : (lineC n i).drop k = (c : Int) :: (lineC n i).drop (k + 1) := by
        rw [List.drop_eq_getElem_cons (by omega), ← hcc, nth_eq (by omega)]
        simp
      rw [hd, clashC_cons] at hc
      have hor : seen ||| 2 ^ (nth xs c).toNat < 32 := by
        refine Nat.or_lt_two_pow (n := 5) (by omega) ?_
        have : (nth xs c).toNat = 0 ∨ (nth xs c).toNat = 1 ∨ (nth xs c).toNat = 2 ∨ (nth xs c).toNat = 3 ∨ (nth xs c).toNat = 4 := by omega
        rcases this with h | h | h | h | h <;> rw [h] <;> omega
      have hpw : 2 ^ (nth xs c).toNat < 2 ^ 62 := Nat.pow_lt_pow_right (by omega) (by omega)
      simp(maxSteps:=999999)(disch:=omega)only[go_sem,zA,zM,zS,zE,zL, hcc]
      ((with_reducible first|refine guardK_dec ?_ ?_|refine guardK_ndec ?_ ?_|refine guardK_nb ?_ ?_|refine guardK_split ?_ ?_|refine guardQ_dec ?_ ?_|refine guardL_dec ?_ ?_|refine guardQ_ndec ?_ ?_|refine guardL_ndec ?_ ?_|refine guardQ_nb ?_ ?_|refine guardL_nb ?_ ?_|refine guardQ_split ?_ ?_|refine guardL_split ?_ ?_) <;> intro h3 <;> simp(maxSteps:=999999)(disch:=omega)only[go_sem,zA,zM,zS,zE,zL, h3])
      · simp(maxSteps:=999999)(disch:=omega)only[go_sem,zA,zM,zS,zE,zL, shr_small hvc, bit_mod]
        ((first|(with_reducible first|refine condK_dec ?_ ?_|refine condK_ndec ?_ ?_|refine condK_nb ?_ ?_)|refine condK_b ?_ ?_) <;> intro h4)
        · simp(maxSteps:=999999)(disch:=omega)only[go_sem,zA,zM,zS,zE,zL]
          have hcl : clashC xs (lineC n i) 0 = true := by rw [hc, if_pos (by simp [h3, h4])]
          unfold clash
          rw [eq_comm, List.any_eq_true]
          exact ⟨i, List.mem_range.2 h1, hcl⟩
        · simp(maxSteps:=999999)(disch:=omega)only[go_sem,zA,zM,zS,zE,zL, shl_small hvc, or_small (show seen < 2 ^ 62 by omega) hpw]
          exact ⟨k + 1, _, ⟨⟨by omega, by rw [hc, if_neg (by simp [h4])], hor⟩, by omega⟩, ⟨rfl, by push_cast; omega⟩, hle_nil _⟩
      · simp(maxSteps:=999999)(disch:=omega)only[go_sem,zA,zM,zS,zE,zL, shl_small hvc, or_small (show seen < 2 ^ 62 by omega) hpw]
        exact ⟨k + 1, _, ⟨⟨by omega, by rw [hc, if_neg (by simp; omega)], hor⟩, by omega⟩, ⟨rfl, by push_cast; omega⟩, hle_nil _⟩
    · have hkn : k = n := by omega
      have hc' : clashC xs (lineC n i) 0 = false := by rw [hc, hkn, List.drop_of_length_le (by omega)]; rfl
      simp(maxSteps:=999999)(disch:=omega)only[go_sem,zA,zM,zS,zE,zL]
      refine ⟨i + 1, ⟨⟨by omega, fun j hj => ?_⟩, by omega⟩, by push_cast; omega, hle_nil _⟩
      by_cases hji : j = i
      · rw [hji]; exact hc'
      · exact hno j (by omega)
  · simp(maxSteps:=999999)(disch:=omega)only[go_sem,zA,zM,zS,zE,zL]
    unfold clash
    rw [eq_comm, List.any_eq_false]
    intro j hj
    rw [hno j (by have := List.mem_range.1 hj; omega)]
    simp
end Go.Lg

namespace Go.Lg
open Go.ChangeShapes Go.WideShapes Go.ChangeAt Go.RowKit
def CsF (w : World) (I : Nat → Prop) (ys : List FV) (cs : List Value) : Prop :=
  ys.length = cs.length ∧ ∀ j (h : j < ys.length), ∃ u, cs[j]? = some u ∧ VF w I ys[j] u
section
variable {w : World} {I : Nat → Prop}
theorem CsF.nil : CsF w I [] [] := ⟨rfl, fun j h => absurd h (Nat.not_lt_zero _)⟩
theorem CsF.one {y : FV} {v : Value} (h : VF w I y v) : CsF w I [y] [v] := ⟨rfl, fun j hj => by
  have : j = 0 := by simpa using hj
  subst this; exact ⟨v, rfl, h⟩⟩
theorem CsF.app {ys ys' : List FV} {cs cs' : List Value} (h : CsF w I ys cs) (h' : CsF w I ys' cs') : CsF w I (ys ++ ys') (cs ++ cs') := by
  refine ⟨by simp [h.1, h'.1], fun j hj => ?_⟩
  by_cases hl : j < ys.length
  · obtain ⟨u, h1, h2⟩ := h.2 j hl
    refine ⟨u, by rw [List.getElem?_append_left (by rw [← h.1]; exact hl)]; exact h1, ?_⟩
    rw [List.getElem_append_left hl]; exact h2
  · have hj' : j - ys.length < ys'.length := by simp at hj; omega
    obtain ⟨u, h1, h2⟩ := h'.2 _ hj'
    refine ⟨u, by rw [List.getElem?_append_right (by rw [← h.1]; omega), ← h.1]; exact h1, ?_⟩
    rw [List.getElem_append_right (by omega)]; exact h2
end
section
variable {H : Type} {enc : TypeId × Value → H} {P : Program} {W : World}
theorem CsF.agg {ys : List FV} {cs : Array Value} (h : CsF W (Cx.base W).I ys cs.toList) : VA W (Cx.base W) [] (.agg (ys.map .f)) (.agg cs) := by
  refine .agg _ _ (by simpa using h.1.symm) fun j hj => ?_
  have hj' : j < ys.length := by simpa using hj
  obtain ⟨u, h1, h2⟩ := h.2 j hj'
  refine ⟨u, by simpa using h1, ?_⟩
  rw [List.getElem_map]; exact h2
theorem CsF.val {y : FV} {v : Value} (h : CsF W (Cx.base W).I [y] [v]) : VA W (Cx.base W) [] (.c (.f y)) v := by
  obtain ⟨u, h1, h2⟩ := h.2 0 (by simp)
  have : v = u := by simpa using h1
  subst this
  exact .c _ _ h2
end
end Go.Lg
