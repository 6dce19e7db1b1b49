/- GpCD, GpCE, GpGA, GpDA, LgV, LgW, cut to what is needed. -/
import Derived.Test.YtabihehfemedcaaQcb5
import Derived.Test.YtabihehfemedcaaQcb4
import Derived.Test.YtabihehfemedcaaQcb2
set_option linter.unusedSimpArgs false
set_option linter.unusedVariables false
set_option maxRecDepth 100000
namespace Go.Lg
open Go.Proofs
attribute [-go_sem] appendM lenO
theorem sliceOf_of' {P : Program} {t e : TypeId} {ti ei : TI} (ht : tinf P t = some ti) (hk : ti.k = .slice e) (he : tinf P e = some ei) : sliceOf P t = some ei := by
  unfold sliceOf; simp only [ht, hk, he]
theorem appendM_copy {P : Program} {HI : Heap} {t : TypeId} {ei : TI} {K : KV} (ht : sliceOf P t = some ei) (hz : ei.zero.length = ei.size ∧ ei.size = 1 ∧ ei.bytes = 8) {xs ys : List Int} (hx : 0 < xs.length ∧ xs.length ≤ 2 ^ 40) {id g g0 : Nat} {lim : Option Nat}
    (hl : look HI id g = some ⟨g, 1, cl (eI .i64) (xs ++ ys)⟩) (hk : ∀ g', K (.c (.own HI.length g' 0 xs.length none)) (HI ++ [some ⟨g', 1, cl (eI .i64) xs⟩])) :
    appendM P (HI ++ [some ⟨g0, 1, []⟩]) t (.c (.own HI.length g0 0 0 none)) (.c (.own id g 0 xs.length lim)) K := by
  obtain ⟨hz1, hz2, hz3⟩ := hz
  have hid : id < HI.length := (List.getElem?_eq_some_iff.1 (look_some hl).1).1
  have hl' : look (HI ++ [some ⟨g0, 1, []⟩]) id g = some ⟨g, 1, cl (eI .i64) (xs ++ ys)⟩ := by rw [look_app_lt hid]; exact hl
  have et : ((cl (eI .i64) (xs ++ ys)).drop 0).take (xs.length * 1) = cl (eI .i64) xs := by
    rw [List.drop_zero, cl_append, List.take_append_of_le_length (by rw [cl_length]; exact Nat.le_refl _), List.take_of_length_le (by rw [cl_length]; exact Nat.le_refl _)]
  unfold appendM
  simp only [ht, hz1, hz2, if_true, elems, look_last, hl', et, appM]
  rw [if_neg (by omega)]
  simp only [List.length_nil, Nat.zero_mul, if_true, okP, Nat.zero_add, List.nil_append, set_last]
  exact ⟨⟨trivial, by omega, trivial, by omega, by rw [hz3]; omega⟩, hk⟩
theorem OwnI.inv' {H : Heap} {c : CV} {xs : List Int} {S : List Nat} (h : OwnI H c xs S) (hn : 0 < xs.length) : ∃ id g lim ys, c = .own id g 0 xs.length lim ∧ S = [id] ∧ look H id g = some ⟨g, 1, cl (eI .i64) (xs ++ ys)⟩ := by
  cases h with
  | e => simp at hn
  | o id g lim xs ys h => exact ⟨id, g, lim, ys, rfl, rfl, h⟩
theorem vals_drop {n v : Nat} (h : 1 ≤ v ∧ v ≤ n) : ((List.range n).map (· + 1)).drop (v - 1) = v :: ((List.range n).map (· + 1)).drop v := by
  rw [List.drop_eq_getElem_cons (by simp; omega)]
  simp only [List.getElem_map, List.getElem_range]
  rw [show v - 1 + 1 = v by omega]
end Go.Lg

set_option linter.unusedSimpArgs false
set_option linter.unusedVariables false
set_option maxRecDepth 100000
namespace Go.Lg
open Go.Proofs
section
variable {P : Program} {o : Oper} {st : St} {K : KV} {fo : Operand} {xs : Array Operand} {ts : Array TypeId} {f : FuncId} {args args' : List AV} {zs : List Int}
end
def GrdAt (H HI : Heap) (id g : Nat) (B : Int) (cid cg n2 : Nat) : Prop := (∃ zs : List Int, look HI cid cg = some ⟨cg, 1, cl (eI .i64) zs⟩ ∧ n2 ≤ zs.length) ∧ RdAt HI id g B ∧ id < H.length ∧ H.length ≤ cid ∧ H.length ≤ HI.length ∧ ∀ k, k < H.length → k ≠ id → HI[k]? = H[k]?
theorem GrdAt.mono {H HI : Heap} {id g cid cg n2 : Nat} {B B' : Int} (h : GrdAt H HI id g B cid cg n2) (hb : B ≤ B') : GrdAt H HI id g B' cid cg n2 := by
  obtain ⟨h1, h2, h3⟩ := h
  exact ⟨h1, h2.mono hb, h3⟩
theorem GrdAt.pick {H HI H2 : Heap} {id g cid cg n2 : Nat} {B B' : Int} (h : GrdAt H HI id g B cid cg n2) (hr : RdAt H2 id g B') (hf : Frm HI H2 [id]) : GrdAt H H2 id g B' cid cg n2 := by
  obtain ⟨⟨zs, h1, h2⟩, _, h3, h4, h5, h6⟩ := h
  refine ⟨⟨zs, by rw [hf.look (by simp; omega)]; exact h1, h2⟩, hr, h3, h4, by rw [hf.1]; exact h5, fun k hk hne => ?_⟩
  rw [hf.2 k (by simp; exact hne), h6 k hk hne]
theorem GrdAt.store {H HI : Heap} {id g cid cg n2 : Nat} {B : Int} (h : GrdAt H HI id g B cid cg n2) {zs : List Int} (hz : n2 ≤ zs.length) : GrdAt H (HI.set cid (some ⟨cg, 1, cl (eI .i64) zs⟩)) id g B cid cg n2 := by
  obtain ⟨⟨_, h1, _⟩, h2, h3, h4, h5, h6⟩ := h
  have hlt : cid < HI.length := (List.getElem?_eq_some_iff.1 (look_some h1).1).1
  refine ⟨⟨zs, look_set_eq' hlt, hz⟩, h2.same (by rw [List.getElem?_set_ne (by omega)]), h3, h4, by simpa using h5, fun k hk hne => ?_⟩
  rw [List.getElem?_set_ne (by omega), h6 k hk hne]
theorem GrdAt.app {H HI X : Heap} {id g cid cg n2 : Nat} {B : Int} (h : GrdAt H HI id g B cid cg n2) : GrdAt H (HI ++ X) id g B cid cg n2 := by
  obtain ⟨⟨zs, h1, h2⟩, h3, h4, h5, h6, h7⟩ := h
  refine ⟨⟨zs, look_appL h1, h2⟩, h3.app, h4, h5, by rw [List.length_append]; omega, fun k hk hne => ?_⟩
  rw [List.getElem?_append_left (by omega), h7 k hk hne]
theorem frz_view {H : Heap} {id g off n : Nat} {lim : Option Nat} {zs : List Int} (h : look H id g = some ⟨g, 1, cl (eI .i64) zs⟩) (hn : off + n ≤ zs.length) : frzC H (.own id g off n lim) = some (.f (fints ((zs.drop off).take n))) := by
  have e : ((cl (eI .i64) zs).drop off).take (n * 1) = cl (eI .i64) ((zs.drop off).take n) := by
    have e1 : (cl (eI .i64) zs).drop off = cl (eI .i64) (zs.drop off) := by
      have := List.take_append_drop off zs
      conv => lhs; rw [← this, cl_append]
      rw [List.drop_append_of_le_length (by rw [cl_length]; simp; omega), List.drop_of_length_le (by rw [cl_length]; simp; omega), List.nil_append]
    rw [e1, Nat.mul_one]
    have := List.take_append_drop n (zs.drop off)
    conv => lhs; rw [← this, cl_append]
    rw [List.take_append_of_le_length (by rw [cl_length]; simp; omega), List.take_of_length_le (by rw [cl_length]; simp; omega)]
  have hl : ((zs.drop off).take n).length = n := by simp; omega
  simp only [frzC, frz, h, e, frz_cl, Option.map_some]
  rw [show fints ((zs.drop off).take n) = .sl ((zs.drop off).take n).length (fl (eI .i64) ((zs.drop off).take n)) from rfl, hl]
end Go.Lg

set_option linter.unusedSimpArgs false
set_option linter.unusedVariables false
set_option maxRecDepth 100000
namespace Go.Lg
open Go.Proofs
attribute [-go_sem] appendM
inductive OwnL {α : Type} (E : α → List FV) (n : Nat) (H : Heap) : CV → List α → Prop where
  | n : OwnL E n H (.f .nil) []
  | m : OwnL E n H .emp []
  | o (id g : Nat) (xs : List α) (h : look H id g = some ⟨g, n, cl E xs⟩) : OwnL E n H (.own id g 0 xs.length none) xs
def idsC : CV → Nat → Prop
  | .own id _ _ _ _, k => k = id
  | _, _ => False
section
variable {α : Type} {E : α → List FV} {n : Nat} {H H' : Heap} {c : CV} {xs ys : List α}
theorem OwnL.same (h : OwnL E n H c xs) (hs : ∀ i, idsC c i → i < H.length → H'[i]? = H[i]?) : OwnL E n H' c xs := by
  cases h with
  | n => exact .n
  | m => exact .m
  | o id g xs h => exact .o id g xs (by unfold look at *; rw [hs id rfl (List.getElem?_eq_some_iff.1 (look_some h).1).1]; exact h)
theorem OwnL.lt (h : OwnL E n H c xs) : ∀ i, idsC c i → i < H.length := by
  cases h with
  | n => exact fun i hi => hi.elim
  | m => exact fun i hi => hi.elim
  | o id g xs h => intro i hi; cases hi; exact (List.getElem?_eq_some_iff.1 (look_some h).1).1
theorem OwnL.app (h : OwnL E n H c xs) : OwnL E n (H ++ H') c xs := h.same fun i _ hl => List.getElem?_append_left hl
theorem OwnL.snap [HSz E n] (h : OwnL E n H c xs) : snapD H (.c c) = some (rsl E xs) := by
  cases h with
  | n => rfl
  | m => rfl
  | o id g xs h =>
    have e : (cl E xs).take (xs.length * n) = cl E xs := List.take_of_length_le (Nat.le_of_eq (cl_length xs))
    simp only [snapD, Lg.frzC, Lg.frz, h, List.drop_zero, e, frz_cl, Option.map_some]
theorem OwnL.frzC [HSz E n] (h : OwnL E n H c xs) : frzC H c = some (.f (fsl E xs)) := by
  have := h.snap
  simp only [snapD, Option.map_eq_some_iff] at this
  obtain ⟨y, h1, h2⟩ := this
  cases h2
  exact h1
theorem OwnL.len (P : Program) (h : OwnL E n H c xs) {s : List AV} {t : TypeId} {ei : TI} (ht : sliceOf P t = some ei) (hs : ei.size = n) : True := trivial
end
theorem nzF_ints {k : IntKind} (xs : List Int) : (fl (eI k) xs).map nzF = fl (eI k) xs := by
  induction xs with
  | nil => rfl
  | cons x xs ih => 
    show nzF _ :: (fl (eI k) xs).map nzF = _
    rw [ih]; rfl
theorem nzF_rules (rs : List Rul) : (fl eR rs).map nzF = fl eR rs := by
  induction rs with
  | nil => rfl
  | cons x xs ih =>
    show [nzF _, nzF _, nzF _] ++ (fl eR xs).map nzF = _
    rw [ih, fints, nzF_sl, nzF_ints]; rfl
theorem frzS_cells {S : Nat → Bool} {H : Heap} {n : Nat} : ∀ (l : List FV), (l.map CV.f).mapM (frzS S H n) = some (l.map nzF)
  | [] => rfl
  | x :: l => by
    rw [List.map_cons, List.mapM_cons, frzS_cells l]
    cases n <;> rfl
theorem OwnL.frzS {S : Nat → Bool} {H : Heap} {c : CV} {rs : List Rul} (h : OwnL eR 3 H c rs) (hs : ∀ i, idsC c i → S i = true) (m : Nat) : frzS S H (m + 1) c = some (fsl eR rs) := by
  cases h with
  | n => rfl
  | m => rfl
  | o id g xs h =>
    have e : (cl eR rs).take (rs.length * 3) = cl eR rs := List.take_of_length_le (Nat.le_of_eq (cl_length rs))
    simp only [Lg.frzS, hs id rfl, if_true, h, List.drop_zero, e]
    rw [show cl eR rs = (fl eR rs).map CV.f from rfl, frzS_cells, nzF_rules]
    rfl
theorem frzS_view {S : Nat → Bool} {H : Heap} {id g off n : Nat} {lim : Option Nat} {zs : List Int} (h : look H id g = some ⟨g, 1, cl (eI .i64) zs⟩) (hs : S id = true) (hn : off + n ≤ zs.length) (m : Nat) : Lg.frzS S H (m + 1) (.own id g off n lim) = some (fints ((zs.drop off).take n)) := by
  have hv := frz_view (lim := lim) h hn
  have hl : ((zs.drop off).take n).length = n := by simp; omega
  simp only [frzC, frz, h, Option.map_map, Option.map_eq_some_iff] at hv
  obtain ⟨l, h1, h2⟩ := hv
  simp only [Lg.frzS, hs, if_true, h]
  have e : ((cl (eI .i64) zs).drop off).take (n * 1) = cl (eI .i64) ((zs.drop off).take n) := by
    have e1 : (cl (eI .i64) zs).drop off = cl (eI .i64) (zs.drop off) := by
      have := List.take_append_drop off zs
      conv => lhs; rw [← this, cl_append]
      rw [List.drop_append_of_le_length (by rw [cl_length]; simp; omega), List.drop_of_length_le (by rw [cl_length]; simp; omega), List.nil_append]
    rw [e1, Nat.mul_one]
    have := List.take_append_drop n (zs.drop off)
    conv => lhs; rw [← this, cl_append]
    rw [List.take_append_of_le_length (by rw [cl_length]; simp; omega), List.take_of_length_le (by rw [cl_length]; simp; omega)]
  rw [e, show cl (eI .i64) ((zs.drop off).take n) = (fl (eI .i64) ((zs.drop off).take n)).map CV.f from rfl, frzS_cells, nzF_ints, Option.map_some]
  rw [show fints ((zs.drop off).take n) = .sl ((zs.drop off).take n).length (fl (eI .i64) ((zs.drop off).take n)) from rfl, hl]
theorem elems_f {α : Type} {E : α → List FV} {n : Nat} [HSz E n] {H : Heap} {ys : List α} : elems H n (.c (.f (fsl E ys))) = some (ys.length, cl E ys) := by
  have : (fl E ys).length = ys.length * n := fl_length ys
  simp only [elems]
  first | rfl | simp [this, cl]
end Go.Lg

set_option linter.unusedSimpArgs false
set_option linter.unusedVariables false
set_option maxRecDepth 100000
namespace Go.Lg
open Go.Proofs
def prodV (vs : List Int) : Int := vs.foldl (fun a v => a * v) 1
def holdsV (r : Rul) (vs : List Int) : Bool :=
  if r.kind = 1 then decide vs.Nodup else if r.kind = 2 then decide (vs.sum = r.val) else if r.kind = 3 then decide (prodV vs = r.val)
  else if r.kind = 4 then decide (nth vs 0 < nth vs 1) else decide (max (nth vs 0 - nth vs 1) (nth vs 1 - nth vs 0) = r.val)
def orV (o : List Nat) (vs : List Int) : List Nat := o.zipWith (fun x v => x ||| 2 ^ v.toNat) vs
def ways (r : Rul) : List Nat → List Int → List Nat → List Nat
  | [], pre, o => if holdsV r pre = true then orV o pre else o
  | m :: ms, pre, o => [1, 2, 3, 4].foldl (fun o (v : Nat) => if m.testBit v = true then ways r ms (pre ++ [(v : Int)]) o else o) o
def maskAt (xs : List Int) (n : Nat) (c : Int) : Nat := if 0 < nth xs c then 2 ^ (nth xs c).toNat else 2 ^ (n + 1) - 2
def canHold (r : Rul) (xs : List Int) (n : Nat) : Bool := (ways r (r.cells.map (maskAt xs n)) [] (List.replicate r.cells.length 0)).getD 0 0 != 0
theorem canHold_congr {r : Rul} {xs ys : List Int} {n : Nat} (h : ∀ c ∈ r.cells, nth xs c = nth ys c) : canHold r xs n = canHold r ys n := by
  unfold canHold
  rw [List.map_congr_left (f := maskAt xs n) (g := maskAt ys n) fun c hc => by unfold maskAt; rw [h c hc]]
def clear (p : Puz) (xs : List Int) : Bool := decide (∀ k : Nat, k < xs.length → ¬ (0 < nth p.given k ∧ 0 < nth xs k ∧ nth xs k ≠ nth p.given k))
def fitsL (p : Puz) (xs : List Int) (n : Nat) : Bool := clear p xs && (p.rules.all (fun r => canHold r xs n) && !clash xs n)
def cellFits (p : Puz) (xs : List Int) (n i : Nat) : Bool := decide (∀ j : Nat, j < n * n → j ≠ i → (j / n = i / n ∨ j % n = i % n) → nth xs j ≠ nth xs i) && p.rules.all (fun r => !r.cells.contains (i : Int) || canHold r xs n)
theorem nc_set {n : Nat} {xs : List Int} {i v : Nat} (h : NC xs n) (hl : xs.length = n * n) (hi : i < n * n) (hv : 1 ≤ v) (h0 : nth xs i = 0) :
    NC (xs.set i v) n ↔ ∀ j : Nat, j < n * n → j ≠ i → (j / n = i / n ∨ j % n = i % n) → nth (xs.set i (v : Int)) j ≠ v := by
  have hset : ∀ k : Nat, nth (xs.set i (v : Int)) k = if k = i then (v : Int) else nth xs k := fun k => nth_setN _ _ _ _ (by rw [hl]; exact hi)
  constructor
  · intro hc j hj hne hln
    rcases Nat.lt_or_ge j i with h1 | h1
    · have := hc j i h1 hi hln
      rw [hset i, if_pos rfl] at this
      intro he
      rw [he] at this
      exact this (by omega) rfl
    · have := hc i j (by omega) hj (hln.imp Eq.symm Eq.symm)
      rw [hset i, if_pos rfl] at this
      intro he
      rw [he] at this
      exact this (by omega) rfl
  · intro hc p q hpq hq hln hp
    by_cases hpi : p = i
    · subst hpi
      rw [hset p, if_pos rfl]
      exact fun he => hc q hq (by omega) (hln.imp Eq.symm Eq.symm) he.symm
    · by_cases hqi : q = i
      · subst hqi
        rw [hset q, if_pos rfl]
        exact hc p (by omega) hpi hln
      · rw [hset p, if_neg hpi] at hp ⊢
        rw [hset q, if_neg hqi]
        exact h p q hpq hq hln hp
theorem fits_step {p : Puz} {n : Nat} (hn : n = 2 ∨ n = 3 ∨ n = 4) {xs : List Int} {i v : Nat} (h : fitsL p xs n = true) (hl : xs.length = n * n) (hx : ∀ c : Int, 0 ≤ nth xs c) (hi : i < n * n) (hv : 1 ≤ v) (h0 : nth xs i = 0) (hg : nth p.given i ≤ 0) (hcs : ∀ r ∈ p.rules, ∀ c ∈ r.cells, 0 ≤ c) :
    fitsL p (xs.set i v) n = cellFits p (xs.set i v) n i := by
  have hset : ∀ k : Nat, nth (xs.set i (v : Int)) k = if k = i then (v : Int) else nth xs k := fun k => nth_setN _ _ _ _ (by rw [hl]; exact hi)
  have hx' : ∀ c : Int, 0 ≤ nth (xs.set i (v : Int)) c := fun c => by
    rw [nth_toNat, hset]
    split
    · omega
    · exact hx _
  simp only [fitsL, Bool.and_eq_true, clear, decide_eq_true_eq, Bool.not_eq_true', List.all_eq_true] at h
  obtain ⟨h1, h2, h3⟩ := h
  have hclear : clear p (xs.set i v) = true := by
    simp only [clear, decide_eq_true_eq]
    rintro k hk ⟨a, b, c⟩
    rw [hset] at b c
    by_cases hki : k = i
    · rw [hki] at a; omega
    · rw [if_neg hki] at b c
      exact h1 k (by simpa using hk) ⟨a, b, c⟩
  have hcl : (!clash (xs.set i (v : Int)) n) = decide (∀ j : Nat, j < n * n → j ≠ i → (j / n = i / n ∨ j % n = i % n) → nth (xs.set i (v : Int)) j ≠ nth (xs.set i (v : Int)) i) := by
    rw [Bool.eq_iff_iff, Bool.not_eq_true', clash_nc hn hx', nc_set ((clash_nc hn hx).1 h3) hl hi hv h0, decide_eq_true_eq, hset i, if_pos rfl]
  have hr : p.rules.all (fun r => canHold r (xs.set i (v : Int)) n) = p.rules.all (fun r => !r.cells.contains (i : Int) || canHold r (xs.set i (v : Int)) n) := by
    rw [Bool.eq_iff_iff]
    simp only [List.all_eq_true, Bool.or_eq_true, Bool.not_eq_true']
    constructor
    · exact fun k r hr => .inr (k r hr)
    · intro k r hr
      rcases k r hr with k | k
      · rw [← h2 r hr]
        refine canHold_congr fun c hc => ?_
        have hci : c ≠ (i : Int) := fun he => by rw [he] at hc; simp at k; exact k hc
        have hc0 := hcs r hr c hc
        obtain ⟨m, rfl⟩ : ∃ m : Nat, c = m := ⟨c.toNat, by omega⟩
        rw [hset, if_neg (by omega)]
      · exact k
  unfold fitsL cellFits
  rw [hclear, hr, hcl, Bool.true_and, Bool.and_comm]
def sols (p : Puz) (n : Nat) : Nat → List Int → List (List Int)
  | 0, xs => [xs]
  | m + 1, xs => if 0 < nth xs ((xs.length - (m + 1) : Nat) : Int) then sols p n m xs else ((List.range n).map (· + 1)).flatMap fun (v : Nat) => if fitsL p (xs.set (xs.length - (m + 1)) (v : Int)) n = true then sols p n m (xs.set (xs.length - (m + 1)) (v : Int)) else []
end Go.Lg

set_option linter.unusedSimpArgs false
set_option linter.unusedVariables false
namespace Go.Lg
open Go.ChangeShapes Go.WideShapes Go.ChangeAt Go.RowKit
def CsF (w : World) (I : Nat → Prop) (ys : List FV) (cs : List Value) : Prop :=
  ys.length = cs.length ∧ ∀ j (h : j < ys.length), ∃ u, cs[j]? = some u ∧ VF w I ys[j] u
section
variable {w : World} {I : Nat → Prop}
theorem CsF.nil : CsF w I [] [] := ⟨rfl, fun j h => absurd h (Nat.not_lt_zero _)⟩
theorem CsF.one {y : FV} {v : Value} (h : VF w I y v) : CsF w I [y] [v] := ⟨rfl, fun j hj => by
  have : j = 0 := by simpa using hj
  subst this; exact ⟨v, rfl, h⟩⟩
theorem CsF.app {ys ys' : List FV} {cs cs' : List Value} (h : CsF w I ys cs) (h' : CsF w I ys' cs') : CsF w I (ys ++ ys') (cs ++ cs') := by
  refine ⟨by simp [h.1, h'.1], fun j hj => ?_⟩
  by_cases hl : j < ys.length
  · obtain ⟨u, h1, h2⟩ := h.2 j hl
    refine ⟨u, by rw [List.getElem?_append_left (by rw [← h.1]; exact hl)]; exact h1, ?_⟩
    rw [List.getElem_append_left hl]; exact h2
  · have hj' : j - ys.length < ys'.length := by simp at hj; omega
    obtain ⟨u, h1, h2⟩ := h'.2 _ hj'
    refine ⟨u, by rw [List.getElem?_append_right (by rw [← h.1]; omega), ← h.1]; exact h1, ?_⟩
    rw [List.getElem_append_right (by omega)]; exact h2
end
def Shp (P : Program) : Nat → TypeId → List FV → Prop
  | 0, _, _ => False
  | n + 1, t, ys => match P.underlying t with
    | some (.int k) => ∃ x, ys = [.int k x] ∧ (Lit.int k x).wf = true
    | some .bool => ∃ b, ys = [.bool b]
    | some .string => ∃ s : List UInt8, ys = [.str (bs s)] ∧ s.length ≤ 9223372036854775807
    | some (.slice e) => ∃ es : List (List FV), ys = [.sl es.length es.flatten] ∧ es.length ≤ 9223372036854775807 ∧ ∀ x ∈ es, Shp P n e x
    | some (.struct fs) => ∃ es : List (List FV), ys = es.flatten ∧ es.length = fs.size ∧ ∀ (i : Nat) (f : Field), fs[i]? = some f → ∃ x, es[i]? = some x ∧ Shp P n f.type x
    | _ => False
def contigB (P : Program) (tot : Nat) : Nat → List Field → Bool
  | o, [] => o == tot
  | o, f :: fs => f.offset == o && contigB P tot (o + P.cellsOf f.type) fs
def plainT (P : Program) : Nat → TypeId → Bool
  | 0, _ => false
  | n + 1, t => match P.underlying t with
    | some (.int _) => true
    | some .bool => true
    | some .string => true
    | some (.slice e) => decide (0 < P.cellsOf e) && plainT P n e
    | some (.struct fs) => contigB P (P.cellsOf t) 0 fs.toList && fs.toList.all fun f => plainT P n f.type
    | _ => false
theorem cell_plain {W : World} {a : Addr} {i : Nat} (hi : i = 0) {u : Value} (h : W.cell? ((a.add i).add 0) = some u) : a.spot = none := by
  simp only [World.cell?] at h
  split at h
  · split at h
    · cases h
    · rename_i hsp
      have : ((a.add i).add 0).spot = none := by simpa using hsp
      obtain ⟨b, o, sp⟩ := a
      cases sp with
      | none => rfl
      | some s => exfalso; revert this; unfold Addr.add; simp [hi]
  · cases h
section
variable {H : Type} {enc : TypeId × Value → H} {P : Program} {W : World}
theorem read_all : ∀ (n fuel : Nat) (t : TypeId) (cs : List Value) (x : DataW H × List MemPlace), plainT P n t = true → DataW.trod enc P W 0 (fun _ => true) true fuel t cs = some x →
    ∃ ys, CsF W (Cx.base W).I ys cs ∧ Shp P n t ys := by
  intro n
  induction n with
  | zero => intro fuel t cs x hp; simp [plainT] at hp
  | succ n ih =>
    intro fuel t cs x hp h
    unfold plainT at hp
    split at hp
    · rename_i k hu
      obtain ⟨m, rfl, rfl, hw⟩ := DataW.trod_int hu h
      exact ⟨[.int k m], CsF.one (VF.int k m), by unfold Shp; rw [hu]; exact ⟨m, rfl, hw⟩⟩
    · rename_i hu
      obtain ⟨b, rfl, rfl⟩ := DataW.trod_bool hu h
      exact ⟨[.bool b], CsF.one (VF.bool b), by unfold Shp; rw [hu]; exact ⟨b, rfl⟩⟩
    · rename_i hu
      obtain ⟨s, rfl, rfl, hs⟩ := DataW.trod_string hu h
      have e : bs s.data.toList = s := by simp [bs]
      exact ⟨[.str s], CsF.one (VF.str s), by unfold Shp; rw [hu]; exact ⟨s.data.toList, by rw [e], str_len hs⟩⟩
    · rename_i e hu
      simp only [Bool.and_eq_true, decide_eq_true_eq] at hp
      rcases DataW.trod_slice hu h with ⟨rfl, rfl⟩ | ⟨a, len, cap, elems, rest, m, rfl, rfl, rfl, hb, hl, hm, hlen, hel, _, _⟩
      · exact ⟨[.sl 0 []], CsF.one (VF.sl0 none 0), by unfold Shp; rw [hu]; exact ⟨[], rfl, by simp, by simp⟩⟩
      · have each : ∀ i, i < len → ∃ cs', W.cells? 0 (a.add (i * P.cellsOf e)) (P.cellsOf e) = some cs' ∧ ∃ ys, CsF W (Cx.base W).I ys cs' ∧ Shp P n e ys := by
          intro i hi
          have h1 := hel i hi
          rw [List.getElem?_eq_getElem (by omega)] at h1
          obtain ⟨cs', h2, h3⟩ := Option.bind_eq_some_iff.1 h1
          exact ⟨cs', h2, ih _ _ _ _ hp.2 h3⟩
        have hml : len ≤ 9223372036854775807 := by
          have : maxLen ≤ 9223372036854775807 := by decide
          omega
        by_cases h0 : len = 0
        · subst h0
          exact ⟨[.sl 0 []], CsF.one (VF.sl0 _ _), by unfold Shp; rw [hu]; exact ⟨[], rfl, by simp, by simp⟩⟩
        obtain ⟨b, o, sp⟩ := a
        have hsp : sp = none := by
          obtain ⟨cs', h2, ys, h3, h4⟩ := each 0 (by omega)
          obtain ⟨_, h5, h6⟩ := World.cells?_some h2
          have h7 := h6 0 hp.1
          rw [List.getElem?_eq_getElem (by omega)] at h7
          exact cell_plain (a := ⟨b, o, sp⟩) (Nat.zero_mul _) h7
        subst hsp
        have build : ∀ k, k ≤ len → ∃ es : List (List FV), es.length = k ∧ (∀ x ∈ es, Shp P n e x) ∧ es.flatten.length = k * P.cellsOf e ∧
            ∀ j (h : j < es.flatten.length), ∃ u, W.cell? ⟨b, o + j, none⟩ = some u ∧ VF W (Cx.base W).I es.flatten[j] u := by
          intro k
          induction k with
          | zero => intro _; exact ⟨[], rfl, by simp, by simp, fun j hj => absurd hj (by simp)⟩
          | succ k ihk =>
            intro hk
            obtain ⟨es, e1, e2, e3, e4⟩ := ihk (by omega)
            obtain ⟨cs', h2, ys, h3, h4⟩ := each k (by omega)
            obtain ⟨_, h5, h6⟩ := World.cells?_some h2
            have hys : ys.length = P.cellsOf e := by rw [h3.1, h5]
            refine ⟨es ++ [ys], by simp [e1], fun x hx => ?_, ?_, fun j hj => ?_⟩
            · rcases List.mem_append.1 hx with hx | hx
              · exact e2 x hx
              · have : x = ys := by simpa using hx
                subst this; exact h4
            · simp only [List.flatten_append, List.length_append, e3, List.flatten_cons, List.flatten_nil, List.append_nil, hys, Nat.add_mul, Nat.one_mul]
            · have hfl : (es ++ [ys]).flatten = es.flatten ++ ys := by simp
              by_cases hjl : j < es.flatten.length
              · obtain ⟨u, k1, k2⟩ := e4 j hjl
                refine ⟨u, k1, ?_⟩
                have : (es ++ [ys]).flatten[j] = es.flatten[j] := by simp only [hfl]; exact List.getElem_append_left hjl
                rw [this]; exact k2
              · have hj' : j - es.flatten.length < ys.length := by
                  have : j < (es.flatten ++ ys).length := by rw [← hfl]; exact hj
                  rw [List.length_append] at this; omega
                obtain ⟨u, k1, k2⟩ := h3.2 _ hj'
                have h8 := h6 (j - es.flatten.length) (by omega)
                rw [add_plain, add_plain, k1] at h8
                refine ⟨u, ?_, ?_⟩
                · rw [show o + k * P.cellsOf e + (j - es.flatten.length) = o + j by omega] at h8
                  exact h8
                · have : (es ++ [ys]).flatten[j] = ys[j - es.flatten.length] := by simp only [hfl]; exact List.getElem_append_right (by omega)
                  rw [this]; exact k2
        obtain ⟨es, e1, e2, e3, e4⟩ := build len (Nat.le_refl _)
        have hI : (Cx.base W).I b := by
          obtain ⟨u, k1, _⟩ := e4 0 (by rw [e3]; exact Nat.mul_pos (by omega) hp.1)
          exact World.block_lt_of_cell? W _ k1
        refine ⟨[.sl es.length es.flatten], CsF.one ?_, by unfold Shp; rw [hu]; exact ⟨es, rfl, by omega, e2⟩⟩
        rw [e1]
        refine VF.sl len es.flatten b o cap (fun j => (W.cell? ⟨b, o + j, none⟩).getD undef) hl hI (fun j hj => ?_) (fun j hj => ?_)
        · obtain ⟨u, k1, _⟩ := e4 j hj
          rw [k1]; rfl
        · obtain ⟨u, k1, k2⟩ := e4 j hj
          simp only [k1, Option.getD_some]; exact k2
    · rename_i fs hu
      simp only [Bool.and_eq_true, List.all_eq_true] at hp
      obtain ⟨xs, m, rfl, rfl, hl, hlen, hf⟩ := DataW.trod_struct hu h
      have go : ∀ (l : List Field) (o : Nat), contigB P (P.cellsOf t) o l = true → (∀ (i : Nat) (f : Field), l[i]? = some f → plainT P n f.type = true ∧ ∃ y, DataW.trod enc P W 0 (fun _ => true) true m f.type ((cs.drop f.offset).take (P.cellsOf f.type)) = some y) →
          ∃ es : List (List FV), CsF W (Cx.base W).I es.flatten (cs.drop o) ∧ es.length = l.length ∧ ∀ (i : Nat) (f : Field), l[i]? = some f → ∃ x, es[i]? = some x ∧ Shp P n f.type x := by
        intro l
        induction l with
        | nil =>
          intro o ho _
          simp only [contigB, beq_iff_eq] at ho
          refine ⟨[], ?_, rfl, fun i f hi => by simp at hi⟩
          rw [List.drop_eq_nil_of_le (by omega)]; exact CsF.nil
        | cons f l ihl =>
          intro o ho hall
          simp only [contigB, Bool.and_eq_true, beq_iff_eq] at ho
          obtain ⟨es, k1, k2, k3⟩ := ihl _ ho.2 fun i f' hi => hall (i + 1) f' hi
          obtain ⟨hp0, y, hy⟩ := hall 0 f rfl
          obtain ⟨ys, q1, q2⟩ := ih _ _ _ _ hp0 hy
          rw [ho.1] at q1
          refine ⟨ys :: es, ?_, by simp [k2], fun i f' hi => ?_⟩
          · have : cs.drop o = (cs.drop o).take (P.cellsOf f.type) ++ cs.drop (o + P.cellsOf f.type) := by
              rw [← List.drop_drop, List.take_append_drop]
            rw [this]
            exact q1.app k1
          · cases i with
            | zero =>
              have : f = f' := by simpa using hi
              subst this
              exact ⟨ys, rfl, q2⟩
            | succ i => exact k3 i f' hi
      obtain ⟨es, k1, k2, k3⟩ := go fs.toList 0 hp.1 fun i f hi => by
        have hi' : fs[i]? = some f := by simpa using hi
        refine ⟨hp.2 f (List.mem_of_getElem? hi), ?_⟩
        have := hf i f hi'
        have hlt : i < xs.length := by rw [hlen]; exact (Array.getElem?_eq_some_iff.1 hi').1
        rw [List.getElem?_eq_getElem hlt] at this
        exact ⟨_, this⟩
      refine ⟨es.flatten, by simpa using k1, ?_⟩
      unfold Shp; rw [hu]
      exact ⟨es, rfl, by simpa using k2, fun i f hi => k3 i f (by simpa using hi)⟩
    · cases hp
theorem read_one {t : TypeId} {v : Value} {d : DataW H} {ps : List MemPlace} (n : Nat) (hp : plainT P n t = true) (h : DataW.Trod enc P W 0 (fun _ => true) true t v d ps) :
    ∃ ys, CsF W (Cx.base W).I ys v.cells.toList ∧ Shp P n t ys := by
  obtain ⟨fuel, hf⟩ := h
  exact read_all n fuel t _ _ hp hf
theorem CsF.agg {ys : List FV} {cs : Array Value} (h : CsF W (Cx.base W).I ys cs.toList) : VA W (Cx.base W) [] (.agg (ys.map .f)) (.agg cs) := by
  refine .agg _ _ (by simpa using h.1.symm) fun j hj => ?_
  have hj' : j < ys.length := by simpa using hj
  obtain ⟨u, h1, h2⟩ := h.2 j hj'
  refine ⟨u, by simpa using h1, ?_⟩
  rw [List.getElem_map]; exact h2
theorem CsF.val {y : FV} {v : Value} (h : CsF W (Cx.base W).I [y] [v]) : VA W (Cx.base W) [] (.c (.f y)) v := by
  obtain ⟨u, h1, h2⟩ := h.2 0 (by simp)
  have : v = u := by simpa using h1
  subst this
  exact .c _ _ h2
theorem shp_list {α : Type} {E : α → List FV} {F : α → Prop} : ∀ {es : List (List FV)}, (∀ x ∈ es, ∃ a, x = E a ∧ F a) → ∃ xs : List α, es.length = xs.length ∧ es.flatten = fl E xs ∧ ∀ a ∈ xs, F a
  | [], _ => ⟨[], rfl, rfl, by simp⟩
  | x :: es, h => by
    obtain ⟨a, rfl, h1⟩ := h x (by simp)
    obtain ⟨xs, h2, h3, h4⟩ := shp_list (es := es) fun y hy => h y (by simp [hy])
    exact ⟨a :: xs, by simp [h2], by simp [fl, h3], fun b hb => by
      rcases List.mem_cons.1 hb with rfl | hb
      · exact h1
      · exact h4 b hb⟩
end
end Go.Lg

set_option linter.unusedSimpArgs false
set_option linter.unusedVariables false
set_option maxRecDepth 100000
namespace Go.Lg
open Go.Proofs
section
variable {P : Program} {n : Nat} {t e : TypeId} {ys : List FV}
theorem shp_int {k : IntKind} (hu : P.underlying t = some (.int k)) (h : Shp P (n + 1) t ys) : ∃ x, ys = [.int k x] ∧ (Lit.int k x).wf = true := by
  unfold Shp at h; rw [hu] at h; exact h
theorem shp_slice {α : Type} {E : α → List FV} {F : α → Prop} (hu : P.underlying t = some (.slice e)) (he : ∀ x, Shp P n e x → ∃ a, x = E a ∧ F a) (h : Shp P (n + 1) t ys) : ∃ xs : List α, ys = [fsl E xs] ∧ xs.length ≤ 9223372036854775807 ∧ ∀ a ∈ xs, F a := by
  unfold Shp at h; rw [hu] at h
  obtain ⟨es, rfl, h1, h2⟩ := h
  obtain ⟨xs, h3, h4, h5⟩ := shp_list (E := E) (F := F) fun x hx => he x (h2 x hx)
  exact ⟨xs, by rw [h3, h4], by omega, h5⟩
theorem shp_ints {k : IntKind} (hu : P.underlying t = some (.slice e)) (he : P.underlying e = some (.int k)) (h : Shp P (n + 2) t ys) : ∃ xs : List Int, ys = [fsl (eI k) xs] ∧ xs.length ≤ 9223372036854775807 ∧ ∀ a ∈ xs, (Lit.int k a).wf = true :=
  shp_slice hu (fun x hx => shp_int he hx) h
theorem shp_struct3 {f0 f1 f2 : Field} (hu : P.underlying t = some (.struct #[f0, f1, f2])) (h : Shp P (n + 1) t ys) : ∃ a b c, ys = a ++ (b ++ c) ∧ Shp P n f0.type a ∧ Shp P n f1.type b ∧ Shp P n f2.type c := by
  unfold Shp at h; rw [hu] at h
  obtain ⟨es, rfl, h1, h2⟩ := h
  have h1 : es.length = 3 := h1
  match es, h1 with
  | [a, b, c], _ =>
    obtain ⟨_, q0, p0⟩ := h2 0 f0 rfl
    obtain ⟨_, q1, p1⟩ := h2 1 f1 rfl
    obtain ⟨_, q2, p2⟩ := h2 2 f2 rfl
    cases q0; cases q1; cases q2
    exact ⟨a, b, c, by simp, p0, p1, p2⟩
end
def wRs (rs : List Rul) : Nat := rs.length + (rs.map fun r => r.cells.length).sum
def okRs (rs : List Rul) : Prop := rs.length ≤ 9223372036854775807 ∧ ∀ r ∈ rs, r.cells.length ≤ 9223372036854775807
def okP' (p : Puz) : Prop := p.given.length ≤ 9223372036854775807 ∧ okRs p.rules
abbrev fP (p : Puz) : List FV := [.int .i64 p.size, fints p.given, fsl eR p.rules]
theorem shp_rule {n : Nat} {ys : List FV} (h : Shp Try.prog (n + 3) 105 ys) : ∃ r : Rul, ys = eR r ∧ r.cells.length ≤ 9223372036854775807 := by
  obtain ⟨a, b, c, rfl, ha, hb, hc⟩ := shp_struct3 Try.underlying105 h
  obtain ⟨x, rfl, _⟩ := shp_int Try.underlying3 ha
  obtain ⟨xs, rfl, h1, _⟩ := shp_ints Try.underlying23 Try.underlying3 hb
  obtain ⟨z, rfl, _⟩ := shp_int Try.underlying3 hc
  exact ⟨⟨x, xs, z⟩, rfl, h1⟩
theorem shp_puzzle {n : Nat} {ys : List FV} (h : Shp Try.prog (n + 5) 44 ys) : ∃ p : Puz, ys = fP p ∧ okP' p := by
  obtain ⟨a, b, c, rfl, ha, hb, hc⟩ := shp_struct3 Try.underlying44 h
  obtain ⟨x, rfl, _⟩ := shp_int Try.underlying3 ha
  obtain ⟨xs, rfl, h1, _⟩ := shp_ints Try.underlying23 Try.underlying3 hb
  obtain ⟨rs, rfl, h2, h3⟩ := shp_slice (E := eR) (F := fun r => r.cells.length ≤ 9223372036854775807) Try.underlying42 (fun x hx => shp_rule hx) hc
  exact ⟨⟨x, xs, rs⟩, rfl, h1, h2, h3⟩
end Go.Lg
