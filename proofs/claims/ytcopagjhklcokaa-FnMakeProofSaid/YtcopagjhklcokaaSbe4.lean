/- GpNE, GpTG, cut to what is needed. -/
import Derived.Test.YtcopagjhklcokaaSbe1
import Derived.Test.YtcopagjhklcokaaSbe3
import Derived.Test.YtcopagjhklcokaaSbd7
import Derived.Test.YtcopagjhklcokaaSbc1
open Nat(reduceAdd reduceMul reduceSub reduceEqDiff reduceLeDiff)
set_option linter.unusedSimpArgs false
set_option linter.unusedVariables false
set_option maxRecDepth 100000
namespace Go.Lg
open Go.Proofs
def SubM (a b : List Nat) : Prop := ∀ k i : Nat, (mAt a k).testBit i = true → (mAt b k).testBit i = true
theorem SubM.refl (a : List Nat) : SubM a a := fun _ _ h => h
theorem SubM.trans {a b c : List Nat} (h : SubM a b) (g : SubM b c) : SubM a c := fun k i x => g k i (h k i x)
theorem set_subM {o ms : List Nat} {c v : Nat} (h : SubM o ms) (hv : ∀ i, v.testBit i = true → (mAt ms c).testBit i = true) : SubM (o.set c v) ms := fun k i hb => by
  by_cases hc : c < o.length
  · rw [mAt_set hc] at hb
    split at hb
    · rename_i hk; rw [hk]; exact hv i hb
    · exact h k i hb
  · rw [List.set_eq_of_length_le (by omega)] at hb; exact h k i hb
theorem putR_sub (r : Rul) (ms : List Nat) : ∀ j, j ≤ r.cells.length → SubM (putR r (ruleM r (nats ms)) ms j) ms
  | 0, _ => SubM.refl ms
  | j + 1, hj => by
    rw [putR_succ]
    exact set_subM (putR_sub r ms j (by omega)) fun i hb => (ruleM_at (by omega) hb).2
theorem foldS_sub : ∀ (rs : List Rul) (ms : List Nat), SubM (rs.foldl rulS ms) ms
  | [], ms => SubM.refl ms
  | r :: rs, ms => (foldS_sub rs (rulS ms r)).trans (putR_sub r ms _ (Nat.le_refl _))
theorem clrL_sub {R : List (Nat × Nat)} {n : Nat} (hn : n = 2 ∨ n = 3 ∨ n = 4) {ms : List Nat} (hm : MsN ms n) : SubM (clrL R ms) ms := fun k i hb => by
  by_cases hk : k < ms.length
  · rw [clrL_bit (fun k => by have := (hm.lt hn k).1; omega) hk, Bool.and_eq_true] at hb
    exact hb.1
  · rw [mAt_over (by rw [clrL_len]; omega)] at hb
    simp at hb
theorem narM_subM {p : Puz} {n : Nat} (hn : n = 2 ∨ n = 3 ∨ n = 4) (t : Nat) {ms : List Nat} (hm : MsN ms n) : SubM (narM p t ms) ms := by
  unfold narM sglM hidM parM rulM
  split
  · exact clrL_sub hn hm
  split
  · exact clrL_sub hn hm
  split
  · exact clrL_sub hn hm
  · exact foldS_sub _ _
def inMB (s : List Int) (ms : List Nat) (N : Nat) : Bool := (List.range N).all fun k => (mAt ms k).testBit (nth s k).toNat
theorem inMB_iff {s : List Int} {ms : List Nat} {N : Nat} : inMB s ms N = true ↔ InM s ms N := by
  unfold inMB InM
  rw [List.all_eq_true]
  exact ⟨fun h k hk => h k (List.mem_range.2 hk), fun h k hk => h k (List.mem_range.1 hk)⟩
def cntM (p : Puz) (ms : List Nat) : Nat := ((allL p).filter fun s => inMB s ms (p.size.toNat * p.size.toNat)).length
theorem cntM_start {p : Puz} (hv : puzzleValid p = true) : cntM p (startM p) = (allL p).length := by
  obtain ⟨hp, hg⟩ := puz_facts hv
  unfold cntM
  rw [List.filter_eq_self.2]
  intro s hs
  have h := (allL_mem hv s).1 hs
  exact inMB_iff.2 (startM_in (sol_lat hv h) hp hg h.2.1)
theorem cntM_nar {p : Puz} (hv : puzzleValid p = true) {ms : List Nat} (t : Nat) (hm : MsN ms p.size.toNat) : cntM p (narM p t ms) = cntM p ms := by
  obtain ⟨hp, hg⟩ := puz_facts hv
  unfold cntM
  congr 1
  refine List.filter_congr fun s hs => ?_
  have h := (allL_mem hv s).1 hs
  rw [Bool.eq_iff_iff, inMB_iff, inMB_iff]
  constructor
  · exact fun h1 k hk => narM_subM hp.hn t hm k _ (h1 k hk)
  · exact fun h1 => nar_in (sol_lat hv h) hp (fits_parts h.2.2).2.1 hm h1
theorem one_of {V : List Int} {w : Int} (hn : V.Nodup) (hw : w ∈ V) : (V.map fun v => if w = v then 1 else 0).sum = 1 := by
  induction V with
  | nil => cases hw
  | cons v V ih =>
    rw [List.nodup_cons] at hn
    simp only [List.map_cons, List.sum_cons]
    by_cases h : w = v
    · subst h
      rw [if_pos rfl]
      have : (V.map fun v => if w = v then 1 else 0).sum = 0 := by
        have : ∀ U : List Int, w ∉ U → (U.map fun v => if w = v then 1 else 0).sum = 0 := by
          intro U
          induction U with
          | nil => intro _; rfl
          | cons u U ih2 =>
            intro hu
            simp only [List.mem_cons, not_or] at hu
            simp only [List.map_cons, List.sum_cons]
            rw [if_neg hu.1, ih2 hu.2]
        exact this V hn.1
      rw [this]
    · rw [if_neg h, ih hn.2 (by rcases List.mem_cons.1 hw with e | e; exact absurd e h; exact e)]
theorem sum_map_add {V : List Int} (f g : Int → Nat) : (V.map fun v => f v + g v).sum = (V.map f).sum + (V.map g).sum := by
  induction V with
  | nil => rfl
  | cons v V ih => simp only [List.map_cons, List.sum_cons, ih]; omega
theorem split_count {α : Type} (f : α → Int) {V : List Int} (hn : V.Nodup) : ∀ (L : List α), (∀ x ∈ L, f x ∈ V) → (V.map fun v => (L.filter fun x => decide (f x = v)).length).sum = L.length
  | [], _ => by
    have : ∀ U : List Int, (U.map fun _ => (0 : Nat)).sum = 0 := by
      intro U; induction U with
      | nil => rfl
      | cons u U ih => simp [ih]
    exact this V
  | x :: L, h => by
    have e : (V.map fun v => ((x :: L).filter fun x => decide (f x = v)).length) = V.map fun v => (if f x = v then 1 else 0) + (L.filter fun x => decide (f x = v)).length := by
      refine List.map_congr_left fun v _ => ?_
      rw [List.filter_cons]
      by_cases hx : f x = v
      · rw [if_pos (decide_eq_true hx), if_pos hx, List.length_cons]; omega
      · rw [if_neg (by simpa using hx), if_neg hx]; omega
    rw [e, sum_map_add, one_of hn (h x (by simp)), split_count f hn L fun y hy => h y (by simp [hy]), List.length_cons]
    omega
theorem mvals_nodup (m : Nat) : (mvals m 4).Nodup := by
  have key : ∀ b1 b2 b3 b4 : Bool, ((if b1 = true then [(1 : Int)] else []) ++ ((if b2 = true then [(2 : Int)] else []) ++ ((if b3 = true then [(3 : Int)] else []) ++ ((if b4 = true then [(4 : Int)] else []) ++ [])))).Nodup := by decide
  have e : mvals m 4 = (if m.testBit 1 = true then [(1 : Int)] else []) ++ ((if m.testBit 2 = true then [(2 : Int)] else []) ++ ((if m.testBit 3 = true then [(3 : Int)] else []) ++ ((if m.testBit 4 = true then [(4 : Int)] else []) ++ []))) := rfl
  rw [e]
  exact key _ _ _ _
theorem mvals_has {m v : Nat} (h1 : 1 ≤ v) (h4 : v ≤ 4) : (v : Int) ∈ mvals m 4 ↔ m.testBit v = true := by
  unfold mvals
  rw [List.mem_flatMap]
  constructor
  · rintro ⟨u, _, hu⟩
    split at hu
    · rename_i hb
      have : (v : Int) = u := by simpa using hu
      have : v = u := by omega
      rw [this]; exact hb
    · cases hu
  · intro hb
    refine ⟨v, ?_, by rw [if_pos hb]; simp⟩
    have : v = 1 ∨ v = 2 ∨ v = 3 ∨ v = 4 := by omega
    rcases this with rfl | rfl | rfl | rfl <;> decide
theorem cntM_try {p : Puz} (hv : puzzleValid p = true) {ms : List Nat} (hm : MsN ms p.size.toNat) {k : Nat} (hk : k < p.size.toNat * p.size.toNat) : ((mvals (mAt ms k) 4).map fun v => cntM p (ms.set k (2 ^ v.toNat))).sum = cntM p ms := by
  obtain ⟨hp, hg⟩ := puz_facts hv
  have hn := hp.hn
  have hkm : k < ms.length := by rw [hm.len]; exact hk
  have e : ((mvals (mAt ms k) 4).map fun v => cntM p (ms.set k (2 ^ v.toNat))) = (mvals (mAt ms k) 4).map fun v => (((allL p).filter fun s => inMB s ms (p.size.toNat * p.size.toNat)).filter fun s => decide (nth s k = v)).length := by
    refine List.map_congr_left fun v hvm => ?_
    unfold cntM
    rw [List.filter_filter]
    congr 1
    refine List.filter_congr fun s hs => ?_
    have hl := sol_lat hv ((allL_mem hv s).1 hs)
    obtain ⟨u, rfl, u1, u4, hb⟩ := mvals_bit hvm
    have hsv := hl.val hk
    rw [Bool.eq_iff_iff, inMB_iff, Bool.and_eq_true, decide_eq_true_eq, inMB_iff, Int.toNat_natCast]
    constructor
    · intro h
      have h1 := h k hk
      rw [mAt_set hkm, if_pos rfl, Nat.testBit_two_pow] at h1
      have h1 := of_decide_eq_true h1
      refine ⟨by omega, fun j hj => ?_⟩
      by_cases hjk : j = k
      · rw [hjk, ← h1]; exact hb
      · have := h j hj
        rwa [mAt_set hkm, if_neg hjk] at this
    · rintro ⟨h1, h⟩ j hj
      rw [mAt_set hkm]
      split
      · rename_i hjk
        rw [hjk, Nat.testBit_two_pow, decide_eq_true_eq]
        omega
      · exact h j hj
  rw [e]
  refine split_count (fun s => nth s k) (mvals_nodup _) _ fun s hs => ?_
  obtain ⟨hs1, hs2⟩ := List.mem_filter.1 hs
  have hl := sol_lat hv ((allL_mem hv s).1 hs1)
  have hsv := hl.val hk
  rw [hsv.2.2]
  exact (mvals_has hsv.1 (by omega)).2 (inMB_iff.1 hs2 k hk)
theorem tryL_sum {p : Puz} {c : List Nat → List Brn → Option (Nat × List Brn)} {ms : List Nat} {k : Nat} : ∀ (V : List Int) (bs : List Brn) (s : Nat) {m : Nat} {l : List Brn}, (∀ v ∈ V, ∀ bs' m' l', (∃ pre, bs = pre ++ bs') → c (ms.set k (2 ^ v.toNat)) bs' = some (m', l') → m' = cntM p (ms.set k (2 ^ v.toNat)) ∧ ∃ pre, bs' = pre ++ l') → tryL c ms k V bs s = some (m, l) → m = s + (V.map fun v => cntM p (ms.set k (2 ^ v.toNat))).sum
  | [], bs, s, m, l, _, h => by cases h; rfl
  | v :: V, bs, s, m, l, hc, h => by
    unfold tryL at h
    split at h
    · cases h
    rename_i m' l' e
    obtain ⟨h1, pre, h2⟩ := hc v (by simp) bs m' l' ⟨[], rfl⟩ e
    have := tryL_sum V l' (s + m') (fun u hu bs' m2 l2 ⟨pre2, hp2⟩ => hc u (by simp [hu]) bs' m2 l2 ⟨pre ++ pre2, by rw [h2, hp2, List.append_assoc]⟩) h
    rw [this, h1]
    simp only [List.map_cons, List.sum_cons]
    omega
theorem count_all {α : Type} {q : α → Bool} {L : List α} : L.countP q = L.length ↔ ∀ x ∈ L, q x = true := by
  rw [List.countP_eq_length]
theorem solved_sol {p : Puz} (hv : puzzleValid p = true) {xs : List Int} (hg : GrdN xs p.size.toNat) : solvedV p xs = true ↔ xs ∈ allL p := by
  obtain ⟨hp, ha⟩ := puz_facts hv
  have hz : ((p.size.toNat : Nat) : Int) = p.size := (PuzN.of hv).2
  have hgv : gridValid xs p.size = true := by have := hg.valid hp.hn; rwa [hz] at this
  have hlen : p.given.length = xs.length := by rw [ha.len, hg.len]
  have hpos : gridFilled xs p.size = xs.length ↔ ∀ k : Nat, k < xs.length → 0 < nth xs k := by
    unfold gridFilled
    rw [if_pos hgv]
    have e : (((xs.countP fun v => decide (0 < v) : Nat) : Int) = xs.length) ↔ (xs.countP fun v => decide (0 < v)) = xs.length := by omega
    rw [e, count_all]
    constructor
    · intro h k hk
      have := h xs[k] (List.getElem_mem _)
      rw [nth_eq (by omega)]
      exact of_decide_eq_true this
    · intro h x hx
      obtain ⟨i, hi, rfl⟩ := List.getElem_of_mem hx
      have := h i hi
      rw [nth_eq (by omega)] at this
      exact decide_eq_true this
  rw [allL_mem hv]
  unfold solvedV IsSol Full
  rw [hv, hgv, Bool.true_and, Bool.true_and, Bool.and_eq_true, decide_eq_true_eq, hpos]
  constructor
  · rintro ⟨h1, h2⟩
    refine ⟨⟨hg, fun k hk => h2 k (by rw [hg.len]; exact hk)⟩, fun k hk => ?_, h1⟩
    have hc := (fits_parts h1).1
    simp only [clear, decide_eq_true_eq] at hc
    by_cases hkl : k < xs.length
    · have := hc k hkl
      have := h2 k hkl
      omega
    · rw [nth_over (by omega)] at hk; omega
  · rintro ⟨⟨_, h1⟩, _, h2⟩
    exact ⟨h2, fun k hk => h1 k (by rw [← hg.len]; exact hk)⟩
theorem only_in {s : List Int} {ms : List Nat} {n : Nat} (hn : n = 2 ∨ n = 3 ∨ n = 4) (hm : MsN ms n) (hl : Lat s n) (ho : ∀ i : Nat, i < n * n → onlyV (mAt ms i) ≠ 0) : InM s ms (n * n) ↔ s = nats (onlyL ms) := by
  constructor
  · intro h
    refine ext_nth (by rw [nats_len, onlyL_len, hm.len]; exact hl.full.1.len) fun k hk => ?_
    have hk : k < n * n := by rw [← hl.full.1.len]; exact hk
    have h1 := only_of (hm.lt hn k) (ho k hk) (h k hk)
    rw [nth_nats, onlyL_at, (hl.val hk).2.2, h1]
  · rintro rfl k hk
    rw [nth_nats, onlyL_at, Int.toNat_natCast, ((mvals_only (hm.lt hn k)).2 (ho k hk)).2]
    have e : onlyV (2 ^ onlyV (mAt ms k)) = onlyV (mAt ms k) := by rw [← ((mvals_only (hm.lt hn k)).2 (ho k hk)).2]
    rw [e]
    exact Nat.testBit_two_pow_self
theorem cntM_end {p : Puz} (hv : puzzleValid p = true) {ms : List Nat} (hm : MsN ms p.size.toNat) {m : Nat} (h : endM p ms = some m) : cntM p ms = m := by
  obtain ⟨hp, hg⟩ := puz_facts hv
  have hn := hp.hn
  rw [endM_is, hm.len] at h
  unfold cntM
  split at h
  · rename_i h0
    obtain ⟨i, hi, h0⟩ := h0
    cases h
    rw [List.filter_eq_nil_iff.2]
    · rfl
    · intro s hs hin
      have := inMB_iff.1 hin i hi
      rw [h0] at this
      simp at this
  · split at h
    · rename_i _ ho
      cases h
      have hx := onlyL_grd hn hm
      have key : ((allL p).filter fun s => inMB s ms (p.size.toNat * p.size.toNat)).length = (if solvedV p (nats (onlyL ms)) = true then [nats (onlyL ms)] else []).length := by
        refine nodup_eq ((allL_nodup p).filter _) (by split <;> simp) fun s => ?_
        rw [List.mem_filter]
        constructor
        · rintro ⟨h1, h2⟩
          have e := (only_in hn hm (sol_lat hv ((allL_mem hv s).1 h1)) ho).1 (inMB_iff.1 h2)
          rw [← e, if_pos ((solved_sol hv (by rw [e]; exact hx)).2 h1)]
          simp
        · intro h
          split at h
          · rename_i hs
            have e : s = nats (onlyL ms) := by simpa using h
            have h1 := (solved_sol hv hx).1 hs
            rw [e]
            exact ⟨h1, inMB_iff.2 ((only_in hn hm (sol_lat hv ((allL_mem hv _).1 h1)) ho).2 rfl)⟩
          · cases h
      rw [key]
      split <;> rfl
    · cases h
theorem chk_count {p : Puz} (hv : puzzleValid p = true) : ∀ (f : Nat) (ms : List Nat) (bs : List Brn) {m : Nat} {l : List Brn}, MsN ms p.size.toNat → (∀ b ∈ bs, brnOk p.given.length b = true) → chkF p f ms bs = some (m, l) → m = cntM p ms
  | 0, _, _, _, _, _, _, h => by cases h
  | f + 1, ms, bs, m, l, hm, hb, h => by
    obtain ⟨hp, hg⟩ := puz_facts hv
    cases he : endM p ms with
    | some q =>
      rw [chkF_some he] at h
      cases h
      exact (cntM_end hv hm he).symm
    | none =>
      cases bs with
      | nil => rw [chkF_nil he] at h; cases h
      | cons b r =>
        rw [chkF_cons he] at h
        have hrb : ∀ x ∈ r, brnOk p.given.length x = true := fun x hx => hb x (by simp [hx])
        split at h
        · rw [chk_count hv f _ r (narM_ok hm) hrb h, cntM_nar hv _ hm]
        · have hbk := hb b (by simp)
          simp only [brnOk, decide_eq_true_eq] at hbk
          have hk : b.cell.toNat < p.size.toNat * p.size.toNat := by have := hg.len; omega
          have h2 := tryL_sum (p := p) _ _ 0 (fun v hv' bs' m' l' ⟨pre, hpre⟩ hc => by
            have hok := chkF_ok p f (ms.set b.cell.toNat (2 ^ v.toNat)) bs'
            rw [hc] at hok
            exact ⟨chk_count hv f _ bs' (hm.tried hv') (fun x hx => hrb x (by rw [hpre]; simp [hx])) hc, hok.1⟩) h
          rw [h2, Nat.zero_add, cntM_try hv hm hk]
theorem check_count {p : Puz} {pf : List Brn} (h : ¬ checkV p pf < 0) : puzzleValid p = true ∧ checkV p pf = ((allL p).length : Int) := by
  unfold checkV at h ⊢
  split at h
  · rename_i hf
    rw [if_pos hf]
    obtain ⟨hv, h200, hb⟩ := proof_facts hf
    obtain ⟨hp, hg⟩ := puz_facts hv
    refine ⟨hv, ?_⟩
    split at h
    · rename_i n he
      have := chk_count hv 201 (startM p) pf (startM_ok hp hg) hb he
      rw [cntM_start hv] at this
      show ((n : Nat) : Int) = _
      rw [this]
    · omega
  · omega
end Go.Lg

set_option linter.unusedSimpArgs false
set_option linter.unusedVariables false
set_option maxRecDepth 100000
namespace Go.Lg
open Go.Proofs
attribute [-go_sem] appendM lwF_cons
def openK (ms : List Nat) : Nat := ((List.range ms.length).find? fun k => decide (onlyV (mAt ms k) = 0)).getD 0
def mkF (p : Puz) : Nat → List Nat → List Brn → List Brn
  | 0, _, out => out
  | f + 1, ms, out => if 200 < out.length then out else match endM p ms with
    | some _ => out
    | none => if nextM p ms ≠ 0 then mkF p f (narM p (nextM p ms) ms) (out ++ [⟨nextM p ms, 0⟩]) else (mvals (mAt ms (openK ms)) 4).foldl (fun o v => mkF p f (ms.set (openK ms) (2 ^ v.toNat)) o) (out ++ [⟨0, openK ms⟩])
theorem open_facts {p : Puz} {ms : List Nat} (h : endM p ms = none) : openK ms < ms.length ∧ onlyV (mAt ms (openK ms)) = 0 ∧ ∀ i : Nat, i < openK ms → onlyV (mAt ms i) ≠ 0 := by
  rw [endM_is] at h
  split at h
  · cases h
  split at h
  · cases h
  rename_i h1 h2
  simp only [Classical.not_forall] at h2
  obtain ⟨i, hi, hn⟩ := h2
  have hn : onlyV (mAt ms i) = 0 := by omega
  unfold openK
  cases e : (List.range ms.length).find? fun k => decide (onlyV (mAt ms k) = 0) with
  | none =>
    have := List.find?_eq_none.1 e i (List.mem_range.2 hi)
    simp [hn] at this
  | some k =>
    rw [List.find?_eq_some_iff_getElem] at e
    obtain ⟨e1, j, hj, e2, e3⟩ := e
    simp only [List.getElem_range] at e2 e3
    subst e2
    refine ⟨by simpa using hj, by simpa using e1, fun i hi => ?_⟩
    have := e3 i hi
    simpa using this
theorem mkF_fold_len {p : Puz} {f : Nat} (h : ∀ ms out, out.length ≤ 201 → (mkF p f ms out).length ≤ 201) (ms : List Nat) (k : Nat) : ∀ (vs : List Int) (out : List Brn), out.length ≤ 201 → (vs.foldl (fun o v => mkF p f (ms.set k (2 ^ v.toNat)) o) out).length ≤ 201
  | [], out, ho => ho
  | v :: vs, out, ho => mkF_fold_len h ms k vs _ (h _ _ ho)
theorem mkF_len (p : Puz) : ∀ (f : Nat) (ms : List Nat) (out : List Brn), out.length ≤ 201 → (mkF p f ms out).length ≤ 201
  | 0, _, _, h => h
  | f + 1, ms, out, h => by
    unfold mkF
    split
    · exact h
    · rename_i h2
      split
      · exact h
      · split
        · exact mkF_len p f _ _ (by simp; omega)
        · exact mkF_fold_len (mkF_len p f) _ _ _ _ (by simp; omega)
theorem mkF_fold_ge {p : Puz} {f : Nat} (h : ∀ ms out, out.length ≤ (mkF p f ms out).length) (ms : List Nat) (k : Nat) : ∀ (vs : List Int) (out : List Brn), out.length ≤ (vs.foldl (fun o v => mkF p f (ms.set k (2 ^ v.toNat)) o) out).length
  | [], out => Nat.le_refl _
  | v :: vs, out => Nat.le_trans (h _ _) (mkF_fold_ge h ms k vs _)
theorem mkF_ge (p : Puz) : ∀ (f : Nat) (ms : List Nat) (out : List Brn), out.length ≤ (mkF p f ms out).length
  | 0, _, _ => Nat.le_refl _
  | f + 1, ms, out => by
    unfold mkF
    split
    · exact Nat.le_refl _
    · split
      · exact Nat.le_refl _
      · split
        · exact Nat.le_trans (by simp) (mkF_ge p f _ _)
        · exact Nat.le_trans (by simp) (mkF_fold_ge (mkF_ge p f) _ _ _ _)
theorem fold_step {α β : Type} [Inhabited β] {F : α → β → α} {V : List β} {i : Nat} {o : α} (h : i < V.length) : (V.drop i).foldl F o = (V.drop (i + 1)).foldl F (F o (nth V i)) := by
  rw [List.drop_eq_getElem_cons h, nth_eq (by omega)]
  rfl
theorem mkF_full {p : Puz} {f : Nat} {ms : List Nat} {out : List Brn} (h : 200 < out.length) : mkF p f ms out = out := by
  cases f with
  | zero => rfl
  | succ f => unfold mkF; rw [if_pos h]
theorem mkF_end {p : Puz} {f m : Nat} {ms : List Nat} {out : List Brn} (h : endM p ms = some m) : mkF p f ms out = out := by
  cases f with
  | zero => rfl
  | succ f => unfold mkF; rw [h]; split <;> rfl
theorem mkF_go {p : Puz} {f : Nat} {ms : List Nat} {out : List Brn} (h0 : ¬ 200 < out.length) (h : endM p ms = none) : mkF p (f + 1) ms out = if nextM p ms ≠ 0 then mkF p f (narM p (nextM p ms) ms) (out ++ [⟨nextM p ms, 0⟩]) else (mvals (mAt ms (openK ms)) 4).foldl (fun o v => mkF p f (ms.set (openK ms) (2 ^ v.toNat)) o) (out ++ [⟨0, openK ms⟩]) := by
  conv => lhs; unfold mkF
  rw [if_neg h0, h]
abbrev brnH (g : Nat) (b : Brn) : Heap := [some ⟨g, 2, cB b⟩]
def mkQ (H : Heap) (id : Nat) (R : List Brn) : KV := fun v H' => ∃ g', v = .c (.own id g' 0 R.length none) ∧ look H' id g' = some ⟨g', 2, cl eB R⟩ ∧ Frm H H' [id]
structure MkI (H HI : Heap) (id g gb : Nat) (p : Puz) (out : List Brn) : Prop where
  cells : look HI id g = some ⟨g, 2, cl eB out⟩
  box : look HI H.length gb = some ⟨gb, 1, cP p⟩
  lt : id < H.length
  ln : H.length + 1 ≤ HI.length
  frm : ∀ i, i < H.length → i ≠ id → HI[i]? = H[i]?
theorem MkI.done {H HI : Heap} {id g gb : Nat} {p : Puz} {out : List Brn} (h : MkI H HI id g gb p out) : lessQ HI (mkQ H id out) (.c (.own id g 0 out.length none)) := by
  have hl := h.lt
  have hn := h.ln
  refine ⟨HI.take H.length, fun i b hb => ?_, g, rfl, ?_, by simp; omega, fun i hi => ?_⟩
  · by_cases hi : i < H.length
    · rwa [List.getElem?_take_of_lt hi] at hb
    · rw [List.getElem?_take_eq_none (by omega)] at hb; cases hb
  · have hc := h.cells
    unfold look at hc ⊢
    rw [List.getElem?_take_of_lt hl]
    exact hc
  · by_cases h2 : i < H.length
    · rw [List.getElem?_take_of_lt h2, h.frm i h2 (by simpa using hi)]
    · rw [List.getElem?_take_eq_none (by omega), List.getElem?_eq_none (by omega)]
theorem MkI.app {H HI H' : Heap} {id g gb : Nat} {p : Puz} {out : List Brn} (h : MkI H HI id g gb p out) : MkI H (HI ++ H') id g gb p out :=
  ⟨look_appL h.cells, look_appL h.box, h.lt, by have := h.ln; simp; omega, fun i h1 h2 => by rw [List.getElem?_append_left (by have := h.ln; omega)]; exact h.frm i h1 h2⟩
theorem MkI.put {H HI : Heap} {id g gb : Nat} {p : Puz} {out R : List Brn} (h : MkI H HI id g gb p out) (g' : Nat) : MkI H (HI.set id (some ⟨g', 2, cl eB R⟩)) id g' gb p R := by
  have hl := h.lt
  have hn := h.ln
  refine ⟨?_, ?_, hl, by simp; omega, fun i h1 h2 => by rw [List.getElem?_set_ne (Ne.symm h2)]; exact h.frm i h1 h2⟩
  · unfold look
    rw [List.getElem?_set_self (by omega)]
    simp
  · have hb := h.box
    unfold look at hb ⊢
    rw [List.getElem?_set_ne (by omega)]
    exact hb
theorem MkI.step {H HI H' : Heap} {id g g' gb : Nat} {p : Puz} {out R : List Brn} (h : MkI H HI id g gb p out) (hf : Frm HI H' [id]) (hc : look H' id g' = some ⟨g', 2, cl eB R⟩) : MkI H H' id g' gb p R := by
  have hl := h.lt
  have hn := h.ln
  refine ⟨hc, ?_, hl, by rw [hf.1]; exact hn, fun i h1 h2 => by rw [hf.2 i (by simpa using h2)]; exact h.frm i h1 h2⟩
  have hb := h.box
  unfold look at hb ⊢
  rw [hf.2 _ (by simp; omega)]
  exact hb
theorem lines1_run (m : Nat) (hm : m ≤ 30) : Reads Try.prog 130 [int m] (bool (decide (onlyV m = 0))) := by
  have e : decide (onlyV m = 0) = decide (((onlyV m : Nat) : Int) = 0) := by rw [decide_eq_decide]; omega
  rw [e]
  refine RunCall.cw (c := _) Try.func130 rfl (n := 6) Try.ntmps130 (rs := [.tmp 2]) rfl ?_
  simp only [List.length_cons, List.length_nil, Nat.reduceAdd, Nat.reduceSub, List.replicate, List.cons_append, List.nil_append]
  simp(maxSteps:=999999)(disch:=omega)only[go_sem,reduceAdd,reduceMul,reduceSub,reduceEqDiff,reduceLeDiff]
  first | refine OpS.rd (onlyValue_run m hm) (⟨_, Try.func86, rfl, rfl⟩ : Enters Try.prog 86) rfl rfl rfl rfl ?_ | refine Loud.rd (onlyValue_run m hm) (⟨_, Try.func86, rfl, rfl⟩ : Enters Try.prog 86) rfl rfl rfl rfl ?_
  simp(maxSteps:=999999)(disch:=omega)only[go_sem,reduceAdd,reduceMul,reduceSub,reduceEqDiff,reduceLeDiff]
theorem IndexFunc_run {n : Nat} (hn : n = 2 ∨ n = 3 ∨ n = 4) (ms : List Nat) (hm : MsN ms n) (k : Nat) (hk : k < ms.length) (h0 : onlyV (mAt ms k) = 0) (hlt : ∀ i : Nat, i < k → onlyV (mAt ms i) ≠ 0) : Reads Try.prog 129 [ints (nats ms), .c (.fn 130 [])] (int k) := by
  have hsq : 4 ≤ n * n ∧ n * n ≤ 16 := by rcases hn with rfl | rfl | rfl <;> omega
  have hl : (nats ms).length = n * n := by rw [nats_len]; exact hm.len
  have hlm := hm.len
  refine RunCall.cw (c := _) Try.func129 rfl (n := 19) Try.ntmps129 (rs := [.tmp 4]) rfl ?_
  simp only [List.length_cons, List.length_nil, Nat.reduceAdd, Nat.reduceSub, List.replicate, List.cons_append, List.nil_append]
  simp(maxSteps:=999999)(disch:=omega)only[go_sem,reduceAdd,reduceMul,reduceSub,reduceEqDiff,reduceLeDiff]
  refine loop_rule (fun i : Nat => n * n - i) (fun i => i ≤ k) (fun i => [.k, .k, .a, .a, .a, .a, .a, .k, .p (int i), .a, .a, .a, .a, .a, .a, .a, .a, .a, .a]) (fun _ => []) 0 (Nat.zero_le _) (by simp(maxSteps:=999999)(disch:=omega)only[go_sem,reduceAdd,reduceMul,reduceSub,reduceEqDiff,reduceLeDiff]; rfl) (hle_nil _) ?_
  intro i hi
  simp(maxSteps:=999999)(disch:=omega)only[go_sem,reduceAdd,reduceMul,reduceSub,reduceEqDiff,reduceLeDiff]
  ((first | with_reducible refine condK_dec ?_ ?_ | with_reducible refine condK_ndec ?_ ?_ | with_reducible refine condK_nb ?_ ?_ | refine condK_b ?_ ?_) <;> intro c1)
  rotate_left
  · exfalso; omega
  have c1 : i < n * n := by omega
  have hni := nth_nats ms i
  have hmi := hm.lt hn i
  simp(maxSteps:=999999)(disch:=omega)only[go_sem,reduceAdd,reduceMul,reduceSub,reduceEqDiff,reduceLeDiff, hni]
  first | refine OpS.rd (lines1_run (mAt ms i) hmi.1) (⟨_, Try.func130, rfl, rfl⟩ : Enters Try.prog 130) rfl rfl rfl rfl ?_ | refine Loud.rd (lines1_run (mAt ms i) hmi.1) (⟨_, Try.func130, rfl, rfl⟩ : Enters Try.prog 130) rfl rfl rfl rfl ?_
  simp(maxSteps:=999999)(disch:=omega)only[go_sem,reduceAdd,reduceMul,reduceSub,reduceEqDiff,reduceLeDiff]
  ((first | with_reducible refine condK_dec ?_ ?_ | with_reducible refine condK_ndec ?_ ?_ | with_reducible refine condK_nb ?_ ?_ | refine condK_b ?_ ?_) <;> intro c2)
  · have hik : i = k := by
      by_cases h : i = k
      · exact h
      · exact absurd c2 (hlt i (by omega))
    simp(maxSteps:=999999)(disch:=omega)only[go_sem,reduceAdd,reduceMul,reduceSub,reduceEqDiff,reduceLeDiff]
    rw [hik]
  · have hik : i ≠ k := fun h => c2 (by rw [h]; exact h0)
    simp(maxSteps:=999999)(disch:=omega)only[go_sem,reduceAdd,reduceMul,reduceSub,reduceEqDiff,reduceLeDiff]
    exact ⟨i + 1, by omega, by first | rfl | (push_cast; rfl), HLe.refl _⟩
set_option maxHeartbeats 4000000 in
theorem makeLines_run {p : Puz} {n : Nat} (hp : PuzN p n) (hv : puzzleValid p = true) : ∀ (F : Nat) (ms : List Nat) (out : List Brn) (H : Heap) (id g : Nat), MsN ms n → 201 ≤ out.length + F → out.length ≤ 201 → look H id g = some ⟨g, 2, cl eB out⟩ → RunCall Try.prog 90 [aP p, ints (nats ms), .c (.own id g 0 out.length none)] H (mkQ H id (mkF p F ms out)) := by
  intro F
  induction F using Nat.strongRecOn with
  | ind F ih =>
  intro ms out H id g hm hF ho hl
  have hn := hp.hn
  have hsq : 4 ≤ n * n ∧ n * n ≤ 16 := by rcases hn with rfl | rfl | rfl <;> omega
  have hlt : id < H.length := (List.getElem?_eq_some_iff.1 (look_some hl).1).1
  obtain ⟨R, hR⟩ : ∃ R, R = mkF p F ms out := ⟨_, rfl⟩
  rw [← hR]
  refine RunCall.cw (c := _) Try.func90 rfl (n := 66) Try.ntmps90 (rs := [.tmp 6]) rfl ?_
  simp only [List.length_cons, List.length_nil, Nat.reduceAdd, Nat.reduceSub, List.replicate, List.cons_append, List.nil_append]
  simp(maxSteps:=999999)(disch:=omega)only[go_sem,reduceAdd,reduceMul,reduceSub,reduceEqDiff,reduceLeDiff]
  intro gb
  refine loop_rule2 (fun (f : Nat) (b : List Nat × List Brn × Nat × Heap) => f) (fun f b => f ≤ F ∧ MsN b.1 n ∧ 201 ≤ b.2.1.length + f ∧ b.2.1.length ≤ 201 ∧ mkF p f b.1 b.2.1 = R ∧ MkI H b.2.2.2 id b.2.2.1 gb p b.2.1) (fun f b => [.a, .p (ints (nats b.1)), .p (.c (.own id b.2.2.1 0 b.2.1.length none)), .k, .a, .a, .a, .a, .a, .a, .a, .a, .a, .a, .a, .a, .a, .a, .a, .a, .a, .a, .a, .a, .a, .a, .a, .a, .a, .a, .a, .a, .a, .a, .a, .a, .a, .a, .a, .a, .a, .a, .a, .a, .a, .a, .a, .a, .a, .a, .a, .a, .a, .a, .a, .a, .a, .a, .a, .a, .a, .a, .a, .a, .a, .a]) (fun f b => b.2.2.2) F (ms, out, g, H ++ [some ⟨gb, 1, cP p⟩]) ⟨Nat.le_refl _, hm, hF, ho, hR.symm, ⟨look_appL hl, look_last, hlt, by simp, fun i h1 h2 => List.getElem?_append_left h1⟩⟩ (by simp(maxSteps:=999999)(disch:=omega)only[go_sem,reduceAdd,reduceMul,reduceSub,reduceEqDiff,reduceLeDiff]) (HLe.refl _) ?_
  rintro f ⟨ns, os, g2, HI⟩ ⟨hf, hns, hos, hol, hC, q⟩
  simp only at hns hos hol hC q ⊢
  have qc := q.cells
  have qb := q.box
  have hnl : (nats ns).length = n * n := by rw [nats_len]; exact hns.len
  have hnl2 := hns.len
  simp(maxSteps:=999999)(disch:=omega)only[go_sem,reduceAdd,reduceMul,reduceSub,reduceEqDiff,reduceLeDiff, qc]
  ((first | with_reducible refine condK_dec ?_ ?_ | with_reducible refine condK_ndec ?_ ?_ | with_reducible refine condK_nb ?_ ?_ | refine condK_b ?_ ?_) <;> intro c1)
  rotate_left
  · rw [mkF_full (by omega)] at hC
    subst hC
    simp(maxSteps:=999999)(disch:=omega)only[go_sem,reduceAdd,reduceMul,reduceSub,reduceEqDiff,reduceLeDiff]
    exact q.done
  have c1 : ¬ 200 < os.length := by omega
  obtain ⟨f, rfl⟩ : ∃ f', f = f' + 1 := ⟨f - 1, by omega⟩
  simp(maxSteps:=999999)(disch:=omega)only[go_sem,reduceAdd,reduceMul,reduceSub,reduceEqDiff,reduceLeDiff, qb]
  first | refine OpS.mk (masksEnd_run hp ns hns) (⟨_, Try.func128, rfl, rfl⟩ : Enters Try.prog 128) rfl rfl rfl rfl rfl ?_ | refine Loud.mk (masksEnd_run hp ns hns) (⟨_, Try.func128, rfl, rfl⟩ : Enters Try.prog 128) rfl rfl rfl rfl rfl ?_
  simp(maxSteps:=999999)(disch:=omega)only[go_sem,reduceAdd,reduceMul,reduceSub,reduceEqDiff,reduceLeDiff]
  cases he : endM p ns with
  | some m =>
    rw [mkF_end he] at hC
    subst hC
    simp(maxSteps:=999999)(disch:=omega)only[go_sem,reduceAdd,reduceMul,reduceSub,reduceEqDiff,reduceLeDiff]
    exact q.done
  | none =>
    rw [mkF_go c1 he] at hC
    simp(maxSteps:=999999)(disch:=omega)only[go_sem,reduceAdd,reduceMul,reduceSub,reduceEqDiff,reduceLeDiff, qb]
    first | refine OpS.mk (nextRound_run hp hv ns hns) (⟨_, Try.func85, rfl, rfl⟩ : Enters Try.prog 85) rfl rfl rfl rfl rfl ?_ | refine Loud.mk (nextRound_run hp hv ns hns) (⟨_, Try.func85, rfl, rfl⟩ : Enters Try.prog 85) rfl rfl rfl rfl rfl ?_
    simp(maxSteps:=999999)(disch:=omega)only[go_sem,reduceAdd,reduceMul,reduceSub,reduceEqDiff,reduceLeDiff]
    have hnm := nextM_le p ns
    ((first | with_reducible refine condK_dec ?_ ?_ | with_reducible refine condK_ndec ?_ ?_ | with_reducible refine condK_nb ?_ ?_ | refine condK_b ?_ ?_) <;> intro c2)
    · have c2 : nextM p ns ≠ 0 := by omega
      rw [if_pos c2] at hC
      rw [if_neg c2]
      simp(maxSteps:=999999)(disch:=omega)only[go_sem,reduceAdd,reduceMul,reduceSub,reduceEqDiff,reduceLeDiff]
      intro g35
      have q1 := q.app (H' := brnH g35 ⟨(nextM p ns : Nat), 0⟩)
      refine appendM_own (E := eB) (xs := os) (ys := [⟨(nextM p ns : Nat), 0⟩]) (sliceOf_of' ti60 rfl ti103) ⟨rfl, rfl, by decide, by decide⟩ rfl q1.cells ⟨by omega, by simp⟩ (elems_own (xs := [(⟨(nextM p ns : Nat), 0⟩ : Brn)]) look_last) ?_
      intro g'
      have q2 := q1.put (R := os ++ [⟨(nextM p ns : Nat), 0⟩]) g'
      obtain ⟨HJ, hHJ⟩ : ∃ HJ : Heap, HJ = (HI ++ brnH g35 ⟨(nextM p ns : Nat), 0⟩).set id (some ⟨g', 2, cl eB (os ++ [⟨(nextM p ns : Nat), 0⟩])⟩) := ⟨_, rfl⟩
      rw [← hHJ] at q2
      rw [← hHJ]
      simp(maxSteps:=999999)(disch:=omega)only[go_sem,reduceAdd,reduceMul,reduceSub,reduceEqDiff,reduceLeDiff]
      exact ⟨f, (narM p (nextM p ns) ns, os ++ [⟨(nextM p ns : Nat), 0⟩], g', HJ), ⟨⟨by omega, narM_ok hns, by simp; omega, by simp; omega, hC, q2⟩, by omega⟩, by simp, HLe.refl _⟩
    · have c2 : ¬ nextM p ns ≠ 0 := by omega
      rw [if_neg c2] at hC
      obtain ⟨k1, k2, k3⟩ := open_facts he
      obtain ⟨k, hk⟩ : ∃ k, k = openK ns := ⟨_, rfl⟩
      rw [← hk] at k1 k2 k3 hC
      simp(maxSteps:=999999)(disch:=omega)only[go_sem,reduceAdd,reduceMul,reduceSub,reduceEqDiff,reduceLeDiff]
      first | refine OpS.mk (IndexFunc_run hn ns hns k k1 k2 k3) (⟨_, Try.func129, rfl, rfl⟩ : Enters Try.prog 129) rfl rfl rfl rfl rfl ?_ | refine Loud.mk (IndexFunc_run hn ns hns k k1 k2 k3) (⟨_, Try.func129, rfl, rfl⟩ : Enters Try.prog 129) rfl rfl rfl rfl rfl ?_
      simp(maxSteps:=999999)(disch:=omega)only[go_sem,reduceAdd,reduceMul,reduceSub,reduceEqDiff,reduceLeDiff]
      intro g44
      have q1 := q.app (H' := brnH g44 ⟨0, k⟩)
      refine appendM_own (E := eB) (xs := os) (ys := [(⟨0, k⟩ : Brn)]) (sliceOf_of' ti60 rfl ti103) ⟨rfl, rfl, by decide, by decide⟩ rfl q1.cells ⟨by omega, by simp⟩ (elems_own (xs := [(⟨0, k⟩ : Brn)]) look_last) ?_
      intro g'
      have q2 := q1.put (R := os ++ [(⟨0, k⟩ : Brn)]) g'
      obtain ⟨HJ, hHJ⟩ : ∃ HJ : Heap, HJ = (HI ++ brnH g44 ⟨0, k⟩).set id (some ⟨g', 2, cl eB (os ++ [(⟨0, k⟩ : Brn)])⟩) := ⟨_, rfl⟩
      rw [← hHJ] at q2
      rw [← hHJ]
      clear hHJ q1
      have hnk := nth_nats ns k
      have hmk := hns.lt hn k
      have hvl := mvals_len (mAt ns k) 4
      have hkn : k < n * n := by omega
      obtain ⟨os1, hos1⟩ : ∃ os1, os1 = os ++ [(⟨0, k⟩ : Brn)] := ⟨_, rfl⟩
      have hl1 : os1.length = os.length + 1 := by rw [hos1]; simp
      rw [← hos1] at hC q2
      simp(maxSteps:=999999)(disch:=omega)only[go_sem,reduceAdd,reduceMul,reduceSub,reduceEqDiff,reduceLeDiff, hnk]
      first | refine OpS.mk (iMaskValues_run (mAt ns k) hmk) (⟨_, Try.func131, rfl, rfl⟩ : Enters Try.prog 131) rfl rfl rfl rfl rfl ?_ | refine Loud.mk (iMaskValues_run (mAt ns k) hmk) (⟨_, Try.func131, rfl, rfl⟩ : Enters Try.prog 131) rfl rfl rfl rfl rfl ?_
      simp(maxSteps:=999999)(disch:=omega)only[go_sem,reduceAdd,reduceMul,reduceSub,reduceEqDiff,reduceLeDiff]
      obtain ⟨V, hV⟩ : ∃ V, V = mvals (mAt ns k) 4 := ⟨_, rfl⟩
      rw [← hV] at hC hvl ⊢
      refine loop_rule2 (fun (i : Nat) (b : List Brn × Nat × Heap) => V.length - i) (fun i b => i ≤ V.length ∧ 201 ≤ b.1.length + f ∧ b.1.length ≤ 201 ∧ (V.drop i).foldl (fun o v => mkF p f (ns.set k (2 ^ v.toNat)) o) b.1 = R ∧ MkI H b.2.2 id b.2.1 gb p b.1) (fun i b => [.a, .k, .p (.c (.own id b.2.1 0 b.1.length none)), .k, .a, .a, .a, .a, .a, .a, .a, .k, .a, .a, .a, .a, .a, .a, .a, .a, .a, .a, .a, .a, .a, .a, .a, .a, .a, .a, .a, .a, .a, .a, .a, .a, .a, .a, .a, .a, .a, .a, .a, .a, .a, .a, .a, .a, .a, .a, .k, .k, .p (int i), .a, .a, .a, .a, .a, .a, .a, .a, .a, .a, .a, .a, .a]) (fun _ b => b.2.2) 0 (os1, g', HJ) ⟨Nat.zero_le _, by show 201 ≤ os1.length + f; omega, by show os1.length ≤ 201; omega, hC, q2⟩ (by simp(maxSteps:=999999)(disch:=omega)only[go_sem,reduceAdd,reduceMul,reduceSub,reduceEqDiff,reduceLeDiff]; first | (rw [hl1]; done) | (rw [hl1]; rfl) | exact ⟨by rw [hl1], rfl⟩ | trace_state) (HLe.refl _) ?_
      rintro i ⟨o2, g2, HI⟩ ⟨hi, hb1, hb2, hT, q⟩
      simp only at hb1 hb2 hT q ⊢
      have qc := q.cells
      have qb := q.box
      simp(maxSteps:=999999)(disch:=omega)only[go_sem,reduceAdd,reduceMul,reduceSub,reduceEqDiff,reduceLeDiff]
      ((first | with_reducible refine condK_dec ?_ ?_ | with_reducible refine condK_ndec ?_ ?_ | with_reducible refine condK_nb ?_ ?_ | refine condK_b ?_ ?_) <;> intro c3)
      · have c3 : i < V.length := by omega
        rw [fold_step c3] at hT
        have hvm : nth V (i : Int) ∈ mvals (mAt ns k) 4 := by rw [← hV, nth_eq (by omega)]; exact List.getElem_mem _
        obtain ⟨v, hv1, hv2, hv3, _⟩ := mvals_bit hvm
        have hmt := hns.tried hvm
        rw [hv1, Int.toNat_natCast] at hT hmt
        have hcl := ih f (by omega) (ns.set k (2 ^ v)) o2 HI id g2 hmt (by omega) hb2 qc
        have hge := mkF_ge p f (ns.set k (2 ^ v)) o2
        have hle := mkF_len p f (ns.set k (2 ^ v)) o2 hb2
        have hqn := q.ln
        have hql := q.lt
        simp(maxSteps:=999999)(disch:=omega)only[go_sem,reduceAdd,reduceMul,reduceSub,reduceEqDiff,reduceLeDiff, hv1]
        have hM : look (mask (hideM id HI.length (HI.length + 1)) HI) H.length gb = some ⟨gb, 1, cP p⟩ := by rw [look_mask (hideM_no (by omega) (by omega))]; exact qb
        refine drawP_lM [0, 1, 2, 3, 5, 4] [] none [6, 7] (hideM id HI.length (HI.length + 1)) [0, 0, 0, 0, 14, 0, 63, 127] foll (by kernel_rfl) ?_
        iterate 5 (rw [lwF_cons]; simp(maxSteps:=999999)(disch:=omega)only[go_sem,reduceAdd,reduceMul,reduceSub,reduceEqDiff,reduceLeDiff, hM])
        rw [lwF_cons]
        simp(maxSteps:=999999)(disch:=omega)only[go_sem,reduceAdd,reduceMul,reduceSub,reduceEqDiff,reduceLeDiff]
        first | refine OpS.mk (tried_run hn ns hns k v hkn hv3) (⟨_, Try.func132, rfl, rfl⟩ : Enters Try.prog 132) rfl rfl rfl rfl rfl ?_ | refine Loud.mk (tried_run hn ns hns k v hkn hv3) (⟨_, Try.func132, rfl, rfl⟩ : Enters Try.prog 132) rfl rfl rfl rfl rfl ?_
        simp(maxSteps:=999999)(disch:=omega)only[go_sem,reduceAdd,reduceMul,reduceSub,reduceEqDiff,reduceLeDiff]
        refine OpS.run hcl (⟨_, Try.func90, rfl, rfl⟩ : Enters Try.prog 90) rfl rfl ?_
        rintro _ H' ⟨g3, rfl, hc3, f3⟩
        have q3 := q.step f3 hc3
        simp(maxSteps:=999999)(disch:=omega)only[go_sem,reduceAdd,reduceMul,reduceSub,reduceEqDiff,reduceLeDiff]
        exact ⟨i + 1, (mkF p f (ns.set k (2 ^ v)) o2, g3, H'), ⟨⟨by omega, by show 201 ≤ (mkF p f (ns.set k (2 ^ v)) o2).length + f; omega, hle, hT, q3⟩, by omega⟩, by first | rfl | exact ⟨rfl, rfl⟩ | (push_cast; simp), HLe.refl _⟩
      · have c3 : V.length ≤ i := by omega
        rw [List.drop_eq_nil_of_le c3] at hT
        subst hT
        simp(maxSteps:=999999)(disch:=omega)only[go_sem,reduceAdd,reduceMul,reduceSub,reduceEqDiff,reduceLeDiff]
        exact q.done
end Go.Lg
