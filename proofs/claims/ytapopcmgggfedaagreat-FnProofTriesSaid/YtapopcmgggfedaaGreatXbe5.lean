/- GpNE, GpQA, cut to what is needed. -/
import Derived.Test.YtapopcmgggfedaaGreatXbe3
import Derived.Test.YtapopcmgggfedaaGreatXbe4
open Nat renaming reduceAdd → zA, reduceMul → zM, reduceSub → zS, reduceEqDiff → zE, reduceLeDiff → zL
set_option linter.unusedSimpArgs false
set_option linter.unusedVariables false
set_option maxRecDepth 100000
namespace Go.Lg
open Go.Proofs
def SubM (a b : List Nat) : Prop := ∀ k i : Nat, (mAt a k).testBit i = true → (mAt b k).testBit i = true
theorem SubM.refl (a : List Nat) : SubM a a := fun _ _ h => h
theorem SubM.trans {a b c : List Nat} (h : SubM a b) (g : SubM b c) : SubM a c := fun k i x => g k i (h k i x)
theorem set_subM {o ms : List Nat} {c v : Nat} (h : SubM o ms) (hv : ∀ i, v.testBit i = true → (mAt ms c).testBit i = true) : SubM (o.set c v) ms := fun k i hb => by
  by_cases hc : c < o.length
  · rw [mAt_set hc] at hb
    split at hb
    · rename_i hk; rw [hk]; exact hv i hb
    · exact h k i hb
  · rw [List.set_eq_of_length_le (by omega)] at hb; exact h k i hb
theorem putR_sub (r : Rul) (ms : List Nat) : ∀ j, j ≤ r.cells.length → SubM (putR r (ruleM r (nats ms)) ms j) ms
  | 0, _ => SubM.refl ms
  | j + 1, hj => by
    rw [putR_succ]
    exact set_subM (putR_sub r ms j (by omega)) fun i hb => (ruleM_at (by omega) hb).2
theorem foldS_sub : ∀ (rs : List Rul) (ms : List Nat), SubM (rs.foldl rulS ms) ms
  | [], ms => SubM.refl ms
  | r :: rs, ms => (foldS_sub rs (rulS ms r)).trans (putR_sub r ms _ (Nat.le_refl _))
theorem clrL_sub {R : List (Nat × Nat)} {n : Nat} (hn : n = 2 ∨ n = 3 ∨ n = 4) {ms : List Nat} (hm : MsN ms n) : SubM (clrL R ms) ms := fun k i hb => by
  by_cases hk : k < ms.length
  · rw [clrL_bit (fun k => by have := (hm.lt hn k).1; omega) hk, Bool.and_eq_true] at hb
    exact hb.1
  · rw [mAt_over (by rw [clrL_len]; omega)] at hb
    simp at hb
theorem narM_subM {p : Puz} {n : Nat} (hn : n = 2 ∨ n = 3 ∨ n = 4) (t : Nat) {ms : List Nat} (hm : MsN ms n) : SubM (narM p t ms) ms := by
  unfold narM sglM hidM parM rulM
  split
  · exact clrL_sub hn hm
  split
  · exact clrL_sub hn hm
  split
  · exact clrL_sub hn hm
  · exact foldS_sub _ _
def inMB (s : List Int) (ms : List Nat) (N : Nat) : Bool := (List.range N).all fun k => (mAt ms k).testBit (nth s k).toNat
theorem inMB_iff {s : List Int} {ms : List Nat} {N : Nat} : inMB s ms N = true ↔ InM s ms N := by
  unfold inMB InM
  rw [List.all_eq_true]
  exact ⟨fun h k hk => h k (List.mem_range.2 hk), fun h k hk => h k (List.mem_range.1 hk)⟩
def cntM (p : Puz) (ms : List Nat) : Nat := ((allL p).filter fun s => inMB s ms (p.size.toNat * p.size.toNat)).length
theorem cntM_start {p : Puz} (hv : puzzleValid p = true) : cntM p (startM p) = (allL p).length := by
  obtain ⟨hp, hg⟩ := puz_facts hv
  unfold cntM
  rw [List.filter_eq_self.2]
  intro s hs
  have h := (allL_mem hv s).1 hs
  exact inMB_iff.2 (startM_in (sol_lat hv h) hp hg h.2.1)
theorem cntM_nar {p : Puz} (hv : puzzleValid p = true) {ms : List Nat} (t : Nat) (hm : MsN ms p.size.toNat) : cntM p (narM p t ms) = cntM p ms := by
  obtain ⟨hp, hg⟩ := puz_facts hv
  unfold cntM
  congr 1
  refine List.filter_congr fun s hs => ?_
  have h := (allL_mem hv s).1 hs
  rw [Bool.eq_iff_iff, inMB_iff, inMB_iff]
  constructor
  · exact fun h1 k hk => narM_subM hp.hn t hm k _ (h1 k hk)
  · exact fun h1 => nar_in (sol_lat hv h) hp (fits_parts h.2.2).2.1 hm h1
theorem one_of {V : List Int} {w : Int} (hn : V.Nodup) (hw : w ∈ V) : (V.map fun v => if w = v then 1 else 0).sum = 1 := by
  induction V with
  | nil => cases hw
  | cons v V ih =>
    rw [List.nodup_cons] at hn
    simp only [List.map_cons, List.sum_cons]
    by_cases h : w = v
    · subst h
      rw [if_pos rfl]
      have : (V.map fun v => if w = v then 1 else 0).sum = 0 := by
        have : ∀ U : List Int, w ∉ U → (U.map fun v => if w = v then 1 else 0).sum = 0 := by
          intro U
          induction U with
          | nil => intro _; rfl
          | cons u U ih2 =>
            intro hu
            simp only [List.mem_cons, not_or] at hu
            simp only [List.map_cons, List.sum_cons]
            rw [if_neg hu.1, ih2 hu.2]
        exact this V hn.1
      rw [this]
    · rw [if_neg h, ih hn.2 (by rcases List.mem_cons.1 hw with e | e; exact absurd e h; exact e)]
theorem sum_map_add {V : List Int} (f g : Int → Nat) : (V.map fun v => f v + g v).sum = (V.map f).sum + (V.map g).sum := by
  induction V with
  | nil => rfl
  | cons v V ih => simp only [List.map_cons, List.sum_cons, ih]; omega
theorem split_count {α : Type} (f : α → Int) {V : List Int} (hn : V.Nodup) : ∀ (L : List α), (∀ x ∈ L, f x ∈ V) → (V.map fun v => (L.filter fun x => decide (f x = v)).length).sum = L.length
  | [], _ => by
    have : ∀ U : List Int, (U.map fun _ => (0 : Nat)).sum = 0 := by
      intro U; induction U with
      | nil => rfl
      | cons u U ih => simp [ih]
    exact this V
  | x :: L, h => by
    have e : (V.map fun v => ((x :: L).filter fun x => decide (f x = v)).length) = V.map fun v => (if f x = v then 1 else 0) + (L.filter fun x => decide (f x = v)).length := by
      refine List.map_congr_left fun v _ => ?_
      rw [List.filter_cons]
      by_cases hx : f x = v
      · rw [if_pos (decide_eq_true hx), if_pos hx, List.length_cons]; omega
      · rw [if_neg (by simpa using hx), if_neg hx]; omega
    rw [e, sum_map_add, one_of hn (h x (by simp)), split_count f hn L fun y hy => h y (by simp [hy]), List.length_cons]
    omega
theorem mvals_nodup (m : Nat) : (mvals m 4).Nodup := by
  have key : ∀ b1 b2 b3 b4 : Bool, ((if b1 = true then [(1 : Int)] else []) ++ ((if b2 = true then [(2 : Int)] else []) ++ ((if b3 = true then [(3 : Int)] else []) ++ ((if b4 = true then [(4 : Int)] else []) ++ [])))).Nodup := by decide
  have e : mvals m 4 = (if m.testBit 1 = true then [(1 : Int)] else []) ++ ((if m.testBit 2 = true then [(2 : Int)] else []) ++ ((if m.testBit 3 = true then [(3 : Int)] else []) ++ ((if m.testBit 4 = true then [(4 : Int)] else []) ++ []))) := rfl
  rw [e]
  exact key _ _ _ _
theorem mvals_has {m v : Nat} (h1 : 1 ≤ v) (h4 : v ≤ 4) : (v : Int) ∈ mvals m 4 ↔ m.testBit v = true := by
  unfold mvals
  rw [List.mem_flatMap]
  constructor
  · rintro ⟨u, _, hu⟩
    split at hu
    · rename_i hb
      have : (v : Int) = u := by simpa using hu
      have : v = u := by omega
      rw [this]; exact hb
    · cases hu
  · intro hb
    refine ⟨v, ?_, by rw [if_pos hb]; simp⟩
    have : v = 1 ∨ v = 2 ∨ v = 3 ∨ v = 4 := by omega
    rcases this with rfl | rfl | rfl | rfl <;> decide
theorem cntM_try {p : Puz} (hv : puzzleValid p = true) {ms : List Nat} (hm : MsN ms p.size.toNat) {k : Nat} (hk : k < p.size.toNat * p.size.toNat) : ((mvals (mAt ms k) 4).map fun v => cntM p (ms.set k (2 ^ v.toNat))).sum = cntM p ms := by
  obtain ⟨hp, hg⟩ := puz_facts hv
  have hn := hp.hn
  have hkm : k < ms.length := by rw [hm.len]; exact hk
  have e : ((mvals (mAt ms k) 4).map fun v => cntM p (ms.set k (2 ^ v.toNat))) = (mvals (mAt ms k) 4).map fun v => (((allL p).filter fun s => inMB s ms (p.size.toNat * p.size.toNat)).filter fun s => decide (nth s k = v)).length := by
    refine List.map_congr_left fun v hvm => ?_
    unfold cntM
    rw [List.filter_filter]
    congr 1
    refine List.filter_congr fun s hs => ?_
    have hl := sol_lat hv ((allL_mem hv s).1 hs)
    obtain ⟨u, rfl, u1, u4, hb⟩ := mvals_bit hvm
    have hsv := hl.val hk
    rw [Bool.eq_iff_iff, inMB_iff, Bool.and_eq_true, decide_eq_true_eq, inMB_iff, Int.toNat_natCast]
    constructor
    · intro h
      have h1 := h k hk
      rw [mAt_set hkm, if_pos rfl, Nat.testBit_two_pow] at h1
      have h1 := of_decide_eq_true h1
      refine ⟨by omega, fun j hj => ?_⟩
      by_cases hjk : j = k
      · rw [hjk, ← h1]; exact hb
      · have := h j hj
        rwa [mAt_set hkm, if_neg hjk] at this
    · rintro ⟨h1, h⟩ j hj
      rw [mAt_set hkm]
      split
      · rename_i hjk
        rw [hjk, Nat.testBit_two_pow, decide_eq_true_eq]
        omega
      · exact h j hj
  rw [e]
  refine split_count (fun s => nth s k) (mvals_nodup _) _ fun s hs => ?_
  obtain ⟨hs1, hs2⟩ := List.mem_filter.1 hs
  have hl := sol_lat hv ((allL_mem hv s).1 hs1)
  have hsv := hl.val hk
  rw [hsv.2.2]
  exact (mvals_has hsv.1 (by omega)).2 (inMB_iff.1 hs2 k hk)
theorem tryL_sum {p : Puz} {c : List Nat → List Brn → Option (Nat × List Brn)} {ms : List Nat} {k : Nat} : ∀ (V : List Int) (bs : List Brn) (s : Nat) {m : Nat} {l : List Brn}, (∀ v ∈ V, ∀ bs' m' l', (∃ pre, bs = pre ++ bs') → c (ms.set k (2 ^ v.toNat)) bs' = some (m', l') → m' = cntM p (ms.set k (2 ^ v.toNat)) ∧ ∃ pre, bs' = pre ++ l') → tryL c ms k V bs s = some (m, l) → m = s + (V.map fun v => cntM p (ms.set k (2 ^ v.toNat))).sum
  | [], bs, s, m, l, _, h => by cases h; rfl
  | v :: V, bs, s, m, l, hc, h => by
    unfold tryL at h
    split at h
    · cases h
    rename_i m' l' e
    obtain ⟨h1, pre, h2⟩ := hc v (by simp) bs m' l' ⟨[], rfl⟩ e
    have := tryL_sum V l' (s + m') (fun u hu bs' m2 l2 ⟨pre2, hp2⟩ => hc u (by simp [hu]) bs' m2 l2 ⟨pre ++ pre2, by rw [h2, hp2, List.append_assoc]⟩) h
    rw [this, h1]
    simp only [List.map_cons, List.sum_cons]
    omega
theorem count_all {α : Type} {q : α → Bool} {L : List α} : L.countP q = L.length ↔ ∀ x ∈ L, q x = true := by
  rw [List.countP_eq_length]
theorem solved_sol {p : Puz} (hv : puzzleValid p = true) {xs : List Int} (hg : GrdN xs p.size.toNat) : solvedV p xs = true ↔ xs ∈ allL p := by
  obtain ⟨hp, ha⟩ := puz_facts hv
  have hz : ((p.size.toNat : Nat) : Int) = p.size := (PuzN.of hv).2
  have hgv : gridValid xs p.size = true := by have := hg.valid hp.hn; rwa [hz] at this
  have hlen : p.given.length = xs.length := by rw [ha.len, hg.len]
  have hpos : gridFilled xs p.size = xs.length ↔ ∀ k : Nat, k < xs.length → 0 < nth xs k := by
    unfold gridFilled
    rw [if_pos hgv]
    have e : (((xs.countP fun v => decide (0 < v) : Nat) : Int) = xs.length) ↔ (xs.countP fun v => decide (0 < v)) = xs.length := by omega
    rw [e, count_all]
    constructor
    · intro h k hk
      have := h xs[k] (List.getElem_mem _)
      rw [nth_eq (by omega)]
      exact of_decide_eq_true this
    · intro h x hx
      obtain ⟨i, hi, rfl⟩ := List.getElem_of_mem hx
      have := h i hi
      rw [nth_eq (by omega)] at this
      exact decide_eq_true this
  rw [allL_mem hv]
  unfold solvedV IsSol Full
  rw [hv, hgv, Bool.true_and, Bool.true_and, Bool.and_eq_true, decide_eq_true_eq, hpos]
  constructor
  · rintro ⟨h1, h2⟩
    refine ⟨⟨hg, fun k hk => h2 k (by rw [hg.len]; exact hk)⟩, fun k hk => ?_, h1⟩
    have hc := (fits_parts h1).1
    simp only [clear, decide_eq_true_eq] at hc
    by_cases hkl : k < xs.length
    · have := hc k hkl
      have := h2 k hkl
      omega
    · rw [nth_over (by omega)] at hk; omega
  · rintro ⟨⟨_, h1⟩, _, h2⟩
    exact ⟨h2, fun k hk => h1 k (by rw [← hg.len]; exact hk)⟩
theorem only_in {s : List Int} {ms : List Nat} {n : Nat} (hn : n = 2 ∨ n = 3 ∨ n = 4) (hm : MsN ms n) (hl : Lat s n) (ho : ∀ i : Nat, i < n * n → onlyV (mAt ms i) ≠ 0) : InM s ms (n * n) ↔ s = nats (onlyL ms) := by
  constructor
  · intro h
    refine ext_nth (by rw [nats_len, onlyL_len, hm.len]; exact hl.full.1.len) fun k hk => ?_
    have hk : k < n * n := by rw [← hl.full.1.len]; exact hk
    have h1 := only_of (hm.lt hn k) (ho k hk) (h k hk)
    rw [nth_nats, onlyL_at, (hl.val hk).2.2, h1]
  · rintro rfl k hk
    rw [nth_nats, onlyL_at, Int.toNat_natCast, ((mvals_only (hm.lt hn k)).2 (ho k hk)).2]
    have e : onlyV (2 ^ onlyV (mAt ms k)) = onlyV (mAt ms k) := by rw [← ((mvals_only (hm.lt hn k)).2 (ho k hk)).2]
    rw [e]
    exact Nat.testBit_two_pow_self
theorem cntM_end {p : Puz} (hv : puzzleValid p = true) {ms : List Nat} (hm : MsN ms p.size.toNat) {m : Nat} (h : endM p ms = some m) : cntM p ms = m := by
  obtain ⟨hp, hg⟩ := puz_facts hv
  have hn := hp.hn
  rw [endM_is, hm.len] at h
  unfold cntM
  split at h
  · rename_i h0
    obtain ⟨i, hi, h0⟩ := h0
    cases h
    rw [List.filter_eq_nil_iff.2]
    · rfl
    · intro s hs hin
      have := inMB_iff.1 hin i hi
      rw [h0] at this
      simp at this
  · split at h
    · rename_i _ ho
      cases h
      have hx := onlyL_grd hn hm
      have key : ((allL p).filter fun s => inMB s ms (p.size.toNat * p.size.toNat)).length = (if solvedV p (nats (onlyL ms)) = true then [nats (onlyL ms)] else []).length := by
        refine nodup_eq ((allL_nodup p).filter _) (by split <;> simp) fun s => ?_
        rw [List.mem_filter]
        constructor
        · rintro ⟨h1, h2⟩
          have e := (only_in hn hm (sol_lat hv ((allL_mem hv s).1 h1)) ho).1 (inMB_iff.1 h2)
          rw [← e, if_pos ((solved_sol hv (by rw [e]; exact hx)).2 h1)]
          simp
        · intro h
          split at h
          · rename_i hs
            have e : s = nats (onlyL ms) := by simpa using h
            have h1 := (solved_sol hv hx).1 hs
            rw [e]
            exact ⟨h1, inMB_iff.2 ((only_in hn hm (sol_lat hv ((allL_mem hv _).1 h1)) ho).2 rfl)⟩
          · cases h
      rw [key]
      split <;> rfl
    · cases h
theorem chk_count {p : Puz} (hv : puzzleValid p = true) : ∀ (f : Nat) (ms : List Nat) (bs : List Brn) {m : Nat} {l : List Brn}, MsN ms p.size.toNat → (∀ b ∈ bs, brnOk p.given.length b = true) → chkF p f ms bs = some (m, l) → m = cntM p ms
  | 0, _, _, _, _, _, _, h => by cases h
  | f + 1, ms, bs, m, l, hm, hb, h => by
    obtain ⟨hp, hg⟩ := puz_facts hv
    cases he : endM p ms with
    | some q =>
      rw [chkF_some he] at h
      cases h
      exact (cntM_end hv hm he).symm
    | none =>
      cases bs with
      | nil => rw [chkF_nil he] at h; cases h
      | cons b r =>
        rw [chkF_cons he] at h
        have hrb : ∀ x ∈ r, brnOk p.given.length x = true := fun x hx => hb x (by simp [hx])
        split at h
        · rw [chk_count hv f _ r (narM_ok hm) hrb h, cntM_nar hv _ hm]
        · have hbk := hb b (by simp)
          simp only [brnOk, decide_eq_true_eq] at hbk
          have hk : b.cell.toNat < p.size.toNat * p.size.toNat := by have := hg.len; omega
          have h2 := tryL_sum (p := p) _ _ 0 (fun v hv' bs' m' l' ⟨pre, hpre⟩ hc => by
            have hok := chkF_ok p f (ms.set b.cell.toNat (2 ^ v.toNat)) bs'
            rw [hc] at hok
            exact ⟨chk_count hv f _ bs' (hm.tried hv') (fun x hx => hrb x (by rw [hpre]; simp [hx])) hc, hok.1⟩) h
          rw [h2, Nat.zero_add, cntM_try hv hm hk]
theorem check_count {p : Puz} {pf : List Brn} (h : ¬ checkV p pf < 0) : puzzleValid p = true ∧ checkV p pf = ((allL p).length : Int) := by
  unfold checkV at h ⊢
  split at h
  · rename_i hf
    rw [if_pos hf]
    obtain ⟨hv, h200, hb⟩ := proof_facts hf
    obtain ⟨hp, hg⟩ := puz_facts hv
    refine ⟨hv, ?_⟩
    split at h
    · rename_i n he
      have := chk_count hv 201 (startM p) pf (startM_ok hp hg) hb he
      rw [cntM_start hv] at this
      show ((n : Nat) : Int) = _
      rw [this]
    · omega
  · omega
end Go.Lg

namespace Go.Lg
open Go.Proofs
theorem clr_fix {R : List (Nat × Nat)} {n : Nat} {A : List Nat} (hn : n = 2 ∨ n = 3 ∨ n = 4) (hm : MsN A n) (hf : clrL R A = A) {q : Nat × Nat} (hq : q ∈ R) (hk : q.1 < n * n) {i : Nat} (hi : (mAt A q.1).testBit i = true) : q.2.testBit i = false := by
  have h := clrL_bit (R := R) (ms := A) (fun k => by have := hm.lt hn k; omega) (c := q.1) (b := i) (by rw [hm.len]; exact hk)
  rw [hf, hi, Bool.true_and, eq_comm, List.all_eq_true] at h
  have := h q hq
  simpa using this
theorem clr_sub {R : List (Nat × Nat)} {n : Nat} {A B : List Nat} (hn : n = 2 ∨ n = 3 ∨ n = 4) (hA : MsN A n) (hB : MsN B n) (hs : SubM A B) (h : ∀ q ∈ R, q.1 < n * n → ∀ i, (mAt A q.1).testBit i = true → q.2.testBit i = false) : SubM A (clrL R B) := fun k i hb => by
  by_cases hk : k < n * n
  · rw [clrL_bit (fun k => by have := hB.lt hn k; omega) (by rw [hB.len]; exact hk), hs k i hb, Bool.true_and, List.all_eq_true]
    intro q hq
    by_cases hqk : q.1 = k
    · rw [h q hq (by omega) i (by rw [hqk]; exact hb), Bool.and_false]; rfl
    · have : (q.1 == k) = false := by simpa using hqk
      rw [this]; rfl
  · rw [mAt_over (by rw [hA.len]; omega)] at hb
    simp at hb
theorem eq_of_bits {a b : Nat} (h : ∀ i, a.testBit i = true ↔ b.testBit i = true) : a = b := Nat.eq_of_testBit_eq fun i => by rw [Bool.eq_iff_iff]; exact h i
theorem sub_eq {a b : List Nat} (hl : a.length = b.length) (h : SubM a b) (g : SubM b a) : a = b := by
  refine List.ext_getElem hl fun k h1 h2 => ?_
  have e : mAt a k = mAt b k := eq_of_bits fun i => ⟨h k i, g k i⟩
  simpa [mAt, List.getD, List.getElem?_eq_getElem h1, List.getElem?_eq_getElem h2] using e
theorem one_sub {A B : List Nat} {s : List Int} {n i : Nat} (hn : n = 2 ∨ n = 3 ∨ n = 4) (hA : MsN A n) (hB : MsN B n) (hs : SubM A B) (hi : (mAt A i).testBit (nth s i).toNat = true) (ho : onlyV (mAt B i) ≠ 0) : mAt A i = mAt B i := by
  have hv := only_of (hB.lt hn i) ho (hs i _ hi)
  have e := ((mvals_only (hB.lt hn i)).2 ho).2
  refine eq_of_bits fun b => ⟨fun h => hs i b h, fun h => ?_⟩
  have := only_of (hB.lt hn i) ho h
  rw [this, ← hv]
  exact hi
section
variable {s : List Int} {n : Nat} {A B : List Nat}
theorem sgl_keep (hs : Lat s n) (hA : MsN A n) (hB : MsN B n) (hi : InM s A (n * n)) (hS : SubM A B) (h1 : sglM A n = A) : SubM A (sglM B n) := by
  rw [← sgl_same hs.hn hB]
  rw [← sgl_same hs.hn hA] at h1
  refine clr_sub hs.hn hA hB hS fun q hq hq1 b hb => ?_
  refine clr_fix hs.hn hA h1 (q := q) ?_ hq1 hb
  obtain ⟨i, hir, hq⟩ := List.mem_flatMap.1 hq
  have hir' := List.mem_range.1 hir
  refine List.mem_flatMap.2 ⟨i, hir, ?_⟩
  unfold sglB at hq ⊢
  split at hq
  · cases hq
  rename_i ho
  have e := one_sub hs.hn hA hB hS (hi i hir') ho
  rw [e, if_neg ho]
  obtain ⟨j, hj, hq⟩ := List.mem_flatMap.1 hq
  refine List.mem_flatMap.2 ⟨j, hj, ?_⟩
  unfold sglJ at hq ⊢
  rw [e]
  exact hq
theorem hcnt_none {ms : List Nat} {line v : Nat} : ∀ {k : Nat}, (∀ j, j < k → (mAt ms (lnN n line j)).testBit v = false) → (hcnt ms n line v k).1 = 0
  | 0, _ => rfl
  | k + 1, h => by
    unfold hcnt
    rw [if_neg (by rw [h k (by omega)]; simp)]
    exact hcnt_none fun j hj => h j (by omega)
theorem hcnt_has {ms : List Nat} {line v : Nat} : ∀ {k j : Nat}, j < k → (mAt ms (lnN n line j)).testBit v = true → (∀ i, i < k → i ≠ j → (mAt ms (lnN n line i)).testBit v = false) → (hcnt ms n line v k).1 = 1 ∧ (hcnt ms n line v k).2 = lnN n line j
  | 0, j, h, _, _ => by omega
  | k + 1, j, hj, hb, h => by
    unfold hcnt
    by_cases hjk : j = k
    · subst hjk
      rw [if_pos hb, hcnt_none fun i hi => h i (by omega) (by omega)]
      exact ⟨rfl, rfl⟩
    · rw [if_neg (by rw [h k (by omega) (fun e => hjk e.symm)]; simp)]
      exact hcnt_has (by omega) hb fun i hi hne => h i (by omega) hne
theorem hid_keep (hs : Lat s n) (hA : MsN A n) (hB : MsN B n) (hi : InM s A (n * n)) (hS : SubM A B) (h2 : hidM A n = A) : SubM A (hidM B n) := by
  unfold hidM at h2 ⊢
  refine clr_sub hs.hn hA hB hS fun q hq hq1 b hb => ?_
  refine clr_fix hs.hn hA h2 (q := q) ?_ hq1 hb
  obtain ⟨line, hl, hq⟩ := List.mem_flatMap.1 hq
  have hl' := List.mem_range.1 hl
  refine List.mem_flatMap.2 ⟨line, hl, ?_⟩
  unfold hidA at hq ⊢
  obtain ⟨u, hu, hq⟩ := List.mem_flatMap.1 hq
  have hu' := List.mem_range.1 hu
  refine List.mem_flatMap.2 ⟨u, hu, ?_⟩
  unfold hidV at hq ⊢
  split at hq
  · rename_i h1
    obtain ⟨k, hk, he⟩ := hs.onto hl' (v := u + 1) ⟨by omega, by omega⟩
    have hbk := hi _ (lnN_lt hs.hn hl' hk).1
    rw [he] at hbk
    have hat := hcnt_one h1 k hk (hS _ _ hbk)
    have := hcnt_has (ms := A) hk hbk fun i hin hne => by
      cases hbi : (mAt A (lnN n line i)).testBit (u + 1) with
      | false => rfl
      | true =>
        have h3 := hcnt_one h1 i hin (hS _ _ hbi)
        rw [← hat] at h3
        exact absurd ((lnN_inj hs.hn hl' hin hk).1 h3) hne
    rw [if_pos this.1, this.2, hat]
    exact hq
  · cases hq
theorem two_mem {m a b c : Nat} (hl : (mvals m 4).length = 2) (ha : 1 ≤ a ∧ a ≤ 4) (hb : 1 ≤ b ∧ b ≤ 4) (hc : 1 ≤ c ∧ c ≤ 4) (ma : m.testBit a = true) (mb : m.testBit b = true) (mc : m.testBit c = true) (hab : a ≠ b) : c = a ∨ c = b := by
  refine Classical.byContradiction fun hno => ?_
  have hnd : ([(a : Int), (b : Int), (c : Int)] : List Int).Nodup := by
    simp only [List.nodup_cons, List.mem_cons, List.not_mem_nil, or_false, not_or, List.nodup_nil, and_true, not_false_eq_true]
    omega
  have := nodup_le hnd (b := mvals m 4) fun z hz => by
    simp only [List.mem_cons, List.not_mem_nil, or_false] at hz
    rcases hz with rfl | rfl | rfl
    · exact mem_mvals ha ma
    · exact mem_mvals hb mb
    · exact mem_mvals hc mc
  simp only [List.length_cons, List.length_nil] at this
  omega
theorem bit_range {ms : List Nat} {k b : Nat} (hn : n = 2 ∨ n = 3 ∨ n = 4) (hm : MsN ms n) (h : (mAt ms k).testBit b = true) : 1 ≤ b ∧ b ≤ 4 := by
  have h1 := hm.lt hn k
  have h2 := Nat.ge_two_pow_of_testBit h
  refine ⟨?_, ?_⟩
  · refine Nat.pos_of_ne_zero fun e => ?_
    subst e
    rw [Nat.testBit_zero, decide_eq_true_eq] at h
    omega
  · refine Nat.le_of_not_lt fun hlt => ?_
    have : 2 ^ 5 ≤ 2 ^ b := Nat.pow_le_pow_right (by omega) hlt
    omega
theorem only_bits {m v : Nat} (hm : m ≤ 30 ∧ m % 2 = 0) (hv : 1 ≤ v ∧ v ≤ 4) (h : ∀ b, m.testBit b = true ↔ b = v) : onlyV m ≠ 0 ∧ m = 2 ^ v := by
  have e : m = 2 ^ v := eq_of_bits fun b => by rw [h b, Nat.testBit_two_pow, decide_eq_true_eq, eq_comm]
  refine ⟨?_, e⟩
  have : v = 1 ∨ v = 2 ∨ v = 3 ∨ v = 4 := by omega
  rw [e]
  rcases this with rfl | rfl | rfl | rfl <;> decide
theorem sgl_line (hs : Lat s n) (hA : MsN A n) (h1 : sglM A n = A) {line x k b : Nat} (hl : line < 2 * n) (hx : x < n) (hk : k < n) (hkx : k ≠ x) (ho : onlyV (mAt A (lnN n line x)) ≠ 0) (hb : (mAt A (lnN n line k)).testBit b = true) : (mAt A (lnN n line x)).testBit b = false := by
  rw [← sgl_same hs.hn hA] at h1
  have hx1 := (lnN_lt hs.hn hl hx).1
  have hk1 := (lnN_lt hs.hn hl hk).1
  refine clr_fix hs.hn hA h1 (q := (lnN n line k, mAt A (lnN n line x))) ?_ hk1 hb
  refine List.mem_flatMap.2 ⟨lnN n line x, List.mem_range.2 hx1, ?_⟩
  unfold sglB
  rw [if_neg ho]
  refine List.mem_flatMap.2 ⟨lnN n line k, List.mem_range.2 hk1, ?_⟩
  unfold sglJ
  rw [if_pos ⟨fun e => hkx ((lnN_inj hs.hn hl hk hx).1 e), ln_rel hs.hn hl hk hx⟩]
  simp
theorem par_keep (hs : Lat s n) (hA : MsN A n) (hB : MsN B n) (hi : InM s A (n * n)) (hS : SubM A B) (h1 : sglM A n = A) (h3 : parM A n = A) : SubM A (parM B n) := by
  have hn := hs.hn
  unfold parM at h3 ⊢
  refine clr_sub hn hA hB hS fun q hq hq1 b hb => ?_
  obtain ⟨line, hl, hq⟩ := List.mem_flatMap.1 hq
  have hl' := List.mem_range.1 hl
  obtain ⟨x, y, k, hxy, hy, hk, ⟨he, hlen⟩, ⟨hkx, hky⟩, rfl⟩ := (par_mem hn B hl' q).1 hq
  simp only at hq1 hb ⊢
  have hx : x < n := by omega
  cases hbx : (mAt B (lnN n line x)).testBit b with
  | false => rfl
  | true =>
    exfalso
    have cx := (lnN_lt hn hl' hx).1
    have cy := (lnN_lt hn hl' hy).1
    have ck := (lnN_lt hn hl' hk).1
    have vx := hs.val cx
    have vy := hs.val cy
    have ax := hi _ cx
    have ay := hi _ cy
    have nxy := hs.line hl' hx hy (by omega)
    have bx := hS _ _ ax
    have bY := hS _ _ ay
    rw [← he] at bY
    have hbr := bit_range hn hA hb
    -- the two masks in A
    have two : ∀ c, (mAt B (lnN n line x)).testBit c = true → c = (nth s (lnN n line x)).toNat ∨ c = (nth s (lnN n line y)).toNat := fun c hc => two_mem hlen (by omega) (by omega) (bit_range hn hB hc) bx bY hc nxy
    have hb2 := two b hbx
    by_cases ex : mAt A (lnN n line x) = mAt A (lnN n line y) ∧ (mvals (mAt A (lnN n line x)) 4).length = 2
    · -- a pair there
      have hmem : (lnN n line k, mAt A (lnN n line x)) ∈ (List.range (2 * n)).flatMap (parA A n) := List.mem_flatMap.2 ⟨line, hl, (par_mem hn A hl' _).2 ⟨x, y, k, hxy, hy, hk, ex, ⟨hkx, hky⟩, rfl⟩⟩
      have h := clr_fix hn hA h3 hmem ck hb
      simp only at h
      rcases hb2 with e | e
      · rw [e, ax] at h; cases h
      · rw [ex.1, e, ay] at h; cases h
    · -- one of them is single
      have sng : ∀ z w, z < n → w < n → z ≠ w → (∀ c, (mAt A (lnN n line z)).testBit c = true → c = (nth s (lnN n line z)).toNat ∨ c = (nth s (lnN n line w)).toNat) → (mAt A (lnN n line z)).testBit (nth s (lnN n line w)).toNat = false → onlyV (mAt A (lnN n line z)) ≠ 0 := by
        intro z w hz hw hzw ht hno
        have cz := (lnN_lt hn hl' hz).1
        have vz := hs.val cz
        refine (only_bits (hA.lt hn _) (v := (nth s (lnN n line z)).toNat) (by omega) fun c => ⟨fun hc => ?_, fun hc => by rw [hc]; exact hi _ cz⟩).1
        rcases ht c hc with e | e
        · exact e
        · rw [e, hno] at hc; cases hc
      have tx : ∀ c, (mAt A (lnN n line x)).testBit c = true → c = (nth s (lnN n line x)).toNat ∨ c = (nth s (lnN n line y)).toNat := fun c hc => two c (hS _ _ hc)
      have ty : ∀ c, (mAt A (lnN n line y)).testBit c = true → c = (nth s (lnN n line y)).toNat ∨ c = (nth s (lnN n line x)).toNat := fun c hc => (two c (by rw [he]; exact hS _ _ hc)).symm
      have hyx : y ≠ x := by omega
      have key : onlyV (mAt A (lnN n line x)) ≠ 0 ∧ onlyV (mAt A (lnN n line y)) ≠ 0 := by
        cases qx : (mAt A (lnN n line x)).testBit (nth s (lnN n line y)).toNat with
        | false =>
          have ox := sng x y hx hy (by omega) tx qx
          refine ⟨ox, sng y x hy hx hyx ty ?_⟩
          cases q2 : (mAt A (lnN n line y)).testBit (nth s (lnN n line x)).toNat with
          | false => rfl
          | true =>
            have := sgl_line hs hA h1 hl' hx hy hyx ox q2
            rw [ax] at this; cases this
        | true =>
          cases qy : (mAt A (lnN n line y)).testBit (nth s (lnN n line x)).toNat with
          | false =>
            have oy := sng y x hy hx hyx ty qy
            have := sgl_line hs hA h1 hl' hy hx (by omega) oy qx
            rw [ay] at this; cases this
          | true =>
            exfalso
            refine ex ⟨eq_of_bits fun c => ⟨fun hc => ?_, fun hc => ?_⟩, ?_⟩
            · rcases tx c hc with e | e <;> rw [e]
              · exact qy
              · exact ay
            · rcases ty c hc with e | e <;> rw [e]
              · exact qx
              · exact ax
            · have e : mAt A (lnN n line x) = mAt B (lnN n line x) := eq_of_bits fun c => ⟨fun hc => hS _ _ hc, fun hc => by
                rcases two c hc with e | e <;> rw [e]
                · exact ax
                · exact qx⟩
              rw [e]; exact hlen
      rcases hb2 with e | e
      · have := sgl_line hs hA h1 hl' hx hk hkx key.1 hb
        rw [e, ax] at this; cases this
      · have := sgl_line hs hA h1 hl' hy hk hky key.2 hb
        rw [e, ay] at this; cases this
theorem putR_get {r : Rul} {fd ms : List Nat} (hnd : r.cells.Nodup) (h0 : ∀ c ∈ r.cells, 0 ≤ c ∧ c < (ms.length : Int)) : ∀ J, J ≤ r.cells.length → ∀ j, j < J → mAt (putR r fd ms J) (nth r.cells j).toNat = fd.getD j 0
  | 0, _, j, hj => by omega
  | J + 1, hJ, j, hj => by
    have hc := h0 _ (nth_mem (xs := r.cells) (i := J) (by omega))
    have hcj := h0 _ (nth_mem (xs := r.cells) (i := j) (by omega))
    rw [putR_succ, mAt_set (by rw [putR_len]; omega)]
    by_cases e : j = J
    · rw [e, if_pos rfl]
    · rw [if_neg, putR_get hnd h0 J (by omega) j (by omega)]
      intro h
      have h2 : nth r.cells (j : Int) = nth r.cells (J : Int) := by omega
      rw [nth_eq (by omega), nth_eq (by omega)] at h2
      exact e ((List.getElem_inj hnd).1 h2)
theorem ruleM_mono {r : Rul} {A B : List Nat} (hS : SubM A B) (h0 : ∀ c ∈ r.cells, 0 ≤ c) {j b : Nat} (h : ((ruleM r (nats A)).getD j 0).testBit b = true) : ((ruleM r (nats B)).getD j 0).testBit b = true := by
  refine (ways_mono r (remM r (nats A) 0) (remM r (nats B) 0) [] (List.replicate r.cells.length 0) (List.replicate r.cells.length 0) (by unfold remM; simp) (by unfold remM; simp) (fun k v _ _ hb => ?_) ⟨rfl, fun _ _ h => h⟩).2 j b h
  unfold remM at hb ⊢
  by_cases hk : k < r.cells.length
  · have hc := h0 _ (List.getElem_mem hk)
    simp only [List.drop_zero, List.getD, List.getElem?_map, List.getElem?_eq_getElem hk, Option.map_some, Option.getD_some] at hb ⊢
    obtain ⟨c, hc'⟩ : ∃ c : Nat, r.cells[k] = c := ⟨r.cells[k].toNat, by omega⟩
    rw [hc', nth_nats, Int.toNat_natCast] at hb ⊢
    exact hS c v hb
  · simp [List.getD, List.getElem?_eq_none (show r.cells.length ≤ k by omega)] at hb
theorem rulS_keep {r : Rul} (hn : n = 2 ∨ n = 3 ∨ n = 4) (hv : ruleValid r n = true) (hA : MsN A n) (hB : MsN B n) (hS : SubM A B) (hf : rulS A r = A) : SubM A (rulS B r) := by
  obtain ⟨f1, f2, f3, f4⟩ := ruleValid_facts hv
  have hcA : ∀ c ∈ r.cells, 0 ≤ c ∧ c < (A.length : Int) := fun c hc => by have := f3 c hc; rw [hA.len]; exact this
  have gen : ∀ J, J ≤ r.cells.length → SubM A (putR r (ruleM r (nats B)) B J) := by
    intro J
    induction J with
    | zero => intro _; exact hS
    | succ J ih =>
      intro hJ k b hb
      have hc := f3 _ (nth_mem (xs := r.cells) (i := J) (by omega))
      rw [putR_succ, mAt_set (by rw [putR_len, hB.len]; omega)]
      split
      · rename_i hk
        subst hk
        refine ruleM_mono hS (fun c hc => (f3 c hc).1) ?_
        rw [← putR_get (fd := ruleM r (nats A)) (ms := A) f4 hcA _ (Nat.le_refl _) J (by omega)]
        have : putR r (ruleM r (nats A)) A r.cells.length = A := hf
        rw [this]
        exact hb
      · exact ih (by omega) k b hb
  exact gen _ (Nat.le_refl _)
theorem foldS_fix : ∀ (rs : List Rul) {A : List Nat}, rs.foldl rulS A = A → ∀ r ∈ rs, rulS A r = A
  | [], _, _, r, hr => by cases hr
  | q :: rs, A, h, r, hr => by
    have h1 : SubM A (rulS A q) := by
      have := foldS_sub rs (rulS A q)
      rw [List.foldl_cons] at h
      rwa [h] at this
    have h2 : SubM (rulS A q) A := putR_sub q A _ (Nat.le_refl _)
    have e : rulS A q = A := sub_eq (putR_len q _ A _) h2 h1
    rcases List.mem_cons.1 hr with rfl | hr
    · exact e
    · rw [List.foldl_cons, e] at h
      exact foldS_fix rs h r hr
theorem rul_keep {p : Puz} (hp : PuzN p n) (hA : MsN A n) (hB : MsN B n) (hS : SubM A B) (hf : rulM p A = A) : SubM A (rulM p B) := by
  have hfix := foldS_fix p.rules hf
  have gen : ∀ (rs : List Rul), (∀ r ∈ rs, ruleValid r n = true ∧ rulS A r = A) → ∀ B : List Nat, MsN B n → SubM A B → SubM A (rs.foldl rulS B) := by
    intro rs
    induction rs with
    | nil => intro _ B _ h; exact h
    | cons r rs ih =>
      intro hr B hB h
      obtain ⟨hv, hfr⟩ := hr r (by simp)
      exact ih (fun q hq => hr q (by simp [hq])) _ (putR_ok r hB _ (Nat.le_refl _)) (rulS_keep hp.hn hv hA hB h hfr)
  exact gen p.rules (fun r hr => ⟨hp.rv r hr, hfix r hr⟩) B hB hS
theorem nar_keep {p : Puz} (hs : Lat s n) (hp : PuzN p n) (hA : MsN A n) (hB : MsN B n) (hi : InM s A (n * n)) (hS : SubM A B) (hf : nextM p A = 0) (t : Nat) : SubM A (narM p t B) := by
  have hz : p.size.toNat = n := by rw [hp.size]; rfl
  unfold nextM at hf
  by_cases a1 : narM p 1 A = A
  rotate_left
  · rw [if_pos a1] at hf; omega
  rw [if_neg (fun h => h a1)] at hf
  by_cases a2 : narM p 2 A = A
  rotate_left
  · rw [if_pos a2] at hf; omega
  rw [if_neg (fun h => h a2)] at hf
  by_cases a3 : narM p 3 A = A
  rotate_left
  · rw [if_pos a3] at hf; omega
  rw [if_neg (fun h => h a3)] at hf
  by_cases a4 : narM p 4 A = A
  rotate_left
  · rw [if_pos a4] at hf; omega
  have f1 : sglM A n = A := by have := a1; unfold narM at this; rw [if_pos rfl, hz] at this; exact this
  have f2 : hidM A n = A := by have := a2; unfold narM at this; rw [if_neg (by omega), if_pos rfl, hz] at this; exact this
  have f3 : parM A n = A := by have := a3; unfold narM at this; rw [if_neg (by omega), if_neg (by omega), if_pos rfl, hz] at this; exact this
  have f4 : rulM p A = A := by have := a4; unfold narM at this; rw [if_neg (by omega), if_neg (by omega), if_neg (by omega)] at this; exact this
  unfold narM
  rw [hz]
  split
  · exact sgl_keep hs hA hB hi hS f1
  split
  · exact hid_keep hs hA hB hi hS f2
  split
  · exact par_keep hs hA hB hi hS f1 f3
  · exact rul_keep hp hA hB hS f4
end
end Go.Lg
