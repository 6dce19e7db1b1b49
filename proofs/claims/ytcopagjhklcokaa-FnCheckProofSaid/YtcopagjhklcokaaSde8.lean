/- GpNE, GpIB, GpTP, cut to what is needed. -/
import Derived.Test.YtcopagjhklcokaaSde7
import Derived.Test.YtcopagjhklcokaaSde1
import Derived.Test.YtcopagjhklcokaaSde6
import Derived.Test.YtcopagjhklcokaaSde3
open Nat(reduceAdd reduceMul reduceSub reduceEqDiff reduceLeDiff)
set_option linter.unusedSimpArgs false
set_option linter.unusedVariables false
set_option maxRecDepth 100000
namespace Go.Lg
open Go.Proofs
def SubM (a b : List Nat) : Prop := ∀ k i : Nat, (mAt a k).testBit i = true → (mAt b k).testBit i = true
theorem SubM.refl (a : List Nat) : SubM a a := fun _ _ h => h
theorem SubM.trans {a b c : List Nat} (h : SubM a b) (g : SubM b c) : SubM a c := fun k i x => g k i (h k i x)
theorem set_subM {o ms : List Nat} {c v : Nat} (h : SubM o ms) (hv : ∀ i, v.testBit i = true → (mAt ms c).testBit i = true) : SubM (o.set c v) ms := fun k i hb => by
  by_cases hc : c < o.length
  · rw [mAt_set hc] at hb
    split at hb
    · rename_i hk; rw [hk]; exact hv i hb
    · exact h k i hb
  · rw [List.set_eq_of_length_le (by omega)] at hb; exact h k i hb
theorem putR_sub (r : Rul) (ms : List Nat) : ∀ j, j ≤ r.cells.length → SubM (putR r (ruleM r (nats ms)) ms j) ms
  | 0, _ => SubM.refl ms
  | j + 1, hj => by
    rw [putR_succ]
    exact set_subM (putR_sub r ms j (by omega)) fun i hb => (ruleM_at (by omega) hb).2
theorem foldS_sub : ∀ (rs : List Rul) (ms : List Nat), SubM (rs.foldl rulS ms) ms
  | [], ms => SubM.refl ms
  | r :: rs, ms => (foldS_sub rs (rulS ms r)).trans (putR_sub r ms _ (Nat.le_refl _))
theorem clrL_sub {R : List (Nat × Nat)} {n : Nat} (hn : n = 2 ∨ n = 3 ∨ n = 4) {ms : List Nat} (hm : MsN ms n) : SubM (clrL R ms) ms := fun k i hb => by
  by_cases hk : k < ms.length
  · rw [clrL_bit (fun k => by have := (hm.lt hn k).1; omega) hk, Bool.and_eq_true] at hb
    exact hb.1
  · rw [mAt_over (by rw [clrL_len]; omega)] at hb
    simp at hb
theorem narM_subM {p : Puz} {n : Nat} (hn : n = 2 ∨ n = 3 ∨ n = 4) (t : Nat) {ms : List Nat} (hm : MsN ms n) : SubM (narM p t ms) ms := by
  unfold narM sglM hidM parM rulM
  split
  · exact clrL_sub hn hm
  split
  · exact clrL_sub hn hm
  split
  · exact clrL_sub hn hm
  · exact foldS_sub _ _
def inMB (s : List Int) (ms : List Nat) (N : Nat) : Bool := (List.range N).all fun k => (mAt ms k).testBit (nth s k).toNat
theorem inMB_iff {s : List Int} {ms : List Nat} {N : Nat} : inMB s ms N = true ↔ InM s ms N := by
  unfold inMB InM
  rw [List.all_eq_true]
  exact ⟨fun h k hk => h k (List.mem_range.2 hk), fun h k hk => h k (List.mem_range.1 hk)⟩
def cntM (p : Puz) (ms : List Nat) : Nat := ((allL p).filter fun s => inMB s ms (p.size.toNat * p.size.toNat)).length
theorem cntM_start {p : Puz} (hv : puzzleValid p = true) : cntM p (startM p) = (allL p).length := by
  obtain ⟨hp, hg⟩ := puz_facts hv
  unfold cntM
  rw [List.filter_eq_self.2]
  intro s hs
  have h := (allL_mem hv s).1 hs
  exact inMB_iff.2 (startM_in (sol_lat hv h) hp hg h.2.1)
theorem cntM_nar {p : Puz} (hv : puzzleValid p = true) {ms : List Nat} (t : Nat) (hm : MsN ms p.size.toNat) : cntM p (narM p t ms) = cntM p ms := by
  obtain ⟨hp, hg⟩ := puz_facts hv
  unfold cntM
  congr 1
  refine List.filter_congr fun s hs => ?_
  have h := (allL_mem hv s).1 hs
  rw [Bool.eq_iff_iff, inMB_iff, inMB_iff]
  constructor
  · exact fun h1 k hk => narM_subM hp.hn t hm k _ (h1 k hk)
  · exact fun h1 => nar_in (sol_lat hv h) hp (fits_parts h.2.2).2.1 hm h1
theorem one_of {V : List Int} {w : Int} (hn : V.Nodup) (hw : w ∈ V) : (V.map fun v => if w = v then 1 else 0).sum = 1 := by
  induction V with
  | nil => cases hw
  | cons v V ih =>
    rw [List.nodup_cons] at hn
    simp only [List.map_cons, List.sum_cons]
    by_cases h : w = v
    · subst h
      rw [if_pos rfl]
      have : (V.map fun v => if w = v then 1 else 0).sum = 0 := by
        have : ∀ U : List Int, w ∉ U → (U.map fun v => if w = v then 1 else 0).sum = 0 := by
          intro U
          induction U with
          | nil => intro _; rfl
          | cons u U ih2 =>
            intro hu
            simp only [List.mem_cons, not_or] at hu
            simp only [List.map_cons, List.sum_cons]
            rw [if_neg hu.1, ih2 hu.2]
        exact this V hn.1
      rw [this]
    · rw [if_neg h, ih hn.2 (by rcases List.mem_cons.1 hw with e | e; exact absurd e h; exact e)]
theorem sum_map_add {V : List Int} (f g : Int → Nat) : (V.map fun v => f v + g v).sum = (V.map f).sum + (V.map g).sum := by
  induction V with
  | nil => rfl
  | cons v V ih => simp only [List.map_cons, List.sum_cons, ih]; omega
theorem split_count {α : Type} (f : α → Int) {V : List Int} (hn : V.Nodup) : ∀ (L : List α), (∀ x ∈ L, f x ∈ V) → (V.map fun v => (L.filter fun x => decide (f x = v)).length).sum = L.length
  | [], _ => by
    have : ∀ U : List Int, (U.map fun _ => (0 : Nat)).sum = 0 := by
      intro U; induction U with
      | nil => rfl
      | cons u U ih => simp [ih]
    exact this V
  | x :: L, h => by
    have e : (V.map fun v => ((x :: L).filter fun x => decide (f x = v)).length) = V.map fun v => (if f x = v then 1 else 0) + (L.filter fun x => decide (f x = v)).length := by
      refine List.map_congr_left fun v _ => ?_
      rw [List.filter_cons]
      by_cases hx : f x = v
      · rw [if_pos (decide_eq_true hx), if_pos hx, List.length_cons]; omega
      · rw [if_neg (by simpa using hx), if_neg hx]; omega
    rw [e, sum_map_add, one_of hn (h x (by simp)), split_count f hn L fun y hy => h y (by simp [hy]), List.length_cons]
    omega
theorem mvals_nodup (m : Nat) : (mvals m 4).Nodup := by
  have key : ∀ b1 b2 b3 b4 : Bool, ((if b1 = true then [(1 : Int)] else []) ++ ((if b2 = true then [(2 : Int)] else []) ++ ((if b3 = true then [(3 : Int)] else []) ++ ((if b4 = true then [(4 : Int)] else []) ++ [])))).Nodup := by decide
  have e : mvals m 4 = (if m.testBit 1 = true then [(1 : Int)] else []) ++ ((if m.testBit 2 = true then [(2 : Int)] else []) ++ ((if m.testBit 3 = true then [(3 : Int)] else []) ++ ((if m.testBit 4 = true then [(4 : Int)] else []) ++ []))) := rfl
  rw [e]
  exact key _ _ _ _
theorem mvals_has {m v : Nat} (h1 : 1 ≤ v) (h4 : v ≤ 4) : (v : Int) ∈ mvals m 4 ↔ m.testBit v = true := by
  unfold mvals
  rw [List.mem_flatMap]
  constructor
  · rintro ⟨u, _, hu⟩
    split at hu
    · rename_i hb
      have : (v : Int) = u := by simpa using hu
      have : v = u := by omega
      rw [this]; exact hb
    · cases hu
  · intro hb
    refine ⟨v, ?_, by rw [if_pos hb]; simp⟩
    have : v = 1 ∨ v = 2 ∨ v = 3 ∨ v = 4 := by omega
    rcases this with rfl | rfl | rfl | rfl <;> decide
theorem cntM_try {p : Puz} (hv : puzzleValid p = true) {ms : List Nat} (hm : MsN ms p.size.toNat) {k : Nat} (hk : k < p.size.toNat * p.size.toNat) : ((mvals (mAt ms k) 4).map fun v => cntM p (ms.set k (2 ^ v.toNat))).sum = cntM p ms := by
  obtain ⟨hp, hg⟩ := puz_facts hv
  have hn := hp.hn
  have hkm : k < ms.length := by rw [hm.len]; exact hk
  have e : ((mvals (mAt ms k) 4).map fun v => cntM p (ms.set k (2 ^ v.toNat))) = (mvals (mAt ms k) 4).map fun v => (((allL p).filter fun s => inMB s ms (p.size.toNat * p.size.toNat)).filter fun s => decide (nth s k = v)).length := by
    refine List.map_congr_left fun v hvm => ?_
    unfold cntM
    rw [List.filter_filter]
    congr 1
    refine List.filter_congr fun s hs => ?_
    have hl := sol_lat hv ((allL_mem hv s).1 hs)
    obtain ⟨u, rfl, u1, u4, hb⟩ := mvals_bit hvm
    have hsv := hl.val hk
    rw [Bool.eq_iff_iff, inMB_iff, Bool.and_eq_true, decide_eq_true_eq, inMB_iff, Int.toNat_natCast]
    constructor
    · intro h
      have h1 := h k hk
      rw [mAt_set hkm, if_pos rfl, Nat.testBit_two_pow] at h1
      have h1 := of_decide_eq_true h1
      refine ⟨by omega, fun j hj => ?_⟩
      by_cases hjk : j = k
      · rw [hjk, ← h1]; exact hb
      · have := h j hj
        rwa [mAt_set hkm, if_neg hjk] at this
    · rintro ⟨h1, h⟩ j hj
      rw [mAt_set hkm]
      split
      · rename_i hjk
        rw [hjk, Nat.testBit_two_pow, decide_eq_true_eq]
        omega
      · exact h j hj
  rw [e]
  refine split_count (fun s => nth s k) (mvals_nodup _) _ fun s hs => ?_
  obtain ⟨hs1, hs2⟩ := List.mem_filter.1 hs
  have hl := sol_lat hv ((allL_mem hv s).1 hs1)
  have hsv := hl.val hk
  rw [hsv.2.2]
  exact (mvals_has hsv.1 (by omega)).2 (inMB_iff.1 hs2 k hk)
theorem tryL_sum {p : Puz} {c : List Nat → List Brn → Option (Nat × List Brn)} {ms : List Nat} {k : Nat} : ∀ (V : List Int) (bs : List Brn) (s : Nat) {m : Nat} {l : List Brn}, (∀ v ∈ V, ∀ bs' m' l', (∃ pre, bs = pre ++ bs') → c (ms.set k (2 ^ v.toNat)) bs' = some (m', l') → m' = cntM p (ms.set k (2 ^ v.toNat)) ∧ ∃ pre, bs' = pre ++ l') → tryL c ms k V bs s = some (m, l) → m = s + (V.map fun v => cntM p (ms.set k (2 ^ v.toNat))).sum
  | [], bs, s, m, l, _, h => by cases h; rfl
  | v :: V, bs, s, m, l, hc, h => by
    unfold tryL at h
    split at h
    · cases h
    rename_i m' l' e
    obtain ⟨h1, pre, h2⟩ := hc v (by simp) bs m' l' ⟨[], rfl⟩ e
    have := tryL_sum V l' (s + m') (fun u hu bs' m2 l2 ⟨pre2, hp2⟩ => hc u (by simp [hu]) bs' m2 l2 ⟨pre ++ pre2, by rw [h2, hp2, List.append_assoc]⟩) h
    rw [this, h1]
    simp only [List.map_cons, List.sum_cons]
    omega
theorem count_all {α : Type} {q : α → Bool} {L : List α} : L.countP q = L.length ↔ ∀ x ∈ L, q x = true := by
  rw [List.countP_eq_length]
theorem solved_sol {p : Puz} (hv : puzzleValid p = true) {xs : List Int} (hg : GrdN xs p.size.toNat) : solvedV p xs = true ↔ xs ∈ allL p := by
  obtain ⟨hp, ha⟩ := puz_facts hv
  have hz : ((p.size.toNat : Nat) : Int) = p.size := (PuzN.of hv).2
  have hgv : gridValid xs p.size = true := by have := hg.valid hp.hn; rwa [hz] at this
  have hlen : p.given.length = xs.length := by rw [ha.len, hg.len]
  have hpos : gridFilled xs p.size = xs.length ↔ ∀ k : Nat, k < xs.length → 0 < nth xs k := by
    unfold gridFilled
    rw [if_pos hgv]
    have e : (((xs.countP fun v => decide (0 < v) : Nat) : Int) = xs.length) ↔ (xs.countP fun v => decide (0 < v)) = xs.length := by omega
    rw [e, count_all]
    constructor
    · intro h k hk
      have := h xs[k] (List.getElem_mem _)
      rw [nth_eq (by omega)]
      exact of_decide_eq_true this
    · intro h x hx
      obtain ⟨i, hi, rfl⟩ := List.getElem_of_mem hx
      have := h i hi
      rw [nth_eq (by omega)] at this
      exact decide_eq_true this
  rw [allL_mem hv]
  unfold solvedV IsSol Full
  rw [hv, hgv, Bool.true_and, Bool.true_and, Bool.and_eq_true, decide_eq_true_eq, hpos]
  constructor
  · rintro ⟨h1, h2⟩
    refine ⟨⟨hg, fun k hk => h2 k (by rw [hg.len]; exact hk)⟩, fun k hk => ?_, h1⟩
    have hc := (fits_parts h1).1
    simp only [clear, decide_eq_true_eq] at hc
    by_cases hkl : k < xs.length
    · have := hc k hkl
      have := h2 k hkl
      omega
    · rw [nth_over (by omega)] at hk; omega
  · rintro ⟨⟨_, h1⟩, _, h2⟩
    exact ⟨h2, fun k hk => h1 k (by rw [← hg.len]; exact hk)⟩
theorem only_in {s : List Int} {ms : List Nat} {n : Nat} (hn : n = 2 ∨ n = 3 ∨ n = 4) (hm : MsN ms n) (hl : Lat s n) (ho : ∀ i : Nat, i < n * n → onlyV (mAt ms i) ≠ 0) : InM s ms (n * n) ↔ s = nats (onlyL ms) := by
  constructor
  · intro h
    refine ext_nth (by rw [nats_len, onlyL_len, hm.len]; exact hl.full.1.len) fun k hk => ?_
    have hk : k < n * n := by rw [← hl.full.1.len]; exact hk
    have h1 := only_of (hm.lt hn k) (ho k hk) (h k hk)
    rw [nth_nats, onlyL_at, (hl.val hk).2.2, h1]
  · rintro rfl k hk
    rw [nth_nats, onlyL_at, Int.toNat_natCast, ((mvals_only (hm.lt hn k)).2 (ho k hk)).2]
    have e : onlyV (2 ^ onlyV (mAt ms k)) = onlyV (mAt ms k) := by rw [← ((mvals_only (hm.lt hn k)).2 (ho k hk)).2]
    rw [e]
    exact Nat.testBit_two_pow_self
theorem cntM_end {p : Puz} (hv : puzzleValid p = true) {ms : List Nat} (hm : MsN ms p.size.toNat) {m : Nat} (h : endM p ms = some m) : cntM p ms = m := by
  obtain ⟨hp, hg⟩ := puz_facts hv
  have hn := hp.hn
  rw [endM_is, hm.len] at h
  unfold cntM
  split at h
  · rename_i h0
    obtain ⟨i, hi, h0⟩ := h0
    cases h
    rw [List.filter_eq_nil_iff.2]
    · rfl
    · intro s hs hin
      have := inMB_iff.1 hin i hi
      rw [h0] at this
      simp at this
  · split at h
    · rename_i _ ho
      cases h
      have hx := onlyL_grd hn hm
      have key : ((allL p).filter fun s => inMB s ms (p.size.toNat * p.size.toNat)).length = (if solvedV p (nats (onlyL ms)) = true then [nats (onlyL ms)] else []).length := by
        refine nodup_eq ((allL_nodup p).filter _) (by split <;> simp) fun s => ?_
        rw [List.mem_filter]
        constructor
        · rintro ⟨h1, h2⟩
          have e := (only_in hn hm (sol_lat hv ((allL_mem hv s).1 h1)) ho).1 (inMB_iff.1 h2)
          rw [← e, if_pos ((solved_sol hv (by rw [e]; exact hx)).2 h1)]
          simp
        · intro h
          split at h
          · rename_i hs
            have e : s = nats (onlyL ms) := by simpa using h
            have h1 := (solved_sol hv hx).1 hs
            rw [e]
            exact ⟨h1, inMB_iff.2 ((only_in hn hm (sol_lat hv ((allL_mem hv _).1 h1)) ho).2 rfl)⟩
          · cases h
      rw [key]
      split <;> rfl
    · cases h
theorem chk_count {p : Puz} (hv : puzzleValid p = true) : ∀ (f : Nat) (ms : List Nat) (bs : List Brn) {m : Nat} {l : List Brn}, MsN ms p.size.toNat → (∀ b ∈ bs, brnOk p.given.length b = true) → chkF p f ms bs = some (m, l) → m = cntM p ms
  | 0, _, _, _, _, _, _, h => by cases h
  | f + 1, ms, bs, m, l, hm, hb, h => by
    obtain ⟨hp, hg⟩ := puz_facts hv
    cases he : endM p ms with
    | some q =>
      rw [chkF_some he] at h
      cases h
      exact (cntM_end hv hm he).symm
    | none =>
      cases bs with
      | nil => rw [chkF_nil he] at h; cases h
      | cons b r =>
        rw [chkF_cons he] at h
        have hrb : ∀ x ∈ r, brnOk p.given.length x = true := fun x hx => hb x (by simp [hx])
        split at h
        · rw [chk_count hv f _ r (narM_ok hm) hrb h, cntM_nar hv _ hm]
        · have hbk := hb b (by simp)
          simp only [brnOk, decide_eq_true_eq] at hbk
          have hk : b.cell.toNat < p.size.toNat * p.size.toNat := by have := hg.len; omega
          have h2 := tryL_sum (p := p) _ _ 0 (fun v hv' bs' m' l' ⟨pre, hpre⟩ hc => by
            have hok := chkF_ok p f (ms.set b.cell.toNat (2 ^ v.toNat)) bs'
            rw [hc] at hok
            exact ⟨chk_count hv f _ bs' (hm.tried hv') (fun x hx => hrb x (by rw [hpre]; simp [hx])) hc, hok.1⟩) h
          rw [h2, Nat.zero_add, cntM_try hv hm hk]
theorem check_count {p : Puz} {pf : List Brn} (h : ¬ checkV p pf < 0) : puzzleValid p = true ∧ checkV p pf = ((allL p).length : Int) := by
  unfold checkV at h ⊢
  split at h
  · rename_i hf
    rw [if_pos hf]
    obtain ⟨hv, h200, hb⟩ := proof_facts hf
    obtain ⟨hp, hg⟩ := puz_facts hv
    refine ⟨hv, ?_⟩
    split at h
    · rename_i n he
      have := chk_count hv 201 (startM p) pf (startM_ok hp hg) hb he
      rw [cntM_start hv] at this
      show ((n : Nat) : Int) = _
      rw [this]
    · omega
  · omega
theorem check_neg {p : Puz} {pf : List Brn} (h : checkV p pf < 0) : checkV p pf = -1 := by
  unfold checkV at h ⊢
  split at h
  · rename_i hf
    rw [if_pos hf]
    split at h
    · omega
    · rfl
  · rename_i hf; rw [if_neg hf]
end Go.Lg

namespace Go.Lg
open Go.Proofs
theorem count_600 {p : Puz} (hv : puzzleValid p = true) : countV p 600 = ((allL p).length : Int) := by
  unfold countV
  rw [if_pos ⟨hv, by omega, by omega⟩]
  show ((allS p 600).length : Int) = _
  rw [allS_all]
end Go.Lg

namespace Go.Lg
open Go.Proofs
set_option maxHeartbeats 4000000 in
theorem law_FnCheckProof (code : List Int) (hl : code.length ≤ 9223372036854775807) (hw : ∀ x ∈ code, (Lit.int .u8 x).wf = true) : Reads Try.prog 14 [rsl (eI .u8) code] (bool true) := by
  refine RunCall.cw (c := _) Try.func14 rfl (n := 33) Try.ntmps14 (rs := [.tmp 2]) rfl ?_
  simp only[List.length_cons,List.length_nil,reduceAdd,reduceSub,List.replicate,List.cons_append,List.nil_append]
  simp(maxSteps:=999999)(disch:=omega)only[go_sem,reduceAdd,reduceMul,reduceSub,reduceEqDiff,reduceLeDiff]
  ((first|(with_reducible first|refine condK_dec ?_ ?_|refine condK_ndec ?_ ?_|refine condK_nb ?_ ?_)|refine condK_b ?_ ?_) <;> intro h1)
  · simp(maxSteps:=999999)(disch:=omega)only[go_sem,reduceAdd,reduceMul,reduceSub,reduceEqDiff,reduceLeDiff]
  simp(maxSteps:=999999)(disch:=omega)only[go_sem,reduceAdd,reduceMul,reduceSub,reduceEqDiff,reduceLeDiff]
  refine OpS.mkF (DrawCheckProof_run code (wf_u8' hw) (by omega)) (⟨_, Try.func57, rfl, rfl⟩ : Enters Try.prog 57) rfl rfl rfl ?_
  rintro _ ⟨p, pf, rfl, hp, hpf⟩
  refine ⟨rfl, rfl, ?_⟩
  have hs := hp.sm
  simp(maxSteps:=999999)(disch:=omega)only[go_sem,reduceAdd,reduceMul,reduceSub,reduceEqDiff,reduceLeDiff]
  intro g
  first | refine OpS.rd (CheckProof_run p pf hs (by omega)) (⟨_, Try.func49, rfl, rfl⟩ : Enters Try.prog 49) rfl rfl rfl rfl ?_ | refine Loud.rd (CheckProof_run p pf hs (by omega)) (⟨_, Try.func49, rfl, rfl⟩ : Enters Try.prog 49) rfl rfl rfl rfl ?_
  simp(maxSteps:=999999)(disch:=omega)only[go_sem,reduceAdd,reduceMul,reduceSub,reduceEqDiff,reduceLeDiff]
  first | refine OpS.rd (sCheckProof_run p pf hs (by omega)) (⟨_, Try.func47, rfl, rfl⟩ : Enters Try.prog 47) rfl rfl rfl rfl ?_ | refine Loud.rd (sCheckProof_run p pf hs (by omega)) (⟨_, Try.func47, rfl, rfl⟩ : Enters Try.prog 47) rfl rfl rfl rfl ?_
  simp(maxSteps:=999999)(disch:=omega)only[go_sem,reduceAdd,reduceMul,reduceSub,reduceEqDiff,reduceLeDiff]
  obtain ⟨V, hV⟩ : ∃ V, V = checkV p pf := ⟨_, rfl⟩
  have hneg := check_neg (p := p) (pf := pf)
  have hcnt := check_count (p := p) (pf := pf)
  rw [← hV] at hneg hcnt ⊢
  ((first|(with_reducible first|refine condK_dec ?_ ?_|refine condK_ndec ?_ ?_|refine condK_nb ?_ ?_)|refine condK_b ?_ ?_) <;> intro c1)
  · have e := hneg c1
    have d0 : decide (V = -1) = true := decide_eq_true e
    simp(maxSteps:=999999)(disch:=omega)only[go_sem,reduceAdd,reduceMul,reduceSub,reduceEqDiff,reduceLeDiff, d0]
    first | refine OpS.rd (aliveF_run) (⟨_, Try.func18, rfl, rfl⟩ : Enters Try.prog 18) rfl rfl rfl rfl ?_ | refine Loud.rd (aliveF_run) (⟨_, Try.func18, rfl, rfl⟩ : Enters Try.prog 18) rfl rfl rfl rfl ?_
    simp(maxSteps:=999999)(disch:=omega)only[go_sem,reduceAdd,reduceMul,reduceSub,reduceEqDiff,reduceLeDiff]
  · obtain ⟨hv, e⟩ := hcnt c1
    simp(maxSteps:=999999)(disch:=omega)only[go_sem,reduceAdd,reduceMul,reduceSub,reduceEqDiff,reduceLeDiff]
    first | refine OpS.rd (CountSolutions_run p 600 hs) (⟨_, Try.func19, rfl, rfl⟩ : Enters Try.prog 19) rfl rfl rfl rfl ?_ | refine Loud.rd (CountSolutions_run p 600 hs) (⟨_, Try.func19, rfl, rfl⟩ : Enters Try.prog 19) rfl rfl rfl rfl ?_
    simp(maxSteps:=999999)(disch:=omega)only[go_sem,reduceAdd,reduceMul,reduceSub,reduceEqDiff,reduceLeDiff]
    rw [e, count_600 hv]
end Go.Lg
