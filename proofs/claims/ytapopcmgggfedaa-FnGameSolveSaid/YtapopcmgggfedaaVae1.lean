/- GpTB, GpNE, GpQA, GpTG, GpTH, cut to what is needed. -/
import Derived.Test.YtapopcmgggfedaaVae0
import Derived.Test.YtapopcmgggfedaaVac8
import Derived.Test.YtapopcmgggfedaaVad1
import Derived.Test.YtapopcmgggfedaaVac5
import Derived.Test.YtapopcmgggfedaaVac6
import Derived.Test.YtapopcmgggfedaaVad7
import Derived.Test.YtapopcmgggfedaaVab8
import Derived.Test.YtapopcmgggfedaaVab9
import Derived.Test.YtapopcmgggfedaaVad6
import Derived.Test.YtapopcmgggfedaaVac1
import Derived.Test.YtapopcmgggfedaaVad0
open Nat(reduceAdd reduceMul reduceSub reduceEqDiff reduceLeDiff)
set_option linter.unusedSimpArgs false
set_option linter.unusedVariables false
set_option maxRecDepth 100000
namespace Go.Lg
open Go.Proofs
theorem set_midk {α : Type} (A B : List α) (x y : α) {k : Nat} (h : A.length = k) : (A ++ x :: B).set k y = A ++ y :: B := by subst h; simp
theorem MasksGrid_run {n : Nat} (hn : n = 2 ∨ n = 3 ∨ n = 4) (ms : List Nat) (hm : MsN ms n) : Reads Try.prog 24 [ints (nats ms), int n] (ints (nats (onlyL ms))) := by
  have hsq : 4 ≤ n * n ∧ n * n ≤ 16 := by rcases hn with rfl | rfl | rfl <;> omega
  have hl : (nats ms).length = n * n := by rw [nats_len]; exact hm.len
  have hlm := hm.len
  have hlo : (onlyL ms).length = n * n := by rw [onlyL_len]; exact hm.len
  refine Reads.own ?_
  refine RunCall.cw (c := _) Try.func24 rfl (n := 29) Try.ntmps24 (rs := [.tmp 4]) rfl ?_
  simp only[List.length_cons,List.length_nil,reduceAdd,reduceSub,List.replicate,List.cons_append,List.nil_append]
  simp(maxSteps:=999999)(disch:=omega)only[go_sem,reduceAdd,reduceMul,reduceSub,reduceEqDiff,reduceLeDiff]
  first | refine OpS.rd (MasksValid_run hn ms hm) (⟨_, Try.func43, rfl, rfl⟩ : Enters Try.prog 43) rfl rfl rfl rfl ?_ | refine Loud.rd (MasksValid_run hn ms hm) (⟨_, Try.func43, rfl, rfl⟩ : Enters Try.prog 43) rfl rfl rfl rfl ?_
  simp(maxSteps:=999999)(disch:=omega)only[go_sem,reduceAdd,reduceMul,reduceSub,reduceEqDiff,reduceLeDiff]
  intro g
  -- the cells that are told already
  refine loop_rule (fun k : Nat => n * n - k) (fun k => k ≤ n * n) (fun k => [.a, .a, .a, .a, .a, .k, .a, .a, .a, .a, .a, .a, .a, .a, .a, .k, .k, .p (int k), .a, .a, .a, .a, .a, .a, .a, .a, .a, .a, .a]) (fun k => [some ⟨g, 1, cl (eI .i64) (nats ((onlyL ms).take k ++ List.replicate (n * n - k) 0))⟩]) 0 (Nat.zero_le _) (by simp(maxSteps:=999999)(disch:=omega)only[go_sem,reduceAdd,reduceMul,reduceSub,reduceEqDiff,reduceLeDiff]; rfl) (hle_eq (by rw [hl]; simp [nats]) (hle_nil _)) ?_
  intro k hk
  simp(maxSteps:=999999)(disch:=omega)only[go_sem,reduceAdd,reduceMul,reduceSub,reduceEqDiff,reduceLeDiff]
  ((first|(with_reducible first|refine condK_dec ?_ ?_|refine condK_ndec ?_ ?_|refine condK_nb ?_ ?_)|refine condK_b ?_ ?_) <;> intro c1)
  · have c1 : k < n * n := by omega
    have hmk := hm.lt hn k
    have hnk := nth_nats ms k
    have hlen : ((onlyL ms).take k ++ List.replicate (n * n - k) 0).length = n * n := by simp; omega
    have hsr := setRange_nats (b := (onlyL ms).take k ++ List.replicate (n * n - k) 0) (k := k) (v := onlyV (mAt ms k)) (by rw [hlen]; exact c1)
    have hset : ((onlyL ms).take k ++ List.replicate (n * n - k) 0).set k (onlyV (mAt ms k)) = (onlyL ms).take (k + 1) ++ List.replicate (n * n - (k + 1)) 0 := by
      have e : mAt (onlyL ms) k = (onlyL ms)[k]'(by omega) := by unfold mAt; simp [List.getD, List.getElem?_eq_getElem (show k < (onlyL ms).length by omega)]
      rw [show n * n - k = (n * n - (k + 1)) + 1 by omega, List.replicate_succ, List.take_succ_eq_append_getElem (by omega), ← e, onlyL_at, set_midk _ _ _ _ (by rw [List.length_take]; omega), List.append_assoc]
      rfl
    have hnl : (nats ((onlyL ms).take k ++ List.replicate (n * n - k) 0)).length = n * n := by rw [nats_len, hlen]
    simp(maxSteps:=999999)(disch:=omega)only[go_sem,reduceAdd,reduceMul,reduceSub,reduceEqDiff,reduceLeDiff, hnk]
    first | refine OpS.rd (onlyValue_run (mAt ms k) hmk.1) (⟨_, Try.func46, rfl, rfl⟩ : Enters Try.prog 46) rfl rfl rfl rfl ?_ | refine Loud.rd (onlyValue_run (mAt ms k) hmk.1) (⟨_, Try.func46, rfl, rfl⟩ : Enters Try.prog 46) rfl rfl rfl rfl ?_
    simp(maxSteps:=999999)(disch:=omega)only[go_sem,reduceAdd,reduceMul,reduceSub,reduceEqDiff,reduceLeDiff]
    exact ⟨k + 1, ⟨by omega, by omega⟩, by push_cast; rfl, by rw [Int.toNat_natCast, nats_set, hset]; exact HLe.refl _⟩
  · have hke : k = n * n := by omega
    have e : (onlyL ms).take k ++ List.replicate (n * n - k) 0 = onlyL ms := by rw [hke, Nat.sub_self, List.take_of_length_le (by omega)]; simp
    rw [e]
    have hl2 : (nats (onlyL ms)).length = n * n := by rw [nats_len]; exact hlo
    simp(maxSteps:=999999)(disch:=omega)only[go_sem,reduceAdd,reduceMul,reduceSub,reduceEqDiff,reduceLeDiff]
    rw [hl, ← hl2]
    exact lessQ_own (E := eI .i64) (n := 1) (HLe.refl _)
theorem PuzzleSolved_gen (p : Puz) (xs : List Int) (hx : smP p) (hl : xs.length ≤ 2 ^ 40) : Reads Try.prog 11 [aP p, ints xs] (bool (solvedV p xs)) := by
  refine RunCall.cw (c := _) Try.func11 rfl (n := 17) Try.ntmps11 (rs := [.tmp 4]) rfl ?_
  simp only[List.length_cons,List.length_nil,reduceAdd,reduceSub,List.replicate,List.cons_append,List.nil_append]
  simp(maxSteps:=999999)(disch:=omega)only[go_sem,reduceAdd,reduceMul,reduceSub,reduceEqDiff,reduceLeDiff]
  intro g
  first | refine OpS.rd (PuzzleFits_gen p xs hx hl) (⟨_, Try.func25, rfl, rfl⟩ : Enters Try.prog 25) rfl rfl rfl rfl ?_ | refine Loud.rd (PuzzleFits_gen p xs hx hl) (⟨_, Try.func25, rfl, rfl⟩ : Enters Try.prog 25) rfl rfl rfl rfl ?_
  simp(maxSteps:=999999)(disch:=omega)only[go_sem,reduceAdd,reduceMul,reduceSub,reduceEqDiff,reduceLeDiff]
  cases h : fitsV p xs with
  | false =>
    have e : solvedV p xs = false := by unfold solvedV; unfold fitsV at h; rw [h]; rfl
    rw [e]
    simp(maxSteps:=999999)(disch:=omega)only[go_sem,reduceAdd,reduceMul,reduceSub,reduceEqDiff,reduceLeDiff]
  | true =>
    have e : solvedV p xs = decide (gridFilled xs p.size = xs.length) := by unfold solvedV; unfold fitsV at h; rw [h]; rfl
    rw [e]
    simp(maxSteps:=999999)(disch:=omega)only[go_sem,reduceAdd,reduceMul,reduceSub,reduceEqDiff,reduceLeDiff]
    first | refine OpS.rd (GridFilled_run xs p.size hl) (⟨_, Try.func12, rfl, rfl⟩ : Enters Try.prog 12) rfl rfl rfl rfl ?_ | refine Loud.rd (GridFilled_run xs p.size hl) (⟨_, Try.func12, rfl, rfl⟩ : Enters Try.prog 12) rfl rfl rfl rfl ?_
    simp(maxSteps:=999999)(disch:=omega)only[go_sem,reduceAdd,reduceMul,reduceSub,reduceEqDiff,reduceLeDiff]
end Go.Lg

namespace Go.Lg
open Go.Proofs
def SubM (a b : List Nat) : Prop := ∀ k i : Nat, (mAt a k).testBit i = true → (mAt b k).testBit i = true
theorem SubM.refl (a : List Nat) : SubM a a := fun _ _ h => h
theorem SubM.trans {a b c : List Nat} (h : SubM a b) (g : SubM b c) : SubM a c := fun k i x => g k i (h k i x)
theorem set_subM {o ms : List Nat} {c v : Nat} (h : SubM o ms) (hv : ∀ i, v.testBit i = true → (mAt ms c).testBit i = true) : SubM (o.set c v) ms := fun k i hb => by
  by_cases hc : c < o.length
  · rw [mAt_set hc] at hb
    split at hb
    · rename_i hk; rw [hk]; exact hv i hb
    · exact h k i hb
  · rw [List.set_eq_of_length_le (by omega)] at hb; exact h k i hb
theorem putR_sub (r : Rul) (ms : List Nat) : ∀ j, j ≤ r.cells.length → SubM (putR r (ruleM r (nats ms)) ms j) ms
  | 0, _ => SubM.refl ms
  | j + 1, hj => by
    rw [putR_succ]
    exact set_subM (putR_sub r ms j (by omega)) fun i hb => (ruleM_at (by omega) hb).2
theorem foldS_sub : ∀ (rs : List Rul) (ms : List Nat), SubM (rs.foldl rulS ms) ms
  | [], ms => SubM.refl ms
  | r :: rs, ms => (foldS_sub rs (rulS ms r)).trans (putR_sub r ms _ (Nat.le_refl _))
theorem clrL_sub {R : List (Nat × Nat)} {n : Nat} (hn : n = 2 ∨ n = 3 ∨ n = 4) {ms : List Nat} (hm : MsN ms n) : SubM (clrL R ms) ms := fun k i hb => by
  by_cases hk : k < ms.length
  · rw [clrL_bit (fun k => by have := (hm.lt hn k).1; omega) hk, Bool.and_eq_true] at hb
    exact hb.1
  · rw [mAt_over (by rw [clrL_len]; omega)] at hb
    simp at hb
theorem narM_subM {p : Puz} {n : Nat} (hn : n = 2 ∨ n = 3 ∨ n = 4) (t : Nat) {ms : List Nat} (hm : MsN ms n) : SubM (narM p t ms) ms := by
  unfold narM sglM hidM parM rulM
  split
  · exact clrL_sub hn hm
  split
  · exact clrL_sub hn hm
  split
  · exact clrL_sub hn hm
  · exact foldS_sub _ _
theorem count_all {α : Type} {q : α → Bool} {L : List α} : L.countP q = L.length ↔ ∀ x ∈ L, q x = true := by
  rw [List.countP_eq_length]
theorem solved_sol {p : Puz} (hv : puzzleValid p = true) {xs : List Int} (hg : GrdN xs p.size.toNat) : solvedV p xs = true ↔ xs ∈ allL p := by
  obtain ⟨hp, ha⟩ := puz_facts hv
  have hz : ((p.size.toNat : Nat) : Int) = p.size := (PuzN.of hv).2
  have hgv : gridValid xs p.size = true := by have := hg.valid hp.hn; rwa [hz] at this
  have hlen : p.given.length = xs.length := by rw [ha.len, hg.len]
  have hpos : gridFilled xs p.size = xs.length ↔ ∀ k : Nat, k < xs.length → 0 < nth xs k := by
    unfold gridFilled
    rw [if_pos hgv]
    have e : (((xs.countP fun v => decide (0 < v) : Nat) : Int) = xs.length) ↔ (xs.countP fun v => decide (0 < v)) = xs.length := by omega
    rw [e, count_all]
    constructor
    · intro h k hk
      have := h xs[k] (List.getElem_mem _)
      rw [nth_eq (by omega)]
      exact of_decide_eq_true this
    · intro h x hx
      obtain ⟨i, hi, rfl⟩ := List.getElem_of_mem hx
      have := h i hi
      rw [nth_eq (by omega)] at this
      exact decide_eq_true this
  rw [allL_mem hv]
  unfold solvedV IsSol Full
  rw [hv, hgv, Bool.true_and, Bool.true_and, Bool.and_eq_true, decide_eq_true_eq, hpos]
  constructor
  · rintro ⟨h1, h2⟩
    refine ⟨⟨hg, fun k hk => h2 k (by rw [hg.len]; exact hk)⟩, fun k hk => ?_, h1⟩
    have hc := (fits_parts h1).1
    simp only [clear, decide_eq_true_eq] at hc
    by_cases hkl : k < xs.length
    · have := hc k hkl
      have := h2 k hkl
      omega
    · rw [nth_over (by omega)] at hk; omega
  · rintro ⟨⟨_, h1⟩, _, h2⟩
    exact ⟨h2, fun k hk => h1 k (by rw [← hg.len]; exact hk)⟩
end Go.Lg

namespace Go.Lg
open Go.Proofs
theorem clr_fix {R : List (Nat × Nat)} {n : Nat} {A : List Nat} (hn : n = 2 ∨ n = 3 ∨ n = 4) (hm : MsN A n) (hf : clrL R A = A) {q : Nat × Nat} (hq : q ∈ R) (hk : q.1 < n * n) {i : Nat} (hi : (mAt A q.1).testBit i = true) : q.2.testBit i = false := by
  have h := clrL_bit (R := R) (ms := A) (fun k => by have := hm.lt hn k; omega) (c := q.1) (b := i) (by rw [hm.len]; exact hk)
  rw [hf, hi, Bool.true_and, eq_comm, List.all_eq_true] at h
  have := h q hq
  simpa using this
theorem clr_sub {R : List (Nat × Nat)} {n : Nat} {A B : List Nat} (hn : n = 2 ∨ n = 3 ∨ n = 4) (hA : MsN A n) (hB : MsN B n) (hs : SubM A B) (h : ∀ q ∈ R, q.1 < n * n → ∀ i, (mAt A q.1).testBit i = true → q.2.testBit i = false) : SubM A (clrL R B) := fun k i hb => by
  by_cases hk : k < n * n
  · rw [clrL_bit (fun k => by have := hB.lt hn k; omega) (by rw [hB.len]; exact hk), hs k i hb, Bool.true_and, List.all_eq_true]
    intro q hq
    by_cases hqk : q.1 = k
    · rw [h q hq (by omega) i (by rw [hqk]; exact hb), Bool.and_false]; rfl
    · have : (q.1 == k) = false := by simpa using hqk
      rw [this]; rfl
  · rw [mAt_over (by rw [hA.len]; omega)] at hb
    simp at hb
theorem eq_of_bits {a b : Nat} (h : ∀ i, a.testBit i = true ↔ b.testBit i = true) : a = b := Nat.eq_of_testBit_eq fun i => by rw [Bool.eq_iff_iff]; exact h i
theorem sub_eq {a b : List Nat} (hl : a.length = b.length) (h : SubM a b) (g : SubM b a) : a = b := by
  refine List.ext_getElem hl fun k h1 h2 => ?_
  have e : mAt a k = mAt b k := eq_of_bits fun i => ⟨h k i, g k i⟩
  simpa [mAt, List.getD, List.getElem?_eq_getElem h1, List.getElem?_eq_getElem h2] using e
theorem one_sub {A B : List Nat} {s : List Int} {n i : Nat} (hn : n = 2 ∨ n = 3 ∨ n = 4) (hA : MsN A n) (hB : MsN B n) (hs : SubM A B) (hi : (mAt A i).testBit (nth s i).toNat = true) (ho : onlyV (mAt B i) ≠ 0) : mAt A i = mAt B i := by
  have hv := only_of (hB.lt hn i) ho (hs i _ hi)
  have e := ((mvals_only (hB.lt hn i)).2 ho).2
  refine eq_of_bits fun b => ⟨fun h => hs i b h, fun h => ?_⟩
  have := only_of (hB.lt hn i) ho h
  rw [this, ← hv]
  exact hi
section
variable {s : List Int} {n : Nat} {A B : List Nat}
theorem sgl_keep (hs : Lat s n) (hA : MsN A n) (hB : MsN B n) (hi : InM s A (n * n)) (hS : SubM A B) (h1 : sglM A n = A) : SubM A (sglM B n) := by
  rw [← sgl_same hs.hn hB]
  rw [← sgl_same hs.hn hA] at h1
  refine clr_sub hs.hn hA hB hS fun q hq hq1 b hb => ?_
  refine clr_fix hs.hn hA h1 (q := q) ?_ hq1 hb
  obtain ⟨i, hir, hq⟩ := List.mem_flatMap.1 hq
  have hir' := List.mem_range.1 hir
  refine List.mem_flatMap.2 ⟨i, hir, ?_⟩
  unfold sglB at hq ⊢
  split at hq
  · cases hq
  rename_i ho
  have e := one_sub hs.hn hA hB hS (hi i hir') ho
  rw [e, if_neg ho]
  obtain ⟨j, hj, hq⟩ := List.mem_flatMap.1 hq
  refine List.mem_flatMap.2 ⟨j, hj, ?_⟩
  unfold sglJ at hq ⊢
  rw [e]
  exact hq
theorem hcnt_none {ms : List Nat} {line v : Nat} : ∀ {k : Nat}, (∀ j, j < k → (mAt ms (lnN n line j)).testBit v = false) → (hcnt ms n line v k).1 = 0
  | 0, _ => rfl
  | k + 1, h => by
    unfold hcnt
    rw [if_neg (by rw [h k (by omega)]; simp)]
    exact hcnt_none fun j hj => h j (by omega)
theorem hcnt_has {ms : List Nat} {line v : Nat} : ∀ {k j : Nat}, j < k → (mAt ms (lnN n line j)).testBit v = true → (∀ i, i < k → i ≠ j → (mAt ms (lnN n line i)).testBit v = false) → (hcnt ms n line v k).1 = 1 ∧ (hcnt ms n line v k).2 = lnN n line j
  | 0, j, h, _, _ => by omega
  | k + 1, j, hj, hb, h => by
    unfold hcnt
    by_cases hjk : j = k
    · subst hjk
      rw [if_pos hb, hcnt_none fun i hi => h i (by omega) (by omega)]
      exact ⟨rfl, rfl⟩
    · rw [if_neg (by rw [h k (by omega) (fun e => hjk e.symm)]; simp)]
      exact hcnt_has (by omega) hb fun i hi hne => h i (by omega) hne
theorem hid_keep (hs : Lat s n) (hA : MsN A n) (hB : MsN B n) (hi : InM s A (n * n)) (hS : SubM A B) (h2 : hidM A n = A) : SubM A (hidM B n) := by
  unfold hidM at h2 ⊢
  refine clr_sub hs.hn hA hB hS fun q hq hq1 b hb => ?_
  refine clr_fix hs.hn hA h2 (q := q) ?_ hq1 hb
  obtain ⟨line, hl, hq⟩ := List.mem_flatMap.1 hq
  have hl' := List.mem_range.1 hl
  refine List.mem_flatMap.2 ⟨line, hl, ?_⟩
  unfold hidA at hq ⊢
  obtain ⟨u, hu, hq⟩ := List.mem_flatMap.1 hq
  have hu' := List.mem_range.1 hu
  refine List.mem_flatMap.2 ⟨u, hu, ?_⟩
  unfold hidV at hq ⊢
  split at hq
  · rename_i h1
    obtain ⟨k, hk, he⟩ := hs.onto hl' (v := u + 1) ⟨by omega, by omega⟩
    have hbk := hi _ (lnN_lt hs.hn hl' hk).1
    rw [he] at hbk
    have hat := hcnt_one h1 k hk (hS _ _ hbk)
    have := hcnt_has (ms := A) hk hbk fun i hin hne => by
      cases hbi : (mAt A (lnN n line i)).testBit (u + 1) with
      | false => rfl
      | true =>
        have h3 := hcnt_one h1 i hin (hS _ _ hbi)
        rw [← hat] at h3
        exact absurd ((lnN_inj hs.hn hl' hin hk).1 h3) hne
    rw [if_pos this.1, this.2, hat]
    exact hq
  · cases hq
theorem two_mem {m a b c : Nat} (hl : (mvals m 4).length = 2) (ha : 1 ≤ a ∧ a ≤ 4) (hb : 1 ≤ b ∧ b ≤ 4) (hc : 1 ≤ c ∧ c ≤ 4) (ma : m.testBit a = true) (mb : m.testBit b = true) (mc : m.testBit c = true) (hab : a ≠ b) : c = a ∨ c = b := by
  refine Classical.byContradiction fun hno => ?_
  have hnd : ([(a : Int), (b : Int), (c : Int)] : List Int).Nodup := by
    simp only [List.nodup_cons, List.mem_cons, List.not_mem_nil, or_false, not_or, List.nodup_nil, and_true, not_false_eq_true]
    omega
  have := nodup_le hnd (b := mvals m 4) fun z hz => by
    simp only [List.mem_cons, List.not_mem_nil, or_false] at hz
    rcases hz with rfl | rfl | rfl
    · exact mem_mvals ha ma
    · exact mem_mvals hb mb
    · exact mem_mvals hc mc
  simp only [List.length_cons, List.length_nil] at this
  omega
theorem bit_range {ms : List Nat} {k b : Nat} (hn : n = 2 ∨ n = 3 ∨ n = 4) (hm : MsN ms n) (h : (mAt ms k).testBit b = true) : 1 ≤ b ∧ b ≤ 4 := by
  have h1 := hm.lt hn k
  have h2 := Nat.ge_two_pow_of_testBit h
  refine ⟨?_, ?_⟩
  · refine Nat.pos_of_ne_zero fun e => ?_
    subst e
    rw [Nat.testBit_zero, decide_eq_true_eq] at h
    omega
  · refine Nat.le_of_not_lt fun hlt => ?_
    have : 2 ^ 5 ≤ 2 ^ b := Nat.pow_le_pow_right (by omega) hlt
    omega
theorem only_bits {m v : Nat} (hm : m ≤ 30 ∧ m % 2 = 0) (hv : 1 ≤ v ∧ v ≤ 4) (h : ∀ b, m.testBit b = true ↔ b = v) : onlyV m ≠ 0 ∧ m = 2 ^ v := by
  have e : m = 2 ^ v := eq_of_bits fun b => by rw [h b, Nat.testBit_two_pow, decide_eq_true_eq, eq_comm]
  refine ⟨?_, e⟩
  have : v = 1 ∨ v = 2 ∨ v = 3 ∨ v = 4 := by omega
  rw [e]
  rcases this with rfl | rfl | rfl | rfl <;> decide
theorem sgl_line (hs : Lat s n) (hA : MsN A n) (h1 : sglM A n = A) {line x k b : Nat} (hl : line < 2 * n) (hx : x < n) (hk : k < n) (hkx : k ≠ x) (ho : onlyV (mAt A (lnN n line x)) ≠ 0) (hb : (mAt A (lnN n line k)).testBit b = true) : (mAt A (lnN n line x)).testBit b = false := by
  rw [← sgl_same hs.hn hA] at h1
  have hx1 := (lnN_lt hs.hn hl hx).1
  have hk1 := (lnN_lt hs.hn hl hk).1
  refine clr_fix hs.hn hA h1 (q := (lnN n line k, mAt A (lnN n line x))) ?_ hk1 hb
  refine List.mem_flatMap.2 ⟨lnN n line x, List.mem_range.2 hx1, ?_⟩
  unfold sglB
  rw [if_neg ho]
  refine List.mem_flatMap.2 ⟨lnN n line k, List.mem_range.2 hk1, ?_⟩
  unfold sglJ
  rw [if_pos ⟨fun e => hkx ((lnN_inj hs.hn hl hk hx).1 e), ln_rel hs.hn hl hk hx⟩]
  simp
theorem par_keep (hs : Lat s n) (hA : MsN A n) (hB : MsN B n) (hi : InM s A (n * n)) (hS : SubM A B) (h1 : sglM A n = A) (h3 : parM A n = A) : SubM A (parM B n) := by
  have hn := hs.hn
  unfold parM at h3 ⊢
  refine clr_sub hn hA hB hS fun q hq hq1 b hb => ?_
  obtain ⟨line, hl, hq⟩ := List.mem_flatMap.1 hq
  have hl' := List.mem_range.1 hl
  obtain ⟨x, y, k, hxy, hy, hk, ⟨he, hlen⟩, ⟨hkx, hky⟩, rfl⟩ := (par_mem hn B hl' q).1 hq
  simp only at hq1 hb ⊢
  have hx : x < n := by omega
  cases hbx : (mAt B (lnN n line x)).testBit b with
  | false => rfl
  | true =>
    exfalso
    have cx := (lnN_lt hn hl' hx).1
    have cy := (lnN_lt hn hl' hy).1
    have ck := (lnN_lt hn hl' hk).1
    have vx := hs.val cx
    have vy := hs.val cy
    have ax := hi _ cx
    have ay := hi _ cy
    have nxy := hs.line hl' hx hy (by omega)
    have bx := hS _ _ ax
    have bY := hS _ _ ay
    rw [← he] at bY
    have hbr := bit_range hn hA hb
    -- the two masks in A
    have two : ∀ c, (mAt B (lnN n line x)).testBit c = true → c = (nth s (lnN n line x)).toNat ∨ c = (nth s (lnN n line y)).toNat := fun c hc => two_mem hlen (by omega) (by omega) (bit_range hn hB hc) bx bY hc nxy
    have hb2 := two b hbx
    by_cases ex : mAt A (lnN n line x) = mAt A (lnN n line y) ∧ (mvals (mAt A (lnN n line x)) 4).length = 2
    · -- a pair there
      have hmem : (lnN n line k, mAt A (lnN n line x)) ∈ (List.range (2 * n)).flatMap (parA A n) := List.mem_flatMap.2 ⟨line, hl, (par_mem hn A hl' _).2 ⟨x, y, k, hxy, hy, hk, ex, ⟨hkx, hky⟩, rfl⟩⟩
      have h := clr_fix hn hA h3 hmem ck hb
      simp only at h
      rcases hb2 with e | e
      · rw [e, ax] at h; cases h
      · rw [ex.1, e, ay] at h; cases h
    · -- one of them is single
      have sng : ∀ z w, z < n → w < n → z ≠ w → (∀ c, (mAt A (lnN n line z)).testBit c = true → c = (nth s (lnN n line z)).toNat ∨ c = (nth s (lnN n line w)).toNat) → (mAt A (lnN n line z)).testBit (nth s (lnN n line w)).toNat = false → onlyV (mAt A (lnN n line z)) ≠ 0 := by
        intro z w hz hw hzw ht hno
        have cz := (lnN_lt hn hl' hz).1
        have vz := hs.val cz
        refine (only_bits (hA.lt hn _) (v := (nth s (lnN n line z)).toNat) (by omega) fun c => ⟨fun hc => ?_, fun hc => by rw [hc]; exact hi _ cz⟩).1
        rcases ht c hc with e | e
        · exact e
        · rw [e, hno] at hc; cases hc
      have tx : ∀ c, (mAt A (lnN n line x)).testBit c = true → c = (nth s (lnN n line x)).toNat ∨ c = (nth s (lnN n line y)).toNat := fun c hc => two c (hS _ _ hc)
      have ty : ∀ c, (mAt A (lnN n line y)).testBit c = true → c = (nth s (lnN n line y)).toNat ∨ c = (nth s (lnN n line x)).toNat := fun c hc => (two c (by rw [he]; exact hS _ _ hc)).symm
      have hyx : y ≠ x := by omega
      have key : onlyV (mAt A (lnN n line x)) ≠ 0 ∧ onlyV (mAt A (lnN n line y)) ≠ 0 := by
        cases qx : (mAt A (lnN n line x)).testBit (nth s (lnN n line y)).toNat with
        | false =>
          have ox := sng x y hx hy (by omega) tx qx
          refine ⟨ox, sng y x hy hx hyx ty ?_⟩
          cases q2 : (mAt A (lnN n line y)).testBit (nth s (lnN n line x)).toNat with
          | false => rfl
          | true =>
            have := sgl_line hs hA h1 hl' hx hy hyx ox q2
            rw [ax] at this; cases this
        | true =>
          cases qy : (mAt A (lnN n line y)).testBit (nth s (lnN n line x)).toNat with
          | false =>
            have oy := sng y x hy hx hyx ty qy
            have := sgl_line hs hA h1 hl' hy hx (by omega) oy qx
            rw [ay] at this; cases this
          | true =>
            exfalso
            refine ex ⟨eq_of_bits fun c => ⟨fun hc => ?_, fun hc => ?_⟩, ?_⟩
            · rcases tx c hc with e | e <;> rw [e]
              · exact qy
              · exact ay
            · rcases ty c hc with e | e <;> rw [e]
              · exact qx
              · exact ax
            · have e : mAt A (lnN n line x) = mAt B (lnN n line x) := eq_of_bits fun c => ⟨fun hc => hS _ _ hc, fun hc => by
                rcases two c hc with e | e <;> rw [e]
                · exact ax
                · exact qx⟩
              rw [e]; exact hlen
      rcases hb2 with e | e
      · have := sgl_line hs hA h1 hl' hx hk hkx key.1 hb
        rw [e, ax] at this; cases this
      · have := sgl_line hs hA h1 hl' hy hk hky key.2 hb
        rw [e, ay] at this; cases this
theorem putR_get {r : Rul} {fd ms : List Nat} (hnd : r.cells.Nodup) (h0 : ∀ c ∈ r.cells, 0 ≤ c ∧ c < (ms.length : Int)) : ∀ J, J ≤ r.cells.length → ∀ j, j < J → mAt (putR r fd ms J) (nth r.cells j).toNat = fd.getD j 0
  | 0, _, j, hj => by omega
  | J + 1, hJ, j, hj => by
    have hc := h0 _ (nth_mem (xs := r.cells) (i := J) (by omega))
    have hcj := h0 _ (nth_mem (xs := r.cells) (i := j) (by omega))
    rw [putR_succ, mAt_set (by rw [putR_len]; omega)]
    by_cases e : j = J
    · rw [e, if_pos rfl]
    · rw [if_neg, putR_get hnd h0 J (by omega) j (by omega)]
      intro h
      have h2 : nth r.cells (j : Int) = nth r.cells (J : Int) := by omega
      rw [nth_eq (by omega), nth_eq (by omega)] at h2
      exact e ((List.getElem_inj hnd).1 h2)
theorem ruleM_mono {r : Rul} {A B : List Nat} (hS : SubM A B) (h0 : ∀ c ∈ r.cells, 0 ≤ c) {j b : Nat} (h : ((ruleM r (nats A)).getD j 0).testBit b = true) : ((ruleM r (nats B)).getD j 0).testBit b = true := by
  refine (ways_mono r (remM r (nats A) 0) (remM r (nats B) 0) [] (List.replicate r.cells.length 0) (List.replicate r.cells.length 0) (by unfold remM; simp) (by unfold remM; simp) (fun k v _ _ hb => ?_) ⟨rfl, fun _ _ h => h⟩).2 j b h
  unfold remM at hb ⊢
  by_cases hk : k < r.cells.length
  · have hc := h0 _ (List.getElem_mem hk)
    simp only [List.drop_zero, List.getD, List.getElem?_map, List.getElem?_eq_getElem hk, Option.map_some, Option.getD_some] at hb ⊢
    obtain ⟨c, hc'⟩ : ∃ c : Nat, r.cells[k] = c := ⟨r.cells[k].toNat, by omega⟩
    rw [hc', nth_nats, Int.toNat_natCast] at hb ⊢
    exact hS c v hb
  · simp [List.getD, List.getElem?_eq_none (show r.cells.length ≤ k by omega)] at hb
theorem rulS_keep {r : Rul} (hn : n = 2 ∨ n = 3 ∨ n = 4) (hv : ruleValid r n = true) (hA : MsN A n) (hB : MsN B n) (hS : SubM A B) (hf : rulS A r = A) : SubM A (rulS B r) := by
  obtain ⟨f1, f2, f3, f4⟩ := ruleValid_facts hv
  have hcA : ∀ c ∈ r.cells, 0 ≤ c ∧ c < (A.length : Int) := fun c hc => by have := f3 c hc; rw [hA.len]; exact this
  have gen : ∀ J, J ≤ r.cells.length → SubM A (putR r (ruleM r (nats B)) B J) := by
    intro J
    induction J with
    | zero => intro _; exact hS
    | succ J ih =>
      intro hJ k b hb
      have hc := f3 _ (nth_mem (xs := r.cells) (i := J) (by omega))
      rw [putR_succ, mAt_set (by rw [putR_len, hB.len]; omega)]
      split
      · rename_i hk
        subst hk
        refine ruleM_mono hS (fun c hc => (f3 c hc).1) ?_
        rw [← putR_get (fd := ruleM r (nats A)) (ms := A) f4 hcA _ (Nat.le_refl _) J (by omega)]
        have : putR r (ruleM r (nats A)) A r.cells.length = A := hf
        rw [this]
        exact hb
      · exact ih (by omega) k b hb
  exact gen _ (Nat.le_refl _)
theorem foldS_fix : ∀ (rs : List Rul) {A : List Nat}, rs.foldl rulS A = A → ∀ r ∈ rs, rulS A r = A
  | [], _, _, r, hr => by cases hr
  | q :: rs, A, h, r, hr => by
    have h1 : SubM A (rulS A q) := by
      have := foldS_sub rs (rulS A q)
      rw [List.foldl_cons] at h
      rwa [h] at this
    have h2 : SubM (rulS A q) A := putR_sub q A _ (Nat.le_refl _)
    have e : rulS A q = A := sub_eq (putR_len q _ A _) h2 h1
    rcases List.mem_cons.1 hr with rfl | hr
    · exact e
    · rw [List.foldl_cons, e] at h
      exact foldS_fix rs h r hr
theorem rul_keep {p : Puz} (hp : PuzN p n) (hA : MsN A n) (hB : MsN B n) (hS : SubM A B) (hf : rulM p A = A) : SubM A (rulM p B) := by
  have hfix := foldS_fix p.rules hf
  have gen : ∀ (rs : List Rul), (∀ r ∈ rs, ruleValid r n = true ∧ rulS A r = A) → ∀ B : List Nat, MsN B n → SubM A B → SubM A (rs.foldl rulS B) := by
    intro rs
    induction rs with
    | nil => intro _ B _ h; exact h
    | cons r rs ih =>
      intro hr B hB h
      obtain ⟨hv, hfr⟩ := hr r (by simp)
      exact ih (fun q hq => hr q (by simp [hq])) _ (putR_ok r hB _ (Nat.le_refl _)) (rulS_keep hp.hn hv hA hB h hfr)
  exact gen p.rules (fun r hr => ⟨hp.rv r hr, hfix r hr⟩) B hB hS
theorem nar_keep {p : Puz} (hs : Lat s n) (hp : PuzN p n) (hA : MsN A n) (hB : MsN B n) (hi : InM s A (n * n)) (hS : SubM A B) (hf : nextM p A = 0) (t : Nat) : SubM A (narM p t B) := by
  have hz : p.size.toNat = n := by rw [hp.size]; rfl
  unfold nextM at hf
  by_cases a1 : narM p 1 A = A
  rotate_left
  · rw [if_pos a1] at hf; omega
  rw [if_neg (fun h => h a1)] at hf
  by_cases a2 : narM p 2 A = A
  rotate_left
  · rw [if_pos a2] at hf; omega
  rw [if_neg (fun h => h a2)] at hf
  by_cases a3 : narM p 3 A = A
  rotate_left
  · rw [if_pos a3] at hf; omega
  rw [if_neg (fun h => h a3)] at hf
  by_cases a4 : narM p 4 A = A
  rotate_left
  · rw [if_pos a4] at hf; omega
  have f1 : sglM A n = A := by have := a1; unfold narM at this; rw [if_pos rfl, hz] at this; exact this
  have f2 : hidM A n = A := by have := a2; unfold narM at this; rw [if_neg (by omega), if_pos rfl, hz] at this; exact this
  have f3 : parM A n = A := by have := a3; unfold narM at this; rw [if_neg (by omega), if_neg (by omega), if_pos rfl, hz] at this; exact this
  have f4 : rulM p A = A := by have := a4; unfold narM at this; rw [if_neg (by omega), if_neg (by omega), if_neg (by omega)] at this; exact this
  unfold narM
  rw [hz]
  split
  · exact sgl_keep hs hA hB hi hS f1
  split
  · exact hid_keep hs hA hB hi hS f2
  split
  · exact par_keep hs hA hB hi hS f1 f3
  · exact rul_keep hp hA hB hS f4
end
end Go.Lg

namespace Go.Lg
open Go.Proofs
attribute [-go_sem] appendM lwF_cons
def openK (ms : List Nat) : Nat := ((List.range ms.length).find? fun k => decide (onlyV (mAt ms k) = 0)).getD 0
def mkF (p : Puz) : Nat → List Nat → List Brn → List Brn
  | 0, _, out => out
  | f + 1, ms, out => if 200 < out.length then out else match endM p ms with
    | some _ => out
    | none => if nextM p ms ≠ 0 then mkF p f (narM p (nextM p ms) ms) (out ++ [⟨nextM p ms, 0⟩]) else (mvals (mAt ms (openK ms)) 4).foldl (fun o v => mkF p f (ms.set (openK ms) (2 ^ v.toNat)) o) (out ++ [⟨0, openK ms⟩])
abbrev brnH (g : Nat) (b : Brn) : Heap := [some ⟨g, 2, cB b⟩]
def mkQ (H : Heap) (id : Nat) (R : List Brn) : KV := fun v H' => ∃ g', v = .c (.own id g' 0 R.length none) ∧ look H' id g' = some ⟨g', 2, cl eB R⟩ ∧ Frm H H' [id]
structure MkI (H HI : Heap) (id g gb : Nat) (p : Puz) (out : List Brn) : Prop where
  cells : look HI id g = some ⟨g, 2, cl eB out⟩
  box : look HI H.length gb = some ⟨gb, 1, cP p⟩
  lt : id < H.length
  ln : H.length + 1 ≤ HI.length
  frm : ∀ i, i < H.length → i ≠ id → HI[i]? = H[i]?
theorem MkI.done {H HI : Heap} {id g gb : Nat} {p : Puz} {out : List Brn} (h : MkI H HI id g gb p out) : lessQ HI (mkQ H id out) (.c (.own id g 0 out.length none)) := by
  have hl := h.lt
  have hn := h.ln
  refine ⟨HI.take H.length, fun i b hb => ?_, g, rfl, ?_, by simp; omega, fun i hi => ?_⟩
  · by_cases hi : i < H.length
    · rwa [List.getElem?_take_of_lt hi] at hb
    · rw [List.getElem?_take_eq_none (by omega)] at hb; cases hb
  · have hc := h.cells
    unfold look at hc ⊢
    rw [List.getElem?_take_of_lt hl]
    exact hc
  · by_cases h2 : i < H.length
    · rw [List.getElem?_take_of_lt h2, h.frm i h2 (by simpa using hi)]
    · rw [List.getElem?_take_eq_none (by omega), List.getElem?_eq_none (by omega)]
theorem MkI.app {H HI H' : Heap} {id g gb : Nat} {p : Puz} {out : List Brn} (h : MkI H HI id g gb p out) : MkI H (HI ++ H') id g gb p out :=
  ⟨look_appL h.cells, look_appL h.box, h.lt, by have := h.ln; simp; omega, fun i h1 h2 => by rw [List.getElem?_append_left (by have := h.ln; omega)]; exact h.frm i h1 h2⟩
theorem MkI.put {H HI : Heap} {id g gb : Nat} {p : Puz} {out R : List Brn} (h : MkI H HI id g gb p out) (g' : Nat) : MkI H (HI.set id (some ⟨g', 2, cl eB R⟩)) id g' gb p R := by
  have hl := h.lt
  have hn := h.ln
  refine ⟨?_, ?_, hl, by simp; omega, fun i h1 h2 => by rw [List.getElem?_set_ne (Ne.symm h2)]; exact h.frm i h1 h2⟩
  · unfold look
    rw [List.getElem?_set_self (by omega)]
    simp
  · have hb := h.box
    unfold look at hb ⊢
    rw [List.getElem?_set_ne (by omega)]
    exact hb
theorem MkI.step {H HI H' : Heap} {id g g' gb : Nat} {p : Puz} {out R : List Brn} (h : MkI H HI id g gb p out) (hf : Frm HI H' [id]) (hc : look H' id g' = some ⟨g', 2, cl eB R⟩) : MkI H H' id g' gb p R := by
  have hl := h.lt
  have hn := h.ln
  refine ⟨hc, ?_, hl, by rw [hf.1]; exact hn, fun i h1 h2 => by rw [hf.2 i (by simpa using h2)]; exact h.frm i h1 h2⟩
  have hb := h.box
  unfold look at hb ⊢
  rw [hf.2 _ (by simp; omega)]
  exact hb
end Go.Lg

namespace Go.Lg
open Go.Proofs
attribute [-go_sem] appendM lwF_cons
structure MkJ (H HI : Heap) (id pid g pg gb : Nat) (p : Puz) (out : List Brn) : Prop where
  cells : look HI id g = some ⟨g, 2, cl eB out⟩
  cell : look HI pid pg = some ⟨pg, 1, [.own id g 0 out.length none]⟩
  box : look HI H.length gb = some ⟨gb, 1, cP p⟩
  lt : id < H.length
  lt2 : pid < H.length
  ne : id ≠ pid
  ln : H.length + 1 ≤ HI.length
  frm : ∀ i, i < H.length → i ≠ id → i ≠ pid → HI[i]? = H[i]?
def mkQ2 (H : Heap) (id pid pg : Nat) (R : List Brn) : KV := fun v H' => v = .tup [] ∧ ∃ g', look H' id g' = some ⟨g', 2, cl eB R⟩ ∧ look H' pid pg = some ⟨pg, 1, [.own id g' 0 R.length none]⟩ ∧ Frm H H' [id, pid]
theorem MkJ.done {H HI : Heap} {id pid g pg gb : Nat} {p : Puz} {out : List Brn} (h : MkJ H HI id pid g pg gb p out) : lessQ HI (mkQ2 H id pid pg out) (.tup []) := by
  have hl := h.lt
  have hl2 := h.lt2
  have hn := h.ln
  refine ⟨HI.take H.length, fun i b hb => ?_, rfl, g, ?_, ?_, by simp; omega, fun i hi => ?_⟩
  · by_cases hi : i < H.length
    · rwa [List.getElem?_take_of_lt hi] at hb
    · rw [List.getElem?_take_eq_none (by omega)] at hb; cases hb
  · have hc := h.cells
    unfold look at hc ⊢
    rw [List.getElem?_take_of_lt hl]
    exact hc
  · have hc := h.cell
    unfold look at hc ⊢
    rw [List.getElem?_take_of_lt hl2]
    exact hc
  · simp only [List.mem_cons, List.not_mem_nil, or_false, not_or] at hi
    by_cases h2 : i < H.length
    · rw [List.getElem?_take_of_lt h2, h.frm i h2 hi.1 hi.2]
    · rw [List.getElem?_take_eq_none (by omega), List.getElem?_eq_none (by omega)]
theorem MkJ.app {H HI H' : Heap} {id pid g pg gb : Nat} {p : Puz} {out : List Brn} (h : MkJ H HI id pid g pg gb p out) : MkJ H (HI ++ H') id pid g pg gb p out :=
  ⟨look_appL h.cells, look_appL h.cell, look_appL h.box, h.lt, h.lt2, h.ne, by have := h.ln; simp; omega, fun i h1 h2 h3 => by rw [List.getElem?_append_left (by have := h.ln; omega)]; exact h.frm i h1 h2 h3⟩
theorem MkJ.step {H HI H' : Heap} {id pid g g' pg gb : Nat} {p : Puz} {out R : List Brn} (h : MkJ H HI id pid g pg gb p out) (hf : ∀ i, i < HI.length → i ≠ id → i ≠ pid → i ≤ H.length → H'[i]? = HI[i]?) (hln : HI.length ≤ H'.length) (hc : look H' id g' = some ⟨g', 2, cl eB R⟩) (hc2 : look H' pid pg = some ⟨pg, 1, [.own id g' 0 R.length none]⟩) : MkJ H H' id pid g' pg gb p R := by
  have hl := h.lt
  have hl2 := h.lt2
  have hn := h.ln
  refine ⟨hc, hc2, ?_, hl, hl2, h.ne, by omega, fun i h1 h2 h3 => by rw [hf i (by omega) h2 h3 (by omega)]; exact h.frm i h1 h2 h3⟩
  have hb := h.box
  unfold look at hb ⊢
  rw [hf _ (by omega) (by omega) (by omega) (Nat.le_refl _)]
  exact hb
theorem MkJ.push {H HI : Heap} {id pid g pg gb : Nat} {p : Puz} {out : List Brn} (h : MkJ H HI id pid g pg gb p out) (b : Brn) (g1 g' : Nat) :
    look ((HI ++ brnH g1 b).set id (some ⟨g', 2, cl eB (out ++ [b])⟩)) pid pg = some ⟨pg, 1, [.own id g 0 out.length none]⟩ ∧
    MkJ H (((HI ++ brnH g1 b).set id (some ⟨g', 2, cl eB (out ++ [b])⟩)).set pid (some ⟨pg, 1, [.own id g' 0 (out.length + 1) none]⟩)) id pid g' pg gb p (out ++ [b]) := by
  have hl := h.lt
  have hl2 := h.lt2
  have hn := h.ln
  have hne := h.ne
  have h1 := (h.app (H' := brnH g1 b)).cell
  have hlen : (HI ++ brnH g1 b).length = HI.length + 1 := by simp
  refine ⟨?_, (h.app (H' := brnH g1 b)).step (fun i h2 h3 h4 _ => ?_) (by simp) ?_ ?_⟩
  · unfold look at h1 ⊢
    rw [List.getElem?_set_ne hne]
    exact h1
  · rw [List.getElem?_set_ne (Ne.symm h4), List.getElem?_set_ne (Ne.symm h3)]
  · unfold look
    rw [List.getElem?_set_ne (Ne.symm hne), List.getElem?_set_self (by omega)]
    simp
  · unfold look
    rw [List.getElem?_set_self (by simp; omega)]
    simp
end Go.Lg
