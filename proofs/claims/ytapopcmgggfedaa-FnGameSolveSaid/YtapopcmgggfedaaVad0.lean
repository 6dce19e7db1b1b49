/- GpMG, GpMH, cut to what is needed. -/
import Derived.Test.YtapopcmgggfedaaVac9
import Derived.Test.YtapopcmgggfedaaVac6
open Nat(reduceAdd reduceMul reduceSub reduceEqDiff reduceLeDiff)
set_option linter.unusedSimpArgs false
set_option linter.unusedVariables false
set_option maxRecDepth 100000
namespace Go.Lg
open Go.Proofs
theorem orV_bit {o : List Nat} {vs : List Int} (hl : vs.length = o.length) {k b : Nat} (h : ((orV o vs).getD k 0).testBit b = true) : (o.getD k 0).testBit b = true ∨ (k < vs.length ∧ b = (nth vs k).toNat) := by
  unfold orV at h
  simp only [List.getD, List.getElem?_zipWith] at h
  by_cases hk : k < o.length
  · have hk2 : k < vs.length := by omega
    have e : nth vs k = vs[k] := by rw [nth_eq (by omega)]; rfl
    simp only [List.getElem?_eq_getElem hk, List.getElem?_eq_getElem hk2, Option.getD_some, Nat.testBit_or, Bool.or_eq_true, Nat.testBit_two_pow, decide_eq_true_eq] at h
    rcases h with h | h
    · left; simpa [List.getD, List.getElem?_eq_getElem hk] using h
    · right; exact ⟨hk2, by rw [e]; exact h.symm⟩
  · simp [List.getElem?_eq_none (show o.length ≤ k by omega)] at h
theorem ways_sub (r : Rul) : ∀ (ms : List Nat) (pre : List Int) (o : List Nat), pre.length + ms.length = o.length → ∀ k b : Nat, ((ways r ms pre o).getD k 0).testBit b = true →
    (o.getD k 0).testBit b = true ∨ (k < pre.length ∧ b = (nth pre k).toNat) ∨ (pre.length ≤ k ∧ 1 ≤ b ∧ b ≤ 4 ∧ (ms.getD (k - pre.length) 0).testBit b = true)
  | [], pre, o, hl, k, b, h => by
    unfold ways at h
    split at h
    · rcases orV_bit (by simpa using hl) h with h | h
      · exact .inl h
      · exact .inr (.inl h)
    · exact .inl h
  | m :: ms, pre, o, hl, k, b, h => by
    rw [ways_cons] at h
    have hl' : pre.length + ms.length + 1 = o.length := by simp at hl; omega
    have gen : ∀ (vs : List Int), (∀ v ∈ vs, v ∈ mvals m 4) → ∀ o' : List Nat, o'.length = o.length → ((vs.foldl (fun o v => ways r ms (pre ++ [v]) o) o').getD k 0).testBit b = true →
        (o'.getD k 0).testBit b = true ∨ (k < pre.length ∧ b = (nth pre k).toNat) ∨ (pre.length ≤ k ∧ 1 ≤ b ∧ b ≤ 4 ∧ ((m :: ms).getD (k - pre.length) 0).testBit b = true) := by
      intro vs
      induction vs with
      | nil => intro _ o' _ h; exact .inl h
      | cons v vs ih =>
        intro hv o' ho h
        rw [List.foldl_cons] at h
        have hlw : (ways r ms (pre ++ [v]) o').length = o'.length := ways_len r ms _ _ (by simp; omega)
        rcases ih (fun u hu => hv u (by simp [hu])) _ (by rw [hlw]; exact ho) h with h | h
        · rcases ways_sub r ms (pre ++ [v]) o' (by simp; omega) k b h with h | ⟨h1, h2⟩ | ⟨h1, h2, h3, h4⟩
          · exact .inl h
          · by_cases hk : k < pre.length
            · refine .inr (.inl ⟨hk, ?_⟩)
              rw [h2, nth_eq (by simp; omega), nth_eq (by omega)]
              simp only [Int.toNat_natCast, List.getElem_append_left hk]
            · have hk : k = pre.length := by simp at h1; omega
              refine .inr (.inr ⟨by omega, ?_⟩)
              have e : nth (pre ++ [v]) k = v := by
                rw [nth_eq (by simp; omega)]
                simp [hk]
              rw [e] at h2
              have hm := hv v (by simp)
              have hb := mvals_mem hm
              refine ⟨by omega, by omega, ?_⟩
              rw [hk, Nat.sub_self, List.getD_cons_zero, h2]
              unfold mvals at hm
              obtain ⟨u, _, hu⟩ := List.mem_flatMap.1 hm
              split at hu
              · rename_i ht
                have : v = u := by simpa using hu
                rw [this, Int.toNat_natCast]; exact ht
              · cases hu
          · simp only [List.length_append, List.length_cons, List.length_nil] at h1 h4
            refine .inr (.inr ⟨by omega, h2, h3, ?_⟩)
            rw [show k - pre.length = (k - (pre.length + 1)) + 1 by omega, List.getD_cons_succ]
            exact h4
        · exact .inr h
    exact gen _ (fun v hv => hv) o rfl h
theorem le_of_bits {a b : Nat} (h : ∀ i, a.testBit i = true → b.testBit i = true) : a ≤ b := by
  have : a &&& b = a := by
    refine Nat.eq_of_testBit_eq fun i => ?_
    rw [Nat.testBit_and]
    cases ha : a.testBit i
    · rfl
    · rw [h i ha]; rfl
  rw [← this]
  exact Nat.and_le_right
theorem ruleM_at {r : Rul} {ms : List Nat} {k : Nat} (hk : k < r.cells.length) {b : Nat} (h : ((ruleM r (nats ms)).getD k 0).testBit b = true) : 1 ≤ b ∧ (mAt ms (nth r.cells k).toNat).testBit b = true := by
  unfold ruleM at h
  have hl : (remM r (nats ms) 0).length = r.cells.length := by unfold remM; simp
  rcases ways_sub r _ [] _ (by simp [hl]) k b h with h | h | ⟨_, h1, _, h2⟩
  · simp [List.getD, hk] at h
  · simp at h
  · refine ⟨h1, ?_⟩
    have e : (remM r (nats ms) 0).getD (k - ([] : List Int).length) 0 = mAt ms (nth r.cells k).toNat := by
      have e1 : nth r.cells k = r.cells[k] := by rw [nth_eq (by omega)]; rfl
      unfold remM
      simp only [List.drop_zero, List.length_nil, Nat.sub_zero, List.getD, List.getElem?_map, List.getElem?_eq_getElem hk, Option.map_some, Option.getD_some]
      rw [nth_toNat, nth_nats, e1, Int.toNat_natCast]
    rw [e] at h2
    exact h2
def putR (r : Rul) (fd : List Nat) (ms : List Nat) (j : Nat) : List Nat := (List.range j).foldl (fun (o : List Nat) (i : Nat) => o.set (nth r.cells (i : Int)).toNat (fd.getD i 0)) ms
theorem putR_succ (r : Rul) (fd ms : List Nat) (j : Nat) : putR r fd ms (j + 1) = (putR r fd ms j).set (nth r.cells j).toNat (fd.getD j 0) := by
  unfold putR
  rw [List.range_succ, List.foldl_append]
  rfl
theorem putR_len (r : Rul) (fd ms : List Nat) : ∀ j, (putR r fd ms j).length = ms.length
  | 0 => rfl
  | j + 1 => by rw [putR_succ, List.length_set, putR_len r fd ms j]
theorem mAt_set_le {o ms : List Nat} {c v : Nat} (h : ∀ k, mAt o k ≤ mAt ms k) (hv : v ≤ mAt ms c) (k : Nat) : mAt (o.set c v) k ≤ mAt ms k := by
  by_cases hc : c < o.length
  · rw [mAt_set hc]
    split
    · rename_i hk; rw [hk]; exact hv
    · exact h k
  · rw [List.set_eq_of_length_le (by omega)]; exact h k
theorem ruleM_le {r : Rul} {ms : List Nat} {k : Nat} (hk : k < r.cells.length) : (ruleM r (nats ms)).getD k 0 ≤ mAt ms (nth r.cells k).toNat := le_of_bits fun b hb => (ruleM_at hk hb).2
theorem ruleM_even {r : Rul} {ms : List Nat} {k : Nat} (hk : k < r.cells.length) : (ruleM r (nats ms)).getD k 0 % 2 = 0 := by
  have h1 : ((ruleM r (nats ms)).getD k 0).testBit 0 = false := by
    cases h : ((ruleM r (nats ms)).getD k 0).testBit 0
    · rfl
    · have := (ruleM_at hk h).1; omega
  rw [Nat.testBit_zero, decide_eq_false_iff_not] at h1
  omega
theorem putR_le (r : Rul) (ms : List Nat) : ∀ j, j ≤ r.cells.length → ∀ k, mAt (putR r (ruleM r (nats ms)) ms j) k ≤ mAt ms k
  | 0, _, _ => Nat.le_refl _
  | j + 1, hj, k => by
    rw [putR_succ]
    exact mAt_set_le (putR_le r ms j (by omega)) (ruleM_le (by omega)) k
theorem putR_ok {n : Nat} (r : Rul) {ms : List Nat} (h : MsN ms n) : ∀ j, j ≤ r.cells.length → MsN (putR r (ruleM r (nats ms)) ms j) n
  | 0, _ => h
  | j + 1, hj => by
    rw [putR_succ]
    refine (putR_ok r h j (by omega)).set ⟨?_, ruleM_even (by omega)⟩
    have := ruleM_le (r := r) (ms := ms) (k := j) (by omega)
    have := h.at (nth r.cells j).toNat
    omega
def rulS (ms : List Nat) (r : Rul) : List Nat := putR r (ruleM r (nats ms)) ms r.cells.length
def rulT (p : Puz) (ms : List Nat) (k : Nat) : List Nat := (p.rules.take k).foldl rulS ms
def rulM (p : Puz) (ms : List Nat) : List Nat := p.rules.foldl rulS ms
theorem rulT_succ {p : Puz} {ms : List Nat} {k : Nat} (h : k < p.rules.length) : rulT p ms (k + 1) = rulS (rulT p ms k) (nth p.rules k) := by
  unfold rulT
  rw [take_succ_nth h, List.foldl_append]
  rfl
theorem foldS_ok {n : Nat} : ∀ (rs : List Rul) {ms : List Nat}, MsN ms n → MsN (rs.foldl rulS ms) n
  | [], _, h => h
  | r :: rs, _, h => foldS_ok rs (putR_ok r h _ (Nat.le_refl _))
theorem foldS_le : ∀ (rs : List Rul) (ms : List Nat) (k : Nat), mAt (rs.foldl rulS ms) k ≤ mAt ms k
  | [], _, _ => Nat.le_refl _
  | r :: rs, ms, k => Nat.le_trans (foldS_le rs (rulS ms r) k) (putR_le r ms _ (Nat.le_refl _) k)
theorem clrL_le (R : List (Nat × Nat)) : ∀ (ms : List Nat) (k : Nat), mAt (clrL R ms) k ≤ mAt ms k := by
  induction R with
  | nil => intro ms k; exact Nat.le_refl _
  | cons q R ih =>
    intro ms k
    refine Nat.le_trans (ih (ms.set q.1 (clr (mAt ms q.1) q.2)) k) ?_
    exact mAt_set_le (fun _ => Nat.le_refl _) (clr_le _ _) k
def narM (p : Puz) (t : Nat) (ms : List Nat) : List Nat :=
  if t = 1 then sglM ms p.size.toNat else if t = 2 then hidM ms p.size.toNat else if t = 3 then parM ms p.size.toNat else rulM p ms
theorem narM_ok {p : Puz} {n t : Nat} {ms : List Nat} (h : MsN ms n) : MsN (narM p t ms) n := by
  unfold narM sglM hidM parM rulM
  split
  · exact clrL_ok _ h
  split
  · exact clrL_ok _ h
  split
  · exact clrL_ok _ h
  · exact foldS_ok _ h
theorem narM_le (p : Puz) (t : Nat) (ms : List Nat) (k : Nat) : mAt (narM p t ms) k ≤ mAt ms k := by
  unfold narM sglM hidM parM rulM
  split
  · exact clrL_le _ _ _
  split
  · exact clrL_le _ _ _
  split
  · exact clrL_le _ _ _
  · exact foldS_le _ _ _
theorem sum_le_of : ∀ {a b : List Nat}, a.length = b.length → (∀ k, mAt a k ≤ mAt b k) → a.sum ≤ b.sum ∧ (a ≠ b → a.sum < b.sum)
  | [], [], _, _ => ⟨Nat.le_refl _, fun h => absurd rfl h⟩
  | x :: a, y :: b, hl, h => by
    have h0 : x ≤ y := h 0
    obtain ⟨h1, h2⟩ := sum_le_of (a := a) (b := b) (by simpa using hl) fun k => h (k + 1)
    simp only [List.sum_cons]
    refine ⟨by omega, fun hne => ?_⟩
    by_cases hxy : x = y
    · have : a ≠ b := fun hab => hne (by rw [hxy, hab])
      have := h2 this
      omega
    · omega
  | [], _ :: _, h, _ => by simp at h
  | _ :: _, [], h, _ => by simp at h
theorem narM_sum {p : Puz} {n t : Nat} {ms : List Nat} (h : MsN ms n) (hne : narM p t ms ≠ ms) : (narM p t ms).sum < ms.sum :=
  (sum_le_of ((narM_ok h).len.trans h.len.symm) (narM_le p t ms)).2 hne
def nextM (p : Puz) (ms : List Nat) : Nat := if narM p 1 ms ≠ ms then 1 else if narM p 2 ms ≠ ms then 2 else if narM p 3 ms ≠ ms then 3 else if narM p 4 ms ≠ ms then 4 else 0
theorem nextM_le (p : Puz) (ms : List Nat) : nextM p ms ≤ 4 := by
  unfold nextM
  repeat' split
  all_goals omega
theorem nextM_is {p : Puz} {ms : List Nat} {t : Nat} (ht : 1 ≤ t ∧ t ≤ 4) (hlt : ∀ u, 1 ≤ u → u < t → narM p u ms = ms) (hne : narM p t ms ≠ ms) : nextM p ms = t := by
  unfold nextM
  have h4 : t = 1 ∨ t = 2 ∨ t = 3 ∨ t = 4 := by omega
  rcases h4 with rfl | rfl | rfl | rfl
  · rw [if_pos hne]
  · rw [if_neg (fun h => h (hlt 1 (by omega) (by omega))), if_pos hne]
  · rw [if_neg (fun h => h (hlt 1 (by omega) (by omega))), if_neg (fun h => h (hlt 2 (by omega) (by omega))), if_pos hne]
  · rw [if_neg (fun h => h (hlt 1 (by omega) (by omega))), if_neg (fun h => h (hlt 2 (by omega) (by omega))), if_neg (fun h => h (hlt 3 (by omega) (by omega))), if_pos hne]
theorem nextM_no {p : Puz} {ms : List Nat} (h : ∀ u, 1 ≤ u → u < 5 → narM p u ms = ms) : nextM p ms = 0 := by
  unfold nextM
  rw [if_neg (fun k => k (h 1 (by omega) (by omega))), if_neg (fun k => k (h 2 (by omega) (by omega))), if_neg (fun k => k (h 3 (by omega) (by omega))), if_neg (fun k => k (h 4 (by omega) (by omega)))]
theorem nextM_ne {p : Puz} {ms : List Nat} (h : nextM p ms ≠ 0) : narM p (nextM p ms) ms ≠ ms := by
  unfold nextM at h ⊢
  by_cases h1 : narM p 1 ms ≠ ms
  · rw [if_pos h1]; exact h1
  rw [if_neg h1] at h ⊢
  by_cases h2 : narM p 2 ms ≠ ms
  · rw [if_pos h2]; exact h2
  rw [if_neg h2] at h ⊢
  by_cases h3 : narM p 3 ms ≠ ms
  · rw [if_pos h3]; exact h3
  rw [if_neg h3] at h ⊢
  by_cases h4 : narM p 4 ms ≠ ms
  · rw [if_pos h4]; exact h4
  rw [if_neg h4] at h
  exact absurd rfl h
end Go.Lg

namespace Go.Lg
open Go.Proofs
theorem snapD_aR' {H : Heap} {r : Rul} : snapD H (aR r) = some (aR r) := rfl
theorem lessQ_ownI2 {H : Heap} {c : CV} {zs : List Int} {S : List Nat} (h : OwnI H c zs S) : lessQ H (ownIQ zs) (.c c) := ⟨keepH S H, keepH_le S H, c, S, rfl, h.same (fun i hi => keepH_get hi (h.lt i hi)), scalH_keep h.blk⟩
set_option maxHeartbeats 2000000 in
theorem RuleMasks_own {n : Nat} (hn : n = 2 ∨ n = 3 ∨ n = 4) (r : Rul) (ms : List Nat) (hv : ruleValid r n = true) (hm : MsN ms n) : RunCall Try.prog 85 [aR r, ints (nats ms), int n] [] (ownIQ (nats (ruleM r (nats ms)))) := by
  obtain ⟨f1, f2, f3, f4⟩ := ruleValid_facts hv
  have hl := hm.len
  have hnl : (nats ms).length = n * n := by rw [nats_len]; exact hl
  have hrem : ∀ k, nats ((r.cells.take k).map fun c => mAt ms c.toNat) = (r.cells.take k).map fun c => ((mAt ms c.toNat : Nat) : Int) := fun k => by unfold nats; rw [List.map_map]; rfl
  refine RunCall.cw (c := _) Try.func85 rfl (n := 39) Try.ntmps85 (rs := [.tmp 6]) rfl ?_
  simp only[List.length_cons,List.length_nil,reduceAdd,reduceSub,List.replicate,List.cons_append,List.nil_append]
  simp(maxSteps:=999999)(disch:=omega)only[go_sem,reduceAdd,reduceMul,reduceSub,reduceEqDiff,reduceLeDiff]
  intro g1
  first | refine OpS.rd (RuleValid_run r n (by omega)) (⟨_, Try.func37, rfl, rfl⟩ : Enters Try.prog 37) rfl rfl rfl rfl ?_ | refine Loud.rd (RuleValid_run r n (by omega)) (⟨_, Try.func37, rfl, rfl⟩ : Enters Try.prog 37) rfl rfl rfl rfl ?_
  simp(maxSteps:=999999)(disch:=omega)only[go_sem,reduceAdd,reduceMul,reduceSub,reduceEqDiff,reduceLeDiff]
  ((with_reducible first|refine guardK_dec ?_ ?_|refine guardK_ndec ?_ ?_|refine guardK_nb ?_ ?_|refine guardK_split ?_ ?_|refine guardQ_dec ?_ ?_|refine guardL_dec ?_ ?_|refine guardQ_ndec ?_ ?_|refine guardL_ndec ?_ ?_|refine guardQ_nb ?_ ?_|refine guardL_nb ?_ ?_|refine guardQ_split ?_ ?_|refine guardL_split ?_ ?_) <;> intro c1 <;> simp(maxSteps:=999999)(disch:=omega)only[go_sem,reduceAdd,reduceMul,reduceSub,reduceEqDiff,reduceLeDiff, c1])
  rotate_left
  · exfalso; rw [hv] at c1; cases c1
  first | refine OpS.rd (MasksValid_run hn ms hm) (⟨_, Try.func43, rfl, rfl⟩ : Enters Try.prog 43) rfl rfl rfl rfl ?_ | refine Loud.rd (MasksValid_run hn ms hm) (⟨_, Try.func43, rfl, rfl⟩ : Enters Try.prog 43) rfl rfl rfl rfl ?_
  simp(maxSteps:=999999)(disch:=omega)only[go_sem,reduceAdd,reduceMul,reduceSub,reduceEqDiff,reduceLeDiff]
  intro g2
  refine loop_rule2 (fun (k g : Nat) => r.cells.length - k) (fun k g => k ≤ r.cells.length) (fun k g => [.a, .k, .a, .k, .a, .a, .a, .p (.c (.own 1 g 0 k none)), .a, .a, .a, .a, .a, .a, .a, .a, .a, .a, .a, .a, .a, .a, .k, .k, .p (int k), .a, .a, .a, .a, .a, .a, .a, .a, .a, .a, .a, .a, .a, .a]) (fun k g => [some ⟨g1, 1, cR r⟩, some ⟨g, 1, cl (eI .i64) (nats ((r.cells.take k).map fun c => mAt ms c.toNat))⟩]) 0 g2 (Nat.zero_le _) (by simp(maxSteps:=999999)(disch:=omega)only[go_sem,reduceAdd,reduceMul,reduceSub,reduceEqDiff,reduceLeDiff]; rfl) (HLe.refl _) ?_
  intro k g hk
  have hlen : (nats ((r.cells.take k).map fun c => mAt ms c.toNat)).length = k := by rw [nats_len, List.length_map, List.length_take]; omega
  simp(maxSteps:=999999)(disch:=omega)only[go_sem,reduceAdd,reduceMul,reduceSub,reduceEqDiff,reduceLeDiff]
  ((first|(with_reducible first|refine condK_dec ?_ ?_|refine condK_ndec ?_ ?_|refine condK_nb ?_ ?_)|refine condK_b ?_ ?_) <;> intro h1)
  · have h1 : k < r.cells.length := by omega
    have hc := f3 _ (nth_mem h1)
    obtain ⟨c, hcc⟩ : ∃ c : Nat, nth r.cells k = c := ⟨(nth r.cells k).toNat, by omega⟩
    have hcl : c < n * n := by rw [hcc] at hc; omega
    have hmc := nth_nats ms c
    have hts : nats ((r.cells.take (k + 1)).map fun c => mAt ms c.toNat) = nats ((r.cells.take k).map fun c => mAt ms c.toNat) ++ [((mAt ms c : Nat) : Int)] := by
      rw [hrem, hrem, take_succ_nth h1, List.map_append, hcc]
      rfl
    simp(maxSteps:=999999)(disch:=omega)only[go_sem,reduceAdd,reduceMul,reduceSub,reduceEqDiff,reduceLeDiff, hcc, hmc]
    intro g3 g4
    exact ⟨k + 1, g4, ⟨by omega, by omega⟩, ⟨⟨rfl, rfl⟩, by push_cast; rfl⟩, hle_eq rfl (hle_eq (by rw [hts]) (hle_nil _))⟩
  · have hke : k = r.cells.length := by omega
    subst hke
    rw [List.take_length] at hlen ⊢
    have hre : remM r (nats ms) 0 = r.cells.map fun c => mAt ms c.toNat := by
      unfold remM
      rw [List.drop_zero]
      refine List.map_congr_left fun c hc => ?_
      rw [nth_toNat, nth_nats, Int.toNat_natCast]
    have hown : OwnI [some ⟨g1, 1, cR r⟩, some ⟨g, 1, cl (eI .i64) (nats (r.cells.map fun c => mAt ms c.toNat))⟩] (.own 1 g 0 r.cells.length none) (nats (r.cells.map fun c => mAt ms c.toNat)) [1] := by
      have := OwnI.o (H := [some ⟨g1, 1, cR r⟩, some ⟨g, 1, cl (eI .i64) (nats (r.cells.map fun c => mAt ms c.toNat))⟩]) 1 g none (nats (r.cells.map fun c => mAt ms c.toNat)) [] (by rw [List.append_nil]; exact look_of (H := [some ⟨g1, 1, cR r⟩, some ⟨g, 1, cl (eI .i64) (nats (r.cells.map fun c => mAt ms c.toNat))⟩]) (id := 1) (b := ⟨g, 1, cl (eI .i64) (nats (r.cells.map fun c => mAt ms c.toNat))⟩) rfl)
      rwa [hlen] at this
    have hol : (r.cells.map fun c => mAt ms c.toNat).length = r.cells.length := List.length_map _
    have hkk : r.kind = 1 ∨ r.kind = 2 ∨ r.kind = 3 ∨ (r.kind = 4 ∨ r.kind = 5) ∧ 2 ≤ (r.cells.map fun c => mAt ms c.toNat).length := by
      simp only [ruleValid, decide_eq_true_eq] at hv
      have := hv.2.2
      unfold ruleShape at this
      omega
    have hrun := (ruleMasks_own r (r.cells.map fun c => mAt ms c.toNat) (by omega) (fun m hm' => by
      obtain ⟨c, hc, rfl⟩ := List.mem_map.1 hm'
      have := hm.lt hn c.toNat
      omega) hkk)
    rw [hol] at hrun
    unfold ruleM
    rw [hre]
    simp(maxSteps:=999999)(disch:=omega)only[go_sem,reduceAdd,reduceMul,reduceSub,reduceEqDiff,reduceLeDiff]
    refine OpS.mkDI hrun (⟨_, Try.func66, rfl, rfl⟩ : Enters Try.prog 66) rfl rfl (snap_two rfl hown.snap) ?_
    intro c H' S ho _
    simp(maxSteps:=999999)(disch:=omega)only[go_sem,reduceAdd,reduceMul,reduceSub,reduceEqDiff,reduceLeDiff]
    exact lessQ_ownI2 ho
theorem Equal_run (a b : List Int) (ha : a.length ≤ 2 ^ 40) : Reads Try.prog 64 [ints a, ints b] (bool (decide (a = b))) := by
  refine RunCall.cw (c := _) Try.func64 rfl (n := 26) Try.ntmps64 (rs := [.tmp 4]) rfl ?_
  simp only[List.length_cons,List.length_nil,reduceAdd,reduceSub,List.replicate,List.cons_append,List.nil_append]
  simp(maxSteps:=999999)(disch:=omega)only[go_sem,reduceAdd,reduceMul,reduceSub,reduceEqDiff,reduceLeDiff]
  ((first|(with_reducible first|refine condK_dec ?_ ?_|refine condK_ndec ?_ ?_|refine condK_nb ?_ ?_)|refine condK_b ?_ ?_) <;> intro h0)
  rotate_left
  · simp(maxSteps:=999999)(disch:=omega)only[go_sem,reduceAdd,reduceMul,reduceSub,reduceEqDiff,reduceLeDiff]
    have : a ≠ b := fun h => h0 (by rw [h])
    rw [decide_eq_false this]
  have hl : a.length = b.length := by omega
  simp(maxSteps:=999999)(disch:=omega)only[go_sem,reduceAdd,reduceMul,reduceSub,reduceEqDiff,reduceLeDiff]
  refine loop_rule (fun k : Nat => a.length - k) (fun k => k ≤ a.length ∧ ∀ j : Nat, j < k → nth a j = nth b j) (fun k => [.k, .k, .a, .a, .a, .a, .a, .a, .a, .a, .a, .a, .k, .p (int k), .a, .a, .a, .a, .a, .a, .a, .a, .a, .a, .a, .a]) (fun _ => []) 0 ⟨Nat.zero_le _, fun j hj => absurd hj (Nat.not_lt_zero _)⟩ (by simp(maxSteps:=999999)(disch:=omega)only[go_sem,reduceAdd,reduceMul,reduceSub,reduceEqDiff,reduceLeDiff]; rfl) (hle_nil _) ?_
  rintro k ⟨hk, hall⟩
  simp(maxSteps:=999999)(disch:=omega)only[go_sem,reduceAdd,reduceMul,reduceSub,reduceEqDiff,reduceLeDiff]
  ((first|(with_reducible first|refine condK_dec ?_ ?_|refine condK_ndec ?_ ?_|refine condK_nb ?_ ?_)|refine condK_b ?_ ?_) <;> intro h1)
  · have h1 : k < a.length := by omega
    simp(maxSteps:=999999)(disch:=omega)only[go_sem,reduceAdd,reduceMul,reduceSub,reduceEqDiff,reduceLeDiff]
    refine drawP_q foll (by kernel_rfl) ?_
    simp(maxSteps:=999999)(disch:=omega)only[go_sem,Nat.reduceBEq,Bool.true_or,reduceAdd,reduceMul,reduceSub,reduceEqDiff,reduceLeDiff]
    ((first|(with_reducible first|refine condK_dec ?_ ?_|refine condK_ndec ?_ ?_|refine condK_nb ?_ ?_)|refine condK_b ?_ ?_) <;> intro h2)
    · simp(maxSteps:=999999)(disch:=omega)only[go_sem,reduceAdd,reduceMul,reduceSub,reduceEqDiff,reduceLeDiff]
      exact ⟨k + 1, ⟨⟨by omega, fun j hj => by
        by_cases hjk : j = k
        · rw [hjk]; exact h2
        · exact hall j (by omega)⟩, by omega⟩, by push_cast; rfl, hle_nil _⟩
    · simp(maxSteps:=999999)(disch:=omega)only[go_sem,reduceAdd,reduceMul,reduceSub,reduceEqDiff,reduceLeDiff]
      have : a ≠ b := fun h => h2 (by rw [h])
      rw [decide_eq_false this]
  · have hke : k = a.length := by omega
    have : a = b := by
      refine List.ext_getElem hl fun i h1 h2 => ?_
      have := hall i (by omega)
      rw [nth_eq (by omega), nth_eq (by omega)] at this
      exact this
    simp(maxSteps:=999999)(disch:=omega)only[go_sem,reduceAdd,reduceMul,reduceSub,reduceEqDiff,reduceLeDiff]
    rw [decide_eq_true this]
theorem ruleM_len (r : Rul) (ms : List Nat) : (ruleM r (nats ms)).length = r.cells.length := by
  unfold ruleM
  rw [ways_len _ _ _ _ (by unfold remM; simp)]
  simp
theorem OwnI.look1 {H : Heap} {c : CV} {zs : List Int} {S : List Nat} (h : OwnI H c zs S) (hz : 0 < zs.length) : ∃ (id g : Nat) (lim : Option Nat) (ys : List Int), c = .own id g 0 zs.length lim ∧ S = [id] ∧ look H id g = some ⟨g, 1, cl (eI .i64) (zs ++ ys)⟩ := by
  cases h with
  | e => simp at hz
  | o id g lim zs ys h => exact ⟨id, g, lim, ys, rfl, rfl, h⟩
theorem nth_app {zs ys : List Int} {j : Nat} (h : j < zs.length) : nth (zs ++ ys) j = nth zs j := by
  rw [nth_eq (by simp; omega), nth_eq (by omega)]
  simp only [Int.toNat_natCast, List.getElem_append_left h]
set_option maxHeartbeats 4000000 in
theorem NarrowRules_run {p : Puz} {n : Nat} (hp : PuzN p n) (hv : puzzleValid p = true) (ms : List Nat) (hm : MsN ms n) : Reads Try.prog 76 [aP p, ints (nats ms)] (ints (nats (rulM p ms))) := by
  have hn := hp.hn
  have hsq : 4 ≤ n * n ∧ n * n ≤ 16 := by rcases hn with rfl | rfl | rfl <;> omega
  have hl : (nats ms).length = n * n := by rw [nats_len]; exact hm.len
  have hz := hp.size
  have hrl := hp.rl
  have hmv := MasksValid_run hn ms hm
  rw [← hz] at hmv
  refine Reads.ice (Q := fun v H' => frzA H' v = some (ints (nats (rulM p ms)))) ?_ (fun r H' h => h)
  refine RunCall.cw (c := _) Try.func76 rfl (n := 51) Try.ntmps76 (rs := [.tmp 4]) rfl ?_
  simp only[List.length_cons,List.length_nil,reduceAdd,reduceSub,List.replicate,List.cons_append,List.nil_append]
  simp(maxSteps:=999999)(disch:=omega)only[go_sem,reduceAdd,reduceMul,reduceSub,reduceEqDiff,reduceLeDiff]
  intro g0
  first | refine OpS.rd (PuzzleValid_run p hp.sm) (⟨_, Try.func15, rfl, rfl⟩ : Enters Try.prog 15) rfl rfl rfl rfl ?_ | refine Loud.rd (PuzzleValid_run p hp.sm) (⟨_, Try.func15, rfl, rfl⟩ : Enters Try.prog 15) rfl rfl rfl rfl ?_
  simp(maxSteps:=999999)(disch:=omega)only[go_sem,reduceAdd,reduceMul,reduceSub,reduceEqDiff,reduceLeDiff]
  ((with_reducible first|refine guardK_dec ?_ ?_|refine guardK_ndec ?_ ?_|refine guardK_nb ?_ ?_|refine guardK_split ?_ ?_|refine guardQ_dec ?_ ?_|refine guardL_dec ?_ ?_|refine guardQ_ndec ?_ ?_|refine guardL_ndec ?_ ?_|refine guardQ_nb ?_ ?_|refine guardL_nb ?_ ?_|refine guardQ_split ?_ ?_|refine guardL_split ?_ ?_) <;> intro c1 <;> simp(maxSteps:=999999)(disch:=omega)only[go_sem,reduceAdd,reduceMul,reduceSub,reduceEqDiff,reduceLeDiff, c1])
  rotate_left
  · exfalso; rw [hv] at c1; cases c1
  first | refine OpS.rd (hmv) (⟨_, Try.func43, rfl, rfl⟩ : Enters Try.prog 43) rfl rfl rfl rfl ?_ | refine Loud.rd (hmv) (⟨_, Try.func43, rfl, rfl⟩ : Enters Try.prog 43) rfl rfl rfl rfl ?_
  simp(maxSteps:=999999)(disch:=omega)only[go_sem,reduceAdd,reduceMul,reduceSub,reduceEqDiff,reduceLeDiff]
  refine OpS.mkQ (Clone_q (nats ms) (by omega) (by intro h; rw [h] at hl; simp at hl; omega)) (⟨_, Try.func38, rfl, rfl⟩ : Enters Try.prog 38) rfl rfl rfl ?_
  rintro _ _ ⟨g, rfl, rfl⟩
  refine ⟨rfl, ?_⟩
  simp(maxSteps:=999999)(disch:=omega)only[go_sem,reduceAdd,reduceMul,reduceSub,reduceEqDiff,reduceLeDiff]
  rw [hl]
  refine loop_rule (fun k : Nat => p.rules.length - k) (fun k => k ≤ p.rules.length) (fun k => [.a, .a, .k, .a, .a, .k, .a, .a, .a, .a, .a, .a, .a, .a, .a, .a, .a, .a, .a, .a, .a, .a, .a, .k, .k, .p (int k), .a, .a, .a, .a, .a, .a, .a, .a, .a, .a, .a, .a, .a, .a, .a, .a, .a, .a, .a, .a, .a, .a, .a, .a, .a]) (fun k => [some ⟨g0, 1, cP p⟩, some ⟨g, 1, cl (eI .i64) (nats (rulT p ms k))⟩]) 0 (Nat.zero_le _) (by simp(maxSteps:=999999)(disch:=omega)only[go_sem,reduceAdd,reduceMul,reduceSub,reduceEqDiff,reduceLeDiff]; rfl) (HLe.refl _) ?_
  intro k hk
  have hok : MsN (rulT p ms k) n := foldS_ok _ hm
  simp(maxSteps:=999999)(disch:=omega)only[go_sem,reduceAdd,reduceMul,reduceSub,reduceEqDiff,reduceLeDiff]
  ((first|(with_reducible first|refine condK_dec ?_ ?_|refine condK_ndec ?_ ?_|refine condK_nb ?_ ?_)|refine condK_b ?_ ?_) <;> intro h1)
  · have h1 : k < p.rules.length := by omega
    have hsu := rulT_succ (ms := ms) h1
    have hrv := hp.rv _ (nth_mem h1)
    generalize rulT p ms k = o at hok hsu ⊢
    have hol : (nats o).length = n * n := by rw [nats_len]; exact hok.len
    simp(maxSteps:=999999)(disch:=omega)only[go_sem,reduceAdd,reduceMul,reduceSub,reduceEqDiff,reduceLeDiff]
    intro g2
    generalize nth p.rules k = r at hsu hrv ⊢
    have hown : OwnI [some ⟨g0, 1, cP p⟩, some ⟨g, 1, cl (eI .i64) (nats o)⟩, some ⟨g2, 3, [.f (.int .i64 r.kind), .f (fints r.cells), .f (.int .i64 r.val)]⟩] (.own 1 g 0 (n * n) none) (nats o) [1] := by
      have := OwnI.o (H := [some ⟨g0, 1, cP p⟩, some ⟨g, 1, cl (eI .i64) (nats o)⟩, some ⟨g2, 3, [.f (.int .i64 r.kind), .f (fints r.cells), .f (.int .i64 r.val)]⟩]) 1 g none (nats o) [] (by rw [List.append_nil]; exact look_of (H := [some ⟨g0, 1, cP p⟩, some ⟨g, 1, cl (eI .i64) (nats o)⟩, some ⟨g2, 3, [.f (.int .i64 r.kind), .f (fints r.cells), .f (.int .i64 r.val)]⟩]) (id := 1) (b := ⟨g, 1, cl (eI .i64) (nats o)⟩) rfl)
      rwa [hol] at this
    have hrun := RuleMasks_own hn r o hrv hok
    rw [← hz] at hrun
    refine OpS.mkDI hrun (⟨_, Try.func85, rfl, rfl⟩ : Enters Try.prog 85) rfl rfl (snap_three snapD_aR' hown.snap snapD_int) ?_
    intro c H' S ho hS
    have hfl := ruleM_len r o
    have hfn : (nats (ruleM r (nats o))).length = r.cells.length := by rw [nats_len]; exact hfl
    obtain ⟨f1, f2, f3, f4⟩ := ruleValid_facts hrv
    obtain ⟨cid, cg, lim, ys, rfl, hSe, hlk⟩ := ho.look1 (by omega)
    have hid : 3 ≤ cid := (hS cid (by rw [hSe]; simp)).1
    obtain ⟨ci, rfl⟩ : ∃ ci, cid = ci + 3 := ⟨cid - 3, by omega⟩
    have hlk : look H' ci cg = some ⟨cg, 1, cl (eI .i64) (nats (ruleM r (nats o)) ++ ys)⟩ := hlk
    have hst : rulS o r = putR r (ruleM r (nats o)) o r.cells.length := rfl
    have hfd : ∀ j : Nat, j < r.cells.length → nth (nats (ruleM r (nats o)) ++ ys) j = (((ruleM r (nats o)).getD j 0 : Nat) : Int) := fun j hj => by rw [nth_app (by omega), nth_nats]; rfl
    have hpl := putR_len r (ruleM r (nats o)) o
    rw [hst] at hsu
    rw [hfn]
    generalize ruleM r (nats o) = fd at hsu hlk hfd hfn hpl ⊢
    have hyl : (nats fd ++ ys).length = r.cells.length + ys.length := by rw [List.length_append, hfn]
    generalize nats fd ++ ys = zs at hlk hfd hyl
    simp(maxSteps:=999999)(disch:=omega)only[go_sem,reduceAdd,reduceMul,reduceSub,reduceEqDiff,reduceLeDiff, hlk]
    refine loop_rule (fun j : Nat => r.cells.length - j) (fun j => j ≤ r.cells.length) (fun j => [.a, .a, .k, .a, .a, .k, .a, .k, .a, .a, .a, .a, .a, .a, .a, .a, .a, .a, .a, .a, .a, .a, .a, .k, .k, .k, .a, .a, .a, .a, .a, .a, .a, .k, .k, .p (int j), .a, .a, .a, .a, .a, .a, .a, .a, .a, .a, .a, .a, .a, .a, .a]) (fun j => some ⟨g0, 1, cP p⟩ :: some ⟨g, 1, cl (eI .i64) (nats (putR r fd o j))⟩ :: some ⟨g2, 3, [.f (.int .i64 r.kind), .f (fints r.cells), .f (.int .i64 r.val)]⟩ :: H') 0 (Nat.zero_le _) (by simp(maxSteps:=999999)(disch:=omega)only[go_sem,reduceAdd,reduceMul,reduceSub,reduceEqDiff,reduceLeDiff]; rfl) (HLe.refl _) ?_
    intro j hj
    simp(maxSteps:=999999)(disch:=omega)only[go_sem,reduceAdd,reduceMul,reduceSub,reduceEqDiff,reduceLeDiff]
    ((first|(with_reducible first|refine condK_dec ?_ ?_|refine condK_ndec ?_ ?_|refine condK_nb ?_ ?_)|refine condK_b ?_ ?_) <;> intro h2)
    · have h2 : j < r.cells.length := by omega
      have hcj := f3 _ (nth_mem h2)
      have hps := putR_succ r fd o j
      have hfj := hfd j h2
      obtain ⟨q, hq⟩ : ∃ q : Nat, nth r.cells j = q := ⟨(nth r.cells j).toNat, by omega⟩
      rw [hq, Int.toNat_natCast] at hps
      have hqn : q < n * n := by rw [hq] at hcj; omega
      have hQl : (nats (putR r fd o j)).length = n * n := by rw [nats_len, hpl]; exact hok.len
      simp(maxSteps:=999999)(disch:=omega)only[go_sem,reduceAdd,reduceMul,reduceSub,reduceEqDiff,reduceLeDiff, hlk, hfj, hq, hQl]
      exact ⟨j + 1, ⟨by omega, by omega⟩, by push_cast; rfl, hle_eq rfl (hle_eq (by rw [hps, ← nats_set, Int.toNat_natCast]) (HLe.refl _))⟩
    · have hje : j = r.cells.length := by omega
      subst hje
      rw [← hsu]
      simp(maxSteps:=999999)(disch:=omega)only[go_sem,reduceAdd,reduceMul,reduceSub,reduceEqDiff,reduceLeDiff]
      exact ⟨k + 1, ⟨by omega, by omega⟩, by push_cast; rfl, hle_eq rfl (hle_eq rfl (hle_nil _))⟩
  · have hke : k = p.rules.length := by omega
    have hM : rulT p ms k = rulM p ms := by rw [hke]; unfold rulT rulM; rw [List.take_length]
    rw [hM] at hok ⊢
    have hl2 : (nats (rulM p ms)).length = n * n := by rw [nats_len]; exact hok.len
    simp(maxSteps:=999999)(disch:=omega)only[go_sem,reduceAdd,reduceMul,reduceSub,reduceEqDiff,reduceLeDiff]
    rw [← hl2]
    exact ⟨_, HLe.refl _, frzA_own (E := eI .i64) (n := 1) (look_of (H := [some ⟨g0, 1, cP p⟩, some ⟨g, 1, cl (eI .i64) (nats (rulM p ms))⟩]) (id := 1) (b := ⟨g, 1, cl (eI .i64) (nats (rulM p ms))⟩) rfl)⟩
end Go.Lg
