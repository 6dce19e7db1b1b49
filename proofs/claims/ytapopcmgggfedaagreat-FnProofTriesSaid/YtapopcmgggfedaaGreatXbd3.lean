/- GpMG, cut to what is needed. -/
import Derived.Test.YtapopcmgggfedaaGreatXbd2
open Nat renaming reduceAdd → zA, reduceMul → zM, reduceSub → zS, reduceEqDiff → zE, reduceLeDiff → zL
set_option linter.unusedSimpArgs false
set_option linter.unusedVariables false
set_option maxRecDepth 100000
namespace Go.Lg
open Go.Proofs
theorem orV_bit {o : List Nat} {vs : List Int} (hl : vs.length = o.length) {k b : Nat} (h : ((orV o vs).getD k 0).testBit b = true) : (o.getD k 0).testBit b = true ∨ (k < vs.length ∧ b = (nth vs k).toNat) := by
  unfold orV at h
  simp only [List.getD, List.getElem?_zipWith] at h
  by_cases hk : k < o.length
  · have hk2 : k < vs.length := by omega
    have e : nth vs k = vs[k] := by rw [nth_eq (by omega)]; rfl
    simp only [List.getElem?_eq_getElem hk, List.getElem?_eq_getElem hk2, Option.getD_some, Nat.testBit_or, Bool.or_eq_true, Nat.testBit_two_pow, decide_eq_true_eq] at h
    rcases h with h | h
    · left; simpa [List.getD, List.getElem?_eq_getElem hk] using h
    · right; exact ⟨hk2, by rw [e]; exact h.symm⟩
  · simp [List.getElem?_eq_none (show o.length ≤ k by omega)] at h
theorem ways_sub (r : Rul) : ∀ (ms : List Nat) (pre : List Int) (o : List Nat), pre.length + ms.length = o.length → ∀ k b : Nat, ((ways r ms pre o).getD k 0).testBit b = true →
    (o.getD k 0).testBit b = true ∨ (k < pre.length ∧ b = (nth pre k).toNat) ∨ (pre.length ≤ k ∧ 1 ≤ b ∧ b ≤ 4 ∧ (ms.getD (k - pre.length) 0).testBit b = true)
  | [], pre, o, hl, k, b, h => by
    unfold ways at h
    split at h
    · rcases orV_bit (by simpa using hl) h with h | h
      · exact .inl h
      · exact .inr (.inl h)
    · exact .inl h
  | m :: ms, pre, o, hl, k, b, h => by
    rw [ways_cons] at h
    have hl' : pre.length + ms.length + 1 = o.length := by simp at hl; omega
    have gen : ∀ (vs : List Int), (∀ v ∈ vs, v ∈ mvals m 4) → ∀ o' : List Nat, o'.length = o.length → ((vs.foldl (fun o v => ways r ms (pre ++ [v]) o) o').getD k 0).testBit b = true →
        (o'.getD k 0).testBit b = true ∨ (k < pre.length ∧ b = (nth pre k).toNat) ∨ (pre.length ≤ k ∧ 1 ≤ b ∧ b ≤ 4 ∧ ((m :: ms).getD (k - pre.length) 0).testBit b = true) := by
      intro vs
      induction vs with
      | nil => intro _ o' _ h; exact .inl h
      | cons v vs ih =>
        intro hv o' ho h
        rw [List.foldl_cons] at h
        have hlw : (ways r ms (pre ++ [v]) o').length = o'.length := ways_len r ms _ _ (by simp; omega)
        rcases ih (fun u hu => hv u (by simp [hu])) _ (by rw [hlw]; exact ho) h with h | h
        · rcases ways_sub r ms (pre ++ [v]) o' (by simp; omega) k b h with h | ⟨h1, h2⟩ | ⟨h1, h2, h3, h4⟩
          · exact .inl h
          · by_cases hk : k < pre.length
            · refine .inr (.inl ⟨hk, ?_⟩)
              rw [h2, nth_eq (by simp; omega), nth_eq (by omega)]
              simp only [Int.toNat_natCast, List.getElem_append_left hk]
            · have hk : k = pre.length := by simp at h1; omega
              refine .inr (.inr ⟨by omega, ?_⟩)
              have e : nth (pre ++ [v]) k = v := by
                rw [nth_eq (by simp; omega)]
                simp [hk]
              rw [e] at h2
              have hm := hv v (by simp)
              have hb := mvals_mem hm
              refine ⟨by omega, by omega, ?_⟩
              rw [hk, Nat.sub_self, List.getD_cons_zero, h2]
              unfold mvals at hm
              obtain ⟨u, _, hu⟩ := List.mem_flatMap.1 hm
              split at hu
              · rename_i ht
                have : v = u := by simpa using hu
                rw [this, Int.toNat_natCast]; exact ht
              · cases hu
          · simp only [List.length_append, List.length_cons, List.length_nil] at h1 h4
            refine .inr (.inr ⟨by omega, h2, h3, ?_⟩)
            rw [show k - pre.length = (k - (pre.length + 1)) + 1 by omega, List.getD_cons_succ]
            exact h4
        · exact .inr h
    exact gen _ (fun v hv => hv) o rfl h
theorem le_of_bits {a b : Nat} (h : ∀ i, a.testBit i = true → b.testBit i = true) : a ≤ b := by
  have : a &&& b = a := by
    refine Nat.eq_of_testBit_eq fun i => ?_
    rw [Nat.testBit_and]
    cases ha : a.testBit i
    · rfl
    · rw [h i ha]; rfl
  rw [← this]
  exact Nat.and_le_right
theorem ruleM_at {r : Rul} {ms : List Nat} {k : Nat} (hk : k < r.cells.length) {b : Nat} (h : ((ruleM r (nats ms)).getD k 0).testBit b = true) : 1 ≤ b ∧ (mAt ms (nth r.cells k).toNat).testBit b = true := by
  unfold ruleM at h
  have hl : (remM r (nats ms) 0).length = r.cells.length := by unfold remM; simp
  rcases ways_sub r _ [] _ (by simp [hl]) k b h with h | h | ⟨_, h1, _, h2⟩
  · simp [List.getD, hk] at h
  · simp at h
  · refine ⟨h1, ?_⟩
    have e : (remM r (nats ms) 0).getD (k - ([] : List Int).length) 0 = mAt ms (nth r.cells k).toNat := by
      have e1 : nth r.cells k = r.cells[k] := by rw [nth_eq (by omega)]; rfl
      unfold remM
      simp only [List.drop_zero, List.length_nil, Nat.sub_zero, List.getD, List.getElem?_map, List.getElem?_eq_getElem hk, Option.map_some, Option.getD_some]
      rw [nth_toNat, nth_nats, e1, Int.toNat_natCast]
    rw [e] at h2
    exact h2
def putR (r : Rul) (fd : List Nat) (ms : List Nat) (j : Nat) : List Nat := (List.range j).foldl (fun (o : List Nat) (i : Nat) => o.set (nth r.cells (i : Int)).toNat (fd.getD i 0)) ms
theorem putR_succ (r : Rul) (fd ms : List Nat) (j : Nat) : putR r fd ms (j + 1) = (putR r fd ms j).set (nth r.cells j).toNat (fd.getD j 0) := by
  unfold putR
  rw [List.range_succ, List.foldl_append]
  rfl
theorem putR_len (r : Rul) (fd ms : List Nat) : ∀ j, (putR r fd ms j).length = ms.length
  | 0 => rfl
  | j + 1 => by rw [putR_succ, List.length_set, putR_len r fd ms j]
theorem mAt_set_le {o ms : List Nat} {c v : Nat} (h : ∀ k, mAt o k ≤ mAt ms k) (hv : v ≤ mAt ms c) (k : Nat) : mAt (o.set c v) k ≤ mAt ms k := by
  by_cases hc : c < o.length
  · rw [mAt_set hc]
    split
    · rename_i hk; rw [hk]; exact hv
    · exact h k
  · rw [List.set_eq_of_length_le (by omega)]; exact h k
theorem ruleM_le {r : Rul} {ms : List Nat} {k : Nat} (hk : k < r.cells.length) : (ruleM r (nats ms)).getD k 0 ≤ mAt ms (nth r.cells k).toNat := le_of_bits fun b hb => (ruleM_at hk hb).2
theorem ruleM_even {r : Rul} {ms : List Nat} {k : Nat} (hk : k < r.cells.length) : (ruleM r (nats ms)).getD k 0 % 2 = 0 := by
  have h1 : ((ruleM r (nats ms)).getD k 0).testBit 0 = false := by
    cases h : ((ruleM r (nats ms)).getD k 0).testBit 0
    · rfl
    · have := (ruleM_at hk h).1; omega
  rw [Nat.testBit_zero, decide_eq_false_iff_not] at h1
  omega
theorem putR_le (r : Rul) (ms : List Nat) : ∀ j, j ≤ r.cells.length → ∀ k, mAt (putR r (ruleM r (nats ms)) ms j) k ≤ mAt ms k
  | 0, _, _ => Nat.le_refl _
  | j + 1, hj, k => by
    rw [putR_succ]
    exact mAt_set_le (putR_le r ms j (by omega)) (ruleM_le (by omega)) k
theorem putR_ok {n : Nat} (r : Rul) {ms : List Nat} (h : MsN ms n) : ∀ j, j ≤ r.cells.length → MsN (putR r (ruleM r (nats ms)) ms j) n
  | 0, _ => h
  | j + 1, hj => by
    rw [putR_succ]
    refine (putR_ok r h j (by omega)).set ⟨?_, ruleM_even (by omega)⟩
    have := ruleM_le (r := r) (ms := ms) (k := j) (by omega)
    have := h.at (nth r.cells j).toNat
    omega
def rulS (ms : List Nat) (r : Rul) : List Nat := putR r (ruleM r (nats ms)) ms r.cells.length
def rulT (p : Puz) (ms : List Nat) (k : Nat) : List Nat := (p.rules.take k).foldl rulS ms
def rulM (p : Puz) (ms : List Nat) : List Nat := p.rules.foldl rulS ms
theorem rulT_succ {p : Puz} {ms : List Nat} {k : Nat} (h : k < p.rules.length) : rulT p ms (k + 1) = rulS (rulT p ms k) (nth p.rules k) := by
  unfold rulT
  rw [take_succ_nth h, List.foldl_append]
  rfl
theorem foldS_ok {n : Nat} : ∀ (rs : List Rul) {ms : List Nat}, MsN ms n → MsN (rs.foldl rulS ms) n
  | [], _, h => h
  | r :: rs, _, h => foldS_ok rs (putR_ok r h _ (Nat.le_refl _))
theorem foldS_le : ∀ (rs : List Rul) (ms : List Nat) (k : Nat), mAt (rs.foldl rulS ms) k ≤ mAt ms k
  | [], _, _ => Nat.le_refl _
  | r :: rs, ms, k => Nat.le_trans (foldS_le rs (rulS ms r) k) (putR_le r ms _ (Nat.le_refl _) k)
theorem clrL_le (R : List (Nat × Nat)) : ∀ (ms : List Nat) (k : Nat), mAt (clrL R ms) k ≤ mAt ms k := by
  induction R with
  | nil => intro ms k; exact Nat.le_refl _
  | cons q R ih =>
    intro ms k
    refine Nat.le_trans (ih (ms.set q.1 (clr (mAt ms q.1) q.2)) k) ?_
    exact mAt_set_le (fun _ => Nat.le_refl _) (clr_le _ _) k
def narM (p : Puz) (t : Nat) (ms : List Nat) : List Nat :=
  if t = 1 then sglM ms p.size.toNat else if t = 2 then hidM ms p.size.toNat else if t = 3 then parM ms p.size.toNat else rulM p ms
theorem narM_ok {p : Puz} {n t : Nat} {ms : List Nat} (h : MsN ms n) : MsN (narM p t ms) n := by
  unfold narM sglM hidM parM rulM
  split
  · exact clrL_ok _ h
  split
  · exact clrL_ok _ h
  split
  · exact clrL_ok _ h
  · exact foldS_ok _ h
theorem narM_le (p : Puz) (t : Nat) (ms : List Nat) (k : Nat) : mAt (narM p t ms) k ≤ mAt ms k := by
  unfold narM sglM hidM parM rulM
  split
  · exact clrL_le _ _ _
  split
  · exact clrL_le _ _ _
  split
  · exact clrL_le _ _ _
  · exact foldS_le _ _ _
theorem sum_le_of : ∀ {a b : List Nat}, a.length = b.length → (∀ k, mAt a k ≤ mAt b k) → a.sum ≤ b.sum ∧ (a ≠ b → a.sum < b.sum)
  | [], [], _, _ => ⟨Nat.le_refl _, fun h => absurd rfl h⟩
  | x :: a, y :: b, hl, h => by
    have h0 : x ≤ y := h 0
    obtain ⟨h1, h2⟩ := sum_le_of (a := a) (b := b) (by simpa using hl) fun k => h (k + 1)
    simp only [List.sum_cons]
    refine ⟨by omega, fun hne => ?_⟩
    by_cases hxy : x = y
    · have : a ≠ b := fun hab => hne (by rw [hxy, hab])
      have := h2 this
      omega
    · omega
  | [], _ :: _, h, _ => by simp at h
  | _ :: _, [], h, _ => by simp at h
theorem narM_sum {p : Puz} {n t : Nat} {ms : List Nat} (h : MsN ms n) (hne : narM p t ms ≠ ms) : (narM p t ms).sum < ms.sum :=
  (sum_le_of ((narM_ok h).len.trans h.len.symm) (narM_le p t ms)).2 hne
def nextM (p : Puz) (ms : List Nat) : Nat := if narM p 1 ms ≠ ms then 1 else if narM p 2 ms ≠ ms then 2 else if narM p 3 ms ≠ ms then 3 else if narM p 4 ms ≠ ms then 4 else 0
theorem nextM_le (p : Puz) (ms : List Nat) : nextM p ms ≤ 4 := by
  unfold nextM
  repeat' split
  all_goals omega
theorem nextM_is {p : Puz} {ms : List Nat} {t : Nat} (ht : 1 ≤ t ∧ t ≤ 4) (hlt : ∀ u, 1 ≤ u → u < t → narM p u ms = ms) (hne : narM p t ms ≠ ms) : nextM p ms = t := by
  unfold nextM
  have h4 : t = 1 ∨ t = 2 ∨ t = 3 ∨ t = 4 := by omega
  rcases h4 with rfl | rfl | rfl | rfl
  · rw [if_pos hne]
  · rw [if_neg (fun h => h (hlt 1 (by omega) (by omega))), if_pos hne]
  · rw [if_neg (fun h => h (hlt 1 (by omega) (by omega))), if_neg (fun h => h (hlt 2 (by omega) (by omega))), if_pos hne]
  · rw [if_neg (fun h => h (hlt 1 (by omega) (by omega))), if_neg (fun h => h (hlt 2 (by omega) (by omega))), if_neg (fun h => h (hlt 3 (by omega) (by omega))), if_pos hne]
theorem nextM_no {p : Puz} {ms : List Nat} (h : ∀ u, 1 ≤ u → u < 5 → narM p u ms = ms) : nextM p ms = 0 := by
  unfold nextM
  rw [if_neg (fun k => k (h 1 (by omega) (by omega))), if_neg (fun k => k (h 2 (by omega) (by omega))), if_neg (fun k => k (h 3 (by omega) (by omega))), if_neg (fun k => k (h 4 (by omega) (by omega)))]
end Go.Lg
