/- GpFA, GpEA, GpEB, cut to what is needed. -/
import Derived.Test.YtapopcmgggfedaaGreatXbc4
import Derived.Test.YtapopcmgggfedaaGreatXbc0
open Nat renaming reduceAdd → zA, reduceMul → zM, reduceSub → zS, reduceEqDiff → zE, reduceLeDiff → zL
set_option linter.unusedSimpArgs false
set_option linter.unusedVariables false
set_option maxRecDepth 100000
namespace Go.Lg
open Go.Proofs
theorem GrdN.nn' {xs : List Int} {n : Nat} (h : GrdN xs n) (c : Int) : 0 ≤ nth xs c := by
  rw [nth_toNat]
  by_cases hk : c.toNat < xs.length
  · exact (h.val _ hk).1
  · unfold nth
    rw [Int.toNat_natCast, List.getD_eq_getElem?_getD, List.getElem?_eq_none (by omega)]
    exact Int.le_refl _
theorem GrdN.set {xs : List Int} {n i v : Nat} (hg : GrdN xs n) (hi : i < xs.length) (hv : v ≤ n) : GrdN (xs.set i (v : Int)) n := ⟨by rw [List.length_set]; exact hg.len, fun k hk => by
  rw [List.length_set] at hk
  rw [nth_setN _ _ _ _ hi]
  split
  · omega
  · exact hg.val k hk⟩
theorem sols_succ (p : Puz) (n m : Nat) (xs : List Int) {i : Nat} (hi : xs.length - (m + 1) = i) : sols p n (m + 1) xs = if 0 < nth xs i then sols p n m xs else (vals n 1).flatMap fun (v : Nat) => if fitsL p (xs.set i (v : Int)) n = true then sols p n m (xs.set i (v : Int)) else [] := by
  conv => lhs; rw [sols, hi]
  rfl
theorem vals_mem {n v : Nat} (h : v ∈ vals n 1) : 1 ≤ v ∧ v ≤ n := by
  unfold vals at h
  rw [Nat.sub_self, List.drop_zero] at h
  obtain ⟨k, hk, rfl⟩ := List.mem_map.1 h
  rw [List.mem_range] at hk
  omega
theorem sols_full (p : Puz) {n : Nat} : ∀ (m : Nat) (xs : List Int), m ≤ n * n → GrdN xs n → (∀ k : Nat, k < n * n - m → 0 < nth xs k) → ∀ s ∈ sols p n m xs, GrdN s n ∧ (∀ k : Nat, k < n * n → 0 < nth s k) ∧ ∀ k : Nat, 0 < nth xs k → nth s k = nth xs k
  | 0, xs, hm, hg, hf, s, hs => by
    rw [sols, List.mem_singleton] at hs
    subst hs
    exact ⟨hg, fun k hk => hf k (by omega), fun _ _ => rfl⟩
  | m + 1, xs, hm, hg, hf, s, hs => by
    have hxl := hg.len
    obtain ⟨i, hi⟩ : ∃ i, i = xs.length - (m + 1) := ⟨_, rfl⟩
    rw [sols_succ p n m xs hi.symm] at hs
    split at hs
    · rename_i h0
      exact sols_full p m xs (by omega) hg (fun k hk => by
        by_cases hki : k = i
        · rw [hki]; exact h0
        · exact hf k (by omega)) s hs
    · rename_i h0
      obtain ⟨v, hv, hs⟩ := List.mem_flatMap.1 hs
      have hvb := vals_mem hv
      have hil : i < xs.length := by omega
      split at hs
      · obtain ⟨q1, q2, q3⟩ := sols_full p m (xs.set i (v : Int)) (by omega) (hg.set hil hvb.2) (fun k hk => by
          rw [nth_setN _ _ _ _ hil]
          split
          · omega
          · exact hf k (by omega)) s hs
        refine ⟨q1, q2, fun k hk => ?_⟩
        have hki : k ≠ i := fun h => by rw [h] at hk; omega
        have := q3 k (by rw [nth_setN _ _ _ _ hil, if_neg hki]; exact hk)
        rw [nth_setN _ _ _ _ hil, if_neg hki] at this
        exact this
      · simp at hs
def LeB (o o' : List Nat) : Prop := o.length = o'.length ∧ ∀ k b : Nat, (o.getD k 0).testBit b = true → (o'.getD k 0).testBit b = true
theorem LeB.refl (o : List Nat) : LeB o o := ⟨rfl, fun _ _ h => h⟩
theorem LeB.trans {a b c : List Nat} (h1 : LeB a b) (h2 : LeB b c) : LeB a c := ⟨h1.1.trans h2.1, fun k x h => h2.2 k x (h1.2 k x h)⟩
theorem orV_getD {o : List Nat} {vs : List Int} (h : vs.length = o.length) (k : Nat) : (orV o vs).getD k 0 = if k < o.length then (o.getD k 0 ||| 2 ^ (nth vs k).toNat) else 0 := by
  by_cases hk : k < o.length
  · rw [if_pos hk]
    have h1 : k < (orV o vs).length := by rw [orV_length]; omega
    rw [List.getD_eq_getElem?_getD, List.getElem?_eq_getElem h1, List.getD_eq_getElem?_getD, List.getElem?_eq_getElem hk, nth_eq (by omega)]
    simp [orV]
  · rw [if_neg hk, List.getD_eq_getElem?_getD, List.getElem?_eq_none (by rw [orV_length]; omega)]
    rfl
theorem orV_le {o : List Nat} {vs : List Int} (h : vs.length = o.length) : LeB o (orV o vs) := ⟨by rw [orV_length]; omega, fun k b hb => by
  rw [orV_getD h]
  split
  · rw [Nat.testBit_or, hb, Bool.true_or]
  · rename_i hk
    rw [List.getD_eq_getElem?_getD, List.getElem?_eq_none (by omega)] at hb
    simp at hb⟩
theorem orV_mono {o o' : List Nat} {vs : List Int} (h : vs.length = o.length) (hl : LeB o o') : LeB (orV o vs) (orV o' vs) := ⟨by rw [orV_length, orV_length, hl.1], fun k b hb => by
  rw [orV_getD h] at hb
  rw [orV_getD (h.trans hl.1), ← hl.1]
  split at hb
  · rename_i hk
    rw [if_pos hk]
    rw [Nat.testBit_or, Bool.or_eq_true] at hb ⊢
    exact hb.imp (hl.2 k b) id
  · simp at hb⟩
theorem ways_le (r : Rul) : ∀ (ms : List Nat) (pre : List Int) (o : List Nat), pre.length + ms.length = o.length → LeB o (ways r ms pre o)
  | [], pre, o, h => by
    unfold ways
    split
    · exact orV_le (by simpa using h)
    · exact .refl _
  | m :: ms, pre, o, h => by
    rw [ways_cons]
    have : ∀ (l : List Int) (o : List Nat), pre.length + 1 + ms.length = o.length → LeB o (l.foldl (fun o v => ways r ms (pre ++ [v]) o) o) := by
      intro l
      induction l with
      | nil => exact fun o _ => .refl _
      | cons v l ih =>
        intro o h
        rw [List.foldl_cons]
        have h1 := ways_le r ms (pre ++ [v]) o (by simp; omega)
        exact h1.trans (ih _ (by rw [← h1.1]; exact h))
    exact this _ _ (by simp at h; omega)
theorem ways_mono (r : Rul) : ∀ (ms ms' : List Nat) (pre : List Int) (o o' : List Nat), pre.length + ms.length = o.length → ms.length = ms'.length → (∀ k v : Nat, 1 ≤ v → v ≤ 4 → (ms.getD k 0).testBit v = true → (ms'.getD k 0).testBit v = true) → LeB o o' → LeB (ways r ms pre o) (ways r ms' pre o')
  | [], [], pre, o, o', h, _, _, ho => by
    unfold ways
    split
    · exact orV_mono (by simpa using h) ho
    · exact ho
  | [], _ :: _, _, _, _, _, h, _, _ => by simp at h
  | _ :: _, [], _, _, _, _, h, _, _ => by simp at h
  | m :: ms, m' :: ms', pre, o, o', h, hl, hb, ho => by
    have hstep : ∀ (v : Nat), 1 ≤ v → v ≤ 4 → ∀ (o o' : List Nat), pre.length + 1 + ms.length = o.length → LeB o o' →
        LeB (if m.testBit v = true then ways r ms (pre ++ [(v : Int)]) o else o) (if m'.testBit v = true then ways r ms' (pre ++ [(v : Int)]) o' else o') ∧ pre.length + 1 + ms.length = (if m.testBit v = true then ways r ms (pre ++ [(v : Int)]) o else o).length := by
      intro v hv1 hv4 o o' hlen ho
      have hlen' : (pre ++ [(v : Int)]).length + ms.length = o.length := by simp; omega
      by_cases hm : m.testBit v = true
      · have hm' : m'.testBit v = true := by simpa using hb 0 v hv1 hv4 (by simpa using hm)
        rw [if_pos hm, if_pos hm']
        exact ⟨ways_mono r ms ms' _ o o' hlen' (by simpa using hl) (fun k v h1 h2 h3 => by simpa using hb (k + 1) v h1 h2 (by simpa using h3)) ho, by rw [ways_len r ms _ _ hlen']; exact hlen⟩
      · rw [if_neg hm]
        refine ⟨?_, hlen⟩
        split
        · exact ho.trans (ways_le r ms' _ o' (by rw [← ho.1]; simp at hl ⊢; omega))
        · exact ho
    have e : ∀ (M : Nat) (MS : List Nat) (O : List Nat), ways r (M :: MS) pre O = [1, 2, 3, 4].foldl (fun o (v : Nat) => if M.testBit v = true then ways r MS (pre ++ [(v : Int)]) o else o) O := fun _ _ _ => rfl
    rw [e, e]
    simp only [List.foldl_cons, List.foldl_nil]
    have h0 : pre.length + 1 + ms.length = o.length := by simp at h; omega
    obtain ⟨a1, b1⟩ := hstep 1 (by omega) (by omega) o o' h0 ho
    obtain ⟨a2, b2⟩ := hstep 2 (by omega) (by omega) _ _ b1 a1
    obtain ⟨a3, b3⟩ := hstep 3 (by omega) (by omega) _ _ b2 a2
    exact (hstep 4 (by omega) (by omega) _ _ b3 a3).1
theorem maskAt_mono {xs ys : List Int} {n : Nat} (hn : n = 2 ∨ n = 3 ∨ n = 4) {c : Int} (h : 0 < nth xs c → nth ys c = nth xs c) (hy : 0 ≤ nth ys c ∧ nth ys c ≤ n) {v : Nat} (hv : 1 ≤ v ∧ v ≤ 4) (hb : (maskAt ys n c).testBit v = true) : (maskAt xs n c).testBit v = true := by
  unfold maskAt at hb ⊢
  by_cases hx : 0 < nth xs c
  · rw [if_pos hx]
    rw [h hx, if_pos hx] at hb
    exact hb
  · rw [if_neg hx]
    by_cases hy0 : 0 < nth ys c
    · rw [if_pos hy0, Nat.testBit_two_pow] at hb
      have hv' : v ≤ n := by simp at hb; omega
      clear hb
      have : v = 1 ∨ v = 2 ∨ v = 3 ∨ v = 4 := by omega
      rcases hn with rfl | rfl | rfl <;> rcases this with rfl | rfl | rfl | rfl <;> first | omega | decide
    · rw [if_neg hy0] at hb
      exact hb
theorem canHold_mono {xs ys : List Int} {n : Nat} (hn : n = 2 ∨ n = 3 ∨ n = 4) {r : Rul} (h : ∀ c ∈ r.cells, 0 < nth xs c → nth ys c = nth xs c) (hy : ∀ c ∈ r.cells, 0 ≤ nth ys c ∧ nth ys c ≤ n) (hc : canHold r ys n = true) : canHold r xs n = true := by
  unfold canHold at hc ⊢
  have hle := ways_mono r (r.cells.map (maskAt ys n)) (r.cells.map (maskAt xs n)) [] (List.replicate r.cells.length 0) (List.replicate r.cells.length 0) (by simp) (by simp) (fun k v h1 h2 h3 => by
    by_cases hk : k < r.cells.length
    · have e : ∀ zs : List Int, (r.cells.map (maskAt zs n)).getD k 0 = maskAt zs n r.cells[k] := fun zs => by
        rw [List.getD_eq_getElem?_getD, List.getElem?_map, List.getElem?_eq_getElem hk]; rfl
      rw [e] at h3 ⊢
      have hm : r.cells[k] ∈ r.cells := List.getElem_mem _
      exact maskAt_mono hn (h _ hm) (hy _ hm) ⟨h1, h2⟩ h3
    · rw [List.getD_eq_getElem?_getD, List.getElem?_eq_none (by simp; omega)] at h3
      simp at h3) (.refl _)
  generalize ways r (r.cells.map (maskAt ys n)) [] (List.replicate r.cells.length 0) = A at hc hle
  generalize ways r (r.cells.map (maskAt xs n)) [] (List.replicate r.cells.length 0) = B at hle ⊢
  have hA : A.getD 0 0 ≠ 0 := by simpa using hc
  obtain ⟨b, hb⟩ := Nat.exists_testBit_of_ne_zero hA
  have := hle.2 0 b hb
  have hB : B.getD 0 0 ≠ 0 := fun h => by rw [h] at this; simp at this
  simpa using hB
theorem cells_grd {r : Rul} {n : Nat} {ys : List Int} (hr : ruleValid r n = true) (hg : GrdN ys n) : ∀ c ∈ r.cells, 0 ≤ nth ys c ∧ nth ys c ≤ n := fun c hc => by
  have h3 := (ruleValid_facts hr).2.2.1 c hc
  have hl := hg.len
  obtain ⟨k, rfl⟩ : ∃ k : Nat, c = k := ⟨c.toNat, by omega⟩
  exact hg.val k (by omega)
theorem fits_mono {p : Puz} {n : Nat} (hp : PuzN p n) {xs ys : List Int} (hx : GrdN xs n) (hy : GrdN ys n) (h : ∀ k : Nat, 0 < nth xs k → nth ys k = nth xs k) (hf : fitsL p ys n = true) : fitsL p xs n = true := by
  have hn := hp.hn
  simp only [fitsL, Bool.and_eq_true, clear, decide_eq_true_eq, Bool.not_eq_true', List.all_eq_true] at hf ⊢
  obtain ⟨h1, h2, h3⟩ := hf
  have hc : ∀ c : Int, 0 < nth xs c → nth ys c = nth xs c := fun c hc => by
    rw [nth_toNat] at hc
    rw [nth_toNat ys, nth_toNat xs]
    exact h _ hc
  refine ⟨fun k hk => ?_, fun r hr => canHold_mono hn (fun c _ => hc c) (cells_grd (hp.rv r hr) hy) (h2 r hr), ?_⟩
  · rintro ⟨a, b, d⟩
    have := h k b
    exact h1 k (by rw [hy.len, ← hx.len]; exact hk) ⟨a, by omega, by omega⟩
  · rw [clash_nc hn hy.nn'] at h3
    rw [clash_nc hn hx.nn']
    intro a b hab hb hl h0 he
    have e1 := h a h0
    have e2 := h b (by omega)
    exact h3 a b hab hb hl (by omega) (by omega)
def Has (p : Puz) (xs : List Int) : Prop := ∀ k : Nat, 0 < nth p.given k → nth xs k = nth p.given k
theorem Has.clear {p : Puz} {xs : List Int} (h : Has p xs) : Lg.clear p xs = true := by
  simp only [Lg.clear, decide_eq_true_eq]
  exact fun k hk ⟨a, b, c⟩ => c (h k a)
theorem Has.set {p : Puz} {xs : List Int} (h : Has p xs) {i : Nat} {v : Int} (hi : i < xs.length) (h0 : ¬ 0 < nth xs i) : Has p (xs.set i v) := fun k hk => by
  rw [nth_setN _ _ _ _ hi]
  have := h k hk
  split
  · rename_i hki
    subst hki
    omega
  · exact this
theorem nth_over {xs : List Int} {k : Nat} (h : xs.length ≤ k) : nth xs (k : Int) = 0 := by
  unfold nth
  rw [Int.toNat_natCast, List.getD_eq_getElem?_getD, List.getElem?_eq_none h]
  rfl
end Go.Lg

namespace Go.Lg
open Go.Proofs
theorem sub_len' {α : Type} (l : List α) (a b : Int) : (sub l a b).length ≤ l.length := by simp [sub]; omega
theorem valuesHold_run (r : Rul) (vs : List Int) (hl : vs.length ≤ 4) (hv : ∀ v ∈ vs, 0 ≤ v ∧ v ≤ 4) (hk : r.kind = 1 ∨ r.kind = 2 ∨ r.kind = 3 ∨ (r.kind = 4 ∨ r.kind = 5) ∧ 2 ≤ vs.length) : Reads Tryz.prog 105 [aR r, ints vs] (bool (holdsV r vs)) := by
  have hnv : ∀ k : Nat, k < vs.length → 0 ≤ nth vs k ∧ nth vs k ≤ 4 := fun k hk => hv _ (by rw [nth_eq (by omega)]; exact List.getElem_mem _)
  have hpt := prodV_take hl hv
  have hst := sum_take hl hv
  refine RunCall.cw (c := _) Tryz.func105 rfl (n := 76) Tryz.ntmps105 (rs := [.tmp 4]) rfl ?_
  simp only[List.length_cons,List.length_nil,zA,zS,List.replicate,List.cons_append,List.nil_append]
  simp(maxSteps:=999999)(disch:=omega)only[go_sem,zA,zM,zS,zE,zL]
  intro g
  refine loop_rule (fun k : Nat => vs.length - k) (fun k => k ≤ vs.length ∧ (r.kind = 1 → (vs.take k).Nodup)) (fun k => [.a, .k, .k, .a, .a, .p (int (vs.take k).sum), .p (int (prodV (vs.take k))), .a, .a, .k, .k, .p (int k), .a, .a, .a, .a, .a, .a, .a, .a, .a, .a, .a, .a, .a, .a, .a, .a, .a, .a, .a, .a, .a, .a, .a, .a, .a, .a, .a, .a, .a, .a, .a, .a, .a, .a, .a, .a, .a, .a, .a, .a, .a, .a, .a, .a, .a, .a, .a, .a, .a, .a, .a, .a, .a, .a, .a, .a, .a, .a, .a, .a, .a, .a, .a, .a]) (fun _ => [some ⟨g, 1, cR r⟩]) 0 ⟨Nat.zero_le _, fun _ => by simp⟩ (by simp(maxSteps:=999999)(disch:=omega)only[go_sem,zA,zM,zS,zE,zL]; simp [prodV]) (HLe.refl _) ?_
  rintro k ⟨hk', hnd⟩
  simp(maxSteps:=999999)(disch:=omega)only[go_sem,zA,zM,zS,zE,zL]
  ((first|(with_reducible first|refine condK_dec ?_ ?_|refine condK_ndec ?_ ?_|refine condK_nb ?_ ?_)|refine condK_b ?_ ?_) <;> intro h1)
  · have h1 : k < vs.length := by omega
    have e1 : (vs.take (k + 1)).sum = (vs.take k).sum + nth vs k := by rw [take_succ_nth h1]; simp
    have e2 : prodV (vs.take (k + 1)) = prodV (vs.take k) * nth vs k := by rw [take_succ_nth h1, prodV_app]
    have b1 := hst (k + 1)
    have b2 := hpt (k + 1)
    rw [e1] at b1
    rw [e2] at b2
    have hin : nth vs k ∈ vs.take k ↔ ∃ i : Nat, i < k ∧ nth vs i = nth vs k := by
      constructor
      · intro h
        obtain ⟨i, hi, he⟩ := List.mem_take_iff_getElem.1 h
        exact ⟨i, by omega, by rw [nth_eq (by omega)]; exact he⟩
      · rintro ⟨i, hi, he⟩
        rw [← he, nth_eq (by omega)]
        exact List.mem_take_iff_getElem.2 ⟨i, by omega, rfl⟩
    simp(maxSteps:=999999)(disch:=omega)only[go_sem,zA,zM,zS,zE,zL]
    ((with_reducible first|refine guardK_dec ?_ ?_|refine guardK_ndec ?_ ?_|refine guardK_nb ?_ ?_|refine guardK_split ?_ ?_|refine guardQ_dec ?_ ?_|refine guardL_dec ?_ ?_|refine guardQ_ndec ?_ ?_|refine guardL_ndec ?_ ?_|refine guardQ_nb ?_ ?_|refine guardL_nb ?_ ?_|refine guardQ_split ?_ ?_|refine guardL_split ?_ ?_) <;> intro d1 <;> simp(maxSteps:=999999)(disch:=omega)only[go_sem,zA,zM,zS,zE,zL, d1])
    · have hsub : sub vs 0 (k : Int) = vs.take k := by simp [sub]
      have hco := Contains_run (sub vs 0 (k : Int)) (nth vs k) (by have := sub_len' vs 0 (k : Int); omega)
      rw [hsub] at hco
      first | refine OpS.rd (hco) (⟨_, Tryz.func52, rfl, rfl⟩ : Enters Tryz.prog 52) rfl rfl rfl rfl ?_ | refine Loud.rd (hco) (⟨_, Tryz.func52, rfl, rfl⟩ : Enters Tryz.prog 52) rfl rfl rfl rfl ?_
      simp(maxSteps:=999999)(disch:=omega)only[go_sem,zA,zM,zS,zE,zL]
      ((first|(with_reducible first|refine condK_dec ?_ ?_|refine condK_ndec ?_ ?_|refine condK_nb ?_ ?_)|refine condK_b ?_ ?_) <;> intro d2)
      · simp(maxSteps:=999999)(disch:=omega)only[go_sem,zA,zM,zS,zE,zL]
        have : ¬ vs.Nodup := fun hn => by
          have := (nodup_take h1).1 (hn.sublist (List.take_sublist _ _))
          obtain ⟨i, hi, he⟩ := hin.1 d2
          exact this.2 i hi he
        unfold holdsV
        rw [if_pos d1, decide_eq_false this]
      · simp(maxSteps:=999999)(disch:=omega)only[go_sem,zA,zM,zS,zE,zL]
        refine ⟨k + 1, ⟨⟨by omega, fun h => ?_⟩, by omega⟩, ⟨e1.symm, e2.symm, by push_cast; omega⟩, HLe.refl _⟩
        rw [nodup_take h1]
        exact ⟨hnd d1, fun i hi he => d2 (hin.2 ⟨i, hi, he⟩)⟩
    · refine ⟨k + 1, ⟨⟨by omega, fun h => by first | exact absurd h d1 | exact h.elim⟩, by omega⟩, ⟨e1.symm, e2.symm, by push_cast; omega⟩, HLe.refl _⟩
  · have hkl : vs.take k = vs := List.take_of_length_le (by omega)
    simp(maxSteps:=999999)(disch:=omega)only[go_sem,zA,zM,zS,zE,zL]
    rw [hkl] at hnd
    rw [hkl]
    ((first|(with_reducible first|refine condK_dec ?_ ?_|refine condK_ndec ?_ ?_|refine condK_nb ?_ ?_)|refine condK_b ?_ ?_) <;> intro d2)
    · simp(maxSteps:=999999)(disch:=omega)only[go_sem,zA,zM,zS,zE,zL]
      unfold holdsV
      rw [if_neg (by omega), if_pos d2]
    simp(maxSteps:=999999)(disch:=omega)only[go_sem,zA,zM,zS,zE,zL]
    ((first|(with_reducible first|refine condK_dec ?_ ?_|refine condK_ndec ?_ ?_|refine condK_nb ?_ ?_)|refine condK_b ?_ ?_) <;> intro d3)
    · simp(maxSteps:=999999)(disch:=omega)only[go_sem,zA,zM,zS,zE,zL]
      unfold holdsV
      rw [if_neg (by omega), if_neg d2, if_pos d3]
    simp(maxSteps:=999999)(disch:=omega)only[go_sem,zA,zM,zS,zE,zL]
    ((first|(with_reducible first|refine condK_dec ?_ ?_|refine condK_ndec ?_ ?_|refine condK_nb ?_ ?_)|refine condK_b ?_ ?_) <;> intro d4)
    · have hl2 : 2 ≤ vs.length := by omega
      have v0 : 0 ≤ nth vs (0 : Int) ∧ nth vs (0 : Int) ≤ 4 := hnv 0 (by omega)
      have v1 : 0 ≤ nth vs (1 : Int) ∧ nth vs (1 : Int) ≤ 4 := hnv 1 (by omega)
      simp(maxSteps:=999999)(disch:=omega)only[go_sem,zA,zM,zS,zE,zL]
      refine drawP_q foll (by kernel_rfl) ?_
      simp(maxSteps:=999999)(disch:=omega)only[go_sem,Nat.reduceBEq,Bool.true_or,zA,zM,zS,zE,zL]
      unfold holdsV
      rw [if_neg (by omega), if_neg d2, if_neg d3, if_pos d4]
    simp(maxSteps:=999999)(disch:=omega)only[go_sem,zA,zM,zS,zE,zL]
    ((first|(with_reducible first|refine condK_dec ?_ ?_|refine condK_ndec ?_ ?_|refine condK_nb ?_ ?_)|refine condK_b ?_ ?_) <;> intro d5)
    · have hl2 : 2 ≤ vs.length := by omega
      have v0 : 0 ≤ nth vs (0 : Int) ∧ nth vs (0 : Int) ≤ 4 := hnv 0 (by omega)
      have v1 : 0 ≤ nth vs (1 : Int) ∧ nth vs (1 : Int) ≤ 4 := hnv 1 (by omega)
      simp(maxSteps:=999999)(disch:=omega)only[go_sem,zA,zM,zS,zE,zL]
      refine drawP_q foll (by kernel_rfl) ?_
      simp(maxSteps:=999999)(disch:=omega)only[go_sem,Nat.reduceBEq,Bool.true_or,zA,zM,zS,zE,zL]
      unfold holdsV
      rw [if_neg (by omega), if_neg d2, if_neg d3, if_neg d4]
    · have d1 : r.kind = 1 := by omega
      simp(maxSteps:=999999)(disch:=omega)only[go_sem,zA,zM,zS,zE,zL]
      unfold holdsV
      rw [if_pos d1, decide_eq_true (hnd d1)]
end Go.Lg

namespace Go.Lg
open Go.Proofs
theorem and_bit {m k : Nat} (hm : m < 2 ^ 62) : decide (bitsI .and .i64 ((m >>> k : Nat) : Int) 1 = 1) = m.testBit k := by
  have hs : m >>> k < 2 ^ 62 := by rw [Nat.shiftRight_eq_div_pow]; exact Nat.lt_of_le_of_lt (Nat.div_le_self _ _) hm
  have e : (BitVec.ofInt 64 ((m >>> k : Nat) : Int) &&& BitVec.ofInt 64 1).toNat = (m >>> k) &&& 1 := by
    have h1 : BitVec.ofInt 64 1 = BitVec.ofNat 64 1 := rfl
    rw [h1]
    simp only [BitVec.toNat_and, BitVec.ofInt_natCast, BitVec.toNat_ofNat]
    rw [Nat.mod_eq_of_lt (by omega)]
  have e2 : bitsI .and .i64 ((m >>> k : Nat) : Int) 1 = (((m >>> k) % 2 : Nat) : Int) := by
    unfold bitsI
    show IntKind.wrap .i64 ((BitVec.ofInt 64 ((m >>> k : Nat) : Int) &&& BitVec.ofInt 64 1).toNat : Int) = _
    rw [e, Nat.and_one_is_mod]
    exact ok_i64 (by omega)
  rw [e2, Nat.testBit_eq_decide_div_mod_eq, Nat.shiftRight_eq_div_pow, decide_eq_decide]
  omega
section
variable {P : Program} {o : Oper} {st : St} {K : KV} {fo : Operand} {xs : Array Operand} {ts : Array TypeId} {f : FuncId} {args : List AV} {caps : List AV} {Q : KV}
theorem OpS.runFn (hc : RunCall P f args st.h Q) (he : Enters P f) (ho : o.op = .call ⟨.value fo, xs, ts⟩) (ht : target st.h (evO st.s fo) = some (f, caps)) (ha : xs.toList.map (evO st.s) ++ caps = args) (hk : ∀ r H', Q r H' → K r H') : OpS P o st K := by
  refine OpS.call ho ht he ?_
  rw [ha]
  exact hc.mono hk
end
def wayH (r : Rul) (os : List Nat) (g0 g1 g2 g3 g4 g5 g6 : Nat) (f : FuncId) (o : List Nat) (vs : List Int) : Heap :=
  [some ⟨g0, 1, cR r⟩, some ⟨g1, 1, [.f (fints (nats os))]⟩, some ⟨g2, 1, cl (eI .i64) (nats o)⟩, some ⟨g3, 1, [.own 2 g2 0 os.length none]⟩, some ⟨g4, 1, cl (eI .i64) vs⟩, some ⟨g5, 1, [.own 4 g4 0 os.length none]⟩,
    some ⟨g6, 1, [.fn f [(1, g1), (0, g0), (5, g5), (3, g3), (6, g6)]]⟩]
theorem ways_run (r : Rul) (os : List Nat) (g0 g1 g2 g3 g4 g5 g6 : Nat) (hos : os.length ≤ 4) (hob : ∀ m ∈ os, m < 32) (hk : r.kind = 1 ∨ r.kind = 2 ∨ r.kind = 3 ∨ (r.kind = 4 ∨ r.kind = 5) ∧ 2 ≤ os.length) :
    ∀ (d i : Nat) (o : List Nat) (vs : List Int), i + d = os.length → o.length = os.length → vs.length = os.length → (∀ x ∈ o, x < 32) → (∀ v ∈ vs, 0 ≤ v ∧ v ≤ 4) →
    RunCall Tryz.prog 104 [int i, .c (.ptr 1 g1 0), .c (.ptr 0 g0 0), .c (.ptr 5 g5 0), .c (.ptr 3 g3 0), .c (.ptr 6 g6 0)] (wayH r os g0 g1 g2 g3 g4 g5 g6 104 o vs)
      (fun v H' => v = .tup [] ∧ ∃ vs', vs'.length = os.length ∧ vs'.take i = vs.take i ∧ (∀ v ∈ vs', 0 ≤ v ∧ v ≤ 4) ∧ H' = wayH r os g0 g1 g2 g3 g4 g5 g6 104 (ways r (os.drop i) (vs.take i) o) vs')
  | 0, i, o, vs, hd, hol, hvl, ho, hv => by
    have hnl : (nats os).length = os.length := nats_length os
    have hno : (nats o).length = os.length := by rw [nats_length, hol]
    unfold wayH
    refine RunCall.cw (c := _) Tryz.func104 rfl (n := 53) Tryz.ntmps104 (rs := []) rfl ?_
    simp only[List.length_cons,List.length_nil,zA,zS,List.replicate,List.cons_append,List.nil_append]
    simp(maxSteps:=999999)(disch:=omega)only[go_sem,zA,zM,zS,zE,zL]
    ((first|(with_reducible first|refine condK_dec ?_ ?_|refine condK_ndec ?_ ?_|refine condK_nb ?_ ?_)|refine condK_b ?_ ?_) <;> intro c1)
    · simp(maxSteps:=999999)(disch:=omega)only[go_sem,zA,zM,zS,zE,zL]
      have hown : OwnI (wayH r os g0 g1 g2 g3 g4 g5 g6 104 o vs) (.own 4 g4 0 os.length none) vs [4] := by
        have := OwnI.o (H := wayH r os g0 g1 g2 g3 g4 g5 g6 104 o vs) 4 g4 none vs [] (by rw [List.append_nil]; unfold wayH; simp only [go_sem])
        rwa [hvl] at this
      unfold wayH at hown
      refine OpS.rdD (valuesHold_run r vs (by omega) hv (by omega)) (⟨_, Tryz.func105, rfl, rfl⟩ : Enters Tryz.prog 105) rfl rfl (snap_two rfl hown.snap) rfl ?_
      have hdr : os.drop i = [] := List.drop_of_length_le (by omega)
      have htk : vs.take i = vs := List.take_of_length_le (by omega)
      simp(maxSteps:=999999)(disch:=omega)only[go_sem,zA,zM,zS,zE,zL]
      ((first|(with_reducible first|refine condK_dec ?_ ?_|refine condK_ndec ?_ ?_|refine condK_nb ?_ ?_)|refine condK_b ?_ ?_) <;> intro c2)
      · simp(maxSteps:=999999)(disch:=omega)only[go_sem,zA,zM,zS,zE,zL]
        refine loop_rule (fun k : Nat => os.length - k) (fun k => k ≤ os.length) (fun k => [.a, .a, .a, .a, .k, .a, .a, .a, .a, .a, .a, .a, .a, .a, .a, .a, .a, .k, .k, .p (int k), .a, .a, .a, .a, .a, .a, .a, .a, .a, .a, .a, .a, .a, .a, .a, .a, .a, .a, .a, .a, .a, .a, .a, .a, .a, .a, .a, .a, .a, .a, .a, .a, .a]) (fun k => wayH r os g0 g1 g2 g3 g4 g5 g6 104 (orTake o vs k) vs) 0 (Nat.zero_le _) (by simp(maxSteps:=999999)(disch:=omega)only[go_sem,zA,zM,zS,zE,zL]; rfl) (by rw [orTake_zero]; exact HLe.refl _) ?_
        intro k hk'
        have hkl := orTake_length (o := o) (vs := vs) (k := k) (by omega)
        unfold wayH
        simp(maxSteps:=999999)(disch:=omega)only[go_sem,zA,zM,zS,zE,zL]
        ((first|(with_reducible first|refine condK_dec ?_ ?_|refine condK_ndec ?_ ?_|refine condK_nb ?_ ?_)|refine condK_b ?_ ?_) <;> intro c3)
        · have c3 : k < os.length := by omega
          have hx := orTake_nth (o := o) (vs := vs) (k := k) (by omega) (by omega)
          have hpk := hv (nth vs k) (by rw [nth_eq (by omega)]; exact List.getElem_mem _)
          have hok := ho (o[k]'(by omega)) (List.getElem_mem _)
          have hkn : (nats (orTake o vs k)).length = os.length := by rw [nats_length, hkl, hol]
          have hset := orTake_set (o := o) (vs := vs) (k := k) (by omega) (by omega)
          have hpw : 2 ^ (nth vs k).toNat < 2 ^ 62 := Nat.pow_lt_pow_right (by omega) (by omega)
          simp(maxSteps:=999999)(disch:=omega)only[go_sem,zA,zM,zS,zE,zL]
          refine drawP_lM [0, 1, 2, 3, 4, 5] [] none [6, 7, 8] [] [0, 0, 3, 7, 0, 16, 63, 127, 255] foll (by kernel_rfl) ?_
          simp(maxSteps:=999999)(disch:=omega)only[go_sem,zA,zM,zS,zE,zL, hx, shl_small hpk, or_small (show (o[k]'(by omega)) < 2 ^ 62 by omega) hpw]
          rw [Int.toNat_natCast, hset]
          exact ⟨k + 1, ⟨by omega, by omega⟩, by push_cast; omega, HLe.refl _⟩
        · have hke : k = vs.length := by omega
          simp(maxSteps:=999999)(disch:=omega)only[go_sem,zA,zM,zS,zE,zL]
          refine ⟨_, HLe.refl _, rfl, vs, hvl, rfl, hv, ?_⟩
          rw [hdr, htk, hke, orTake_all (by omega)]
          unfold ways
          rw [if_pos c2]
      · simp(maxSteps:=999999)(disch:=omega)only[go_sem,zA,zM,zS,zE,zL]
        refine ⟨_, HLe.refl _, rfl, vs, hvl, rfl, hv, ?_⟩
        rw [hdr, htk]
        unfold ways
        rw [if_neg (by rw [c2]; simp)]
    · exfalso; omega
  | d + 1, i, o, vs, hd, hol, hvl, ho, hv => by
    have hnl : (nats os).length = os.length := nats_length os
    have hio : i < os.length := by omega
    have hm32 := hob (os[i]'hio) (List.getElem_mem _)
    have hmn := nats_nth hio
    have hdr : os.drop i = os[i]'hio :: os.drop (i + 1) := List.drop_eq_getElem_cons hio
    have htl : (vs.take i).length = i := by rw [List.length_take]; omega
    have hpre : ∀ v ∈ vs.take i, 0 ≤ v ∧ v ≤ 4 := fun v h => hv v (List.mem_of_mem_take h)
    generalize hM : os[i]'hio = M at hm32 hmn hdr
    unfold wayH
    refine RunCall.cw (c := _) Tryz.func104 rfl (n := 53) Tryz.ntmps104 (rs := []) rfl ?_
    simp only[List.length_cons,List.length_nil,zA,zS,List.replicate,List.cons_append,List.nil_append]
    simp(maxSteps:=999999)(disch:=omega)only[go_sem,zA,zM,zS,zE,zL]
    ((first|(with_reducible first|refine condK_dec ?_ ?_|refine condK_ndec ?_ ?_|refine condK_nb ?_ ?_)|refine condK_b ?_ ?_) <;> intro c1)
    · exfalso; omega
    simp(maxSteps:=999999)(disch:=omega)only[go_sem,zA,zM,zS,zE,zL]
    refine loop_rule3 (fun (v : Nat) _ _ => 5 - v) (fun (v : Nat) (o' : List Nat) (vs' : List Int) => (1 ≤ v ∧ v ≤ 5) ∧ o' = (mvals M (v - 1)).foldl (fun o w => ways r (os.drop (i + 1)) (vs.take i ++ [w]) o) o ∧ vs'.length = os.length ∧ vs'.take i = vs.take i ∧ (∀ v ∈ vs', 0 ≤ v ∧ v ≤ 4)) (fun v _ _ => [.k, .k, .a, .k, .a, .k, .a, .a, .a, .p (int v), .a, .a, .a, .a, .a, .a, .a, .a, .a, .a, .a, .a, .a, .a, .a, .a, .a, .a, .a, .a, .a, .a, .a, .a, .a, .a, .a, .a, .a, .a, .a, .a, .a, .a, .a, .a, .a, .a, .a, .a, .a, .a, .a]) (fun _ o' vs' => wayH r os g0 g1 g2 g3 g4 g5 g6 104 o' vs') 1 o vs
      ⟨⟨by omega, by omega⟩, rfl, hvl, rfl, hv⟩ (by simp(maxSteps:=999999)(disch:=omega)only[go_sem,zA,zM,zS,zE,zL]; rfl) (HLe.refl _) ?_
    rintro v o' vs' ⟨⟨hv1, hv5⟩, ho', hvl', htk, hv'⟩
    obtain ⟨hol', hob'⟩ := fold_ok r (os.drop (i + 1)) (vs.take i) (mvals M (v - 1)) o hpre (fun w hw => by have := mvals_mem hw; omega) (by rw [htl, List.length_drop]; omega) ho
    rw [← ho'] at hol' hob'
    unfold wayH
    simp(maxSteps:=999999)(disch:=omega)only[go_sem,zA,zM,zS,zE,zL]
    ((first|(with_reducible first|refine condK_dec ?_ ?_|refine condK_ndec ?_ ?_|refine condK_nb ?_ ?_)|refine condK_b ?_ ?_) <;> intro c2)
    · have hv4 : v ≤ 4 := by omega
      have hsucc := mvals_succ (m := M) (k := v - 1) (by omega)
      rw [show v - 1 + 1 = v by omega] at hsucc
      simp(maxSteps:=999999)(disch:=omega)only[go_sem,zA,zM,zS,zE,zL, hmn, shr_small (s := M) (v := (v : Int)) (by omega)]
      rw [and_bit (by omega)]
      ((first|(with_reducible first|refine condK_dec ?_ ?_|refine condK_ndec ?_ ?_|refine condK_nb ?_ ?_)|refine condK_b ?_ ?_) <;> intro hb)
      · rw [Int.toNat_natCast] at hb
        rw [if_pos hb] at hsucc
        simp(maxSteps:=999999)(disch:=omega)only[go_sem,zA,zM,zS,zE,zL]
        have hset : (vs'.set i (v : Int)).take (i + 1) = vs.take i ++ [(v : Int)] := by
          rw [take_succ_nth (by rw [List.length_set]; omega), List.take_set_of_le (Nat.le_refl _), htk, nth_setN _ _ _ _ (by omega), if_pos rfl]
        have hsl : (vs'.set i (v : Int)).length = os.length := by rw [List.length_set]; exact hvl'
        have hsv : ∀ w ∈ vs'.set i (v : Int), 0 ≤ w ∧ w ≤ 4 := fun w hw => by
          rcases List.mem_or_eq_of_mem_set hw with h | h
          · exact hv' w h
          · omega
        have hrec := ways_run r os g0 g1 g2 g3 g4 g5 g6 hos hob hk d (i + 1) o' (vs'.set i (v : Int)) (by omega) (by omega) hsl hob' hsv
        have e : int ((i + 1 : Nat) : Int) = int ((i : Int) + 1) := by push_cast; rfl
        rw [e, hset] at hrec
        refine OpS.runFn hrec (⟨_, Tryz.func104, rfl, rfl⟩ : Enters Tryz.prog 104) rfl (by show target _ (.c (.fn 104 [(1, g1), (0, g0), (5, g5), (3, g3), (6, g6)])) = _; simp [target, look]) rfl ?_
        rintro _ _ ⟨rfl, vs2, l2, t2, b2, rfl⟩
        unfold wayH
        simp(maxSteps:=999999)(disch:=omega)only[go_sem,zA,zM,zS,zE,zL]
        refine ⟨v + 1, _, vs2, ⟨⟨⟨by omega, by omega⟩, ?_, l2, ?_, b2⟩, by omega⟩, by push_cast; omega, HLe.refl _⟩
        · rw [show v + 1 - 1 = v by omega, hsucc, List.foldl_append, ← ho']; rfl
        · have := congrArg (List.take i) t2
          rw [List.take_take, Nat.min_eq_left (by omega)] at this
          rw [this, List.take_append_of_le_length (by rw [htl]; exact Nat.le_refl _), List.take_take, Nat.min_self]
      · rw [Int.toNat_natCast] at hb
        rw [if_neg (by rw [hb]; simp), List.append_nil] at hsucc
        simp(maxSteps:=999999)(disch:=omega)only[go_sem,zA,zM,zS,zE,zL]
        refine ⟨v + 1, o', vs', ⟨⟨⟨by omega, by omega⟩, by rw [show v + 1 - 1 = v by omega, hsucc]; exact ho', hvl', htk, hv'⟩, by omega⟩, by push_cast; omega, HLe.refl _⟩
    · have hve : v = 5 := by omega
      simp(maxSteps:=999999)(disch:=omega)only[go_sem,zA,zM,zS,zE,zL]
      refine ⟨_, HLe.refl _, rfl, vs', hvl', htk, hv', ?_⟩
      rw [hdr, ways_cons, ho', hve]
theorem ruleMasks_own (r : Rul) (os : List Nat) (hos : os.length ≤ 4) (hob : ∀ m ∈ os, m < 32) (hk : r.kind = 1 ∨ r.kind = 2 ∨ r.kind = 3 ∨ (r.kind = 4 ∨ r.kind = 5) ∧ 2 ≤ os.length) :
    RunCall Tryz.prog 102 [aR r, ints (nats os)] [] (ownIQ (nats (ways r os [] (List.replicate os.length 0)))) := by
  have hnl : (nats os).length = os.length := nats_length os
  refine RunCall.cw (c := _) Tryz.func102 rfl (n := 18) Tryz.ntmps102 (rs := [.tmp 4]) rfl ?_
  simp only[List.length_cons,List.length_nil,zA,zS,List.replicate,List.cons_append,List.nil_append]
  simp(maxSteps:=999999)(disch:=omega)only[go_sem,zA,zM,zS,zE,zL]
  intro g0 g2 g3 g4 g5 g1 g6
  simp(maxSteps:=999999)(disch:=omega)only[go_sem,zA,zM,zS,zE,zL, List.mapM_cons, List.mapM_nil, capOf, Option.bind_eq_bind, Option.pure_def, Option.bind_some]
  refine ⟨rfl, ?_⟩
  have hrun := ways_run r os g0 g2 g3 g4 g5 g1 g6 hos hob hk os.length 0 (List.replicate os.length 0) (List.replicate os.length 0) (by omega) (by simp) (by simp) (fun x hx => by rw [List.eq_of_mem_replicate hx]; omega) (fun x hx => by rw [List.eq_of_mem_replicate hx]; omega)
  unfold wayH at hrun
  rw [nats_zeros] at hrun
  rw [hnl]
  refine OpS.runFn hrun (⟨_, Tryz.func104, rfl, rfl⟩ : Enters Tryz.prog 104) rfl (by show target _ (.c (.fn 104 [(1, g2), (0, g0), (5, g1), (3, g4), (6, g6)])) = _; simp [target, look]) rfl ?_
  rintro _ _ ⟨rfl, vs', l', t', b', rfl⟩
  have hlen : (nats (ways r os [] (List.replicate os.length 0))).length = os.length := by
    rw [nats_length, ways_len _ _ _ _ (by simp)]
    simp
  rw [List.drop_zero, List.take_zero]
  simp(maxSteps:=999999)(disch:=omega)only[go_sem,zA,zM,zS,zE,zL]
  obtain ⟨H2, hH2⟩ : ∃ H2, H2 = wayH r os g0 g2 g3 g4 g5 g1 g6 104 (ways r os [] (List.replicate os.length 0)) vs' := ⟨_, rfl⟩
  have hown : OwnI H2 (.own 2 g3 0 os.length none) (nats (ways r os [] (List.replicate os.length 0))) [2] := by
    have := OwnI.o (H := H2) 2 g3 none (nats (ways r os [] (List.replicate os.length 0))) [] (by rw [List.append_nil, hH2]; unfold wayH; simp only [go_sem])
    rwa [hlen] at this
  unfold wayH at hH2
  rw [← hH2]
  exact ⟨keepH [2] H2, keepH_le _ _, _, [2], rfl, hown.same fun i hi => keepH_get hi (hown.lt i hi), scalH_keep hown.blk⟩
end Go.Lg
