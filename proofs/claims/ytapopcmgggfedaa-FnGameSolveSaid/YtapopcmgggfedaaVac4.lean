/- GpFA, GpEA, cut to what is needed. -/
import Derived.Test.YtapopcmgggfedaaVac3
import Derived.Test.YtapopcmgggfedaaVac0
open Nat(reduceAdd reduceMul reduceSub reduceEqDiff reduceLeDiff)
set_option linter.unusedSimpArgs false
set_option linter.unusedVariables false
set_option maxRecDepth 100000
namespace Go.Lg
open Go.Proofs
theorem GrdN.nn' {xs : List Int} {n : Nat} (h : GrdN xs n) (c : Int) : 0 ≤ nth xs c := by
  rw [nth_toNat]
  by_cases hk : c.toNat < xs.length
  · exact (h.val _ hk).1
  · unfold nth
    rw [Int.toNat_natCast, List.getD_eq_getElem?_getD, List.getElem?_eq_none (by omega)]
    exact Int.le_refl _
theorem GrdN.set {xs : List Int} {n i v : Nat} (hg : GrdN xs n) (hi : i < xs.length) (hv : v ≤ n) : GrdN (xs.set i (v : Int)) n := ⟨by rw [List.length_set]; exact hg.len, fun k hk => by
  rw [List.length_set] at hk
  rw [nth_setN _ _ _ _ hi]
  split
  · omega
  · exact hg.val k hk⟩
theorem sols_succ (p : Puz) (n m : Nat) (xs : List Int) {i : Nat} (hi : xs.length - (m + 1) = i) : sols p n (m + 1) xs = if 0 < nth xs i then sols p n m xs else (vals n 1).flatMap fun (v : Nat) => if fitsL p (xs.set i (v : Int)) n = true then sols p n m (xs.set i (v : Int)) else [] := by
  conv => lhs; rw [sols, hi]
  rfl
theorem vals_mem {n v : Nat} (h : v ∈ vals n 1) : 1 ≤ v ∧ v ≤ n := by
  unfold vals at h
  rw [Nat.sub_self, List.drop_zero] at h
  obtain ⟨k, hk, rfl⟩ := List.mem_map.1 h
  rw [List.mem_range] at hk
  omega
theorem sols_full (p : Puz) {n : Nat} : ∀ (m : Nat) (xs : List Int), m ≤ n * n → GrdN xs n → (∀ k : Nat, k < n * n - m → 0 < nth xs k) → ∀ s ∈ sols p n m xs, GrdN s n ∧ (∀ k : Nat, k < n * n → 0 < nth s k) ∧ ∀ k : Nat, 0 < nth xs k → nth s k = nth xs k
  | 0, xs, hm, hg, hf, s, hs => by
    rw [sols, List.mem_singleton] at hs
    subst hs
    exact ⟨hg, fun k hk => hf k (by omega), fun _ _ => rfl⟩
  | m + 1, xs, hm, hg, hf, s, hs => by
    have hxl := hg.len
    obtain ⟨i, hi⟩ : ∃ i, i = xs.length - (m + 1) := ⟨_, rfl⟩
    rw [sols_succ p n m xs hi.symm] at hs
    split at hs
    · rename_i h0
      exact sols_full p m xs (by omega) hg (fun k hk => by
        by_cases hki : k = i
        · rw [hki]; exact h0
        · exact hf k (by omega)) s hs
    · rename_i h0
      obtain ⟨v, hv, hs⟩ := List.mem_flatMap.1 hs
      have hvb := vals_mem hv
      have hil : i < xs.length := by omega
      split at hs
      · obtain ⟨q1, q2, q3⟩ := sols_full p m (xs.set i (v : Int)) (by omega) (hg.set hil hvb.2) (fun k hk => by
          rw [nth_setN _ _ _ _ hil]
          split
          · omega
          · exact hf k (by omega)) s hs
        refine ⟨q1, q2, fun k hk => ?_⟩
        have hki : k ≠ i := fun h => by rw [h] at hk; omega
        have := q3 k (by rw [nth_setN _ _ _ _ hil, if_neg hki]; exact hk)
        rw [nth_setN _ _ _ _ hil, if_neg hki] at this
        exact this
      · simp at hs
def LeB (o o' : List Nat) : Prop := o.length = o'.length ∧ ∀ k b : Nat, (o.getD k 0).testBit b = true → (o'.getD k 0).testBit b = true
theorem LeB.refl (o : List Nat) : LeB o o := ⟨rfl, fun _ _ h => h⟩
theorem LeB.trans {a b c : List Nat} (h1 : LeB a b) (h2 : LeB b c) : LeB a c := ⟨h1.1.trans h2.1, fun k x h => h2.2 k x (h1.2 k x h)⟩
theorem orV_getD {o : List Nat} {vs : List Int} (h : vs.length = o.length) (k : Nat) : (orV o vs).getD k 0 = if k < o.length then (o.getD k 0 ||| 2 ^ (nth vs k).toNat) else 0 := by
  by_cases hk : k < o.length
  · rw [if_pos hk]
    have h1 : k < (orV o vs).length := by rw [orV_length]; omega
    rw [List.getD_eq_getElem?_getD, List.getElem?_eq_getElem h1, List.getD_eq_getElem?_getD, List.getElem?_eq_getElem hk, nth_eq (by omega)]
    simp [orV]
  · rw [if_neg hk, List.getD_eq_getElem?_getD, List.getElem?_eq_none (by rw [orV_length]; omega)]
    rfl
theorem orV_le {o : List Nat} {vs : List Int} (h : vs.length = o.length) : LeB o (orV o vs) := ⟨by rw [orV_length]; omega, fun k b hb => by
  rw [orV_getD h]
  split
  · rw [Nat.testBit_or, hb, Bool.true_or]
  · rename_i hk
    rw [List.getD_eq_getElem?_getD, List.getElem?_eq_none (by omega)] at hb
    simp at hb⟩
theorem orV_mono {o o' : List Nat} {vs : List Int} (h : vs.length = o.length) (hl : LeB o o') : LeB (orV o vs) (orV o' vs) := ⟨by rw [orV_length, orV_length, hl.1], fun k b hb => by
  rw [orV_getD h] at hb
  rw [orV_getD (h.trans hl.1), ← hl.1]
  split at hb
  · rename_i hk
    rw [if_pos hk]
    rw [Nat.testBit_or, Bool.or_eq_true] at hb ⊢
    exact hb.imp (hl.2 k b) id
  · simp at hb⟩
theorem ways_le (r : Rul) : ∀ (ms : List Nat) (pre : List Int) (o : List Nat), pre.length + ms.length = o.length → LeB o (ways r ms pre o)
  | [], pre, o, h => by
    unfold ways
    split
    · exact orV_le (by simpa using h)
    · exact .refl _
  | m :: ms, pre, o, h => by
    rw [ways_cons]
    have : ∀ (l : List Int) (o : List Nat), pre.length + 1 + ms.length = o.length → LeB o (l.foldl (fun o v => ways r ms (pre ++ [v]) o) o) := by
      intro l
      induction l with
      | nil => exact fun o _ => .refl _
      | cons v l ih =>
        intro o h
        rw [List.foldl_cons]
        have h1 := ways_le r ms (pre ++ [v]) o (by simp; omega)
        exact h1.trans (ih _ (by rw [← h1.1]; exact h))
    exact this _ _ (by simp at h; omega)
theorem ways_mono (r : Rul) : ∀ (ms ms' : List Nat) (pre : List Int) (o o' : List Nat), pre.length + ms.length = o.length → ms.length = ms'.length → (∀ k v : Nat, 1 ≤ v → v ≤ 4 → (ms.getD k 0).testBit v = true → (ms'.getD k 0).testBit v = true) → LeB o o' → LeB (ways r ms pre o) (ways r ms' pre o')
  | [], [], pre, o, o', h, _, _, ho => by
    unfold ways
    split
    · exact orV_mono (by simpa using h) ho
    · exact ho
  | [], _ :: _, _, _, _, _, h, _, _ => by simp at h
  | _ :: _, [], _, _, _, _, h, _, _ => by simp at h
  | m :: ms, m' :: ms', pre, o, o', h, hl, hb, ho => by
    have hstep : ∀ (v : Nat), 1 ≤ v → v ≤ 4 → ∀ (o o' : List Nat), pre.length + 1 + ms.length = o.length → LeB o o' →
        LeB (if m.testBit v = true then ways r ms (pre ++ [(v : Int)]) o else o) (if m'.testBit v = true then ways r ms' (pre ++ [(v : Int)]) o' else o') ∧ pre.length + 1 + ms.length = (if m.testBit v = true then ways r ms (pre ++ [(v : Int)]) o else o).length := by
      intro v hv1 hv4 o o' hlen ho
      have hlen' : (pre ++ [(v : Int)]).length + ms.length = o.length := by simp; omega
      by_cases hm : m.testBit v = true
      · have hm' : m'.testBit v = true := by simpa using hb 0 v hv1 hv4 (by simpa using hm)
        rw [if_pos hm, if_pos hm']
        exact ⟨ways_mono r ms ms' _ o o' hlen' (by simpa using hl) (fun k v h1 h2 h3 => by simpa using hb (k + 1) v h1 h2 (by simpa using h3)) ho, by rw [ways_len r ms _ _ hlen']; exact hlen⟩
      · rw [if_neg hm]
        refine ⟨?_, hlen⟩
        split
        · exact ho.trans (ways_le r ms' _ o' (by rw [← ho.1]; simp at hl ⊢; omega))
        · exact ho
    have e : ∀ (M : Nat) (MS : List Nat) (O : List Nat), ways r (M :: MS) pre O = [1, 2, 3, 4].foldl (fun o (v : Nat) => if M.testBit v = true then ways r MS (pre ++ [(v : Int)]) o else o) O := fun _ _ _ => rfl
    rw [e, e]
    simp only [List.foldl_cons, List.foldl_nil]
    have h0 : pre.length + 1 + ms.length = o.length := by simp at h; omega
    obtain ⟨a1, b1⟩ := hstep 1 (by omega) (by omega) o o' h0 ho
    obtain ⟨a2, b2⟩ := hstep 2 (by omega) (by omega) _ _ b1 a1
    obtain ⟨a3, b3⟩ := hstep 3 (by omega) (by omega) _ _ b2 a2
    exact (hstep 4 (by omega) (by omega) _ _ b3 a3).1
theorem maskAt_mono {xs ys : List Int} {n : Nat} (hn : n = 2 ∨ n = 3 ∨ n = 4) {c : Int} (h : 0 < nth xs c → nth ys c = nth xs c) (hy : 0 ≤ nth ys c ∧ nth ys c ≤ n) {v : Nat} (hv : 1 ≤ v ∧ v ≤ 4) (hb : (maskAt ys n c).testBit v = true) : (maskAt xs n c).testBit v = true := by
  unfold maskAt at hb ⊢
  by_cases hx : 0 < nth xs c
  · rw [if_pos hx]
    rw [h hx, if_pos hx] at hb
    exact hb
  · rw [if_neg hx]
    by_cases hy0 : 0 < nth ys c
    · rw [if_pos hy0, Nat.testBit_two_pow] at hb
      have hv' : v ≤ n := by simp at hb; omega
      clear hb
      have : v = 1 ∨ v = 2 ∨ v = 3 ∨ v = 4 := by omega
      rcases hn with rfl | rfl | rfl <;> rcases this with rfl | rfl | rfl | rfl <;> first | omega | decide
    · rw [if_neg hy0] at hb
      exact hb
theorem canHold_mono {xs ys : List Int} {n : Nat} (hn : n = 2 ∨ n = 3 ∨ n = 4) {r : Rul} (h : ∀ c ∈ r.cells, 0 < nth xs c → nth ys c = nth xs c) (hy : ∀ c ∈ r.cells, 0 ≤ nth ys c ∧ nth ys c ≤ n) (hc : canHold r ys n = true) : canHold r xs n = true := by
  unfold canHold at hc ⊢
  have hle := ways_mono r (r.cells.map (maskAt ys n)) (r.cells.map (maskAt xs n)) [] (List.replicate r.cells.length 0) (List.replicate r.cells.length 0) (by simp) (by simp) (fun k v h1 h2 h3 => by
    by_cases hk : k < r.cells.length
    · have e : ∀ zs : List Int, (r.cells.map (maskAt zs n)).getD k 0 = maskAt zs n r.cells[k] := fun zs => by
        rw [List.getD_eq_getElem?_getD, List.getElem?_map, List.getElem?_eq_getElem hk]; rfl
      rw [e] at h3 ⊢
      have hm : r.cells[k] ∈ r.cells := List.getElem_mem _
      exact maskAt_mono hn (h _ hm) (hy _ hm) ⟨h1, h2⟩ h3
    · rw [List.getD_eq_getElem?_getD, List.getElem?_eq_none (by simp; omega)] at h3
      simp at h3) (.refl _)
  generalize ways r (r.cells.map (maskAt ys n)) [] (List.replicate r.cells.length 0) = A at hc hle
  generalize ways r (r.cells.map (maskAt xs n)) [] (List.replicate r.cells.length 0) = B at hle ⊢
  have hA : A.getD 0 0 ≠ 0 := by simpa using hc
  obtain ⟨b, hb⟩ := Nat.exists_testBit_of_ne_zero hA
  have := hle.2 0 b hb
  have hB : B.getD 0 0 ≠ 0 := fun h => by rw [h] at this; simp at this
  simpa using hB
theorem cells_grd {r : Rul} {n : Nat} {ys : List Int} (hr : ruleValid r n = true) (hg : GrdN ys n) : ∀ c ∈ r.cells, 0 ≤ nth ys c ∧ nth ys c ≤ n := fun c hc => by
  have h3 := (ruleValid_facts hr).2.2.1 c hc
  have hl := hg.len
  obtain ⟨k, rfl⟩ : ∃ k : Nat, c = k := ⟨c.toNat, by omega⟩
  exact hg.val k (by omega)
theorem fits_mono {p : Puz} {n : Nat} (hp : PuzN p n) {xs ys : List Int} (hx : GrdN xs n) (hy : GrdN ys n) (h : ∀ k : Nat, 0 < nth xs k → nth ys k = nth xs k) (hf : fitsL p ys n = true) : fitsL p xs n = true := by
  have hn := hp.hn
  simp only [fitsL, Bool.and_eq_true, clear, decide_eq_true_eq, Bool.not_eq_true', List.all_eq_true] at hf ⊢
  obtain ⟨h1, h2, h3⟩ := hf
  have hc : ∀ c : Int, 0 < nth xs c → nth ys c = nth xs c := fun c hc => by
    rw [nth_toNat] at hc
    rw [nth_toNat ys, nth_toNat xs]
    exact h _ hc
  refine ⟨fun k hk => ?_, fun r hr => canHold_mono hn (fun c _ => hc c) (cells_grd (hp.rv r hr) hy) (h2 r hr), ?_⟩
  · rintro ⟨a, b, d⟩
    have := h k b
    exact h1 k (by rw [hy.len, ← hx.len]; exact hk) ⟨a, by omega, by omega⟩
  · rw [clash_nc hn hy.nn'] at h3
    rw [clash_nc hn hx.nn']
    intro a b hab hb hl h0 he
    have e1 := h a h0
    have e2 := h b (by omega)
    exact h3 a b hab hb hl (by omega) (by omega)
def Has (p : Puz) (xs : List Int) : Prop := ∀ k : Nat, 0 < nth p.given k → nth xs k = nth p.given k
theorem Has.clear {p : Puz} {xs : List Int} (h : Has p xs) : Lg.clear p xs = true := by
  simp only [Lg.clear, decide_eq_true_eq]
  exact fun k hk ⟨a, b, c⟩ => c (h k a)
theorem Has.set {p : Puz} {xs : List Int} (h : Has p xs) {i : Nat} {v : Int} (hi : i < xs.length) (h0 : ¬ 0 < nth xs i) : Has p (xs.set i v) := fun k hk => by
  rw [nth_setN _ _ _ _ hi]
  have := h k hk
  split
  · rename_i hki
    subst hki
    omega
  · exact this
def withL (a b : List Int) : List Int := (List.range a.length).map fun (k : Nat) => if 0 < nth b k then nth b k else nth a k
theorem withL_len (a b : List Int) : (withL a b).length = a.length := by simp [withL]
theorem withL_nth {a b : List Int} {k : Nat} (h : k < a.length) : nth (withL a b) k = if 0 < nth b k then nth b k else nth a k := by
  rw [nth_eq (by rw [withL_len]; omega)]
  simp [withL]
def withP (p : Puz) (xs : List Int) : Puz := ⟨p.size, withL p.given xs, p.rules⟩
theorem withL_grd {a b : List Int} {n : Nat} (ha : GrdN a n) (hb : GrdN b n) : GrdN (withL a b) n := ⟨by rw [withL_len]; exact ha.len, fun k hk => by
  rw [withL_len] at hk
  rw [withL_nth hk]
  split
  · exact hb.val k (by rw [hb.len, ← ha.len]; exact hk)
  · exact ha.val k hk⟩
theorem nth_over {xs : List Int} {k : Nat} (h : xs.length ≤ k) : nth xs (k : Int) = 0 := by
  unfold nth
  rw [Int.toNat_natCast, List.getD_eq_getElem?_getD, List.getElem?_eq_none h]
  rfl
end Go.Lg

namespace Go.Lg
open Go.Proofs
theorem sub_len' {α : Type} (l : List α) (a b : Int) : (sub l a b).length ≤ l.length := by simp [sub]; omega
theorem valuesHold_run (r : Rul) (vs : List Int) (hl : vs.length ≤ 4) (hv : ∀ v ∈ vs, 0 ≤ v ∧ v ≤ 4) (hk : r.kind = 1 ∨ r.kind = 2 ∨ r.kind = 3 ∨ (r.kind = 4 ∨ r.kind = 5) ∧ 2 ≤ vs.length) : Reads Try.prog 78 [aR r, ints vs] (bool (holdsV r vs)) := by
  have hnv : ∀ k : Nat, k < vs.length → 0 ≤ nth vs k ∧ nth vs k ≤ 4 := fun k hk => hv _ (by rw [nth_eq (by omega)]; exact List.getElem_mem _)
  have hpt := prodV_take hl hv
  have hst := sum_take hl hv
  refine RunCall.cw (c := _) Try.func78 rfl (n := 76) Try.ntmps78 (rs := [.tmp 4]) rfl ?_
  simp only[List.length_cons,List.length_nil,reduceAdd,reduceSub,List.replicate,List.cons_append,List.nil_append]
  simp(maxSteps:=999999)(disch:=omega)only[go_sem,reduceAdd,reduceMul,reduceSub,reduceEqDiff,reduceLeDiff]
  intro g
  refine loop_rule (fun k : Nat => vs.length - k) (fun k => k ≤ vs.length ∧ (r.kind = 1 → (vs.take k).Nodup)) (fun k => [.a, .k, .k, .a, .a, .p (int (vs.take k).sum), .p (int (prodV (vs.take k))), .a, .a, .k, .k, .p (int k), .a, .a, .a, .a, .a, .a, .a, .a, .a, .a, .a, .a, .a, .a, .a, .a, .a, .a, .a, .a, .a, .a, .a, .a, .a, .a, .a, .a, .a, .a, .a, .a, .a, .a, .a, .a, .a, .a, .a, .a, .a, .a, .a, .a, .a, .a, .a, .a, .a, .a, .a, .a, .a, .a, .a, .a, .a, .a, .a, .a, .a, .a, .a, .a]) (fun _ => [some ⟨g, 1, cR r⟩]) 0 ⟨Nat.zero_le _, fun _ => by simp⟩ (by simp(maxSteps:=999999)(disch:=omega)only[go_sem,reduceAdd,reduceMul,reduceSub,reduceEqDiff,reduceLeDiff]; simp [prodV]) (HLe.refl _) ?_
  rintro k ⟨hk', hnd⟩
  simp(maxSteps:=999999)(disch:=omega)only[go_sem,reduceAdd,reduceMul,reduceSub,reduceEqDiff,reduceLeDiff]
  ((first|(with_reducible first|refine condK_dec ?_ ?_|refine condK_ndec ?_ ?_|refine condK_nb ?_ ?_)|refine condK_b ?_ ?_) <;> intro h1)
  · have h1 : k < vs.length := by omega
    have e1 : (vs.take (k + 1)).sum = (vs.take k).sum + nth vs k := by rw [take_succ_nth h1]; simp
    have e2 : prodV (vs.take (k + 1)) = prodV (vs.take k) * nth vs k := by rw [take_succ_nth h1, prodV_app]
    have b1 := hst (k + 1)
    have b2 := hpt (k + 1)
    rw [e1] at b1
    rw [e2] at b2
    have hin : nth vs k ∈ vs.take k ↔ ∃ i : Nat, i < k ∧ nth vs i = nth vs k := by
      constructor
      · intro h
        obtain ⟨i, hi, he⟩ := List.mem_take_iff_getElem.1 h
        exact ⟨i, by omega, by rw [nth_eq (by omega)]; exact he⟩
      · rintro ⟨i, hi, he⟩
        rw [← he, nth_eq (by omega)]
        exact List.mem_take_iff_getElem.2 ⟨i, by omega, rfl⟩
    simp(maxSteps:=999999)(disch:=omega)only[go_sem,reduceAdd,reduceMul,reduceSub,reduceEqDiff,reduceLeDiff]
    ((with_reducible first|refine guardK_dec ?_ ?_|refine guardK_ndec ?_ ?_|refine guardK_nb ?_ ?_|refine guardK_split ?_ ?_|refine guardQ_dec ?_ ?_|refine guardL_dec ?_ ?_|refine guardQ_ndec ?_ ?_|refine guardL_ndec ?_ ?_|refine guardQ_nb ?_ ?_|refine guardL_nb ?_ ?_|refine guardQ_split ?_ ?_|refine guardL_split ?_ ?_) <;> intro d1 <;> simp(maxSteps:=999999)(disch:=omega)only[go_sem,reduceAdd,reduceMul,reduceSub,reduceEqDiff,reduceLeDiff, d1])
    · have hsub : sub vs 0 (k : Int) = vs.take k := by simp [sub]
      have hco := Contains_run (sub vs 0 (k : Int)) (nth vs k) (by have := sub_len' vs 0 (k : Int); omega)
      rw [hsub] at hco
      first | refine OpS.rd (hco) (⟨_, Try.func59, rfl, rfl⟩ : Enters Try.prog 59) rfl rfl rfl rfl ?_ | refine Loud.rd (hco) (⟨_, Try.func59, rfl, rfl⟩ : Enters Try.prog 59) rfl rfl rfl rfl ?_
      simp(maxSteps:=999999)(disch:=omega)only[go_sem,reduceAdd,reduceMul,reduceSub,reduceEqDiff,reduceLeDiff]
      ((first|(with_reducible first|refine condK_dec ?_ ?_|refine condK_ndec ?_ ?_|refine condK_nb ?_ ?_)|refine condK_b ?_ ?_) <;> intro d2)
      · simp(maxSteps:=999999)(disch:=omega)only[go_sem,reduceAdd,reduceMul,reduceSub,reduceEqDiff,reduceLeDiff]
        have : ¬ vs.Nodup := fun hn => by
          have := (nodup_take h1).1 (hn.sublist (List.take_sublist _ _))
          obtain ⟨i, hi, he⟩ := hin.1 d2
          exact this.2 i hi he
        unfold holdsV
        rw [if_pos d1, decide_eq_false this]
      · simp(maxSteps:=999999)(disch:=omega)only[go_sem,reduceAdd,reduceMul,reduceSub,reduceEqDiff,reduceLeDiff]
        refine ⟨k + 1, ⟨⟨by omega, fun h => ?_⟩, by omega⟩, ⟨e1.symm, e2.symm, by push_cast; omega⟩, HLe.refl _⟩
        rw [nodup_take h1]
        exact ⟨hnd d1, fun i hi he => d2 (hin.2 ⟨i, hi, he⟩)⟩
    · refine ⟨k + 1, ⟨⟨by omega, fun h => by first | exact absurd h d1 | exact h.elim⟩, by omega⟩, ⟨e1.symm, e2.symm, by push_cast; omega⟩, HLe.refl _⟩
  · have hkl : vs.take k = vs := List.take_of_length_le (by omega)
    simp(maxSteps:=999999)(disch:=omega)only[go_sem,reduceAdd,reduceMul,reduceSub,reduceEqDiff,reduceLeDiff]
    rw [hkl] at hnd
    rw [hkl]
    ((first|(with_reducible first|refine condK_dec ?_ ?_|refine condK_ndec ?_ ?_|refine condK_nb ?_ ?_)|refine condK_b ?_ ?_) <;> intro d2)
    · simp(maxSteps:=999999)(disch:=omega)only[go_sem,reduceAdd,reduceMul,reduceSub,reduceEqDiff,reduceLeDiff]
      unfold holdsV
      rw [if_neg (by omega), if_pos d2]
    simp(maxSteps:=999999)(disch:=omega)only[go_sem,reduceAdd,reduceMul,reduceSub,reduceEqDiff,reduceLeDiff]
    ((first|(with_reducible first|refine condK_dec ?_ ?_|refine condK_ndec ?_ ?_|refine condK_nb ?_ ?_)|refine condK_b ?_ ?_) <;> intro d3)
    · simp(maxSteps:=999999)(disch:=omega)only[go_sem,reduceAdd,reduceMul,reduceSub,reduceEqDiff,reduceLeDiff]
      unfold holdsV
      rw [if_neg (by omega), if_neg d2, if_pos d3]
    simp(maxSteps:=999999)(disch:=omega)only[go_sem,reduceAdd,reduceMul,reduceSub,reduceEqDiff,reduceLeDiff]
    ((first|(with_reducible first|refine condK_dec ?_ ?_|refine condK_ndec ?_ ?_|refine condK_nb ?_ ?_)|refine condK_b ?_ ?_) <;> intro d4)
    · have hl2 : 2 ≤ vs.length := by omega
      have v0 : 0 ≤ nth vs (0 : Int) ∧ nth vs (0 : Int) ≤ 4 := hnv 0 (by omega)
      have v1 : 0 ≤ nth vs (1 : Int) ∧ nth vs (1 : Int) ≤ 4 := hnv 1 (by omega)
      simp(maxSteps:=999999)(disch:=omega)only[go_sem,reduceAdd,reduceMul,reduceSub,reduceEqDiff,reduceLeDiff]
      refine drawP_q foll (by kernel_rfl) ?_
      simp(maxSteps:=999999)(disch:=omega)only[go_sem,Nat.reduceBEq,Bool.true_or,reduceAdd,reduceMul,reduceSub,reduceEqDiff,reduceLeDiff]
      unfold holdsV
      rw [if_neg (by omega), if_neg d2, if_neg d3, if_pos d4]
    simp(maxSteps:=999999)(disch:=omega)only[go_sem,reduceAdd,reduceMul,reduceSub,reduceEqDiff,reduceLeDiff]
    ((first|(with_reducible first|refine condK_dec ?_ ?_|refine condK_ndec ?_ ?_|refine condK_nb ?_ ?_)|refine condK_b ?_ ?_) <;> intro d5)
    · have hl2 : 2 ≤ vs.length := by omega
      have v0 : 0 ≤ nth vs (0 : Int) ∧ nth vs (0 : Int) ≤ 4 := hnv 0 (by omega)
      have v1 : 0 ≤ nth vs (1 : Int) ∧ nth vs (1 : Int) ≤ 4 := hnv 1 (by omega)
      simp(maxSteps:=999999)(disch:=omega)only[go_sem,reduceAdd,reduceMul,reduceSub,reduceEqDiff,reduceLeDiff]
      refine drawP_q foll (by kernel_rfl) ?_
      simp(maxSteps:=999999)(disch:=omega)only[go_sem,Nat.reduceBEq,Bool.true_or,reduceAdd,reduceMul,reduceSub,reduceEqDiff,reduceLeDiff]
      unfold holdsV
      rw [if_neg (by omega), if_neg d2, if_neg d3, if_neg d4]
    · have d1 : r.kind = 1 := by omega
      simp(maxSteps:=999999)(disch:=omega)only[go_sem,reduceAdd,reduceMul,reduceSub,reduceEqDiff,reduceLeDiff]
      unfold holdsV
      rw [if_pos d1, decide_eq_true (hnd d1)]
end Go.Lg
