/- GpFA, GpFB, cut to what is needed. -/
import Derived.Test.YtabihehfemedcaaQac5
set_option linter.unusedSimpArgs false
set_option linter.unusedVariables false
set_option maxRecDepth 100000
namespace Go.Lg
open Go.Proofs
theorem GrdN.nn' {xs : List Int} {n : Nat} (h : GrdN xs n) (c : Int) : 0 ≤ nth xs c := by
  rw [nth_toNat]
  by_cases hk : c.toNat < xs.length
  · exact (h.val _ hk).1
  · unfold nth
    rw [Int.toNat_natCast, List.getD_eq_getElem?_getD, List.getElem?_eq_none (by omega)]
    exact Int.le_refl _
theorem GrdN.set {xs : List Int} {n i v : Nat} (hg : GrdN xs n) (hi : i < xs.length) (hv : v ≤ n) : GrdN (xs.set i (v : Int)) n := ⟨by rw [List.length_set]; exact hg.len, fun k hk => by
  rw [List.length_set] at hk
  rw [nth_setN _ _ _ _ hi]
  split
  · omega
  · exact hg.val k hk⟩
theorem sols_succ (p : Puz) (n m : Nat) (xs : List Int) {i : Nat} (hi : xs.length - (m + 1) = i) : sols p n (m + 1) xs = if 0 < nth xs i then sols p n m xs else (vals n 1).flatMap fun (v : Nat) => if fitsL p (xs.set i (v : Int)) n = true then sols p n m (xs.set i (v : Int)) else [] := by
  conv => lhs; rw [sols, hi]
  rfl
theorem vals_mem {n v : Nat} (h : v ∈ vals n 1) : 1 ≤ v ∧ v ≤ n := by
  unfold vals at h
  rw [Nat.sub_self, List.drop_zero] at h
  obtain ⟨k, hk, rfl⟩ := List.mem_map.1 h
  rw [List.mem_range] at hk
  omega
theorem sols_full (p : Puz) {n : Nat} : ∀ (m : Nat) (xs : List Int), m ≤ n * n → GrdN xs n → (∀ k : Nat, k < n * n - m → 0 < nth xs k) → ∀ s ∈ sols p n m xs, GrdN s n ∧ (∀ k : Nat, k < n * n → 0 < nth s k) ∧ ∀ k : Nat, 0 < nth xs k → nth s k = nth xs k
  | 0, xs, hm, hg, hf, s, hs => by
    rw [sols, List.mem_singleton] at hs
    subst hs
    exact ⟨hg, fun k hk => hf k (by omega), fun _ _ => rfl⟩
  | m + 1, xs, hm, hg, hf, s, hs => by
    have hxl := hg.len
    obtain ⟨i, hi⟩ : ∃ i, i = xs.length - (m + 1) := ⟨_, rfl⟩
    rw [sols_succ p n m xs hi.symm] at hs
    split at hs
    · rename_i h0
      exact sols_full p m xs (by omega) hg (fun k hk => by
        by_cases hki : k = i
        · rw [hki]; exact h0
        · exact hf k (by omega)) s hs
    · rename_i h0
      obtain ⟨v, hv, hs⟩ := List.mem_flatMap.1 hs
      have hvb := vals_mem hv
      have hil : i < xs.length := by omega
      split at hs
      · obtain ⟨q1, q2, q3⟩ := sols_full p m (xs.set i (v : Int)) (by omega) (hg.set hil hvb.2) (fun k hk => by
          rw [nth_setN _ _ _ _ hil]
          split
          · omega
          · exact hf k (by omega)) s hs
        refine ⟨q1, q2, fun k hk => ?_⟩
        have hki : k ≠ i := fun h => by rw [h] at hk; omega
        have := q3 k (by rw [nth_setN _ _ _ _ hil, if_neg hki]; exact hk)
        rw [nth_setN _ _ _ _ hil, if_neg hki] at this
        exact this
      · simp at hs
def LeB (o o' : List Nat) : Prop := o.length = o'.length ∧ ∀ k b : Nat, (o.getD k 0).testBit b = true → (o'.getD k 0).testBit b = true
theorem LeB.refl (o : List Nat) : LeB o o := ⟨rfl, fun _ _ h => h⟩
theorem LeB.trans {a b c : List Nat} (h1 : LeB a b) (h2 : LeB b c) : LeB a c := ⟨h1.1.trans h2.1, fun k x h => h2.2 k x (h1.2 k x h)⟩
theorem orV_getD {o : List Nat} {vs : List Int} (h : vs.length = o.length) (k : Nat) : (orV o vs).getD k 0 = if k < o.length then (o.getD k 0 ||| 2 ^ (nth vs k).toNat) else 0 := by
  by_cases hk : k < o.length
  · rw [if_pos hk]
    have h1 : k < (orV o vs).length := by rw [orV_length]; omega
    rw [List.getD_eq_getElem?_getD, List.getElem?_eq_getElem h1, List.getD_eq_getElem?_getD, List.getElem?_eq_getElem hk, nth_eq (by omega)]
    simp [orV]
  · rw [if_neg hk, List.getD_eq_getElem?_getD, List.getElem?_eq_none (by rw [orV_length]; omega)]
    rfl
theorem orV_le {o : List Nat} {vs : List Int} (h : vs.length = o.length) : LeB o (orV o vs) := ⟨by rw [orV_length]; omega, fun k b hb => by
  rw [orV_getD h]
  split
  · rw [Nat.testBit_or, hb, Bool.true_or]
  · rename_i hk
    rw [List.getD_eq_getElem?_getD, List.getElem?_eq_none (by omega)] at hb
    simp at hb⟩
theorem orV_mono {o o' : List Nat} {vs : List Int} (h : vs.length = o.length) (hl : LeB o o') : LeB (orV o vs) (orV o' vs) := ⟨by rw [orV_length, orV_length, hl.1], fun k b hb => by
  rw [orV_getD h] at hb
  rw [orV_getD (h.trans hl.1), ← hl.1]
  split at hb
  · rename_i hk
    rw [if_pos hk]
    rw [Nat.testBit_or, Bool.or_eq_true] at hb ⊢
    exact hb.imp (hl.2 k b) id
  · simp at hb⟩
theorem ways_le (r : Rul) : ∀ (ms : List Nat) (pre : List Int) (o : List Nat), pre.length + ms.length = o.length → LeB o (ways r ms pre o)
  | [], pre, o, h => by
    unfold ways
    split
    · exact orV_le (by simpa using h)
    · exact .refl _
  | m :: ms, pre, o, h => by
    rw [ways_cons]
    have : ∀ (l : List Int) (o : List Nat), pre.length + 1 + ms.length = o.length → LeB o (l.foldl (fun o v => ways r ms (pre ++ [v]) o) o) := by
      intro l
      induction l with
      | nil => exact fun o _ => .refl _
      | cons v l ih =>
        intro o h
        rw [List.foldl_cons]
        have h1 := ways_le r ms (pre ++ [v]) o (by simp; omega)
        exact h1.trans (ih _ (by rw [← h1.1]; exact h))
    exact this _ _ (by simp at h; omega)
theorem ways_mono (r : Rul) : ∀ (ms ms' : List Nat) (pre : List Int) (o o' : List Nat), pre.length + ms.length = o.length → ms.length = ms'.length → (∀ k v : Nat, 1 ≤ v → v ≤ 4 → (ms.getD k 0).testBit v = true → (ms'.getD k 0).testBit v = true) → LeB o o' → LeB (ways r ms pre o) (ways r ms' pre o')
  | [], [], pre, o, o', h, _, _, ho => by
    unfold ways
    split
    · exact orV_mono (by simpa using h) ho
    · exact ho
  | [], _ :: _, _, _, _, _, h, _, _ => by simp at h
  | _ :: _, [], _, _, _, _, h, _, _ => by simp at h
  | m :: ms, m' :: ms', pre, o, o', h, hl, hb, ho => by
    have hstep : ∀ (v : Nat), 1 ≤ v → v ≤ 4 → ∀ (o o' : List Nat), pre.length + 1 + ms.length = o.length → LeB o o' →
        LeB (if m.testBit v = true then ways r ms (pre ++ [(v : Int)]) o else o) (if m'.testBit v = true then ways r ms' (pre ++ [(v : Int)]) o' else o') ∧ pre.length + 1 + ms.length = (if m.testBit v = true then ways r ms (pre ++ [(v : Int)]) o else o).length := by
      intro v hv1 hv4 o o' hlen ho
      have hlen' : (pre ++ [(v : Int)]).length + ms.length = o.length := by simp; omega
      by_cases hm : m.testBit v = true
      · have hm' : m'.testBit v = true := by simpa using hb 0 v hv1 hv4 (by simpa using hm)
        rw [if_pos hm, if_pos hm']
        exact ⟨ways_mono r ms ms' _ o o' hlen' (by simpa using hl) (fun k v h1 h2 h3 => by simpa using hb (k + 1) v h1 h2 (by simpa using h3)) ho, by rw [ways_len r ms _ _ hlen']; exact hlen⟩
      · rw [if_neg hm]
        refine ⟨?_, hlen⟩
        split
        · exact ho.trans (ways_le r ms' _ o' (by rw [← ho.1]; simp at hl ⊢; omega))
        · exact ho
    have e : ∀ (M : Nat) (MS : List Nat) (O : List Nat), ways r (M :: MS) pre O = [1, 2, 3, 4].foldl (fun o (v : Nat) => if M.testBit v = true then ways r MS (pre ++ [(v : Int)]) o else o) O := fun _ _ _ => rfl
    rw [e, e]
    simp only [List.foldl_cons, List.foldl_nil]
    have h0 : pre.length + 1 + ms.length = o.length := by simp at h; omega
    obtain ⟨a1, b1⟩ := hstep 1 (by omega) (by omega) o o' h0 ho
    obtain ⟨a2, b2⟩ := hstep 2 (by omega) (by omega) _ _ b1 a1
    obtain ⟨a3, b3⟩ := hstep 3 (by omega) (by omega) _ _ b2 a2
    exact (hstep 4 (by omega) (by omega) _ _ b3 a3).1
theorem maskAt_mono {xs ys : List Int} {n : Nat} (hn : n = 2 ∨ n = 3 ∨ n = 4) {c : Int} (h : 0 < nth xs c → nth ys c = nth xs c) (hy : 0 ≤ nth ys c ∧ nth ys c ≤ n) {v : Nat} (hv : 1 ≤ v ∧ v ≤ 4) (hb : (maskAt ys n c).testBit v = true) : (maskAt xs n c).testBit v = true := by
  unfold maskAt at hb ⊢
  by_cases hx : 0 < nth xs c
  · rw [if_pos hx]
    rw [h hx, if_pos hx] at hb
    exact hb
  · rw [if_neg hx]
    by_cases hy0 : 0 < nth ys c
    · rw [if_pos hy0, Nat.testBit_two_pow] at hb
      have hv' : v ≤ n := by simp at hb; omega
      clear hb
      have : v = 1 ∨ v = 2 ∨ v = 3 ∨ v = 4 := by omega
      rcases hn with rfl | rfl | rfl <;> rcases this with rfl | rfl | rfl | rfl <;> first | omega | decide
    · rw [if_neg hy0] at hb
      exact hb
theorem canHold_mono {xs ys : List Int} {n : Nat} (hn : n = 2 ∨ n = 3 ∨ n = 4) {r : Rul} (h : ∀ c ∈ r.cells, 0 < nth xs c → nth ys c = nth xs c) (hy : ∀ c ∈ r.cells, 0 ≤ nth ys c ∧ nth ys c ≤ n) (hc : canHold r ys n = true) : canHold r xs n = true := by
  unfold canHold at hc ⊢
  have hle := ways_mono r (r.cells.map (maskAt ys n)) (r.cells.map (maskAt xs n)) [] (List.replicate r.cells.length 0) (List.replicate r.cells.length 0) (by simp) (by simp) (fun k v h1 h2 h3 => by
    by_cases hk : k < r.cells.length
    · have e : ∀ zs : List Int, (r.cells.map (maskAt zs n)).getD k 0 = maskAt zs n r.cells[k] := fun zs => by
        rw [List.getD_eq_getElem?_getD, List.getElem?_map, List.getElem?_eq_getElem hk]; rfl
      rw [e] at h3 ⊢
      have hm : r.cells[k] ∈ r.cells := List.getElem_mem _
      exact maskAt_mono hn (h _ hm) (hy _ hm) ⟨h1, h2⟩ h3
    · rw [List.getD_eq_getElem?_getD, List.getElem?_eq_none (by simp; omega)] at h3
      simp at h3) (.refl _)
  generalize ways r (r.cells.map (maskAt ys n)) [] (List.replicate r.cells.length 0) = A at hc hle
  generalize ways r (r.cells.map (maskAt xs n)) [] (List.replicate r.cells.length 0) = B at hle ⊢
  have hA : A.getD 0 0 ≠ 0 := by simpa using hc
  obtain ⟨b, hb⟩ := Nat.exists_testBit_of_ne_zero hA
  have := hle.2 0 b hb
  have hB : B.getD 0 0 ≠ 0 := fun h => by rw [h] at this; simp at this
  simpa using hB
theorem cells_grd {r : Rul} {n : Nat} {ys : List Int} (hr : ruleValid r n = true) (hg : GrdN ys n) : ∀ c ∈ r.cells, 0 ≤ nth ys c ∧ nth ys c ≤ n := fun c hc => by
  have h3 := (ruleValid_facts hr).2.2.1 c hc
  have hl := hg.len
  obtain ⟨k, rfl⟩ : ∃ k : Nat, c = k := ⟨c.toNat, by omega⟩
  exact hg.val k (by omega)
theorem fits_mono {p : Puz} {n : Nat} (hp : PuzN p n) {xs ys : List Int} (hx : GrdN xs n) (hy : GrdN ys n) (h : ∀ k : Nat, 0 < nth xs k → nth ys k = nth xs k) (hf : fitsL p ys n = true) : fitsL p xs n = true := by
  have hn := hp.hn
  simp only [fitsL, Bool.and_eq_true, clear, decide_eq_true_eq, Bool.not_eq_true', List.all_eq_true] at hf ⊢
  obtain ⟨h1, h2, h3⟩ := hf
  have hc : ∀ c : Int, 0 < nth xs c → nth ys c = nth xs c := fun c hc => by
    rw [nth_toNat] at hc
    rw [nth_toNat ys, nth_toNat xs]
    exact h _ hc
  refine ⟨fun k hk => ?_, fun r hr => canHold_mono hn (fun c _ => hc c) (cells_grd (hp.rv r hr) hy) (h2 r hr), ?_⟩
  · rintro ⟨a, b, d⟩
    have := h k b
    exact h1 k (by rw [hy.len, ← hx.len]; exact hk) ⟨a, by omega, by omega⟩
  · rw [clash_nc hn hy.nn'] at h3
    rw [clash_nc hn hx.nn']
    intro a b hab hb hl h0 he
    have e1 := h a h0
    have e2 := h b (by omega)
    exact h3 a b hab hb hl (by omega) (by omega)
def Has (p : Puz) (xs : List Int) : Prop := ∀ k : Nat, 0 < nth p.given k → nth xs k = nth p.given k
theorem Has.clear {p : Puz} {xs : List Int} (h : Has p xs) : Lg.clear p xs = true := by
  simp only [Lg.clear, decide_eq_true_eq]
  exact fun k hk ⟨a, b, c⟩ => c (h k a)
theorem Has.set {p : Puz} {xs : List Int} (h : Has p xs) {i : Nat} {v : Int} (hi : i < xs.length) (h0 : ¬ 0 < nth xs i) : Has p (xs.set i v) := fun k hk => by
  rw [nth_setN _ _ _ _ hi]
  have := h k hk
  split
  · rename_i hki
    subst hki
    omega
  · exact this
theorem fitsL_has {p q : Puz} (hr : p.rules = q.rules) {n : Nat} {xs : List Int} (hp : Has p xs) (hq : Has q xs) : fitsL p xs n = fitsL q xs n := by
  unfold fitsL
  rw [hp.clear, hq.clear, hr]
theorem sols_congr {p q : Puz} (hr : p.rules = q.rules) {n : Nat} : ∀ (m : Nat) (xs : List Int), m ≤ xs.length → Has p xs → Has q xs → sols p n m xs = sols q n m xs
  | 0, xs, _, _, _ => rfl
  | m + 1, xs, hm, hp, hq => by
    obtain ⟨i, hi⟩ : ∃ i, i = xs.length - (m + 1) := ⟨_, rfl⟩
    rw [sols_succ p n m xs hi.symm, sols_succ q n m xs hi.symm, sols_congr hr m xs (by omega) hp hq]
    split
    · rfl
    · rename_i h0
      have hil : i < xs.length := by omega
      congr 1
      funext v
      rw [fitsL_has hr (hp.set hil h0) (hq.set hil h0), sols_congr hr m (xs.set i (v : Int)) (by rw [List.length_set]; omega) (hp.set hil h0) (hq.set hil h0)]
def withL (a b : List Int) : List Int := (List.range a.length).map fun (k : Nat) => if 0 < nth b k then nth b k else nth a k
theorem withL_len (a b : List Int) : (withL a b).length = a.length := by simp [withL]
theorem withL_nth {a b : List Int} {k : Nat} (h : k < a.length) : nth (withL a b) k = if 0 < nth b k then nth b k else nth a k := by
  rw [nth_eq (by rw [withL_len]; omega)]
  simp [withL]
def withP (p : Puz) (xs : List Int) : Puz := ⟨p.size, withL p.given xs, p.rules⟩
theorem withL_grd {a b : List Int} {n : Nat} (ha : GrdN a n) (hb : GrdN b n) : GrdN (withL a b) n := ⟨by rw [withL_len]; exact ha.len, fun k hk => by
  rw [withL_len] at hk
  rw [withL_nth hk]
  split
  · exact hb.val k (by rw [hb.len, ← ha.len]; exact hk)
  · exact ha.val k hk⟩
theorem nth_over {xs : List Int} {k : Nat} (h : xs.length ≤ k) : nth xs (k : Int) = 0 := by
  unfold nth
  rw [Int.toNat_natCast, List.getD_eq_getElem?_getD, List.getElem?_eq_none h]
  rfl
def finL (p : Puz) (n : Nat) (xs : List Int) (most : Nat) : List (List Int) := if fitsL p (withL p.given xs) n = true ∧ clear p xs = true then (sols p n (n * n) (withL p.given xs)).take most else []
theorem clear_with {p : Puz} {n : Nat} {xs : List Int} (ha : GrdN p.given n) (hb : GrdN xs n) (h : clear p xs = true) : Has p (withL p.given xs) := fun k hk => by
  have hkl : k < p.given.length := by
    by_cases hkl : k < p.given.length
    · exact hkl
    · rw [nth_over (by omega)] at hk; omega
  rw [withL_nth hkl]
  split
  · rename_i hx
    simp only [clear, decide_eq_true_eq] at h
    have := h k (by rw [hb.len, ← ha.len]; exact hkl)
    by_cases he : nth xs k = nth p.given k
    · exact he
    · exact absurd ⟨hk, hx, he⟩ this
  · rfl
theorem has_self (p : Puz) : Has p p.given := fun _ _ => rfl
theorem finL_spec {p : Puz} {n : Nat} (hp : PuzN p n) (hv : puzzleValid p = true) {xs : List Int} (hb : GrdN xs n) (most : Nat) : finL p n xs most = if fitsL p xs n = true then allS (withP p xs) most else [] := by
  have hn := hp.hn
  have hs : ((p.size.toNat : Nat) : Int) = p.size := (PuzN.of hv).2
  have hsn : p.size.toNat = n := by have := hp.size; omega
  have ha : GrdN p.given n := by
    have := GrdN.of hn (xs := p.given) (n := n) (by rw [← hp.size]; exact puzzleValid_grid' hv)
    exact this
  have hg := withL_grd ha hb
  have hxw : ∀ k : Nat, 0 < nth xs k → nth (withL p.given xs) k = nth xs k := fun k hk => by
    have hkl : k < xs.length := by
      by_cases hkl : k < xs.length
      · exact hkl
      · rw [nth_over (by omega)] at hk; omega
    rw [withL_nth (by rw [ha.len, ← hb.len]; exact hkl), if_pos hk]
  have hqv : puzzleValid (withP p xs) = true := by
    simp only [puzzleValid, Bool.and_eq_true, decide_eq_true_eq] at hv ⊢
    refine ⟨?_, hv.2⟩
    show gridValid (withL p.given xs) p.size = true
    rw [hp.size]
    exact hg.valid hn
  unfold finL
  by_cases hc : clear p xs = true
  · have hP := clear_with ha hb hc
    have hQ := has_self (withP p xs)
    have hfq : fitsL (withP p xs) (withP p xs).given n = fitsL p (withL p.given xs) n := (fitsL_has (p := p) (q := withP p xs) rfl hP hQ).symm
    have hsq : sols (withP p xs) n (n * n) (withP p xs).given = sols p n (n * n) (withL p.given xs) := (sols_congr (p := p) (q := withP p xs) rfl (n * n) _ (by rw [hg.len]; exact Nat.le_refl _) hP hQ).symm
    by_cases hf : fitsL p (withL p.given xs) n = true
    · rw [if_pos ⟨hf, hc⟩, if_pos (fits_mono hp hb hg hxw hf)]
      unfold allS
      have e : (withP p xs).size.toNat = n := hsn
      rw [e, if_pos ⟨hqv, by rw [hfq]; exact hf⟩, hsq]
    · rw [if_neg (fun h => hf h.1)]
      split
      · unfold allS
        have e : (withP p xs).size.toNat = n := hsn
        rw [e, if_neg (fun h => hf (by rw [← hfq]; exact h.2))]
      · rfl
  · rw [if_neg (fun h => hc h.2)]
    have : fitsL p xs n = false := by
      have : clear p xs = false := by simpa using hc
      simp [fitsL, this]
    rw [this]
    rfl
def forcedL : List (List Int) → Int → Int
  | [], _ => 0
  | g :: L, c => if ∀ h ∈ L, nth h c = nth g c then nth g c else 0
def forcedV (p : Puz) (c : Int) : Int := if puzzleValid p = true ∧ 0 ≤ c ∧ c < p.given.length then forcedL (allS p 600) c else -1
def finishV (p : Puz) (xs : List Int) (most : Int) : Int := if puzzleValid p = true ∧ gridValid xs p.size = true ∧ 1 ≤ most ∧ most ≤ 600 then (finL p p.size.toNat xs most.toNat).length else -1
end Go.Lg

set_option linter.unusedSimpArgs false
set_option linter.unusedVariables false
set_option maxRecDepth 100000
namespace Go.Lg
open Go.Proofs
theorem allS_full {p : Puz} {most : Nat} : ∀ s ∈ allS p most, GrdN s p.size.toNat ∧ ∀ k : Nat, k < p.given.length → 0 < nth s k := by
  intro s hs
  unfold allS at hs
  split at hs
  · rename_i h
    obtain ⟨hp, hz⟩ := PuzN.of h.1
    have hg := GrdN.of hp.hn (xs := p.given) (by rw [hz]; exact puzzleValid_grid' h.1)
    obtain ⟨q1, q2, _⟩ := sols_full p _ _ (Nat.le_refl _) hg (fun k hk => absurd hk (by omega)) s (List.mem_of_mem_take hs)
    exact ⟨q1, fun k hk => q2 k (by rw [← hg.len]; exact hk)⟩
  · simp at hs
theorem allS_len (p : Puz) (most : Nat) : (allS p most).length ≤ most := by
  unfold allS
  split
  · rw [List.length_take]; omega
  · simp
theorem allS_cell {p : Puz} (hv : puzzleValid p = true) {most : Nat} {s : List Int} (hs : s ∈ allS p most) : s.length = p.given.length := by
  obtain ⟨hp, hz⟩ := PuzN.of hv
  rw [(allS_full s hs).1.len, hp.len]
theorem forcedL_cons (g : List Int) (L : List (List Int)) (c : Int) : forcedL (g :: L) c = if ∀ h ∈ L, nth h c = nth g c then nth g c else 0 := rfl
theorem sForcedValue_run (p : Puz) (c : Int) (hx : smP p) : Reads Try.prog 30 [aP p, int c] (int (forcedV p c)) := by
  have hgl := hx.1
  have hle := allS_len p 600
  refine RunCall.cw (c := _) Try.func30 rfl (n := 50) Try.ntmps30 (rs := [.tmp 4]) rfl ?_
  simp only [List.length_cons, List.length_nil, Nat.reduceAdd, Nat.reduceSub, List.replicate, List.cons_append, List.nil_append]
  simp (maxSteps := 1000000) (disch := omega) only [go_sem, Nat.reduceAdd, Nat.reduceMul, Nat.reduceSub, Nat.reduceEqDiff, Nat.reduceLeDiff]
  intro g
  first | refine OpS.rd (sPuzzleValid_run p hx) (⟨_, Try.func52, rfl, rfl⟩ : Enters Try.prog 52) rfl rfl rfl rfl ?_ | refine Loud.rd (sPuzzleValid_run p hx) (⟨_, Try.func52, rfl, rfl⟩ : Enters Try.prog 52) rfl rfl rfl rfl ?_
  simp (maxSteps := 1000000) (disch := omega) only [go_sem, Nat.reduceAdd, Nat.reduceMul, Nat.reduceSub, Nat.reduceEqDiff, Nat.reduceLeDiff]
  (first | with_reducible refine guardK_dec (fun h1 => ?_) (fun h1 => ?_) <;> simp (maxSteps := 1000000) (disch := omega) only [go_sem, Nat.reduceAdd, Nat.reduceMul, Nat.reduceSub, Nat.reduceEqDiff, Nat.reduceLeDiff, h1] | with_reducible refine guardK_ndec (fun h1 => ?_) (fun h1 => ?_) <;> simp (maxSteps := 1000000) (disch := omega) only [go_sem, Nat.reduceAdd, Nat.reduceMul, Nat.reduceSub, Nat.reduceEqDiff, Nat.reduceLeDiff, h1] | with_reducible refine guardK_nb (fun h1 => ?_) (fun h1 => ?_) <;> simp (maxSteps := 1000000) (disch := omega) only [go_sem, Nat.reduceAdd, Nat.reduceMul, Nat.reduceSub, Nat.reduceEqDiff, Nat.reduceLeDiff, h1] | with_reducible refine guardK_split (fun h1 => ?_) (fun h1 => ?_) <;> simp (maxSteps := 1000000) (disch := omega) only [go_sem, Nat.reduceAdd, Nat.reduceMul, Nat.reduceSub, Nat.reduceEqDiff, Nat.reduceLeDiff, h1] | with_reducible refine guardQ_dec (fun h1 => ?_) (fun h1 => ?_) <;> simp (maxSteps := 1000000) (disch := omega) only [go_sem, Nat.reduceAdd, Nat.reduceMul, Nat.reduceSub, Nat.reduceEqDiff, Nat.reduceLeDiff, h1] | with_reducible refine guardL_dec (fun h1 => ?_) (fun h1 => ?_) <;> simp (maxSteps := 1000000) (disch := omega) only [go_sem, Nat.reduceAdd, Nat.reduceMul, Nat.reduceSub, Nat.reduceEqDiff, Nat.reduceLeDiff, h1] | with_reducible refine guardQ_ndec (fun h1 => ?_) (fun h1 => ?_) <;> simp (maxSteps := 1000000) (disch := omega) only [go_sem, Nat.reduceAdd, Nat.reduceMul, Nat.reduceSub, Nat.reduceEqDiff, Nat.reduceLeDiff, h1] | with_reducible refine guardL_ndec (fun h1 => ?_) (fun h1 => ?_) <;> simp (maxSteps := 1000000) (disch := omega) only [go_sem, Nat.reduceAdd, Nat.reduceMul, Nat.reduceSub, Nat.reduceEqDiff, Nat.reduceLeDiff, h1] | with_reducible refine guardQ_nb (fun h1 => ?_) (fun h1 => ?_) <;> simp (maxSteps := 1000000) (disch := omega) only [go_sem, Nat.reduceAdd, Nat.reduceMul, Nat.reduceSub, Nat.reduceEqDiff, Nat.reduceLeDiff, h1] | with_reducible refine guardL_nb (fun h1 => ?_) (fun h1 => ?_) <;> simp (maxSteps := 1000000) (disch := omega) only [go_sem, Nat.reduceAdd, Nat.reduceMul, Nat.reduceSub, Nat.reduceEqDiff, Nat.reduceLeDiff, h1] | with_reducible refine guardQ_split (fun h1 => ?_) (fun h1 => ?_) <;> simp (maxSteps := 1000000) (disch := omega) only [go_sem, Nat.reduceAdd, Nat.reduceMul, Nat.reduceSub, Nat.reduceEqDiff, Nat.reduceLeDiff, h1] | with_reducible refine guardL_split (fun h1 => ?_) (fun h1 => ?_) <;> simp (maxSteps := 1000000) (disch := omega) only [go_sem, Nat.reduceAdd, Nat.reduceMul, Nat.reduceSub, Nat.reduceEqDiff, Nat.reduceLeDiff, h1])
  rotate_left
  · unfold forcedV
    rw [if_neg (fun h => by rw [h.1] at h1; cases h1)]
  first | refine OpS.rd (l1In_run _ _ _) (⟨_, Try.func66, rfl, rfl⟩ : Enters Try.prog 66) rfl rfl rfl rfl ?_ | refine Loud.rd (l1In_run _ _ _) (⟨_, Try.func66, rfl, rfl⟩ : Enters Try.prog 66) rfl rfl rfl rfl ?_
  simp (maxSteps := 1000000) (disch := omega) only [go_sem, Nat.reduceAdd, Nat.reduceMul, Nat.reduceSub, Nat.reduceEqDiff, Nat.reduceLeDiff]
  (first | with_reducible refine condK_dec (fun h2 => ?_) (fun h2 => ?_) | with_reducible refine condK_ndec (fun h2 => ?_) (fun h2 => ?_) | with_reducible refine condK_nb (fun h2 => ?_) (fun h2 => ?_) | refine condK_b (fun h2 => ?_) (fun h2 => ?_))
  rotate_left
  · simp (maxSteps := 1000000) (disch := omega) only [go_sem, Nat.reduceAdd, Nat.reduceMul, Nat.reduceSub, Nat.reduceEqDiff, Nat.reduceLeDiff]
    unfold forcedV
    rw [if_neg (by omega)]
  simp (maxSteps := 1000000) (disch := omega) only [go_sem, Nat.reduceAdd, Nat.reduceMul, Nat.reduceSub, Nat.reduceEqDiff, Nat.reduceLeDiff]
  first | refine OpS.mk (l5All_run p 600 (by omega) hx) (⟨_, Try.func81, rfl, rfl⟩ : Enters Try.prog 81) rfl rfl rfl rfl rfl ?_ | refine Loud.mk (l5All_run p 600 (by omega) hx) (⟨_, Try.func81, rfl, rfl⟩ : Enters Try.prog 81) rfl rfl rfl rfl rfl ?_
  simp (maxSteps := 1000000) (disch := omega) only [go_sem, Nat.reduceAdd, Nat.reduceMul, Nat.reduceSub, Nat.reduceEqDiff, Nat.reduceLeDiff]
  have hcell := fun s hs => allS_cell (most := 600) (s := s) h1 hs
  have hV : forcedV p c = forcedL (allS p 600) c := by unfold forcedV; rw [if_pos ⟨h1, by omega⟩]
  rw [hV]
  generalize allS p 600 = L at hle hcell
  refine loop_rule (fun k : Nat => L.length - k) (fun k => 1 ≤ k ∧ (k ≤ L.length ∨ k = 1) ∧ ∀ j : Nat, 1 ≤ j → j < k → nth (nth L j) c = nth (nth L 0) c) (fun k => [.a, .k, .a, .a, .a, .k, .p (int k), .a, .a, .a, .a, .a, .a, .a, .a, .a, .a, .a, .a, .a, .a, .a, .a, .a, .a, .a, .a, .a, .a, .a, .a, .a, .a, .a, .a, .a, .a, .a, .a, .a, .a, .a, .a, .a, .a, .a, .a, .a, .a, .a]) (fun _ => []) 1 ⟨Nat.le_refl _, .inr rfl, fun j h1 h2 => by omega⟩ (by simp (maxSteps := 1000000) (disch := omega) only [go_sem, Nat.reduceAdd, Nat.reduceMul, Nat.reduceSub, Nat.reduceEqDiff, Nat.reduceLeDiff]; rfl) (hle_nil _) ?_
  rintro k ⟨hk1, hk2, hall⟩
  have hmem : ∀ j : Nat, j < L.length → (nth L j).length = p.given.length := fun j hj => hcell _ (nth_mem hj)
  simp (maxSteps := 1000000) (disch := omega) only [go_sem, Nat.reduceAdd, Nat.reduceMul, Nat.reduceSub, Nat.reduceEqDiff, Nat.reduceLeDiff]
  (first | with_reducible refine condK_dec (fun c1 => ?_) (fun c1 => ?_) | with_reducible refine condK_ndec (fun c1 => ?_) (fun c1 => ?_) | with_reducible refine condK_nb (fun c1 => ?_) (fun c1 => ?_) | refine condK_b (fun c1 => ?_) (fun c1 => ?_))
  · have c1 : k < L.length := by omega
    have e1 := hmem k c1
    have e0 : (nth L (0 : Int)).length = p.given.length := hmem 0 (by omega)
    simp (maxSteps := 1000000) (disch := omega) only [go_sem, Nat.reduceAdd, Nat.reduceMul, Nat.reduceSub, Nat.reduceEqDiff, Nat.reduceLeDiff]
    refine drawP_q foll (by kernel_rfl) ?_
    simp (maxSteps := 1000000) (disch := omega) only [go_sem, Nat.reduceBEq, Bool.true_or, Nat.reduceAdd, Nat.reduceMul, Nat.reduceSub, Nat.reduceEqDiff, Nat.reduceLeDiff]
    (first | with_reducible refine condK_dec (fun c2 => ?_) (fun c2 => ?_) | with_reducible refine condK_ndec (fun c2 => ?_) (fun c2 => ?_) | with_reducible refine condK_nb (fun c2 => ?_) (fun c2 => ?_) | refine condK_b (fun c2 => ?_) (fun c2 => ?_))
    · simp (maxSteps := 1000000) (disch := omega) only [go_sem, Nat.reduceAdd, Nat.reduceMul, Nat.reduceSub, Nat.reduceEqDiff, Nat.reduceLeDiff]
      refine ⟨k + 1, ⟨⟨by omega, by omega, fun j h1 h2 => ?_⟩, by omega⟩, by push_cast; omega, hle_nil _⟩
      by_cases hjk : j = k
      · rw [hjk]; exact c2
      · exact hall j h1 (by omega)
    · simp (maxSteps := 1000000) (disch := omega) only [go_sem, Nat.reduceAdd, Nat.reduceMul, Nat.reduceSub, Nat.reduceEqDiff, Nat.reduceLeDiff]
      cases L with
      | nil => simp at c1
      | cons s L =>
        rw [forcedL_cons, if_neg]
        intro h
        refine c2 (h _ ?_)
        obtain ⟨j, rfl⟩ : ∃ j, k = j + 1 := ⟨k - 1, by omega⟩
        have := nth_eq (xs := s :: L) (e := ((j + 1 : Nat) : Int)) (by simp only [List.length_cons] at c1 ⊢; omega)
        rw [this]
        simp only [Int.toNat_natCast, List.getElem_cons_succ]
        exact List.getElem_mem _
  · simp (maxSteps := 1000000) (disch := omega) only [go_sem, Nat.reduceAdd, Nat.reduceMul, Nat.reduceSub, Nat.reduceEqDiff, Nat.reduceLeDiff]
    (first | with_reducible refine condK_dec (fun c3 => ?_) (fun c3 => ?_) | with_reducible refine condK_ndec (fun c3 => ?_) (fun c3 => ?_) | with_reducible refine condK_nb (fun c3 => ?_) (fun c3 => ?_) | refine condK_b (fun c3 => ?_) (fun c3 => ?_))
    · simp (maxSteps := 1000000) (disch := omega) only [go_sem, Nat.reduceAdd, Nat.reduceMul, Nat.reduceSub, Nat.reduceEqDiff, Nat.reduceLeDiff]
      have : L = [] := List.eq_nil_of_length_eq_zero (by omega)
      subst this
      rfl
    · have e0 : (nth L (0 : Int)).length = p.given.length := hmem 0 (by omega)
      simp (maxSteps := 1000000) (disch := omega) only [go_sem, Nat.reduceAdd, Nat.reduceMul, Nat.reduceSub, Nat.reduceEqDiff, Nat.reduceLeDiff]
      cases L with
      | nil => simp at c3
      | cons s L =>
        rw [forcedL_cons, if_pos]
        · rfl
        · intro h hh
          obtain ⟨j, hj, rfl⟩ := List.mem_iff_getElem.1 hh
          simp only [List.length_cons] at c1 hk2
          have := hall (j + 1) (by omega) (by omega)
          rw [nth_eq (xs := s :: L) (e := ((j + 1 : Nat) : Int)) (by simp only [List.length_cons]; omega)] at this
          simp only [Int.toNat_natCast, List.getElem_cons_succ] at this
          exact this
attribute [-go_sem] appendM
def withT (a b : List Int) (k : Nat) : List Int := (withL a b).take k ++ a.drop k
theorem withT_0 (a b : List Int) : withT a b 0 = a := by simp [withT]
theorem withT_len {a b : List Int} {k : Nat} : (withT a b k).length = a.length := by simp [withT, withL_len]; omega
theorem withT_all {a b : List Int} {k : Nat} (h : a.length ≤ k) : withT a b k = withL a b := by
  unfold withT
  rw [List.take_of_length_le (by rw [withL_len]; exact h), List.drop_of_length_le h, List.append_nil]
theorem withT_pos {a b : List Int} {k : Nat} (h : k < a.length) (h0 : 0 < nth b k) : (withT a b k).set k (nth b k) = withT a b (k + 1) := by
  have e : (withL a b).take (k + 1) = (withL a b).take k ++ [nth b k] := by rw [take_succ_nth (by rw [withL_len]; exact h), withL_nth h, if_pos h0]
  unfold withT
  rw [e, List.set_append_right _ _ (by rw [List.length_take, withL_len]; omega), List.length_take, withL_len, Nat.min_eq_left (by omega), Nat.sub_self, List.drop_eq_getElem_cons h, List.set_cons_zero, List.append_assoc]
  rfl
theorem withT_neg {a b : List Int} {k : Nat} (h : k < a.length) (h0 : ¬ 0 < nth b k) : withT a b (k + 1) = withT a b k := by
  have e : (withL a b).take (k + 1) = (withL a b).take k ++ [nth a k] := by rw [take_succ_nth (by rw [withL_len]; exact h), withL_nth h, if_neg h0]
  unfold withT
  rw [e, List.append_assoc]
  congr 1
  rw [List.drop_eq_getElem_cons h, nth_eq (by omega)]
  simp
theorem l23With_run (p : Puz) (xs : List Int) (hx : p.given.length ≤ 2 ^ 40) (hl : p.given.length ≤ xs.length) (h0 : 0 < p.given.length) : Reads Try.prog 86 [aP p, ints xs] (aP (withP p xs)) := by
  refine Reads.iced ?_
  refine RunCall.cw (c := _) Try.func86 rfl (n := 35) Try.ntmps86 (rs := [.cell 4 37]) rfl ?_
  simp only [List.length_cons, List.length_nil, Nat.reduceAdd, Nat.reduceSub, List.replicate, List.cons_append, List.nil_append]
  simp (maxSteps := 1000000) (disch := omega) only [go_sem, Nat.reduceAdd, Nat.reduceMul, Nat.reduceSub, Nat.reduceEqDiff, Nat.reduceLeDiff]
  intro g0 g1 g2
  refine appendM_copyF (HI := [_, _]) (sliceOf_of' ti23 rfl ti3) ⟨rfl, rfl, rfl⟩ ⟨h0, hx⟩ ?_
  intro g3
  simp (maxSteps := 1000000) (disch := omega) only [go_sem, Nat.reduceAdd, Nat.reduceMul, Nat.reduceSub, Nat.reduceEqDiff, Nat.reduceLeDiff]
  refine loop_rule (fun k : Nat => p.given.length - k) (fun k => k ≤ p.given.length) (fun k => [.a, .k, .k, .a, .k, .k, .p (int k), .a, .a, .a, .a, .a, .a, .a, .a, .a, .a, .a, .a, .a, .a, .a, .a, .a, .a, .a, .a, .a, .a, .a, .a, .a, .a, .a, .a]) (fun k => [some ⟨g0, 1, cP p⟩, some ⟨g1, 3, [CV.f (FV.int IntKind.i64 0), CV.f FV.nil, CV.f FV.nil]⟩, some ⟨g3, 1, cl (eI .i64) (withT p.given xs k)⟩]) 0 (Nat.zero_le _) (by simp (maxSteps := 1000000) (disch := omega) only [go_sem, Nat.reduceAdd, Nat.reduceMul, Nat.reduceSub, Nat.reduceEqDiff, Nat.reduceLeDiff]; rfl) (by rw [withT_0]; exact HLe.refl _) ?_
  intro k hk
  have hwl := withT_len (a := p.given) (b := xs) (k := k)
  simp (maxSteps := 1000000) (disch := omega) only [go_sem, Nat.reduceAdd, Nat.reduceMul, Nat.reduceSub, Nat.reduceEqDiff, Nat.reduceLeDiff]
  (first | with_reducible refine condK_dec (fun c1 => ?_) (fun c1 => ?_) | with_reducible refine condK_ndec (fun c1 => ?_) (fun c1 => ?_) | with_reducible refine condK_nb (fun c1 => ?_) (fun c1 => ?_) | refine condK_b (fun c1 => ?_) (fun c1 => ?_))
  · have c1 : k < p.given.length := by omega
    simp (maxSteps := 1000000) (disch := omega) only [go_sem, Nat.reduceAdd, Nat.reduceMul, Nat.reduceSub, Nat.reduceEqDiff, Nat.reduceLeDiff]
    (first | with_reducible refine condK_dec (fun c2 => ?_) (fun c2 => ?_) | with_reducible refine condK_ndec (fun c2 => ?_) (fun c2 => ?_) | with_reducible refine condK_nb (fun c2 => ?_) (fun c2 => ?_) | refine condK_b (fun c2 => ?_) (fun c2 => ?_))
    · simp (maxSteps := 1000000) (disch := omega) only [go_sem, Nat.reduceAdd, Nat.reduceMul, Nat.reduceSub, Nat.reduceEqDiff, Nat.reduceLeDiff]
      rw [Int.toNat_natCast, withT_pos c1 c2]
      exact ⟨k + 1, ⟨by omega, by omega⟩, by push_cast; omega, HLe.refl _⟩
    · simp (maxSteps := 1000000) (disch := omega) only [go_sem, Nat.reduceAdd, Nat.reduceMul, Nat.reduceSub, Nat.reduceEqDiff, Nat.reduceLeDiff]
      refine ⟨k + 1, ⟨by omega, by omega⟩, by push_cast; omega, ?_⟩
      rw [withT_neg c1 c2]
      exact HLe.refl _
  · simp (maxSteps := 1000000) (disch := omega) only [go_sem, Nat.reduceAdd, Nat.reduceMul, Nat.reduceSub, Nat.reduceEqDiff, Nat.reduceLeDiff]
    rw [withT_all (by omega)]
    have hown : OwnI [some ⟨g0, 1, cP p⟩, some ⟨g1, 3, [CV.f (FV.int IntKind.i64 p.size), CV.own 2 g3 0 p.given.length none, CV.f (fsl eR p.rules)]⟩, some ⟨g3, 1, cl (eI .i64) (withL p.given xs)⟩] (.own 2 g3 0 p.given.length none) (withL p.given xs) [2] := by
      have := OwnI.o (H := [some ⟨g0, 1, cP p⟩, some ⟨g1, 3, [CV.f (FV.int IntKind.i64 p.size), CV.own 2 g3 0 p.given.length none, CV.f (fsl eR p.rules)]⟩, some ⟨g3, 1, cl (eI .i64) (withL p.given xs)⟩]) 2 g3 none (withL p.given xs) [] (by rw [List.append_nil]; simp only [go_sem])
      rwa [withL_len] at this
    refine lessQ_ice ?_
    have hf := hown.frzC
    show (([_, _, _] : List CV).mapM (Lg.frzC _)).map AV.agg = _
    simp only [List.mapM_cons, List.mapM_nil, hf, Option.bind_eq_bind, Option.pure_def]
    rfl
end Go.Lg
