/- GpJB, GpFA, GpEA, cut to what is needed. -/
import Derived.Test.YtabihehfemedcaaQcc5
import Derived.Test.YtabihehfemedcaaQcc6
import Derived.Test.YtabihehfemedcaaQcc4
import Derived.Test.YtabihehfemedcaaQcc1
set_option linter.unusedSimpArgs false
set_option linter.unusedVariables false
set_option maxRecDepth 100000
namespace Go.Lg
open Go.Proofs
attribute [-go_sem] appendM lwF_cons
theorem setRange_nil (cs : List CV) (n : Nat) : setRange cs n [] = cs := by
  simp [setRange]
theorem set_look {H : Heap} {id g : Nat} {b : Blk} (hl : look H id g = some b) : H.set id (some b) = H := by
  obtain ⟨q1, _⟩ := look_some hl
  have hlt := (List.getElem?_eq_some_iff.1 q1).1
  refine List.ext_getElem? fun i => ?_
  by_cases hi : i = id
  · subst hi; rw [List.getElem?_set_self hlt, q1]
  · rw [List.getElem?_set_ne (Ne.symm hi)]
theorem appendM_in {P : Program} {H : Heap} {t : TypeId} {ei : TI} {K : KV} (ht : sliceOf P t = some ei) (hz : ei.zero.length = ei.size ∧ ei.size = 3) {id g n m : Nat} {cs k : List CV} (hl : look H id g = some ⟨g, 3, cs⟩)
    {src : AV} (hel : elems H 3 src = some (m, k)) (hk0 : k.length = m * 3) (hn : n * 3 < cs.length) (hm : (n + m) * 3 ≤ cs.length)
    (hk : K (.c (.own id g 0 (n + m) none)) (H.set id (some ⟨g, 3, setRange cs (n * 3) k⟩))) : appendM P H t (.c (.own id g 0 n none)) src K := by
  obtain ⟨hz1, hz2⟩ := hz
  unfold appendM
  simp only [ht, hz1, if_true, hz2, hel]
  have e1 : elems H 3 (.c (.own id g 0 n none)) = some (n, (cs.drop 0).take (n * 3)) := by simp only [elems, hl, if_true]
  simp only [e1, appM, hl, hz2]
  split
  · rename_i h0
    subst h0
    have : k = [] := List.eq_nil_of_length_eq_zero (by omega)
    subst this
    rw [setRange_nil, set_look hl] at hk
    exact hk
  · rw [if_neg (by omega)]
    simp only [okP]
    refine ⟨⟨trivial, by omega, by omega⟩, ?_⟩
    rw [Nat.zero_add]
    exact hk
theorem sliceR_gen {P : Program} {H : Heap} {t e : TypeId} {ti ei : TI} {id g n : Nat} {cs : List CV} (ht : tinf P t = some ti) (hk : ti.k = .slice e) (he : tinf P e = some ei) (hs : ei.size = 3) (hl : look H id g = some ⟨g, 3, cs⟩) (lo hi mx : Option Nat) (l h m : Nat)
    (e1 : lo.getD 0 = l) (e2 : hi.getD n = h) (e3 : mx.getD h = m) (hc : l ≤ h ∧ h ≤ m ∧ m * 3 ≤ cs.length) (hi' : mx.isSome → hi.isSome) : sliceV P H t (.c (.own id g 0 n none)) lo hi mx = some (.c (.own id g (l * 3) (h - l) (mx.map (· - l)))) := by
  subst e1 e2 e3
  obtain ⟨h1, h2, h3⟩ := hc
  simp only [sliceV, ht, hk, he, hl, Option.getD_none, hs]
  rw [if_pos ⟨h1, h2, by omega, hi', trivial, by omega, by omega⟩, Nat.zero_add]
  cases mx <;> rfl
theorem cells_del {A B C D Z : List CV} (hB : B.length = 3) (hZ : Z.length = 3) : setRange (setRange (A ++ (B ++ (C ++ D))) A.length C) (A.length + C.length) Z = A ++ (C ++ (Z ++ D)) := by
  have e1 : setRange (A ++ (B ++ (C ++ D))) A.length C = (A ++ C) ++ ((B ++ (C ++ D)).drop C.length) := by
    unfold setRange
    rw [List.take_left, List.drop_append, List.drop_of_length_le (by omega), List.nil_append, Nat.add_sub_cancel_left]
  rw [e1]
  unfold setRange
  have e2 : A.length + C.length = (A ++ C).length := by simp
  rw [e2, List.take_left, List.drop_append, List.drop_of_length_le (by omega), List.nil_append, Nat.add_sub_cancel_left, List.drop_drop, hZ]
  have e3 : C.length + 3 = (B ++ C).length := by simp; omega
  rw [e3, ← List.append_assoc B C D, List.drop_left]
  simp
theorem DeleteR_run (H : Heap) (id g i : Nat) (l : List RO) (ys : List CV) (hl : look H id g = some ⟨g, 3, kl kR l ++ ys⟩) (hi : i < l.length) (hn : l.length ≤ 2 ^ 40) :
    RunCall Try.prog 93 [.c (.own id g 0 l.length none), int i, int (i + 1)] H (fun v H' => v = .c (.own id g 0 (l.length - 1) none) ∧ H' = H.set id (some ⟨g, 3, kl kR (l.eraseIdx i) ++ ([.f (.int .i64 0), .f .nil, .f (.int .i64 0)] ++ ys)⟩)) := by
  have hkl : (kl kR l ++ ys).length = l.length * 3 + ys.length := by rw [List.length_append, kl_length]
  have hix : ((i : Int)).toNat = i := Int.toNat_natCast i
  have hix2 : ((i : Int) + 1).toNat = i + 1 := by omega
  have hil : ((l.length : Int)).toNat = l.length := Int.toNat_natCast _
  have s1 := sliceR_gen ti26 rfl ti29 rfl hl (n := l.length) (some i) (some (i + 1)) (some l.length) i (i + 1) l.length rfl rfl rfl ⟨by omega, by omega, by omega⟩ (fun _ => rfl)
  have s2 := sliceR_gen ti26 rfl ti29 rfl hl (n := l.length) none (some i) none 0 i i rfl rfl rfl ⟨by omega, by omega, by omega⟩ (fun h => by cases h)
  have s3 := sliceR_gen ti26 rfl ti29 rfl hl (n := l.length) (some (i + 1)) none none (i + 1) l.length l.length rfl rfl rfl ⟨by omega, by omega, by omega⟩ (fun h => by cases h)
  have hms := mask_nil H
  refine RunCall.cw (c := _) Try.func93 rfl (n := 33) Try.ntmps93 (rs := [.tmp 6]) rfl ?_
  simp only [List.length_cons, List.length_nil, Nat.reduceAdd, Nat.reduceSub, List.replicate, List.cons_append, List.nil_append]
  simp (maxSteps := 1000000) (disch := omega) only [go_sem, Nat.reduceAdd, Nat.reduceMul, Nat.reduceSub, Nat.reduceEqDiff, Nat.reduceLeDiff, hl]
  rw [hix, hix2, hil, s1]
  have hd : decide ((i : Int) = (i : Int) + 1) = false := decide_eq_false (by omega)
  simp (maxSteps := 1000000) (disch := omega) only [go_sem, Nat.reduceAdd, Nat.reduceMul, Nat.reduceSub, Nat.reduceEqDiff, Nat.reduceLeDiff, hl, hd]
  refine drawP_lM [0, 1, 2, 3, 4, 5] [] none [6, 7] [] [0, 0, 3, 0, 0, 24, 63, 127] foll (by kernel_rfl) ?_
  iterate 2 (rw [lwF_cons]; simp (maxSteps := 1000000) (disch := omega) only [go_sem, Nat.reduceAdd, Nat.reduceMul, Nat.reduceSub, Nat.reduceEqDiff, Nat.reduceLeDiff, hms, hl])
  rw [lwF_cons]
  simp (maxSteps := 1000000) (disch := omega) only [go_sem, Nat.reduceAdd, Nat.reduceMul, Nat.reduceSub, Nat.reduceEqDiff, Nat.reduceLeDiff, hms, hl, hix, s2]
  iterate 2 (rw [lwF_cons]; simp (maxSteps := 1000000) (disch := omega) only [go_sem, Nat.reduceAdd, Nat.reduceMul, Nat.reduceSub, Nat.reduceEqDiff, Nat.reduceLeDiff, hms, hl])
  rw [lwF_cons]
  simp (maxSteps := 1000000) (disch := omega) only [go_sem, Nat.reduceAdd, Nat.reduceMul, Nat.reduceSub, Nat.reduceEqDiff, Nat.reduceLeDiff, hms, hl, hix2, s3]
  obtain ⟨A, hA⟩ : ∃ A, A = kl kR (l.take i) := ⟨_, rfl⟩
  obtain ⟨B, hB⟩ : ∃ B, B = kR l[i] := ⟨_, rfl⟩
  obtain ⟨C, hC⟩ : ∃ C, C = kl kR (l.drop (i + 1)) := ⟨_, rfl⟩
  have hAl : A.length = i * 3 := by rw [hA, kl_length, List.length_take, Nat.min_eq_left (by omega)]
  have hBl : B.length = 3 := by rw [hB]; rfl
  have hCl : C.length = (l.length - (i + 1)) * 3 := by rw [hC, kl_length, List.length_drop]
  have hcs : kl kR l ++ ys = A ++ (B ++ (C ++ ys)) := by
    have : l = l.take i ++ ([l[i]] ++ l.drop (i + 1)) := by rw [List.singleton_append, List.getElem_cons_drop, List.take_append_drop]
    conv => lhs; rw [this]
    rw [kl_append, kl_append, hA, hB, hC]
    simp [kl]
  have her : kl kR (l.eraseIdx i) = A ++ C := by rw [List.eraseIdx_eq_take_drop_succ, kl_append, hA, hC]
  rw [hcs] at hl hkl
  have hlt : id < H.length := (List.getElem?_eq_some_iff.1 (look_some hl).1).1
  have hel : elems H 3 (.c (.own id g ((i + 1) * 3) (l.length - (i + 1)) none)) = some (l.length - (i + 1), C) := by
    have e1 : (i + 1) * 3 = (A ++ B).length := by simp; omega
    simp only [elems, hl, if_true]
    rw [e1, ← List.append_assoc, List.drop_left, ← hCl, List.take_left]
  rw [Nat.sub_zero]
  refine appendM_in (sliceOf_of' ti26 rfl ti29) ⟨rfl, rfl⟩ hl hel hCl (by omega) (by omega) ?_
  rw [show i + (l.length - (i + 1)) = l.length - 1 by omega, ← hAl]
  obtain ⟨X, hX⟩ : ∃ X, X = setRange (A ++ (B ++ (C ++ ys))) A.length C := ⟨_, rfl⟩
  rw [← hX]
  have hXl : X.length = l.length * 3 + ys.length := by rw [hX, setRange_length (by rw [hkl]; omega), hkl]
  have hl2 : ∀ Y, look (H.set id (some ⟨g, 3, Y⟩)) id g = some ⟨g, 3, Y⟩ := fun Y => look_set_eq hlt
  have s4 := sliceR_gen ti26 rfl ti29 rfl (hl2 X) (n := l.length - 1) (some (l.length - 1)) (some l.length) none (l.length - 1) l.length l.length rfl rfl rfl ⟨by omega, by omega, by omega⟩ (fun h => by cases h)
  have hil2 : (((l.length - 1 : Nat) : Int)).toNat = l.length - 1 := Int.toNat_natCast _
  simp (maxSteps := 1000000) (disch := omega) only [go_sem, Nat.reduceAdd, Nat.reduceMul, Nat.reduceSub, Nat.reduceEqDiff, Nat.reduceLeDiff, hl2]
  rw [hil2, hil, s4]
  simp (maxSteps := 1000000) (disch := omega) only [go_sem, Nat.reduceAdd, Nat.reduceMul, Nat.reduceSub, Nat.reduceEqDiff, Nat.reduceLeDiff, hl2]
  refine OpS.clear rfl ti26 rfl ti29 rfl rfl (hl2 X) rfl (by omega) ?_ ?_
  · show (l.length - 1) * 3 + (l.length - (l.length - 1)) * 3 ≤ X.length
    omega
  have hfin : (H.set id (some ⟨g, 3, X⟩)).set id (some ⟨g, 3, setRange X ((l.length - 1) * 3) (zerosL ((l.length - (l.length - 1)) * 3) [.f (.int .i64 0), .f .nil, .f (.int .i64 0)])⟩) = H.set id (some ⟨g, 3, kl kR (l.eraseIdx i) ++ ([.f (.int .i64 0), .f .nil, .f (.int .i64 0)] ++ ys)⟩) := by
    have e1 : (l.length - 1) * 3 = A.length + C.length := by omega
    have e2 : l.length - (l.length - 1) = 1 := by omega
    have e3 : zerosL (1 * 3) [CV.f (.int .i64 0), .f .nil, .f (.int .i64 0)] = [.f (.int .i64 0), .f .nil, .f (.int .i64 0)] := rfl
    rw [List.set_set, e1, e2, e3, hX, cells_del hBl rfl, her, List.append_assoc]
  show vwK _ _ _ _ _ _ _ ((H.set id (some ⟨g, 3, X⟩)).set id (some ⟨g, 3, setRange X ((l.length - 1) * 3) (zerosL ((l.length - (l.length - 1)) * 3) [.f (.int .i64 0), .f .nil, .f (.int .i64 0)])⟩))
  rw [hfin]
  simp (maxSteps := 1000000) (disch := omega) only [go_sem, Nat.reduceAdd, Nat.reduceMul, Nat.reduceSub, Nat.reduceEqDiff, Nat.reduceLeDiff]
  exact ⟨_, HLe.refl _, rfl, rfl⟩
theorem ClipR_run (H : Heap) (id g n : Nat) (cs : List CV) (hl : look H id g = some ⟨g, 3, cs⟩) (hn : n * 3 ≤ cs.length) (hn4 : n ≤ 2 ^ 40) : RunCall Try.prog 73 [.c (.own id g 0 n none)] H (fun v H' => v = .c (.own id g 0 n (some n)) ∧ H' = H) := by
  have s1 := sliceR_gen ti26 rfl ti29 rfl hl (n := n) none (some n) (some n) 0 n n rfl rfl rfl ⟨by omega, by omega, by omega⟩ (fun _ => rfl)
  have hin : ((n : Int)).toNat = n := Int.toNat_natCast _
  refine RunCall.cw (c := _) Try.func73 rfl (n := 9) Try.ntmps73 (rs := [.tmp 2]) rfl ?_
  simp only [List.length_cons, List.length_nil, Nat.reduceAdd, Nat.reduceSub, List.replicate, List.cons_append, List.nil_append]
  simp (maxSteps := 1000000) (disch := omega) only [go_sem, Nat.reduceAdd, Nat.reduceMul, Nat.reduceSub, Nat.reduceEqDiff, Nat.reduceLeDiff, hl]
  rw [hin, s1]
  simp (maxSteps := 1000000) (disch := omega) only [go_sem, Nat.reduceAdd, Nat.reduceMul, Nat.reduceSub, Nat.reduceEqDiff, Nat.reduceLeDiff]
  exact ⟨_, HLe.refl _, by simp, rfl⟩
theorem ClipR_nil (H : Heap) : RunCall Try.prog 73 [.c (.f .nil)] H (fun v H' => v = .c (.f .nil) ∧ H' = H) := by
  have s1 : sliceV Try.prog H 26 (.c (.f .nil)) none (some (Int.toNat 0)) (some (Int.toNat 0)) = some (.c (.f .nil)) := by
    simp only [sliceV, ti26, ti29]
    rfl
  refine RunCall.cw (c := _) Try.func73 rfl (n := 9) Try.ntmps73 (rs := [.tmp 2]) rfl ?_
  simp only [List.length_cons, List.length_nil, Nat.reduceAdd, Nat.reduceSub, List.replicate, List.cons_append, List.nil_append]
  simp (maxSteps := 1000000) (disch := omega) only [go_sem, Nat.reduceAdd, Nat.reduceMul, Nat.reduceSub, Nat.reduceEqDiff, Nat.reduceLeDiff]
  rw [s1]
  simp (maxSteps := 1000000) (disch := omega) only [go_sem, Nat.reduceAdd, Nat.reduceMul, Nat.reduceSub, Nat.reduceEqDiff, Nat.reduceLeDiff]
  exact ⟨_, HLe.refl _, rfl, rfl⟩
end Go.Lg

set_option linter.unusedSimpArgs false
set_option linter.unusedVariables false
set_option maxRecDepth 100000
namespace Go.Lg
open Go.Proofs
theorem GrdN.nn' {xs : List Int} {n : Nat} (h : GrdN xs n) (c : Int) : 0 ≤ nth xs c := by
  rw [nth_toNat]
  by_cases hk : c.toNat < xs.length
  · exact (h.val _ hk).1
  · unfold nth
    rw [Int.toNat_natCast, List.getD_eq_getElem?_getD, List.getElem?_eq_none (by omega)]
    exact Int.le_refl _
theorem GrdN.set {xs : List Int} {n i v : Nat} (hg : GrdN xs n) (hi : i < xs.length) (hv : v ≤ n) : GrdN (xs.set i (v : Int)) n := ⟨by rw [List.length_set]; exact hg.len, fun k hk => by
  rw [List.length_set] at hk
  rw [nth_setN _ _ _ _ hi]
  split
  · omega
  · exact hg.val k hk⟩
theorem sols_succ (p : Puz) (n m : Nat) (xs : List Int) {i : Nat} (hi : xs.length - (m + 1) = i) : sols p n (m + 1) xs = if 0 < nth xs i then sols p n m xs else (vals n 1).flatMap fun (v : Nat) => if fitsL p (xs.set i (v : Int)) n = true then sols p n m (xs.set i (v : Int)) else [] := by
  conv => lhs; rw [sols, hi]
  rfl
theorem vals_mem {n v : Nat} (h : v ∈ vals n 1) : 1 ≤ v ∧ v ≤ n := by
  unfold vals at h
  rw [Nat.sub_self, List.drop_zero] at h
  obtain ⟨k, hk, rfl⟩ := List.mem_map.1 h
  rw [List.mem_range] at hk
  omega
theorem sols_full (p : Puz) {n : Nat} : ∀ (m : Nat) (xs : List Int), m ≤ n * n → GrdN xs n → (∀ k : Nat, k < n * n - m → 0 < nth xs k) → ∀ s ∈ sols p n m xs, GrdN s n ∧ (∀ k : Nat, k < n * n → 0 < nth s k) ∧ ∀ k : Nat, 0 < nth xs k → nth s k = nth xs k
  | 0, xs, hm, hg, hf, s, hs => by
    rw [sols, List.mem_singleton] at hs
    subst hs
    exact ⟨hg, fun k hk => hf k (by omega), fun _ _ => rfl⟩
  | m + 1, xs, hm, hg, hf, s, hs => by
    have hxl := hg.len
    obtain ⟨i, hi⟩ : ∃ i, i = xs.length - (m + 1) := ⟨_, rfl⟩
    rw [sols_succ p n m xs hi.symm] at hs
    split at hs
    · rename_i h0
      exact sols_full p m xs (by omega) hg (fun k hk => by
        by_cases hki : k = i
        · rw [hki]; exact h0
        · exact hf k (by omega)) s hs
    · rename_i h0
      obtain ⟨v, hv, hs⟩ := List.mem_flatMap.1 hs
      have hvb := vals_mem hv
      have hil : i < xs.length := by omega
      split at hs
      · obtain ⟨q1, q2, q3⟩ := sols_full p m (xs.set i (v : Int)) (by omega) (hg.set hil hvb.2) (fun k hk => by
          rw [nth_setN _ _ _ _ hil]
          split
          · omega
          · exact hf k (by omega)) s hs
        refine ⟨q1, q2, fun k hk => ?_⟩
        have hki : k ≠ i := fun h => by rw [h] at hk; omega
        have := q3 k (by rw [nth_setN _ _ _ _ hil, if_neg hki]; exact hk)
        rw [nth_setN _ _ _ _ hil, if_neg hki] at this
        exact this
      · simp at hs
def LeB (o o' : List Nat) : Prop := o.length = o'.length ∧ ∀ k b : Nat, (o.getD k 0).testBit b = true → (o'.getD k 0).testBit b = true
theorem LeB.refl (o : List Nat) : LeB o o := ⟨rfl, fun _ _ h => h⟩
theorem LeB.trans {a b c : List Nat} (h1 : LeB a b) (h2 : LeB b c) : LeB a c := ⟨h1.1.trans h2.1, fun k x h => h2.2 k x (h1.2 k x h)⟩
theorem orV_getD {o : List Nat} {vs : List Int} (h : vs.length = o.length) (k : Nat) : (orV o vs).getD k 0 = if k < o.length then (o.getD k 0 ||| 2 ^ (nth vs k).toNat) else 0 := by
  by_cases hk : k < o.length
  · rw [if_pos hk]
    have h1 : k < (orV o vs).length := by rw [orV_length]; omega
    rw [List.getD_eq_getElem?_getD, List.getElem?_eq_getElem h1, List.getD_eq_getElem?_getD, List.getElem?_eq_getElem hk, nth_eq (by omega)]
    simp [orV]
  · rw [if_neg hk, List.getD_eq_getElem?_getD, List.getElem?_eq_none (by rw [orV_length]; omega)]
    rfl
theorem orV_le {o : List Nat} {vs : List Int} (h : vs.length = o.length) : LeB o (orV o vs) := ⟨by rw [orV_length]; omega, fun k b hb => by
  rw [orV_getD h]
  split
  · rw [Nat.testBit_or, hb, Bool.true_or]
  · rename_i hk
    rw [List.getD_eq_getElem?_getD, List.getElem?_eq_none (by omega)] at hb
    simp at hb⟩
theorem orV_mono {o o' : List Nat} {vs : List Int} (h : vs.length = o.length) (hl : LeB o o') : LeB (orV o vs) (orV o' vs) := ⟨by rw [orV_length, orV_length, hl.1], fun k b hb => by
  rw [orV_getD h] at hb
  rw [orV_getD (h.trans hl.1), ← hl.1]
  split at hb
  · rename_i hk
    rw [if_pos hk]
    rw [Nat.testBit_or, Bool.or_eq_true] at hb ⊢
    exact hb.imp (hl.2 k b) id
  · simp at hb⟩
theorem ways_le (r : Rul) : ∀ (ms : List Nat) (pre : List Int) (o : List Nat), pre.length + ms.length = o.length → LeB o (ways r ms pre o)
  | [], pre, o, h => by
    unfold ways
    split
    · exact orV_le (by simpa using h)
    · exact .refl _
  | m :: ms, pre, o, h => by
    rw [ways_cons]
    have : ∀ (l : List Int) (o : List Nat), pre.length + 1 + ms.length = o.length → LeB o (l.foldl (fun o v => ways r ms (pre ++ [v]) o) o) := by
      intro l
      induction l with
      | nil => exact fun o _ => .refl _
      | cons v l ih =>
        intro o h
        rw [List.foldl_cons]
        have h1 := ways_le r ms (pre ++ [v]) o (by simp; omega)
        exact h1.trans (ih _ (by rw [← h1.1]; exact h))
    exact this _ _ (by simp at h; omega)
theorem ways_mono (r : Rul) : ∀ (ms ms' : List Nat) (pre : List Int) (o o' : List Nat), pre.length + ms.length = o.length → ms.length = ms'.length → (∀ k v : Nat, 1 ≤ v → v ≤ 4 → (ms.getD k 0).testBit v = true → (ms'.getD k 0).testBit v = true) → LeB o o' → LeB (ways r ms pre o) (ways r ms' pre o')
  | [], [], pre, o, o', h, _, _, ho => by
    unfold ways
    split
    · exact orV_mono (by simpa using h) ho
    · exact ho
  | [], _ :: _, _, _, _, _, h, _, _ => by simp at h
  | _ :: _, [], _, _, _, _, h, _, _ => by simp at h
  | m :: ms, m' :: ms', pre, o, o', h, hl, hb, ho => by
    have hstep : ∀ (v : Nat), 1 ≤ v → v ≤ 4 → ∀ (o o' : List Nat), pre.length + 1 + ms.length = o.length → LeB o o' →
        LeB (if m.testBit v = true then ways r ms (pre ++ [(v : Int)]) o else o) (if m'.testBit v = true then ways r ms' (pre ++ [(v : Int)]) o' else o') ∧ pre.length + 1 + ms.length = (if m.testBit v = true then ways r ms (pre ++ [(v : Int)]) o else o).length := by
      intro v hv1 hv4 o o' hlen ho
      have hlen' : (pre ++ [(v : Int)]).length + ms.length = o.length := by simp; omega
      by_cases hm : m.testBit v = true
      · have hm' : m'.testBit v = true := by simpa using hb 0 v hv1 hv4 (by simpa using hm)
        rw [if_pos hm, if_pos hm']
        exact ⟨ways_mono r ms ms' _ o o' hlen' (by simpa using hl) (fun k v h1 h2 h3 => by simpa using hb (k + 1) v h1 h2 (by simpa using h3)) ho, by rw [ways_len r ms _ _ hlen']; exact hlen⟩
      · rw [if_neg hm]
        refine ⟨?_, hlen⟩
        split
        · exact ho.trans (ways_le r ms' _ o' (by rw [← ho.1]; simp at hl ⊢; omega))
        · exact ho
    have e : ∀ (M : Nat) (MS : List Nat) (O : List Nat), ways r (M :: MS) pre O = [1, 2, 3, 4].foldl (fun o (v : Nat) => if M.testBit v = true then ways r MS (pre ++ [(v : Int)]) o else o) O := fun _ _ _ => rfl
    rw [e, e]
    simp only [List.foldl_cons, List.foldl_nil]
    have h0 : pre.length + 1 + ms.length = o.length := by simp at h; omega
    obtain ⟨a1, b1⟩ := hstep 1 (by omega) (by omega) o o' h0 ho
    obtain ⟨a2, b2⟩ := hstep 2 (by omega) (by omega) _ _ b1 a1
    obtain ⟨a3, b3⟩ := hstep 3 (by omega) (by omega) _ _ b2 a2
    exact (hstep 4 (by omega) (by omega) _ _ b3 a3).1
theorem maskAt_mono {xs ys : List Int} {n : Nat} (hn : n = 2 ∨ n = 3 ∨ n = 4) {c : Int} (h : 0 < nth xs c → nth ys c = nth xs c) (hy : 0 ≤ nth ys c ∧ nth ys c ≤ n) {v : Nat} (hv : 1 ≤ v ∧ v ≤ 4) (hb : (maskAt ys n c).testBit v = true) : (maskAt xs n c).testBit v = true := by
  unfold maskAt at hb ⊢
  by_cases hx : 0 < nth xs c
  · rw [if_pos hx]
    rw [h hx, if_pos hx] at hb
    exact hb
  · rw [if_neg hx]
    by_cases hy0 : 0 < nth ys c
    · rw [if_pos hy0, Nat.testBit_two_pow] at hb
      have hv' : v ≤ n := by simp at hb; omega
      clear hb
      have : v = 1 ∨ v = 2 ∨ v = 3 ∨ v = 4 := by omega
      rcases hn with rfl | rfl | rfl <;> rcases this with rfl | rfl | rfl | rfl <;> first | omega | decide
    · rw [if_neg hy0] at hb
      exact hb
theorem canHold_mono {xs ys : List Int} {n : Nat} (hn : n = 2 ∨ n = 3 ∨ n = 4) {r : Rul} (h : ∀ c ∈ r.cells, 0 < nth xs c → nth ys c = nth xs c) (hy : ∀ c ∈ r.cells, 0 ≤ nth ys c ∧ nth ys c ≤ n) (hc : canHold r ys n = true) : canHold r xs n = true := by
  unfold canHold at hc ⊢
  have hle := ways_mono r (r.cells.map (maskAt ys n)) (r.cells.map (maskAt xs n)) [] (List.replicate r.cells.length 0) (List.replicate r.cells.length 0) (by simp) (by simp) (fun k v h1 h2 h3 => by
    by_cases hk : k < r.cells.length
    · have e : ∀ zs : List Int, (r.cells.map (maskAt zs n)).getD k 0 = maskAt zs n r.cells[k] := fun zs => by
        rw [List.getD_eq_getElem?_getD, List.getElem?_map, List.getElem?_eq_getElem hk]; rfl
      rw [e] at h3 ⊢
      have hm : r.cells[k] ∈ r.cells := List.getElem_mem _
      exact maskAt_mono hn (h _ hm) (hy _ hm) ⟨h1, h2⟩ h3
    · rw [List.getD_eq_getElem?_getD, List.getElem?_eq_none (by simp; omega)] at h3
      simp at h3) (.refl _)
  generalize ways r (r.cells.map (maskAt ys n)) [] (List.replicate r.cells.length 0) = A at hc hle
  generalize ways r (r.cells.map (maskAt xs n)) [] (List.replicate r.cells.length 0) = B at hle ⊢
  have hA : A.getD 0 0 ≠ 0 := by simpa using hc
  obtain ⟨b, hb⟩ := Nat.exists_testBit_of_ne_zero hA
  have := hle.2 0 b hb
  have hB : B.getD 0 0 ≠ 0 := fun h => by rw [h] at this; simp at this
  simpa using hB
theorem cells_grd {r : Rul} {n : Nat} {ys : List Int} (hr : ruleValid r n = true) (hg : GrdN ys n) : ∀ c ∈ r.cells, 0 ≤ nth ys c ∧ nth ys c ≤ n := fun c hc => by
  have h3 := (ruleValid_facts hr).2.2.1 c hc
  have hl := hg.len
  obtain ⟨k, rfl⟩ : ∃ k : Nat, c = k := ⟨c.toNat, by omega⟩
  exact hg.val k (by omega)
theorem fits_mono {p : Puz} {n : Nat} (hp : PuzN p n) {xs ys : List Int} (hx : GrdN xs n) (hy : GrdN ys n) (h : ∀ k : Nat, 0 < nth xs k → nth ys k = nth xs k) (hf : fitsL p ys n = true) : fitsL p xs n = true := by
  have hn := hp.hn
  simp only [fitsL, Bool.and_eq_true, clear, decide_eq_true_eq, Bool.not_eq_true', List.all_eq_true] at hf ⊢
  obtain ⟨h1, h2, h3⟩ := hf
  have hc : ∀ c : Int, 0 < nth xs c → nth ys c = nth xs c := fun c hc => by
    rw [nth_toNat] at hc
    rw [nth_toNat ys, nth_toNat xs]
    exact h _ hc
  refine ⟨fun k hk => ?_, fun r hr => canHold_mono hn (fun c _ => hc c) (cells_grd (hp.rv r hr) hy) (h2 r hr), ?_⟩
  · rintro ⟨a, b, d⟩
    have := h k b
    exact h1 k (by rw [hy.len, ← hx.len]; exact hk) ⟨a, by omega, by omega⟩
  · rw [clash_nc hn hy.nn'] at h3
    rw [clash_nc hn hx.nn']
    intro a b hab hb hl h0 he
    have e1 := h a h0
    have e2 := h b (by omega)
    exact h3 a b hab hb hl (by omega) (by omega)
def Has (p : Puz) (xs : List Int) : Prop := ∀ k : Nat, 0 < nth p.given k → nth xs k = nth p.given k
theorem Has.clear {p : Puz} {xs : List Int} (h : Has p xs) : Lg.clear p xs = true := by
  simp only [Lg.clear, decide_eq_true_eq]
  exact fun k hk ⟨a, b, c⟩ => c (h k a)
theorem Has.set {p : Puz} {xs : List Int} (h : Has p xs) {i : Nat} {v : Int} (hi : i < xs.length) (h0 : ¬ 0 < nth xs i) : Has p (xs.set i v) := fun k hk => by
  rw [nth_setN _ _ _ _ hi]
  have := h k hk
  split
  · rename_i hki
    subst hki
    omega
  · exact this
theorem nth_over {xs : List Int} {k : Nat} (h : xs.length ≤ k) : nth xs (k : Int) = 0 := by
  unfold nth
  rw [Int.toNat_natCast, List.getD_eq_getElem?_getD, List.getElem?_eq_none h]
  rfl
end Go.Lg

set_option linter.unusedSimpArgs false
set_option linter.unusedVariables false
set_option maxRecDepth 100000
namespace Go.Lg
open Go.Proofs
theorem sub_len' {α : Type} (l : List α) (a b : Int) : (sub l a b).length ≤ l.length := by simp [sub]; omega
theorem valuesHold_run (r : Rul) (vs : List Int) (hl : vs.length ≤ 4) (hv : ∀ v ∈ vs, 0 ≤ v ∧ v ≤ 4) (hk : r.kind = 1 ∨ r.kind = 2 ∨ r.kind = 3 ∨ (r.kind = 4 ∨ r.kind = 5) ∧ 2 ≤ vs.length) : Reads Try.prog 105 [aR r, ints vs] (bool (holdsV r vs)) := by
  have hnv : ∀ k : Nat, k < vs.length → 0 ≤ nth vs k ∧ nth vs k ≤ 4 := fun k hk => hv _ (by rw [nth_eq (by omega)]; exact List.getElem_mem _)
  have hpt := prodV_take hl hv
  have hst := sum_take hl hv
  refine RunCall.cw (c := _) Try.func105 rfl (n := 76) Try.ntmps105 (rs := [.tmp 4]) rfl ?_
  simp only [List.length_cons, List.length_nil, Nat.reduceAdd, Nat.reduceSub, List.replicate, List.cons_append, List.nil_append]
  simp (maxSteps := 1000000) (disch := omega) only [go_sem, Nat.reduceAdd, Nat.reduceMul, Nat.reduceSub, Nat.reduceEqDiff, Nat.reduceLeDiff]
  intro g
  refine loop_rule (fun k : Nat => vs.length - k) (fun k => k ≤ vs.length ∧ (r.kind = 1 → (vs.take k).Nodup)) (fun k => [.a, .k, .k, .a, .a, .p (int (vs.take k).sum), .p (int (prodV (vs.take k))), .a, .a, .k, .k, .p (int k), .a, .a, .a, .a, .a, .a, .a, .a, .a, .a, .a, .a, .a, .a, .a, .a, .a, .a, .a, .a, .a, .a, .a, .a, .a, .a, .a, .a, .a, .a, .a, .a, .a, .a, .a, .a, .a, .a, .a, .a, .a, .a, .a, .a, .a, .a, .a, .a, .a, .a, .a, .a, .a, .a, .a, .a, .a, .a, .a, .a, .a, .a, .a, .a]) (fun _ => [some ⟨g, 1, cR r⟩]) 0 ⟨Nat.zero_le _, fun _ => by simp⟩ (by simp (maxSteps := 1000000) (disch := omega) only [go_sem, Nat.reduceAdd, Nat.reduceMul, Nat.reduceSub, Nat.reduceEqDiff, Nat.reduceLeDiff]; simp [prodV]) (HLe.refl _) ?_
  rintro k ⟨hk', hnd⟩
  simp (maxSteps := 1000000) (disch := omega) only [go_sem, Nat.reduceAdd, Nat.reduceMul, Nat.reduceSub, Nat.reduceEqDiff, Nat.reduceLeDiff]
  (first | with_reducible refine condK_dec (fun h1 => ?_) (fun h1 => ?_) | with_reducible refine condK_ndec (fun h1 => ?_) (fun h1 => ?_) | with_reducible refine condK_nb (fun h1 => ?_) (fun h1 => ?_) | refine condK_b (fun h1 => ?_) (fun h1 => ?_))
  · have h1 : k < vs.length := by omega
    have e1 : (vs.take (k + 1)).sum = (vs.take k).sum + nth vs k := by rw [take_succ_nth h1]; simp
    have e2 : prodV (vs.take (k + 1)) = prodV (vs.take k) * nth vs k := by rw [take_succ_nth h1, prodV_app]
    have b1 := hst (k + 1)
    have b2 := hpt (k + 1)
    rw [e1] at b1
    rw [e2] at b2
    have hin : nth vs k ∈ vs.take k ↔ ∃ i : Nat, i < k ∧ nth vs i = nth vs k := by
      constructor
      · intro h
        obtain ⟨i, hi, he⟩ := List.mem_take_iff_getElem.1 h
        exact ⟨i, by omega, by rw [nth_eq (by omega)]; exact he⟩
      · rintro ⟨i, hi, he⟩
        rw [← he, nth_eq (by omega)]
        exact List.mem_take_iff_getElem.2 ⟨i, by omega, rfl⟩
    simp (maxSteps := 1000000) (disch := omega) only [go_sem, Nat.reduceAdd, Nat.reduceMul, Nat.reduceSub, Nat.reduceEqDiff, Nat.reduceLeDiff]
    (first | with_reducible refine guardK_dec (fun d1 => ?_) (fun d1 => ?_) <;> simp (maxSteps := 1000000) (disch := omega) only [go_sem, Nat.reduceAdd, Nat.reduceMul, Nat.reduceSub, Nat.reduceEqDiff, Nat.reduceLeDiff, d1] | with_reducible refine guardK_ndec (fun d1 => ?_) (fun d1 => ?_) <;> simp (maxSteps := 1000000) (disch := omega) only [go_sem, Nat.reduceAdd, Nat.reduceMul, Nat.reduceSub, Nat.reduceEqDiff, Nat.reduceLeDiff, d1] | with_reducible refine guardK_nb (fun d1 => ?_) (fun d1 => ?_) <;> simp (maxSteps := 1000000) (disch := omega) only [go_sem, Nat.reduceAdd, Nat.reduceMul, Nat.reduceSub, Nat.reduceEqDiff, Nat.reduceLeDiff, d1] | with_reducible refine guardK_split (fun d1 => ?_) (fun d1 => ?_) <;> simp (maxSteps := 1000000) (disch := omega) only [go_sem, Nat.reduceAdd, Nat.reduceMul, Nat.reduceSub, Nat.reduceEqDiff, Nat.reduceLeDiff, d1] | with_reducible refine guardQ_dec (fun d1 => ?_) (fun d1 => ?_) <;> simp (maxSteps := 1000000) (disch := omega) only [go_sem, Nat.reduceAdd, Nat.reduceMul, Nat.reduceSub, Nat.reduceEqDiff, Nat.reduceLeDiff, d1] | with_reducible refine guardL_dec (fun d1 => ?_) (fun d1 => ?_) <;> simp (maxSteps := 1000000) (disch := omega) only [go_sem, Nat.reduceAdd, Nat.reduceMul, Nat.reduceSub, Nat.reduceEqDiff, Nat.reduceLeDiff, d1] | with_reducible refine guardQ_ndec (fun d1 => ?_) (fun d1 => ?_) <;> simp (maxSteps := 1000000) (disch := omega) only [go_sem, Nat.reduceAdd, Nat.reduceMul, Nat.reduceSub, Nat.reduceEqDiff, Nat.reduceLeDiff, d1] | with_reducible refine guardL_ndec (fun d1 => ?_) (fun d1 => ?_) <;> simp (maxSteps := 1000000) (disch := omega) only [go_sem, Nat.reduceAdd, Nat.reduceMul, Nat.reduceSub, Nat.reduceEqDiff, Nat.reduceLeDiff, d1] | with_reducible refine guardQ_nb (fun d1 => ?_) (fun d1 => ?_) <;> simp (maxSteps := 1000000) (disch := omega) only [go_sem, Nat.reduceAdd, Nat.reduceMul, Nat.reduceSub, Nat.reduceEqDiff, Nat.reduceLeDiff, d1] | with_reducible refine guardL_nb (fun d1 => ?_) (fun d1 => ?_) <;> simp (maxSteps := 1000000) (disch := omega) only [go_sem, Nat.reduceAdd, Nat.reduceMul, Nat.reduceSub, Nat.reduceEqDiff, Nat.reduceLeDiff, d1] | with_reducible refine guardQ_split (fun d1 => ?_) (fun d1 => ?_) <;> simp (maxSteps := 1000000) (disch := omega) only [go_sem, Nat.reduceAdd, Nat.reduceMul, Nat.reduceSub, Nat.reduceEqDiff, Nat.reduceLeDiff, d1] | with_reducible refine guardL_split (fun d1 => ?_) (fun d1 => ?_) <;> simp (maxSteps := 1000000) (disch := omega) only [go_sem, Nat.reduceAdd, Nat.reduceMul, Nat.reduceSub, Nat.reduceEqDiff, Nat.reduceLeDiff, d1])
    · have hsub : sub vs 0 (k : Int) = vs.take k := by simp [sub]
      have hco := Contains_run (sub vs 0 (k : Int)) (nth vs k) (by have := sub_len' vs 0 (k : Int); omega)
      rw [hsub] at hco
      first | refine OpS.rd (hco) (⟨_, Try.func104, rfl, rfl⟩ : Enters Try.prog 104) rfl rfl rfl rfl ?_ | refine Loud.rd (hco) (⟨_, Try.func104, rfl, rfl⟩ : Enters Try.prog 104) rfl rfl rfl rfl ?_
      simp (maxSteps := 1000000) (disch := omega) only [go_sem, Nat.reduceAdd, Nat.reduceMul, Nat.reduceSub, Nat.reduceEqDiff, Nat.reduceLeDiff]
      (first | with_reducible refine condK_dec (fun d2 => ?_) (fun d2 => ?_) | with_reducible refine condK_ndec (fun d2 => ?_) (fun d2 => ?_) | with_reducible refine condK_nb (fun d2 => ?_) (fun d2 => ?_) | refine condK_b (fun d2 => ?_) (fun d2 => ?_))
      · simp (maxSteps := 1000000) (disch := omega) only [go_sem, Nat.reduceAdd, Nat.reduceMul, Nat.reduceSub, Nat.reduceEqDiff, Nat.reduceLeDiff]
        have : ¬ vs.Nodup := fun hn => by
          have := (nodup_take h1).1 (hn.sublist (List.take_sublist _ _))
          obtain ⟨i, hi, he⟩ := hin.1 d2
          exact this.2 i hi he
        unfold holdsV
        rw [if_pos d1, decide_eq_false this]
      · simp (maxSteps := 1000000) (disch := omega) only [go_sem, Nat.reduceAdd, Nat.reduceMul, Nat.reduceSub, Nat.reduceEqDiff, Nat.reduceLeDiff]
        refine ⟨k + 1, ⟨⟨by omega, fun h => ?_⟩, by omega⟩, ⟨e1.symm, e2.symm, by push_cast; omega⟩, HLe.refl _⟩
        rw [nodup_take h1]
        exact ⟨hnd d1, fun i hi he => d2 (hin.2 ⟨i, hi, he⟩)⟩
    · refine ⟨k + 1, ⟨⟨by omega, fun h => by first | exact absurd h d1 | exact h.elim⟩, by omega⟩, ⟨e1.symm, e2.symm, by push_cast; omega⟩, HLe.refl _⟩
  · have hkl : vs.take k = vs := List.take_of_length_le (by omega)
    simp (maxSteps := 1000000) (disch := omega) only [go_sem, Nat.reduceAdd, Nat.reduceMul, Nat.reduceSub, Nat.reduceEqDiff, Nat.reduceLeDiff]
    rw [hkl] at hnd
    rw [hkl]
    (first | with_reducible refine condK_dec (fun d2 => ?_) (fun d2 => ?_) | with_reducible refine condK_ndec (fun d2 => ?_) (fun d2 => ?_) | with_reducible refine condK_nb (fun d2 => ?_) (fun d2 => ?_) | refine condK_b (fun d2 => ?_) (fun d2 => ?_))
    · simp (maxSteps := 1000000) (disch := omega) only [go_sem, Nat.reduceAdd, Nat.reduceMul, Nat.reduceSub, Nat.reduceEqDiff, Nat.reduceLeDiff]
      unfold holdsV
      rw [if_neg (by omega), if_pos d2]
    simp (maxSteps := 1000000) (disch := omega) only [go_sem, Nat.reduceAdd, Nat.reduceMul, Nat.reduceSub, Nat.reduceEqDiff, Nat.reduceLeDiff]
    (first | with_reducible refine condK_dec (fun d3 => ?_) (fun d3 => ?_) | with_reducible refine condK_ndec (fun d3 => ?_) (fun d3 => ?_) | with_reducible refine condK_nb (fun d3 => ?_) (fun d3 => ?_) | refine condK_b (fun d3 => ?_) (fun d3 => ?_))
    · simp (maxSteps := 1000000) (disch := omega) only [go_sem, Nat.reduceAdd, Nat.reduceMul, Nat.reduceSub, Nat.reduceEqDiff, Nat.reduceLeDiff]
      unfold holdsV
      rw [if_neg (by omega), if_neg d2, if_pos d3]
    simp (maxSteps := 1000000) (disch := omega) only [go_sem, Nat.reduceAdd, Nat.reduceMul, Nat.reduceSub, Nat.reduceEqDiff, Nat.reduceLeDiff]
    (first | with_reducible refine condK_dec (fun d4 => ?_) (fun d4 => ?_) | with_reducible refine condK_ndec (fun d4 => ?_) (fun d4 => ?_) | with_reducible refine condK_nb (fun d4 => ?_) (fun d4 => ?_) | refine condK_b (fun d4 => ?_) (fun d4 => ?_))
    · have hl2 : 2 ≤ vs.length := by omega
      have v0 : 0 ≤ nth vs (0 : Int) ∧ nth vs (0 : Int) ≤ 4 := hnv 0 (by omega)
      have v1 : 0 ≤ nth vs (1 : Int) ∧ nth vs (1 : Int) ≤ 4 := hnv 1 (by omega)
      simp (maxSteps := 1000000) (disch := omega) only [go_sem, Nat.reduceAdd, Nat.reduceMul, Nat.reduceSub, Nat.reduceEqDiff, Nat.reduceLeDiff]
      refine drawP_q foll (by kernel_rfl) ?_
      simp (maxSteps := 1000000) (disch := omega) only [go_sem, Nat.reduceBEq, Bool.true_or, Nat.reduceAdd, Nat.reduceMul, Nat.reduceSub, Nat.reduceEqDiff, Nat.reduceLeDiff]
      unfold holdsV
      rw [if_neg (by omega), if_neg d2, if_neg d3, if_pos d4]
    simp (maxSteps := 1000000) (disch := omega) only [go_sem, Nat.reduceAdd, Nat.reduceMul, Nat.reduceSub, Nat.reduceEqDiff, Nat.reduceLeDiff]
    (first | with_reducible refine condK_dec (fun d5 => ?_) (fun d5 => ?_) | with_reducible refine condK_ndec (fun d5 => ?_) (fun d5 => ?_) | with_reducible refine condK_nb (fun d5 => ?_) (fun d5 => ?_) | refine condK_b (fun d5 => ?_) (fun d5 => ?_))
    · have hl2 : 2 ≤ vs.length := by omega
      have v0 : 0 ≤ nth vs (0 : Int) ∧ nth vs (0 : Int) ≤ 4 := hnv 0 (by omega)
      have v1 : 0 ≤ nth vs (1 : Int) ∧ nth vs (1 : Int) ≤ 4 := hnv 1 (by omega)
      simp (maxSteps := 1000000) (disch := omega) only [go_sem, Nat.reduceAdd, Nat.reduceMul, Nat.reduceSub, Nat.reduceEqDiff, Nat.reduceLeDiff]
      refine drawP_q foll (by kernel_rfl) ?_
      simp (maxSteps := 1000000) (disch := omega) only [go_sem, Nat.reduceBEq, Bool.true_or, Nat.reduceAdd, Nat.reduceMul, Nat.reduceSub, Nat.reduceEqDiff, Nat.reduceLeDiff]
      unfold holdsV
      rw [if_neg (by omega), if_neg d2, if_neg d3, if_neg d4]
    · have d1 : r.kind = 1 := by omega
      simp (maxSteps := 1000000) (disch := omega) only [go_sem, Nat.reduceAdd, Nat.reduceMul, Nat.reduceSub, Nat.reduceEqDiff, Nat.reduceLeDiff]
      unfold holdsV
      rw [if_pos d1, decide_eq_true (hnd d1)]
end Go.Lg
