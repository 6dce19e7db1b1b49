/- GpEH, GpFD, GpK, GpM, cut to what is needed. -/
import Derived.Test.YtcopagjhklcokaaQad6
import Derived.Test.YtcopagjhklcokaaQac5
import Derived.Test.YtcopagjhklcokaaQad2
import Derived.Test.YtcopagjhklcokaaQac3
import Derived.Test.YtcopagjhklcokaaQab5
import Derived.Test.YtcopagjhklcokaaQab3
set_option linter.unusedSimpArgs false
set_option linter.unusedVariables false
set_option maxRecDepth 100000
namespace Go.Lg
open Go.Proofs
attribute [-go_sem] appendM lwF_cons
theorem solutions_run {p : Puz} {n : Nat} (hp : PuzN p n) (hv : puzzleValid p = true) (most : Nat) (hmo : 1 ≤ most ∧ most ≤ 600) (H : Heap) (xs : List Int) (hg : GrdN xs n) (hext : Ext p xs) (pid pg mid mg : Nat) (S : List Nat) (hml : look H mid mg = some ⟨mg, 1, [.f (.int .i64 most)]⟩) (hmp : mid ≠ pid) (hmS : mid ∉ S) (hout : OutL H pid pg [] S) (hSl : ∀ k ∈ S, k < H.length) :
    RunCall Try.prog 109 [aP p, ints xs, .c (.fn 110 [(pid, pg), (mid, mg)])] H (fun v H' => v = .tup [] ∧ ∃ S', OutL H' pid pg (if fitsL p xs n = true then (sols p n (n * n) xs).take most else []) S') := by
  have hn := hp.hn
  have hz := hp.size
  have hxl := hg.len
  have hsq : 4 ≤ n * n ∧ n * n ≤ 16 := by rcases hn with rfl | rfl | rfl <;> omega
  have hplt : pid < H.length := by
    obtain ⟨⟨oid, og, cs, o1, _⟩, _⟩ := hout
    exact (List.getElem?_eq_some_iff.1 (look_some o1).1).1
  refine RunCall.cw (c := _) Try.func109 rfl (n := 20) Try.ntmps109 (rs := []) rfl ?_
  simp only [List.length_cons, List.length_nil, Nat.reduceAdd, Nat.reduceSub, List.replicate, List.cons_append, List.nil_append]
  simp (maxSteps := 1000000) (disch := omega) only [go_sem, Nat.reduceAdd, Nat.reduceMul, Nat.reduceSub, Nat.reduceEqDiff, Nat.reduceLeDiff]
  intro g0 g1
  refine OpS.mkDQ (Clone_q xs (by omega) (fun h => by rw [h] at hxl; simp at hxl; omega)) (⟨_, Try.func106, rfl, rfl⟩ : Enters Try.prog 106) rfl rfl rfl ?_
  intro g2
  obtain ⟨HA, hHA⟩ : ∃ HA : Heap, HA = H ++ [some ⟨g0, 1, cP p⟩] ++ [some ⟨g1, 1, [CV.fn 110 [(pid, pg), (mid, mg)]]⟩] ++ [some ⟨g2, 1, cl (eI .i64) xs⟩] := ⟨_, rfl⟩
  have hAl : HA.length = H.length + 3 := by rw [hHA]; simp
  have hAg : ∀ k, k < H.length → HA[k]? = H[k]? := fun k hk => by rw [hHA, List.append_assoc, List.append_assoc, List.getElem?_append_left hk]
  have a0 : look HA H.length g0 = some ⟨g0, 1, cP p⟩ := by rw [hHA]; exact look_appL (look_appL look_last)
  have a1 : look HA (H.length + 1) g1 = some ⟨g1, 1, [CV.fn 110 [(pid, pg), (mid, mg)]]⟩ := by
    rw [hHA]
    refine look_appL ?_
    have := look_last (H := H ++ [some ⟨g0, 1, cP p⟩]) (g := g1) (sz := 1) (cs := [CV.fn 110 [(pid, pg), (mid, mg)]])
    rwa [List.length_append, List.length_singleton] at this
  have a2 : look HA (H.length + 1 + 1) g2 = some ⟨g2, 1, cl (eI .i64) xs⟩ := by
    rw [hHA]
    have := look_last (H := H ++ [some ⟨g0, 1, cP p⟩] ++ [some ⟨g1, 1, [CV.fn 110 [(pid, pg), (mid, mg)]]⟩]) (g := g2) (sz := 1) (cs := cl (eI .i64) xs)
    rwa [List.length_append, List.length_append, List.length_singleton, List.length_singleton] at this
  show vwK _ _ _ _ _ _ (.c (.own (H ++ [some ⟨g0, 1, cP p⟩] ++ [some ⟨g1, 1, [CV.fn 110 [(pid, pg), (mid, mg)]]⟩] : Heap).length g2 0 xs.length none)) (H ++ [some ⟨g0, 1, cP p⟩] ++ [some ⟨g1, 1, [CV.fn 110 [(pid, pg), (mid, mg)]]⟩] ++ [some ⟨g2, 1, cl (eI .i64) xs⟩] : Heap)
  rw [← hHA]
  clear hHA
  simp (maxSteps := 1000000) (disch := omega) only [go_sem, Nat.reduceAdd, Nat.reduceMul, Nat.reduceSub, Nat.reduceEqDiff, Nat.reduceLeDiff, look_last, set_last]
  intro g3
  obtain ⟨HB, hHB⟩ : ∃ HB : Heap, HB = HA ++ [some ⟨g3, 1, [CV.own (H.length + 1 + 1) g2 0 xs.length none]⟩] := ⟨_, rfl⟩
  have hBl : HB.length = HA.length + 1 := by rw [hHB]; simp
  have b0 : look HB H.length g0 = some ⟨g0, 1, cP p⟩ := by rw [hHB]; exact look_appL a0
  have b1 : look HB (H.length + 1) g1 = some ⟨g1, 1, [CV.fn 110 [(pid, pg), (mid, mg)]]⟩ := by rw [hHB]; exact look_appL a1
  have b2 : look HB (H.length + 1 + 1) g2 = some ⟨g2, 1, cl (eI .i64) xs⟩ := by rw [hHB]; exact look_appL a2
  have b3 : look HB HA.length g3 = some ⟨g3, 1, [CV.own (H.length + 1 + 1) g2 0 xs.length none]⟩ := by rw [hHB]; exact look_last
  have hBg : ∀ k, k < H.length → HB[k]? = H[k]? := fun k hk => by rw [hHB, List.getElem?_append_left (by omega)]; exact hAg k hk
  rw [← hHB]
  clear hHB
  have hown : OwnI HB (.own (H.length + 1 + 1) g2 0 xs.length none) xs [H.length + 1 + 1] := OwnI.o (H := HB) (H.length + 1 + 1) g2 none xs [] (by rw [List.append_nil]; exact b2)
  simp (maxSteps := 1000000) (disch := omega) only [go_sem, Nat.reduceAdd, Nat.reduceMul, Nat.reduceSub, Nat.reduceEqDiff, Nat.reduceLeDiff, b0, b3]
  refine OpS.rdD (PuzzleFits_run hp hv xs hg) (⟨_, Try.func82, rfl, rfl⟩ : Enters Try.prog 82) rfl rfl (snap_two rfl hown.snap) rfl ?_
  simp (maxSteps := 1000000) (disch := omega) only [go_sem, Nat.reduceAdd, Nat.reduceMul, Nat.reduceSub, Nat.reduceEqDiff, Nat.reduceLeDiff]
  (first | with_reducible refine condK_dec (fun c1 => ?_) (fun c1 => ?_) | with_reducible refine condK_ndec (fun c1 => ?_) (fun c1 => ?_) | with_reducible refine condK_nb (fun c1 => ?_) (fun c1 => ?_) | refine condK_b (fun c1 => ?_) (fun c1 => ?_))
  rotate_left
  · simp (maxSteps := 1000000) (disch := omega) only [go_sem, Nat.reduceAdd, Nat.reduceMul, Nat.reduceSub, Nat.reduceEqDiff, Nat.reduceLeDiff]
    exact ⟨HB, HLe.refl _, rfl, S, by rw [if_neg (by rw [c1]; simp)]; exact hout.same fun k hk => hBg k (by rcases hk with rfl | hk; exact hplt; exact hSl k hk)⟩
  simp (maxSteps := 1000000) (disch := omega) only [go_sem, Nat.reduceAdd, Nat.reduceMul, Nat.reduceSub, Nat.reduceEqDiff, Nat.reduceLeDiff, b0, look_last, set_last]
  rw [hz]
  intro g4
  obtain ⟨HC, hHC⟩ : ∃ HC : Heap, HC = HB ++ [some ⟨g4, 1, [CV.f (FV.int .i64 n)]⟩] := ⟨_, rfl⟩
  have hCl : HC.length = HB.length + 1 := by rw [hHC]; simp
  have lC : ∀ g sz cs, look (HC ++ [some ⟨g, sz, cs⟩]) (HB.length + 1) g = some ⟨g, sz, cs⟩ := fun g sz cs => by rw [← hCl]; exact look_last
  have sC : ∀ x y, (HC ++ [x]).set (HB.length + 1) y = HC ++ [y] := fun x y => by rw [← hCl]; exact set_last
  have hC0 : ∀ {k g : Nat} {b : Blk}, look HB k g = some b → look HC k g = some b := fun h => by rw [hHC]; exact look_appL h
  have c4 : look HC HB.length g4 = some ⟨g4, 1, [CV.f (FV.int .i64 n)]⟩ := by rw [hHC]; exact look_last
  have hCg : ∀ k, k < H.length → HC[k]? = H[k]? := fun k hk => by rw [hHC, List.getElem?_append_left (by omega)]; exact hBg k hk
  rw [← hHC]
  clear hHC
  intro g5
  simp (maxSteps := 1000000) (disch := omega) only [go_sem, Nat.reduceAdd, Nat.reduceMul, Nat.reduceSub, Nat.reduceEqDiff, Nat.reduceLeDiff, lC, sC, List.mapM_cons, List.mapM_nil, capOf, Option.bind_eq_bind, Option.pure_def, Option.bind_some]
  refine ⟨rfl, ?_⟩
  obtain ⟨HD, hHD⟩ : ∃ HD : Heap, HD = HC ++ [some ⟨g5, 1, [CV.fn 142 [(HA.length, g3), (H.length + 1, g1), (HB.length + 1, g5), (HB.length, g4), (H.length, g0)]]⟩] := ⟨_, rfl⟩
  have d5 : look HD (HB.length + 1) g5 = some ⟨g5, 1, [CV.fn 142 [(HA.length, g3), (H.length + 1, g1), (HB.length + 1, g5), (HB.length, g4), (H.length, g0)]]⟩ := by rw [hHD]; exact lC _ _ _
  have hD0 : ∀ {k g : Nat} {b : Blk}, look HC k g = some b → look HD k g = some b := fun h => by rw [hHD]; exact look_appL h
  have hDg : ∀ k, k < H.length → HD[k]? = H[k]? := fun k hk => by rw [hHD, List.getElem?_append_left (by omega)]; exact hCg k hk
  have hDl : HD.length = HC.length + 1 := by rw [hHD]; simp
  rw [← hHD]
  clear hHD
  have hmlt := (List.getElem?_eq_some_iff.1 (look_some hml).1).1
  have hT : TryH 110 142 p n most ⟨HA.length, g3, H.length + 1, g1, HB.length + 1, g5, HB.length, g4, H.length, g0, mid, mg, pid, pg, H.length + 1 + 1, g2⟩ HD :=
    ⟨by have := hD0 (hC0 b3); rw [hxl] at this; exact this, hD0 (hC0 b1), d5, hD0 c4, hD0 (hC0 b0), by unfold look; rw [hDg mid hmlt]; exact hml⟩
  have hrun := try_run hp most hmo.2 _ (by
      intro k hk
      simp only [Cap.ids, List.mem_cons, List.not_mem_nil, or_false] at hk ⊢
      rcases hk with rfl | rfl | rfl | rfl | rfl | rfl <;> omega) (by show H.length + 1 + 1 ≠ pid; omega) (n * n) HD xs [] S (Nat.le_refl _) hg c1 hext hT (by
      intro k hk hS
      have := hSl k hS
      simp only [Cap.ids, List.mem_cons, List.not_mem_nil, or_false] at hk
      rcases hk with rfl | rfl | rfl | rfl | rfl | rfl
      · omega
      · omega
      · omega
      · omega
      · omega
      · exact hmS hS) (hD0 (hC0 b2)) (fun h => by have := hSl _ h; simp only at this; omega) (by simp; omega) (hout.same fun k hk => hDg k (by rcases hk with rfl | hk; exact hplt; exact hSl k hk)) (fun k hk => by have := hSl k hk; omega)
  rw [Nat.sub_self] at hrun
  refine OpS.runFn hrun (⟨_, Try.func142, rfl, rfl⟩ : Enters Try.prog 142) rfl (target_all (caps := [(HA.length, g3), (H.length + 1, g1), (HB.length + 1, g5), (HB.length, g4), (H.length, g0)]) (by simp [hT.g, hT.t, hT.y, hT.z, hT.b])) rfl ?_
  rintro _ H2 ⟨l, hl, rfl, S2, ys, o2, _⟩
  simp (maxSteps := 1000000) (disch := omega) only [go_sem, Nat.reduceAdd, Nat.reduceMul, Nat.reduceSub, Nat.reduceEqDiff, Nat.reduceLeDiff]
  rw [List.nil_append, List.length_nil, Nat.sub_zero] at hl
  exact ⟨H2, HLe.refl _, rfl, S2, by rw [if_pos c1, ← hl]; exact o2⟩
theorem firstSolutions_run {p : Puz} {n : Nat} (hp : PuzN p n) (hv : puzzleValid p = true) (most : Nat) (hmo : 1 ≤ most ∧ most ≤ 600) (xs : List Int) (hg : GrdN xs n) (hext : Ext p xs) :
    Reads Try.prog 67 [aP p, ints xs, int most] (rsl eL (if fitsL p xs n = true then (sols p n (n * n) xs).take most else [])) := by
  refine Reads.iced ?_
  refine RunCall.cw (c := _) Try.func67 rfl (n := 14) Try.ntmps67 (rs := [.tmp 6]) rfl ?_
  simp only [List.length_cons, List.length_nil, Nat.reduceAdd, Nat.reduceSub, List.replicate, List.cons_append, List.nil_append]
  simp (maxSteps := 1000000) (disch := omega) only [go_sem, Nat.reduceAdd, Nat.reduceMul, Nat.reduceSub, Nat.reduceEqDiff, Nat.reduceLeDiff, List.mapM_cons, List.mapM_nil, capOf, Option.bind_eq_bind, Option.pure_def, Option.bind_some]
  intro g0 g1 g2 g3
  refine ⟨rfl, ?_⟩
  have hr := solutions_run hp hv most hmo [some ⟨g0, 1, cP p⟩, some ⟨g1, 1, [.f (.int .i64 most)]⟩, some ⟨g2, 1, []⟩, some ⟨g3, 1, [CV.own 2 g2 0 0 none]⟩] xs hg hext 3 g3 1 g1 [2] (by simp only [go_sem]) (by omega) (by simp)
    ⟨⟨2, g2, [], by simp only [go_sem], by simp only [go_sem], by simp, rfl, fun i hi => by simp at hi⟩, by simp⟩ (by simp)
  refine OpS.run hr (⟨_, Try.func109, rfl, rfl⟩ : Enters Try.prog 109) rfl rfl ?_
  rintro _ H2 ⟨rfl, S2, o2⟩
  generalize (if fitsL p xs n = true then (sols p n (n * n) xs).take most else []) = R at o2
  obtain ⟨oid, og, k1, k2⟩ := o2.frz
  simp (maxSteps := 1000000) (disch := omega) only [go_sem, Nat.reduceAdd, Nat.reduceMul, Nat.reduceSub, Nat.reduceEqDiff, Nat.reduceLeDiff, k1]
  exact lessQ_ice (by simp only [frzA, frz1, k2, Option.map_some])
end Go.Lg

set_option linter.unusedSimpArgs false
set_option linter.unusedVariables false
set_option maxRecDepth 100000
namespace Go.Lg
open Go.Proofs
theorem ext_given (p : Puz) : Ext p p.given := fun k h => by omega
theorem ext_with {p : Puz} {xs : List Int} : Ext p (withL p.given xs) := fun k h => by
  by_cases hk : k < p.given.length
  · rw [withL_nth hk] at h
    split at h
    · omega
    · omega
  · rw [nth_over (by omega)]; exact Int.le_refl _
theorem allS_first {p : Puz} (hv : puzzleValid p = true) (most : Nat) : (if fitsL p p.given p.size.toNat = true then (sols p p.size.toNat (p.size.toNat * p.size.toNat) p.given).take most else []) = allS p most := by
  unfold allS
  by_cases h : fitsL p p.given p.size.toNat = true
  · rw [if_pos h, if_pos ⟨hv, h⟩]
  · rw [if_neg h, if_neg (fun h' => h h'.2)]
theorem first_all {p : Puz} (hv : puzzleValid p = true) (most : Nat) (hmo : 1 ≤ most ∧ most ≤ 600) : Reads Try.prog 67 [aP p, ints p.given, int most] (rsl eL (allS p most)) := by
  obtain ⟨hp, hz⟩ := PuzN.of hv
  have hg := GrdN.of hp.hn (xs := p.given) (by rw [hz]; exact puzzleValid_grid' hv)
  have := firstSolutions_run hp hv most hmo p.given hg (ext_given p)
  rwa [allS_first hv] at this
theorem clear_short {p : Puz} {xs : List Int} {k : Nat} (hk : xs.length = k) (h : ∀ j : Nat, j < k → ¬ (0 < nth p.given j ∧ 0 < nth xs j ∧ nth xs j ≠ nth p.given j)) : clear p xs = true := by
  simp only [clear, decide_eq_true_eq]
  exact fun j hj => h j (by omega)
def bothT (a b : List Int) (k : Nat) : List Int := (withL a b).take k ++ List.replicate (a.length - k) 0
theorem bothT_0 (a b : List Int) : bothT a b 0 = List.replicate a.length 0 := by simp [bothT]
theorem bothT_len {a b : List Int} {k : Nat} : (bothT a b k).length = a.length ∨ a.length < k := by
  by_cases h : a.length < k
  · exact .inr h
  · left; simp [bothT, withL_len]; omega
theorem bothT_all {a b : List Int} {k : Nat} (h : a.length = k) : bothT a b k = withL a b := by
  unfold bothT
  rw [List.take_of_length_le (by rw [withL_len]; omega), h, Nat.sub_self, List.replicate_zero, List.append_nil]
theorem bothT_set {a b : List Int} {k : Nat} {v : Int} (h : k < a.length) (hv : v = if 0 < nth b k then nth b k else nth a k) : (bothT a b k).set k v = bothT a b (k + 1) := by
  have e : (withL a b).take (k + 1) = (withL a b).take k ++ [v] := by rw [take_succ_nth (by rw [withL_len]; exact h), withL_nth h, hv]
  unfold bothT
  rw [e, List.set_append_right _ _ (by rw [List.length_take, withL_len]; omega), List.length_take, withL_len, Nat.min_eq_left (by omega), Nat.sub_self, show a.length - k = (a.length - (k + 1)) + 1 by omega, List.replicate_succ, List.set_cons_zero, List.append_assoc]
  rfl
theorem bothGrids_run (p : Puz) (xs : List Int) (hl : xs.length = p.given.length) (hl2 : xs.length ≤ 16) (h0 : ∀ k : Nat, k < xs.length → 0 ≤ nth xs k ∧ 0 ≤ nth p.given k) : Reads Try.prog 83 [ints p.given, ints xs] (.tup [ints (if clear p xs = true then withL p.given xs else []), bool (clear p xs)]) := by
  refine Reads.iced ?_
  refine RunCall.cw (c := _) Try.func83 rfl (n := 47) Try.ntmps83 (rs := [.tmp 4, .tmp 5]) rfl ?_
  simp only [List.length_cons, List.length_nil, Nat.reduceAdd, Nat.reduceSub, List.replicate, List.cons_append, List.nil_append]
  simp (maxSteps := 1000000) (disch := omega) only [go_sem, Nat.reduceAdd, Nat.reduceMul, Nat.reduceSub, Nat.reduceEqDiff, Nat.reduceLeDiff]
  intro g
  refine loop_rule (fun k : Nat => xs.length - k) (fun k => k ≤ xs.length ∧ ∀ j : Nat, j < k → ¬ (0 < nth p.given j ∧ 0 < nth xs j ∧ nth xs j ≠ nth p.given j)) (fun k => [.a, .k, .a, .a, .a, .a, .k, .a, .a, .a, .a, .a, .k, .k, .p (int k), .a, .a, .a, .a, .a, .a, .a, .a, .a, .a, .a, .a, .a, .a, .a, .a, .a, .a, .a, .a, .a, .a, .a, .a, .a, .a, .a, .a, .a, .a, .a, .a]) (fun k => [some ⟨g, 1, cl (eI .i64) (bothT p.given xs k)⟩]) 0 ⟨Nat.zero_le _, fun j hj => absurd hj (Nat.not_lt_zero _)⟩ (by simp (maxSteps := 1000000) (disch := omega) only [go_sem, Nat.reduceAdd, Nat.reduceMul, Nat.reduceSub, Nat.reduceEqDiff, Nat.reduceLeDiff]; rfl) (by rw [bothT_0]; exact HLe.refl _) ?_
  rintro k ⟨hk, hno⟩
  have hbl := bothT_len (a := p.given) (b := xs) (k := k)
  simp (maxSteps := 1000000) (disch := omega) only [go_sem, Nat.reduceAdd, Nat.reduceMul, Nat.reduceSub, Nat.reduceEqDiff, Nat.reduceLeDiff]
  (first | with_reducible refine condK_dec (fun c1 => ?_) (fun c1 => ?_) | with_reducible refine condK_ndec (fun c1 => ?_) (fun c1 => ?_) | with_reducible refine condK_nb (fun c1 => ?_) (fun c1 => ?_) | refine condK_b (fun c1 => ?_) (fun c1 => ?_))
  · have c1 : k < xs.length := by omega
    have hx0 := h0 k c1
    have hbl : (bothT p.given xs k).length = p.given.length := by omega
    have hgo : ¬ (0 < nth p.given k ∧ 0 < nth xs k ∧ nth xs k ≠ nth p.given k) → ∀ j : Nat, j < k + 1 → ¬ (0 < nth p.given j ∧ 0 < nth xs j ∧ nth xs j ≠ nth p.given j) := fun h j hj => by
      by_cases hjk : j = k
      · rw [hjk]; exact h
      · exact hno j (by omega)
    have hset : ∀ v : Int, v = max (nth p.given k) (nth xs k) → ¬ (0 < nth p.given k ∧ 0 < nth xs k ∧ nth xs k ≠ nth p.given k) → (bothT p.given xs k).set k v = bothT p.given xs (k + 1) := fun v hv h => bothT_set (by omega) (by
      rw [hv]
      by_cases a : 0 < nth xs k
      · rw [if_pos a]
        by_cases b : 0 < nth p.given k
        · have : nth xs k = nth p.given k := by
            by_cases e : nth xs k = nth p.given k
            · exact e
            · exact absurd ⟨b, a, e⟩ h
          omega
        · omega
      · rw [if_neg a]
        omega)
    simp (maxSteps := 1000000) (disch := omega) only [go_sem, Nat.reduceAdd, Nat.reduceMul, Nat.reduceSub, Nat.reduceEqDiff, Nat.reduceLeDiff]
    rw [Int.toNat_natCast]
    (first | with_reducible refine guardK_dec (fun d1 => ?_) (fun d1 => ?_) <;> simp (maxSteps := 1000000) (disch := omega) only [go_sem, Nat.reduceAdd, Nat.reduceMul, Nat.reduceSub, Nat.reduceEqDiff, Nat.reduceLeDiff, d1] | with_reducible refine guardK_ndec (fun d1 => ?_) (fun d1 => ?_) <;> simp (maxSteps := 1000000) (disch := omega) only [go_sem, Nat.reduceAdd, Nat.reduceMul, Nat.reduceSub, Nat.reduceEqDiff, Nat.reduceLeDiff, d1] | with_reducible refine guardK_nb (fun d1 => ?_) (fun d1 => ?_) <;> simp (maxSteps := 1000000) (disch := omega) only [go_sem, Nat.reduceAdd, Nat.reduceMul, Nat.reduceSub, Nat.reduceEqDiff, Nat.reduceLeDiff, d1] | with_reducible refine guardK_split (fun d1 => ?_) (fun d1 => ?_) <;> simp (maxSteps := 1000000) (disch := omega) only [go_sem, Nat.reduceAdd, Nat.reduceMul, Nat.reduceSub, Nat.reduceEqDiff, Nat.reduceLeDiff, d1] | with_reducible refine guardQ_dec (fun d1 => ?_) (fun d1 => ?_) <;> simp (maxSteps := 1000000) (disch := omega) only [go_sem, Nat.reduceAdd, Nat.reduceMul, Nat.reduceSub, Nat.reduceEqDiff, Nat.reduceLeDiff, d1] | with_reducible refine guardL_dec (fun d1 => ?_) (fun d1 => ?_) <;> simp (maxSteps := 1000000) (disch := omega) only [go_sem, Nat.reduceAdd, Nat.reduceMul, Nat.reduceSub, Nat.reduceEqDiff, Nat.reduceLeDiff, d1] | with_reducible refine guardQ_ndec (fun d1 => ?_) (fun d1 => ?_) <;> simp (maxSteps := 1000000) (disch := omega) only [go_sem, Nat.reduceAdd, Nat.reduceMul, Nat.reduceSub, Nat.reduceEqDiff, Nat.reduceLeDiff, d1] | with_reducible refine guardL_ndec (fun d1 => ?_) (fun d1 => ?_) <;> simp (maxSteps := 1000000) (disch := omega) only [go_sem, Nat.reduceAdd, Nat.reduceMul, Nat.reduceSub, Nat.reduceEqDiff, Nat.reduceLeDiff, d1] | with_reducible refine guardQ_nb (fun d1 => ?_) (fun d1 => ?_) <;> simp (maxSteps := 1000000) (disch := omega) only [go_sem, Nat.reduceAdd, Nat.reduceMul, Nat.reduceSub, Nat.reduceEqDiff, Nat.reduceLeDiff, d1] | with_reducible refine guardL_nb (fun d1 => ?_) (fun d1 => ?_) <;> simp (maxSteps := 1000000) (disch := omega) only [go_sem, Nat.reduceAdd, Nat.reduceMul, Nat.reduceSub, Nat.reduceEqDiff, Nat.reduceLeDiff, d1] | with_reducible refine guardQ_split (fun d1 => ?_) (fun d1 => ?_) <;> simp (maxSteps := 1000000) (disch := omega) only [go_sem, Nat.reduceAdd, Nat.reduceMul, Nat.reduceSub, Nat.reduceEqDiff, Nat.reduceLeDiff, d1] | with_reducible refine guardL_split (fun d1 => ?_) (fun d1 => ?_) <;> simp (maxSteps := 1000000) (disch := omega) only [go_sem, Nat.reduceAdd, Nat.reduceMul, Nat.reduceSub, Nat.reduceEqDiff, Nat.reduceLeDiff, d1])
    · (first | with_reducible refine guardK_dec (fun d2 => ?_) (fun d2 => ?_) <;> simp (maxSteps := 1000000) (disch := omega) only [go_sem, Nat.reduceAdd, Nat.reduceMul, Nat.reduceSub, Nat.reduceEqDiff, Nat.reduceLeDiff, d2] | with_reducible refine guardK_ndec (fun d2 => ?_) (fun d2 => ?_) <;> simp (maxSteps := 1000000) (disch := omega) only [go_sem, Nat.reduceAdd, Nat.reduceMul, Nat.reduceSub, Nat.reduceEqDiff, Nat.reduceLeDiff, d2] | with_reducible refine guardK_nb (fun d2 => ?_) (fun d2 => ?_) <;> simp (maxSteps := 1000000) (disch := omega) only [go_sem, Nat.reduceAdd, Nat.reduceMul, Nat.reduceSub, Nat.reduceEqDiff, Nat.reduceLeDiff, d2] | with_reducible refine guardK_split (fun d2 => ?_) (fun d2 => ?_) <;> simp (maxSteps := 1000000) (disch := omega) only [go_sem, Nat.reduceAdd, Nat.reduceMul, Nat.reduceSub, Nat.reduceEqDiff, Nat.reduceLeDiff, d2] | with_reducible refine guardQ_dec (fun d2 => ?_) (fun d2 => ?_) <;> simp (maxSteps := 1000000) (disch := omega) only [go_sem, Nat.reduceAdd, Nat.reduceMul, Nat.reduceSub, Nat.reduceEqDiff, Nat.reduceLeDiff, d2] | with_reducible refine guardL_dec (fun d2 => ?_) (fun d2 => ?_) <;> simp (maxSteps := 1000000) (disch := omega) only [go_sem, Nat.reduceAdd, Nat.reduceMul, Nat.reduceSub, Nat.reduceEqDiff, Nat.reduceLeDiff, d2] | with_reducible refine guardQ_ndec (fun d2 => ?_) (fun d2 => ?_) <;> simp (maxSteps := 1000000) (disch := omega) only [go_sem, Nat.reduceAdd, Nat.reduceMul, Nat.reduceSub, Nat.reduceEqDiff, Nat.reduceLeDiff, d2] | with_reducible refine guardL_ndec (fun d2 => ?_) (fun d2 => ?_) <;> simp (maxSteps := 1000000) (disch := omega) only [go_sem, Nat.reduceAdd, Nat.reduceMul, Nat.reduceSub, Nat.reduceEqDiff, Nat.reduceLeDiff, d2] | with_reducible refine guardQ_nb (fun d2 => ?_) (fun d2 => ?_) <;> simp (maxSteps := 1000000) (disch := omega) only [go_sem, Nat.reduceAdd, Nat.reduceMul, Nat.reduceSub, Nat.reduceEqDiff, Nat.reduceLeDiff, d2] | with_reducible refine guardL_nb (fun d2 => ?_) (fun d2 => ?_) <;> simp (maxSteps := 1000000) (disch := omega) only [go_sem, Nat.reduceAdd, Nat.reduceMul, Nat.reduceSub, Nat.reduceEqDiff, Nat.reduceLeDiff, d2] | with_reducible refine guardQ_split (fun d2 => ?_) (fun d2 => ?_) <;> simp (maxSteps := 1000000) (disch := omega) only [go_sem, Nat.reduceAdd, Nat.reduceMul, Nat.reduceSub, Nat.reduceEqDiff, Nat.reduceLeDiff, d2] | with_reducible refine guardL_split (fun d2 => ?_) (fun d2 => ?_) <;> simp (maxSteps := 1000000) (disch := omega) only [go_sem, Nat.reduceAdd, Nat.reduceMul, Nat.reduceSub, Nat.reduceEqDiff, Nat.reduceLeDiff, d2])
      · (first | with_reducible refine condK_dec (fun d3 => ?_) (fun d3 => ?_) | with_reducible refine condK_ndec (fun d3 => ?_) (fun d3 => ?_) | with_reducible refine condK_nb (fun d3 => ?_) (fun d3 => ?_) | refine condK_b (fun d3 => ?_) (fun d3 => ?_))
        · simp (maxSteps := 1000000) (disch := omega) only [go_sem, Nat.reduceAdd, Nat.reduceMul, Nat.reduceSub, Nat.reduceEqDiff, Nat.reduceLeDiff]
          refine ⟨k + 1, ⟨⟨by omega, hgo fun h => h.2.2 d3.symm⟩, by omega⟩, by push_cast; omega, ?_⟩
          rw [hset _ rfl (fun h => h.2.2 d3.symm)]
          exact HLe.refl _
        · simp (maxSteps := 1000000) (disch := omega) only [go_sem, Nat.reduceAdd, Nat.reduceMul, Nat.reduceSub, Nat.reduceEqDiff, Nat.reduceLeDiff]
          have : clear p xs = false := by
            simp only [clear, decide_eq_false_iff_not]
            exact fun h => h k c1 ⟨d1, d2, fun h => d3 h.symm⟩
          rw [this]
          exact lessQ_ice rfl
      · refine ⟨k + 1, ⟨⟨by omega, hgo fun h => d2 h.2.1⟩, by omega⟩, by push_cast; omega, ?_⟩
        rw [hset _ rfl (fun h => d2 h.2.1)]
        exact HLe.refl _
    · refine ⟨k + 1, ⟨⟨by omega, hgo fun h => d1 h.1⟩, by omega⟩, by push_cast; omega, ?_⟩
      rw [hset _ rfl (fun h => d1 h.1)]
      exact HLe.refl _
  · have hke : p.given.length = k := by omega
    simp (maxSteps := 1000000) (disch := omega) only [go_sem, Nat.reduceAdd, Nat.reduceMul, Nat.reduceSub, Nat.reduceEqDiff, Nat.reduceLeDiff]
    rw [clear_short (by omega) hno, if_pos rfl, bothT_all hke]
    have hown : OwnI [some ⟨g, 1, cl (eI .i64) (withL p.given xs)⟩] (.own 0 g 0 p.given.length none) (withL p.given xs) [0] := by
      have := OwnI.o (H := [some ⟨g, 1, cl (eI .i64) (withL p.given xs)⟩]) 0 g none (withL p.given xs) [] (by rw [List.append_nil]; simp only [go_sem])
      rwa [withL_len] at this
    have hf := hown.frzC
    refine lessQ_ice ?_
    show (([_, _] : List AV).mapM (frz1 _)).map AV.tup = _
    simp only [List.mapM_cons, List.mapM_nil, frz1, hf, Option.bind_eq_bind, Option.pure_def, Option.map_some]
    rfl
theorem FinishCount_run (p : Puz) (xs : List Int) (most : Int) (hx : smP p) (hl : xs.length ≤ 2 ^ 40) : Reads Try.prog 52 [aP p, ints xs, int most] (int (finishV p xs most)) := by
  refine RunCall.cw (c := _) Try.func52 rfl (n := 41) Try.ntmps52 (rs := [.tmp 6]) rfl ?_
  simp only [List.length_cons, List.length_nil, Nat.reduceAdd, Nat.reduceSub, List.replicate, List.cons_append, List.nil_append]
  simp (maxSteps := 1000000) (disch := omega) only [go_sem, Nat.reduceAdd, Nat.reduceMul, Nat.reduceSub, Nat.reduceEqDiff, Nat.reduceLeDiff]
  intro g
  first | refine OpS.rd (PuzzleValid_run p hx) (⟨_, Try.func66, rfl, rfl⟩ : Enters Try.prog 66) rfl rfl rfl rfl ?_ | refine Loud.rd (PuzzleValid_run p hx) (⟨_, Try.func66, rfl, rfl⟩ : Enters Try.prog 66) rfl rfl rfl rfl ?_
  simp (maxSteps := 1000000) (disch := omega) only [go_sem, Nat.reduceAdd, Nat.reduceMul, Nat.reduceSub, Nat.reduceEqDiff, Nat.reduceLeDiff]
  (first | with_reducible refine guardK_dec (fun h1 => ?_) (fun h1 => ?_) <;> simp (maxSteps := 1000000) (disch := omega) only [go_sem, Nat.reduceAdd, Nat.reduceMul, Nat.reduceSub, Nat.reduceEqDiff, Nat.reduceLeDiff, h1] | with_reducible refine guardK_ndec (fun h1 => ?_) (fun h1 => ?_) <;> simp (maxSteps := 1000000) (disch := omega) only [go_sem, Nat.reduceAdd, Nat.reduceMul, Nat.reduceSub, Nat.reduceEqDiff, Nat.reduceLeDiff, h1] | with_reducible refine guardK_nb (fun h1 => ?_) (fun h1 => ?_) <;> simp (maxSteps := 1000000) (disch := omega) only [go_sem, Nat.reduceAdd, Nat.reduceMul, Nat.reduceSub, Nat.reduceEqDiff, Nat.reduceLeDiff, h1] | with_reducible refine guardK_split (fun h1 => ?_) (fun h1 => ?_) <;> simp (maxSteps := 1000000) (disch := omega) only [go_sem, Nat.reduceAdd, Nat.reduceMul, Nat.reduceSub, Nat.reduceEqDiff, Nat.reduceLeDiff, h1] | with_reducible refine guardQ_dec (fun h1 => ?_) (fun h1 => ?_) <;> simp (maxSteps := 1000000) (disch := omega) only [go_sem, Nat.reduceAdd, Nat.reduceMul, Nat.reduceSub, Nat.reduceEqDiff, Nat.reduceLeDiff, h1] | with_reducible refine guardL_dec (fun h1 => ?_) (fun h1 => ?_) <;> simp (maxSteps := 1000000) (disch := omega) only [go_sem, Nat.reduceAdd, Nat.reduceMul, Nat.reduceSub, Nat.reduceEqDiff, Nat.reduceLeDiff, h1] | with_reducible refine guardQ_ndec (fun h1 => ?_) (fun h1 => ?_) <;> simp (maxSteps := 1000000) (disch := omega) only [go_sem, Nat.reduceAdd, Nat.reduceMul, Nat.reduceSub, Nat.reduceEqDiff, Nat.reduceLeDiff, h1] | with_reducible refine guardL_ndec (fun h1 => ?_) (fun h1 => ?_) <;> simp (maxSteps := 1000000) (disch := omega) only [go_sem, Nat.reduceAdd, Nat.reduceMul, Nat.reduceSub, Nat.reduceEqDiff, Nat.reduceLeDiff, h1] | with_reducible refine guardQ_nb (fun h1 => ?_) (fun h1 => ?_) <;> simp (maxSteps := 1000000) (disch := omega) only [go_sem, Nat.reduceAdd, Nat.reduceMul, Nat.reduceSub, Nat.reduceEqDiff, Nat.reduceLeDiff, h1] | with_reducible refine guardL_nb (fun h1 => ?_) (fun h1 => ?_) <;> simp (maxSteps := 1000000) (disch := omega) only [go_sem, Nat.reduceAdd, Nat.reduceMul, Nat.reduceSub, Nat.reduceEqDiff, Nat.reduceLeDiff, h1] | with_reducible refine guardQ_split (fun h1 => ?_) (fun h1 => ?_) <;> simp (maxSteps := 1000000) (disch := omega) only [go_sem, Nat.reduceAdd, Nat.reduceMul, Nat.reduceSub, Nat.reduceEqDiff, Nat.reduceLeDiff, h1] | with_reducible refine guardL_split (fun h1 => ?_) (fun h1 => ?_) <;> simp (maxSteps := 1000000) (disch := omega) only [go_sem, Nat.reduceAdd, Nat.reduceMul, Nat.reduceSub, Nat.reduceEqDiff, Nat.reduceLeDiff, h1])
  rotate_left
  · unfold finishV
    rw [if_neg (fun h => by rw [h.1] at h1; cases h1)]
  first | refine OpS.rd (GridValid_run xs p.size (by omega)) (⟨_, Try.func69, rfl, rfl⟩ : Enters Try.prog 69) rfl rfl rfl rfl ?_ | refine Loud.rd (GridValid_run xs p.size (by omega)) (⟨_, Try.func69, rfl, rfl⟩ : Enters Try.prog 69) rfl rfl rfl rfl ?_
  simp (maxSteps := 1000000) (disch := omega) only [go_sem, Nat.reduceAdd, Nat.reduceMul, Nat.reduceSub, Nat.reduceEqDiff, Nat.reduceLeDiff]
  (first | with_reducible refine guardK_dec (fun h2 => ?_) (fun h2 => ?_) <;> simp (maxSteps := 1000000) (disch := omega) only [go_sem, Nat.reduceAdd, Nat.reduceMul, Nat.reduceSub, Nat.reduceEqDiff, Nat.reduceLeDiff, h2] | with_reducible refine guardK_ndec (fun h2 => ?_) (fun h2 => ?_) <;> simp (maxSteps := 1000000) (disch := omega) only [go_sem, Nat.reduceAdd, Nat.reduceMul, Nat.reduceSub, Nat.reduceEqDiff, Nat.reduceLeDiff, h2] | with_reducible refine guardK_nb (fun h2 => ?_) (fun h2 => ?_) <;> simp (maxSteps := 1000000) (disch := omega) only [go_sem, Nat.reduceAdd, Nat.reduceMul, Nat.reduceSub, Nat.reduceEqDiff, Nat.reduceLeDiff, h2] | with_reducible refine guardK_split (fun h2 => ?_) (fun h2 => ?_) <;> simp (maxSteps := 1000000) (disch := omega) only [go_sem, Nat.reduceAdd, Nat.reduceMul, Nat.reduceSub, Nat.reduceEqDiff, Nat.reduceLeDiff, h2] | with_reducible refine guardQ_dec (fun h2 => ?_) (fun h2 => ?_) <;> simp (maxSteps := 1000000) (disch := omega) only [go_sem, Nat.reduceAdd, Nat.reduceMul, Nat.reduceSub, Nat.reduceEqDiff, Nat.reduceLeDiff, h2] | with_reducible refine guardL_dec (fun h2 => ?_) (fun h2 => ?_) <;> simp (maxSteps := 1000000) (disch := omega) only [go_sem, Nat.reduceAdd, Nat.reduceMul, Nat.reduceSub, Nat.reduceEqDiff, Nat.reduceLeDiff, h2] | with_reducible refine guardQ_ndec (fun h2 => ?_) (fun h2 => ?_) <;> simp (maxSteps := 1000000) (disch := omega) only [go_sem, Nat.reduceAdd, Nat.reduceMul, Nat.reduceSub, Nat.reduceEqDiff, Nat.reduceLeDiff, h2] | with_reducible refine guardL_ndec (fun h2 => ?_) (fun h2 => ?_) <;> simp (maxSteps := 1000000) (disch := omega) only [go_sem, Nat.reduceAdd, Nat.reduceMul, Nat.reduceSub, Nat.reduceEqDiff, Nat.reduceLeDiff, h2] | with_reducible refine guardQ_nb (fun h2 => ?_) (fun h2 => ?_) <;> simp (maxSteps := 1000000) (disch := omega) only [go_sem, Nat.reduceAdd, Nat.reduceMul, Nat.reduceSub, Nat.reduceEqDiff, Nat.reduceLeDiff, h2] | with_reducible refine guardL_nb (fun h2 => ?_) (fun h2 => ?_) <;> simp (maxSteps := 1000000) (disch := omega) only [go_sem, Nat.reduceAdd, Nat.reduceMul, Nat.reduceSub, Nat.reduceEqDiff, Nat.reduceLeDiff, h2] | with_reducible refine guardQ_split (fun h2 => ?_) (fun h2 => ?_) <;> simp (maxSteps := 1000000) (disch := omega) only [go_sem, Nat.reduceAdd, Nat.reduceMul, Nat.reduceSub, Nat.reduceEqDiff, Nat.reduceLeDiff, h2] | with_reducible refine guardL_split (fun h2 => ?_) (fun h2 => ?_) <;> simp (maxSteps := 1000000) (disch := omega) only [go_sem, Nat.reduceAdd, Nat.reduceMul, Nat.reduceSub, Nat.reduceEqDiff, Nat.reduceLeDiff, h2])
  rotate_left
  · unfold finishV
    rw [if_neg (fun h => by rw [h.2.1] at h2; cases h2)]
  (first | with_reducible refine guardK_dec (fun h3 => ?_) (fun h3 => ?_) <;> simp (maxSteps := 1000000) (disch := omega) only [go_sem, Nat.reduceAdd, Nat.reduceMul, Nat.reduceSub, Nat.reduceEqDiff, Nat.reduceLeDiff, h3] | with_reducible refine guardK_ndec (fun h3 => ?_) (fun h3 => ?_) <;> simp (maxSteps := 1000000) (disch := omega) only [go_sem, Nat.reduceAdd, Nat.reduceMul, Nat.reduceSub, Nat.reduceEqDiff, Nat.reduceLeDiff, h3] | with_reducible refine guardK_nb (fun h3 => ?_) (fun h3 => ?_) <;> simp (maxSteps := 1000000) (disch := omega) only [go_sem, Nat.reduceAdd, Nat.reduceMul, Nat.reduceSub, Nat.reduceEqDiff, Nat.reduceLeDiff, h3] | with_reducible refine guardK_split (fun h3 => ?_) (fun h3 => ?_) <;> simp (maxSteps := 1000000) (disch := omega) only [go_sem, Nat.reduceAdd, Nat.reduceMul, Nat.reduceSub, Nat.reduceEqDiff, Nat.reduceLeDiff, h3] | with_reducible refine guardQ_dec (fun h3 => ?_) (fun h3 => ?_) <;> simp (maxSteps := 1000000) (disch := omega) only [go_sem, Nat.reduceAdd, Nat.reduceMul, Nat.reduceSub, Nat.reduceEqDiff, Nat.reduceLeDiff, h3] | with_reducible refine guardL_dec (fun h3 => ?_) (fun h3 => ?_) <;> simp (maxSteps := 1000000) (disch := omega) only [go_sem, Nat.reduceAdd, Nat.reduceMul, Nat.reduceSub, Nat.reduceEqDiff, Nat.reduceLeDiff, h3] | with_reducible refine guardQ_ndec (fun h3 => ?_) (fun h3 => ?_) <;> simp (maxSteps := 1000000) (disch := omega) only [go_sem, Nat.reduceAdd, Nat.reduceMul, Nat.reduceSub, Nat.reduceEqDiff, Nat.reduceLeDiff, h3] | with_reducible refine guardL_ndec (fun h3 => ?_) (fun h3 => ?_) <;> simp (maxSteps := 1000000) (disch := omega) only [go_sem, Nat.reduceAdd, Nat.reduceMul, Nat.reduceSub, Nat.reduceEqDiff, Nat.reduceLeDiff, h3] | with_reducible refine guardQ_nb (fun h3 => ?_) (fun h3 => ?_) <;> simp (maxSteps := 1000000) (disch := omega) only [go_sem, Nat.reduceAdd, Nat.reduceMul, Nat.reduceSub, Nat.reduceEqDiff, Nat.reduceLeDiff, h3] | with_reducible refine guardL_nb (fun h3 => ?_) (fun h3 => ?_) <;> simp (maxSteps := 1000000) (disch := omega) only [go_sem, Nat.reduceAdd, Nat.reduceMul, Nat.reduceSub, Nat.reduceEqDiff, Nat.reduceLeDiff, h3] | with_reducible refine guardQ_split (fun h3 => ?_) (fun h3 => ?_) <;> simp (maxSteps := 1000000) (disch := omega) only [go_sem, Nat.reduceAdd, Nat.reduceMul, Nat.reduceSub, Nat.reduceEqDiff, Nat.reduceLeDiff, h3] | with_reducible refine guardL_split (fun h3 => ?_) (fun h3 => ?_) <;> simp (maxSteps := 1000000) (disch := omega) only [go_sem, Nat.reduceAdd, Nat.reduceMul, Nat.reduceSub, Nat.reduceEqDiff, Nat.reduceLeDiff, h3])
  · unfold finishV
    rw [if_neg (by omega)]
  (first | with_reducible refine condK_dec (fun h4 => ?_) (fun h4 => ?_) | with_reducible refine condK_ndec (fun h4 => ?_) (fun h4 => ?_) | with_reducible refine condK_nb (fun h4 => ?_) (fun h4 => ?_) | refine condK_b (fun h4 => ?_) (fun h4 => ?_))
  · simp (maxSteps := 1000000) (disch := omega) only [go_sem, Nat.reduceAdd, Nat.reduceMul, Nat.reduceSub, Nat.reduceEqDiff, Nat.reduceLeDiff]
    unfold finishV
    rw [if_neg (by omega)]
  obtain ⟨hp, hg, ha, hlen, hl4, hl16⟩ := grd_facts h1 h2
  obtain ⟨k, rfl⟩ : ∃ k : Nat, most = k := ⟨most.toNat, by omega⟩
  have hV : finishV p xs k = (finL p p.size.toNat xs k).length := by unfold finishV; rw [if_pos ⟨h1, h2, by omega, by omega⟩, Int.toNat_natCast]
  rw [hV]
  simp (maxSteps := 1000000) (disch := omega) only [go_sem, Nat.reduceAdd, Nat.reduceMul, Nat.reduceSub, Nat.reduceEqDiff, Nat.reduceLeDiff]
  first | refine OpS.mk (bothGrids_run p xs hlen.symm hl16 (fun k hk => ⟨(hg.val k hk).1, (ha.val k (by omega)).1⟩)) (⟨_, Try.func83, rfl, rfl⟩ : Enters Try.prog 83) rfl rfl rfl rfl rfl ?_ | refine Loud.mk (bothGrids_run p xs hlen.symm hl16 (fun k hk => ⟨(hg.val k hk).1, (ha.val k (by omega)).1⟩)) (⟨_, Try.func83, rfl, rfl⟩ : Enters Try.prog 83) rfl rfl rfl rfl rfl ?_
  simp (maxSteps := 1000000) (disch := omega) only [go_sem, Nat.reduceAdd, Nat.reduceMul, Nat.reduceSub, Nat.reduceEqDiff, Nat.reduceLeDiff]
  (first | with_reducible refine condK_dec (fun h5 => ?_) (fun h5 => ?_) | with_reducible refine condK_ndec (fun h5 => ?_) (fun h5 => ?_) | with_reducible refine condK_nb (fun h5 => ?_) (fun h5 => ?_) | refine condK_b (fun h5 => ?_) (fun h5 => ?_))
  rotate_left
  · simp (maxSteps := 1000000) (disch := omega) only [go_sem, Nat.reduceAdd, Nat.reduceMul, Nat.reduceSub, Nat.reduceEqDiff, Nat.reduceLeDiff]
    have : finL p p.size.toNat xs k = [] := by unfold finL; rw [if_neg (fun h => by rw [h.2] at h5; cases h5)]
    rw [this]
    rfl
  rw [if_pos h5]
  simp (maxSteps := 1000000) (disch := omega) only [go_sem, Nat.reduceAdd, Nat.reduceMul, Nat.reduceSub, Nat.reduceEqDiff, Nat.reduceLeDiff]
  first | refine OpS.mk (firstSolutions_run hp h1 k (by omega) (withL p.given xs) (withL_grd ha hg) ext_with) (⟨_, Try.func67, rfl, rfl⟩ : Enters Try.prog 67) rfl rfl rfl rfl rfl ?_ | refine Loud.mk (firstSolutions_run hp h1 k (by omega) (withL p.given xs) (withL_grd ha hg) ext_with) (⟨_, Try.func67, rfl, rfl⟩ : Enters Try.prog 67) rfl rfl rfl rfl rfl ?_
  simp (maxSteps := 1000000) (disch := omega) only [go_sem, Nat.reduceAdd, Nat.reduceMul, Nat.reduceSub, Nat.reduceEqDiff, Nat.reduceLeDiff]
  unfold finL
  by_cases hf : fitsL p (withL p.given xs) p.size.toNat = true
  · rw [if_pos hf, if_pos ⟨hf, h5⟩]
  · rw [if_neg hf, if_neg (fun h => hf h.1)]
theorem CanFinish_run (p : Puz) (xs : List Int) (hx : smP p) (hl : xs.length ≤ 2 ^ 40) : Reads Try.prog 27 [aP p, ints xs] (bool (canV p xs)) := by
  rw [canV_finish]
  refine RunCall.cw (c := _) Try.func27 rfl (n := 9) Try.ntmps27 (rs := [.tmp 4]) rfl ?_
  simp only [List.length_cons, List.length_nil, Nat.reduceAdd, Nat.reduceSub, List.replicate, List.cons_append, List.nil_append]
  simp (maxSteps := 1000000) (disch := omega) only [go_sem, Nat.reduceAdd, Nat.reduceMul, Nat.reduceSub, Nat.reduceEqDiff, Nat.reduceLeDiff]
  intro g
  first | refine OpS.rd (FinishCount_run p xs 1 hx hl) (⟨_, Try.func52, rfl, rfl⟩ : Enters Try.prog 52) rfl rfl rfl rfl ?_ | refine Loud.rd (FinishCount_run p xs 1 hx hl) (⟨_, Try.func52, rfl, rfl⟩ : Enters Try.prog 52) rfl rfl rfl rfl ?_
  simp (maxSteps := 1000000) (disch := omega) only [go_sem, Nat.reduceAdd, Nat.reduceMul, Nat.reduceSub, Nat.reduceEqDiff, Nat.reduceLeDiff]
end Go.Lg

set_option linter.unusedSimpArgs false
set_option linter.unusedVariables false
set_option maxRecDepth 100000
namespace Go.Lg
open Go.Proofs
def filledAt (xs : List Int) : List Int := ((List.range xs.length).filter fun i : Nat => decide (0 < nth xs i)).map fun i : Nat => (i : Int)
def gameOk (g : Gam) : Prop := g.moves.Nodup ∧ (∀ c ∈ g.moves, c ∈ filledAt g.put) ∧ ∀ c ∈ filledAt g.put, c ∈ g.moves ∧ nth g.task.given c ≤ 0
instance (g : Gam) : Decidable (gameOk g) := by unfold gameOk; infer_instance
def eBo (b : Bool) : List FV := [.bool b]
instance : HSz eBo 1 := ⟨fun _ => rfl⟩
theorem eBo_0 (b : Bool) (d : FV) : (eBo b).getD 0 d = .bool b := rfl
theorem zerosBo (n : Nat) : zerosL (n * 1) [.f (.bool false)] = cl eBo (List.replicate n false) := by
  simp only [zerosL, Nat.mul_one, List.length_singleton, Nat.mod_one]
  induction n with
  | zero => rfl
  | succ n ih => rw [List.range_succ, List.map_append, ih, List.replicate_succ', cl_append]; rfl
theorem setBo {xs : List Bool} {e : Int} {v : Bool} (h : 0 ≤ e ∧ e < (xs.length : Int)) : setRange (cl eBo xs) (0 + e.toNat * 1) [.f (.bool v)] = cl eBo (xs.set e.toNat v) :=
  setRange_cl (E := eBo) (by omega)
attribute [go_sem] eBo_0 zerosBo setBo
end Go.Lg

set_option linter.unusedSimpArgs false
set_option linter.unusedVariables false
set_option maxRecDepth 100000
namespace Go.Lg
open Go.Proofs
def RO.setV (o : RO) (k : Int) : RO := { o with r := { o.r with val := k } }
end Go.Lg
