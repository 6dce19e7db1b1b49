/- GpEH, GpFD, GpM, GpFF, cut to what is needed. -/
import Derived.Test.YtabihehfemedcaaQcd1
import Derived.Test.YtabihehfemedcaaQcc4
import Derived.Test.YtabihehfemedcaaQcc7
import Derived.Test.YtabihehfemedcaaQcc6
set_option linter.unusedSimpArgs false
set_option linter.unusedVariables false
set_option maxRecDepth 100000
namespace Go.Lg
open Go.Proofs
attribute [-go_sem] appendM lwF_cons
theorem solutions_run {p : Puz} {n : Nat} (hp : PuzN p n) (hv : puzzleValid p = true) (most : Nat) (hmo : 1 ≤ most ∧ most ≤ 600) (H : Heap) (xs : List Int) (hg : GrdN xs n) (hext : Ext p xs) (pid pg mid mg : Nat) (S : List Nat) (hml : look H mid mg = some ⟨mg, 1, [.f (.int .i64 most)]⟩) (hmp : mid ≠ pid) (hmS : mid ∉ S) (hout : OutL H pid pg [] S) (hSl : ∀ k ∈ S, k < H.length) :
    RunCall Try.prog 110 [aP p, ints xs, .c (.fn 111 [(pid, pg), (mid, mg)])] H (fun v H' => v = .tup [] ∧ ∃ S', OutL H' pid pg (if fitsL p xs n = true then (sols p n (n * n) xs).take most else []) S') := by
  have hn := hp.hn
  have hz := hp.size
  have hxl := hg.len
  have hsq : 4 ≤ n * n ∧ n * n ≤ 16 := by rcases hn with rfl | rfl | rfl <;> omega
  have hplt : pid < H.length := by
    obtain ⟨⟨oid, og, cs, o1, _⟩, _⟩ := hout
    exact (List.getElem?_eq_some_iff.1 (look_some o1).1).1
  refine RunCall.cw (c := _) Try.func110 rfl (n := 20) Try.ntmps110 (rs := []) rfl ?_
  simp only [List.length_cons, List.length_nil, Nat.reduceAdd, Nat.reduceSub, List.replicate, List.cons_append, List.nil_append]
  simp (maxSteps := 1000000) (disch := omega) only [go_sem, Nat.reduceAdd, Nat.reduceMul, Nat.reduceSub, Nat.reduceEqDiff, Nat.reduceLeDiff]
  intro g0 g1
  refine OpS.mkDQ (Clone_q xs (by omega) (fun h => by rw [h] at hxl; simp at hxl; omega)) (⟨_, Try.func112, rfl, rfl⟩ : Enters Try.prog 112) rfl rfl rfl ?_
  intro g2
  obtain ⟨HA, hHA⟩ : ∃ HA : Heap, HA = H ++ [some ⟨g0, 1, cP p⟩] ++ [some ⟨g1, 1, [CV.fn 111 [(pid, pg), (mid, mg)]]⟩] ++ [some ⟨g2, 1, cl (eI .i64) xs⟩] := ⟨_, rfl⟩
  have hAl : HA.length = H.length + 3 := by rw [hHA]; simp
  have hAg : ∀ k, k < H.length → HA[k]? = H[k]? := fun k hk => by rw [hHA, List.append_assoc, List.append_assoc, List.getElem?_append_left hk]
  have a0 : look HA H.length g0 = some ⟨g0, 1, cP p⟩ := by rw [hHA]; exact look_appL (look_appL look_last)
  have a1 : look HA (H.length + 1) g1 = some ⟨g1, 1, [CV.fn 111 [(pid, pg), (mid, mg)]]⟩ := by
    rw [hHA]
    refine look_appL ?_
    have := look_last (H := H ++ [some ⟨g0, 1, cP p⟩]) (g := g1) (sz := 1) (cs := [CV.fn 111 [(pid, pg), (mid, mg)]])
    rwa [List.length_append, List.length_singleton] at this
  have a2 : look HA (H.length + 1 + 1) g2 = some ⟨g2, 1, cl (eI .i64) xs⟩ := by
    rw [hHA]
    have := look_last (H := H ++ [some ⟨g0, 1, cP p⟩] ++ [some ⟨g1, 1, [CV.fn 111 [(pid, pg), (mid, mg)]]⟩]) (g := g2) (sz := 1) (cs := cl (eI .i64) xs)
    rwa [List.length_append, List.length_append, List.length_singleton, List.length_singleton] at this
  show vwK _ _ _ _ _ _ (.c (.own (H ++ [some ⟨g0, 1, cP p⟩] ++ [some ⟨g1, 1, [CV.fn 111 [(pid, pg), (mid, mg)]]⟩] : Heap).length g2 0 xs.length none)) (H ++ [some ⟨g0, 1, cP p⟩] ++ [some ⟨g1, 1, [CV.fn 111 [(pid, pg), (mid, mg)]]⟩] ++ [some ⟨g2, 1, cl (eI .i64) xs⟩] : Heap)
  rw [← hHA]
  clear hHA
  simp (maxSteps := 1000000) (disch := omega) only [go_sem, Nat.reduceAdd, Nat.reduceMul, Nat.reduceSub, Nat.reduceEqDiff, Nat.reduceLeDiff, look_last, set_last]
  intro g3
  obtain ⟨HB, hHB⟩ : ∃ HB : Heap, HB = HA ++ [some ⟨g3, 1, [CV.own (H.length + 1 + 1) g2 0 xs.length none]⟩] := ⟨_, rfl⟩
  have hBl : HB.length = HA.length + 1 := by rw [hHB]; simp
  have b0 : look HB H.length g0 = some ⟨g0, 1, cP p⟩ := by rw [hHB]; exact look_appL a0
  have b1 : look HB (H.length + 1) g1 = some ⟨g1, 1, [CV.fn 111 [(pid, pg), (mid, mg)]]⟩ := by rw [hHB]; exact look_appL a1
  have b2 : look HB (H.length + 1 + 1) g2 = some ⟨g2, 1, cl (eI .i64) xs⟩ := by rw [hHB]; exact look_appL a2
  have b3 : look HB HA.length g3 = some ⟨g3, 1, [CV.own (H.length + 1 + 1) g2 0 xs.length none]⟩ := by rw [hHB]; exact look_last
  have hBg : ∀ k, k < H.length → HB[k]? = H[k]? := fun k hk => by rw [hHB, List.getElem?_append_left (by omega)]; exact hAg k hk
  rw [← hHB]
  clear hHB
  have hown : OwnI HB (.own (H.length + 1 + 1) g2 0 xs.length none) xs [H.length + 1 + 1] := OwnI.o (H := HB) (H.length + 1 + 1) g2 none xs [] (by rw [List.append_nil]; exact b2)
  simp (maxSteps := 1000000) (disch := omega) only [go_sem, Nat.reduceAdd, Nat.reduceMul, Nat.reduceSub, Nat.reduceEqDiff, Nat.reduceLeDiff, b0, b3]
  refine OpS.rdD (PuzzleFits_run hp hv xs hg) (⟨_, Try.func55, rfl, rfl⟩ : Enters Try.prog 55) rfl rfl (snap_two rfl hown.snap) rfl ?_
  simp (maxSteps := 1000000) (disch := omega) only [go_sem, Nat.reduceAdd, Nat.reduceMul, Nat.reduceSub, Nat.reduceEqDiff, Nat.reduceLeDiff]
  (first | with_reducible refine condK_dec (fun c1 => ?_) (fun c1 => ?_) | with_reducible refine condK_ndec (fun c1 => ?_) (fun c1 => ?_) | with_reducible refine condK_nb (fun c1 => ?_) (fun c1 => ?_) | refine condK_b (fun c1 => ?_) (fun c1 => ?_))
  rotate_left
  · simp (maxSteps := 1000000) (disch := omega) only [go_sem, Nat.reduceAdd, Nat.reduceMul, Nat.reduceSub, Nat.reduceEqDiff, Nat.reduceLeDiff]
    exact ⟨HB, HLe.refl _, rfl, S, by rw [if_neg (by rw [c1]; simp)]; exact hout.same fun k hk => hBg k (by rcases hk with rfl | hk; exact hplt; exact hSl k hk)⟩
  simp (maxSteps := 1000000) (disch := omega) only [go_sem, Nat.reduceAdd, Nat.reduceMul, Nat.reduceSub, Nat.reduceEqDiff, Nat.reduceLeDiff, b0, look_last, set_last]
  rw [hz]
  intro g4
  obtain ⟨HC, hHC⟩ : ∃ HC : Heap, HC = HB ++ [some ⟨g4, 1, [CV.f (FV.int .i64 n)]⟩] := ⟨_, rfl⟩
  have hCl : HC.length = HB.length + 1 := by rw [hHC]; simp
  have lC : ∀ g sz cs, look (HC ++ [some ⟨g, sz, cs⟩]) (HB.length + 1) g = some ⟨g, sz, cs⟩ := fun g sz cs => by rw [← hCl]; exact look_last
  have sC : ∀ x y, (HC ++ [x]).set (HB.length + 1) y = HC ++ [y] := fun x y => by rw [← hCl]; exact set_last
  have hC0 : ∀ {k g : Nat} {b : Blk}, look HB k g = some b → look HC k g = some b := fun h => by rw [hHC]; exact look_appL h
  have c4 : look HC HB.length g4 = some ⟨g4, 1, [CV.f (FV.int .i64 n)]⟩ := by rw [hHC]; exact look_last
  have hCg : ∀ k, k < H.length → HC[k]? = H[k]? := fun k hk => by rw [hHC, List.getElem?_append_left (by omega)]; exact hBg k hk
  rw [← hHC]
  clear hHC
  intro g5
  simp (maxSteps := 1000000) (disch := omega) only [go_sem, Nat.reduceAdd, Nat.reduceMul, Nat.reduceSub, Nat.reduceEqDiff, Nat.reduceLeDiff, lC, sC, List.mapM_cons, List.mapM_nil, capOf, Option.bind_eq_bind, Option.pure_def, Option.bind_some]
  refine ⟨rfl, ?_⟩
  obtain ⟨HD, hHD⟩ : ∃ HD : Heap, HD = HC ++ [some ⟨g5, 1, [CV.fn 126 [(HA.length, g3), (H.length + 1, g1), (HB.length + 1, g5), (HB.length, g4), (H.length, g0)]]⟩] := ⟨_, rfl⟩
  have d5 : look HD (HB.length + 1) g5 = some ⟨g5, 1, [CV.fn 126 [(HA.length, g3), (H.length + 1, g1), (HB.length + 1, g5), (HB.length, g4), (H.length, g0)]]⟩ := by rw [hHD]; exact lC _ _ _
  have hD0 : ∀ {k g : Nat} {b : Blk}, look HC k g = some b → look HD k g = some b := fun h => by rw [hHD]; exact look_appL h
  have hDg : ∀ k, k < H.length → HD[k]? = H[k]? := fun k hk => by rw [hHD, List.getElem?_append_left (by omega)]; exact hCg k hk
  have hDl : HD.length = HC.length + 1 := by rw [hHD]; simp
  rw [← hHD]
  clear hHD
  have hmlt := (List.getElem?_eq_some_iff.1 (look_some hml).1).1
  have hT : TryH 111 126 p n most ⟨HA.length, g3, H.length + 1, g1, HB.length + 1, g5, HB.length, g4, H.length, g0, mid, mg, pid, pg, H.length + 1 + 1, g2⟩ HD :=
    ⟨by have := hD0 (hC0 b3); rw [hxl] at this; exact this, hD0 (hC0 b1), d5, hD0 c4, hD0 (hC0 b0), by unfold look; rw [hDg mid hmlt]; exact hml⟩
  have hrun := try_run hp most hmo.2 _ (by
      intro k hk
      simp only [Cap.ids, List.mem_cons, List.not_mem_nil, or_false] at hk ⊢
      rcases hk with rfl | rfl | rfl | rfl | rfl | rfl <;> omega) (by show H.length + 1 + 1 ≠ pid; omega) (n * n) HD xs [] S (Nat.le_refl _) hg c1 hext hT (by
      intro k hk hS
      have := hSl k hS
      simp only [Cap.ids, List.mem_cons, List.not_mem_nil, or_false] at hk
      rcases hk with rfl | rfl | rfl | rfl | rfl | rfl
      · omega
      · omega
      · omega
      · omega
      · omega
      · exact hmS hS) (hD0 (hC0 b2)) (fun h => by have := hSl _ h; simp only at this; omega) (by simp; omega) (hout.same fun k hk => hDg k (by rcases hk with rfl | hk; exact hplt; exact hSl k hk)) (fun k hk => by have := hSl k hk; omega)
  rw [Nat.sub_self] at hrun
  refine OpS.runFn hrun (⟨_, Try.func126, rfl, rfl⟩ : Enters Try.prog 126) rfl (target_all (caps := [(HA.length, g3), (H.length + 1, g1), (HB.length + 1, g5), (HB.length, g4), (H.length, g0)]) (by simp [hT.g, hT.t, hT.y, hT.z, hT.b])) rfl ?_
  rintro _ H2 ⟨l, hl, rfl, S2, ys, o2, _⟩
  simp (maxSteps := 1000000) (disch := omega) only [go_sem, Nat.reduceAdd, Nat.reduceMul, Nat.reduceSub, Nat.reduceEqDiff, Nat.reduceLeDiff]
  rw [List.nil_append, List.length_nil, Nat.sub_zero] at hl
  exact ⟨H2, HLe.refl _, rfl, S2, by rw [if_pos c1, ← hl]; exact o2⟩
theorem firstSolutions_run {p : Puz} {n : Nat} (hp : PuzN p n) (hv : puzzleValid p = true) (most : Nat) (hmo : 1 ≤ most ∧ most ≤ 600) (xs : List Int) (hg : GrdN xs n) (hext : Ext p xs) :
    Reads Try.prog 84 [aP p, ints xs, int most] (rsl eL (if fitsL p xs n = true then (sols p n (n * n) xs).take most else [])) := by
  refine Reads.iced ?_
  refine RunCall.cw (c := _) Try.func84 rfl (n := 14) Try.ntmps84 (rs := [.tmp 6]) rfl ?_
  simp only [List.length_cons, List.length_nil, Nat.reduceAdd, Nat.reduceSub, List.replicate, List.cons_append, List.nil_append]
  simp (maxSteps := 1000000) (disch := omega) only [go_sem, Nat.reduceAdd, Nat.reduceMul, Nat.reduceSub, Nat.reduceEqDiff, Nat.reduceLeDiff, List.mapM_cons, List.mapM_nil, capOf, Option.bind_eq_bind, Option.pure_def, Option.bind_some]
  intro g0 g1 g2 g3
  refine ⟨rfl, ?_⟩
  have hr := solutions_run hp hv most hmo [some ⟨g0, 1, cP p⟩, some ⟨g1, 1, [.f (.int .i64 most)]⟩, some ⟨g2, 1, []⟩, some ⟨g3, 1, [CV.own 2 g2 0 0 none]⟩] xs hg hext 3 g3 1 g1 [2] (by simp only [go_sem]) (by omega) (by simp)
    ⟨⟨2, g2, [], by simp only [go_sem], by simp only [go_sem], by simp, rfl, fun i hi => by simp at hi⟩, by simp⟩ (by simp)
  refine OpS.run hr (⟨_, Try.func110, rfl, rfl⟩ : Enters Try.prog 110) rfl rfl ?_
  rintro _ H2 ⟨rfl, S2, o2⟩
  generalize (if fitsL p xs n = true then (sols p n (n * n) xs).take most else []) = R at o2
  obtain ⟨oid, og, k1, k2⟩ := o2.frz
  simp (maxSteps := 1000000) (disch := omega) only [go_sem, Nat.reduceAdd, Nat.reduceMul, Nat.reduceSub, Nat.reduceEqDiff, Nat.reduceLeDiff, k1]
  exact lessQ_ice (by simp only [frzA, frz1, k2, Option.map_some])
end Go.Lg

set_option linter.unusedSimpArgs false
set_option linter.unusedVariables false
set_option maxRecDepth 100000
namespace Go.Lg
open Go.Proofs
theorem ext_given (p : Puz) : Ext p p.given := fun k h => by omega
theorem allS_first {p : Puz} (hv : puzzleValid p = true) (most : Nat) : (if fitsL p p.given p.size.toNat = true then (sols p p.size.toNat (p.size.toNat * p.size.toNat) p.given).take most else []) = allS p most := by
  unfold allS
  by_cases h : fitsL p p.given p.size.toNat = true
  · rw [if_pos h, if_pos ⟨hv, h⟩]
  · rw [if_neg h, if_neg (fun h' => h h'.2)]
theorem first_all {p : Puz} (hv : puzzleValid p = true) (most : Nat) (hmo : 1 ≤ most ∧ most ≤ 600) : Reads Try.prog 84 [aP p, ints p.given, int most] (rsl eL (allS p most)) := by
  obtain ⟨hp, hz⟩ := PuzN.of hv
  have hg := GrdN.of hp.hn (xs := p.given) (by rw [hz]; exact puzzleValid_grid' hv)
  have := firstSolutions_run hp hv most hmo p.given hg (ext_given p)
  rwa [allS_first hv] at this
end Go.Lg

set_option linter.unusedSimpArgs false
set_option linter.unusedVariables false
set_option maxRecDepth 100000
namespace Go.Lg
open Go.Proofs
def mrk (k : Int) : List Rul → List Rul
  | [] => []
  | r :: rs => ⟨k, marks (k + 1) r.cells.length, k + 1 + r.cells.length⟩ :: mrk (k + 2 + r.cells.length) rs
def wM (rs : List Rul) : Nat := (rs.map fun r => 2 + r.cells.length).sum
theorem mrk_length (k : Int) (rs : List Rul) : (mrk k rs).length = rs.length := by
  induction rs generalizing k with
  | nil => rfl
  | cons r rs ih => simp [mrk, ih]
theorem wM_app (a b : List Rul) : wM (a ++ b) = wM a + wM b := by simp [wM]
theorem wM_one (r : Rul) : wM [r] = 2 + r.cells.length := by simp [wM]
theorem mrk_app (k : Int) (a b : List Rul) : mrk k (a ++ b) = mrk k a ++ mrk (k + wM a) b := by
  induction a generalizing k with
  | nil => simp [mrk, wM]
  | cons r a ih =>
    simp only [List.cons_append, mrk, ih, wM, List.map_cons, List.sum_cons]
    congr 3
    push_cast
    omega
theorem wM_take_le (rs : List Rul) (i : Nat) : wM (rs.take i) ≤ wM rs := by
  conv => rhs; rw [← List.take_append_drop i rs, wM_app]
  omega
theorem wM_le (rs : List Rul) : wM rs ≤ 2 * wRs rs := by
  unfold wM wRs
  induction rs with
  | nil => simp
  | cons r rs ih => simp only [List.map_cons, List.sum_cons, List.length_cons] at ih ⊢; omega
theorem mrk_nth {k : Int} {rs : List Rul} {i : Nat} (h : i < rs.length) : nth (mrk k rs) i = ⟨k + wM (rs.take i), marks (k + wM (rs.take i) + 1) (nth rs i).cells.length, k + wM (rs.take i) + 1 + (nth rs i).cells.length⟩ := by
  have e : rs = rs.take i ++ (nth rs i :: rs.drop (i + 1)) := by
    rw [nth_eq (by omega)]
    simp
  have e2 : mrk k rs = mrk k (rs.take i) ++ mrk (k + wM (rs.take i)) (nth rs i :: rs.drop (i + 1)) := by
    conv => lhs; rw [e]
    exact mrk_app _ _ _
  rw [e2, nth_eq (by simp [mrk_length]; omega)]
  simp only [Int.toNat_natCast]
  rw [List.getElem_append_right (by rw [mrk_length]; simp; omega)]
  simp [mrk, mrk_length, Nat.min_eq_left (Nat.le_of_lt h)]
theorem setRange_app {A ys m : List CV} {o : Nat} (h : o + m.length ≤ A.length) : setRange (A ++ ys) o m = setRange A o m ++ ys := by
  simp only [setRange]
  rw [List.take_append_of_le_length (by omega), List.drop_append_of_le_length (by omega)]
  simp
theorem ldP_kR {g : Nat} {l : List RO} {ys : List CV} {i : Nat} (h : i < l.length) : ldP (some ⟨g, 3, kl kR l ++ ys⟩) (0 + ((i : Int)).toNat * 3 + 1) = some (.c l[i].c) := by
  have hl := kl_length (E := kR) l
  have hle : (i + 1) * 3 ≤ l.length * 3 := Nat.mul_le_mul_right _ h
  rw [ldP_some]
  simp only [Int.toNat_natCast, Nat.zero_add]
  rw [List.getElem?_append_left (by omega), kl_getAt h (by omega)]
  rfl
def RO.setK (o : RO) (k : Int) : RO := { o with r := { o.r with kind := k } }
def RO.setV (o : RO) (k : Int) : RO := { o with r := { o.r with val := k } }
def RO.setC (o : RO) (xs : List Int) : RO := { o with r := { o.r with cells := xs } }
theorem set_kind {l : List RO} {ys : List CV} {i : Nat} {k : Int} (h : i < l.length) : setRange (kl kR l ++ ys) (0 + ((i : Int)).toNat * 3 + 0) [.f (.int .i64 k)] = kl kR (l.set i (l[i].setK k)) ++ ys := by
  have hl := kl_length (E := kR) l
  have hle : (i + 1) * 3 ≤ l.length * 3 := Nat.mul_le_mul_right _ h
  simp only [Int.toNat_natCast]
  rw [setRange_app (by simp; omega), setRange_klj (v := l[i].setK k) h (by omega) rfl]
theorem set_val {l : List RO} {ys : List CV} {i : Nat} {k : Int} (h : i < l.length) : setRange (kl kR l ++ ys) (0 + ((i : Int)).toNat * 3 + 2) [.f (.int .i64 k)] = kl kR (l.set i (l[i].setV k)) ++ ys := by
  have hl := kl_length (E := kR) l
  have hle : (i + 1) * 3 ≤ l.length * 3 := Nat.mul_le_mul_right _ h
  simp only [Int.toNat_natCast]
  rw [setRange_app (by simp; omega), setRange_klj (v := l[i].setV k) h (by omega) rfl]
theorem kl_setC {l : List RO} {i : Nat} {xs : List Int} (h : i < l.length) : kl kR (l.set i (l[i].setC xs)) = kl kR l := by
  have e : kl kR (l.set i (l[i].setC xs)) = kl kR (l.set i l[i]) := by
    rw [List.set_eq_take_append_cons_drop, if_pos h, List.set_eq_take_append_cons_drop, if_pos h]
    rw [kl_append, kl_append]
    rfl
  rw [e, List.set_getElem_self]
theorem flat_disj {l : List RO} (hn : (l.flatMap (·.i)).Nodup) {i j : Nat} (hi : i < l.length) (hj : j < l.length) (hij : i < j) {x : Nat} (h1 : x ∈ l[i].i) (h2 : x ∈ l[j].i) : False := by
  rw [← List.take_append_drop j l, List.flatMap_append, List.nodup_append] at hn
  refine hn.2.2 x (List.mem_flatMap.2 ⟨l[i], ?_, h1⟩) x (List.mem_flatMap.2 ⟨l[j], ?_, h2⟩) rfl
  · rw [List.mem_take_iff_getElem]
    exact ⟨i, by omega, rfl⟩
  · exact List.mem_iff_getElem.2 ⟨0, by simp; omega, by simp⟩
theorem markRuleNil_run (k : Int) : Reads Try.prog 48 [rsl eR [], int k] (int k) := by
  refine RunCall.cw (c := _) Try.func48 rfl (n := 34) Try.ntmps48 (rs := [.tmp 4]) rfl ?_
  simp only [List.length_cons, List.length_nil, Nat.reduceAdd, Nat.reduceSub, List.replicate, List.cons_append, List.nil_append]
  simp (maxSteps := 1000000) (disch := omega) only [go_sem, Nat.reduceAdd, Nat.reduceMul, Nat.reduceSub, Nat.reduceEqDiff, Nat.reduceLeDiff]
  refine loop_rule (fun _ : Unit => 0) (fun _ => True) (fun _ => [.k, .p (int k), .a, .a, .a, .p (int 0), .a, .a, .a, .a, .a, .a, .a, .a, .a, .a, .a, .a, .a, .a, .a, .a, .a, .a, .a, .a, .a, .a, .a, .a, .a, .a, .a, .a]) (fun _ => []) () trivial (by simp (maxSteps := 1000000) (disch := omega) only [go_sem, Nat.reduceAdd, Nat.reduceMul, Nat.reduceSub, Nat.reduceEqDiff, Nat.reduceLeDiff]) (hle_nil _) ?_
  intro _ _
  simp (maxSteps := 1000000) (disch := omega) only [go_sem, Nat.reduceAdd, Nat.reduceMul, Nat.reduceSub, Nat.reduceEqDiff, Nat.reduceLeDiff]
  simp only [show decide ((0 : Int) < ((0 : Nat) : Int)) = false from rfl]
  simp (maxSteps := 1000000) (disch := omega) only [go_sem, Nat.reduceAdd, Nat.reduceMul, Nat.reduceSub, Nat.reduceEqDiff, Nat.reduceLeDiff]
theorem markRuleS_deep (H : Heap) (c : CV) (rs : List Rul) (S : List Nat) (k : Int) (h : OwnR H c rs S) (hk : 0 ≤ k ∧ k + wM rs ≤ 2 ^ 50) (hx : smRs rs) :
    RunCall Try.prog 48 [.c c, int k] H (fun r H' => r = int (k + wM rs) ∧ OwnR H' c (mrk k rs) S ∧ Frm H H' S) := by
  cases h with
  | e =>
    refine (RunCall.frame rfl (markRuleNil_run k) fun r H' h => by rw [h]; rfl).weaker ?_
    rintro r H2 ⟨r', H', rfl, rfl, rfl⟩
    refine ⟨H, HLe.app _ _, ?_, .e, Frm.refl _ _⟩
    simp [shiftA, shift1, shiftC, wM]
  | o id g lim l ys hlook ho hnd hy =>
    obtain ⟨hn, hcl⟩ := hx
    simp only [List.length_map] at hn
    refine RunCall.cw (c := _) Try.func48 rfl (n := 34) Try.ntmps48 (rs := [.tmp 4]) rfl ?_
    simp only [List.length_cons, List.length_nil, Nat.reduceAdd, Nat.reduceSub, List.replicate, List.cons_append, List.nil_append]
    simp (maxSteps := 1000000) (disch := omega) only [go_sem, Nat.reduceAdd, Nat.reduceMul, Nat.reduceSub, Nat.reduceEqDiff, Nat.reduceLeDiff]
    refine loop_rule3 (fun (i : Nat) (b : Heap × List RO) (kk : Int) => l.length - i)
      (fun i b kk => i ≤ l.length ∧ kk = k + wM ((l.map (·.r)).take i) ∧ Frm H b.1 (id :: l.flatMap (·.i)) ∧ look b.1 id g = some ⟨g, 3, kl kR b.2 ++ ys⟩ ∧ b.2.length = l.length ∧ (∀ j (h1 : j < b.2.length) (h2 : j < l.length), b.2[j].c = l[j].c ∧ b.2[j].i = l[j].i ∧ OwnI b.1 b.2[j].c b.2[j].r.cells b.2[j].i) ∧
        (b.2.take i).map (·.r) = mrk k ((l.map (·.r)).take i) ∧ (b.2.drop i).map (·.r) = (l.map (·.r)).drop i)
      (fun i b kk => [.k, .p (int kk), .a, .a, .a, .p (int i), .a, .a, .a, .a, .a, .a, .a, .a, .a, .a, .a, .a, .a, .a, .a, .a, .a, .a, .a, .a, .a, .a, .a, .a, .a, .a, .a, .a]) (fun _ b _ => b.1) 0 (H, l) k
      ⟨Nat.zero_le _, by simp [wM], Frm.refl _ _, hlook, rfl, fun j h1 h2 => ⟨rfl, rfl, ho _ (List.getElem_mem h1)⟩, rfl, rfl⟩ (by simp (maxSteps := 1000000) (disch := omega) only [go_sem, Nat.reduceAdd, Nat.reduceMul, Nat.reduceSub, Nat.reduceEqDiff, Nat.reduceLeDiff]; rfl) (HLe.refl _) ?_
    rintro i ⟨H1, l1⟩ kk ⟨hi, hkk, hf, hl1, hlen, hall, hm1, hm2⟩
    simp only at hf hl1 hlen hall hm1 hm2 ⊢
    have hle := wM_take_le (l.map (·.r)) i
    have hidlt : id < H1.length := (List.getElem?_eq_some_iff.1 (look_some hl1).1).1
    simp (maxSteps := 1000000) (disch := omega) only [go_sem, Nat.reduceAdd, Nat.reduceMul, Nat.reduceSub, Nat.reduceEqDiff, Nat.reduceLeDiff, hl1]
    (first | with_reducible refine condK_dec (fun h => ?_) (fun h => ?_) | with_reducible refine condK_ndec (fun h => ?_) (fun h => ?_) | with_reducible refine condK_nb (fun h => ?_) (fun h => ?_) | refine condK_b (fun h => ?_) (fun h => ?_))
    · have h : i < l.length := by omega
      have h' : i < l1.length := by omega
      have hkl := kl_length (E := kR) l1
      have hmul : (i + 1) * 3 ≤ l1.length * 3 := Nat.mul_le_mul_right _ h'
      obtain ⟨q1, q2, q3⟩ := hall i h' h
      have hr : l1[i].r = l[i].r := by
        have := congrArg (fun q => q[0]?) hm2
        simp only [List.getElem?_map, List.getElem?_drop, Nat.add_zero, List.getElem?_eq_getElem h', List.getElem?_eq_getElem h, Option.map_some, Option.some.injEq] at this
        exact this
      have hc40 : l1[i].r.cells.length ≤ 2 ^ 40 := by rw [hr]; exact hcl _ (List.mem_map.2 ⟨l[i], List.getElem_mem h, rfl⟩)
      have htk : (l.map (·.r)).take (i + 1) = (l.map (·.r)).take i ++ [l[i].r] := by rw [List.take_succ_eq_append_getElem (by simpa using h)]; simp
      have hw1 : wM ((l.map (·.r)).take (i + 1)) = wM ((l.map (·.r)).take i) + (2 + l1[i].r.cells.length) := by rw [htk, wM_app, wM_one, hr]
      have hle2 := wM_take_le (l.map (·.r)) (i + 1)
      have hs : ∀ cs : List CV, look (H1.set id (some ⟨g, 3, cs⟩)) id g = some ⟨g, 3, cs⟩ := fun cs => look_of (b := ⟨g, 3, cs⟩) (by rw [List.getElem?_set_self hidlt])
      have e1 := set_kind (ys := ys) (k := kk) h'
      have hgi : (l1.set i (l1[i].setK kk))[i]'(by simp; exact h') = l1[i].setK kk := by simp
      have e2 := ldP_kR (g := g) (ys := ys) (l := l1.set i (l1[i].setK kk)) (i := i) (by simpa using h')
      rw [hgi] at e2
      simp (maxSteps := 1000000) (disch := omega) only [go_sem, Nat.reduceAdd, Nat.reduceMul, Nat.reduceSub, Nat.reduceEqDiff, Nat.reduceLeDiff, hl1, e1, hs, e2, List.length_append]
      let H2 : Heap := H1.set id (some ⟨g, 3, kl kR (l1.set i (l1[i].setK kk)) ++ ys⟩)
      have hq3 : OwnI H2 l1[i].c l1[i].r.cells l1[i].i := q3.frm (Frm.set _ _ _) fun x hx => by
        simp
        rintro rfl
        rw [q2] at hx
        exact (List.nodup_cons.1 hnd).1 (List.mem_flatMap.2 ⟨l[i], List.getElem_mem h, hx⟩)
      refine OpS.run (markIntS_deep H2 l1[i].c l1[i].r.cells l1[i].i (kk + 1) hq3 (by omega) hc40) (⟨_, Try.func43, rfl, rfl⟩ : Enters Try.prog 43) rfl rfl ?_
      rintro _ H3 ⟨rfl, hq4, hf3⟩
      have hid3 : id ∉ l1[i].i := by rw [q2]; exact fun hx => (List.nodup_cons.1 hnd).1 (List.mem_flatMap.2 ⟨l[i], List.getElem_mem h, hx⟩)
      have hl3 : look H3 id g = some ⟨g, 3, kl kR (l1.set i (l1[i].setK kk)) ++ ys⟩ := by rw [hf3.look hid3]; exact hs _
      have hid3lt : id < H3.length := (List.getElem?_eq_some_iff.1 (look_some hl3).1).1
      have hlen3 : i < (l1.set i (l1[i].setK kk)).length := by simpa using h'
      have hkl3 := kl_length (E := kR) (l1.set i (l1[i].setK kk))
      simp only [List.length_set] at hkl3
      have e3 := set_val (ys := ys) (k := kk + 1 + l1[i].r.cells.length) hlen3
      rw [hgi] at e3
      simp (maxSteps := 1000000) (disch := omega) only [go_sem, Nat.reduceAdd, Nat.reduceMul, Nat.reduceSub, Nat.reduceEqDiff, Nat.reduceLeDiff, hl3, e3, List.length_append]
      have e4 : kl kR ((l1.set i (l1[i].setK kk)).set i ((l1[i].setK kk).setV (kk + 1 + l1[i].r.cells.length))) = kl kR (l1.set i ⟨⟨kk, marks (kk + 1) l1[i].r.cells.length, kk + 1 + l1[i].r.cells.length⟩, l1[i].c, l1[i].i⟩) := by
        rw [List.set_set]
        have := kl_setC (l := l1.set i ((l1[i].setK kk).setV (kk + 1 + l1[i].r.cells.length))) (i := i) (xs := marks (kk + 1) l1[i].r.cells.length) (by simpa using h')
        rw [List.set_set] at this
        rw [← this]
        simp only [List.getElem_set_self]
        rfl
      rw [e4]
      refine ⟨i + 1, (_, l1.set i ⟨⟨kk, marks (kk + 1) l1[i].r.cells.length, kk + 1 + l1[i].r.cells.length⟩, l1[i].c, l1[i].i⟩), kk + 1 + l1[i].r.cells.length + 1, ⟨⟨h, ?_, ?_, ?_, by simp [hlen], fun j h1 h2 => ?_, ?_, ?_⟩, by omega⟩, ⟨by omega, by omega⟩, HLe.refl _⟩
      · rw [hw1]; push_cast; omega
      · refine (hf.trans ((Frm.set H1 id _).mono (by simp))).trans ((hf3.mono fun x hx => ?_).trans ((Frm.set H3 id _).mono (by simp)))
        rw [q2] at hx
        exact List.mem_cons_of_mem _ (List.mem_flatMap.2 ⟨l[i], List.getElem_mem h, hx⟩)
      · exact look_of (b := ⟨g, 3, kl kR (l1.set i ⟨⟨kk, marks (kk + 1) l1[i].r.cells.length, kk + 1 + l1[i].r.cells.length⟩, l1[i].c, l1[i].i⟩) ++ ys⟩) (by simp only [List.getElem?_set_self hid3lt])
      · simp only [List.length_set] at h1
        obtain ⟨p1, p2, p3⟩ := hall j h1 h2
        have hidj : id ∉ l[j].i := fun hx => (List.nodup_cons.1 hnd).1 (List.mem_flatMap.2 ⟨l[j], List.getElem_mem h2, hx⟩)
        by_cases hij : i = j
        · subst hij
          simp only [List.getElem_set_self]
          refine ⟨q1, q2, hq4.frm (Frm.set _ _ _) fun x hx => ?_⟩
          simp
          rintro rfl
          exact hid3 hx
        · simp only [List.getElem_set_ne hij]
          refine ⟨p1, p2, ((p3.frm (Frm.set _ _ _) fun x hx => ?_).frm hf3 fun x hx => ?_).frm (Frm.set _ _ _) fun x hx => ?_⟩
          · simp
            rintro rfl
            rw [p2] at hx; exact hidj hx
          · rw [p2] at hx
            rw [q2]
            have hn2 := (List.nodup_cons.1 hnd).2
            rcases Nat.lt_or_gt_of_ne hij with hlt | hlt
            · exact fun hy => flat_disj hn2 h h2 hlt hy hx
            · exact fun hy => flat_disj hn2 h2 h hlt hx hy
          · simp
            rintro rfl
            rw [p2] at hx; exact hidj hx
      · rw [htk, mrk_app, ← hm1, ← hkk]
        rw [List.take_set, List.take_succ_eq_append_getElem h', List.set_append_right _ _ (by simp; omega)]
        simp [mrk, hr, Nat.min_eq_left (Nat.le_of_lt h')]
      · rw [List.drop_set_of_lt (by omega)]
        have := congrArg (List.drop 1) hm2
        simp only [← List.map_drop, List.drop_drop] at this ⊢
        exact this
    · have hil : i = l.length := by omega
      subst hil
      simp (maxSteps := 1000000) (disch := omega) only [go_sem, Nat.reduceAdd, Nat.reduceMul, Nat.reduceSub, Nat.reduceEqDiff, Nat.reduceLeDiff]
      refine ⟨H1, HLe.refl _, ?_, ?_, hf⟩
      · rw [hkk, List.take_of_length_le (by simp)]
      · rw [List.take_of_length_le (by omega), List.take_of_length_le (by simp)] at hm1
        have hii : l1.flatMap (·.i) = l.flatMap (·.i) := by
          have : l1.map (·.i) = l.map (·.i) := List.ext_getElem (by simp [hlen]) fun j h1 h2 => by
            simp at h1 h2 ⊢
            exact (hall j h1 h2).2.1
          simp only [List.flatMap_def, this]
        have := OwnR.o id g lim l1 ys hl1 (fun o hm => by
          obtain ⟨j, hj, rfl⟩ := List.mem_iff_getElem.1 hm
          exact (hall j hj (by omega)).2.2) (by rw [hii]; exact hnd) hy
        rw [hm1, hii, hlen] at this
        exact this
def mrkP (k : Int) (p : Puz) : Puz := ⟨p.size, marks k p.given.length, mrk (k + p.given.length) p.rules⟩
def wMP (p : Puz) : Nat := p.given.length + wM p.rules
theorem markPuzzle_deep (H : Heap) (cs : List CV) (p : Puz) (S : List Nat) (k : Int) (h : OwnP H cs p S) (hk : 0 ≤ k ∧ k + wMP p ≤ 2 ^ 50) (hx : smP p) :
    RunCall Try.prog 42 [.agg cs, int k] H (fun r H' => r = int (k + wMP p) ∧ OwnP H' cs (mrkP k p) S ∧ Frm H H' S) := by
  obtain ⟨c1, c2, S1, S2, rfl, rfl, h1, h2⟩ := h.ex
  have hnd := h.nd
  rw [List.nodup_append] at hnd
  obtain ⟨hx1, hx2⟩ := hx
  unfold wMP at hk ⊢
  refine RunCall.cw (c := _) Try.func42 rfl (n := 14) Try.ntmps42 (rs := [.tmp 4]) rfl ?_
  simp only [List.length_cons, List.length_nil, Nat.reduceAdd, Nat.reduceSub, List.replicate, List.cons_append, List.nil_append]
  simp (maxSteps := 1000000) (disch := omega) only [go_sem, Nat.reduceAdd, Nat.reduceMul, Nat.reduceSub, Nat.reduceEqDiff, Nat.reduceLeDiff, look_last, look_app_lt]
  intro g
  have h1a := h1.app (H' := [some ⟨g, 1, [.f (.int .i64 p.size), c1, c2]⟩])
  have h2a := h2.app (H' := [some ⟨g, 1, [.f (.int .i64 p.size), c1, c2]⟩])
  refine OpS.run (markIntS_deep _ c1 p.given S1 k h1a (by omega) hx1) (⟨_, Try.func43, rfl, rfl⟩ : Enters Try.prog 43) rfl rfl ?_
  rintro _ H1 ⟨rfl, q1, f1⟩
  have hb1 : look H1 H.length g = some ⟨g, 1, [.f (.int .i64 p.size), c1, c2]⟩ := by
    rw [f1.look fun hm => Nat.lt_irrefl _ (h1.lt _ hm)]; exact look_last
  simp (maxSteps := 1000000) (disch := omega) only [go_sem, Nat.reduceAdd, Nat.reduceMul, Nat.reduceSub, Nat.reduceEqDiff, Nat.reduceLeDiff, hb1]
  have h2b := h2a.frm f1 fun i hi hm => hnd.2.2 i hm i hi rfl
  refine OpS.run (markRuleS_deep H1 c2 p.rules S2 (k + p.given.length) h2b (by omega) hx2) (⟨_, Try.func48, rfl, rfl⟩ : Enters Try.prog 48) rfl rfl ?_
  rintro _ H2 ⟨rfl, q2, f2⟩
  simp (maxSteps := 1000000) (disch := omega) only [go_sem, Nat.reduceAdd, Nat.reduceMul, Nat.reduceSub, Nat.reduceEqDiff, Nat.reduceLeDiff]
  refine ⟨H2.take H.length, ?_, by simp only [AV.c.injEq, CV.f.injEq, FV.int.injEq, true_and]; push_cast; omega, ⟨⟨c1, c2, S1, S2, rfl, rfl, ?_, ?_⟩, h.nd⟩, ?_⟩
  · intro id b hb
    have : id < H.length := by have := (List.getElem?_eq_some_iff.1 hb).1; simp at this; omega
    rw [List.getElem?_take_of_lt this] at hb; exact hb
  · refine ((q1.frm f2 fun i hi hm => hnd.2.2 i hi i hm rfl)).same fun i hi => List.getElem?_take_of_lt (h1.lt i hi)
  · have e : (mrkP k p).rules = mrk (k + p.given.length) p.rules := rfl
    rw [e]
    exact q2.same fun i hi => List.getElem?_take_of_lt (h2.lt i hi)
  · have hl2 := f2.1
    have hl1 := f1.1
    simp at hl1
    refine ⟨by simp; omega, fun id hid => ?_⟩
    simp only [List.mem_append, not_or] at hid
    by_cases hlt : id < H.length
    · rw [List.getElem?_take_of_lt hlt, f2.2 id hid.2, f1.2 id hid.1, List.getElem?_append_left hlt]
    · rw [List.getElem?_eq_none (by simp; omega), List.getElem?_eq_none (by omega)]
end Go.Lg

set_option linter.unusedSimpArgs false
set_option linter.unusedVariables false
set_option maxRecDepth 100000
namespace Go.Lg
open Go.Proofs
def countV (p : Puz) (most : Int) : Int := if puzzleValid p = true ∧ 1 ≤ most ∧ most ≤ 600 then (allS p most.toNat).length else -1
theorem allS_no {p : Puz} (h : ¬ puzzleValid p = true) (most : Nat) : allS p most = [] := by unfold allS; rw [if_neg (fun h' => h h'.1)]
theorem CountSolutions_run (p : Puz) (most : Int) (hx : smP p) : Reads Try.prog 57 [aP p, int most] (int (countV p most)) := by
  refine RunCall.cw (c := _) Try.func57 rfl (n := 22) Try.ntmps57 (rs := [.tmp 4]) rfl ?_
  simp only [List.length_cons, List.length_nil, Nat.reduceAdd, Nat.reduceSub, List.replicate, List.cons_append, List.nil_append]
  simp (maxSteps := 1000000) (disch := omega) only [go_sem, Nat.reduceAdd, Nat.reduceMul, Nat.reduceSub, Nat.reduceEqDiff, Nat.reduceLeDiff]
  intro g
  first | refine OpS.rd (PuzzleValid_run p hx) (⟨_, Try.func83, rfl, rfl⟩ : Enters Try.prog 83) rfl rfl rfl rfl ?_ | refine Loud.rd (PuzzleValid_run p hx) (⟨_, Try.func83, rfl, rfl⟩ : Enters Try.prog 83) rfl rfl rfl rfl ?_
  simp (maxSteps := 1000000) (disch := omega) only [go_sem, Nat.reduceAdd, Nat.reduceMul, Nat.reduceSub, Nat.reduceEqDiff, Nat.reduceLeDiff]
  (first | with_reducible refine guardK_dec (fun h1 => ?_) (fun h1 => ?_) <;> simp (maxSteps := 1000000) (disch := omega) only [go_sem, Nat.reduceAdd, Nat.reduceMul, Nat.reduceSub, Nat.reduceEqDiff, Nat.reduceLeDiff, h1] | with_reducible refine guardK_ndec (fun h1 => ?_) (fun h1 => ?_) <;> simp (maxSteps := 1000000) (disch := omega) only [go_sem, Nat.reduceAdd, Nat.reduceMul, Nat.reduceSub, Nat.reduceEqDiff, Nat.reduceLeDiff, h1] | with_reducible refine guardK_nb (fun h1 => ?_) (fun h1 => ?_) <;> simp (maxSteps := 1000000) (disch := omega) only [go_sem, Nat.reduceAdd, Nat.reduceMul, Nat.reduceSub, Nat.reduceEqDiff, Nat.reduceLeDiff, h1] | with_reducible refine guardK_split (fun h1 => ?_) (fun h1 => ?_) <;> simp (maxSteps := 1000000) (disch := omega) only [go_sem, Nat.reduceAdd, Nat.reduceMul, Nat.reduceSub, Nat.reduceEqDiff, Nat.reduceLeDiff, h1] | with_reducible refine guardQ_dec (fun h1 => ?_) (fun h1 => ?_) <;> simp (maxSteps := 1000000) (disch := omega) only [go_sem, Nat.reduceAdd, Nat.reduceMul, Nat.reduceSub, Nat.reduceEqDiff, Nat.reduceLeDiff, h1] | with_reducible refine guardL_dec (fun h1 => ?_) (fun h1 => ?_) <;> simp (maxSteps := 1000000) (disch := omega) only [go_sem, Nat.reduceAdd, Nat.reduceMul, Nat.reduceSub, Nat.reduceEqDiff, Nat.reduceLeDiff, h1] | with_reducible refine guardQ_ndec (fun h1 => ?_) (fun h1 => ?_) <;> simp (maxSteps := 1000000) (disch := omega) only [go_sem, Nat.reduceAdd, Nat.reduceMul, Nat.reduceSub, Nat.reduceEqDiff, Nat.reduceLeDiff, h1] | with_reducible refine guardL_ndec (fun h1 => ?_) (fun h1 => ?_) <;> simp (maxSteps := 1000000) (disch := omega) only [go_sem, Nat.reduceAdd, Nat.reduceMul, Nat.reduceSub, Nat.reduceEqDiff, Nat.reduceLeDiff, h1] | with_reducible refine guardQ_nb (fun h1 => ?_) (fun h1 => ?_) <;> simp (maxSteps := 1000000) (disch := omega) only [go_sem, Nat.reduceAdd, Nat.reduceMul, Nat.reduceSub, Nat.reduceEqDiff, Nat.reduceLeDiff, h1] | with_reducible refine guardL_nb (fun h1 => ?_) (fun h1 => ?_) <;> simp (maxSteps := 1000000) (disch := omega) only [go_sem, Nat.reduceAdd, Nat.reduceMul, Nat.reduceSub, Nat.reduceEqDiff, Nat.reduceLeDiff, h1] | with_reducible refine guardQ_split (fun h1 => ?_) (fun h1 => ?_) <;> simp (maxSteps := 1000000) (disch := omega) only [go_sem, Nat.reduceAdd, Nat.reduceMul, Nat.reduceSub, Nat.reduceEqDiff, Nat.reduceLeDiff, h1] | with_reducible refine guardL_split (fun h1 => ?_) (fun h1 => ?_) <;> simp (maxSteps := 1000000) (disch := omega) only [go_sem, Nat.reduceAdd, Nat.reduceMul, Nat.reduceSub, Nat.reduceEqDiff, Nat.reduceLeDiff, h1])
  rotate_left
  · unfold countV
    rw [if_neg (fun h => by rw [h.1] at h1; cases h1)]
  (first | with_reducible refine guardK_dec (fun h2 => ?_) (fun h2 => ?_) <;> simp (maxSteps := 1000000) (disch := omega) only [go_sem, Nat.reduceAdd, Nat.reduceMul, Nat.reduceSub, Nat.reduceEqDiff, Nat.reduceLeDiff, h2] | with_reducible refine guardK_ndec (fun h2 => ?_) (fun h2 => ?_) <;> simp (maxSteps := 1000000) (disch := omega) only [go_sem, Nat.reduceAdd, Nat.reduceMul, Nat.reduceSub, Nat.reduceEqDiff, Nat.reduceLeDiff, h2] | with_reducible refine guardK_nb (fun h2 => ?_) (fun h2 => ?_) <;> simp (maxSteps := 1000000) (disch := omega) only [go_sem, Nat.reduceAdd, Nat.reduceMul, Nat.reduceSub, Nat.reduceEqDiff, Nat.reduceLeDiff, h2] | with_reducible refine guardK_split (fun h2 => ?_) (fun h2 => ?_) <;> simp (maxSteps := 1000000) (disch := omega) only [go_sem, Nat.reduceAdd, Nat.reduceMul, Nat.reduceSub, Nat.reduceEqDiff, Nat.reduceLeDiff, h2] | with_reducible refine guardQ_dec (fun h2 => ?_) (fun h2 => ?_) <;> simp (maxSteps := 1000000) (disch := omega) only [go_sem, Nat.reduceAdd, Nat.reduceMul, Nat.reduceSub, Nat.reduceEqDiff, Nat.reduceLeDiff, h2] | with_reducible refine guardL_dec (fun h2 => ?_) (fun h2 => ?_) <;> simp (maxSteps := 1000000) (disch := omega) only [go_sem, Nat.reduceAdd, Nat.reduceMul, Nat.reduceSub, Nat.reduceEqDiff, Nat.reduceLeDiff, h2] | with_reducible refine guardQ_ndec (fun h2 => ?_) (fun h2 => ?_) <;> simp (maxSteps := 1000000) (disch := omega) only [go_sem, Nat.reduceAdd, Nat.reduceMul, Nat.reduceSub, Nat.reduceEqDiff, Nat.reduceLeDiff, h2] | with_reducible refine guardL_ndec (fun h2 => ?_) (fun h2 => ?_) <;> simp (maxSteps := 1000000) (disch := omega) only [go_sem, Nat.reduceAdd, Nat.reduceMul, Nat.reduceSub, Nat.reduceEqDiff, Nat.reduceLeDiff, h2] | with_reducible refine guardQ_nb (fun h2 => ?_) (fun h2 => ?_) <;> simp (maxSteps := 1000000) (disch := omega) only [go_sem, Nat.reduceAdd, Nat.reduceMul, Nat.reduceSub, Nat.reduceEqDiff, Nat.reduceLeDiff, h2] | with_reducible refine guardL_nb (fun h2 => ?_) (fun h2 => ?_) <;> simp (maxSteps := 1000000) (disch := omega) only [go_sem, Nat.reduceAdd, Nat.reduceMul, Nat.reduceSub, Nat.reduceEqDiff, Nat.reduceLeDiff, h2] | with_reducible refine guardQ_split (fun h2 => ?_) (fun h2 => ?_) <;> simp (maxSteps := 1000000) (disch := omega) only [go_sem, Nat.reduceAdd, Nat.reduceMul, Nat.reduceSub, Nat.reduceEqDiff, Nat.reduceLeDiff, h2] | with_reducible refine guardL_split (fun h2 => ?_) (fun h2 => ?_) <;> simp (maxSteps := 1000000) (disch := omega) only [go_sem, Nat.reduceAdd, Nat.reduceMul, Nat.reduceSub, Nat.reduceEqDiff, Nat.reduceLeDiff, h2])
  · unfold countV
    rw [if_neg (by omega)]
  (first | with_reducible refine condK_dec (fun h3 => ?_) (fun h3 => ?_) | with_reducible refine condK_ndec (fun h3 => ?_) (fun h3 => ?_) | with_reducible refine condK_nb (fun h3 => ?_) (fun h3 => ?_) | refine condK_b (fun h3 => ?_) (fun h3 => ?_))
  · simp (maxSteps := 1000000) (disch := omega) only [go_sem, Nat.reduceAdd, Nat.reduceMul, Nat.reduceSub, Nat.reduceEqDiff, Nat.reduceLeDiff]
    unfold countV
    rw [if_neg (by omega)]
  obtain ⟨k, rfl⟩ : ∃ k : Nat, most = k := ⟨most.toNat, by omega⟩
  simp (maxSteps := 1000000) (disch := omega) only [go_sem, Nat.reduceAdd, Nat.reduceMul, Nat.reduceSub, Nat.reduceEqDiff, Nat.reduceLeDiff]
  first | refine OpS.mk (first_all h1 k (by omega)) (⟨_, Try.func84, rfl, rfl⟩ : Enters Try.prog 84) rfl rfl rfl rfl rfl ?_ | refine Loud.mk (first_all h1 k (by omega)) (⟨_, Try.func84, rfl, rfl⟩ : Enters Try.prog 84) rfl rfl rfl rfl rfl ?_
  simp (maxSteps := 1000000) (disch := omega) only [go_sem, Nat.reduceAdd, Nat.reduceMul, Nat.reduceSub, Nat.reduceEqDiff, Nat.reduceLeDiff]
  unfold countV
  rw [if_pos ⟨h1, by omega, by omega⟩, Int.toNat_natCast]
theorem onlyOne_run (p : Puz) (hx : smP p) : Reads Try.prog 89 [aP p] (bool (decide (countV p 2 = 1))) := by
  refine RunCall.cw (c := _) Try.func89 rfl (n := 6) Try.ntmps89 (rs := [.tmp 2]) rfl ?_
  simp only [List.length_cons, List.length_nil, Nat.reduceAdd, Nat.reduceSub, List.replicate, List.cons_append, List.nil_append]
  simp (maxSteps := 1000000) (disch := omega) only [go_sem, Nat.reduceAdd, Nat.reduceMul, Nat.reduceSub, Nat.reduceEqDiff, Nat.reduceLeDiff]
  intro g
  first | refine OpS.rd (CountSolutions_run p 2 hx) (⟨_, Try.func57, rfl, rfl⟩ : Enters Try.prog 57) rfl rfl rfl rfl ?_ | refine Loud.rd (CountSolutions_run p 2 hx) (⟨_, Try.func57, rfl, rfl⟩ : Enters Try.prog 57) rfl rfl rfl rfl ?_
  simp (maxSteps := 1000000) (disch := omega) only [go_sem, Nat.reduceAdd, Nat.reduceMul, Nat.reduceSub, Nat.reduceEqDiff, Nat.reduceLeDiff]
theorem wMP_small (p : Puz) : wMP p ≤ 2 * wP p := by
  have := wM_le p.rules
  unfold wMP wP
  omega
end Go.Lg
