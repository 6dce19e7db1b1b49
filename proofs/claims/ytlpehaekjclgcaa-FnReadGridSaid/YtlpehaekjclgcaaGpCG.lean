/- Accepted texts are canonical. -/
import Derived.Test.YtlpehaekjclgcaaGpCF
set_option linter.unusedSimpArgs false
set_option linter.unusedVariables false
set_option maxRecDepth 100000
namespace Go.Lg
open Go.Proofs

attribute [-go_sem] lwF_cons
theorem sub_len {α : Type} (l : List α) (a b : Int) : (sub l a b).length ≤ l.length := by simp [sub]; omega
theorem softW_parts {P : Program} {ops : Array Oper} {o : Oper} {s : List AV} {K : AV → Prop} {t : TypeId} {n : Nat} {ps : Array (Nat × Operand)} {ei : TI} {rs : List (Nat × List CV)} {xs : List FV} (ho : o.op = .buildSlice t n ps) (hn : n ≠ 0) (ht : sliceOf P t = some ei)
    (hp : partsV s ps.toList = some rs) (hq : seqOk ei.size 0 rs = true ∧ rs.length = n) (hc : icedL (catL rs) = some xs) (hz : ei.zero.length = ei.size ∧ n * ei.size ≤ 16777216) (hk : K (.c (.f (.sl n xs)))) : softW P ops o s K := by
  unfold softW
  rw [ho]
  simp only
  rw [if_neg (fun h => hn h.1)]
  unfold softBuild
  simp only [ht, hp, hc]
  rw [if_pos hq]
  exact ⟨hz, hk⟩
theorem mask_rep : ∀ (n : Nat) (H : Heap), H.length ≤ n → ∀ (i : Nat) (b : Blk), (mask (List.replicate n true) H)[i]? ≠ some (some b)
  | 0, H, h, i, b => by
    have : H = [] := List.eq_nil_of_length_eq_zero (by omega)
    subst this
    simp [mask]
  | n + 1, [], h, i, b => by simp [mask, List.replicate_succ]
  | n + 1, x :: H, h, i, b => by
    rw [List.replicate_succ]
    cases i with
    | zero => simp [mask]
    | succ i =>
      simp only [mask, List.getElem?_cons_succ]
      exact mask_rep n H (by simpa using h) i b
theorem okM_rep (H H' : Heap) : okM (List.replicate H.length true) H H' := fun i b h => absurd h (mask_rep _ H (Nat.le_refl _) i b)
def l20TextQ (k : Nat) : KV := fun v _ => ∃ t : List UInt8, v = txt t ∧ t.length ≤ k
theorem l20Text_run (H : Heap) (id g : Nat) (B n : Int) (s : List UInt8) (hr : RdAt H id g B) (hB : B ≤ 2 ^ 38) (hn9 : n ≤ 100) (hs : s.length ≤ 1000) : RunCall Try.prog 54 [.c (.ptr id g 0), txt s, int n] H (l20TextQ (2 * s.length + 1)) := by
  have hlt := hr.lt
  refine RunCall.cw (c := _) Try.func54 rfl (n := 61) Try.ntmps54 (rs := [.tmp 6]) rfl ?_
  simp only [List.length_cons, List.length_nil, Nat.reduceAdd, Nat.reduceSub, List.replicate, List.cons_append, List.nil_append]
  simp (maxSteps := 1000000) (disch := omega) only [go_sem, Nat.reduceAdd, Nat.reduceMul, Nat.reduceSub, Nat.reduceEqDiff, Nat.reduceLeDiff]
  refine OpS.run (odd_run H id g B n hr (by omega) (by omega)) (⟨_, Try.func67, rfl, rfl⟩ : Enters Try.prog 67) rfl rfl ?_
  rintro _ H1 ⟨⟨b, rfl, hb⟩, r1, f1⟩
  simp (maxSteps := 1000000) (disch := omega) only [go_sem, Nat.reduceAdd, Nat.reduceMul, Nat.reduceSub, Nat.reduceEqDiff, Nat.reduceLeDiff]
  (first | with_reducible refine condK_dec (fun h1 => ?_) (fun h1 => ?_) | with_reducible refine condK_ndec (fun h1 => ?_) (fun h1 => ?_) | with_reducible refine condK_nb (fun h1 => ?_) (fun h1 => ?_) | refine condK_b (fun h1 => ?_) (fun h1 => ?_))
  · simp (maxSteps := 1000000) (disch := omega) only [go_sem, Nat.reduceAdd, Nat.reduceMul, Nat.reduceSub, Nat.reduceEqDiff, Nat.reduceLeDiff]
    refine OpS.run (pick_run _ id g _ _ r1 (by omega)) (⟨_, Try.func66, rfl, rfl⟩ : Enters Try.prog 66) rfl rfl ?_
    rintro _ H2 ⟨⟨at_, rfl, a0, a1⟩, r2, f2⟩
    have a1 := a1 (by omega)
    obtain ⟨i, rfl⟩ : ∃ i : Nat, at_ = i := ⟨at_.toNat, by omega⟩
    have hi : i ≤ s.length := by omega
    simp (maxSteps := 1000000) (disch := omega) only [go_sem, Nat.reduceAdd, Nat.reduceMul, Nat.reduceSub, Nat.reduceEqDiff, Nat.reduceLeDiff]
    have q1 := sub_len s 0 i
    have q2 := sub_len s i s.length
    have q3 := sub_len s (min (s.length : Int) ((i : Int) + 1)) s.length
    refine drawP_lM [0, 1, 2, 3, 4, 5, 6, 7, 8, 9, 10, 11, 12, 13, 14, 15, 16, 17, 18, 19, 20, 21, 22, 23, 24, 25, 26, 27, 28, 29, 30, 31, 32, 33, 34, 35, 36, 37, 38, 39, 40] [38] none [41, 42, 43] (List.replicate H2.length true) [0, 1, 0, 0, 12, 0, 0, 96, 224, 0, 0, 1536, 4064, 0, 0, 24576, 0, 0, 131072, 0, 524288, 1966080, 4128768, 8380416, 0, 16777216, 0, 0, 201326592, 469762048, 0, 0, 2147483648, 0, 8589934592, 32212254720, 67645734912, 137371844608, 274877906943, 0, 549755813888, 2199023255551, 4398046511103, 8796093022207] foll (by kernel_rfl) ?_
    iterate 38 (rw [lwF_cons]; simp (maxSteps := 1000000) (disch := omega) only [go_sem, Nat.reduceAdd, Nat.reduceMul, Nat.reduceSub, Nat.reduceEqDiff, Nat.reduceLeDiff])
    rw [lwF_cons]
    simp only [List.getElem?_toArray, List.getElem?_cons_succ, List.getElem?_cons_zero, lwO_some, reduceCtorEq, if_false, lwOne_op, isVal, Bool.false_eq_true, List.contains_cons, List.contains_nil, BEq.rfl, Bool.true_or, Bool.or_true, if_true]
    refine softW_parts (n := 7) rfl (by decide) (sliceOf_of' ti31 rfl ti9) rfl ⟨rfl, rfl⟩ rfl ⟨rfl, by decide⟩ ?_
    change lwS _ _ _ _ _ _ _ _ _ _ _ (rsl eS [[], s ++ [32], sub s 0 i, sub s 0 i ++ [46] ++ sub s i s.length, sub s 0 i ++ sub s (min (s.length : Int) ((i : Int) + 1)) s.length, 32 :: s, sub s 0 i ++ [120] ++ sub s (min (s.length : Int) ((i : Int) + 1)) s.length])
    have hall : ∀ t ∈ [[], s ++ [32], sub s 0 i, sub s 0 i ++ [46] ++ sub s i s.length, sub s 0 i ++ sub s (min (s.length : Int) ((i : Int) + 1)) s.length, 32 :: s, sub s 0 i ++ [120] ++ sub s (min (s.length : Int) ((i : Int) + 1)) s.length], t.length ≤ 2 * s.length + 1 := by
      intro t ht
      simp only [List.mem_cons, List.not_mem_nil, or_false] at ht
      rcases ht with rfl | rfl | rfl | rfl | rfl | rfl | rfl <;> (try simp) <;> omega
    generalize hL : [[], s ++ [32], sub s 0 i, sub s 0 i ++ [46] ++ sub s i s.length, sub s 0 i ++ sub s (min (s.length : Int) ((i : Int) + 1)) s.length, 32 :: s, sub s 0 i ++ [120] ++ sub s (min (s.length : Int) ((i : Int) + 1)) s.length] = L at hall ⊢
    have hl7 : L.length = 7 := by rw [← hL]; rfl
    clear hL
    rw [lwS_ap, lwF_cons]
    simp (maxSteps := 1000000) (disch := omega) only [go_sem, Nat.reduceAdd, Nat.reduceMul, Nat.reduceSub, Nat.reduceEqDiff, Nat.reduceLeDiff]
    rw [lwF_cons]
    simp (maxSteps := 1000000) (disch := omega) only [go_sem, Nat.reduceAdd, Nat.reduceMul, Nat.reduceSub, Nat.reduceEqDiff, Nat.reduceLeDiff]
    refine Loud.run (pick_run _ id g _ _ r2 (by omega)) (⟨_, Try.func66, rfl, rfl⟩ : Enters Try.prog 66) rfl rfl ?_
    rintro _ H3 ⟨⟨y, rfl, y0, y1⟩, r3, f3⟩
    have y1 := y1 (by omega)
    obtain ⟨yn, rfl⟩ : ∃ yn : Nat, y = yn := ⟨y.toNat, by omega⟩
    have hyl : yn < L.length := by omega
    refine ⟨okM_rep _ _, ?_⟩
    simp (maxSteps := 1000000) (disch := omega) only [go_sem, Nat.reduceAdd, Nat.reduceMul, Nat.reduceSub, Nat.reduceEqDiff, Nat.reduceLeDiff]
    refine ⟨[], hle_nil _, nth L yn, rfl, hall _ ?_⟩
    rw [nth_eq (by omega)]
    exact List.getElem_mem _
  · simp (maxSteps := 1000000) (disch := omega) only [go_sem, Nat.reduceAdd, Nat.reduceMul, Nat.reduceSub, Nat.reduceEqDiff, Nat.reduceLeDiff]
    exact ⟨[], hle_nil _, s, rfl, by omega⟩
theorem DrawReadGrid_run (code : List Int) (hb : ∀ x ∈ code, 0 ≤ x ∧ x ≤ 255) (hl : code.length ≤ 2 ^ 40) : RunCall Try.prog 30 [rsl (eI .u8) code] [] (fun v _ => ∃ t : List UInt8, v = txt t ∧ t.length ≤ 100) := by
  refine RunCall.cw (c := _) Try.func30 rfl (n := 18) Try.ntmps30 (rs := [.tmp 2]) rfl ?_
  simp only [List.length_cons, List.length_nil, Nat.reduceAdd, Nat.reduceSub, List.replicate, List.cons_append, List.nil_append]
  simp (maxSteps := 1000000) (disch := omega) only [go_sem, Nat.reduceAdd, Nat.reduceMul, Nat.reduceSub, Nat.reduceEqDiff, Nat.reduceLeDiff]
  refine OpS.run (l20Open_run code hb hl) (⟨_, Try.func51, rfl, rfl⟩ : Enters Try.prog 51) rfl rfl ?_
  rintro _ H1 ⟨g, rfl, r1, hl1⟩
  simp (maxSteps := 1000000) (disch := omega) only [go_sem, Nat.reduceAdd, Nat.reduceMul, Nat.reduceSub, Nat.reduceEqDiff, Nat.reduceLeDiff]
  refine OpS.run (l20Grid_run H1 0 g 0 0 r1 (by omega) (by omega)) (⟨_, Try.func50, rfl, rfl⟩ : Enters Try.prog 50) rfl rfl ?_
  rintro _ H2 ⟨c, z, xs, rfl, h1, h2, r2, _⟩
  have hgl : (gridText xs z).length ≤ 18 := by
    unfold gridText
    split
    · simp; omega
    · simp
  have hsn : snapD H2 (.c c) = some (ints xs) := by simp only [snapD, h1, Option.map_some]
  simp (maxSteps := 1000000) (disch := omega) only [go_sem, Nat.reduceAdd, Nat.reduceMul, Nat.reduceSub, Nat.reduceEqDiff, Nat.reduceLeDiff]
  refine OpS.rdD (sGridText_run xs z (by omega)) (⟨_, Try.func12, rfl, rfl⟩ : Enters Try.prog 12) rfl rfl (snap_two hsn snapD_int) rfl ?_
  simp (maxSteps := 1000000) (disch := omega) only [go_sem, Nat.reduceAdd, Nat.reduceMul, Nat.reduceSub, Nat.reduceEqDiff, Nat.reduceLeDiff]
  refine OpS.run (l20Text_run H2 0 g _ 3 _ r2 (by omega) (by omega) (by omega)) (⟨_, Try.func54, rfl, rfl⟩ : Enters Try.prog 54) rfl rfl ?_
  rintro _ H3 ⟨t, rfl, ht⟩
  simp (maxSteps := 1000000) (disch := omega) only [go_sem, Nat.reduceAdd, Nat.reduceMul, Nat.reduceSub, Nat.reduceEqDiff, Nat.reduceLeDiff]
  exact ⟨[], hle_nil _, t, rfl, by omega⟩
theorem rd_no {t : List UInt8} (h : (rdGrid t).2.2 = false) : rdGrid t = ([], 0, false) := by unfold rdGrid at h ⊢; split <;> simp_all
theorem rd_yes {t : List UInt8} (h : (rdGrid t).2.2 = true) : 2 ≤ t.length ∧ rdGrid t = (cellsIn t, chr t 0 - 48, true) ∧ gridText (cellsIn t) (chr t 0 - 48) = t := by
  unfold rdGrid at h ⊢
  split
  · rename_i h2
    exact ⟨h2.1, rfl, h2.2⟩
  · rename_i h2
    rw [if_neg h2] at h
    cases h
theorem rd_more {t : List UInt8} (h : (rdGrid t).2.2 = true) : (rdGrid (t ++ [46])).2.2 = false := by
  obtain ⟨h1, _, h3⟩ := rd_yes h
  cases hc : (rdGrid (t ++ [46])).2.2 with
  | false => rfl
  | true =>
    exfalso
    obtain ⟨k1, _, k3⟩ := rd_yes hc
    have valid : ∀ {xs : List Int} {n : Int} {u : List UInt8}, 2 ≤ u.length → gridText xs n = u → gridValid xs n = true := fun {xs n u} hu he => by
      cases hv : gridValid xs n with
      | true => rfl
      | false =>
        have : gridText xs n = [] := by simp [gridText, hv]
        rw [this] at he
        rw [← he] at hu
        simp at hu
    have v1 := (gridValid_bound (valid h1 h3)).2.2.1
    have v2 := (gridValid_bound (valid k1 k3)).2.2.1
    rw [cellsIn_length] at v1 v2
    have e : chr (t ++ [46]) 0 = chr t 0 := by
      cases t with
      | nil => simp at h1
      | cons a t => rfl
    rw [e] at v2
    rw [List.length_append, List.length_singleton] at v2
    omega
theorem law_FnReadGrid (code : List Int) (hl : code.length ≤ 9223372036854775807) (hw : ∀ x ∈ code, (Lit.int .u8 x).wf = true) : Reads Try.prog 8 [rsl (eI .u8) code] (bool true) := by
  refine RunCall.cw (c := _) Try.func8 rfl (n := 72) Try.ntmps8 (rs := [.tmp 2]) rfl ?_
  simp only [List.length_cons, List.length_nil, Nat.reduceAdd, Nat.reduceSub, List.replicate, List.cons_append, List.nil_append]
  simp (maxSteps := 1000000) (disch := omega) only [go_sem, Nat.reduceAdd, Nat.reduceMul, Nat.reduceSub, Nat.reduceEqDiff, Nat.reduceLeDiff]
  (first | with_reducible refine condK_dec (fun h1 => ?_) (fun h1 => ?_) | with_reducible refine condK_ndec (fun h1 => ?_) (fun h1 => ?_) | with_reducible refine condK_nb (fun h1 => ?_) (fun h1 => ?_) | refine condK_b (fun h1 => ?_) (fun h1 => ?_))
  · simp (maxSteps := 1000000) (disch := omega) only [go_sem, Nat.reduceAdd, Nat.reduceMul, Nat.reduceSub, Nat.reduceEqDiff, Nat.reduceLeDiff]
  simp (maxSteps := 1000000) (disch := omega) only [go_sem, Nat.reduceAdd, Nat.reduceMul, Nat.reduceSub, Nat.reduceEqDiff, Nat.reduceLeDiff]
  refine OpS.mkF (Q := fun v => ∃ t : List UInt8, v = txt t ∧ t.length ≤ 100) (DrawReadGrid_run code (wf_u8 hw) (by omega)) (⟨_, Try.func30, rfl, rfl⟩ : Enters Try.prog 30) rfl rfl rfl ?_
  rintro _ ⟨t, rfl, ht⟩
  refine ⟨rfl, rfl, ?_⟩
  simp (maxSteps := 1000000) (disch := omega) only [go_sem, Nat.reduceAdd, Nat.reduceMul, Nat.reduceSub, Nat.reduceEqDiff, Nat.reduceLeDiff]
  have hlc : (rdGrid t).1.length ≤ 100 := by
    unfold rdGrid
    split
    · rw [cellsIn_length]; omega
    · simp
  have ha := ReadGrid_rd t (by omega)
  have hb := sReadGrid_run t (by omega)
  cases hok : (rdGrid t).2.2 with
  | false =>
    rw [rd_no hok] at ha hb
    first | refine OpS.mk (ha) (⟨_, Try.func17, rfl, rfl⟩ : Enters Try.prog 17) rfl rfl rfl rfl rfl ?_ | refine Loud.mk (ha) (⟨_, Try.func17, rfl, rfl⟩ : Enters Try.prog 17) rfl rfl rfl rfl rfl ?_
    simp (maxSteps := 1000000) (disch := omega) only [go_sem, Nat.reduceAdd, Nat.reduceMul, Nat.reduceSub, Nat.reduceEqDiff, Nat.reduceLeDiff]
    first | refine OpS.mk (hb) (⟨_, Try.func16, rfl, rfl⟩ : Enters Try.prog 16) rfl rfl rfl rfl rfl ?_ | refine Loud.mk (hb) (⟨_, Try.func16, rfl, rfl⟩ : Enters Try.prog 16) rfl rfl rfl rfl rfl ?_
    simp (maxSteps := 1000000) (disch := omega) only [go_sem, Nat.reduceAdd, Nat.reduceMul, Nat.reduceSub, Nat.reduceEqDiff, Nat.reduceLeDiff]
    first | refine OpS.rd (sameInts_run [] [] (by simp)) (⟨_, Try.func29, rfl, rfl⟩ : Enters Try.prog 29) rfl rfl rfl rfl ?_ | refine Loud.rd (sameInts_run [] [] (by simp)) (⟨_, Try.func29, rfl, rfl⟩ : Enters Try.prog 29) rfl rfl rfl rfl ?_
    simp (maxSteps := 1000000) (disch := omega) only [go_sem, Nat.reduceAdd, Nat.reduceMul, Nat.reduceSub, Nat.reduceEqDiff, Nat.reduceLeDiff]
    (first | with_reducible refine guardK_dec (fun h5 => ?_) (fun h5 => ?_) <;> simp (maxSteps := 1000000) (disch := omega) only [go_sem, Nat.reduceAdd, Nat.reduceMul, Nat.reduceSub, Nat.reduceEqDiff, Nat.reduceLeDiff, h5] | with_reducible refine guardK_ndec (fun h5 => ?_) (fun h5 => ?_) <;> simp (maxSteps := 1000000) (disch := omega) only [go_sem, Nat.reduceAdd, Nat.reduceMul, Nat.reduceSub, Nat.reduceEqDiff, Nat.reduceLeDiff, h5] | with_reducible refine guardK_nb (fun h5 => ?_) (fun h5 => ?_) <;> simp (maxSteps := 1000000) (disch := omega) only [go_sem, Nat.reduceAdd, Nat.reduceMul, Nat.reduceSub, Nat.reduceEqDiff, Nat.reduceLeDiff, h5] | with_reducible refine guardK_split (fun h5 => ?_) (fun h5 => ?_) <;> simp (maxSteps := 1000000) (disch := omega) only [go_sem, Nat.reduceAdd, Nat.reduceMul, Nat.reduceSub, Nat.reduceEqDiff, Nat.reduceLeDiff, h5] | with_reducible refine guardQ_dec (fun h5 => ?_) (fun h5 => ?_) <;> simp (maxSteps := 1000000) (disch := omega) only [go_sem, Nat.reduceAdd, Nat.reduceMul, Nat.reduceSub, Nat.reduceEqDiff, Nat.reduceLeDiff, h5] | with_reducible refine guardL_dec (fun h5 => ?_) (fun h5 => ?_) <;> simp (maxSteps := 1000000) (disch := omega) only [go_sem, Nat.reduceAdd, Nat.reduceMul, Nat.reduceSub, Nat.reduceEqDiff, Nat.reduceLeDiff, h5] | with_reducible refine guardQ_ndec (fun h5 => ?_) (fun h5 => ?_) <;> simp (maxSteps := 1000000) (disch := omega) only [go_sem, Nat.reduceAdd, Nat.reduceMul, Nat.reduceSub, Nat.reduceEqDiff, Nat.reduceLeDiff, h5] | with_reducible refine guardL_ndec (fun h5 => ?_) (fun h5 => ?_) <;> simp (maxSteps := 1000000) (disch := omega) only [go_sem, Nat.reduceAdd, Nat.reduceMul, Nat.reduceSub, Nat.reduceEqDiff, Nat.reduceLeDiff, h5] | with_reducible refine guardQ_nb (fun h5 => ?_) (fun h5 => ?_) <;> simp (maxSteps := 1000000) (disch := omega) only [go_sem, Nat.reduceAdd, Nat.reduceMul, Nat.reduceSub, Nat.reduceEqDiff, Nat.reduceLeDiff, h5] | with_reducible refine guardL_nb (fun h5 => ?_) (fun h5 => ?_) <;> simp (maxSteps := 1000000) (disch := omega) only [go_sem, Nat.reduceAdd, Nat.reduceMul, Nat.reduceSub, Nat.reduceEqDiff, Nat.reduceLeDiff, h5] | with_reducible refine guardQ_split (fun h5 => ?_) (fun h5 => ?_) <;> simp (maxSteps := 1000000) (disch := omega) only [go_sem, Nat.reduceAdd, Nat.reduceMul, Nat.reduceSub, Nat.reduceEqDiff, Nat.reduceLeDiff, h5] | with_reducible refine guardL_split (fun h5 => ?_) (fun h5 => ?_) <;> simp (maxSteps := 1000000) (disch := omega) only [go_sem, Nat.reduceAdd, Nat.reduceMul, Nat.reduceSub, Nat.reduceEqDiff, Nat.reduceLeDiff, h5])
    · first | refine OpS.rd (alive_run) (⟨_, Try.func26, rfl, rfl⟩ : Enters Try.prog 26) rfl rfl rfl rfl ?_ | refine Loud.rd (alive_run) (⟨_, Try.func26, rfl, rfl⟩ : Enters Try.prog 26) rfl rfl rfl rfl ?_
      simp (maxSteps := 1000000) (disch := omega) only [go_sem, Nat.reduceAdd, Nat.reduceMul, Nat.reduceSub, Nat.reduceEqDiff, Nat.reduceLeDiff]
    · exact absurd rfl h5
  | true =>
    obtain ⟨k1, k2, k3⟩ := rd_yes hok
    have hm := rd_more hok
    have hc := ReadGrid_rd (t ++ [46]) (by simp; omega)
    rw [rd_no hm] at hc
    rw [k2] at ha hb
    have hlc : (cellsIn t).length ≤ 100 := by rw [cellsIn_length]; omega
    first | refine OpS.mk (ha) (⟨_, Try.func17, rfl, rfl⟩ : Enters Try.prog 17) rfl rfl rfl rfl rfl ?_ | refine Loud.mk (ha) (⟨_, Try.func17, rfl, rfl⟩ : Enters Try.prog 17) rfl rfl rfl rfl rfl ?_
    simp (maxSteps := 1000000) (disch := omega) only [go_sem, Nat.reduceAdd, Nat.reduceMul, Nat.reduceSub, Nat.reduceEqDiff, Nat.reduceLeDiff]
    first | refine OpS.mk (hb) (⟨_, Try.func16, rfl, rfl⟩ : Enters Try.prog 16) rfl rfl rfl rfl rfl ?_ | refine Loud.mk (hb) (⟨_, Try.func16, rfl, rfl⟩ : Enters Try.prog 16) rfl rfl rfl rfl rfl ?_
    simp (maxSteps := 1000000) (disch := omega) only [go_sem, Nat.reduceAdd, Nat.reduceMul, Nat.reduceSub, Nat.reduceEqDiff, Nat.reduceLeDiff]
    first | refine OpS.rd (sameInts_run (cellsIn t) (cellsIn t) (by omega)) (⟨_, Try.func29, rfl, rfl⟩ : Enters Try.prog 29) rfl rfl rfl rfl ?_ | refine Loud.rd (sameInts_run (cellsIn t) (cellsIn t) (by omega)) (⟨_, Try.func29, rfl, rfl⟩ : Enters Try.prog 29) rfl rfl rfl rfl ?_
    simp (maxSteps := 1000000) (disch := omega) only [go_sem, Nat.reduceAdd, Nat.reduceMul, Nat.reduceSub, Nat.reduceEqDiff, Nat.reduceLeDiff]
    first | refine OpS.mk (hc) (⟨_, Try.func17, rfl, rfl⟩ : Enters Try.prog 17) rfl rfl rfl rfl rfl ?_ | refine Loud.mk (hc) (⟨_, Try.func17, rfl, rfl⟩ : Enters Try.prog 17) rfl rfl rfl rfl rfl ?_
    simp (maxSteps := 1000000) (disch := omega) only [go_sem, Nat.reduceAdd, Nat.reduceMul, Nat.reduceSub, Nat.reduceEqDiff, Nat.reduceLeDiff]
    first | refine OpS.mk (GridText_run (cellsIn t) (chr t 0 - 48) (by omega)) (⟨_, Try.func14, rfl, rfl⟩ : Enters Try.prog 14) rfl rfl rfl rfl rfl ?_ | refine Loud.mk (GridText_run (cellsIn t) (chr t 0 - 48) (by omega)) (⟨_, Try.func14, rfl, rfl⟩ : Enters Try.prog 14) rfl rfl rfl rfl rfl ?_
    simp (maxSteps := 1000000) (disch := omega) only [go_sem, Nat.reduceAdd, Nat.reduceMul, Nat.reduceSub, Nat.reduceEqDiff, Nat.reduceLeDiff]
    (first | with_reducible refine guardK_dec (fun h5 => ?_) (fun h5 => ?_) <;> simp (maxSteps := 1000000) (disch := omega) only [go_sem, Nat.reduceAdd, Nat.reduceMul, Nat.reduceSub, Nat.reduceEqDiff, Nat.reduceLeDiff, h5] | with_reducible refine guardK_ndec (fun h5 => ?_) (fun h5 => ?_) <;> simp (maxSteps := 1000000) (disch := omega) only [go_sem, Nat.reduceAdd, Nat.reduceMul, Nat.reduceSub, Nat.reduceEqDiff, Nat.reduceLeDiff, h5] | with_reducible refine guardK_nb (fun h5 => ?_) (fun h5 => ?_) <;> simp (maxSteps := 1000000) (disch := omega) only [go_sem, Nat.reduceAdd, Nat.reduceMul, Nat.reduceSub, Nat.reduceEqDiff, Nat.reduceLeDiff, h5] | with_reducible refine guardK_split (fun h5 => ?_) (fun h5 => ?_) <;> simp (maxSteps := 1000000) (disch := omega) only [go_sem, Nat.reduceAdd, Nat.reduceMul, Nat.reduceSub, Nat.reduceEqDiff, Nat.reduceLeDiff, h5] | with_reducible refine guardQ_dec (fun h5 => ?_) (fun h5 => ?_) <;> simp (maxSteps := 1000000) (disch := omega) only [go_sem, Nat.reduceAdd, Nat.reduceMul, Nat.reduceSub, Nat.reduceEqDiff, Nat.reduceLeDiff, h5] | with_reducible refine guardL_dec (fun h5 => ?_) (fun h5 => ?_) <;> simp (maxSteps := 1000000) (disch := omega) only [go_sem, Nat.reduceAdd, Nat.reduceMul, Nat.reduceSub, Nat.reduceEqDiff, Nat.reduceLeDiff, h5] | with_reducible refine guardQ_ndec (fun h5 => ?_) (fun h5 => ?_) <;> simp (maxSteps := 1000000) (disch := omega) only [go_sem, Nat.reduceAdd, Nat.reduceMul, Nat.reduceSub, Nat.reduceEqDiff, Nat.reduceLeDiff, h5] | with_reducible refine guardL_ndec (fun h5 => ?_) (fun h5 => ?_) <;> simp (maxSteps := 1000000) (disch := omega) only [go_sem, Nat.reduceAdd, Nat.reduceMul, Nat.reduceSub, Nat.reduceEqDiff, Nat.reduceLeDiff, h5] | with_reducible refine guardQ_nb (fun h5 => ?_) (fun h5 => ?_) <;> simp (maxSteps := 1000000) (disch := omega) only [go_sem, Nat.reduceAdd, Nat.reduceMul, Nat.reduceSub, Nat.reduceEqDiff, Nat.reduceLeDiff, h5] | with_reducible refine guardL_nb (fun h5 => ?_) (fun h5 => ?_) <;> simp (maxSteps := 1000000) (disch := omega) only [go_sem, Nat.reduceAdd, Nat.reduceMul, Nat.reduceSub, Nat.reduceEqDiff, Nat.reduceLeDiff, h5] | with_reducible refine guardQ_split (fun h5 => ?_) (fun h5 => ?_) <;> simp (maxSteps := 1000000) (disch := omega) only [go_sem, Nat.reduceAdd, Nat.reduceMul, Nat.reduceSub, Nat.reduceEqDiff, Nat.reduceLeDiff, h5] | with_reducible refine guardL_split (fun h5 => ?_) (fun h5 => ?_) <;> simp (maxSteps := 1000000) (disch := omega) only [go_sem, Nat.reduceAdd, Nat.reduceMul, Nat.reduceSub, Nat.reduceEqDiff, Nat.reduceLeDiff, h5])
    · exact absurd k3 h5
end Go.Lg
