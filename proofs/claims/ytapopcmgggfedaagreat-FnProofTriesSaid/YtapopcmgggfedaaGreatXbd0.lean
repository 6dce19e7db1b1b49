/- GpMC, cut to what is needed. -/
import Derived.Test.YtapopcmgggfedaaGreatXbc9
open Nat renaming reduceAdd → zA, reduceMul → zM, reduceSub → zS, reduceEqDiff → zE, reduceLeDiff → zL
set_option linter.unusedSimpArgs false
set_option linter.unusedVariables false
set_option maxRecDepth 100000
namespace Go.Lg
open Go.Proofs
set_option maxHeartbeats 4000000 in
theorem NarrowSingles_run {n : Nat} (hn : n = 2 ∨ n = 3 ∨ n = 4) (ms : List Nat) (hm : MsN ms n) : Reads Tryz.prog 72 [ints (nats ms), int n] (ints (nats (sglM ms n))) := by
  have hsq : 4 ≤ n * n ∧ n * n ≤ 16 := by rcases hn with rfl | rfl | rfl <;> omega
  have hl : (nats ms).length = n * n := by rw [nats_len]; exact hm.len
  refine Reads.own ?_
  refine RunCall.cw (c := _) Tryz.func72 rfl (n := 65) Tryz.ntmps72 (rs := [.tmp 4]) rfl ?_
  simp only[List.length_cons,List.length_nil,zA,zS,List.replicate,List.cons_append,List.nil_append]
  simp(maxSteps:=999999)(disch:=omega)only[go_sem,zA,zM,zS,zE,zL]
  first | refine OpS.rd (MasksValid_run hn ms hm) (⟨_, Tryz.func30, rfl, rfl⟩ : Enters Tryz.prog 30) rfl rfl rfl rfl ?_ | refine Loud.rd (MasksValid_run hn ms hm) (⟨_, Tryz.func30, rfl, rfl⟩ : Enters Tryz.prog 30) rfl rfl rfl rfl ?_
  simp(maxSteps:=999999)(disch:=omega)only[go_sem,zA,zM,zS,zE,zL]
  refine OpS.mkQ (Clone_q (nats ms) (by omega) (by intro h; rw [h] at hl; simp at hl; omega)) (⟨_, Tryz.func31, rfl, rfl⟩ : Enters Tryz.prog 31) rfl rfl rfl ?_
  rintro _ _ ⟨g, rfl, rfl⟩
  refine ⟨rfl, ?_⟩
  simp(maxSteps:=999999)(disch:=omega)only[go_sem,zA,zM,zS,zE,zL]
  rw [hl]
  refine loop_rule (fun i : Nat => n * n - i) (fun i => i ≤ n * n) (fun i => [.a, .k, .a, .a, .a, .k, .a, .a, .a, .a, .a, .a, .a, .a, .a, .a, .a, .k, .k, .p (int i), .a, .a, .a, .a, .a, .a, .a, .a, .a, .a, .a, .a, .a, .a, .a, .a, .a, .a, .a, .a, .a, .a, .a, .a, .a, .a, .a, .a, .a, .a, .a, .a, .a, .a, .a, .a, .a, .a, .a, .a, .a, .a, .a, .a, .a]) (fun i => [some ⟨g, 1, cl (eI .i64) (nats (clrL ((List.range i).flatMap (sglA ms n)) ms))⟩]) 0 (Nat.zero_le _) (by simp(maxSteps:=999999)(disch:=omega)only[go_sem,zA,zM,zS,zE,zL]; rfl) (HLe.refl _) ?_
  intro i hi
  have hrs := flat_succ (sglA ms n) i
  have hok := fun R => clrL_ok R hm
  have hlt := fun R k => (hok R).lt hn k
  have hll := fun R : List (Nat × Nat) => (clrL_len R ms).trans hm.len
  generalize hR : (List.range i).flatMap (sglA ms n) = R at hrs ⊢
  simp(maxSteps:=999999)(disch:=omega)only[go_sem,zA,zM,zS,zE,zL]
  ((first|(with_reducible first|refine condK_dec ?_ ?_|refine condK_ndec ?_ ?_|refine condK_nb ?_ ?_)|refine condK_b ?_ ?_) <;> intro h1)
  · have h1 : i < n * n := by omega
    have hmi := hm.lt hn i
    have hni := nth_nats ms i
    simp(maxSteps:=999999)(disch:=omega)only[go_sem,zA,zM,zS,zE,zL, hni]
    first | refine OpS.rd (onlyValue_run (mAt ms i) hmi.1) (⟨_, Tryz.func34, rfl, rfl⟩ : Enters Tryz.prog 34) rfl rfl rfl rfl ?_ | refine Loud.rd (onlyValue_run (mAt ms i) hmi.1) (⟨_, Tryz.func34, rfl, rfl⟩ : Enters Tryz.prog 34) rfl rfl rfl rfl ?_
    simp(maxSteps:=999999)(disch:=omega)only[go_sem,zA,zM,zS,zE,zL]
    ((first|(with_reducible first|refine condK_dec ?_ ?_|refine condK_ndec ?_ ?_|refine condK_nb ?_ ?_)|refine condK_b ?_ ?_) <;> intro h2)
    · have h2 : onlyV (mAt ms i) = 0 := by exact_mod_cast h2
      have hA : sglA ms n i = [] := if_pos h2
      rw [hA, List.append_nil] at hrs
      simp(maxSteps:=999999)(disch:=omega)only[go_sem,zA,zM,zS,zE,zL]
      exact ⟨i + 1, ⟨by omega, by omega⟩, by push_cast; rfl, by rw [hrs]; exact HLe.refl _⟩
    · have h2 : onlyV (mAt ms i) ≠ 0 := fun h => h2 (by rw [h]; rfl)
      have hA : sglA ms n i = (List.range n).flatMap (sglK ms n i) := if_neg h2
      rw [hA] at hrs
      clear hA
      obtain ⟨d, hd⟩ : ∃ d, d = i / n := ⟨_, rfl⟩
      obtain ⟨e, he⟩ : ∃ e, e = i % n := ⟨_, rfl⟩
      have hid : (i : Int).tdiv (n : Int) = ((d : Nat) : Int) := by rw [hd]; rfl
      have him : (i : Int).tmod (n : Int) = ((e : Nat) : Int) := by rw [he]; rfl
      have hd2 : d < n := by rw [hd, Nat.div_lt_iff_lt_mul (by omega)]; exact h1
      have he2 : e < n := by rw [he]; exact Nat.mod_lt _ (by omega)
      simp(maxSteps:=999999)(disch:=omega)only[go_sem,zA,zM,zS,zE,zL]
      refine loop_rule (fun k : Nat => n - k) (fun k => k ≤ n) (fun k => [.a, .k, .a, .a, .a, .k, .k, .k, .a, .a, .a, .a, .a, .a, .a, .a, .a, .k, .k, .k, .a, .a, .a, .a, .a, .a, .a, .k, .p (int k), .a, .a, .a, .a, .a, .a, .a, .a, .a, .a, .a, .a, .a, .a, .a, .a, .a, .a, .a, .a, .a, .a, .a, .a, .a, .a, .a, .a, .a, .a, .a, .a, .a, .a, .a, .a]) (fun k => [some ⟨g, 1, cl (eI .i64) (nats (clrL (R ++ (List.range k).flatMap (sglK ms n i)) ms))⟩]) 0 (Nat.zero_le _) (by simp(maxSteps:=999999)(disch:=omega)only[go_sem,zA,zM,zS,zE,zL]; rfl) (by simp only [List.range_zero, List.flatMap_nil, List.append_nil]; exact HLe.refl _) ?_
      intro k hk
      have hks := flat_succ (sglK ms n i) k
      have hkd : sglK ms n i k = sglI ms n i (d * n + k) ++ sglI ms n i (k * n + e) := by rw [hd, he]; rfl
      generalize hS : (List.range k).flatMap (sglK ms n i) = S at hks ⊢
      simp(maxSteps:=999999)(disch:=omega)only[go_sem,zA,zM,zS,zE,zL]
      ((first|(with_reducible first|refine condK_dec ?_ ?_|refine condK_ndec ?_ ?_|refine condK_nb ?_ ?_)|refine condK_b ?_ ?_) <;> intro h3)
      · have h3 : k < n := by omega
        have hb : (d * n + k < n * n ∧ d * n ≤ 16) ∧ (k * n + e < n * n ∧ k * n ≤ 16) := by rcases hn with rfl | rfl | rfl <;> omega
        have hb1 : 0 ≤ (d : Int) * n ∧ (d : Int) * n ≤ 16 := by have := hb.1.2; exact ⟨by omega, by exact_mod_cast this⟩
        have hb2 : 0 ≤ (k : Int) * n ∧ (k : Int) * n ≤ 16 := by have := hb.2.2; exact ⟨by omega, by exact_mod_cast this⟩
        simp(maxSteps:=999999)(disch:=omega)only[go_sem,zA,zM,zS,zE,zL]
        refine drawP_lF [0, 1, 2, 3, 4, 5, 6, 7, 8, 9, 10, 11, 12, 13, 16, 14, 15] [] none [] [] foll (by kernel_rfl) ?_
        simp(maxSteps:=999999)(disch:=omega)only[go_sem,Nat.reduceBEq,Bool.true_or,zA,zM,zS,zE,zL]
        intro g2
        have hw1 : IntKind.i64.wrap (IntKind.i64.wrap ((d : Int) * n) + k) = ((d * n + k : Nat) : Int) := by
          rw [ok_i64 (n := (d : Int) * n) (by omega), ok_i64 (by omega)]
          push_cast
          rfl
        have hw2 : (k : Int) * n + (e : Int) = ((k * n + e : Nat) : Int) := by push_cast; rfl
        rw [hid, him, hw1, hw2]
        have hba := hb.1.1
        have hbb := hb.2.1
        clear hw1 hw2 hb1 hb2 hb
        generalize d * n + k = a at hkd hba ⊢
        generalize k * n + e = b at hkd hbb ⊢
        refine loop_rule (fun j : Nat => 2 - j) (fun j => j ≤ 2) (fun j => [.a, .k, .a, .a, .a, .k, .k, .k, .a, .a, .a, .a, .a, .a, .a, .a, .a, .k, .k, .k, .a, .a, .a, .a, .a, .a, .a, .k, .k, .a, .a, .a, .a, .a, .a, .a, .a, .a, .a, .a, .a, .a, .a, .a, .a, .k, .k, .p (int j), .a, .a, .a, .a, .a, .a, .a, .a, .a, .a, .a, .a, .a, .a, .a, .a, .a]) (fun j => [some ⟨g, 1, cl (eI .i64) (nats (clrL (R ++ (S ++ ([sglI ms n i a, sglI ms n i b].take j).flatten)) ms))⟩, some ⟨g2, 1, [.f (.int .i64 (a : Int)), .f (.int .i64 (b : Int))]⟩]) 0 (Nat.zero_le _) (by simp(maxSteps:=999999)(disch:=omega)only[go_sem,zA,zM,zS,zE,zL]; rfl) (by simp only [List.take_zero, List.flatten_nil, List.append_nil]; exact HLe.refl _) ?_
        intro j hj
        simp(maxSteps:=999999)(disch:=omega)only[go_sem,zA,zM,zS,zE,zL]
        ((first|(with_reducible first|refine condK_dec ?_ ?_|refine condK_ndec ?_ ?_|refine condK_nb ?_ ?_)|refine condK_b ?_ ?_) <;> intro h4)
        · have h4 : j = 0 ∨ j = 1 := by omega
          rcases h4 with rfl | rfl
          · skip
            have hld : ldP (some ⟨g2, 1, [.f (.int .i64 (a : Int)), .f (.int .i64 (b : Int))]⟩) (0 + ((0 : Nat) : Int).toNat * 1) = some (int a) := rfl
            obtain ⟨Z, hZ⟩ : ∃ Z, Z = sglI ms n i a := ⟨_, rfl⟩
            have hX : R ++ (S ++ ([sglI ms n i a, sglI ms n i b].take (0 + 1)).flatten) = (R ++ (S ++ ([sglI ms n i a, sglI ms n i b].take 0).flatten)) ++ Z := by rw [hZ]; simp
            generalize R ++ (S ++ ([sglI ms n i a, sglI ms n i b].take 0).flatten) = Q at hX ⊢
            have hQn := nth_nats (clrL Q ms) a
            have hQl : (nats (clrL Q ms)).length = n * n := by rw [nats_len]; exact hll Q
            have hQc : bitsI .andNot .i64 ((mAt (clrL Q ms) a : Nat) : Int) ((mAt ms i : Nat) : Int) = ((clr (mAt (clrL Q ms) a) (mAt ms i) : Nat) : Int) := andNot_small (by have := (hlt Q a).1; omega) (by omega)
            have hQs := fun v : Nat => setRange_nats (b := clrL Q ms) (k := a) (v := v) (by rw [hll Q]; omega)
            simp(maxSteps:=999999)(disch:=omega)only[go_sem,zA,zM,zS,zE,zL, hld]
            ((first|(with_reducible first|refine condK_dec ?_ ?_|refine condK_ndec ?_ ?_|refine condK_nb ?_ ?_)|refine condK_b ?_ ?_) <;> intro h5)
            · have hA : Z = [] := hZ.trans (if_pos (by omega))
              rw [hA, List.append_nil] at hX
              simp(maxSteps:=999999)(disch:=omega)only[go_sem,zA,zM,zS,zE,zL]
              exact ⟨0 + 1, ⟨by omega, by omega⟩, rfl, by rw [hX]; exact HLe.refl _⟩
            · have hA : Z = [(a, mAt ms i)] := hZ.trans (if_neg (by omega))
              rw [hA] at hX
              simp(maxSteps:=999999)(disch:=omega)only[go_sem,zA,zM,zS,zE,zL, hQn, hQl, hQc, hQs]
              exact ⟨0 + 1, ⟨by omega, by omega⟩, rfl, by rw [hX, clrL_one]; exact HLe.refl _⟩
          · skip
            have hld : ldP (some ⟨g2, 1, [.f (.int .i64 (a : Int)), .f (.int .i64 (b : Int))]⟩) (0 + ((1 : Nat) : Int).toNat * 1) = some (int b) := rfl
            obtain ⟨Z, hZ⟩ : ∃ Z, Z = sglI ms n i b := ⟨_, rfl⟩
            have hX : R ++ (S ++ ([sglI ms n i a, sglI ms n i b].take (1 + 1)).flatten) = (R ++ (S ++ ([sglI ms n i a, sglI ms n i b].take 1).flatten)) ++ Z := by rw [hZ]; simp
            generalize R ++ (S ++ ([sglI ms n i a, sglI ms n i b].take 1).flatten) = Q at hX ⊢
            have hQn := nth_nats (clrL Q ms) b
            have hQl : (nats (clrL Q ms)).length = n * n := by rw [nats_len]; exact hll Q
            have hQc : bitsI .andNot .i64 ((mAt (clrL Q ms) b : Nat) : Int) ((mAt ms i : Nat) : Int) = ((clr (mAt (clrL Q ms) b) (mAt ms i) : Nat) : Int) := andNot_small (by have := (hlt Q b).1; omega) (by omega)
            have hQs := fun v : Nat => setRange_nats (b := clrL Q ms) (k := b) (v := v) (by rw [hll Q]; omega)
            simp(maxSteps:=999999)(disch:=omega)only[go_sem,zA,zM,zS,zE,zL, hld]
            ((first|(with_reducible first|refine condK_dec ?_ ?_|refine condK_ndec ?_ ?_|refine condK_nb ?_ ?_)|refine condK_b ?_ ?_) <;> intro h5)
            · have hA : Z = [] := hZ.trans (if_pos (by omega))
              rw [hA, List.append_nil] at hX
              simp(maxSteps:=999999)(disch:=omega)only[go_sem,zA,zM,zS,zE,zL]
              exact ⟨1 + 1, ⟨by omega, by omega⟩, rfl, by rw [hX]; exact HLe.refl _⟩
            · have hA : Z = [(b, mAt ms i)] := hZ.trans (if_neg (by omega))
              rw [hA] at hX
              simp(maxSteps:=999999)(disch:=omega)only[go_sem,zA,zM,zS,zE,zL, hQn, hQl, hQc, hQs]
              exact ⟨1 + 1, ⟨by omega, by omega⟩, rfl, by rw [hX, clrL_one]; exact HLe.refl _⟩
        · have hje : j = 2 := by omega
          subst hje
          have hX : R ++ (List.range (k + 1)).flatMap (sglK ms n i) = R ++ (S ++ ([sglI ms n i a, sglI ms n i b].take 2).flatten) := by rw [hks, hkd]; simp
          generalize R ++ (S ++ ([sglI ms n i a, sglI ms n i b].take 2).flatten) = Q at hX ⊢
          simp(maxSteps:=999999)(disch:=omega)only[go_sem,zA,zM,zS,zE,zL]
          exact ⟨k + 1, ⟨by omega, by omega⟩, by push_cast; rfl, hle_eq (by rw [hX]) (hle_nil _)⟩
      · have hke : k = n := by omega
        rw [hke] at hS
        simp(maxSteps:=999999)(disch:=omega)only[go_sem,zA,zM,zS,zE,zL]
        exact ⟨i + 1, ⟨by omega, by omega⟩, by push_cast; rfl, by rw [hrs, hS]; exact HLe.refl _⟩
  · have hie : i = n * n := by omega
    rw [hie] at hR
    have hM : clrL R ms = sglM ms n := by rw [← hR]; rfl
    have hl2 : (nats (sglM ms n)).length = n * n := by rw [nats_len, ← hM]; exact hll R
    rw [hM]
    simp(maxSteps:=999999)(disch:=omega)only[go_sem,zA,zM,zS,zE,zL]
    rw [← hl2]
    exact lessQ_own (E := eI .i64) (n := 1) (HLe.refl _)
theorem l6Copy_own (xs : List Int) (hx : xs.length ≤ 2 ^ 40) (h0 : xs ≠ []) : RunCall Tryz.prog 97 [ints xs] [] (ownQ (eI .i64) 1 xs) := by
  have hp : 0 < xs.length := List.length_pos_iff.2 h0
  refine RunCall.cw (c := _) Tryz.func97 rfl (n := 6) Tryz.ntmps97 (rs := [.tmp 2]) rfl ?_
  simp only[List.length_cons,List.length_nil,zA,zS,List.replicate,List.cons_append,List.nil_append]
  simp(maxSteps:=999999)(disch:=omega)only[go_sem,zA,zM,zS,zE,zL]
  intro g g'
  rw [Nat.zero_add]
  exact lessQ_own (E := eI .i64) (n := 1) (HLe.refl _)
set_option maxHeartbeats 4000000 in
theorem sNarrowSingles_run {n : Nat} (hn : n = 2 ∨ n = 3 ∨ n = 4) (ms : List Nat) (hm : MsN ms n) : Reads Tryz.prog 82 [ints (nats ms), int n] (ints (nats (sglM ms n))) := by
  have hsq : 4 ≤ n * n ∧ n * n ≤ 16 := by rcases hn with rfl | rfl | rfl <;> omega
  have hl : (nats ms).length = n * n := by rw [nats_len]; exact hm.len
  rw [← sgl_same hn hm]
  refine Reads.own ?_
  refine RunCall.cw (c := _) Tryz.func82 rfl (n := 68) Tryz.ntmps82 (rs := [.tmp 4]) rfl ?_
  simp only[List.length_cons,List.length_nil,zA,zS,List.replicate,List.cons_append,List.nil_append]
  simp(maxSteps:=999999)(disch:=omega)only[go_sem,zA,zM,zS,zE,zL]
  first | refine OpS.rd (sMasksValid_run hn (nats ms) hm.ok) (⟨_, Tryz.func81, rfl, rfl⟩ : Enters Tryz.prog 81) rfl rfl rfl rfl ?_ | refine Loud.rd (sMasksValid_run hn (nats ms) hm.ok) (⟨_, Tryz.func81, rfl, rfl⟩ : Enters Tryz.prog 81) rfl rfl rfl rfl ?_
  simp(maxSteps:=999999)(disch:=omega)only[go_sem,zA,zM,zS,zE,zL]
  refine OpS.mkQ (l6Copy_own (nats ms) (by omega) (by intro h; rw [h] at hl; simp at hl; omega)) (⟨_, Tryz.func97, rfl, rfl⟩ : Enters Tryz.prog 97) rfl rfl rfl ?_
  rintro _ _ ⟨g, rfl, rfl⟩
  refine ⟨rfl, ?_⟩
  simp(maxSteps:=999999)(disch:=omega)only[go_sem,zA,zM,zS,zE,zL]
  rw [hl]
  refine loop_rule (fun i : Nat => n * n - i) (fun i => i ≤ n * n) (fun i => [.k, .k, .a, .a, .a, .k, .p (int i), .a, .a, .a, .a, .a, .a, .a, .a, .a, .a, .a, .a, .a, .a, .a, .a, .a, .a, .a, .a, .a, .a, .a, .a, .a, .a, .a, .a, .a, .a, .a, .a, .a, .a, .a, .a, .a, .a, .a, .a, .a, .a, .a, .a, .a, .a, .a, .a, .a, .a, .a, .a, .a, .a, .a, .a, .a, .a, .a, .a, .a]) (fun i => [some ⟨g, 1, cl (eI .i64) (nats (clrL ((List.range i).flatMap (sglB ms n)) ms))⟩]) 0 (Nat.zero_le _) (by simp(maxSteps:=999999)(disch:=omega)only[go_sem,zA,zM,zS,zE,zL]; rfl) (HLe.refl _) ?_
  intro i hi
  have hrs := flat_succ (sglB ms n) i
  have hok := fun R => clrL_ok R hm
  have hlt := fun R k => (hok R).lt hn k
  have hll := fun R : List (Nat × Nat) => (clrL_len R ms).trans hm.len
  generalize hR : (List.range i).flatMap (sglB ms n) = R at hrs ⊢
  simp(maxSteps:=999999)(disch:=omega)only[go_sem,zA,zM,zS,zE,zL]
  ((first|(with_reducible first|refine condK_dec ?_ ?_|refine condK_ndec ?_ ?_|refine condK_nb ?_ ?_)|refine condK_b ?_ ?_) <;> intro h1)
  · have h1 : i < n * n := by omega
    have hmi := hm.lt hn i
    have hni := nth_nats ms i
    have hmv := mvals_only hmi
    simp(maxSteps:=999999)(disch:=omega)only[go_sem,zA,zM,zS,zE,zL, hni]
    first | refine OpS.mk (MaskValues_run (mAt ms i) hmi) (⟨_, Tryz.func66, rfl, rfl⟩ : Enters Tryz.prog 66) rfl rfl rfl rfl rfl ?_ | refine Loud.mk (MaskValues_run (mAt ms i) hmi) (⟨_, Tryz.func66, rfl, rfl⟩ : Enters Tryz.prog 66) rfl rfl rfl rfl rfl ?_
    simp(maxSteps:=999999)(disch:=omega)only[go_sem,zA,zM,zS,zE,zL]
    ((first|(with_reducible first|refine condK_dec ?_ ?_|refine condK_ndec ?_ ?_|refine condK_nb ?_ ?_)|refine condK_b ?_ ?_) <;> intro h2)
    rotate_left
    · have h2 : onlyV (mAt ms i) = 0 := by
        by_cases h : onlyV (mAt ms i) = 0
        · exact h
        · exact absurd (hmv.1.2 h) (by omega)
      have hA : sglB ms n i = [] := if_pos h2
      rw [hA, List.append_nil] at hrs
      simp(maxSteps:=999999)(disch:=omega)only[go_sem,zA,zM,zS,zE,zL]
      exact ⟨i + 1, ⟨by omega, by omega⟩, by push_cast; rfl, by rw [hrs]; exact HLe.refl _⟩
    · have h2 : onlyV (mAt ms i) ≠ 0 := hmv.1.1 (by omega)
      have hA : sglB ms n i = (List.range (n * n)).flatMap (sglJ ms n i) := if_neg h2
      rw [hA] at hrs
      clear hA
      simp(maxSteps:=999999)(disch:=omega)only[go_sem,zA,zM,zS,zE,zL]
      refine loop_rule (fun j : Nat => n * n - j) (fun j => j ≤ n * n) (fun j => [.k, .k, .a, .a, .a, .k, .k, .p (int j), .a, .a, .a, .a, .a, .a, .a, .a, .a, .a, .a, .a, .a, .a, .a, .a, .a, .a, .a, .a, .a, .a, .a, .a, .a, .a, .a, .a, .a, .a, .a, .a, .a, .a, .a, .a, .a, .a, .a, .a, .a, .a, .a, .a, .a, .a, .a, .a, .a, .a, .a, .a, .a, .a, .a, .a, .a, .a, .a, .a]) (fun j => [some ⟨g, 1, cl (eI .i64) (nats (clrL (R ++ (List.range j).flatMap (sglJ ms n i)) ms))⟩]) 0 (Nat.zero_le _) (by simp(maxSteps:=999999)(disch:=omega)only[go_sem,zA,zM,zS,zE,zL]; rfl) (by simp only [List.range_zero, List.flatMap_nil, List.append_nil]; exact HLe.refl _) ?_
      intro j hj
      have hks := flat_succ (sglJ ms n i) j
      generalize hS : (List.range j).flatMap (sglJ ms n i) = S at hks ⊢
      simp(maxSteps:=999999)(disch:=omega)only[go_sem,zA,zM,zS,zE,zL]
      ((first|(with_reducible first|refine condK_dec ?_ ?_|refine condK_ndec ?_ ?_|refine condK_nb ?_ ?_)|refine condK_b ?_ ?_) <;> intro h3)
      · have h3 : j < n * n := by omega
        have hjd : (j : Int).tdiv (n : Int) = ((j / n : Nat) : Int) := rfl
        have hjm : (j : Int).tmod (n : Int) = ((j % n : Nat) : Int) := rfl
        have hid : (i : Int).tdiv (n : Int) = ((i / n : Nat) : Int) := rfl
        have him : (i : Int).tmod (n : Int) = ((i % n : Nat) : Int) := rfl
        have hJ : sglJ ms n i j = if j ≠ i ∧ (j / n = i / n ∨ j % n = i % n) then [(j, mAt ms i)] else [] := rfl
        have hbd : j / n ≤ j ∧ i / n ≤ i ∧ j % n ≤ j ∧ i % n ≤ i := ⟨Nat.div_le_self _ _, Nat.div_le_self _ _, Nat.mod_le _ _, Nat.mod_le _ _⟩
        generalize j / n = a at hjd hJ hbd
        generalize i / n = b at hid hJ hbd
        generalize j % n = c at hjm hJ hbd
        generalize i % n = d at him hJ hbd
        generalize hQ : R ++ S = Q
        have hQn := nth_nats (clrL Q ms) j
        have hQl : (nats (clrL Q ms)).length = n * n := by rw [nats_len]; exact hll Q
        have hQc : bitsI .andNot .i64 ((mAt (clrL Q ms) j : Nat) : Int) ((mAt ms i : Nat) : Int) = ((clr (mAt (clrL Q ms) j) (mAt ms i) : Nat) : Int) := andNot_small (by have := (hlt Q j).1; omega) (by omega)
        have hQs := fun v : Nat => setRange_nats (b := clrL Q ms) (k := j) (v := v) (by rw [hll Q]; omega)
        have hyes : (j ≠ i ∧ (a = b ∨ c = d)) → R ++ (List.range (j + 1)).flatMap (sglJ ms n i) = Q ++ [(j, mAt ms i)] := fun h => by rw [hks, hJ, if_pos h, ← List.append_assoc, hQ]
        have hnot : ¬ (j ≠ i ∧ (a = b ∨ c = d)) → R ++ (List.range (j + 1)).flatMap (sglJ ms n i) = Q := fun h => by rw [hks, hJ, if_neg h, List.append_nil, hQ]
        simp(maxSteps:=999999)(disch:=omega)only[go_sem,zA,zM,zS,zE,zL]
        refine drawP_q foll (by kernel_rfl) ?_
        simp(maxSteps:=999999)(disch:=omega)only[go_sem,Nat.reduceBEq,Bool.true_or,zA,zM,zS,zE,zL]
        ((with_reducible first|refine guardK_dec ?_ ?_|refine guardK_ndec ?_ ?_|refine guardK_nb ?_ ?_|refine guardK_split ?_ ?_|refine guardQ_dec ?_ ?_|refine guardL_dec ?_ ?_|refine guardQ_ndec ?_ ?_|refine guardL_ndec ?_ ?_|refine guardQ_nb ?_ ?_|refine guardL_nb ?_ ?_|refine guardQ_split ?_ ?_|refine guardL_split ?_ ?_) <;> intro h4 <;> simp(maxSteps:=999999)(disch:=omega)only[go_sem,zA,zM,zS,zE,zL, h4])
        · exact ⟨j + 1, ⟨by omega, by omega⟩, by push_cast; omega, by rw [hnot (by omega)]; exact HLe.refl _⟩
        · simp(maxSteps:=999999)(disch:=omega)only[go_sem,zA,zM,zS,zE,zL, hjd, hjm, hid, him]
          ((with_reducible first|refine guardK_dec ?_ ?_|refine guardK_ndec ?_ ?_|refine guardK_nb ?_ ?_|refine guardK_split ?_ ?_|refine guardQ_dec ?_ ?_|refine guardL_dec ?_ ?_|refine guardQ_ndec ?_ ?_|refine guardL_ndec ?_ ?_|refine guardQ_nb ?_ ?_|refine guardL_nb ?_ ?_|refine guardQ_split ?_ ?_|refine guardL_split ?_ ?_) <;> intro h5 <;> simp(maxSteps:=999999)(disch:=omega)only[go_sem,zA,zM,zS,zE,zL, h5])
          · skip
            refine drawP_lF [0, 1, 2, 3, 4, 5, 6, 7, 8, 9, 10] [] none [11, 12] [] foll (by kernel_rfl) ?_
            simp(maxSteps:=999999)(disch:=omega)only[go_sem,Nat.reduceBEq,Bool.true_or,zA,zM,zS,zE,zL]
            simp(maxSteps:=999999)(disch:=omega)only[go_sem,zA,zM,zS,zE,zL, hQn, hQl, hQc, hQs]
            exact ⟨j + 1, ⟨by omega, by omega⟩, by push_cast; rfl, by rw [hyes ⟨by omega, .inl (by omega)⟩, clrL_one, ← nats_set, ← hQc, ← hni, Int.toNat_natCast]; exact HLe.refl _⟩
          · simp(maxSteps:=999999)(disch:=omega)only[go_sem,zA,zM,zS,zE,zL, hjd, hjm, hid, him]
            ((first|(with_reducible first|refine condK_dec ?_ ?_|refine condK_ndec ?_ ?_|refine condK_nb ?_ ?_)|refine condK_b ?_ ?_) <;> intro h6)
            · simp(maxSteps:=999999)(disch:=omega)only[go_sem,zA,zM,zS,zE,zL]
              refine drawP_lF [0, 1, 2, 3, 4, 5, 6, 7, 8, 9, 10] [] none [11, 12] [] foll (by kernel_rfl) ?_
              simp(maxSteps:=999999)(disch:=omega)only[go_sem,Nat.reduceBEq,Bool.true_or,zA,zM,zS,zE,zL]
              simp(maxSteps:=999999)(disch:=omega)only[go_sem,zA,zM,zS,zE,zL, hQn, hQl, hQc, hQs]
              exact ⟨j + 1, ⟨by omega, by omega⟩, by push_cast; rfl, by rw [hyes ⟨by omega, .inr (by omega)⟩, clrL_one, ← nats_set, ← hQc, ← hni, Int.toNat_natCast]; exact HLe.refl _⟩
            · simp(maxSteps:=999999)(disch:=omega)only[go_sem,zA,zM,zS,zE,zL]
              exact ⟨j + 1, ⟨by omega, by omega⟩, by push_cast; rfl, by rw [hnot (by omega)]; exact HLe.refl _⟩
      · have hke : j = n * n := by omega
        rw [hke] at hS
        simp(maxSteps:=999999)(disch:=omega)only[go_sem,zA,zM,zS,zE,zL]
        exact ⟨i + 1, ⟨by omega, by omega⟩, by push_cast; rfl, by rw [hrs, hS]; exact HLe.refl _⟩
  · have hie : i = n * n := by omega
    rw [hie] at hR
    rw [hR]
    have hl2 : (nats (clrL R ms)).length = n * n := by rw [nats_len]; exact hll R
    simp(maxSteps:=999999)(disch:=omega)only[go_sem,zA,zM,zS,zE,zL]
    rw [← hl2]
    exact lessQ_own (E := eI .i64) (n := 1) (HLe.refl _)
end Go.Lg
