/- GpMF, cut to what is needed. -/
import Derived.Test.YtapopcmgggfedaaGreatXbd1
open Nat renaming reduceAdd → zA, reduceMul → zM, reduceSub → zS, reduceEqDiff → zE, reduceLeDiff → zL
set_option linter.unusedSimpArgs false
set_option linter.unusedVariables false
set_option maxRecDepth 100000
namespace Go.Lg
open Go.Proofs
set_option maxHeartbeats 8000000 in
theorem NarrowPairs_run {n : Nat} (hn : n = 2 ∨ n = 3 ∨ n = 4) (ms : List Nat) (hm : MsN ms n) : Reads Tryz.prog 74 [ints (nats ms), int n] (ints (nats (parM ms n))) := by
  have hsq : 4 ≤ n * n ∧ n * n ≤ 16 := by rcases hn with rfl | rfl | rfl <;> omega
  have hl : (nats ms).length = n * n := by rw [nats_len]; exact hm.len
  have hn4 : 2 ≤ n ∧ n ≤ 4 := by omega
  refine Reads.own ?_
  refine RunCall.cw (c := _) Tryz.func74 rfl (n := 91) Tryz.ntmps74 (rs := [.tmp 4]) rfl ?_
  simp only[List.length_cons,List.length_nil,zA,zS,List.replicate,List.cons_append,List.nil_append]
  simp(maxSteps:=999999)(disch:=omega)only[go_sem,zA,zM,zS,zE,zL]
  first | refine OpS.rd (MasksValid_run hn ms hm) (⟨_, Tryz.func30, rfl, rfl⟩ : Enters Tryz.prog 30) rfl rfl rfl rfl ?_ | refine Loud.rd (MasksValid_run hn ms hm) (⟨_, Tryz.func30, rfl, rfl⟩ : Enters Tryz.prog 30) rfl rfl rfl rfl ?_
  simp(maxSteps:=999999)(disch:=omega)only[go_sem,zA,zM,zS,zE,zL]
  refine OpS.mkQ (Clone_q (nats ms) (by omega) (by intro h; rw [h] at hl; simp at hl; omega)) (⟨_, Tryz.func31, rfl, rfl⟩ : Enters Tryz.prog 31) rfl rfl rfl ?_
  rintro _ _ ⟨g, rfl, rfl⟩
  refine ⟨rfl, ?_⟩
  simp(maxSteps:=999999)(disch:=omega)only[go_sem,zA,zM,zS,zE,zL]
  rw [hl]
  refine loop_rule (fun i : Nat => 2 * n - i) (fun i => i ≤ 2 * n) (fun i => [.k, .k, .a, .a, .a, .k, .a, .a, .a, .a, .a, .a, .a, .a, .a, .a, .a, .a, .a, .a, .a, .k, .p (int i), .a, .a, .a, .a, .a, .a, .a, .a, .a, .a, .a, .a, .a, .a, .a, .a, .a, .a, .a, .a, .a, .a, .a, .a, .a, .a, .a, .a, .a, .a, .a, .a, .a, .a, .a, .a, .a, .a, .a, .a, .a, .a, .a, .a, .a, .a, .a, .a, .a, .a, .a, .a, .a, .a, .a, .a, .a, .a, .a, .a, .a, .a, .a, .a, .a, .a, .a, .a]) (fun i => [some ⟨g, 1, cl (eI .i64) (nats (clrL ((List.range i).flatMap (parA ms n)) ms))⟩]) 0 (Nat.zero_le _) (by simp(maxSteps:=999999)(disch:=omega)only[go_sem,zA,zM,zS,zE,zL]; rfl) (HLe.refl _) ?_
  intro i hi
  have hrs := flat_succ (parA ms n) i
  have hok := fun R => clrL_ok R hm
  have hlt := fun R k => (hok R).lt hn k
  have hll := fun R : List (Nat × Nat) => (clrL_len R ms).trans hm.len
  generalize hR : (List.range i).flatMap (parA ms n) = R at hrs ⊢
  simp(maxSteps:=999999)(disch:=omega)only[go_sem,zA,zM,zS,zE,zL]
  ((first|(with_reducible first|refine condK_dec ?_ ?_|refine condK_ndec ?_ ?_|refine condK_nb ?_ ?_)|refine condK_b ?_ ?_) <;> intro h1)
  · have h1 : i < 2 * n := by omega
    have hlc := lineC_length n i
    simp(maxSteps:=999999)(disch:=omega)only[go_sem,zA,zM,zS,zE,zL]
    first | refine OpS.mk (iLineCells_run hn h1) (⟨_, Tryz.func88, rfl, rfl⟩ : Enters Tryz.prog 88) rfl rfl rfl rfl rfl ?_ | refine Loud.mk (iLineCells_run hn h1) (⟨_, Tryz.func88, rfl, rfl⟩ : Enters Tryz.prog 88) rfl rfl rfl rfl rfl ?_
    simp(maxSteps:=999999)(disch:=omega)only[go_sem,zA,zM,zS,zE,zL]
    refine loop_rule (fun x : Nat => n - x) (fun x => x ≤ n) (fun x => [.k, .k, .a, .a, .a, .k, .a, .k, .a, .a, .a, .a, .a, .a, .a, .a, .a, .a, .a, .a, .a, .k, .k, .a, .a, .a, .a, .a, .k, .k, .p (int x), .a, .a, .a, .a, .a, .a, .a, .a, .a, .a, .a, .a, .a, .a, .a, .a, .a, .a, .a, .a, .a, .a, .a, .a, .a, .a, .a, .a, .a, .a, .a, .a, .a, .a, .a, .a, .a, .a, .a, .a, .a, .a, .a, .a, .a, .a, .a, .a, .a, .a, .a, .a, .a, .a, .a, .a, .a, .a, .a, .a]) (fun x => [some ⟨g, 1, cl (eI .i64) (nats (clrL (R ++ (List.range x).flatMap (parI ms n i)) ms))⟩]) 0 (Nat.zero_le _) (by simp(maxSteps:=999999)(disch:=omega)only[go_sem,zA,zM,zS,zE,zL]; rfl) (by simp only [List.range_zero, List.flatMap_nil, List.append_nil]; exact HLe.refl _) ?_
    intro x hx
    have hks := flat_succ (parI ms n i) x
    generalize hS : (List.range x).flatMap (parI ms n i) = S at hks ⊢
    simp(maxSteps:=999999)(disch:=omega)only[go_sem,zA,zM,zS,zE,zL]
    ((first|(with_reducible first|refine condK_dec ?_ ?_|refine condK_ndec ?_ ?_|refine condK_nb ?_ ?_)|refine condK_b ?_ ?_) <;> intro h2)
    · have h2 : x < n := by omega
      obtain ⟨ha1, ha2⟩ := lnN_lt hn h1 h2
      have hI : parI ms n i x = (List.range (n - (x + 1))).flatMap fun t => parP ms n i x (x + 1 + t) := rfl
      simp(maxSteps:=999999)(disch:=omega)only[go_sem,zA,zM,zS,zE,zL, ha2]
      have hsl : (sub (lineC n i) ((x : Int) + 1) ((lineC n i).length : Nat)).length = n - (x + 1) := by have := sub_length (xs := lineC n i) (a := (x : Int) + 1) (b := ((lineC n i).length : Nat)) (by omega); omega
      have hsn : ∀ t : Nat, t < n - (x + 1) → nth (sub (lineC n i) ((x : Int) + 1) ((lineC n i).length : Nat)) t = nth (lineC n i) ((x + 1 + t : Nat) : Int) := fun t ht => by rw [nth_sub (by omega) (by omega)]; congr 1
      generalize sub (lineC n i) ((x : Int) + 1) ((lineC n i).length : Nat) = L at hsl hsn ⊢
      refine loop_rule (fun t : Nat => n - (x + 1) - t) (fun t => t ≤ n - (x + 1)) (fun t => [.k, .k, .a, .a, .a, .k, .a, .k, .a, .k, .a, .a, .a, .a, .a, .a, .a, .a, .a, .a, .a, .k, .k, .a, .a, .a, .a, .a, .k, .k, .k, .a, .a, .a, .a, .a, .a, .a, .k, .k, .p (int t), .a, .a, .a, .a, .a, .a, .a, .a, .a, .a, .a, .a, .a, .a, .a, .a, .a, .a, .a, .a, .a, .a, .a, .a, .a, .a, .a, .a, .a, .a, .a, .a, .a, .a, .a, .a, .a, .a, .a, .a, .a, .a, .a, .a, .a, .a, .a, .a, .a, .a]) (fun t => [some ⟨g, 1, cl (eI .i64) (nats (clrL (R ++ (S ++ (List.range t).flatMap fun t => parP ms n i x (x + 1 + t))) ms))⟩]) 0 (Nat.zero_le _) (by simp(maxSteps:=999999)(disch:=omega)only[go_sem,zA,zM,zS,zE,zL]; rfl) (by simp only [List.range_zero, List.flatMap_nil, List.append_nil]; exact HLe.refl _) ?_
      intro t ht
      have hts := flat_succ (fun t => parP ms n i x (x + 1 + t)) t
      generalize hT : ((List.range t).flatMap fun t => parP ms n i x (x + 1 + t)) = T at hts ⊢
      simp(maxSteps:=999999)(disch:=omega)only[go_sem,zA,zM,zS,zE,zL]
      ((first|(with_reducible first|refine condK_dec ?_ ?_|refine condK_ndec ?_ ?_|refine condK_nb ?_ ?_)|refine condK_b ?_ ?_) <;> intro h3)
      · have h3 : t < n - (x + 1) := by omega
        have hbn := hsn t h3
        obtain ⟨hb1, hb2⟩ := lnN_lt hn h1 (k := x + 1 + t) (by omega)
        rw [hb2] at hbn
        have hP : parP ms n i x (x + 1 + t) = if mAt ms (lnN n i x) = mAt ms (lnN n i (x + 1 + t)) ∧ (mvals (mAt ms (lnN n i x)) 4).length = 2 then (List.range n).flatMap (parK ms n i x (x + 1 + t)) else [] := rfl
        have hK : ∀ k, parK ms n i x (x + 1 + t) k = if lnN n i k ≠ lnN n i x ∧ lnN n i k ≠ lnN n i (x + 1 + t) then [(lnN n i k, mAt ms (lnN n i x))] else [] := fun k => rfl
        generalize lnN n i (x + 1 + t) = b at hbn hb1 hP hK
        generalize lnN n i x = a at ha1 ha2 hP hK
        have hma := nth_nats ms a
        have hmb := nth_nats ms b
        have hma2 := hm.lt hn a
        simp(maxSteps:=999999)(disch:=omega)only[go_sem,zA,zM,zS,zE,zL, hbn]
        refine drawP_q foll (by kernel_rfl) ?_
        simp(maxSteps:=999999)(disch:=omega)only[go_sem,Nat.reduceBEq,Bool.true_or,zA,zM,zS,zE,zL]
        simp(maxSteps:=999999)(disch:=omega)only[go_sem,zA,zM,zS,zE,zL, hma, hmb]
        ((with_reducible first|refine guardK_dec ?_ ?_|refine guardK_ndec ?_ ?_|refine guardK_nb ?_ ?_|refine guardK_split ?_ ?_|refine guardQ_dec ?_ ?_|refine guardL_dec ?_ ?_|refine guardQ_ndec ?_ ?_|refine guardL_ndec ?_ ?_|refine guardQ_nb ?_ ?_|refine guardL_nb ?_ ?_|refine guardQ_split ?_ ?_|refine guardL_split ?_ ?_) <;> intro h4 <;> simp(maxSteps:=999999)(disch:=omega)only[go_sem,zA,zM,zS,zE,zL, h4])
        rotate_left
        · rw [if_neg (fun h => h4 (by rw [h.1]))] at hP
          exact ⟨t + 1, ⟨by omega, by omega⟩, by push_cast; rfl, by rw [hts, hP, List.append_nil]; exact HLe.refl _⟩
        have h4 : mAt ms a = mAt ms b := by omega
        have hwu := wrap_u (m := mAt ms a) (by omega)
        simp(maxSteps:=999999)(disch:=omega)only[go_sem,zA,zM,zS,zE,zL, hma, hwu]
        refine quietW.rd (OnesCount_run (mAt ms a) hma2) (⟨_, Tryz.func89, rfl, rfl⟩ : Enters Tryz.prog 89) rfl rfl rfl rfl ?_
        simp(maxSteps:=999999)(disch:=omega)only[go_sem,zA,zM,zS,zE,zL]
        ((first|(with_reducible first|refine condK_dec ?_ ?_|refine condK_ndec ?_ ?_|refine condK_nb ?_ ?_)|refine condK_b ?_ ?_) <;> intro h5)
        rotate_left
        · rw [if_neg (fun h => h5 (by rw [h.2]; rfl))] at hP
          simp(maxSteps:=999999)(disch:=omega)only[go_sem,zA,zM,zS,zE,zL]
          exact ⟨t + 1, ⟨by omega, by omega⟩, by push_cast; rfl, by rw [hts, hP, List.append_nil]; exact HLe.refl _⟩
        have h5 : (mvals (mAt ms a) 4).length = 2 := by omega
        rw [if_pos ⟨h4, h5⟩] at hP
        simp(maxSteps:=999999)(disch:=omega)only[go_sem,zA,zM,zS,zE,zL]
        refine loop_rule (fun k : Nat => n - k) (fun k => k ≤ n) (fun k => [.k, .k, .a, .a, .a, .k, .a, .k, .a, .k, .a, .k, .a, .a, .a, .a, .a, .a, .a, .a, .a, .k, .k, .a, .a, .a, .a, .a, .k, .k, .k, .a, .a, .a, .a, .a, .a, .a, .k, .k, .k, .a, .a, .a, .a, .a, .a, .a, .a, .a, .a, .a, .a, .a, .a, .a, .a, .a, .a, .a, .a, .a, .k, .k, .p (int k), .a, .a, .a, .a, .a, .a, .a, .a, .a, .a, .a, .a, .a, .a, .a, .a, .a, .a, .a, .a, .a, .a, .a, .a, .a, .a]) (fun k => [some ⟨g, 1, cl (eI .i64) (nats (clrL (R ++ (S ++ (T ++ (List.range k).flatMap (parK ms n i x (x + 1 + t))))) ms))⟩]) 0 (Nat.zero_le _) (by simp(maxSteps:=999999)(disch:=omega)only[go_sem,zA,zM,zS,zE,zL]; rfl) (by simp only [List.range_zero, List.flatMap_nil, List.append_nil]; exact HLe.refl _) ?_
        intro k hk
        have hus := flat_succ (parK ms n i x (x + 1 + t)) k
        generalize hU : (List.range k).flatMap (parK ms n i x (x + 1 + t)) = U at hus ⊢
        simp(maxSteps:=999999)(disch:=omega)only[go_sem,zA,zM,zS,zE,zL]
        ((first|(with_reducible first|refine condK_dec ?_ ?_|refine condK_ndec ?_ ?_|refine condK_nb ?_ ?_)|refine condK_b ?_ ?_) <;> intro h6)
        · have h6 : k < n := by omega
          have hK := hK k
          obtain ⟨hc1, hc2⟩ := lnN_lt hn h1 h6
          generalize lnN n i k = c at hc1 hc2 hK
          generalize hQ : R ++ (S ++ (T ++ U)) = Q
          have hQn := nth_nats (clrL Q ms) c
          have hQl : (nats (clrL Q ms)).length = n * n := by rw [nats_len]; exact hll Q
          have hQc : bitsI .andNot .i64 ((mAt (clrL Q ms) c : Nat) : Int) ((mAt ms a : Nat) : Int) = ((clr (mAt (clrL Q ms) c) (mAt ms a) : Nat) : Int) := andNot_small (by have := (hlt Q c).1; omega) (by omega)
          have hyes : (c ≠ a ∧ c ≠ b) → R ++ (S ++ (T ++ (List.range (k + 1)).flatMap (parK ms n i x (x + 1 + t)))) = Q ++ [(c, mAt ms a)] := fun h => by rw [hus, hK, if_pos h, ← hQ]; simp only [List.append_assoc]
          have hnot : ¬ (c ≠ a ∧ c ≠ b) → R ++ (S ++ (T ++ (List.range (k + 1)).flatMap (parK ms n i x (x + 1 + t)))) = Q := fun h => by rw [hus, hK, if_neg h, List.append_nil, hQ]
          simp(maxSteps:=999999)(disch:=omega)only[go_sem,zA,zM,zS,zE,zL, hc2]
          ((with_reducible first|refine guardK_dec ?_ ?_|refine guardK_ndec ?_ ?_|refine guardK_nb ?_ ?_|refine guardK_split ?_ ?_|refine guardQ_dec ?_ ?_|refine guardL_dec ?_ ?_|refine guardQ_ndec ?_ ?_|refine guardL_ndec ?_ ?_|refine guardQ_nb ?_ ?_|refine guardL_nb ?_ ?_|refine guardQ_split ?_ ?_|refine guardL_split ?_ ?_) <;> intro h7 <;> simp(maxSteps:=999999)(disch:=omega)only[go_sem,zA,zM,zS,zE,zL, h7])
          · exact ⟨k + 1, ⟨by omega, by omega⟩, by push_cast; rfl, by rw [hnot (by omega)]; exact HLe.refl _⟩
          ((first|(with_reducible first|refine condK_dec ?_ ?_|refine condK_ndec ?_ ?_|refine condK_nb ?_ ?_)|refine condK_b ?_ ?_) <;> intro h8)
          · simp(maxSteps:=999999)(disch:=omega)only[go_sem,zA,zM,zS,zE,zL]
            exact ⟨k + 1, ⟨by omega, by omega⟩, by push_cast; rfl, by rw [hnot (by omega)]; exact HLe.refl _⟩
          · simp(maxSteps:=999999)(disch:=omega)only[go_sem,zA,zM,zS,zE,zL]
            refine drawP_lF [0, 1, 2, 3, 4, 5, 6, 7] [] none [8, 9, 10] [] foll (by kernel_rfl) ?_
            simp(maxSteps:=999999)(disch:=omega)only[go_sem,Nat.reduceBEq,Bool.true_or,zA,zM,zS,zE,zL]
            simp(maxSteps:=999999)(disch:=omega)only[go_sem,zA,zM,zS,zE,zL, hQn, hQl, hQc, hma]
            exact ⟨k + 1, ⟨by omega, by omega⟩, by push_cast; rfl, by rw [hyes (by omega), clrL_one, ← nats_set, ← hQc]; exact HLe.refl _⟩
        · have hke : k = n := by omega
          rw [hke] at hU
          simp(maxSteps:=999999)(disch:=omega)only[go_sem,zA,zM,zS,zE,zL]
          exact ⟨t + 1, ⟨by omega, by omega⟩, by push_cast; rfl, by rw [hts, hP, hU]; exact HLe.refl _⟩
      · have hte : t = n - (x + 1) := by omega
        rw [hte] at hT
        simp(maxSteps:=999999)(disch:=omega)only[go_sem,zA,zM,zS,zE,zL]
        exact ⟨x + 1, ⟨by omega, by omega⟩, by push_cast; rfl, by rw [hks, hI, hT]; exact HLe.refl _⟩
    · have hke : x = n := by omega
      rw [hke] at hS
      simp(maxSteps:=999999)(disch:=omega)only[go_sem,zA,zM,zS,zE,zL]
      exact ⟨i + 1, ⟨by omega, by omega⟩, by push_cast; rfl, by rw [hrs, ← hS]; exact HLe.refl _⟩
  · skip
    have hie : i = 2 * n := by omega
    rw [hie] at hR
    have hM : clrL R ms = parM ms n := by rw [← hR] <;> rfl
    have hl2 : (nats (parM ms n)).length = n * n := by rw [nats_len, ← hM]; exact hll R
    rw [hM]
    simp(maxSteps:=999999)(disch:=omega)only[go_sem,zA,zM,zS,zE,zL]
    rw [← hl2]
    exact lessQ_own (E := eI .i64) (n := 1) (HLe.refl _)
set_option maxHeartbeats 8000000 in
theorem sNarrowPairs_run {n : Nat} (hn : n = 2 ∨ n = 3 ∨ n = 4) (ms : List Nat) (hm : MsN ms n) : Reads Tryz.prog 84 [ints (nats ms), int n] (ints (nats (parM ms n))) := by
  have hsq : 4 ≤ n * n ∧ n * n ≤ 16 := by rcases hn with rfl | rfl | rfl <;> omega
  have hl : (nats ms).length = n * n := by rw [nats_len]; exact hm.len
  have hn4 : 2 ≤ n ∧ n ≤ 4 := by omega
  rw [← par_same hn hm]
  refine Reads.own ?_
  refine RunCall.cw (c := _) Tryz.func84 rfl (n := 89) Tryz.ntmps84 (rs := [.tmp 4]) rfl ?_
  simp only[List.length_cons,List.length_nil,zA,zS,List.replicate,List.cons_append,List.nil_append]
  simp(maxSteps:=999999)(disch:=omega)only[go_sem,zA,zM,zS,zE,zL]
  first | refine OpS.rd (sMasksValid_run hn (nats ms) hm.ok) (⟨_, Tryz.func81, rfl, rfl⟩ : Enters Tryz.prog 81) rfl rfl rfl rfl ?_ | refine Loud.rd (sMasksValid_run hn (nats ms) hm.ok) (⟨_, Tryz.func81, rfl, rfl⟩ : Enters Tryz.prog 81) rfl rfl rfl rfl ?_
  simp(maxSteps:=999999)(disch:=omega)only[go_sem,zA,zM,zS,zE,zL]
  refine OpS.mkQ (l6Copy_own (nats ms) (by omega) (by intro h; rw [h] at hl; simp at hl; omega)) (⟨_, Tryz.func97, rfl, rfl⟩ : Enters Tryz.prog 97) rfl rfl rfl ?_
  rintro _ _ ⟨g, rfl, rfl⟩
  refine ⟨rfl, ?_⟩
  simp(maxSteps:=999999)(disch:=omega)only[go_sem,zA,zM,zS,zE,zL]
  rw [hl]
  refine loop_rule (fun i : Nat => 2 * n - i) (fun i => i ≤ 2 * n) (fun i => [.k, .k, .a, .a, .a, .k, .p (int i), .a, .a, .a, .a, .a, .a, .a, .a, .a, .a, .a, .a, .a, .a, .a, .a, .a, .a, .a, .a, .a, .a, .a, .a, .a, .a, .a, .a, .a, .a, .a, .a, .a, .a, .a, .a, .a, .a, .a, .a, .a, .a, .a, .a, .a, .a, .a, .a, .a, .a, .a, .a, .a, .a, .a, .a, .a, .a, .a, .a, .a, .a, .a, .a, .a, .a, .a, .a, .a, .a, .a, .a, .a, .a, .a, .a, .a, .a, .a, .a, .a, .a]) (fun i => [some ⟨g, 1, cl (eI .i64) (nats (clrL ((List.range i).flatMap (parAS ms n)) ms))⟩]) 0 (Nat.zero_le _) (by simp(maxSteps:=999999)(disch:=omega)only[go_sem,zA,zM,zS,zE,zL]; rfl) (HLe.refl _) ?_
  intro i hi
  have hrs := flat_succ (parAS ms n) i
  have hok := fun R => clrL_ok R hm
  have hlt := fun R k => (hok R).lt hn k
  have hll := fun R : List (Nat × Nat) => (clrL_len R ms).trans hm.len
  generalize hR : (List.range i).flatMap (parAS ms n) = R at hrs ⊢
  simp(maxSteps:=999999)(disch:=omega)only[go_sem,zA,zM,zS,zE,zL]
  ((first|(with_reducible first|refine condK_dec ?_ ?_|refine condK_ndec ?_ ?_|refine condK_nb ?_ ?_)|refine condK_b ?_ ?_) <;> intro h1)
  · have h1 : i < 2 * n := by omega
    have hlc := lineC_length n i
    simp(maxSteps:=999999)(disch:=omega)only[go_sem,zA,zM,zS,zE,zL]
    first | refine OpS.mk (LineCells_run hn h1) (⟨_, Tryz.func98, rfl, rfl⟩ : Enters Tryz.prog 98) rfl rfl rfl rfl rfl ?_ | refine Loud.mk (LineCells_run hn h1) (⟨_, Tryz.func98, rfl, rfl⟩ : Enters Tryz.prog 98) rfl rfl rfl rfl rfl ?_
    simp(maxSteps:=999999)(disch:=omega)only[go_sem,zA,zM,zS,zE,zL]
    refine loop_rule (fun y : Nat => n - y) (fun y => y ≤ n) (fun y => [.k, .k, .a, .a, .a, .k, .k, .k, .p (int y), .a, .a, .a, .a, .a, .a, .a, .a, .a, .a, .a, .a, .a, .a, .a, .a, .a, .a, .a, .a, .a, .a, .a, .a, .a, .a, .a, .a, .a, .a, .a, .a, .a, .a, .a, .a, .a, .a, .a, .a, .a, .a, .a, .a, .a, .a, .a, .a, .a, .a, .a, .a, .a, .a, .a, .a, .a, .a, .a, .a, .a, .a, .a, .a, .a, .a, .a, .a, .a, .a, .a, .a, .a, .a, .a, .a, .a, .a, .a, .a]) (fun y => [some ⟨g, 1, cl (eI .i64) (nats (clrL (R ++ (List.range y).flatMap (parIS ms n i)) ms))⟩]) 0 (Nat.zero_le _) (by simp(maxSteps:=999999)(disch:=omega)only[go_sem,zA,zM,zS,zE,zL]; rfl) (by simp only [List.range_zero, List.flatMap_nil, List.append_nil]; exact HLe.refl _) ?_
    intro y hy
    have hks := flat_succ (parIS ms n i) y
    generalize hS : (List.range y).flatMap (parIS ms n i) = S at hks ⊢
    simp(maxSteps:=999999)(disch:=omega)only[go_sem,zA,zM,zS,zE,zL]
    ((first|(with_reducible first|refine condK_dec ?_ ?_|refine condK_ndec ?_ ?_|refine condK_nb ?_ ?_)|refine condK_b ?_ ?_) <;> intro h2)
    · have h2 : y < n := by omega
      obtain ⟨ha1, ha2⟩ := lnN_lt hn h1 h2
      have hI : parIS ms n i y = (List.range y).flatMap fun x => parPS ms n i y x := rfl
      simp(maxSteps:=999999)(disch:=omega)only[go_sem,zA,zM,zS,zE,zL]
      refine loop_rule (fun x : Nat => y - x) (fun x => x ≤ y) (fun x => [.k, .k, .a, .a, .a, .k, .k, .k, .k, .p (int x), .a, .a, .a, .a, .a, .a, .a, .a, .a, .a, .a, .a, .a, .a, .a, .a, .a, .a, .a, .a, .a, .a, .a, .a, .a, .a, .a, .a, .a, .a, .a, .a, .a, .a, .a, .a, .a, .a, .a, .a, .a, .a, .a, .a, .a, .a, .a, .a, .a, .a, .a, .a, .a, .a, .a, .a, .a, .a, .a, .a, .a, .a, .a, .a, .a, .a, .a, .a, .a, .a, .a, .a, .a, .a, .a, .a, .a, .a, .a]) (fun x => [some ⟨g, 1, cl (eI .i64) (nats (clrL (R ++ (S ++ (List.range x).flatMap fun x => parPS ms n i y x)) ms))⟩]) 0 (Nat.zero_le _) (by simp(maxSteps:=999999)(disch:=omega)only[go_sem,zA,zM,zS,zE,zL]; rfl) (by simp only [List.range_zero, List.flatMap_nil, List.append_nil]; exact HLe.refl _) ?_
      intro x hx
      have hts := flat_succ (fun x => parPS ms n i y x) x
      generalize hT : ((List.range x).flatMap fun x => parPS ms n i y x) = T at hts ⊢
      simp(maxSteps:=999999)(disch:=omega)only[go_sem,zA,zM,zS,zE,zL]
      ((first|(with_reducible first|refine condK_dec ?_ ?_|refine condK_ndec ?_ ?_|refine condK_nb ?_ ?_)|refine condK_b ?_ ?_) <;> intro h3)
      · have h3 : x < y := by omega
        obtain ⟨hb1, hb2⟩ := lnN_lt hn h1 (k := x) (by omega)
        have hP : parPS ms n i y x = if mAt ms (lnN n i y) = mAt ms (lnN n i x) ∧ (mvals (mAt ms (lnN n i y)) 4).length = 2 then (List.range n).flatMap (parKS ms n i y x) else [] := rfl
        have hK : ∀ k, parKS ms n i y x k = if k ≠ y ∧ k ≠ x then [(lnN n i k, mAt ms (lnN n i y))] else [] := fun k => rfl
        generalize lnN n i x = b at hb1 hb2 hP hK
        generalize lnN n i y = a at ha1 ha2 hP hK
        have hma := nth_nats ms a
        have hmb := nth_nats ms b
        have hma2 := hm.lt hn a
        simp(maxSteps:=999999)(disch:=omega)only[go_sem,zA,zM,zS,zE,zL, ha2, hb2, hma, hmb]
        ((with_reducible first|refine guardK_dec ?_ ?_|refine guardK_ndec ?_ ?_|refine guardK_nb ?_ ?_|refine guardK_split ?_ ?_|refine guardQ_dec ?_ ?_|refine guardL_dec ?_ ?_|refine guardQ_ndec ?_ ?_|refine guardL_ndec ?_ ?_|refine guardQ_nb ?_ ?_|refine guardL_nb ?_ ?_|refine guardQ_split ?_ ?_|refine guardL_split ?_ ?_) <;> intro h4 <;> simp(maxSteps:=999999)(disch:=omega)only[go_sem,zA,zM,zS,zE,zL, h4])
        rotate_left
        · rw [if_neg (fun h => h4 (by rw [h.1]))] at hP
          exact ⟨x + 1, ⟨by omega, by omega⟩, by push_cast; rfl, by rw [hts, hP, List.append_nil]; exact HLe.refl _⟩
        have h4 : mAt ms a = mAt ms b := by omega
        first | refine OpS.mk (MaskValues_run (mAt ms b) (hm.lt hn b)) (⟨_, Tryz.func66, rfl, rfl⟩ : Enters Tryz.prog 66) rfl rfl rfl rfl rfl ?_ | refine Loud.mk (MaskValues_run (mAt ms b) (hm.lt hn b)) (⟨_, Tryz.func66, rfl, rfl⟩ : Enters Tryz.prog 66) rfl rfl rfl rfl rfl ?_
        simp(maxSteps:=999999)(disch:=omega)only[go_sem,zA,zM,zS,zE,zL]
        ((first|(with_reducible first|refine condK_dec ?_ ?_|refine condK_ndec ?_ ?_|refine condK_nb ?_ ?_)|refine condK_b ?_ ?_) <;> intro h5)
        rotate_left
        · rw [if_neg (fun h => h5 (by rw [← h4, h.2]; rfl))] at hP
          simp(maxSteps:=999999)(disch:=omega)only[go_sem,zA,zM,zS,zE,zL]
          exact ⟨x + 1, ⟨by omega, by omega⟩, by push_cast; rfl, by rw [hts, hP, List.append_nil]; exact HLe.refl _⟩
        have h5 : (mvals (mAt ms a) 4).length = 2 := by rw [h4]; omega
        rw [if_pos ⟨h4, h5⟩] at hP
        simp(maxSteps:=999999)(disch:=omega)only[go_sem,zA,zM,zS,zE,zL]
        refine loop_rule (fun k : Nat => n - k) (fun k => k ≤ n) (fun k => [.k, .k, .a, .a, .a, .k, .k, .k, .k, .k, .k, .p (int k), .a, .a, .a, .a, .a, .a, .a, .a, .a, .a, .a, .a, .a, .a, .a, .a, .a, .a, .a, .a, .a, .a, .a, .a, .a, .a, .a, .a, .a, .a, .a, .a, .a, .a, .a, .a, .a, .a, .a, .a, .a, .a, .a, .a, .a, .a, .a, .a, .a, .a, .a, .a, .a, .a, .a, .a, .a, .a, .a, .a, .a, .a, .a, .a, .a, .a, .a, .a, .a, .a, .a, .a, .a, .a, .a, .a, .a]) (fun k => [some ⟨g, 1, cl (eI .i64) (nats (clrL (R ++ (S ++ (T ++ (List.range k).flatMap (parKS ms n i y x)))) ms))⟩]) 0 (Nat.zero_le _) (by simp(maxSteps:=999999)(disch:=omega)only[go_sem,zA,zM,zS,zE,zL]; rfl) (by simp only [List.range_zero, List.flatMap_nil, List.append_nil]; exact HLe.refl _) ?_
        intro k hk
        have hus := flat_succ (parKS ms n i y x) k
        generalize hU : (List.range k).flatMap (parKS ms n i y x) = U at hus ⊢
        simp(maxSteps:=999999)(disch:=omega)only[go_sem,zA,zM,zS,zE,zL]
        ((first|(with_reducible first|refine condK_dec ?_ ?_|refine condK_ndec ?_ ?_|refine condK_nb ?_ ?_)|refine condK_b ?_ ?_) <;> intro h6)
        · have h6 : k < n := by omega
          have hK := hK k
          obtain ⟨hc1, hc2⟩ := lnN_lt hn h1 h6
          generalize lnN n i k = c at hc1 hc2 hK
          generalize hQ : R ++ (S ++ (T ++ U)) = Q
          have hQn := nth_nats (clrL Q ms) c
          have hQl : (nats (clrL Q ms)).length = n * n := by rw [nats_len]; exact hll Q
          have hQc : bitsI .andNot .i64 ((mAt (clrL Q ms) c : Nat) : Int) ((mAt ms a : Nat) : Int) = ((clr (mAt (clrL Q ms) c) (mAt ms a) : Nat) : Int) := andNot_small (by have := (hlt Q c).1; omega) (by omega)
          have hyes : (k ≠ y ∧ k ≠ x) → R ++ (S ++ (T ++ (List.range (k + 1)).flatMap (parKS ms n i y x))) = Q ++ [(c, mAt ms a)] := fun h => by rw [hus, hK, if_pos h, ← hQ]; simp only [List.append_assoc]
          have hnot : ¬ (k ≠ y ∧ k ≠ x) → R ++ (S ++ (T ++ (List.range (k + 1)).flatMap (parKS ms n i y x))) = Q := fun h => by rw [hus, hK, if_neg h, List.append_nil, hQ]
          simp(maxSteps:=999999)(disch:=omega)only[go_sem,zA,zM,zS,zE,zL]
          ((with_reducible first|refine guardK_dec ?_ ?_|refine guardK_ndec ?_ ?_|refine guardK_nb ?_ ?_|refine guardK_split ?_ ?_|refine guardQ_dec ?_ ?_|refine guardL_dec ?_ ?_|refine guardQ_ndec ?_ ?_|refine guardL_ndec ?_ ?_|refine guardQ_nb ?_ ?_|refine guardL_nb ?_ ?_|refine guardQ_split ?_ ?_|refine guardL_split ?_ ?_) <;> intro h7 <;> simp(maxSteps:=999999)(disch:=omega)only[go_sem,zA,zM,zS,zE,zL, h7])
          · exact ⟨k + 1, ⟨by omega, by omega⟩, by push_cast; omega, by rw [hnot (by omega)]; exact HLe.refl _⟩
          ((first|(with_reducible first|refine condK_dec ?_ ?_|refine condK_ndec ?_ ?_|refine condK_nb ?_ ?_)|refine condK_b ?_ ?_) <;> intro h8)
          · simp(maxSteps:=999999)(disch:=omega)only[go_sem,zA,zM,zS,zE,zL]
            exact ⟨k + 1, ⟨by omega, by omega⟩, by push_cast; omega, by rw [hnot (by omega)]; exact HLe.refl _⟩
          · simp(maxSteps:=999999)(disch:=omega)only[go_sem,zA,zM,zS,zE,zL]
            refine drawP_lF [0, 1, 2, 3, 4, 5, 6, 7, 8, 9, 10, 11, 12, 13] [] none [14, 15] [] foll (by kernel_rfl) ?_
            simp(maxSteps:=999999)(disch:=omega)only[go_sem,Nat.reduceBEq,Bool.true_or,zA,zM,zS,zE,zL]
            simp(maxSteps:=999999)(disch:=omega)only[go_sem,zA,zM,zS,zE,zL, hc2, hQn, hQl, hQc]
            exact ⟨k + 1, ⟨by omega, by omega⟩, by push_cast; rfl, by rw [hyes (by omega), clrL_one, ← nats_set, ← hQc, h4]; exact HLe.refl _⟩
        · have hke : k = n := by omega
          rw [hke] at hU
          simp(maxSteps:=999999)(disch:=omega)only[go_sem,zA,zM,zS,zE,zL]
          exact ⟨x + 1, ⟨by omega, by omega⟩, by push_cast; rfl, by rw [hts, hP, hU]; exact HLe.refl _⟩
      · have hte : x = y := by omega
        rw [hte] at hT
        simp(maxSteps:=999999)(disch:=omega)only[go_sem,zA,zM,zS,zE,zL]
        exact ⟨y + 1, ⟨by omega, by omega⟩, by push_cast; rfl, by rw [hks, hI, hT]; exact HLe.refl _⟩
    · have hke : y = n := by omega
      rw [hke] at hS
      simp(maxSteps:=999999)(disch:=omega)only[go_sem,zA,zM,zS,zE,zL]
      exact ⟨i + 1, ⟨by omega, by omega⟩, by push_cast; rfl, by rw [hrs, ← hS]; exact HLe.refl _⟩
  · skip
    have hie : i = 2 * n := by omega
    rw [hie] at hR
    have hM : clrL R ms = clrL ((List.range (2 * n)).flatMap (parAS ms n)) ms := by rw [← hR] <;> rfl
    have hl2 : (nats (clrL ((List.range (2 * n)).flatMap (parAS ms n)) ms)).length = n * n := by rw [nats_len, ← hM]; exact hll R
    rw [hM]
    simp(maxSteps:=999999)(disch:=omega)only[go_sem,zA,zM,zS,zE,zL]
    rw [← hl2]
    exact lessQ_own (E := eI .i64) (n := 1) (HLe.refl _)
end Go.Lg
