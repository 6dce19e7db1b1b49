/- GpVT, cut to what is needed. -/
import Derived.Test.YtfkhojmllokgoaaDoorZad2
import Derived.Test.YtfkhojmllokgoaaDoorZad1
open Nat renaming reduceAdd → zA, reduceMul → zM, reduceSub → zS, reduceEqDiff → zE, reduceLeDiff → zL
set_option linter.unusedSimpArgs false
set_option linter.unusedVariables false
set_option maxRecDepth 100000
namespace Go.Lg
open Go.Proofs
attribute [-go_sem] appendM lwF_cons
theorem more_valid {p : Puz} (h : puzzleValid p = true) (hr : p.rules.length ≠ 20) : puzzleValid ⟨p.size, p.given, p.rules ++ [⟨4, [0, 1], 0⟩]⟩ = true := by
  have hk : p.rules.length ≤ 20 := puz_rules h
  simp only [puzzleValid, Bool.and_eq_true, decide_eq_true_eq] at h ⊢
  have hb := gridValid_bound h.1
  have hsz : 2 ≤ p.size ∧ p.size ≤ 4 := by omega
  refine ⟨h.1, by simp; omega, ?_⟩
  rw [List.all_append, h.2.2, Bool.true_and]
  obtain ⟨n, hn⟩ : ∃ n, n = p.size := ⟨_, rfl⟩
  rw [← hn] at hsz ⊢
  obtain rfl | rfl | rfl : n = 2 ∨ n = 3 ∨ n = 4 := by omega
  all_goals decide
theorem more_text {p : Puz} (h : puzzleValid p = true) (hr : p.rules.length ≠ 20) : puzzleT ⟨p.size, p.given, p.rules ++ [⟨4, [0, 1], 0⟩]⟩ = puzzleT p ++ [32, 108, 97, 98] := by
  unfold puzzleT
  rw [if_pos h, if_pos (more_valid h hr)]
  simp only [rulesT, List.flatMap_append, List.append_assoc]
  rfl
set_option maxHeartbeats 4000000 in
theorem law_FnTextsRules (code : List Int) (hl : code.length ≤ 9223372036854775807) (hw : ∀ x ∈ code, (Lit.int .u8 x).wf = true) : Reads Tryd.prog 7 [rsl (eI .u8) code] (bool true) := by
  refine RunCall.cw (c := _) Tryd.func7 rfl (n := 56) Tryd.ntmps7 (rs := [.tmp 2]) rfl ?_
  simp only[List.length_cons,List.length_nil,zA,zS,List.replicate,List.cons_append,List.nil_append]
  simp(maxSteps:=999999)(disch:=omega)only[go_sem,zA,zM,zS,zE,zL]
  ((first|(with_reducible first|refine condK_dec ?_ ?_|refine condK_ndec ?_ ?_|refine condK_nb ?_ ?_)|refine condK_b ?_ ?_) <;> intro h1)
  · simp(maxSteps:=999999)(disch:=omega)only[go_sem,zA,zM,zS,zE,zL]
  simp(maxSteps:=999999)(disch:=omega)only[go_sem,zA,zM,zS,zE,zL]
  refine OpS.mkF (DrawPuzzleText_run code (wf_u8' hw) (by omega)) (⟨_, Tryd.func24, rfl, rfl⟩ : Enters Tryd.prog 24) rfl rfl rfl ?_
  rintro _ ⟨p, rfl, hp⟩
  refine ⟨rfl, rfl, ?_⟩
  have hs := hp.sm
  have hbb : decide (puzzleT p = puzzleT p) = true := decide_eq_true rfl
  simp(maxSteps:=999999)(disch:=omega)only[go_sem,zA,zM,zS,zE,zL]
  intro g
  first | refine OpS.rd (PuzzleText_run p hs) (⟨_, Tryd.func22, rfl, rfl⟩ : Enters Tryd.prog 22) rfl rfl rfl rfl ?_ | refine Loud.rd (PuzzleText_run p hs) (⟨_, Tryd.func22, rfl, rfl⟩ : Enters Tryd.prog 22) rfl rfl rfl rfl ?_
  simp(maxSteps:=999999)(disch:=omega)only[go_sem,zA,zM,zS,zE,zL]
  first | refine OpS.rd (sPuzzleText_run p hs) (⟨_, Tryd.func20, rfl, rfl⟩ : Enters Tryd.prog 20) rfl rfl rfl rfl ?_ | refine Loud.rd (sPuzzleText_run p hs) (⟨_, Tryd.func20, rfl, rfl⟩ : Enters Tryd.prog 20) rfl rfl rfl rfl ?_
  simp(maxSteps:=999999)(disch:=omega)only[go_sem,zA,zM,zS,zE,zL]
  by_cases hv : puzzleValid p = true
  rotate_left
  · have e : puzzleT p = [] := by unfold puzzleT; rw [if_neg hv]
    have d : decide (puzzleT p = []) = true := decide_eq_true e
    simp(maxSteps:=999999)(disch:=omega)only[go_sem,zA,zM,zS,zE,zL, d]
    first | refine OpS.rd (aliveF_run) (⟨_, Tryd.func13, rfl, rfl⟩ : Enters Tryd.prog 13) rfl rfl rfl rfl ?_ | refine Loud.rd (aliveF_run) (⟨_, Tryd.func13, rfl, rfl⟩ : Enters Tryd.prog 13) rfl rfl rfl rfl ?_
    simp(maxSteps:=999999)(disch:=omega)only[go_sem,zA,zM,zS,zE,zL]
  have e : puzzleT p ≠ [] := by
    unfold puzzleT
    rw [if_pos hv]
    have hg : gridValid p.given p.size = true := by simp only [puzzleValid, Bool.and_eq_true] at hv; exact hv.1
    simp [gridText, hg]
  have d : decide (puzzleT p = []) = false := decide_eq_false e
  simp(maxSteps:=999999)(disch:=omega)only[go_sem,zA,zM,zS,zE,zL, d]
  ((first|(with_reducible first|refine condK_dec ?_ ?_|refine condK_ndec ?_ ?_|refine condK_nb ?_ ?_)|refine condK_b ?_ ?_) <;> intro c2)
  · simp(maxSteps:=999999)(disch:=omega)only[go_sem,zA,zM,zS,zE,zL]
    first | refine OpS.rd (aliveF_run) (⟨_, Tryd.func13, rfl, rfl⟩ : Enters Tryd.prog 13) rfl rfl rfl rfl ?_ | refine Loud.rd (aliveF_run) (⟨_, Tryd.func13, rfl, rfl⟩ : Enters Tryd.prog 13) rfl rfl rfl rfl ?_
    simp(maxSteps:=999999)(disch:=omega)only[go_sem,zA,zM,zS,zE,zL]
  have h20 : p.rules.length ≠ 20 := by omega
  have hmt := more_text hv h20
  have hr20 := puz_rules hv
  refine drawP_lM [0, 1, 2, 3, 4, 5, 6, 8, 9, 10, 13, 7, 11, 12] [4, 8, 9, 10] (some 13) [14] [false, true] [0, 1, 0, 4, 0, 0, 32, 112, 0, 256, 768, 2032, 4095, 0, 16383] foll (by kernel_rfl) ?_
  iterate 4 (rw [lwF_cons]; simp(maxSteps:=999999)(disch:=omega)only[go_sem,zA,zM,zS,zE,zL])
  iterate 2 (rw [lwF_cons]; simp(maxSteps:=999999)(disch:=omega)only[go_sem,zA,zM,zS,zE,zL])
  rw [lwF_cons]
  simp(maxSteps:=999999)(disch:=omega)only[go_sem,zA,zM,zS,zE,zL]
  rw [lwF_cons]
  simp(maxSteps:=999999)(disch:=omega)only[go_sem,zA,zM,zS,zE,zL]
  rw [lwF_cons]
  simp(maxSteps:=999999)(disch:=omega)only[go_sem,zA,zM,zS,zE,zL]
  refine softW_agg (v := aR ⟨4, [0, 1], 0⟩) rfl (by
    intro x hm
    simp only [Op.operands, List.mem_toArray, List.mem_map, List.mem_cons, List.not_mem_nil, or_false] at hm
    obtain ⟨_, rfl | rfl, rfl⟩ := hm <;> rfl) rfl (by
    simp only [opM]
    simp(maxSteps:=999999)(disch:=omega)only[go_sem,zA,zM,zS,zE,zL]
    first | done | rfl) ?_
  simp(maxSteps:=999999)(disch:=omega)only[go_sem,zA,zM,zS,zE,zL]
  rw [lwF_cons]
  simp(maxSteps:=999999)(disch:=omega)only[go_sem,zA,zM,zS,zE,zL]
  rw [lwF_cons]
  simp(maxSteps:=999999)(disch:=omega)only[go_sem,zA,zM,zS,zE,zL]
  rw [lwF_cons]
  simp(maxSteps:=999999)(disch:=omega)only[go_sem,zA,zM,zS,zE,zL]
  refine appendM_LL (E := eR) (xs := []) (ys := p.rules) (sliceOf_of' ti46 rfl ti37) ⟨rfl, rfl, by decide, by decide⟩ .m ⟨by simp, by omega⟩ elems_f ?_
  intro c1 H1 hO hk1 hk2 hl1 hk3
  rw [List.nil_append] at hO
  have hb1 : H1[0]? = some (some ⟨g, 3, cP p⟩) := hk1 0 (by simp) (fun h => h)
  have hn0 : ¬ idsC c1 0 := fun h => by
    rcases hk2 0 h with h | h
    · exact h
    · simp at h
  obtain ⟨T, rfl⟩ : ∃ T, H1 = some (⟨g, 3, cP p⟩ : Blk) :: T := by
    cases H1 with
    | nil => simp at hb1
    | cons x T =>
      have hb1 : x = some ⟨g, 3, cP p⟩ := by simpa using hb1
      exact ⟨T, by rw [hb1]⟩
  simp(maxSteps:=999999)(disch:=omega)only[go_sem,zA,zM,zS,zE,zL]
  rw [lwF_cons]
  simp(maxSteps:=999999)(disch:=omega)only[go_sem,zA,zM,zS,zE,zL]
  refine appendM_LL (E := eR) (xs := p.rules) (ys := [⟨4, [0, 1], 0⟩]) (sliceOf_of' ti46 rfl ti37) ⟨rfl, rfl, by decide, by decide⟩ hO ⟨by omega, by simp⟩ (elems_f (E := eR) (ys := [⟨4, [0, 1], 0⟩])) ?_
  intro c2 H2 hO2 hk4 hk5 hl2 hk6
  have hb2 : H2[0]? = some (some ⟨g, 3, cP p⟩) := by rw [hk4 0 (by simp) hn0]; rfl
  obtain ⟨T2, rfl⟩ : ∃ T2, H2 = some (⟨g, 3, cP p⟩ : Blk) :: T2 := by
    cases H2 with
    | nil => simp at hb2
    | cons x T => 
      have hb2 : x = some ⟨g, 3, cP p⟩ := by simpa using hb2
      exact ⟨T, by rw [hb2]⟩
  have hok : okM [true] T T2 = True := eq_true (okM_gen fun j b hj hb => by
    have hj1 : 1 ≤ j := by
      cases j with
      | zero => simp at hj
      | succ j => omega
    have hjl := (List.getElem?_eq_some_iff.1 hb).1
    have := hk4 (j + 1) (by simp; omega) fun hc => by
      rcases hk2 _ hc with h | h
      · exact h
      · simp at h; omega
    simp only [List.getElem?_cons_succ] at this
    rw [this]
    exact hb)
  simp(maxSteps:=999999)(disch:=omega)only[go_sem,zA,zM,zS,zE,zL, hok]
  rw [lwF_cons]
  simp(maxSteps:=999999)(disch:=omega)only[go_sem,zA,zM,zS,zE,zL]
  intro g1
  simp(maxSteps:=999999)(disch:=omega)only[go_sem,zA,zM,zS,zE,zL, look_last, set_last]
  have hfz : ∀ b, frzC (some (⟨g, 3, cP p⟩ : Blk) :: (T2 ++ [b])) c2 = some (.f (fsl eR (p.rules ++ [⟨4, [0, 1], 0⟩]))) := fun b => (hO2.app (H' := [b])).frzC
  have hsn : ∀ b, snapD (some (⟨g, 3, cP p⟩ : Blk) :: (T2 ++ [b])) (.agg [.f (.int .i64 p.size), .f (fints p.given), c2]) = some (aP ⟨p.size, p.given, p.rules ++ [⟨4, [0, 1], 0⟩]⟩) := fun b => by
    have e1 : ∀ X : Heap, frzC X (.f (.int .i64 p.size)) = some (.f (.int .i64 p.size)) := fun _ => rfl
    have e2 : ∀ X : Heap, frzC X (.f (fints p.given)) = some (.f (fints p.given)) := fun _ => rfl
    simp only [snapD, List.mapM_cons, List.mapM_nil, hfz b, e1, e2, Option.bind_eq_bind, Option.pure_def, Option.bind_some, Option.map_some]
  have hR5 := PuzzleText_run ⟨p.size, p.given, p.rules ++ [⟨4, [0, 1], 0⟩]⟩ ⟨hs.1, by simp; omega, fun r hr => by
    rcases List.mem_append.1 hr with hr | hr
    · exact hs.2.2 r hr
    · rw [List.mem_singleton] at hr; subst hr; simp⟩
  rw [hmt] at hR5
  have hpl : (puzzleT p).length ≤ 10000 := by
    unfold puzzleT
    rw [if_pos hv, List.length_append]
    have h1 := gridText_len p.given p.size (puz_given hv)
    have h2 := rulesT_len p.rules
    omega
  have d4 : decide ((((puzzleT p).length + 4 : Nat) : Int) = ((puzzleT p).length : Int) + 4) = true := decide_eq_true (by omega)
  refine OpS.rdD hR5 (⟨_, Tryd.func22, rfl, rfl⟩ : Enters Tryd.prog 22) rfl rfl (snap_one (hsn _)) rfl ?_
  have hcut : cutT (puzzleT p ++ [32, 108, 97, 98]) 0 (((puzzleT p).length : Nat) : Int).toNat = some (txt (puzzleT p)) := by
    unfold cutT
    rw [Int.toNat_natCast, if_pos ⟨by omega, by simp⟩]
    simp
  simp(maxSteps:=999999)(disch:=omega)only[go_sem,zA,zM,zS,zE,zL, d4]
  rw [hcut]
  simp(maxSteps:=999999)(disch:=omega)only[go_sem,zA,zM,zS,zE,zL]
end Go.Lg
