/- GpVS, cut to what is needed. -/
import Derived.Test.YtfkhojmllokgoaaDoorYab7
import Derived.Test.YtfkhojmllokgoaaDoorYab6
import Derived.Test.YtfkhojmllokgoaaDoorYab1
open Nat renaming reduceAdd → zA, reduceMul → zM, reduceSub → zS, reduceEqDiff → zE, reduceLeDiff → zL
set_option linter.unusedSimpArgs false
set_option linter.unusedVariables false
set_option maxRecDepth 100000
namespace Go.Lg
open Go.Proofs
def rulesT (rs : List Rul) : List UInt8 := rs.flatMap fun r => 32 :: ruleT r
def puzzleT (p : Puz) : List UInt8 := if puzzleValid p = true then gridText p.given p.size ++ rulesT p.rules else []
theorem ruleT_len (r : Rul) : (ruleT r).length ≤ 400 := by
  unfold ruleT
  split
  · rename_i h
    obtain ⟨_, h1, _, h2, h3⟩ := rule_txt h
    unfold ruleS valT
    have := dec_len r.val.toNat
    split <;> simp only [List.length_cons, List.length_append, List.length_map, List.length_nil] <;> omega
  · simp
theorem rulesT_take {rs : List Rul} {k : Nat} (h : k < rs.length) : rulesT (rs.take (k + 1)) = rulesT (rs.take k) ++ 32 :: ruleT (nth rs k) := by
  unfold rulesT
  rw [take_succ_nth h, List.flatMap_append]
  simp
theorem rulesT_len : ∀ (rs : List Rul), (rulesT rs).length ≤ 401 * rs.length
  | [] => by simp [rulesT]
  | r :: rs => by
    have h1 := ruleT_len r
    have h2 := rulesT_len rs
    unfold rulesT at h2 ⊢
    simp only [List.flatMap_cons, List.length_append, List.length_cons]
    omega
theorem puz_given {p : Puz} (h : puzzleValid p = true) : p.given.length ≤ 16 := by
  simp only [puzzleValid, Bool.and_eq_true] at h
  have := gridValid_bound h.1
  omega
theorem puz_rules {p : Puz} (h : puzzleValid p = true) : p.rules.length ≤ 20 := by
  simp only [puzzleValid, Bool.and_eq_true, decide_eq_true_eq] at h
  exact h.2.1
theorem gridText_len (xs : List Int) (n : Int) (h : xs.length ≤ 16) : (gridText xs n).length ≤ 18 := by
  unfold gridText
  split <;> simp <;> omega
set_option maxHeartbeats 1000000 in
theorem sPuzzleText_run (p : Puz) (hx : smP p) : Reads Tryd.prog 20 [aP p] (txt (puzzleT p)) := by
  have hx3 := hx.2.2
  refine RunCall.cw (c := _) Tryd.func20 rfl (n := 30) Tryd.ntmps20 (rs := [.tmp 2]) rfl ?_
  simp only[List.length_cons,List.length_nil,zA,zS,List.replicate,List.cons_append,List.nil_append]
  simp(maxSteps:=999999)(disch:=omega)only[go_sem,zA,zM,zS,zE,zL]
  intro g
  first | refine OpS.rd (sPuzzleValid_run p hx) (⟨_, Tryd.func25, rfl, rfl⟩ : Enters Tryd.prog 25) rfl rfl rfl rfl ?_ | refine Loud.rd (sPuzzleValid_run p hx) (⟨_, Tryd.func25, rfl, rfl⟩ : Enters Tryd.prog 25) rfl rfl rfl rfl ?_
  simp(maxSteps:=999999)(disch:=omega)only[go_sem,zA,zM,zS,zE,zL]
  cases hv : puzzleValid p with
  | false =>
    have e : puzzleT p = [] := by unfold puzzleT; rw [hv]; rfl
    rw [e]
    ((first|(with_reducible first|refine condK_dec ?_ ?_|refine condK_ndec ?_ ?_|refine condK_nb ?_ ?_)|refine condK_b ?_ ?_) <;> intro c0)
    · cases c0
    simp(maxSteps:=999999)(disch:=omega)only[go_sem,zA,zM,zS,zE,zL]
  | true =>
    have e : puzzleT p = gridText p.given p.size ++ rulesT p.rules := by unfold puzzleT; rw [hv]; rfl
    rw [e]
    have hg := puz_given hv
    have hr := puz_rules hv
    have hgl := gridText_len p.given p.size hg
    ((first|(with_reducible first|refine condK_dec ?_ ?_|refine condK_ndec ?_ ?_|refine condK_nb ?_ ?_)|refine condK_b ?_ ?_) <;> intro c0)
    rotate_left
    · cases c0
    simp(maxSteps:=999999)(disch:=omega)only[go_sem,zA,zM,zS,zE,zL]
    first | refine OpS.rd (sGridText_run p.given p.size (by omega)) (⟨_, Tryd.func40, rfl, rfl⟩ : Enters Tryd.prog 40) rfl rfl rfl rfl ?_ | refine Loud.rd (sGridText_run p.given p.size (by omega)) (⟨_, Tryd.func40, rfl, rfl⟩ : Enters Tryd.prog 40) rfl rfl rfl rfl ?_
    simp(maxSteps:=999999)(disch:=omega)only[go_sem,zA,zM,zS,zE,zL]
    refine loop_rule2 (fun (k : Nat) (out : List UInt8) => p.rules.length - k) (fun k out => k ≤ p.rules.length ∧ out = gridText p.given p.size ++ rulesT (p.rules.take k)) (fun k out => [.a, .k, .a, .p (txt out), .p (int k), .a, .a, .a, .a, .a, .a, .a, .a, .a, .a, .a, .a, .a, .a, .a, .a, .a, .a, .a, .a, .a, .a, .a, .a, .a]) (fun _ _ => [some ⟨g, 1, cP p⟩]) 0 (gridText p.given p.size)
      ⟨Nat.zero_le _, by simp [rulesT]⟩ (by simp(maxSteps:=999999)(disch:=omega)only[go_sem,zA,zM,zS,zE,zL]; rfl) (HLe.refl _) ?_
    rintro k out ⟨hi, ho⟩
    have hlen : out.length ≤ 10000 := by
      rw [ho, List.length_append]
      have := rulesT_len (p.rules.take k)
      rw [List.length_take] at this
      omega
    simp(maxSteps:=999999)(disch:=omega)only[go_sem,zA,zM,zS,zE,zL]
    ((first|(with_reducible first|refine condK_dec ?_ ?_|refine condK_ndec ?_ ?_|refine condK_nb ?_ ?_)|refine condK_b ?_ ?_) <;> intro c1)
    · have hr4 := ruleT_len (nth p.rules k)
      simp(maxSteps:=999999)(disch:=omega)only[go_sem,zA,zM,zS,zE,zL]
      first | refine OpS.rd (sRuleText_run (nth p.rules k) (hx3 _ (nth_mem (by omega)))) (⟨_, Tryd.func15, rfl, rfl⟩ : Enters Tryd.prog 15) rfl rfl rfl rfl ?_ | refine Loud.rd (sRuleText_run (nth p.rules k) (hx3 _ (nth_mem (by omega)))) (⟨_, Tryd.func15, rfl, rfl⟩ : Enters Tryd.prog 15) rfl rfl rfl rfl ?_
      simp(maxSteps:=999999)(disch:=omega)only[go_sem,zA,zM,zS,zE,zL]
      refine ⟨k + 1, _, ⟨⟨by omega, ?_⟩, by omega⟩, ⟨rfl, rfl⟩, hle_eq rfl (hle_nil _)⟩
      rw [rulesT_take (by omega), ho]
      simp
    have hke : k = p.rules.length := by omega
    subst hke
    rw [List.take_length] at ho
    subst ho
    simp(maxSteps:=999999)(disch:=omega)only[go_sem,zA,zM,zS,zE,zL]
set_option maxHeartbeats 1000000 in
theorem PuzzleText_run (p : Puz) (hx : smP p) : Reads Tryd.prog 22 [aP p] (txt (puzzleT p)) := by
  have hx3 := hx.2.2
  refine RunCall.cw (c := _) Tryd.func22 rfl (n := 28) Tryd.ntmps22 (rs := [.tmp 2]) rfl ?_
  simp only[List.length_cons,List.length_nil,zA,zS,List.replicate,List.cons_append,List.nil_append]
  simp(maxSteps:=999999)(disch:=omega)only[go_sem,zA,zM,zS,zE,zL]
  intro g
  first | refine OpS.rd (PuzzleValid_run p hx) (⟨_, Tryd.func42, rfl, rfl⟩ : Enters Tryd.prog 42) rfl rfl rfl rfl ?_ | refine Loud.rd (PuzzleValid_run p hx) (⟨_, Tryd.func42, rfl, rfl⟩ : Enters Tryd.prog 42) rfl rfl rfl rfl ?_
  simp(maxSteps:=999999)(disch:=omega)only[go_sem,zA,zM,zS,zE,zL]
  cases hv : puzzleValid p with
  | false =>
    have e : puzzleT p = [] := by unfold puzzleT; rw [hv]; rfl
    rw [e]
    ((first|(with_reducible first|refine condK_dec ?_ ?_|refine condK_ndec ?_ ?_|refine condK_nb ?_ ?_)|refine condK_b ?_ ?_) <;> intro c0)
    · cases c0
    simp(maxSteps:=999999)(disch:=omega)only[go_sem,zA,zM,zS,zE,zL]
  | true =>
    have e : puzzleT p = gridText p.given p.size ++ rulesT p.rules := by unfold puzzleT; rw [hv]; rfl
    rw [e]
    have hg := puz_given hv
    have hr := puz_rules hv
    have hgl := gridText_len p.given p.size hg
    ((first|(with_reducible first|refine condK_dec ?_ ?_|refine condK_ndec ?_ ?_|refine condK_nb ?_ ?_)|refine condK_b ?_ ?_) <;> intro c0)
    rotate_left
    · cases c0
    simp(maxSteps:=999999)(disch:=omega)only[go_sem,zA,zM,zS,zE,zL]
    first | refine OpS.rd (GridText_run p.given p.size (by omega)) (⟨_, Tryd.func43, rfl, rfl⟩ : Enters Tryd.prog 43) rfl rfl rfl rfl ?_ | refine Loud.rd (GridText_run p.given p.size (by omega)) (⟨_, Tryd.func43, rfl, rfl⟩ : Enters Tryd.prog 43) rfl rfl rfl rfl ?_
    simp(maxSteps:=999999)(disch:=omega)only[go_sem,zA,zM,zS,zE,zL]
    refine loop_rule2 (fun (k : Nat) (out : List UInt8) => p.rules.length - k) (fun k out => k ≤ p.rules.length ∧ out = gridText p.given p.size ++ rulesT (p.rules.take k)) (fun k out => [.a, .a, .a, .p (txt out), .a, .a, .a, .a, .a, .a, .a, .a, .a, .a, .a, .k, .k, .p (int k), .a, .a, .a, .a, .a, .a, .a, .a, .a, .a]) (fun _ _ => [some ⟨g, 1, cP p⟩]) 0 (gridText p.given p.size)
      ⟨Nat.zero_le _, by simp [rulesT]⟩ (by simp(maxSteps:=999999)(disch:=omega)only[go_sem,zA,zM,zS,zE,zL]; rfl) (HLe.refl _) ?_
    rintro k out ⟨hi, ho⟩
    have hlen : out.length ≤ 10000 := by
      rw [ho, List.length_append]
      have := rulesT_len (p.rules.take k)
      rw [List.length_take] at this
      omega
    simp(maxSteps:=999999)(disch:=omega)only[go_sem,zA,zM,zS,zE,zL]
    ((first|(with_reducible first|refine condK_dec ?_ ?_|refine condK_ndec ?_ ?_|refine condK_nb ?_ ?_)|refine condK_b ?_ ?_) <;> intro c1)
    · have hr4 := ruleT_len (nth p.rules k)
      simp(maxSteps:=999999)(disch:=omega)only[go_sem,zA,zM,zS,zE,zL]
      intro g2
      first | refine OpS.rd (RuleText_run (nth p.rules k) (hx3 _ (nth_mem (by omega)))) (⟨_, Tryd.func17, rfl, rfl⟩ : Enters Tryd.prog 17) rfl rfl rfl rfl ?_ | refine Loud.rd (RuleText_run (nth p.rules k) (hx3 _ (nth_mem (by omega)))) (⟨_, Tryd.func17, rfl, rfl⟩ : Enters Tryd.prog 17) rfl rfl rfl rfl ?_
      simp(maxSteps:=999999)(disch:=omega)only[go_sem,zA,zM,zS,zE,zL]
      refine ⟨k + 1, _, ⟨⟨by omega, ?_⟩, by omega⟩, ⟨rfl, rfl⟩, hle_eq rfl (hle_nil _)⟩
      rw [rulesT_take (by omega), ho]
      simp
    have hke : k = p.rules.length := by omega
    subst hke
    rw [List.take_length] at ho
    subst ho
    simp(maxSteps:=999999)(disch:=omega)only[go_sem,zA,zM,zS,zE,zL]
theorem law_FnExactRuleText (r : Rul) (hx : r.cells.length ≤ 9223372036854775807) : Reads Tryd.prog 5 [aR r] (bool true) := by
  have hbb : decide (ruleT r = ruleT r) = true := decide_eq_true rfl
  refine RunCall.cw (c := _) Tryd.func5 rfl (n := 27) Tryd.ntmps5 (rs := [.tmp 2]) rfl ?_
  simp only[List.length_cons,List.length_nil,zA,zS,List.replicate,List.cons_append,List.nil_append]
  simp(maxSteps:=999999)(disch:=omega)only[go_sem,zA,zM,zS,zE,zL]
  intro g
  first | refine OpS.rd (szRule_run r 1048576 (by omega) hx) (⟨_, Tryd.func14, rfl, rfl⟩ : Enters Tryd.prog 14) rfl rfl rfl rfl ?_ | refine Loud.rd (szRule_run r 1048576 (by omega) hx) (⟨_, Tryd.func14, rfl, rfl⟩ : Enters Tryd.prog 14) rfl rfl rfl rfl ?_
  simp(maxSteps:=999999)(disch:=omega)only[go_sem,zA,zM,zS,zE,zL]
  have hb := szI_le (n := r.cells.length) (left := 1048576) (by omega)
  ((first|(with_reducible first|refine condK_dec ?_ ?_|refine condK_ndec ?_ ?_|refine condK_nb ?_ ?_)|refine condK_b ?_ ?_) <;> intro h)
  · simp(maxSteps:=999999)(disch:=omega)only[go_sem,zA,zM,zS,zE,zL]
  obtain ⟨hw, _⟩ := szI_ok h
  have hy : r.cells.length ≤ 2 ^ 40 := by omega
  simp(maxSteps:=999999)(disch:=omega)only[go_sem,zA,zM,zS,zE,zL]
  first | refine OpS.mk (toRule_run r hy) (⟨_, Tryd.func16, rfl, rfl⟩ : Enters Tryd.prog 16) rfl rfl rfl rfl rfl ?_ | refine Loud.mk (toRule_run r hy) (⟨_, Tryd.func16, rfl, rfl⟩ : Enters Tryd.prog 16) rfl rfl rfl rfl rfl ?_
  simp(maxSteps:=999999)(disch:=omega)only[go_sem,zA,zM,zS,zE,zL]
  first | refine OpS.rd (sRuleText_run r hy) (⟨_, Tryd.func15, rfl, rfl⟩ : Enters Tryd.prog 15) rfl rfl rfl rfl ?_ | refine Loud.rd (sRuleText_run r hy) (⟨_, Tryd.func15, rfl, rfl⟩ : Enters Tryd.prog 15) rfl rfl rfl rfl ?_
  simp(maxSteps:=999999)(disch:=omega)only[go_sem,zA,zM,zS,zE,zL]
  first | refine OpS.mk (toRule_run r hy) (⟨_, Tryd.func16, rfl, rfl⟩ : Enters Tryd.prog 16) rfl rfl rfl rfl rfl ?_ | refine Loud.mk (toRule_run r hy) (⟨_, Tryd.func16, rfl, rfl⟩ : Enters Tryd.prog 16) rfl rfl rfl rfl rfl ?_
  simp(maxSteps:=999999)(disch:=omega)only[go_sem,zA,zM,zS,zE,zL]
  intro g2
  first | refine OpS.rd (RuleText_run r hy) (⟨_, Tryd.func17, rfl, rfl⟩ : Enters Tryd.prog 17) rfl rfl rfl rfl ?_ | refine Loud.rd (RuleText_run r hy) (⟨_, Tryd.func17, rfl, rfl⟩ : Enters Tryd.prog 17) rfl rfl rfl rfl ?_
  simp(maxSteps:=999999)(disch:=omega)only[go_sem,zA,zM,zS,zE,zL]
  refine drawP_q foll (by kernel_rfl) ?_
  simp(maxSteps:=999999)(disch:=omega)only[go_sem,Nat.reduceBEq,Bool.true_or,zA,zM,zS,zE,zL]
  refine quietW.mk (toRule_run r hy) (⟨_, Tryd.func16, rfl, rfl⟩ : Enters Tryd.prog 16) rfl rfl rfl rfl rfl ?_
  simp(maxSteps:=999999)(disch:=omega)only[go_sem,zA,zM,zS,zE,zL]
  refine quietW.rd (eqRule_run r r hy) (⟨_, Tryd.func18, rfl, rfl⟩ : Enters Tryd.prog 18) rfl rfl rfl rfl ?_
  simp(maxSteps:=999999)(disch:=omega)only[go_sem,zA,zM,zS,zE,zL]
theorem law_FnExactPuzzleText (p : Puz) (hx : okP' p) : Reads Tryd.prog 6 [aP p] (bool true) := by
  have hbb : decide (puzzleT p = puzzleT p) = true := decide_eq_true rfl
  refine RunCall.cw (c := _) Tryd.func6 rfl (n := 27) Tryd.ntmps6 (rs := [.tmp 2]) rfl ?_
  simp only[List.length_cons,List.length_nil,zA,zS,List.replicate,List.cons_append,List.nil_append]
  simp(maxSteps:=999999)(disch:=omega)only[go_sem,zA,zM,zS,zE,zL]
  intro g
  first | refine OpS.rd (szPuzzle_run p 1048576 (by omega) hx) (⟨_, Tryd.func19, rfl, rfl⟩ : Enters Tryd.prog 19) rfl rfl rfl rfl ?_ | refine Loud.rd (szPuzzle_run p 1048576 (by omega) hx) (⟨_, Tryd.func19, rfl, rfl⟩ : Enters Tryd.prog 19) rfl rfl rfl rfl ?_
  simp(maxSteps:=999999)(disch:=omega)only[go_sem,zA,zM,zS,zE,zL]
  have hb := szI_le (n := wP p) (left := 1048576) (by omega)
  ((first|(with_reducible first|refine condK_dec ?_ ?_|refine condK_ndec ?_ ?_|refine condK_nb ?_ ?_)|refine condK_b ?_ ?_) <;> intro h)
  · simp(maxSteps:=999999)(disch:=omega)only[go_sem,zA,zM,zS,zE,zL]
  obtain ⟨hw, _⟩ := szI_ok h
  have hs := smP_of (p := p) (n := 1048576) (by omega) (by omega)
  simp(maxSteps:=999999)(disch:=omega)only[go_sem,zA,zM,zS,zE,zL]
  first | refine OpS.mk (toPuzzle_run p hs) (⟨_, Tryd.func21, rfl, rfl⟩ : Enters Tryd.prog 21) rfl rfl rfl rfl rfl ?_ | refine Loud.mk (toPuzzle_run p hs) (⟨_, Tryd.func21, rfl, rfl⟩ : Enters Tryd.prog 21) rfl rfl rfl rfl rfl ?_
  simp(maxSteps:=999999)(disch:=omega)only[go_sem,zA,zM,zS,zE,zL]
  first | refine OpS.rd (sPuzzleText_run p hs) (⟨_, Tryd.func20, rfl, rfl⟩ : Enters Tryd.prog 20) rfl rfl rfl rfl ?_ | refine Loud.rd (sPuzzleText_run p hs) (⟨_, Tryd.func20, rfl, rfl⟩ : Enters Tryd.prog 20) rfl rfl rfl rfl ?_
  simp(maxSteps:=999999)(disch:=omega)only[go_sem,zA,zM,zS,zE,zL]
  first | refine OpS.mk (toPuzzle_run p hs) (⟨_, Tryd.func21, rfl, rfl⟩ : Enters Tryd.prog 21) rfl rfl rfl rfl rfl ?_ | refine Loud.mk (toPuzzle_run p hs) (⟨_, Tryd.func21, rfl, rfl⟩ : Enters Tryd.prog 21) rfl rfl rfl rfl rfl ?_
  simp(maxSteps:=999999)(disch:=omega)only[go_sem,zA,zM,zS,zE,zL]
  intro g2
  first | refine OpS.rd (PuzzleText_run p hs) (⟨_, Tryd.func22, rfl, rfl⟩ : Enters Tryd.prog 22) rfl rfl rfl rfl ?_ | refine Loud.rd (PuzzleText_run p hs) (⟨_, Tryd.func22, rfl, rfl⟩ : Enters Tryd.prog 22) rfl rfl rfl rfl ?_
  simp(maxSteps:=999999)(disch:=omega)only[go_sem,zA,zM,zS,zE,zL]
  refine drawP_q foll (by kernel_rfl) ?_
  simp(maxSteps:=999999)(disch:=omega)only[go_sem,Nat.reduceBEq,Bool.true_or,zA,zM,zS,zE,zL]
  refine quietW.mk (toPuzzle_run p hs) (⟨_, Tryd.func21, rfl, rfl⟩ : Enters Tryd.prog 21) rfl rfl rfl rfl rfl ?_
  simp(maxSteps:=999999)(disch:=omega)only[go_sem,zA,zM,zS,zE,zL]
  refine quietW.rd (eqPuzzle_run p p hs) (⟨_, Tryd.func23, rfl, rfl⟩ : Enters Tryd.prog 23) rfl rfl rfl rfl ?_
  simp(maxSteps:=999999)(disch:=omega)only[go_sem,zA,zM,zS,zE,zL]
end Go.Lg
