/- GpED, cut to what is needed. -/
import Derived.Test.YtapopcmgggfedaaGreatXbc6
open Nat renaming reduceAdd → zA, reduceMul → zM, reduceSub → zS, reduceEqDiff → zE, reduceLeDiff → zL
set_option linter.unusedSimpArgs false
set_option linter.unusedVariables false
set_option maxRecDepth 100000
namespace Go.Lg
open Go.Proofs
def seenB (s : Nat) : List CV := (List.range 5).map fun i => .f (.bool (s.testBit i))
theorem seen_ld {g s v : Nat} (h : v ≤ 4) : ldP (some ⟨g, 5, seenB s⟩) (0 + (v : Int).toNat * 1) = some (bool (s.testBit v)) := by
  rw [Int.toNat_natCast, Nat.zero_add, Nat.mul_one]
  have : (seenB s)[v]? = some (.f (.bool (s.testBit v))) := by
    unfold seenB
    rw [List.getElem?_map, List.getElem?_range (by omega)]
    rfl
  simp only [ldP, this]
theorem seen_set {s v : Nat} (h : v ≤ 4) : setRange (seenB s) (0 + (v : Int).toNat * 1) [.f (.bool true)] = seenB (s ||| 2 ^ v) := by
  rw [Int.toNat_natCast, Nat.zero_add, Nat.mul_one]
  refine List.ext_getElem (by simp [setRange, seenB]; omega) fun j h1 h2 => ?_
  have hj : j < 5 := by simpa [seenB] using h2
  simp only [seenB, List.getElem_map, List.getElem_range, Nat.testBit_or, Nat.testBit_two_pow]
  have : v = 0 ∨ v = 1 ∨ v = 2 ∨ v = 3 ∨ v = 4 := by omega
  have hj' : j = 0 ∨ j = 1 ∨ j = 2 ∨ j = 3 ∨ j = 4 := by omega
  rcases this with rfl | rfl | rfl | rfl | rfl <;> rcases hj' with rfl | rfl | rfl | rfl | rfl <;> simp [setRange, seenB, List.range_succ]
theorem SquareFits_run {n : Nat} (hn : n = 2 ∨ n = 3 ∨ n = 4) (xs : List Int) (hg : GrdN xs n) : Reads Tryz.prog 91 [ints xs, int n] (bool (!clash xs n)) := by
  have hn4 : 2 ≤ n ∧ n ≤ 4 := by omega
  have hl := hg.len
  have hsq : n * n ≤ 16 := by rcases hn with rfl | rfl | rfl <;> omega
  refine RunCall.cw (c := _) Tryz.func91 rfl (n := 47) Tryz.ntmps91 (rs := [.tmp 4]) rfl ?_
  simp only[List.length_cons,List.length_nil,zA,zS,List.replicate,List.cons_append,List.nil_append]
  simp(maxSteps:=999999)(disch:=omega)only[go_sem,zA,zM,zS,zE,zL]
  first | refine OpS.rd (GridValid_run xs n (by omega)) (⟨_, Tryz.func27, rfl, rfl⟩ : Enters Tryz.prog 27) rfl rfl rfl rfl ?_ | refine Loud.rd (GridValid_run xs n (by omega)) (⟨_, Tryz.func27, rfl, rfl⟩ : Enters Tryz.prog 27) rfl rfl rfl rfl ?_
  simp(maxSteps:=999999)(disch:=omega)only[go_sem,zA,zM,zS,zE,zL]
  ((first|(with_reducible first|refine condK_dec ?_ ?_|refine condK_ndec ?_ ?_|refine condK_nb ?_ ?_)|refine condK_b ?_ ?_) <;> intro c1)
  rotate_left
  · exfalso; rw [hg.valid hn] at c1; cases c1
  simp(maxSteps:=999999)(disch:=omega)only[go_sem,zA,zM,zS,zE,zL]
  refine loop_rule (fun i : Nat => 2 * n - i) (fun i => i ≤ 2 * n ∧ ∀ j, j < i → clashC xs (lineC n j) 0 = false) (fun i => [.k, .k, .a, .a, .a, .a, .a, .a, .a, .a, .a, .a, .a, .a, .k, .p (int i), .a, .a, .a, .a, .a, .a, .a, .a, .a, .a, .a, .a, .a, .a, .a, .a, .a, .a, .a, .a, .a, .a, .a, .a, .a, .a, .a, .a, .a, .a, .a]) (fun _ => []) 0 ⟨Nat.zero_le _, fun j hj => absurd hj (Nat.not_lt_zero _)⟩ (by simp(maxSteps:=999999)(disch:=omega)only[go_sem,zA,zM,zS,zE,zL]; rfl) (hle_nil _) ?_
  rintro i ⟨hi, hno⟩
  simp(maxSteps:=999999)(disch:=omega)only[go_sem,zA,zM,zS,zE,zL]
  ((first|(with_reducible first|refine condK_dec ?_ ?_|refine condK_ndec ?_ ?_|refine condK_nb ?_ ?_)|refine condK_b ?_ ?_) <;> intro h1)
  · have h1 : i < 2 * n := by omega
    simp(maxSteps:=999999)(disch:=omega)only[go_sem,zA,zM,zS,zE,zL]
    intro g
    first | refine OpS.mk (iLineCells_run hn h1) (⟨_, Tryz.func88, rfl, rfl⟩ : Enters Tryz.prog 88) rfl rfl rfl rfl rfl ?_ | refine Loud.mk (iLineCells_run hn h1) (⟨_, Tryz.func88, rfl, rfl⟩ : Enters Tryz.prog 88) rfl rfl rfl rfl rfl ?_
    simp(maxSteps:=999999)(disch:=omega)only[go_sem,zA,zM,zS,zE,zL]
    have hlen := lineC_length n i
    refine loop_rule2 (fun (k seen : Nat) => n - k) (fun k seen => k ≤ n ∧ clashC xs (lineC n i) 0 = clashC xs ((lineC n i).drop k) seen ∧ seen < 32) (fun k seen => [.k, .k, .a, .a, .a, .a, .k, .a, .a, .a, .a, .a, .a, .a, .k, .k, .a, .a, .a, .a, .a, .k, .k, .p (int k), .a, .a, .a, .a, .a, .a, .a, .a, .a, .a, .a, .a, .a, .a, .a, .a, .a, .a, .a, .a, .a, .a, .a]) (fun _ seen => [some ⟨g, 5, seenB seen⟩]) 0 0 ⟨Nat.zero_le _, rfl, by omega⟩ (by simp(maxSteps:=999999)(disch:=omega)only[go_sem,zA,zM,zS,zE,zL]; rfl) (by exact HLe.refl _) ?_
    rintro k seen ⟨hk, hc, hs⟩
    simp(maxSteps:=999999)(disch:=omega)only[go_sem,zA,zM,zS,zE,zL]
    ((first|(with_reducible first|refine condK_dec ?_ ?_|refine condK_ndec ?_ ?_|refine condK_nb ?_ ?_)|refine condK_b ?_ ?_) <;> intro h2)
    · have h2 : k < n := by omega
      obtain ⟨hb0, hb1⟩ := lineC_bound hn h1 h2
      obtain ⟨c, hcc⟩ : ∃ c : Nat, nth (lineC n i) k = c := ⟨(nth (lineC n i) k).toNat, by omega⟩
      have hcl : c < xs.length := by omega
      have hv := hg.val c hcl
      obtain ⟨v, hvv⟩ : ∃ v : Nat, nth xs c = v := ⟨(nth xs c).toNat, by omega⟩
      have hv4 : v ≤ 4 := by omega
      have hsl : (seenB seen).length = 5 := by simp [seenB]
      have hcn : clashC xs ((lineC n i).drop k) seen = if (decide (0 < v) && seen.testBit v) = true then true else clashC xs ((lineC n i).drop (k + 1)) (seen ||| 2 ^ v) := by
        rw [List.drop_eq_getElem_cons (by omega), clashC_cons]
        have : (lineC n i)[k]'(by omega) = c := by rw [← hcc, nth_eq (by omega)]; rfl
        rw [this, hvv, Int.toNat_natCast]
        simp
      have hs2 : seen ||| 2 ^ v < 32 := by
        refine Nat.or_lt_two_pow (n := 5) hs ?_
        have : v = 0 ∨ v = 1 ∨ v = 2 ∨ v = 3 ∨ v = 4 := by omega
        rcases this with h | h | h | h | h <;> rw [h] <;> omega
      simp(maxSteps:=999999)(disch:=omega)only[go_sem,zA,zM,zS,zE,zL, hcc, hvv]
      ((with_reducible first|refine guardK_dec ?_ ?_|refine guardK_ndec ?_ ?_|refine guardK_nb ?_ ?_|refine guardK_split ?_ ?_|refine guardQ_dec ?_ ?_|refine guardL_dec ?_ ?_|refine guardQ_ndec ?_ ?_|refine guardL_ndec ?_ ?_|refine guardQ_nb ?_ ?_|refine guardL_nb ?_ ?_|refine guardQ_split ?_ ?_|refine guardL_split ?_ ?_) <;> intro d1 <;> simp(maxSteps:=999999)(disch:=omega)only[go_sem,zA,zM,zS,zE,zL, d1])
      · have d1 : 0 < v := by omega
        simp(maxSteps:=999999)(disch:=omega)only[go_sem,zA,zM,zS,zE,zL, hcc, hvv, seen_ld hv4]
        ((first|(with_reducible first|refine condK_dec ?_ ?_|refine condK_ndec ?_ ?_|refine condK_nb ?_ ?_)|refine condK_b ?_ ?_) <;> intro d2)
        · simp(maxSteps:=999999)(disch:=omega)only[go_sem,zA,zM,zS,zE,zL]
          have : clash xs n = true := by
            unfold clash
            rw [List.any_eq_true]
            exact ⟨i, List.mem_range.2 h1, by rw [hc, hcn, if_pos (by simp [d1, d2])]⟩
          rw [this]
          rfl
        · simp(maxSteps:=999999)(disch:=omega)only[go_sem,zA,zM,zS,zE,zL, hcc, hvv, seen_set hv4]
          refine ⟨k + 1, seen ||| 2 ^ v, ⟨⟨by omega, ?_, hs2⟩, by omega⟩, by push_cast; omega, HLe.refl _⟩
          rw [hc, hcn, if_neg (by simp [d2])]
      · simp(maxSteps:=999999)(disch:=omega)only[go_sem,zA,zM,zS,zE,zL, hcc, hvv, seen_set hv4]
        refine ⟨k + 1, seen ||| 2 ^ v, ⟨⟨by omega, ?_, hs2⟩, by omega⟩, by push_cast; omega, HLe.refl _⟩
        rw [hc, hcn, if_neg (by simp; omega)]
    · have hke : k = n := by omega
      simp(maxSteps:=999999)(disch:=omega)only[go_sem,zA,zM,zS,zE,zL]
      refine ⟨i + 1, ⟨⟨by omega, fun j hj => ?_⟩, by omega⟩, by push_cast; omega, hle_nil _⟩
      by_cases hji : j = i
      · rw [hji, hc, List.drop_of_length_le (by omega)]; rfl
      · exact hno j (by omega)
  · simp(maxSteps:=999999)(disch:=omega)only[go_sem,zA,zM,zS,zE,zL]
    have : clash xs n = false := by
      unfold clash
      rw [List.any_eq_false]
      intro j hj
      rw [List.mem_range] at hj
      rw [hno j (by omega)]
      simp
    rw [this]
    rfl
end Go.Lg
