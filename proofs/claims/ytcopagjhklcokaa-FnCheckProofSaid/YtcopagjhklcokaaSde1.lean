/- GpTE, GpTF, cut to what is needed. -/
import Derived.Test.YtcopagjhklcokaaSde0
import Derived.Test.YtcopagjhklcokaaSdb8
import Derived.Test.YtcopagjhklcokaaSdb9
open Nat(reduceAdd reduceMul reduceSub reduceEqDiff reduceLeDiff)
set_option linter.unusedSimpArgs false
set_option linter.unusedVariables false
set_option maxRecDepth 100000
namespace Go.Lg
open Go.Proofs
def chkS (L : Nat) : Option (Nat × List Brn) → AV
  | some (n, l) => .tup [int n, int (L - l.length : Nat)]
  | none => .tup [int (-1), int L]
theorem drop_end {α : Type} {bs pre l : List α} {a : Nat} (ha : a ≤ bs.length) (h : bs.drop a = pre ++ l) : bs.drop (bs.length - l.length) = l ∧ l.length ≤ bs.length - a := by
  have hl : (bs.drop a).length = pre.length + l.length := by rw [h, List.length_append]
  rw [List.length_drop] at hl
  refine ⟨?_, by omega⟩
  have e : bs.length - l.length = a + pre.length := by omega
  rw [e, ← List.drop_drop, h, List.drop_left]
theorem drop_nth {bs : List Brn} {a : Nat} (h : a < bs.length) : bs.drop a = nth bs a :: bs.drop (a + 1) := by
  rw [List.drop_eq_getElem_cons h, nth_eq (by omega)]
  rfl
theorem mvals_zero {m : Nat} (h : m ≤ 30 ∧ m % 2 = 0) : (mvals m 4).length = 0 ↔ m = 0 := by
  have key : ∀ a : Nat, a < 31 → a % 2 = 0 → ((mvals a 4).length = 0 ↔ a = 0) := by decide +kernel
  exact key m (by omega) h.2
theorem endM_is {p : Puz} {ms : List Nat} : endM p ms = if (∃ i : Nat, i < ms.length ∧ mAt ms i = 0) then some 0 else if (∀ i : Nat, i < ms.length → onlyV (mAt ms i) ≠ 0) then some (if solvedV p (nats (onlyL ms)) = true then 1 else 0) else none := by
  have h0 : (∃ m ∈ ms, m = 0) ↔ ∃ i : Nat, i < ms.length ∧ mAt ms i = 0 := by
    constructor
    · rintro ⟨m, hm, rfl⟩
      obtain ⟨i, hi, he⟩ := List.getElem_of_mem hm
      exact ⟨i, hi, by unfold mAt; simp [List.getD, List.getElem?_eq_getElem hi, he]⟩
    · rintro ⟨i, hi, he⟩
      exact ⟨_, mAt_mem hi, he⟩
  have h1 : (∀ m ∈ ms, onlyV m ≠ 0) ↔ ∀ i : Nat, i < ms.length → onlyV (mAt ms i) ≠ 0 := by
    constructor
    · intro h i hi; exact h _ (mAt_mem hi)
    · intro h m hm
      obtain ⟨i, hi, he⟩ := List.getElem_of_mem hm
      have := h i hi
      unfold mAt at this
      simpa [List.getD, List.getElem?_eq_getElem hi, he] using this
  unfold endM
  by_cases a : ∃ m ∈ ms, m = 0
  · rw [if_pos a, if_pos (h0.1 a)]
  · rw [if_neg a, if_neg (fun h => a (h0.2 h))]
    by_cases b : ∀ m ∈ ms, onlyV m ≠ 0
    · rw [if_pos b, if_pos (h1.1 b)]
    · rw [if_neg b, if_neg (fun h => b (h1.2 h))]
theorem snap_fourB {H : Heap} {a b c d a' b' c' d' : AV} (h1 : snapD H a = some a') (h2 : snapD H b = some b') (h3 : snapD H c = some c') (h4 : snapD H d = some d') : [a, b, c, d].mapM (snapD H) = some [a', b', c', d'] := by
  simp only [List.mapM_cons, List.mapM_nil, h1, h2, h3, h4, Option.bind_eq_bind, Option.pure_def, Option.bind_some]
set_option maxHeartbeats 4000000 in
theorem l20Check_run {p : Puz} {n : Nat} (hp : PuzN p n) (hv : puzzleValid p = true) (hg : p.given.length = n * n) (bs : List Brn) (h200 : bs.length ≤ 200) (hb : ∀ b ∈ bs, brnOk p.given.length b = true) : ∀ (F : Nat) (ms : List Nat) (a : Nat), MsN ms n → a ≤ bs.length → bs.length - a < F → Reads Try.prog 93 [aP p, ints (nats ms), rsl eB bs, int a] (chkS bs.length (chkF p F ms (bs.drop a))) := by
  intro F
  induction F using Nat.strongRecOn with
  | ind F ih =>
  intro ms a hm ha hF
  have hn := hp.hn
  have hsq : 4 ≤ n * n ∧ n * n ≤ 16 := by rcases hn with rfl | rfl | rfl <;> omega
  obtain ⟨R, hR⟩ : ∃ R, R = chkF p F ms (bs.drop a) := ⟨_, rfl⟩
  rw [← hR]
  refine RunCall.cw (c := _) Try.func93 rfl (n := 116) Try.ntmps93 (rs := [.tmp 8, .tmp 9]) rfl ?_
  simp only[List.length_cons,List.length_nil,reduceAdd,reduceSub,List.replicate,List.cons_append,List.nil_append]
  simp(maxSteps:=999999)(disch:=omega)only[go_sem,reduceAdd,reduceMul,reduceSub,reduceEqDiff,reduceLeDiff]
  intro g
  refine loop_rule2 (fun (f : Nat) (b : List Nat × Nat) => f) (fun f b => f ≤ F ∧ MsN b.1 n ∧ b.2 ≤ bs.length ∧ bs.length - b.2 < f ∧ chkF p f b.1 (bs.drop b.2) = R) (fun f b => [.a, .p (ints (nats b.1)), .k, .p (int b.2), .k, .a, .a, .a, .a, .a, .a, .a, .a, .a, .a, .a, .a, .a, .a, .a, .a, .a, .a, .a, .a, .a, .a, .a, .a, .a, .a, .a, .a, .a, .a, .a, .a, .a, .a, .a, .a, .a, .a, .a, .a, .a, .a, .a, .a, .a, .a, .a, .a, .a, .a, .a, .a, .a, .a, .a, .a, .a, .a, .a, .a, .a, .a, .a, .a, .a, .a, .a, .a, .a, .a, .a, .a, .a, .a, .a, .a, .a, .a, .a, .a, .a, .a, .a, .a, .a, .a, .a, .a, .a, .a, .a, .a, .a, .a, .a, .a, .a, .a, .a, .a, .a, .a, .a, .a, .a, .a, .a, .a, .a, .a, .a]) (fun _ _ => [some ⟨g, 1, cP p⟩]) F (ms, a) ⟨Nat.le_refl _, hm, ha, hF, hR.symm⟩ (by simp(maxSteps:=999999)(disch:=omega)only[go_sem,reduceAdd,reduceMul,reduceSub,reduceEqDiff,reduceLeDiff]) (HLe.refl _) ?_
  rintro f ⟨ns, a⟩ ⟨hf, hns, ha, haf, hC⟩
  simp only at hns ha haf hC ⊢
  obtain ⟨f, rfl⟩ : ∃ f', f = f' + 1 := ⟨f - 1, by omega⟩
  have hnl : (nats ns).length = n * n := by rw [nats_len]; exact hns.len
  have hnl2 := hns.len
  simp(maxSteps:=999999)(disch:=omega)only[go_sem,reduceAdd,reduceMul,reduceSub,reduceEqDiff,reduceLeDiff]
  refine loop_rule2 (fun (k : Nat) (b : Bool × Nat) => n * n - k) (fun k b => k ≤ n * n ∧ (b.1 = true ↔ ∃ i : Nat, i < k ∧ mAt ns i = 0) ∧ b.2 ≤ k ∧ (b.2 = k ↔ ∀ i : Nat, i < k → onlyV (mAt ns i) ≠ 0)) (fun k b => [.a, .k, .k, .k, .k, .a, .a, .a, .a, .a, .p (bool b.1), .p (int b.2), .p (int k), .a, .a, .a, .a, .a, .a, .a, .a, .a, .a, .a, .a, .a, .a, .a, .a, .a, .a, .a, .a, .a, .a, .a, .a, .a, .a, .a, .a, .a, .a, .a, .a, .a, .a, .a, .a, .a, .a, .a, .a, .a, .a, .a, .a, .a, .a, .a, .a, .a, .a, .a, .a, .a, .a, .a, .a, .a, .a, .a, .a, .a, .a, .a, .a, .a, .a, .a, .a, .a, .a, .a, .a, .a, .a, .a, .a, .a, .a, .a, .a, .a, .a, .a, .a, .a, .a, .a, .a, .a, .a, .a, .a, .a, .a, .a, .a, .a, .a, .a, .a, .a, .a, .a]) (fun _ _ => [some ⟨g, 1, cP p⟩]) 0 (false, 0) ⟨Nat.zero_le _, by simp, Nat.le_refl _, by simp⟩ (by simp(maxSteps:=999999)(disch:=omega)only[go_sem,reduceAdd,reduceMul,reduceSub,reduceEqDiff,reduceLeDiff]; first | rfl | exact ⟨rfl, rfl⟩ | exact ⟨rfl, rfl, rfl⟩) (HLe.refl _) ?_
  rintro k ⟨d, c⟩ ⟨hk, hd, hck, hc⟩
  simp only at hd hck hc ⊢
  simp(maxSteps:=999999)(disch:=omega)only[go_sem,reduceAdd,reduceMul,reduceSub,reduceEqDiff,reduceLeDiff]
  ((first|(with_reducible first|refine condK_dec ?_ ?_|refine condK_ndec ?_ ?_|refine condK_nb ?_ ?_)|refine condK_b ?_ ?_) <;> intro c1)
  · have c1 : k < n * n := by omega
    have hmk := hns.lt hn k
    have hnk := nth_nats ns k
    have hz := mvals_zero hmk
    have ho := (mvals_only hmk).1
    have hvl := mvals_len (mAt ns k) 4
    simp(maxSteps:=999999)(disch:=omega)only[go_sem,reduceAdd,reduceMul,reduceSub,reduceEqDiff,reduceLeDiff, hnk]
    first | refine OpS.mk (MaskValues_run (mAt ns k) hmk) (⟨_, Try.func78, rfl, rfl⟩ : Enters Try.prog 78) rfl rfl rfl rfl rfl ?_ | refine Loud.mk (MaskValues_run (mAt ns k) hmk) (⟨_, Try.func78, rfl, rfl⟩ : Enters Try.prog 78) rfl rfl rfl rfl rfl ?_
    simp(maxSteps:=999999)(disch:=omega)only[go_sem,reduceAdd,reduceMul,reduceSub,reduceEqDiff,reduceLeDiff]
    obtain ⟨W, hW⟩ : ∃ W, W = (mvals (mAt ns k) 4).length := ⟨_, rfl⟩
    rw [← hW] at hz ho hvl ⊢
    have hd1 : ∀ e : Bool, (e = true ↔ (d = true ∨ W = 0)) → (e = true ↔ ∃ i : Nat, i < k + 1 ∧ mAt ns i = 0) := fun e he => by
      rw [he, hd, hz]
      constructor
      · rintro (⟨i, h1, h2⟩ | h)
        · exact ⟨i, by omega, h2⟩
        · exact ⟨k, by omega, h⟩
      · rintro ⟨i, h1, h2⟩
        by_cases hik : i = k
        · rw [hik] at h2; exact .inr h2
        · exact .inl ⟨i, by omega, h2⟩
    have hc1 : W = 1 → (c + 1 = k + 1 ↔ ∀ i : Nat, i < k + 1 → onlyV (mAt ns i) ≠ 0) := fun h => by
      have hk0 := ho.1 h
      constructor
      · intro h1 i hi
        by_cases hik : i = k
        · rw [hik]; exact hk0
        · exact hc.1 (by omega) i (by omega)
      · intro h1
        have := hc.2 fun i hi => h1 i (by omega)
        omega
    have hc2 : W ≠ 1 → (c = k + 1 ↔ ∀ i : Nat, i < k + 1 → onlyV (mAt ns i) ≠ 0) := fun h => by
      constructor
      · intro h1; omega
      · intro h1
        exact absurd (ho.2 (h1 k (by omega))) h
    cases d with
    | true =>
      simp(maxSteps:=999999)(disch:=omega)only[go_sem,reduceAdd,reduceMul,reduceSub,reduceEqDiff,reduceLeDiff]
      ((first|(with_reducible first|refine condK_dec ?_ ?_|refine condK_ndec ?_ ?_|refine condK_nb ?_ ?_)|refine condK_b ?_ ?_) <;> intro c2)
      · have c2 : W = 1 := by omega
        simp(maxSteps:=999999)(disch:=omega)only[go_sem,reduceAdd,reduceMul,reduceSub,reduceEqDiff,reduceLeDiff]
        exact ⟨k + 1, (true, c + 1), ⟨⟨by omega, hd1 true (by simp), by show c + 1 ≤ k + 1; omega, hc1 c2⟩, by omega⟩, by first | exact ⟨rfl, by push_cast; rfl, by push_cast; rfl⟩ | trace_state, HLe.refl _⟩
      · have c2 : W ≠ 1 := by omega
        simp(maxSteps:=999999)(disch:=omega)only[go_sem,reduceAdd,reduceMul,reduceSub,reduceEqDiff,reduceLeDiff]
        exact ⟨k + 1, (true, c), ⟨⟨by omega, hd1 true (by simp), by show c ≤ k + 1; omega, hc2 c2⟩, by omega⟩, by first | exact ⟨rfl, rfl, by push_cast; rfl⟩ | trace_state, HLe.refl _⟩
    | false =>
      have hz0 : decide ((W : Int) = 0) = decide (W = 0) := by rw [decide_eq_decide]; omega
      simp(maxSteps:=999999)(disch:=omega)only[go_sem,reduceAdd,reduceMul,reduceSub,reduceEqDiff,reduceLeDiff, hz0]
      ((first|(with_reducible first|refine condK_dec ?_ ?_|refine condK_ndec ?_ ?_|refine condK_nb ?_ ?_)|refine condK_b ?_ ?_) <;> intro c2)
      · have c2 : W = 1 := by omega
        simp(maxSteps:=999999)(disch:=omega)only[go_sem,reduceAdd,reduceMul,reduceSub,reduceEqDiff,reduceLeDiff]
        exact ⟨k + 1, (decide (W = 0), c + 1), ⟨⟨by omega, hd1 _ (by simp), by show c + 1 ≤ k + 1; omega, hc1 c2⟩, by omega⟩, by first | exact ⟨rfl, by push_cast; rfl, by push_cast; rfl⟩ | trace_state, HLe.refl _⟩
      · have c2 : W ≠ 1 := by omega
        simp(maxSteps:=999999)(disch:=omega)only[go_sem,reduceAdd,reduceMul,reduceSub,reduceEqDiff,reduceLeDiff]
        exact ⟨k + 1, (decide (W = 0), c), ⟨⟨by omega, hd1 _ (by simp), by show c ≤ k + 1; omega, hc2 c2⟩, by omega⟩, by first | exact ⟨rfl, rfl, by push_cast; rfl⟩ | trace_state, HLe.refl _⟩
  · have c1 : k = n * n := by omega
    subst c1
    have hE := endM_is (p := p) (ms := ns)
    rw [hnl2] at hE
    cases d with
    | true =>
      rw [if_pos (hd.1 rfl)] at hE
      rw [chkF_some hE] at hC
      subst hC
      simp(maxSteps:=999999)(disch:=omega)only[go_sem,reduceAdd,reduceMul,reduceSub,reduceEqDiff,reduceLeDiff]
      show AV.tup [int 0, int a] = AV.tup [int ((0 : Nat) : Int), int ((bs.length - (bs.drop a).length : Nat) : Int)]
      rw [List.length_drop, Nat.sub_sub_self ha]
      rfl
    | false =>
      rw [if_neg (fun h => by have := hd.2 h; cases this)] at hE
      simp(maxSteps:=999999)(disch:=omega)only[go_sem,reduceAdd,reduceMul,reduceSub,reduceEqDiff,reduceLeDiff]
      ((first|(with_reducible first|refine condK_dec ?_ ?_|refine condK_ndec ?_ ?_|refine condK_nb ?_ ?_)|refine condK_b ?_ ?_) <;> intro c2)
      · have c2 : c = n * n := by omega
        rw [if_pos (hc.1 c2)] at hE
        rw [chkF_some hE] at hC
        subst hC
        have hgl : (nats (onlyL ns)).length ≤ 2 ^ 40 := by rw [nats_len, onlyL_len]; omega
        have hz := hp.size
        have hmg := sMasksGrid_run hn ns hns
        rw [← hz] at hmg
        simp(maxSteps:=999999)(disch:=omega)only[go_sem,reduceAdd,reduceMul,reduceSub,reduceEqDiff,reduceLeDiff]
        refine drawP_q foll (by kernel_rfl) ?_
        simp(maxSteps:=999999)(disch:=omega)only[go_sem,Nat.reduceBEq,Bool.true_or,reduceAdd,reduceMul,reduceSub,reduceEqDiff,reduceLeDiff]
        refine quietW.mk (hmg) (⟨_, Try.func133, rfl, rfl⟩ : Enters Try.prog 133) rfl rfl rfl rfl rfl ?_
        simp(maxSteps:=999999)(disch:=omega)only[go_sem,reduceAdd,reduceMul,reduceSub,reduceEqDiff,reduceLeDiff]
        refine quietW.rd (sPuzzleSolved_run p (nats (onlyL ns)) hp.sm hgl) (⟨_, Try.func103, rfl, rfl⟩ : Enters Try.prog 103) rfl rfl rfl rfl ?_
        simp(maxSteps:=999999)(disch:=omega)only[go_sem,reduceAdd,reduceMul,reduceSub,reduceEqDiff,reduceLeDiff]
        have e9 : chkS bs.length (some (if solvedV p (nats (onlyL ns)) = true then 1 else 0, bs.drop a)) = .tup [int (if solvedV p (nats (onlyL ns)) = true then (1 : Int) else 0), int a] := by
          show AV.tup [_, _] = _
          rw [List.length_drop, Nat.sub_sub_self ha]
          split <;> rfl
        rw [e9]
        cases solvedV p (nats (onlyL ns))
        · simp(maxSteps:=999999)(disch:=omega)only[go_sem,reduceAdd,reduceMul,reduceSub,reduceEqDiff,reduceLeDiff]
        · simp(maxSteps:=999999)(disch:=omega)only[go_sem,reduceAdd,reduceMul,reduceSub,reduceEqDiff,reduceLeDiff]
      · have c2 : c ≠ n * n := by omega
        rw [if_neg (fun h => c2 (hc.2 h))] at hE
        simp(maxSteps:=999999)(disch:=omega)only[go_sem,reduceAdd,reduceMul,reduceSub,reduceEqDiff,reduceLeDiff]
        ((first|(with_reducible first|refine condK_dec ?_ ?_|refine condK_ndec ?_ ?_|refine condK_nb ?_ ?_)|refine condK_b ?_ ?_) <;> intro c3)
        · have c3 : a = bs.length := by omega
          have e0 : bs.drop a = [] := List.drop_eq_nil_of_le (by omega)
          rw [e0, chkF_nil hE] at hC
          subst hC
          simp(maxSteps:=999999)(disch:=omega)only[go_sem,reduceAdd,reduceMul,reduceSub,reduceEqDiff,reduceLeDiff]
          rw [c3]
          rfl
        have c3 : a < bs.length := by omega
        have hbk := hb (nth bs a) (by rw [nth_eq (by omega)]; exact List.getElem_mem _)
        rw [drop_nth c3, chkF_cons hE] at hC
        obtain ⟨⟨bt, bc⟩, hbb⟩ : ∃ b, b = nth bs a := ⟨_, rfl⟩
        rw [← hbb] at hC hbk
        simp only [brnOk, decide_eq_true_eq] at hbk hC
        obtain ⟨t, rfl⟩ : ∃ t : Nat, bt = t := ⟨bt.toNat, by omega⟩
        obtain ⟨k, rfl⟩ : ∃ k : Nat, bc = k := ⟨bc.toNat, by omega⟩
        rw [Int.toNat_natCast, Int.toNat_natCast] at hC
        simp(maxSteps:=999999)(disch:=omega)only[go_sem,reduceAdd,reduceMul,reduceSub,reduceEqDiff,reduceLeDiff, ← hbb]
        intro g14
        ((first|(with_reducible first|refine condK_dec ?_ ?_|refine condK_ndec ?_ ?_|refine condK_nb ?_ ?_)|refine condK_b ?_ ?_) <;> intro c4)
        · rw [if_pos c4] at hC
          simp(maxSteps:=999999)(disch:=omega)only[go_sem,reduceAdd,reduceMul,reduceSub,reduceEqDiff,reduceLeDiff]
          first | refine OpS.mk (sNarrowBy_run hp hv ns hns t (by omega)) (⟨_, Try.func79, rfl, rfl⟩ : Enters Try.prog 79) rfl rfl rfl rfl rfl ?_ | refine Loud.mk (sNarrowBy_run hp hv ns hns t (by omega)) (⟨_, Try.func79, rfl, rfl⟩ : Enters Try.prog 79) rfl rfl rfl rfl rfl ?_
          simp(maxSteps:=999999)(disch:=omega)only[go_sem,reduceAdd,reduceMul,reduceSub,reduceEqDiff,reduceLeDiff]
          exact ⟨f, (narM p t ns, a + 1), ⟨⟨by omega, narM_ok hns, by show a + 1 ≤ _; omega, by show bs.length - (a + 1) < f; omega, hC⟩, by omega⟩, by first | exact ⟨rfl, by push_cast; rfl⟩ | (push_cast; rfl), HLe.app _ _⟩
        · rw [if_neg c4] at hC
          have hk : k < n * n := by omega
          have hnk := nth_nats ns k
          have hmk := hns.lt hn k
          have hvl := mvals_len (mAt ns k) 4
          simp(maxSteps:=999999)(disch:=omega)only[go_sem,reduceAdd,reduceMul,reduceSub,reduceEqDiff,reduceLeDiff, hnk]
          first | refine OpS.mk (MaskValues_run (mAt ns k) hmk) (⟨_, Try.func78, rfl, rfl⟩ : Enters Try.prog 78) rfl rfl rfl rfl rfl ?_ | refine Loud.mk (MaskValues_run (mAt ns k) hmk) (⟨_, Try.func78, rfl, rfl⟩ : Enters Try.prog 78) rfl rfl rfl rfl rfl ?_
          simp(maxSteps:=999999)(disch:=omega)only[go_sem,reduceAdd,reduceMul,reduceSub,reduceEqDiff,reduceLeDiff]
          obtain ⟨V, hV⟩ : ∃ V, V = mvals (mAt ns k) 4 := ⟨_, rfl⟩
          rw [← hV] at hC hvl ⊢
          refine loop_rule2 (fun (i : Nat) (b : Nat × Nat) => V.length - i) (fun i b => i ≤ V.length ∧ a + 1 ≤ b.1 ∧ b.1 ≤ bs.length ∧ b.2 + 3 * (bs.length - b.1) ≤ 3 * bs.length + i ∧ tryL (chkF p f) ns k (V.drop i) (bs.drop b.1) b.2 = R) (fun i b => [.a, .k, .k, .p (int b.1), .k, .a, .a, .a, .a, .a, .a, .a, .a, .a, .k, .p (int b.2), .k, .p (int i), .a, .a, .a, .a, .a, .a, .a, .a, .a, .a, .a, .a, .a, .a, .a, .a, .a, .a, .a, .a, .a, .a, .a, .a, .a, .a, .a, .a, .a, .a, .a, .a, .a, .a, .a, .a, .a, .a, .a, .a, .a, .a, .a, .a, .a, .a, .a, .a, .a, .a, .a, .a, .a, .a, .a, .a, .a, .a, .a, .a, .a, .a, .a, .a, .a, .a, .a, .a, .a, .a, .a, .a, .a, .a, .a, .a, .a, .a, .a, .a, .a, .a, .a, .a, .a, .a, .a, .a, .a, .a, .a, .a, .a, .a, .a, .a, .a, .a]) (fun _ _ => [some ⟨g, 1, cP p⟩, some ⟨g14, 2, [.f (.int .i64 t), .f (.int .i64 k)]⟩]) 0 (a + 1, 0) ⟨Nat.zero_le _, Nat.le_refl _, by show a + 1 ≤ _; omega, by show 0 + 3 * (bs.length - (a + 1)) ≤ _; omega, hC⟩ (by simp(maxSteps:=999999)(disch:=omega)only[go_sem,reduceAdd,reduceMul,reduceSub,reduceEqDiff,reduceLeDiff]; first | rfl | exact ⟨rfl, rfl⟩ | exact ⟨by push_cast; rfl, rfl, rfl⟩) (HLe.refl _) ?_
          rintro i ⟨e, s⟩ ⟨hi, he1, he2, hs, hT⟩
          simp only at he1 he2 hs hT ⊢
          simp(maxSteps:=999999)(disch:=omega)only[go_sem,reduceAdd,reduceMul,reduceSub,reduceEqDiff,reduceLeDiff]
          ((first|(with_reducible first|refine condK_dec ?_ ?_|refine condK_ndec ?_ ?_|refine condK_nb ?_ ?_)|refine condK_b ?_ ?_) <;> intro c5)
          · have c5 : i < V.length := by omega
            rw [tryL_step c5] at hT
            have hvm : nth V (i : Int) ∈ mvals (mAt ns k) 4 := by rw [← hV, nth_eq (by omega)]; exact List.getElem_mem _
            obtain ⟨v, hv1, hv2, hv3, _⟩ := mvals_bit hvm
            have hmt := hns.tried hvm
            rw [hv1, Int.toNat_natCast] at hT hmt
            have hcl := ih f (by omega) (ns.set k (2 ^ v)) e hmt he2 (by omega)
            have hck := chkF_ok p f (ns.set k (2 ^ v)) (bs.drop e)
            have hs2 := shl_small (v := (v : Int)) (by omega)
            rw [Int.toNat_natCast] at hs2
            have hsr := setRange_nats (b := ns) (k := k) (v := 2 ^ v) (by omega)
            simp(maxSteps:=999999)(disch:=omega)only[go_sem,reduceAdd,reduceMul,reduceSub,reduceEqDiff,reduceLeDiff]
            intro g1 g2
            refine drawP_lF [0, 1, 2, 3, 4, 5, 6, 7] [] none [8, 9] [] foll (by kernel_rfl) ?_
            simp(maxSteps:=999999)(disch:=omega)only[go_sem,Nat.reduceBEq,Bool.true_or,reduceAdd,reduceMul,reduceSub,reduceEqDiff,reduceLeDiff]
            simp(maxSteps:=999999)(disch:=omega)only[go_sem,reduceAdd,reduceMul,reduceSub,reduceEqDiff,reduceLeDiff, hv1, hs2, hnl, hsr]
            obtain ⟨HH, hHH⟩ : ∃ HH : Heap, HH = [some ⟨g, 1, cP p⟩, some ⟨g14, 2, [.f (.int .i64 t), .f (.int .i64 k)]⟩, some ⟨g2, 1, cl (eI .i64) (nats (ns.set k (2 ^ v)))⟩] := ⟨_, rfl⟩
            have hl2 : (nats (ns.set k (2 ^ v))).length = n * n := by rw [nats_len, List.length_set]; exact hnl2
            have hown : OwnI HH (.own 2 g2 0 (n * n) none) (nats (ns.set k (2 ^ v))) [2] := by
              have := OwnI.o (H := HH) 2 g2 none (nats (ns.set k (2 ^ v))) [] (by rw [List.append_nil, hHH]; exact look_of (b := ⟨g2, 1, cl (eI .i64) (nats (ns.set k (2 ^ v)))⟩) rfl)
              rwa [hl2] at this
            rw [← hHH, Nat.zero_add (n * n)]
            refine OpS.mkDT hcl (⟨_, Try.func93, rfl, rfl⟩ : Enters Try.prog 93) rfl rfl (snap_fourB snapD_aP hown.snap rfl rfl) ?_ ?_ ?_
            · cases chkF p f (ns.set k (2 ^ v)) (bs.drop e) with
              | none => exact ⟨rfl, rfl⟩
              | some q => exact ⟨rfl, rfl⟩
            · intro j
              cases chkF p f (ns.set k (2 ^ v)) (bs.drop e) with
              | none => rfl
              | some q => rfl
            cases hc : chkF p f (ns.set k (2 ^ v)) (bs.drop e) with
            | none =>
              rw [hc] at hT
              subst hT
              show vwK _ _ _ _ _ _ (.tup [int (-1), int (bs.length : Nat)]) _
              simp(maxSteps:=999999)(disch:=omega)only[go_sem,reduceAdd,reduceMul,reduceSub,reduceEqDiff,reduceLeDiff]
              ((first|(with_reducible first|refine condK_dec ?_ ?_|refine condK_ndec ?_ ?_|refine condK_nb ?_ ?_)|refine condK_b ?_ ?_) <;> intro c6)
              rotate_left
              · exfalso; omega
              simp(maxSteps:=999999)(disch:=omega)only[go_sem,reduceAdd,reduceMul,reduceSub,reduceEqDiff,reduceLeDiff]
              rfl
            | some q =>
              obtain ⟨m, l'⟩ := q
              rw [hc] at hT hck
              obtain ⟨⟨pre2, hp2⟩, hm2⟩ := hck
              simp only at hT
              obtain ⟨hd1, hd2⟩ := drop_end he2 hp2
              rw [List.length_drop] at hm2
              show vwK _ _ _ _ _ _ (.tup [int (m : Nat), int ((bs.length - l'.length : Nat) : Int)]) _
              simp(maxSteps:=999999)(disch:=omega)only[go_sem,reduceAdd,reduceMul,reduceSub,reduceEqDiff,reduceLeDiff]
              ((first|(with_reducible first|refine condK_dec ?_ ?_|refine condK_ndec ?_ ?_|refine condK_nb ?_ ?_)|refine condK_b ?_ ?_) <;> intro c6)
              · exfalso; omega
              simp(maxSteps:=999999)(disch:=omega)only[go_sem,reduceAdd,reduceMul,reduceSub,reduceEqDiff,reduceLeDiff]
              exact ⟨i + 1, (bs.length - l'.length, s + m), ⟨⟨by omega, by show a + 1 ≤ bs.length - l'.length; omega, by show bs.length - l'.length ≤ _; omega, by show s + m + 3 * (bs.length - (bs.length - l'.length)) ≤ _; omega, by show tryL _ _ _ _ (bs.drop (bs.length - l'.length)) _ = R; rw [hd1]; exact hT⟩, by omega⟩, by first | exact ⟨rfl, by push_cast; rfl, by push_cast; rfl⟩ | trace_state, by rw [hHH]; exact HLe.app _ _⟩
          · have c5 : V.length ≤ i := by omega
            rw [tryL_end c5] at hT
            subst hT
            simp(maxSteps:=999999)(disch:=omega)only[go_sem,reduceAdd,reduceMul,reduceSub,reduceEqDiff,reduceLeDiff]
            show AV.tup [int s, int e] = AV.tup [int (s : Nat), int ((bs.length - (bs.drop e).length : Nat) : Int)]
            rw [List.length_drop, Nat.sub_sub_self he2]
end Go.Lg

namespace Go.Lg
open Go.Proofs
theorem puz_factsT {p : Puz} (hv : puzzleValid p = true) : PuzN p p.size.toNat ∧ GrdN p.given p.size.toNat := by
  obtain ⟨hp, hz⟩ := PuzN.of hv
  refine ⟨hp, ?_⟩
  simp only [puzzleValid, Bool.and_eq_true, decide_eq_true_eq] at hv
  exact GrdN.of hp.hn (by rw [hz]; exact hv.1)
def checkV (p : Puz) (pf : List Brn) : Int :=
  if proofValid p pf = true then match chkF p 201 (startM p) pf with
    | some (n, []) => n
    | _ => -1
  else -1
theorem proof_facts {p : Puz} {pf : List Brn} (h : proofValid p pf = true) : puzzleValid p = true ∧ pf.length ≤ 200 ∧ ∀ b ∈ pf, brnOk p.given.length b = true := by
  simp only [proofValid, Bool.and_eq_true, decide_eq_true_eq, List.all_eq_true] at h
  exact ⟨h.1, h.2.1, h.2.2⟩
set_option maxHeartbeats 4000000 in
theorem CheckProof_run (p : Puz) (pf : List Brn) (hx : smP p) (hy : pf.length ≤ 2 ^ 40) : Reads Try.prog 49 [aP p, rsl eB pf] (int (checkV p pf)) := by
  refine RunCall.cw (c := _) Try.func49 rfl (n := 27) Try.ntmps49 (rs := [.tmp 4]) rfl ?_
  simp only[List.length_cons,List.length_nil,reduceAdd,reduceSub,List.replicate,List.cons_append,List.nil_append]
  simp(maxSteps:=999999)(disch:=omega)only[go_sem,reduceAdd,reduceMul,reduceSub,reduceEqDiff,reduceLeDiff]
  intro g
  first | refine OpS.rd (ProofValid_run p pf hx hy) (⟨_, Try.func56, rfl, rfl⟩ : Enters Try.prog 56) rfl rfl rfl rfl ?_ | refine Loud.rd (ProofValid_run p pf hx hy) (⟨_, Try.func56, rfl, rfl⟩ : Enters Try.prog 56) rfl rfl rfl rfl ?_
  simp(maxSteps:=999999)(disch:=omega)only[go_sem,reduceAdd,reduceMul,reduceSub,reduceEqDiff,reduceLeDiff]
  cases hf : proofValid p pf with
  | false =>
    have e : checkV p pf = -1 := by unfold checkV; rw [hf]; rfl
    rw [e]
    simp(maxSteps:=999999)(disch:=omega)only[go_sem,reduceAdd,reduceMul,reduceSub,reduceEqDiff,reduceLeDiff]
  | true =>
    obtain ⟨hv, h200, hb⟩ := proof_facts hf
    obtain ⟨hp, hg⟩ := puz_factsT hv
    have hcl := checkLines_run hp hv hg.len 201 (startM p) pf (startM_ok hp hg) (by omega) h200 hb
    have e : checkV p pf = match chkF p 201 (startM p) pf with | some (n, []) => (n : Int) | _ => -1 := by unfold checkV; rw [if_pos hf]
    rw [e]
    simp(maxSteps:=999999)(disch:=omega)only[go_sem,reduceAdd,reduceMul,reduceSub,reduceEqDiff,reduceLeDiff]
    refine drawP_q foll (by kernel_rfl) ?_
    simp(maxSteps:=999999)(disch:=omega)only[go_sem,Nat.reduceBEq,Bool.true_or,reduceAdd,reduceMul,reduceSub,reduceEqDiff,reduceLeDiff]
    refine quietW.mk (StartMasks_run hp hv hg) (⟨_, Try.func84, rfl, rfl⟩ : Enters Try.prog 84) rfl rfl rfl rfl rfl ?_
    simp(maxSteps:=999999)(disch:=omega)only[go_sem,reduceAdd,reduceMul,reduceSub,reduceEqDiff,reduceLeDiff]
    cases hc : chkF p 201 (startM p) pf with
    | none =>
      rw [hc] at hcl
      change Reads _ _ _ (.tup [int (-1), rsl eB []]) at hcl
      refine quietW.mk (hcl) (⟨_, Try.func95, rfl, rfl⟩ : Enters Try.prog 95) rfl rfl rfl rfl rfl ?_
      simp(maxSteps:=999999)(disch:=omega)only[go_sem,reduceAdd,reduceMul,reduceSub,reduceEqDiff,reduceLeDiff]
      ((with_reducible first|refine guardK_dec ?_ ?_|refine guardK_ndec ?_ ?_|refine guardK_nb ?_ ?_|refine guardK_split ?_ ?_|refine guardQ_dec ?_ ?_|refine guardL_dec ?_ ?_|refine guardQ_ndec ?_ ?_|refine guardL_ndec ?_ ?_|refine guardQ_nb ?_ ?_|refine guardL_nb ?_ ?_|refine guardQ_split ?_ ?_|refine guardL_split ?_ ?_) <;> intro c1 <;> simp(maxSteps:=999999)(disch:=omega)only[go_sem,reduceAdd,reduceMul,reduceSub,reduceEqDiff,reduceLeDiff, c1])
      all_goals first | (exfalso; omega) | trace_state
    | some q =>
      obtain ⟨m, l⟩ := q
      rw [hc] at hcl
      change Reads _ _ _ (.tup [int (m : Nat), rsl eB l]) at hcl
      refine quietW.mk (hcl) (⟨_, Try.func95, rfl, rfl⟩ : Enters Try.prog 95) rfl rfl rfl rfl rfl ?_
      simp(maxSteps:=999999)(disch:=omega)only[go_sem,reduceAdd,reduceMul,reduceSub,reduceEqDiff,reduceLeDiff]
      ((with_reducible first|refine guardK_dec ?_ ?_|refine guardK_ndec ?_ ?_|refine guardK_nb ?_ ?_|refine guardK_split ?_ ?_|refine guardQ_dec ?_ ?_|refine guardL_dec ?_ ?_|refine guardQ_ndec ?_ ?_|refine guardL_ndec ?_ ?_|refine guardQ_nb ?_ ?_|refine guardL_nb ?_ ?_|refine guardQ_split ?_ ?_|refine guardL_split ?_ ?_) <;> intro c1 <;> simp(maxSteps:=999999)(disch:=omega)only[go_sem,reduceAdd,reduceMul,reduceSub,reduceEqDiff,reduceLeDiff, c1])
      ((first|(with_reducible first|refine condK_dec ?_ ?_|refine condK_ndec ?_ ?_|refine condK_nb ?_ ?_)|refine condK_b ?_ ?_) <;> intro c2)
      · cases l with
        | nil => exfalso; simp at c2
        | cons b r => simp(maxSteps:=999999)(disch:=omega)only[go_sem,reduceAdd,reduceMul,reduceSub,reduceEqDiff,reduceLeDiff]
      · cases l with
        | nil => simp(maxSteps:=999999)(disch:=omega)only[go_sem,reduceAdd,reduceMul,reduceSub,reduceEqDiff,reduceLeDiff]
        | cons b r => exfalso; simp at c2
set_option maxHeartbeats 4000000 in
theorem sCheckProof_run (p : Puz) (pf : List Brn) (hx : smP p) (hy : pf.length ≤ 2 ^ 40) : Reads Try.prog 47 [aP p, rsl eB pf] (int (checkV p pf)) := by
  refine RunCall.cw (c := _) Try.func47 rfl (n := 29) Try.ntmps47 (rs := [.tmp 4]) rfl ?_
  simp only[List.length_cons,List.length_nil,reduceAdd,reduceSub,List.replicate,List.cons_append,List.nil_append]
  simp(maxSteps:=999999)(disch:=omega)only[go_sem,reduceAdd,reduceMul,reduceSub,reduceEqDiff,reduceLeDiff]
  intro g
  first | refine OpS.rd (sPuzzleValid_run p hx) (⟨_, Try.func25, rfl, rfl⟩ : Enters Try.prog 25) rfl rfl rfl rfl ?_ | refine Loud.rd (sPuzzleValid_run p hx) (⟨_, Try.func25, rfl, rfl⟩ : Enters Try.prog 25) rfl rfl rfl rfl ?_
  simp(maxSteps:=999999)(disch:=omega)only[go_sem,reduceAdd,reduceMul,reduceSub,reduceEqDiff,reduceLeDiff]
  cases hf : proofValid p pf with
  | false =>
    have e : checkV p pf = -1 := by unfold checkV; rw [hf]; rfl
    rw [e]
    cases hv : puzzleValid p with
    | false => simp(maxSteps:=999999)(disch:=omega)only[go_sem,reduceAdd,reduceMul,reduceSub,reduceEqDiff,reduceLeDiff]
    | true =>
      simp(maxSteps:=999999)(disch:=omega)only[go_sem,reduceAdd,reduceMul,reduceSub,reduceEqDiff,reduceLeDiff]
      first | refine OpS.rd (sProofValid_run p pf hx hy) (⟨_, Try.func92, rfl, rfl⟩ : Enters Try.prog 92) rfl rfl rfl rfl ?_ | refine Loud.rd (sProofValid_run p pf hx hy) (⟨_, Try.func92, rfl, rfl⟩ : Enters Try.prog 92) rfl rfl rfl rfl ?_
      simp(maxSteps:=999999)(disch:=omega)only[go_sem,reduceAdd,reduceMul,reduceSub,reduceEqDiff,reduceLeDiff]
      rw [hf]
      simp(maxSteps:=999999)(disch:=omega)only[go_sem,reduceAdd,reduceMul,reduceSub,reduceEqDiff,reduceLeDiff]
  | true =>
    obtain ⟨hv, h200, hb⟩ := proof_facts hf
    obtain ⟨hp, hg⟩ := puz_factsT hv
    have hcl := l20Check_run hp hv hg.len pf h200 hb 201 (startM p) 0 (startM_ok hp hg) (Nat.zero_le _) (by omega)
    rw [List.drop_zero] at hcl
    have hck := chkF_ok p 201 (startM p) pf
    have e : checkV p pf = match chkF p 201 (startM p) pf with | some (n, []) => (n : Int) | _ => -1 := by unfold checkV; rw [if_pos hf]
    rw [e, hv]
    simp(maxSteps:=999999)(disch:=omega)only[go_sem,reduceAdd,reduceMul,reduceSub,reduceEqDiff,reduceLeDiff]
    first | refine OpS.rd (sProofValid_run p pf hx hy) (⟨_, Try.func92, rfl, rfl⟩ : Enters Try.prog 92) rfl rfl rfl rfl ?_ | refine Loud.rd (sProofValid_run p pf hx hy) (⟨_, Try.func92, rfl, rfl⟩ : Enters Try.prog 92) rfl rfl rfl rfl ?_
    simp(maxSteps:=999999)(disch:=omega)only[go_sem,reduceAdd,reduceMul,reduceSub,reduceEqDiff,reduceLeDiff]
    rw [hf]
    simp(maxSteps:=999999)(disch:=omega)only[go_sem,reduceAdd,reduceMul,reduceSub,reduceEqDiff,reduceLeDiff]
    refine drawP_q foll (by kernel_rfl) ?_
    simp(maxSteps:=999999)(disch:=omega)only[go_sem,Nat.reduceBEq,Bool.true_or,reduceAdd,reduceMul,reduceSub,reduceEqDiff,reduceLeDiff]
    refine quietW.mk (sStartMasks_run hp hv hg) (⟨_, Try.func77, rfl, rfl⟩ : Enters Try.prog 77) rfl rfl rfl rfl rfl ?_
    simp(maxSteps:=999999)(disch:=omega)only[go_sem,reduceAdd,reduceMul,reduceSub,reduceEqDiff,reduceLeDiff]
    cases hc : chkF p 201 (startM p) pf with
    | none =>
      rw [hc] at hcl
      change Reads _ _ _ (.tup [int (-1), int (pf.length : Nat)]) at hcl
      refine quietW.mk (hcl) (⟨_, Try.func93, rfl, rfl⟩ : Enters Try.prog 93) rfl rfl rfl rfl rfl ?_
      simp(maxSteps:=999999)(disch:=omega)only[go_sem,reduceAdd,reduceMul,reduceSub,reduceEqDiff,reduceLeDiff]
    | some q =>
      obtain ⟨m, l⟩ := q
      rw [hc] at hcl hck
      obtain ⟨⟨pre, hpre⟩, _⟩ := hck
      have hll : l.length ≤ pf.length := by rw [hpre, List.length_append]; omega
      change Reads _ _ _ (.tup [int (m : Nat), int ((pf.length - l.length : Nat) : Int)]) at hcl
      refine quietW.mk (hcl) (⟨_, Try.func93, rfl, rfl⟩ : Enters Try.prog 93) rfl rfl rfl rfl rfl ?_
      simp(maxSteps:=999999)(disch:=omega)only[go_sem,reduceAdd,reduceMul,reduceSub,reduceEqDiff,reduceLeDiff]
      ((first|(with_reducible first|refine condK_dec ?_ ?_|refine condK_ndec ?_ ?_|refine condK_nb ?_ ?_)|refine condK_b ?_ ?_) <;> intro c2)
      · cases l with
        | nil => simp(maxSteps:=999999)(disch:=omega)only[go_sem,reduceAdd,reduceMul,reduceSub,reduceEqDiff,reduceLeDiff]
        | cons b r => exfalso; simp only [List.length_cons] at c2 hll; omega
      · cases l with
        | nil => exfalso; simp at c2
        | cons b r => simp(maxSteps:=999999)(disch:=omega)only[go_sem,reduceAdd,reduceMul,reduceSub,reduceEqDiff,reduceLeDiff]
end Go.Lg
