/- GpDB, GpOE, GpCD, cut to what is needed. -/
import Derived.Test.YtcopagjhklcokaaRfb4
import Derived.Test.YtcopagjhklcokaaRfb5
import Derived.Test.YtcopagjhklcokaaRfb3
open Nat(reduceAdd reduceMul reduceSub reduceEqDiff reduceLeDiff)
set_option linter.unusedSimpArgs false
set_option linter.unusedVariables false
set_option maxRecDepth 100000
namespace Go.Lg
open Go.Proofs
theorem prodV_app (vs : List Int) (v : Int) : prodV (vs ++ [v]) = prodV vs * v := by simp [prodV]
theorem prodV_bound : ∀ (n : Nat) (vs : List Int), vs.length ≤ n → (∀ v ∈ vs, 0 ≤ v ∧ v ≤ 4) → 0 ≤ prodV vs ∧ prodV vs ≤ 4 ^ n := by
  intro n
  induction n with
  | zero => intro vs h _; have : vs = [] := List.eq_nil_of_length_eq_zero (by omega); subst this; simp [prodV]
  | succ n ih =>
    intro vs h hv
    rcases List.eq_nil_or_concat vs with rfl | ⟨ws, w, rfl⟩
    · exact ⟨by simp [prodV], by simp only [prodV, List.foldl_nil]; have : (0 : Int) < 4 ^ (n + 1) := Int.pow_pos (by omega); omega⟩
    · obtain ⟨h1, h2⟩ := ih ws (by simp at h; omega) fun v hm => hv v (by simp [hm])
      have hw := hv w (by simp)
      rw [List.concat_eq_append, prodV_app]
      refine ⟨Int.mul_nonneg h1 hw.1, ?_⟩
      have := Int.mul_le_mul h2 hw.2 hw.1 (by omega)
      rw [Int.pow_succ]
      exact this
theorem prodV_take {vs : List Int} (h : vs.length ≤ 4) (hv : ∀ v ∈ vs, 0 ≤ v ∧ v ≤ 4) (k : Nat) : 0 ≤ prodV (vs.take k) ∧ prodV (vs.take k) ≤ 256 := by
  have := prodV_bound 4 (vs.take k) (by simp; omega) fun v hm => hv v (List.mem_of_mem_take hm)
  omega
theorem sum_take {vs : List Int} (h : vs.length ≤ 4) (hv : ∀ v ∈ vs, 0 ≤ v ∧ v ≤ 4) (k : Nat) : 0 ≤ (vs.take k).sum ∧ (vs.take k).sum ≤ 16 := by
  have gen : ∀ (ws : List Int), (∀ v ∈ ws, 0 ≤ v ∧ v ≤ 4) → 0 ≤ ws.sum ∧ ws.sum ≤ 4 * ws.length := by
    intro ws hw
    induction ws with
    | nil => simp
    | cons w ws ih =>
      have h1 := ih fun v hm => hw v (by simp [hm])
      have h2 := hw w (by simp)
      simp only [List.sum_cons, List.length_cons]
      push_cast
      omega
  have := gen (vs.take k) fun v hm => hv v (List.mem_of_mem_take hm)
  have : (vs.take k).length ≤ 4 := by simp; omega
  omega
theorem nodup_take {vs : List Int} {k : Nat} (h : k < vs.length) : (vs.take (k + 1)).Nodup ↔ (vs.take k).Nodup ∧ ∀ i : Nat, i < k → nth vs i ≠ nth vs k := by
  rw [take_succ_nth h, List.nodup_append]
  constructor
  · rintro ⟨h1, _, h3⟩
    refine ⟨h1, fun i hi => h3 _ ?_ _ (by simp)⟩
    rw [nth_eq (by omega)]
    simp only [Int.toNat_natCast]
    exact List.mem_take_iff_getElem.2 ⟨i, by omega, rfl⟩
  · rintro ⟨h1, h2⟩
    refine ⟨h1, by simp, fun a ha b hb => ?_⟩
    obtain ⟨i, hi, rfl⟩ := List.mem_take_iff_getElem.1 ha
    have := h2 i (by omega)
    rw [nth_eq (by omega)] at this
    simp only [Int.toNat_natCast] at this
    simp only [List.mem_singleton] at hb
    rw [hb]
    exact this
theorem l4Holds_run (r : Rul) (vs : List Int) (hl : vs.length ≤ 4) (hv : ∀ v ∈ vs, 0 ≤ v ∧ v ≤ 4) (hk : r.kind = 1 ∨ r.kind = 2 ∨ r.kind = 3 ∨ 2 ≤ vs.length) : Reads Try.prog 165 [aR r, ints vs] (bool (holdsV r vs)) := by
  have hnv : ∀ k : Nat, k < vs.length → 0 ≤ nth vs k ∧ nth vs k ≤ 4 := fun k hk => hv _ (by rw [nth_eq (by omega)]; exact List.getElem_mem _)
  have hpt := prodV_take hl hv
  have hst := sum_take hl hv
  refine RunCall.cw (c := _) Try.func165 rfl (n := 86) Try.ntmps165 (rs := [.tmp 4]) rfl ?_
  simp only [List.length_cons, List.length_nil, Nat.reduceAdd, Nat.reduceSub, List.replicate, List.cons_append, List.nil_append]
  simp(maxSteps:=999999)(disch:=omega)only[go_sem,reduceAdd,reduceMul,reduceSub,reduceEqDiff,reduceLeDiff]
  intro g
  refine loop_rule (fun k : Nat => vs.length - k) (fun k => k ≤ vs.length) (fun k => [.a, .k, .k, .a, .a, .p (int (vs.take k).sum), .p (int (prodV (vs.take k))), .p (bool (decide (vs.take k).Nodup)), .p (int k), .a, .a, .a, .a, .a, .a, .a, .a, .a, .a, .a, .a, .a, .a, .a, .a, .a, .a, .a, .a, .a, .a, .a, .a, .a, .a, .a, .a, .a, .a, .a, .a, .a, .a, .a, .a, .a, .a, .a, .a, .a, .a, .a, .a, .a, .a, .a, .a, .a, .a, .a, .a, .a, .a, .a, .a, .a, .a, .a, .a, .a, .a, .a, .a, .a, .a, .a, .a, .a, .a, .a, .a, .a, .a, .a, .a, .a]) (fun _ => [some ⟨g, 1, cR r⟩]) 0 (Nat.zero_le _) (by simp(maxSteps:=999999)(disch:=omega)only[go_sem,reduceAdd,reduceMul,reduceSub,reduceEqDiff,reduceLeDiff]; simp [prodV]) (HLe.refl _) ?_
  intro k hk'
  simp(maxSteps:=999999)(disch:=omega)only[go_sem,reduceAdd,reduceMul,reduceSub,reduceEqDiff,reduceLeDiff]
  ((first | with_reducible refine condK_dec ?_ ?_ | with_reducible refine condK_ndec ?_ ?_ | with_reducible refine condK_nb ?_ ?_ | refine condK_b ?_ ?_) <;> intro h1)
  · have h1 : k < vs.length := by omega
    have e1 : (vs.take (k + 1)).sum = (vs.take k).sum + nth vs k := by rw [take_succ_nth h1]; simp
    have e2 : prodV (vs.take (k + 1)) = prodV (vs.take k) * nth vs k := by rw [take_succ_nth h1, prodV_app]
    have b1 := hst (k + 1)
    have b2 := hpt (k + 1)
    rw [e1] at b1
    rw [e2] at b2
    simp(maxSteps:=999999)(disch:=omega)only[go_sem,reduceAdd,reduceMul,reduceSub,reduceEqDiff,reduceLeDiff]
    refine loop_rule (fun j : Nat => k - j) (fun j => j ≤ k) (fun j => [.a, .k, .k, .a, .a, .k, .k, .p (bool (decide ((vs.take k).Nodup ∧ ∀ i : Nat, i < j → nth vs i ≠ nth vs k))), .k, .p (int j), .a, .a, .a, .a, .a, .a, .a, .a, .a, .a, .a, .a, .a, .a, .a, .a, .a, .a, .a, .a, .a, .a, .a, .a, .a, .a, .a, .a, .a, .a, .a, .a, .a, .a, .a, .a, .a, .a, .a, .a, .a, .a, .a, .a, .a, .a, .a, .a, .a, .a, .a, .a, .a, .a, .a, .a, .a, .a, .a, .a, .a, .a, .a, .a, .a, .a, .a, .a, .a, .a, .a, .a, .a, .a, .a, .a]) (fun _ => [some ⟨g, 1, cR r⟩]) 0 (Nat.zero_le _) (by simp(maxSteps:=999999)(disch:=omega)only[go_sem,reduceAdd,reduceMul,reduceSub,reduceEqDiff,reduceLeDiff]; exact ⟨by simp, rfl⟩) (HLe.refl _) ?_
    intro j hj
    have hd : ((vs.take k).Nodup ∧ ∀ i : Nat, i < j + 1 → nth vs i ≠ nth vs k) ↔ ((vs.take k).Nodup ∧ ∀ i : Nat, i < j → nth vs i ≠ nth vs k) ∧ nth vs j ≠ nth vs k := by
      constructor
      · rintro ⟨a, b⟩
        exact ⟨⟨a, fun i hi => b i (by omega)⟩, b j (by omega)⟩
      · rintro ⟨⟨a, b⟩, c⟩
        refine ⟨a, fun i hi => ?_⟩
        by_cases hij : i = j
        · rw [hij]; exact c
        · exact b i (by omega)
    generalize hb : decide ((vs.take k).Nodup ∧ ∀ i : Nat, i < j → nth vs i ≠ nth vs k) = b
    cases b with
    | false =>
      simp(maxSteps:=999999)(disch:=omega)only[go_sem,reduceAdd,reduceMul,reduceSub,reduceEqDiff,reduceLeDiff]
      ((first | with_reducible refine condK_dec ?_ ?_ | with_reducible refine condK_ndec ?_ ?_ | with_reducible refine condK_nb ?_ ?_ | refine condK_b ?_ ?_) <;> intro h2)
      · have h2 : j < k := by omega
        simp(maxSteps:=999999)(disch:=omega)only[go_sem,reduceAdd,reduceMul,reduceSub,reduceEqDiff,reduceLeDiff]
        refine drawP_q foll (by kernel_rfl) ?_
        simp (maxSteps := 1000000) (disch := omega) only [go_sem, Nat.reduceBEq, Bool.true_or, Nat.reduceAdd, Nat.reduceMul, Nat.reduceSub, Nat.reduceEqDiff, Nat.reduceLeDiff]
        refine ⟨j + 1, ⟨by omega, by omega⟩, ⟨?_, by push_cast; omega⟩, HLe.refl _⟩
        rw [eq_comm, decide_eq_false_iff_not, hd]
        exact fun h => (decide_eq_false_iff_not.1 hb) h.1
      · have hjk : j = k := by omega
        simp(maxSteps:=999999)(disch:=omega)only[go_sem,reduceAdd,reduceMul,reduceSub,reduceEqDiff,reduceLeDiff]
        refine ⟨k + 1, ⟨by omega, by omega⟩, ⟨e1.symm, e2.symm, ?_, by push_cast; omega⟩, HLe.refl _⟩
        rw [eq_comm, decide_eq_false_iff_not, nodup_take h1, ← hjk]
        rw [hjk] at hb ⊢
        exact decide_eq_false_iff_not.1 hb
    | true =>
      simp(maxSteps:=999999)(disch:=omega)only[go_sem,reduceAdd,reduceMul,reduceSub,reduceEqDiff,reduceLeDiff]
      ((first | with_reducible refine condK_dec ?_ ?_ | with_reducible refine condK_ndec ?_ ?_ | with_reducible refine condK_nb ?_ ?_ | refine condK_b ?_ ?_) <;> intro h2)
      · have h2 : j < k := by omega
        have hjl : j < vs.length := by omega
        simp(maxSteps:=999999)(disch:=omega)only[go_sem,reduceAdd,reduceMul,reduceSub,reduceEqDiff,reduceLeDiff]
        refine drawP_q foll (by kernel_rfl) ?_
        simp (maxSteps := 1000000) (disch := omega) only [go_sem, Nat.reduceBEq, Bool.true_or, Nat.reduceAdd, Nat.reduceMul, Nat.reduceSub, Nat.reduceEqDiff, Nat.reduceLeDiff]
        refine ⟨j + 1, ⟨by omega, by omega⟩, ⟨?_, by push_cast; omega⟩, HLe.refl _⟩
        have hb' := of_decide_eq_true hb
        by_cases he : nth vs (j : Int) = nth vs (k : Int)
        · rw [decide_eq_true he, eq_comm, Bool.not_true, decide_eq_false_iff_not, hd]
          exact fun h => h.2 he
        · rw [decide_eq_false he, eq_comm, Bool.not_false, decide_eq_true_eq, hd]
          exact ⟨hb', he⟩
      · have hjk : j = k := by omega
        simp(maxSteps:=999999)(disch:=omega)only[go_sem,reduceAdd,reduceMul,reduceSub,reduceEqDiff,reduceLeDiff]
        refine ⟨k + 1, ⟨by omega, by omega⟩, ⟨e1.symm, e2.symm, ?_, by push_cast; omega⟩, HLe.refl _⟩
        rw [eq_comm, decide_eq_true_eq, nodup_take h1]
        rw [hjk] at hb
        exact of_decide_eq_true hb
  · simp(maxSteps:=999999)(disch:=omega)only[go_sem,reduceAdd,reduceMul,reduceSub,reduceEqDiff,reduceLeDiff]
    rw [List.take_of_length_le (by omega)]
    have hkl : vs.take k = vs := List.take_of_length_le (by omega)
    ((first | with_reducible refine condK_dec ?_ ?_ | with_reducible refine condK_ndec ?_ ?_ | with_reducible refine condK_nb ?_ ?_ | refine condK_b ?_ ?_) <;> intro d1)
    · simp(maxSteps:=999999)(disch:=omega)only[go_sem,reduceAdd,reduceMul,reduceSub,reduceEqDiff,reduceLeDiff]
      unfold holdsV
      rw [if_pos d1]
    simp(maxSteps:=999999)(disch:=omega)only[go_sem,reduceAdd,reduceMul,reduceSub,reduceEqDiff,reduceLeDiff]
    ((first | with_reducible refine condK_dec ?_ ?_ | with_reducible refine condK_ndec ?_ ?_ | with_reducible refine condK_nb ?_ ?_ | refine condK_b ?_ ?_) <;> intro d2)
    · simp(maxSteps:=999999)(disch:=omega)only[go_sem,reduceAdd,reduceMul,reduceSub,reduceEqDiff,reduceLeDiff]
      unfold holdsV
      rw [if_neg d1, if_pos d2]
    simp(maxSteps:=999999)(disch:=omega)only[go_sem,reduceAdd,reduceMul,reduceSub,reduceEqDiff,reduceLeDiff]
    ((first | with_reducible refine condK_dec ?_ ?_ | with_reducible refine condK_ndec ?_ ?_ | with_reducible refine condK_nb ?_ ?_ | refine condK_b ?_ ?_) <;> intro d3)
    · simp(maxSteps:=999999)(disch:=omega)only[go_sem,reduceAdd,reduceMul,reduceSub,reduceEqDiff,reduceLeDiff]
      unfold holdsV
      rw [if_neg d1, if_neg d2, if_pos d3]
    have hl2 : 2 ≤ vs.length := by omega
    simp(maxSteps:=999999)(disch:=omega)only[go_sem,reduceAdd,reduceMul,reduceSub,reduceEqDiff,reduceLeDiff]
    have v0 : 0 ≤ nth vs (0 : Int) ∧ nth vs (0 : Int) ≤ 4 := hnv 0 (by omega)
    have v1 : 0 ≤ nth vs (1 : Int) ∧ nth vs (1 : Int) ≤ 4 := hnv 1 (by omega)
    ((first | with_reducible refine condK_dec ?_ ?_ | with_reducible refine condK_ndec ?_ ?_ | with_reducible refine condK_nb ?_ ?_ | refine condK_b ?_ ?_) <;> intro d4)
    · simp(maxSteps:=999999)(disch:=omega)only[go_sem,reduceAdd,reduceMul,reduceSub,reduceEqDiff,reduceLeDiff]
      refine drawP_q foll (by kernel_rfl) ?_
      simp (maxSteps := 1000000) (disch := omega) only [go_sem, Nat.reduceBEq, Bool.true_or, Nat.reduceAdd, Nat.reduceMul, Nat.reduceSub, Nat.reduceEqDiff, Nat.reduceLeDiff]
      unfold holdsV
      rw [if_neg d1, if_neg d2, if_neg d3, if_pos d4]
    · simp(maxSteps:=999999)(disch:=omega)only[go_sem,reduceAdd,reduceMul,reduceSub,reduceEqDiff,reduceLeDiff]
      refine drawP_q foll (by kernel_rfl) ?_
      simp (maxSteps := 1000000) (disch := omega) only [go_sem, Nat.reduceBEq, Bool.true_or, Nat.reduceAdd, Nat.reduceMul, Nat.reduceSub, Nat.reduceEqDiff, Nat.reduceLeDiff]
      unfold holdsV
      rw [if_neg d1, if_neg d2, if_neg d3, if_neg d4, show (0 : Int) - (nth vs 0 - nth vs 1) = nth vs 1 - nth vs 0 by omega]
end Go.Lg

set_option linter.unusedSimpArgs false
set_option linter.unusedVariables false
set_option maxRecDepth 100000
namespace Go.Lg
attribute [-go_sem] appendM
theorem softW_call {P : Program} {ops : Array Oper} {o : Oper} {s : List AV} {K : AV → Prop} {fo : Operand} {xs : Array Operand} {ts : Array TypeId} {f : FuncId} {args : List AV} {v : AV}
    (hc : Reads P f args v) (he : Enters P f) (ho : o.op = .call ⟨.value fo, xs, ts⟩) (ha : callArgs ⟨s, []⟩ fo xs = some (f, args)) (hz : ∀ x ∈ Call.operands ⟨.value fo, xs, ts⟩, frozenA (evO s x) = true) (hf : args.all frozenA = true)
    (hv : frozen1 v = true ∧ tupOk v = true ∧ shiftA 0 v = v ∧ frzA [] v = some v) (hk : K v) : softW P ops o s K := by
  unfold softW
  rw [ho]
  refine ⟨v, fun H => Soft.ops (by rw [ho]; exact hz) hv.1 fun s' hs' => ?_, hk⟩
  refine OpS.mk hc he ho ?_ hf hv.2.1 hv.2.2.1 hv.2.2.2
  rw [callArgs_congr (s := s) (H := []) ts fun x hx => hs' x (by rw [ho]; exact hx)]
  exact ha
inductive OwnE (H : Heap) : CV → List Int → List Nat → Prop where
  | m : OwnE H .emp [] []
  | o (id g : Nat) (xs : List Int) (h : look H id g = some ⟨g, 1, cl (eI .i64) xs⟩) : OwnE H (.own id g 0 xs.length none) xs [id]
theorem OwnE.frzC {H : Heap} {c : CV} {xs : List Int} {S : List Nat} (h : OwnE H c xs S) : Lg.frzC H c = some (.f (fints xs)) := by
  cases h with
  | m => rfl
  | o id g xs h => exact (OwnI.o id g none xs [] (by rw [List.append_nil]; exact h)).frzC
theorem OwnE.same {H H' : Heap} {c : CV} {xs : List Int} {S : List Nat} (h : OwnE H c xs S) (hs : ∀ i ∈ S, H'[i]? = H[i]?) : OwnE H' c xs S := by
  cases h with
  | m => exact .m
  | o id g xs h => exact .o id g xs (by unfold look at *; rw [hs id (by simp)]; exact h)
theorem OwnE.shift {H0 H : Heap} {c : CV} {xs : List Int} {S : List Nat} (h : OwnE H c xs S) : OwnE (H0 ++ shiftH H0.length H) (shiftC H0.length c) xs (S.map (· + H0.length)) := by
  cases h with
  | m => exact .m
  | o id g xs h =>
    refine .o (id + H0.length) g xs ?_
    rw [look_shiftH h]
    simp only [shiftB, shift_cl]
theorem OwnE.lt {H : Heap} {c : CV} {xs : List Int} {S : List Nat} (h : OwnE H c xs S) : ∀ i ∈ S, i < H.length := by
  cases h with
  | m => simp
  | o id g xs h => intro i hi; have : i = id := by simpa using hi
                   subst this; exact (List.getElem?_eq_some_iff.1 (look_some h).1).1
theorem OwnE.nd {H : Heap} {c : CV} {xs : List Int} {S : List Nat} (h : OwnE H c xs S) : S.Nodup := by cases h <;> simp
theorem OwnE.inv {H : Heap} {c : CV} {xs : List Int} {S : List Nat} (h : OwnE H c xs S) (hn : xs ≠ []) : ∃ id g, c = .own id g 0 xs.length none ∧ S = [id] ∧ look H id g = some ⟨g, 1, cl (eI .i64) xs⟩ := by
  cases h with
  | m => exact absurd rfl hn
  | o id g xs h => exact ⟨id, g, rfl, rfl, h⟩
end Go.Lg

set_option linter.unusedSimpArgs false
set_option linter.unusedVariables false
set_option maxRecDepth 100000
namespace Go.Lg
open Go.Proofs
attribute [-go_sem] appendM lenO
theorem sliceOf_of' {P : Program} {t e : TypeId} {ti ei : TI} (ht : tinf P t = some ti) (hk : ti.k = .slice e) (he : tinf P e = some ei) : sliceOf P t = some ei := by
  unfold sliceOf; simp only [ht, hk, he]
theorem OwnI.inv' {H : Heap} {c : CV} {xs : List Int} {S : List Nat} (h : OwnI H c xs S) (hn : 0 < xs.length) : ∃ id g lim ys, c = .own id g 0 xs.length lim ∧ S = [id] ∧ look H id g = some ⟨g, 1, cl (eI .i64) (xs ++ ys)⟩ := by
  cases h with
  | e => simp at hn
  | o id g lim xs ys h => exact ⟨id, g, lim, ys, rfl, rfl, h⟩
end Go.Lg
