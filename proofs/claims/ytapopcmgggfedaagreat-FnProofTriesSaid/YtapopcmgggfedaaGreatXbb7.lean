/- GpDB, GpOE, GpCD, cut to what is needed. -/
import Derived.Test.YtapopcmgggfedaaGreatXbb6
import Derived.Test.YtapopcmgggfedaaGreatXbb2
import Derived.Test.YtapopcmgggfedaaGreatXbb4
import Derived.Test.YtapopcmgggfedaaGreatXbb3
open Nat renaming reduceAdd → zA, reduceMul → zM, reduceSub → zS, reduceEqDiff → zE, reduceLeDiff → zL
set_option linter.unusedSimpArgs false
set_option linter.unusedVariables false
set_option maxRecDepth 100000
namespace Go.Lg
open Go.Proofs
theorem prodV_app (vs : List Int) (v : Int) : prodV (vs ++ [v]) = prodV vs * v := by simp [prodV]
theorem prodV_bound : ∀ (n : Nat) (vs : List Int), vs.length ≤ n → (∀ v ∈ vs, 0 ≤ v ∧ v ≤ 4) → 0 ≤ prodV vs ∧ prodV vs ≤ 4 ^ n := by
  intro n
  induction n with
  | zero => intro vs h _; have : vs = [] := List.eq_nil_of_length_eq_zero (by omega); subst this; simp [prodV]
  | succ n ih =>
    intro vs h hv
    rcases List.eq_nil_or_concat vs with rfl | ⟨ws, w, rfl⟩
    · exact ⟨by simp [prodV], by simp only [prodV, List.foldl_nil]; have : (0 : Int) < 4 ^ (n + 1) := Int.pow_pos (by omega); omega⟩
    · obtain ⟨h1, h2⟩ := ih ws (by simp at h; omega) fun v hm => hv v (by simp [hm])
      have hw := hv w (by simp)
      rw [List.concat_eq_append, prodV_app]
      refine ⟨Int.mul_nonneg h1 hw.1, ?_⟩
      have := Int.mul_le_mul h2 hw.2 hw.1 (by omega)
      rw [Int.pow_succ]
      exact this
theorem prodV_take {vs : List Int} (h : vs.length ≤ 4) (hv : ∀ v ∈ vs, 0 ≤ v ∧ v ≤ 4) (k : Nat) : 0 ≤ prodV (vs.take k) ∧ prodV (vs.take k) ≤ 256 := by
  have := prodV_bound 4 (vs.take k) (by simp; omega) fun v hm => hv v (List.mem_of_mem_take hm)
  omega
theorem sum_take {vs : List Int} (h : vs.length ≤ 4) (hv : ∀ v ∈ vs, 0 ≤ v ∧ v ≤ 4) (k : Nat) : 0 ≤ (vs.take k).sum ∧ (vs.take k).sum ≤ 16 := by
  have gen : ∀ (ws : List Int), (∀ v ∈ ws, 0 ≤ v ∧ v ≤ 4) → 0 ≤ ws.sum ∧ ws.sum ≤ 4 * ws.length := by
    intro ws hw
    induction ws with
    | nil => simp
    | cons w ws ih =>
      have h1 := ih fun v hm => hw v (by simp [hm])
      have h2 := hw w (by simp)
      simp only [List.sum_cons, List.length_cons]
      push_cast
      omega
  have := gen (vs.take k) fun v hm => hv v (List.mem_of_mem_take hm)
  have : (vs.take k).length ≤ 4 := by simp; omega
  omega
theorem nodup_take {vs : List Int} {k : Nat} (h : k < vs.length) : (vs.take (k + 1)).Nodup ↔ (vs.take k).Nodup ∧ ∀ i : Nat, i < k → nth vs i ≠ nth vs k := by
  rw [take_succ_nth h, List.nodup_append]
  constructor
  · rintro ⟨h1, _, h3⟩
    refine ⟨h1, fun i hi => h3 _ ?_ _ (by simp)⟩
    rw [nth_eq (by omega)]
    simp only [Int.toNat_natCast]
    exact List.mem_take_iff_getElem.2 ⟨i, by omega, rfl⟩
  · rintro ⟨h1, h2⟩
    refine ⟨h1, by simp, fun a ha b hb => ?_⟩
    obtain ⟨i, hi, rfl⟩ := List.mem_take_iff_getElem.1 ha
    have := h2 i (by omega)
    rw [nth_eq (by omega)] at this
    simp only [Int.toNat_natCast] at this
    simp only [List.mem_singleton] at hb
    rw [hb]
    exact this
theorem l4Holds_run (r : Rul) (vs : List Int) (hl : vs.length ≤ 4) (hv : ∀ v ∈ vs, 0 ≤ v ∧ v ≤ 4) (hk : r.kind = 1 ∨ r.kind = 2 ∨ r.kind = 3 ∨ 2 ≤ vs.length) : Reads Tryz.prog 106 [aR r, ints vs] (bool (holdsV r vs)) := by
  have hnv : ∀ k : Nat, k < vs.length → 0 ≤ nth vs k ∧ nth vs k ≤ 4 := fun k hk => hv _ (by rw [nth_eq (by omega)]; exact List.getElem_mem _)
  have hpt := prodV_take hl hv
  have hst := sum_take hl hv
  refine RunCall.cw (c := _) Tryz.func106 rfl (n := 86) Tryz.ntmps106 (rs := [.tmp 4]) rfl ?_
  simp only[List.length_cons,List.length_nil,zA,zS,List.replicate,List.cons_append,List.nil_append]
  simp(maxSteps:=999999)(disch:=omega)only[go_sem,zA,zM,zS,zE,zL]
  intro g
  refine loop_rule (fun k : Nat => vs.length - k) (fun k => k ≤ vs.length) (fun k => [.a, .k, .k, .a, .a, .p (int (vs.take k).sum), .p (int (prodV (vs.take k))), .p (bool (decide (vs.take k).Nodup)), .p (int k), .a, .a, .a, .a, .a, .a, .a, .a, .a, .a, .a, .a, .a, .a, .a, .a, .a, .a, .a, .a, .a, .a, .a, .a, .a, .a, .a, .a, .a, .a, .a, .a, .a, .a, .a, .a, .a, .a, .a, .a, .a, .a, .a, .a, .a, .a, .a, .a, .a, .a, .a, .a, .a, .a, .a, .a, .a, .a, .a, .a, .a, .a, .a, .a, .a, .a, .a, .a, .a, .a, .a, .a, .a, .a, .a, .a, .a]) (fun _ => [some ⟨g, 1, cR r⟩]) 0 (Nat.zero_le _) (by simp(maxSteps:=999999)(disch:=omega)only[go_sem,zA,zM,zS,zE,zL]; simp [prodV]) (HLe.refl _) ?_
  intro k hk'
  simp(maxSteps:=999999)(disch:=omega)only[go_sem,zA,zM,zS,zE,zL]
  ((first|(with_reducible first|refine condK_dec ?_ ?_|refine condK_ndec ?_ ?_|refine condK_nb ?_ ?_)|refine condK_b ?_ ?_) <;> intro h1)
  · have h1 : k < vs.length := by omega
    have e1 : (vs.take (k + 1)).sum = (vs.take k).sum + nth vs k := by rw [take_succ_nth h1]; simp
    have e2 : prodV (vs.take (k + 1)) = prodV (vs.take k) * nth vs k := by rw [take_succ_nth h1, prodV_app]
    have b1 := hst (k + 1)
    have b2 := hpt (k + 1)
    rw [e1] at b1
    rw [e2] at b2
    simp(maxSteps:=999999)(disch:=omega)only[go_sem,zA,zM,zS,zE,zL]
    refine loop_rule (fun j : Nat => k - j) (fun j => j ≤ k) (fun j => [.a, .k, .k, .a, .a, .k, .k, .p (bool (decide ((vs.take k).Nodup ∧ ∀ i : Nat, i < j → nth vs i ≠ nth vs k))), .k, .p (int j), .a, .a, .a, .a, .a, .a, .a, .a, .a, .a, .a, .a, .a, .a, .a, .a, .a, .a, .a, .a, .a, .a, .a, .a, .a, .a, .a, .a, .a, .a, .a, .a, .a, .a, .a, .a, .a, .a, .a, .a, .a, .a, .a, .a, .a, .a, .a, .a, .a, .a, .a, .a, .a, .a, .a, .a, .a, .a, .a, .a, .a, .a, .a, .a, .a, .a, .a, .a, .a, .a, .a, .a, .a, .a, .a, .a]) (fun _ => [some ⟨g, 1, cR r⟩]) 0 (Nat.zero_le _) (by simp(maxSteps:=999999)(disch:=omega)only[go_sem,zA,zM,zS,zE,zL]; exact ⟨by simp, rfl⟩) (HLe.refl _) ?_
    intro j hj
    have hd : ((vs.take k).Nodup ∧ ∀ i : Nat, i < j + 1 → nth vs i ≠ nth vs k) ↔ ((vs.take k).Nodup ∧ ∀ i : Nat, i < j → nth vs i ≠ nth vs k) ∧ nth vs j ≠ nth vs k := by
      constructor
      · rintro ⟨a, b⟩
        exact ⟨⟨a, fun i hi => b i (by omega)⟩, b j (by omega)⟩
      · rintro ⟨⟨a, b⟩, c⟩
        refine ⟨a, fun i hi => ?_⟩
        by_cases hij : i = j
        · rw [hij]; exact c
        · exact b i (by omega)
    generalize hb : decide ((vs.take k).Nodup ∧ ∀ i : Nat, i < j → nth vs i ≠ nth vs k) = b
    cases b with
    | false =>
      simp(maxSteps:=999999)(disch:=omega)only[go_sem,zA,zM,zS,zE,zL]
      ((first|(with_reducible first|refine condK_dec ?_ ?_|refine condK_ndec ?_ ?_|refine condK_nb ?_ ?_)|refine condK_b ?_ ?_) <;> intro h2)
      · have h2 : j < k := by omega
        simp(maxSteps:=999999)(disch:=omega)only[go_sem,zA,zM,zS,zE,zL]
        refine drawP_q foll (by kernel_rfl) ?_
        simp(maxSteps:=999999)(disch:=omega)only[go_sem,Nat.reduceBEq,Bool.true_or,zA,zM,zS,zE,zL]
        refine ⟨j + 1, ⟨by omega, by omega⟩, ⟨?_, by push_cast; omega⟩, HLe.refl _⟩
        rw [eq_comm, decide_eq_false_iff_not, hd]
        exact fun h => (decide_eq_false_iff_not.1 hb) h.1
      · have hjk : j = k := by omega
        simp(maxSteps:=999999)(disch:=omega)only[go_sem,zA,zM,zS,zE,zL]
        refine ⟨k + 1, ⟨by omega, by omega⟩, ⟨e1.symm, e2.symm, ?_, by push_cast; omega⟩, HLe.refl _⟩
        rw [eq_comm, decide_eq_false_iff_not, nodup_take h1, ← hjk]
        rw [hjk] at hb ⊢
        exact decide_eq_false_iff_not.1 hb
    | true =>
      simp(maxSteps:=999999)(disch:=omega)only[go_sem,zA,zM,zS,zE,zL]
      ((first|(with_reducible first|refine condK_dec ?_ ?_|refine condK_ndec ?_ ?_|refine condK_nb ?_ ?_)|refine condK_b ?_ ?_) <;> intro h2)
      · have h2 : j < k := by omega
        have hjl : j < vs.length := by omega
        simp(maxSteps:=999999)(disch:=omega)only[go_sem,zA,zM,zS,zE,zL]
        refine drawP_q foll (by kernel_rfl) ?_
        simp(maxSteps:=999999)(disch:=omega)only[go_sem,Nat.reduceBEq,Bool.true_or,zA,zM,zS,zE,zL]
        refine ⟨j + 1, ⟨by omega, by omega⟩, ⟨?_, by push_cast; omega⟩, HLe.refl _⟩
        have hb' := of_decide_eq_true hb
        by_cases he : nth vs (j : Int) = nth vs (k : Int)
        · rw [decide_eq_true he, eq_comm, Bool.not_true, decide_eq_false_iff_not, hd]
          exact fun h => h.2 he
        · rw [decide_eq_false he, eq_comm, Bool.not_false, decide_eq_true_eq, hd]
          exact ⟨hb', he⟩
      · have hjk : j = k := by omega
        simp(maxSteps:=999999)(disch:=omega)only[go_sem,zA,zM,zS,zE,zL]
        refine ⟨k + 1, ⟨by omega, by omega⟩, ⟨e1.symm, e2.symm, ?_, by push_cast; omega⟩, HLe.refl _⟩
        rw [eq_comm, decide_eq_true_eq, nodup_take h1]
        rw [hjk] at hb
        exact of_decide_eq_true hb
  · simp(maxSteps:=999999)(disch:=omega)only[go_sem,zA,zM,zS,zE,zL]
    rw [List.take_of_length_le (by omega)]
    have hkl : vs.take k = vs := List.take_of_length_le (by omega)
    ((first|(with_reducible first|refine condK_dec ?_ ?_|refine condK_ndec ?_ ?_|refine condK_nb ?_ ?_)|refine condK_b ?_ ?_) <;> intro d1)
    · simp(maxSteps:=999999)(disch:=omega)only[go_sem,zA,zM,zS,zE,zL]
      unfold holdsV
      rw [if_pos d1]
    simp(maxSteps:=999999)(disch:=omega)only[go_sem,zA,zM,zS,zE,zL]
    ((first|(with_reducible first|refine condK_dec ?_ ?_|refine condK_ndec ?_ ?_|refine condK_nb ?_ ?_)|refine condK_b ?_ ?_) <;> intro d2)
    · simp(maxSteps:=999999)(disch:=omega)only[go_sem,zA,zM,zS,zE,zL]
      unfold holdsV
      rw [if_neg d1, if_pos d2]
    simp(maxSteps:=999999)(disch:=omega)only[go_sem,zA,zM,zS,zE,zL]
    ((first|(with_reducible first|refine condK_dec ?_ ?_|refine condK_ndec ?_ ?_|refine condK_nb ?_ ?_)|refine condK_b ?_ ?_) <;> intro d3)
    · simp(maxSteps:=999999)(disch:=omega)only[go_sem,zA,zM,zS,zE,zL]
      unfold holdsV
      rw [if_neg d1, if_neg d2, if_pos d3]
    have hl2 : 2 ≤ vs.length := by omega
    simp(maxSteps:=999999)(disch:=omega)only[go_sem,zA,zM,zS,zE,zL]
    have v0 : 0 ≤ nth vs (0 : Int) ∧ nth vs (0 : Int) ≤ 4 := hnv 0 (by omega)
    have v1 : 0 ≤ nth vs (1 : Int) ∧ nth vs (1 : Int) ≤ 4 := hnv 1 (by omega)
    ((first|(with_reducible first|refine condK_dec ?_ ?_|refine condK_ndec ?_ ?_|refine condK_nb ?_ ?_)|refine condK_b ?_ ?_) <;> intro d4)
    · simp(maxSteps:=999999)(disch:=omega)only[go_sem,zA,zM,zS,zE,zL]
      refine drawP_q foll (by kernel_rfl) ?_
      simp(maxSteps:=999999)(disch:=omega)only[go_sem,Nat.reduceBEq,Bool.true_or,zA,zM,zS,zE,zL]
      unfold holdsV
      rw [if_neg d1, if_neg d2, if_neg d3, if_pos d4]
    · simp(maxSteps:=999999)(disch:=omega)only[go_sem,zA,zM,zS,zE,zL]
      refine drawP_q foll (by kernel_rfl) ?_
      simp(maxSteps:=999999)(disch:=omega)only[go_sem,Nat.reduceBEq,Bool.true_or,zA,zM,zS,zE,zL]
      unfold holdsV
      rw [if_neg d1, if_neg d2, if_neg d3, if_neg d4, show (0 : Int) - (nth vs 0 - nth vs 1) = nth vs 1 - nth vs 0 by omega]
end Go.Lg

namespace Go.Lg
attribute [-go_sem] appendM
theorem softW_call {P : Program} {ops : Array Oper} {o : Oper} {s : List AV} {K : AV → Prop} {fo : Operand} {xs : Array Operand} {ts : Array TypeId} {f : FuncId} {args : List AV} {v : AV}
    (hc : Reads P f args v) (he : Enters P f) (ho : o.op = .call ⟨.value fo, xs, ts⟩) (ha : callArgs ⟨s, []⟩ fo xs = some (f, args)) (hz : ∀ x ∈ Call.operands ⟨.value fo, xs, ts⟩, frozenA (evO s x) = true) (hf : args.all frozenA = true)
    (hv : frozen1 v = true ∧ tupOk v = true ∧ shiftA 0 v = v ∧ frzA [] v = some v) (hk : K v) : softW P ops o s K := by
  unfold softW
  rw [ho]
  refine ⟨v, fun H => Soft.ops (by rw [ho]; exact hz) hv.1 fun s' hs' => ?_, hk⟩
  refine OpS.mk hc he ho ?_ hf hv.2.1 hv.2.2.1 hv.2.2.2
  rw [callArgs_congr (s := s) (H := []) ts fun x hx => hs' x (by rw [ho]; exact hx)]
  exact ha
inductive OwnE (H : Heap) : CV → List Int → List Nat → Prop where
  | m : OwnE H .emp [] []
  | o (id g : Nat) (xs : List Int) (h : look H id g = some ⟨g, 1, cl (eI .i64) xs⟩) : OwnE H (.own id g 0 xs.length none) xs [id]
theorem OwnE.frzC {H : Heap} {c : CV} {xs : List Int} {S : List Nat} (h : OwnE H c xs S) : Lg.frzC H c = some (.f (fints xs)) := by
  cases h with
  | m => rfl
  | o id g xs h => exact (OwnI.o id g none xs [] (by rw [List.append_nil]; exact h)).frzC
theorem OwnE.same {H H' : Heap} {c : CV} {xs : List Int} {S : List Nat} (h : OwnE H c xs S) (hs : ∀ i ∈ S, H'[i]? = H[i]?) : OwnE H' c xs S := by
  cases h with
  | m => exact .m
  | o id g xs h => exact .o id g xs (by unfold look at *; rw [hs id (by simp)]; exact h)
theorem OwnE.shift {H0 H : Heap} {c : CV} {xs : List Int} {S : List Nat} (h : OwnE H c xs S) : OwnE (H0 ++ shiftH H0.length H) (shiftC H0.length c) xs (S.map (· + H0.length)) := by
  cases h with
  | m => exact .m
  | o id g xs h =>
    refine .o (id + H0.length) g xs ?_
    rw [look_shiftH h]
    simp only [shiftB, shift_cl]
theorem OwnE.lt {H : Heap} {c : CV} {xs : List Int} {S : List Nat} (h : OwnE H c xs S) : ∀ i ∈ S, i < H.length := by
  cases h with
  | m => simp
  | o id g xs h => intro i hi; have : i = id := by simpa using hi
                   subst this; exact (List.getElem?_eq_some_iff.1 (look_some h).1).1
theorem OwnE.nd {H : Heap} {c : CV} {xs : List Int} {S : List Nat} (h : OwnE H c xs S) : S.Nodup := by cases h <;> simp
theorem OwnE.inv {H : Heap} {c : CV} {xs : List Int} {S : List Nat} (h : OwnE H c xs S) (hn : xs ≠ []) : ∃ id g, c = .own id g 0 xs.length none ∧ S = [id] ∧ look H id g = some ⟨g, 1, cl (eI .i64) xs⟩ := by
  cases h with
  | m => exact absurd rfl hn
  | o id g xs h => exact ⟨id, g, rfl, rfl, h⟩
end Go.Lg

namespace Go.Lg
open Go.Proofs
attribute [-go_sem] appendM lenO
theorem sliceOf_of' {P : Program} {t e : TypeId} {ti ei : TI} (ht : tinf P t = some ti) (hk : ti.k = .slice e) (he : tinf P e = some ei) : sliceOf P t = some ei := by
  unfold sliceOf; simp only [ht, hk, he]
theorem appendM_copy {P : Program} {HI : Heap} {t : TypeId} {ei : TI} {K : KV} (ht : sliceOf P t = some ei) (hz : ei.zero.length = ei.size ∧ ei.size = 1 ∧ ei.bytes = 8) {xs ys : List Int} (hx : 0 < xs.length ∧ xs.length ≤ 2 ^ 40) {id g g0 : Nat} {lim : Option Nat}
    (hl : look HI id g = some ⟨g, 1, cl (eI .i64) (xs ++ ys)⟩) (hk : ∀ g', K (.c (.own HI.length g' 0 xs.length none)) (HI ++ [some ⟨g', 1, cl (eI .i64) xs⟩])) :
    appendM P (HI ++ [some ⟨g0, 1, []⟩]) t (.c (.own HI.length g0 0 0 none)) (.c (.own id g 0 xs.length lim)) K := by
  obtain ⟨hz1, hz2, hz3⟩ := hz
  have hid : id < HI.length := (List.getElem?_eq_some_iff.1 (look_some hl).1).1
  have hl' : look (HI ++ [some ⟨g0, 1, []⟩]) id g = some ⟨g, 1, cl (eI .i64) (xs ++ ys)⟩ := by rw [look_app_lt hid]; exact hl
  have et : ((cl (eI .i64) (xs ++ ys)).drop 0).take (xs.length * 1) = cl (eI .i64) xs := by
    rw [List.drop_zero, cl_append, List.take_append_of_le_length (by rw [cl_length]; exact Nat.le_refl _), List.take_of_length_le (by rw [cl_length]; exact Nat.le_refl _)]
  unfold appendM
  simp only [ht, hz1, hz2, if_true, elems, look_last, hl', et, appM]
  rw [if_neg (by omega)]
  simp only [List.length_nil, Nat.zero_mul, if_true, okP, Nat.zero_add, List.nil_append, set_last]
  exact ⟨⟨trivial, by omega, trivial, by omega, by rw [hz3]; omega⟩, hk⟩
theorem OwnI.inv' {H : Heap} {c : CV} {xs : List Int} {S : List Nat} (h : OwnI H c xs S) (hn : 0 < xs.length) : ∃ id g lim ys, c = .own id g 0 xs.length lim ∧ S = [id] ∧ look H id g = some ⟨g, 1, cl (eI .i64) (xs ++ ys)⟩ := by
  cases h with
  | e => simp at hn
  | o id g lim xs ys h => exact ⟨id, g, lim, ys, rfl, rfl, h⟩
theorem OwnI.nzc' {H : Heap} {c : CV} {xs : List Int} {S : List Nat} (h : OwnI H c xs S) : nzC c = c := by cases h <;> rfl
theorem lenO_I {P : Program} {H : Heap} {t e : TypeId} {ti : TI} {c : CV} {xs : List Int} {S : List Nat} (h : OwnI H c xs S) (ht : tinf P t = some ti) (hk : ti.k = .slice e) : lenO P H t (.c c) = some (.c (.f (.int .i64 xs.length))) := by
  cases h with
  | e => simp only [lenO, ht, hk]; rfl
  | o id g lim xs ys h => simp only [lenO, ht, hk, h, Option.isSome_some, if_true]
theorem srchV_cons (n : Nat) (f : List Int → Nat → List Int × Nat) (xs : List Int) (i v : Nat) (vs : List Nat) (l : Nat) : srchV n f xs i (v :: vs) l = if clash (xs.set i v) n = true then srchV n f xs i vs l else if (f (xs.set i v) l).1 ≠ [] then f (xs.set i v) l else srchV n f xs i vs (f (xs.set i v) l).2 := rfl
theorem vals_drop {n v : Nat} (h : 1 ≤ v ∧ v ≤ n) : ((List.range n).map (· + 1)).drop (v - 1) = v :: ((List.range n).map (· + 1)).drop v := by
  rw [List.drop_eq_getElem_cons (by simp; omega)]
  simp only [List.getElem_map, List.getElem_range]
  rw [show v - 1 + 1 = v by omega]
theorem srch_le (n : Nat) : ∀ (m : Nat) (xs : List Int) (l : Nat), (srch n m xs l).2 ≤ l
  | 0, xs, l => by unfold srch; split <;> simp
  | m + 1, xs, l => by
    unfold srch
    have : ∀ vs l, (srchV n (srch n m) xs (xs.length - (m + 1)) vs l).2 ≤ l := by
      intro vs
      induction vs with
      | nil => intro l; simp [srchV]
      | cons v vs ih =>
        intro l
        have h1 := srch_le n m (xs.set (xs.length - (m + 1)) v) l
        unfold srchV
        split
        · exact ih l
        · split
          · exact h1
          · exact Nat.le_trans (ih _) h1
    exact this _ l
def srchQ (n m : Nat) (xs : List Int) (l : Nat) (H : Heap) (lid lg : Nat) : KV := fun v H' => ∃ c S, v = .c c ∧ OwnI H' c (srch n m xs l).1 S ∧ look H' lid lg = some ⟨lg, 1, [.f (.int .i64 ((srch n m xs l).2 : Int))]⟩ ∧ lid ∉ S ∧ H.length ≤ H'.length ∧ ∀ k, k < H.length → k ≠ lid → H'[k]? = H[k]?
theorem l2Search_run {n : Nat} (hn : n = 2 ∨ n = 3 ∨ n = 4) : ∀ (m : Nat) (H : Heap) (cg : CV) (xs : List Int) (S : List Nat) (lid lg l : Nat), m ≤ n * n → OwnI H cg xs S → xs.length = n * n → (∀ k : Nat, k < xs.length → 0 ≤ nth xs k ∧ nth xs k ≤ 4) →
    look H lid lg = some ⟨lg, 1, [.f (.int .i64 (l : Int))]⟩ → lid ∉ S → l < 2 ^ 40 → RunCall Tryz.prog 77 [.c cg, int n, int ((n * n - m : Nat) : Int), .c (.ptr lid lg 0)] H (srchQ n m xs l H lid lg)
  | 0, H, cg, xs, S, lid, lg, l, hm, hg, hxl, hxv, hl, hS, hl40 => by
    have hsq : 4 ≤ n * n ∧ n * n ≤ 16 := by rcases hn with rfl | rfl | rfl <;> omega
    obtain ⟨id, g, lim, ys, rfl, rfl, hlk⟩ := hg.inv' (by omega)
    have hlt : lid < H.length := (List.getElem?_eq_some_iff.1 (look_some hl).1).1
    have nl : nilV H (.c (.ptr lid lg 0)) = some (.c (.ptr lid lg 0)) := nilV_ptr hl
    refine RunCall.nz ?_
    refine RunCall.cw (c := _) Tryz.func77 rfl (n := 52) Tryz.ntmps77 (rs := [.tmp 8]) rfl ?_
    simp only[List.length_cons,List.length_nil,zA,zS,List.replicate,List.cons_append,List.nil_append]
    simp(maxSteps:=999999)(disch:=omega)only[go_sem,zA,zM,zS,zE,zL, hlk, lenO]
    have hnn : (n * n - 0 : Nat) = xs.length := by omega
    ((first|(with_reducible first|refine condK_dec ?_ ?_|refine condK_ndec ?_ ?_|refine condK_nb ?_ ?_)|refine condK_b ?_ ?_) <;> intro h1)
    · simp(maxSteps:=999999)(disch:=omega)only[go_sem,zA,zM,zS,zE,zL, nl, hl, hlk]
      ((first|(with_reducible first|refine condK_dec ?_ ?_|refine condK_ndec ?_ ?_|refine condK_nb ?_ ?_)|refine condK_b ?_ ?_) <;> intro h2)
      · simp(maxSteps:=999999)(disch:=omega)only[go_sem,zA,zM,zS,zE,zL]
        have hl0 : l = 0 := by omega
        subst hl0
        exact ⟨H, HLe.refl _, .own id g 0 xs.length lim, [id], rfl, hg, by rw [hl]; rfl, hS, Nat.le_refl _, fun k _ _ => rfl⟩
      · simp(maxSteps:=999999)(disch:=omega)only[go_sem,zA,zM,zS,zE,zL, nl, hl, hlk]
        have e : srch n 0 xs l = ([], l - 1) := by unfold srch; rw [if_neg (by omega)]
        refine ⟨_, HLe.refl _, .f (.sl 0 []), [], rfl, by rw [e]; exact .e, ?_, by simp, by simp, fun k _ hk => by rw [List.getElem?_set_ne (Ne.symm hk)]⟩
        rw [look_set_eq' hlt, e]
        have : ((l - 1 : Nat) : Int) = (l : Int) - 1 := by omega
        rw [this]
    · exfalso; omega
  | m + 1, H, cg, xs, S, lid, lg, l, hm, hg, hxl, hxv, hl, hS, hl40 => by
    have hsq : 4 ≤ n * n ∧ n * n ≤ 16 := by rcases hn with rfl | rfl | rfl <;> omega
    have hn4 : 2 ≤ n ∧ n ≤ 4 := by omega
    obtain ⟨id, g, lim, ys, rfl, rfl, hlk⟩ := hg.inv' (by omega)
    have hlt : lid < H.length := (List.getElem?_eq_some_iff.1 (look_some hl).1).1
    have hidlt : id < H.length := (List.getElem?_eq_some_iff.1 (look_some hlk).1).1
    have hne : id ≠ lid := fun he => hS (by simp [he])
    obtain ⟨i, hi⟩ : ∃ i : Nat, n * n - (m + 1) = i := ⟨_, rfl⟩
    have hil : i < xs.length := by omega
    have hsr : srch n (m + 1) xs l = srchV n (srch n m) xs i ((List.range n).map (· + 1)) l := by
      unfold srch
      rw [show xs.length - (m + 1) = i by omega]
    rw [hi]
    refine RunCall.nz ?_
    refine RunCall.cw (c := _) Tryz.func77 rfl (n := 52) Tryz.ntmps77 (rs := [.tmp 8]) rfl ?_
    simp only[List.length_cons,List.length_nil,zA,zS,List.replicate,List.cons_append,List.nil_append]
    simp(maxSteps:=999999)(disch:=omega)only[go_sem,zA,zM,zS,zE,zL, hlk, lenO]
    ((first|(with_reducible first|refine condK_dec ?_ ?_|refine condK_ndec ?_ ?_|refine condK_nb ?_ ?_)|refine condK_b ?_ ?_) <;> intro h1)
    · exfalso; omega
    simp(maxSteps:=999999)(disch:=omega)only[go_sem,zA,zM,zS,zE,zL]
    refine loop_rule3 (fun (v : Nat) (HI : Heap) (l' : Nat) => n + 1 - v) (fun v HI l' => 1 ≤ v ∧ v ≤ n + 1 ∧ srch n (m + 1) xs l = srchV n (srch n m) xs i (((List.range n).map (· + 1)).drop (v - 1)) l' ∧ look HI lid lg = some ⟨lg, 1, [.f (.int .i64 (l' : Int))]⟩ ∧ H.length ≤ HI.length ∧ (∀ k, k < H.length → k ≠ lid → HI[k]? = H[k]?) ∧ l' ≤ l)
      (fun v HI l' => [.k, .k, .k, .k, .a, .a, .a, .a, .a, .p (int v), .a, .a, .a, .a, .a, .a, .a, .a, .a, .a, .a, .a, .a, .a, .a, .a, .a, .a, .a, .a, .a, .a, .a, .a, .a, .a, .a, .a, .a, .a, .a, .a, .a, .a, .a, .a, .a, .a, .a, .a, .a, .a]) (fun _ HI _ => HI) 1 H l ⟨by omega, by omega, hsr, hl, Nat.le_refl _, fun _ _ _ => rfl, Nat.le_refl _⟩ (by simp(maxSteps:=999999)(disch:=omega)only[go_sem,zA,zM,zS,zE,zL]; rfl) (HLe.refl _) ?_
    rintro v HI l' ⟨hv1, hv2, hs', hl', hlen', hfr, hll⟩
    have hlk' : look HI id g = some ⟨g, 1, cl (eI .i64) (xs ++ ys)⟩ := by unfold look; rw [hfr id hidlt hne]; exact hlk
    simp(maxSteps:=999999)(disch:=omega)only[go_sem,zA,zM,zS,zE,zL]
    ((first|(with_reducible first|refine condK_dec ?_ ?_|refine condK_ndec ?_ ?_|refine condK_nb ?_ ?_)|refine condK_b ?_ ?_) <;> intro h2)
    · have hvn : v ≤ n := by omega
      simp(maxSteps:=999999)(disch:=omega)only[go_sem,zA,zM,zS,zE,zL]
      intro g0
      refine appendM_copy (sliceOf_of' ti23 rfl ti3) ⟨rfl, rfl, rfl⟩ (by omega) hlk' ?_
      intro g1
      simp(maxSteps:=999999)(disch:=omega)only[go_sem,zA,zM,zS,zE,zL, look_last, set_last]
      rw [Int.toNat_natCast]
      have hown : OwnI (HI ++ [some ⟨g1, 1, cl (eI .i64) (xs.set i v)⟩]) (.own HI.length g1 0 xs.length none) (xs.set i v) [HI.length] := by
        have := OwnI.o (H := HI ++ [some ⟨g1, 1, cl (eI .i64) (xs.set i v)⟩]) HI.length g1 none (xs.set i v) [] (by rw [List.append_nil]; exact look_last)
        rwa [List.length_set] at this
      have hsv : ∀ k : Nat, k < (xs.set i (v : Int)).length → 0 ≤ nth (xs.set i (v : Int)) k ∧ nth (xs.set i (v : Int)) k ≤ 4 := fun k hk => by
        rw [List.length_set] at hk
        rw [nth_setN _ _ _ _ hil]
        split
        · omega
        · exact hxv k hk
      refine OpS.rdD (l2Clash_run hn (xs.set i v) (by rw [List.length_set]; exact hxl) hsv) (⟨_, Tryz.func93, rfl, rfl⟩ : Enters Tryz.prog 93) rfl rfl (snap_two hown.snap snapD_int) rfl ?_
      simp(maxSteps:=999999)(disch:=omega)only[go_sem,zA,zM,zS,zE,zL]
      ((first|(with_reducible first|refine condK_dec ?_ ?_|refine condK_ndec ?_ ?_|refine condK_nb ?_ ?_)|refine condK_b ?_ ?_) <;> intro h3)
      · simp(maxSteps:=999999)(disch:=omega)only[go_sem,zA,zM,zS,zE,zL]
        refine ⟨v + 1, HI, l', ⟨⟨by omega, by omega, ?_, hl', hlen', hfr, hll⟩, by omega⟩, by push_cast; omega, HLe.app _ _⟩
        rw [hs', vals_drop ⟨hv1, hvn⟩, srchV_cons, if_pos h3, show v + 1 - 1 = v by omega]
      · simp(maxSteps:=999999)(disch:=omega)only[go_sem,zA,zM,zS,zE,zL]
        have hlt' : lid < HI.length := by omega
        have hr := l2Search_run hn m (HI ++ [some ⟨g1, 1, cl (eI .i64) (xs.set i v)⟩]) _ _ _ lid lg l' (by omega) hown (by rw [List.length_set]; exact hxl) hsv (by rw [look_app_lt hlt']; exact hl') (by simp; omega) (by omega)
        rw [show ((n * n - m : Nat) : Int) = (i : Int) + 1 by omega] at hr
        refine OpS.run hr (⟨_, Tryz.func77, rfl, rfl⟩ : Enters Tryz.prog 77) rfl rfl ?_
        rintro _ H2 ⟨c2, S2, rfl, o2, k2, n2, len2, f2⟩
        rw [List.length_append, List.length_singleton] at len2 f2
        have hle2 := srch_le n m (xs.set i v) l'
        have hlen2 : lenO Tryz.prog H2 23 (.c c2) = some (.c (.f (.int .i64 ((srch n m (xs.set i v) l').1.length : Int)))) := lenO_I o2 ti23 rfl
        have hf2 : ∀ k, k < H.length → k ≠ lid → H2[k]? = H[k]? := fun k hk hne2 => by rw [f2 k (by omega) hne2, List.getElem?_append_left (by omega), hfr k hk hne2]
        simp(maxSteps:=999999)(disch:=omega)only[go_sem,zA,zM,zS,zE,zL, hlen2]
        ((first|(with_reducible first|refine condK_dec ?_ ?_|refine condK_ndec ?_ ?_|refine condK_nb ?_ ?_)|refine condK_b ?_ ?_) <;> intro h4)
        · simp(maxSteps:=999999)(disch:=omega)only[go_sem,zA,zM,zS,zE,zL]
          have hne2 : (srch n m (xs.set i v) l').1 ≠ [] := fun h0 => by rw [h0] at h4; simp at h4
          have e : srch n (m + 1) xs l = srch n m (xs.set i v) l' := by rw [hs', vals_drop ⟨hv1, hvn⟩, srchV_cons, if_neg (by rw [h3]; simp), if_pos hne2]
          refine ⟨H2, HLe.refl _, c2, S2, ?_, by rw [e]; exact o2, by rw [e]; exact k2, n2, by omega, hf2⟩
          show AV.c (nzC c2) = _
          rw [o2.nzc']
        · simp(maxSteps:=999999)(disch:=omega)only[go_sem,zA,zM,zS,zE,zL]
          have he2 : (srch n m (xs.set i v) l').1 = [] := by
            have : ¬ 0 < (srch n m (xs.set i v) l').1.length := by omega
            exact List.eq_nil_of_length_eq_zero (by omega)
          refine ⟨v + 1, H2, (srch n m (xs.set i v) l').2, ⟨⟨by omega, by omega, ?_, k2, by omega, hf2, by omega⟩, by omega⟩, by push_cast; omega, HLe.refl _⟩
          rw [hs', vals_drop ⟨hv1, hvn⟩, srchV_cons, if_neg (by rw [h3]; simp), if_neg (by rw [he2]; simp), show v + 1 - 1 = v by omega]
    · have hv : v = n + 1 := by omega
      simp(maxSteps:=999999)(disch:=omega)only[go_sem,zA,zM,zS,zE,zL]
      have e : srch n (m + 1) xs l = ([], l') := by
        rw [hs', hv, show n + 1 - 1 = n by omega, List.drop_of_length_le (by simp)]
        rfl
      exact ⟨HI, HLe.refl _, .f (.sl 0 []), [], rfl, by rw [e]; exact .e, by rw [e]; exact hl', by simp, hlen', hfr⟩
def lenQ (k : Nat) : KV := fun v H => ∃ xs id g, v = .c (.own id g 0 k none) ∧ look H id g = some ⟨g, 1, cl (eI .i64) xs⟩ ∧ xs.length = k
theorem SquareNumber_run {n : Nat} (hn : n = 2 ∨ n = 3 ∨ n = 4) (number : Nat) (hm : number < manyS n) : RunCall Tryz.prog 57 [int n, int number] [] (lenQ (n * n)) := by
  have hn4 : 2 ≤ n ∧ n ≤ 4 := by omega
  have hm6 : manyS n ≤ 576 := by unfold manyS; split <;> (try split) <;> omega
  have hsq : 4 ≤ n * n ∧ n * n ≤ 16 := by rcases hn with rfl | rfl | rfl <;> omega
  have hsi : (n : Int) * n = ((n * n : Nat) : Int) := by push_cast; rfl
  refine RunCall.cw (c := _) Tryz.func57 rfl (n := 27) Tryz.ntmps57 (rs := [.tmp 4]) rfl ?_
  simp only[List.length_cons,List.length_nil,zA,zS,List.replicate,List.cons_append,List.nil_append]
  simp(maxSteps:=999999)(disch:=omega)only[go_sem,zA,zM,zS,zE,zL]
  first | refine OpS.rd (l1In_run _ _ _) (⟨_, Tryz.func25, rfl, rfl⟩ : Enters Tryz.prog 25) rfl rfl rfl rfl ?_ | refine Loud.rd (l1In_run _ _ _) (⟨_, Tryz.func25, rfl, rfl⟩ : Enters Tryz.prog 25) rfl rfl rfl rfl ?_
  simp(maxSteps:=999999)(disch:=omega)only[go_sem,zA,zM,zS,zE,zL]
  ((with_reducible first|refine guardK_dec ?_ ?_|refine guardK_ndec ?_ ?_|refine guardK_nb ?_ ?_|refine guardK_split ?_ ?_|refine guardQ_dec ?_ ?_|refine guardL_dec ?_ ?_|refine guardQ_ndec ?_ ?_|refine guardL_ndec ?_ ?_|refine guardQ_nb ?_ ?_|refine guardL_nb ?_ ?_|refine guardQ_split ?_ ?_|refine guardL_split ?_ ?_) <;> intro h1 <;> simp(maxSteps:=999999)(disch:=omega)only[go_sem,zA,zM,zS,zE,zL, h1])
  rotate_left
  · exfalso; omega
  ((first|(with_reducible first|refine condK_dec ?_ ?_|refine condK_ndec ?_ ?_|refine condK_nb ?_ ?_)|refine condK_b ?_ ?_) <;> intro h2)
  · exfalso; omega
  simp(maxSteps:=999999)(disch:=omega)only[go_sem,zA,zM,zS,zE,zL]
  intro g1
  simp(maxSteps:=999999)(disch:=omega)only[go_sem,zA,zM,zS,zE,zL, hsi]
  intro g2
  have hown : OwnI [some ⟨g1, 1, [.f (.int .i64 (number : Int))]⟩, some ⟨g2, 1, cl (eI .i64) (List.replicate (n * n) 0)⟩] (.own 1 g2 0 (n * n) none) (List.replicate (n * n) 0) [1] := by
    have := OwnI.o (H := [some ⟨g1, 1, [.f (.int .i64 (number : Int))]⟩, some ⟨g2, 1, cl (eI .i64) (List.replicate (n * n) 0)⟩]) 1 g2 none (List.replicate (n * n) 0) [] (by rw [List.append_nil]; simp only [go_sem])
    rwa [List.length_replicate] at this
  have hr := l2Search_run hn (n * n) _ _ _ _ 0 g1 number (Nat.le_refl _) hown (by simp) (fun k _ => by rw [nth_zeros]; omega) look_zero (by simp) (by omega)
  rw [Nat.sub_self] at hr
  refine OpS.run hr (⟨_, Tryz.func77, rfl, rfl⟩ : Enters Tryz.prog 77) rfl rfl ?_
  rintro _ H2 ⟨c2, S2, rfl, o2, k2, n2, len2, f2⟩
  have hne0 : List.replicate (n * n) (0 : Int) ≠ [] := by intro h0; have := congrArg List.length h0; simp at this; omega
  obtain ⟨hf, _⟩ := srch_found n (n * n) (List.replicate (n * n) 0) number hne0
  rw [cnt_many hn] at hf
  obtain ⟨hfl, _⟩ := hf hm
  rw [List.length_replicate] at hfl
  obtain ⟨id, g, lim, ys, rfl, rfl, hlk⟩ := o2.inv' (by omega)
  simp(maxSteps:=999999)(disch:=omega)only[go_sem,zA,zM,zS,zE,zL]
  intro g3
  refine appendM_copy (sliceOf_of' ti23 rfl ti3) ⟨rfl, rfl, rfl⟩ (by omega) hlk ?_
  intro g4
  simp(maxSteps:=999999)(disch:=omega)only[go_sem,zA,zM,zS,zE,zL]
  rw [hfl]
  exact ⟨_, HLe.refl _, _, _, _, rfl, look_last, hfl⟩
end Go.Lg
