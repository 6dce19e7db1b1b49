/- GpEB, GpMA, GpK, GpP, cut to what is needed. -/
import Derived.Test.YtapopcmgggfedaaVac4
import Derived.Test.YtapopcmgggfedaaVac1
import Derived.Test.YtapopcmgggfedaaVab4
import Derived.Test.YtapopcmgggfedaaVab3
open Nat(reduceAdd reduceMul reduceSub reduceEqDiff reduceLeDiff)
set_option linter.unusedSimpArgs false
set_option linter.unusedVariables false
set_option maxRecDepth 100000
namespace Go.Lg
open Go.Proofs
theorem and_bit {m k : Nat} (hm : m < 2 ^ 62) : decide (bitsI .and .i64 ((m >>> k : Nat) : Int) 1 = 1) = m.testBit k := by
  have hs : m >>> k < 2 ^ 62 := by rw [Nat.shiftRight_eq_div_pow]; exact Nat.lt_of_le_of_lt (Nat.div_le_self _ _) hm
  have e : (BitVec.ofInt 64 ((m >>> k : Nat) : Int) &&& BitVec.ofInt 64 1).toNat = (m >>> k) &&& 1 := by
    have h1 : BitVec.ofInt 64 1 = BitVec.ofNat 64 1 := rfl
    rw [h1]
    simp only [BitVec.toNat_and, BitVec.ofInt_natCast, BitVec.toNat_ofNat]
    rw [Nat.mod_eq_of_lt (by omega)]
  have e2 : bitsI .and .i64 ((m >>> k : Nat) : Int) 1 = (((m >>> k) % 2 : Nat) : Int) := by
    unfold bitsI
    show IntKind.wrap .i64 ((BitVec.ofInt 64 ((m >>> k : Nat) : Int) &&& BitVec.ofInt 64 1).toNat : Int) = _
    rw [e, Nat.and_one_is_mod]
    exact ok_i64 (by omega)
  rw [e2, Nat.testBit_eq_decide_div_mod_eq, Nat.shiftRight_eq_div_pow, decide_eq_decide]
  omega
section
variable {P : Program} {o : Oper} {st : St} {K : KV} {fo : Operand} {xs : Array Operand} {ts : Array TypeId} {f : FuncId} {args : List AV} {caps : List AV} {Q : KV}
theorem OpS.runFn (hc : RunCall P f args st.h Q) (he : Enters P f) (ho : o.op = .call ⟨.value fo, xs, ts⟩) (ht : target st.h (evO st.s fo) = some (f, caps)) (ha : xs.toList.map (evO st.s) ++ caps = args) (hk : ∀ r H', Q r H' → K r H') : OpS P o st K := by
  refine OpS.call ho ht he ?_
  rw [ha]
  exact hc.mono hk
end
def wayH (r : Rul) (os : List Nat) (g0 g1 g2 g3 g4 g5 g6 : Nat) (f : FuncId) (o : List Nat) (vs : List Int) : Heap :=
  [some ⟨g0, 1, cR r⟩, some ⟨g1, 1, [.f (fints (nats os))]⟩, some ⟨g2, 1, cl (eI .i64) (nats o)⟩, some ⟨g3, 1, [.own 2 g2 0 os.length none]⟩, some ⟨g4, 1, cl (eI .i64) vs⟩, some ⟨g5, 1, [.own 4 g4 0 os.length none]⟩,
    some ⟨g6, 1, [.fn f [(1, g1), (0, g0), (5, g5), (3, g3), (6, g6)]]⟩]
theorem ways_run (r : Rul) (os : List Nat) (g0 g1 g2 g3 g4 g5 g6 : Nat) (hos : os.length ≤ 4) (hob : ∀ m ∈ os, m < 32) (hk : r.kind = 1 ∨ r.kind = 2 ∨ r.kind = 3 ∨ (r.kind = 4 ∨ r.kind = 5) ∧ 2 ≤ os.length) :
    ∀ (d i : Nat) (o : List Nat) (vs : List Int), i + d = os.length → o.length = os.length → vs.length = os.length → (∀ x ∈ o, x < 32) → (∀ v ∈ vs, 0 ≤ v ∧ v ≤ 4) →
    RunCall Try.prog 77 [int i, .c (.ptr 1 g1 0), .c (.ptr 0 g0 0), .c (.ptr 5 g5 0), .c (.ptr 3 g3 0), .c (.ptr 6 g6 0)] (wayH r os g0 g1 g2 g3 g4 g5 g6 77 o vs)
      (fun v H' => v = .tup [] ∧ ∃ vs', vs'.length = os.length ∧ vs'.take i = vs.take i ∧ (∀ v ∈ vs', 0 ≤ v ∧ v ≤ 4) ∧ H' = wayH r os g0 g1 g2 g3 g4 g5 g6 77 (ways r (os.drop i) (vs.take i) o) vs')
  | 0, i, o, vs, hd, hol, hvl, ho, hv => by
    have hnl : (nats os).length = os.length := nats_length os
    have hno : (nats o).length = os.length := by rw [nats_length, hol]
    unfold wayH
    refine RunCall.cw (c := _) Try.func77 rfl (n := 53) Try.ntmps77 (rs := []) rfl ?_
    simp only[List.length_cons,List.length_nil,reduceAdd,reduceSub,List.replicate,List.cons_append,List.nil_append]
    simp(maxSteps:=999999)(disch:=omega)only[go_sem,reduceAdd,reduceMul,reduceSub,reduceEqDiff,reduceLeDiff]
    ((first|(with_reducible first|refine condK_dec ?_ ?_|refine condK_ndec ?_ ?_|refine condK_nb ?_ ?_)|refine condK_b ?_ ?_) <;> intro c1)
    · simp(maxSteps:=999999)(disch:=omega)only[go_sem,reduceAdd,reduceMul,reduceSub,reduceEqDiff,reduceLeDiff]
      have hown : OwnI (wayH r os g0 g1 g2 g3 g4 g5 g6 77 o vs) (.own 4 g4 0 os.length none) vs [4] := by
        have := OwnI.o (H := wayH r os g0 g1 g2 g3 g4 g5 g6 77 o vs) 4 g4 none vs [] (by rw [List.append_nil]; unfold wayH; simp only [go_sem])
        rwa [hvl] at this
      unfold wayH at hown
      refine OpS.rdD (valuesHold_run r vs (by omega) hv (by omega)) (⟨_, Try.func78, rfl, rfl⟩ : Enters Try.prog 78) rfl rfl (snap_two rfl hown.snap) rfl ?_
      have hdr : os.drop i = [] := List.drop_of_length_le (by omega)
      have htk : vs.take i = vs := List.take_of_length_le (by omega)
      simp(maxSteps:=999999)(disch:=omega)only[go_sem,reduceAdd,reduceMul,reduceSub,reduceEqDiff,reduceLeDiff]
      ((first|(with_reducible first|refine condK_dec ?_ ?_|refine condK_ndec ?_ ?_|refine condK_nb ?_ ?_)|refine condK_b ?_ ?_) <;> intro c2)
      · simp(maxSteps:=999999)(disch:=omega)only[go_sem,reduceAdd,reduceMul,reduceSub,reduceEqDiff,reduceLeDiff]
        refine loop_rule (fun k : Nat => os.length - k) (fun k => k ≤ os.length) (fun k => [.a, .a, .a, .a, .k, .a, .a, .a, .a, .a, .a, .a, .a, .a, .a, .a, .a, .k, .k, .p (int k), .a, .a, .a, .a, .a, .a, .a, .a, .a, .a, .a, .a, .a, .a, .a, .a, .a, .a, .a, .a, .a, .a, .a, .a, .a, .a, .a, .a, .a, .a, .a, .a, .a]) (fun k => wayH r os g0 g1 g2 g3 g4 g5 g6 77 (orTake o vs k) vs) 0 (Nat.zero_le _) (by simp(maxSteps:=999999)(disch:=omega)only[go_sem,reduceAdd,reduceMul,reduceSub,reduceEqDiff,reduceLeDiff]; rfl) (by rw [orTake_zero]; exact HLe.refl _) ?_
        intro k hk'
        have hkl := orTake_length (o := o) (vs := vs) (k := k) (by omega)
        unfold wayH
        simp(maxSteps:=999999)(disch:=omega)only[go_sem,reduceAdd,reduceMul,reduceSub,reduceEqDiff,reduceLeDiff]
        ((first|(with_reducible first|refine condK_dec ?_ ?_|refine condK_ndec ?_ ?_|refine condK_nb ?_ ?_)|refine condK_b ?_ ?_) <;> intro c3)
        · have c3 : k < os.length := by omega
          have hx := orTake_nth (o := o) (vs := vs) (k := k) (by omega) (by omega)
          have hpk := hv (nth vs k) (by rw [nth_eq (by omega)]; exact List.getElem_mem _)
          have hok := ho (o[k]'(by omega)) (List.getElem_mem _)
          have hkn : (nats (orTake o vs k)).length = os.length := by rw [nats_length, hkl, hol]
          have hset := orTake_set (o := o) (vs := vs) (k := k) (by omega) (by omega)
          have hpw : 2 ^ (nth vs k).toNat < 2 ^ 62 := Nat.pow_lt_pow_right (by omega) (by omega)
          simp(maxSteps:=999999)(disch:=omega)only[go_sem,reduceAdd,reduceMul,reduceSub,reduceEqDiff,reduceLeDiff]
          refine drawP_lM [0, 1, 2, 3, 4, 5] [] none [6, 7, 8] [] [0, 0, 3, 7, 0, 16, 63, 127, 255] foll (by kernel_rfl) ?_
          simp(maxSteps:=999999)(disch:=omega)only[go_sem,reduceAdd,reduceMul,reduceSub,reduceEqDiff,reduceLeDiff, hx, shl_small hpk, or_small (show (o[k]'(by omega)) < 2 ^ 62 by omega) hpw]
          rw [Int.toNat_natCast, hset]
          exact ⟨k + 1, ⟨by omega, by omega⟩, by push_cast; omega, HLe.refl _⟩
        · have hke : k = vs.length := by omega
          simp(maxSteps:=999999)(disch:=omega)only[go_sem,reduceAdd,reduceMul,reduceSub,reduceEqDiff,reduceLeDiff]
          refine ⟨_, HLe.refl _, rfl, vs, hvl, rfl, hv, ?_⟩
          rw [hdr, htk, hke, orTake_all (by omega)]
          unfold ways
          rw [if_pos c2]
      · simp(maxSteps:=999999)(disch:=omega)only[go_sem,reduceAdd,reduceMul,reduceSub,reduceEqDiff,reduceLeDiff]
        refine ⟨_, HLe.refl _, rfl, vs, hvl, rfl, hv, ?_⟩
        rw [hdr, htk]
        unfold ways
        rw [if_neg (by rw [c2]; simp)]
    · exfalso; omega
  | d + 1, i, o, vs, hd, hol, hvl, ho, hv => by
    have hnl : (nats os).length = os.length := nats_length os
    have hio : i < os.length := by omega
    have hm32 := hob (os[i]'hio) (List.getElem_mem _)
    have hmn := nats_nth hio
    have hdr : os.drop i = os[i]'hio :: os.drop (i + 1) := List.drop_eq_getElem_cons hio
    have htl : (vs.take i).length = i := by rw [List.length_take]; omega
    have hpre : ∀ v ∈ vs.take i, 0 ≤ v ∧ v ≤ 4 := fun v h => hv v (List.mem_of_mem_take h)
    generalize hM : os[i]'hio = M at hm32 hmn hdr
    unfold wayH
    refine RunCall.cw (c := _) Try.func77 rfl (n := 53) Try.ntmps77 (rs := []) rfl ?_
    simp only[List.length_cons,List.length_nil,reduceAdd,reduceSub,List.replicate,List.cons_append,List.nil_append]
    simp(maxSteps:=999999)(disch:=omega)only[go_sem,reduceAdd,reduceMul,reduceSub,reduceEqDiff,reduceLeDiff]
    ((first|(with_reducible first|refine condK_dec ?_ ?_|refine condK_ndec ?_ ?_|refine condK_nb ?_ ?_)|refine condK_b ?_ ?_) <;> intro c1)
    · exfalso; omega
    simp(maxSteps:=999999)(disch:=omega)only[go_sem,reduceAdd,reduceMul,reduceSub,reduceEqDiff,reduceLeDiff]
    refine loop_rule3 (fun (v : Nat) _ _ => 5 - v) (fun (v : Nat) (o' : List Nat) (vs' : List Int) => (1 ≤ v ∧ v ≤ 5) ∧ o' = (mvals M (v - 1)).foldl (fun o w => ways r (os.drop (i + 1)) (vs.take i ++ [w]) o) o ∧ vs'.length = os.length ∧ vs'.take i = vs.take i ∧ (∀ v ∈ vs', 0 ≤ v ∧ v ≤ 4)) (fun v _ _ => [.k, .k, .a, .k, .a, .k, .a, .a, .a, .p (int v), .a, .a, .a, .a, .a, .a, .a, .a, .a, .a, .a, .a, .a, .a, .a, .a, .a, .a, .a, .a, .a, .a, .a, .a, .a, .a, .a, .a, .a, .a, .a, .a, .a, .a, .a, .a, .a, .a, .a, .a, .a, .a, .a]) (fun _ o' vs' => wayH r os g0 g1 g2 g3 g4 g5 g6 77 o' vs') 1 o vs
      ⟨⟨by omega, by omega⟩, rfl, hvl, rfl, hv⟩ (by simp(maxSteps:=999999)(disch:=omega)only[go_sem,reduceAdd,reduceMul,reduceSub,reduceEqDiff,reduceLeDiff]; rfl) (HLe.refl _) ?_
    rintro v o' vs' ⟨⟨hv1, hv5⟩, ho', hvl', htk, hv'⟩
    obtain ⟨hol', hob'⟩ := fold_ok r (os.drop (i + 1)) (vs.take i) (mvals M (v - 1)) o hpre (fun w hw => by have := mvals_mem hw; omega) (by rw [htl, List.length_drop]; omega) ho
    rw [← ho'] at hol' hob'
    unfold wayH
    simp(maxSteps:=999999)(disch:=omega)only[go_sem,reduceAdd,reduceMul,reduceSub,reduceEqDiff,reduceLeDiff]
    ((first|(with_reducible first|refine condK_dec ?_ ?_|refine condK_ndec ?_ ?_|refine condK_nb ?_ ?_)|refine condK_b ?_ ?_) <;> intro c2)
    · have hv4 : v ≤ 4 := by omega
      have hsucc := mvals_succ (m := M) (k := v - 1) (by omega)
      rw [show v - 1 + 1 = v by omega] at hsucc
      simp(maxSteps:=999999)(disch:=omega)only[go_sem,reduceAdd,reduceMul,reduceSub,reduceEqDiff,reduceLeDiff, hmn, shr_small (s := M) (v := (v : Int)) (by omega)]
      rw [and_bit (by omega)]
      ((first|(with_reducible first|refine condK_dec ?_ ?_|refine condK_ndec ?_ ?_|refine condK_nb ?_ ?_)|refine condK_b ?_ ?_) <;> intro hb)
      · rw [Int.toNat_natCast] at hb
        rw [if_pos hb] at hsucc
        simp(maxSteps:=999999)(disch:=omega)only[go_sem,reduceAdd,reduceMul,reduceSub,reduceEqDiff,reduceLeDiff]
        have hset : (vs'.set i (v : Int)).take (i + 1) = vs.take i ++ [(v : Int)] := by
          rw [take_succ_nth (by rw [List.length_set]; omega), List.take_set_of_le (Nat.le_refl _), htk, nth_setN _ _ _ _ (by omega), if_pos rfl]
        have hsl : (vs'.set i (v : Int)).length = os.length := by rw [List.length_set]; exact hvl'
        have hsv : ∀ w ∈ vs'.set i (v : Int), 0 ≤ w ∧ w ≤ 4 := fun w hw => by
          rcases List.mem_or_eq_of_mem_set hw with h | h
          · exact hv' w h
          · omega
        have hrec := ways_run r os g0 g1 g2 g3 g4 g5 g6 hos hob hk d (i + 1) o' (vs'.set i (v : Int)) (by omega) (by omega) hsl hob' hsv
        have e : int ((i + 1 : Nat) : Int) = int ((i : Int) + 1) := by push_cast; rfl
        rw [e, hset] at hrec
        refine OpS.runFn hrec (⟨_, Try.func77, rfl, rfl⟩ : Enters Try.prog 77) rfl (by show target _ (.c (.fn 77 [(1, g1), (0, g0), (5, g5), (3, g3), (6, g6)])) = _; simp [target, look]) rfl ?_
        rintro _ _ ⟨rfl, vs2, l2, t2, b2, rfl⟩
        unfold wayH
        simp(maxSteps:=999999)(disch:=omega)only[go_sem,reduceAdd,reduceMul,reduceSub,reduceEqDiff,reduceLeDiff]
        refine ⟨v + 1, _, vs2, ⟨⟨⟨by omega, by omega⟩, ?_, l2, ?_, b2⟩, by omega⟩, by push_cast; omega, HLe.refl _⟩
        · rw [show v + 1 - 1 = v by omega, hsucc, List.foldl_append, ← ho']; rfl
        · have := congrArg (List.take i) t2
          rw [List.take_take, Nat.min_eq_left (by omega)] at this
          rw [this, List.take_append_of_le_length (by rw [htl]; exact Nat.le_refl _), List.take_take, Nat.min_self]
      · rw [Int.toNat_natCast] at hb
        rw [if_neg (by rw [hb]; simp), List.append_nil] at hsucc
        simp(maxSteps:=999999)(disch:=omega)only[go_sem,reduceAdd,reduceMul,reduceSub,reduceEqDiff,reduceLeDiff]
        refine ⟨v + 1, o', vs', ⟨⟨⟨by omega, by omega⟩, by rw [show v + 1 - 1 = v by omega, hsucc]; exact ho', hvl', htk, hv'⟩, by omega⟩, by push_cast; omega, HLe.refl _⟩
    · have hve : v = 5 := by omega
      simp(maxSteps:=999999)(disch:=omega)only[go_sem,reduceAdd,reduceMul,reduceSub,reduceEqDiff,reduceLeDiff]
      refine ⟨_, HLe.refl _, rfl, vs', hvl', htk, hv', ?_⟩
      rw [hdr, ways_cons, ho', hve]
theorem ruleMasks_own (r : Rul) (os : List Nat) (hos : os.length ≤ 4) (hob : ∀ m ∈ os, m < 32) (hk : r.kind = 1 ∨ r.kind = 2 ∨ r.kind = 3 ∨ (r.kind = 4 ∨ r.kind = 5) ∧ 2 ≤ os.length) :
    RunCall Try.prog 66 [aR r, ints (nats os)] [] (ownIQ (nats (ways r os [] (List.replicate os.length 0)))) := by
  have hnl : (nats os).length = os.length := nats_length os
  refine RunCall.cw (c := _) Try.func66 rfl (n := 18) Try.ntmps66 (rs := [.tmp 4]) rfl ?_
  simp only[List.length_cons,List.length_nil,reduceAdd,reduceSub,List.replicate,List.cons_append,List.nil_append]
  simp(maxSteps:=999999)(disch:=omega)only[go_sem,reduceAdd,reduceMul,reduceSub,reduceEqDiff,reduceLeDiff]
  intro g0 g2 g3 g4 g5 g1 g6
  simp(maxSteps:=999999)(disch:=omega)only[go_sem,reduceAdd,reduceMul,reduceSub,reduceEqDiff,reduceLeDiff, List.mapM_cons, List.mapM_nil, capOf, Option.bind_eq_bind, Option.pure_def, Option.bind_some]
  refine ⟨rfl, ?_⟩
  have hrun := ways_run r os g0 g2 g3 g4 g5 g1 g6 hos hob hk os.length 0 (List.replicate os.length 0) (List.replicate os.length 0) (by omega) (by simp) (by simp) (fun x hx => by rw [List.eq_of_mem_replicate hx]; omega) (fun x hx => by rw [List.eq_of_mem_replicate hx]; omega)
  unfold wayH at hrun
  rw [nats_zeros] at hrun
  rw [hnl]
  refine OpS.runFn hrun (⟨_, Try.func77, rfl, rfl⟩ : Enters Try.prog 77) rfl (by show target _ (.c (.fn 77 [(1, g2), (0, g0), (5, g1), (3, g4), (6, g6)])) = _; simp [target, look]) rfl ?_
  rintro _ _ ⟨rfl, vs', l', t', b', rfl⟩
  have hlen : (nats (ways r os [] (List.replicate os.length 0))).length = os.length := by
    rw [nats_length, ways_len _ _ _ _ (by simp)]
    simp
  rw [List.drop_zero, List.take_zero]
  simp(maxSteps:=999999)(disch:=omega)only[go_sem,reduceAdd,reduceMul,reduceSub,reduceEqDiff,reduceLeDiff]
  obtain ⟨H2, hH2⟩ : ∃ H2, H2 = wayH r os g0 g2 g3 g4 g5 g1 g6 77 (ways r os [] (List.replicate os.length 0)) vs' := ⟨_, rfl⟩
  have hown : OwnI H2 (.own 2 g3 0 os.length none) (nats (ways r os [] (List.replicate os.length 0))) [2] := by
    have := OwnI.o (H := H2) 2 g3 none (nats (ways r os [] (List.replicate os.length 0))) [] (by rw [List.append_nil, hH2]; unfold wayH; simp only [go_sem])
    rwa [hlen] at this
  unfold wayH at hH2
  rw [← hH2]
  exact ⟨keepH [2] H2, keepH_le _ _, _, [2], rfl, hown.same fun i hi => keepH_get hi (hown.lt i hi), scalH_keep hown.blk⟩
end Go.Lg

namespace Go.Lg
open Go.Proofs
def mAt (ms : List Nat) (k : Nat) : Nat := ms.getD k 0
theorem nth_nats (ms : List Nat) (k : Nat) : nth (nats ms) k = ((mAt ms k : Nat) : Int) := by
  unfold nth nats mAt
  rw [Int.toNat_natCast]
  simp only [List.getD, List.getElem?_map]
  by_cases h : k < ms.length
  · rw [List.getElem?_eq_getElem h]; rfl
  · rw [List.getElem?_eq_none (by omega)]; rfl
theorem nats_len (ms : List Nat) : (nats ms).length = ms.length := by simp [nats]
theorem nats_set (ms : List Nat) (k v : Nat) : (nats ms).set k ((v : Nat) : Int) = nats (ms.set k v) := by simp [nats, List.map_set]
theorem setRange_nats {b : List Nat} {k v : Nat} (h : k < b.length) : setRange (cl (eI .i64) (nats b)) (0 + ((k : Nat) : Int).toNat * 1) [CV.f (.int .i64 ((v : Nat) : Int))] = cl (eI .i64) (nats (b.set k v)) := by
  rw [Int.toNat_natCast, ← nats_set]
  exact setRange_cl (E := eI .i64) (n := 1) (by rw [nats_len]; exact h)
theorem nats_inj {a b : List Nat} : nats a = nats b ↔ a = b := by
  constructor
  · intro h
    exact (List.map_inj_right (fun x y h => by omega)).1 h
  · rintro rfl; rfl
theorem mAt_set {ms : List Nat} {k v i : Nat} (h : k < ms.length) : mAt (ms.set k v) i = if i = k then v else mAt ms i := by
  unfold mAt
  simp only [List.getD, List.getElem?_set]
  by_cases hi : k = i
  · subst hi; simp [h]
  · rw [if_neg hi, if_neg (Ne.symm hi)]
theorem mAt_over {ms : List Nat} {k : Nat} (h : ms.length ≤ k) : mAt ms k = 0 := by
  unfold mAt
  simp [List.getD, List.getElem?_eq_none h]
theorem mAt_mem {ms : List Nat} {k : Nat} (h : k < ms.length) : mAt ms k ∈ ms := by
  unfold mAt
  simp [List.getD, List.getElem?_eq_getElem h]
theorem mAt_ext {a b : List Nat} (hl : a.length = b.length) (h : ∀ k, k < a.length → mAt a k = mAt b k) : a = b := by
  refine List.ext_getElem hl fun i h1 h2 => ?_
  have := h i h1
  unfold mAt at this
  simpa [List.getD, List.getElem?_eq_getElem h1, List.getElem?_eq_getElem h2] using this
structure MsN (ms : List Nat) (n : Nat) : Prop where
  len : ms.length = n * n
  val : ∀ m ∈ ms, m ≤ 2 ^ (n + 1) - 2 ∧ m % 2 = 0
theorem MsN.at {ms : List Nat} {n : Nat} (h : MsN ms n) (k : Nat) : mAt ms k ≤ 2 ^ (n + 1) - 2 ∧ mAt ms k % 2 = 0 := by
  by_cases hk : k < ms.length
  · exact h.val _ (mAt_mem hk)
  · rw [mAt_over (by omega)]; exact ⟨Nat.zero_le _, rfl⟩
theorem pow_n {n : Nat} (hn : n = 2 ∨ n = 3 ∨ n = 4) : 8 ≤ 2 ^ (n + 1) ∧ 2 ^ (n + 1) ≤ 32 := by rcases hn with rfl | rfl | rfl <;> decide
theorem MsN.lt {ms : List Nat} {n : Nat} (hn : n = 2 ∨ n = 3 ∨ n = 4) (h : MsN ms n) (k : Nat) : mAt ms k ≤ 30 ∧ mAt ms k % 2 = 0 := by
  have := h.at k
  have := pow_n hn
  omega
theorem MsN.ok {ms : List Nat} {n : Nat} (h : MsN ms n) : MasksOk (nats ms) n := by
  refine ⟨by rw [nats_len]; exact h.len, fun k hk => ?_⟩
  have := h.at k
  rw [nth_nats]
  omega
theorem MsN.set {ms : List Nat} {n k v : Nat} (h : MsN ms n) (hv : v ≤ 2 ^ (n + 1) - 2 ∧ v % 2 = 0) : MsN (ms.set k v) n :=
  ⟨by rw [List.length_set]; exact h.len, fun m hm => by
    rcases List.mem_or_eq_of_mem_set hm with hm | rfl
    · exact h.val m hm
    · exact hv⟩
def onlyV (m : Nat) : Nat := if m = 2 then 1 else if m = 4 then 2 else if m = 8 then 3 else if m = 16 then 4 else 0
theorem onlyV_le (m : Nat) : onlyV m ≤ 4 := by
  unfold onlyV
  repeat' split
  all_goals omega
theorem mvals_only {m : Nat} (h : m ≤ 30 ∧ m % 2 = 0) : ((mvals m 4).length = 1 ↔ onlyV m ≠ 0) ∧ (onlyV m ≠ 0 → mvals m 4 = [(onlyV m : Int)] ∧ m = 2 ^ onlyV m) := by
  have key : ∀ k : Nat, k < 31 → ((mvals k 4).length = 1 ↔ onlyV k ≠ 0) ∨ k % 2 = 1 := by decide
  have key2 : ∀ k : Nat, k < 31 → onlyV k ≠ 0 → mvals k 4 = [(onlyV k : Int)] ∧ k = 2 ^ onlyV k := by decide
  exact ⟨(key m (by omega)).resolve_right (by omega), key2 m (by omega)⟩
def clr (o m : Nat) : Nat := o &&& (31 ^^^ m)
theorem clr_le (o m : Nat) : clr o m ≤ o := Nat.and_le_left
theorem clr_even {o m : Nat} (h : o % 2 = 0) : clr o m % 2 = 0 := by
  unfold clr
  have : (o &&& (31 ^^^ m)) % 2 = 0 := by
    have h1 : (o &&& (31 ^^^ m)).testBit 0 = false := by
      rw [Nat.testBit_and]
      have : o.testBit 0 = false := by simpa [Nat.testBit_zero] using h
      rw [this, Bool.false_and]
    rw [Nat.testBit_zero, decide_eq_false_iff_not] at h1
    omega
  exact this
theorem andNot_small {o m : Nat} (ho : o < 32) (hm : m < 32) : bitsI .andNot .i64 (o : Int) (m : Int) = ((clr o m : Nat) : Int) := by
  have key : ∀ a : Nat, a < 32 → ∀ b : Nat, b < 32 → bitsI .andNot .i64 (a : Int) (b : Int) = ((clr a b : Nat) : Int) := by decide +kernel
  exact key o ho m hm
theorem and_small {o v : Nat} (ho : o < 32) (hv : v ≤ 4) : bitsI .and .i64 (o : Int) ((2 ^ v : Nat) : Int) = ((clr o (31 ^^^ 2 ^ v) : Nat) : Int) := by
  have key : ∀ a : Nat, a < 32 → ∀ b : Nat, b < 5 → bitsI .and .i64 (a : Int) ((2 ^ b : Nat) : Int) = ((clr a (31 ^^^ 2 ^ b) : Nat) : Int) := by decide +kernel
  exact key o ho v (by omega)
theorem lt32_bit {o b : Nat} (ho : o < 32) (hb : 5 ≤ b) : o.testBit b = false := Nat.testBit_lt_two_pow (Nat.lt_of_lt_of_le ho (by have : (2 : Nat) ^ 5 ≤ 2 ^ b := Nat.pow_le_pow_right (by omega) hb; omega))
theorem clr_bit {o m b : Nat} (ho : o < 32) : (clr o m).testBit b = (o.testBit b && !m.testBit b) := by
  unfold clr
  rw [Nat.testBit_and, Nat.testBit_xor]
  by_cases hb : b < 5
  · have h31 : (31 : Nat).testBit b = true := by
      have : b = 0 ∨ b = 1 ∨ b = 2 ∨ b = 3 ∨ b = 4 := by omega
      rcases this with rfl | rfl | rfl | rfl | rfl <;> rfl
    rw [h31, Bool.true_xor]
  · rw [lt32_bit ho (by omega)]; rfl
def clrL (R : List (Nat × Nat)) (ms : List Nat) : List Nat := R.foldl (fun o q => o.set q.1 (clr (mAt o q.1) q.2)) ms
theorem clrL_app (R S : List (Nat × Nat)) (ms : List Nat) : clrL (R ++ S) ms = clrL S (clrL R ms) := by unfold clrL; rw [List.foldl_append]
theorem clrL_one (R : List (Nat × Nat)) (c m : Nat) (ms : List Nat) : clrL (R ++ [(c, m)]) ms = (clrL R ms).set c (clr (mAt (clrL R ms) c) m) := by rw [clrL_app]; rfl
theorem clrL_len (R : List (Nat × Nat)) : ∀ ms : List Nat, (clrL R ms).length = ms.length := by
  induction R with
  | nil => intro ms; rfl
  | cons q R ih => intro ms; show (clrL R _).length = _; rw [ih, List.length_set]
theorem clrL_ok {n : Nat} (R : List (Nat × Nat)) : ∀ {ms : List Nat}, MsN ms n → MsN (clrL R ms) n := by
  induction R with
  | nil => intro ms h; exact h
  | cons q R ih =>
    intro ms h
    refine ih (ms := ms.set q.1 _) (h.set ?_)
    have := h.at q.1
    have := clr_le (mAt ms q.1) q.2
    exact ⟨by omega, clr_even (h.at q.1).2⟩
theorem clrL_bit {R : List (Nat × Nat)} : ∀ {ms : List Nat}, (∀ k, mAt ms k < 32) → ∀ {c b : Nat}, c < ms.length → (mAt (clrL R ms) c).testBit b = ((mAt ms c).testBit b && R.all fun q => !(q.1 == c && q.2.testBit b)) := by
  induction R with
  | nil => intro ms _ c b _; simp [clrL]
  | cons q R ih =>
    intro ms h c b hc
    have hlt : ∀ k, mAt (ms.set q.1 (clr (mAt ms q.1) q.2)) k < 32 := fun k => by
      by_cases hq : q.1 < ms.length
      · rw [mAt_set hq]
        split
        · exact Nat.lt_of_le_of_lt (clr_le _ _) (h _)
        · exact h k
      · rw [List.set_eq_of_length_le (by omega)]; exact h k
    have e : clrL (q :: R) ms = clrL R (ms.set q.1 (clr (mAt ms q.1) q.2)) := rfl
    rw [e, ih hlt (by rw [List.length_set]; exact hc), List.all_cons]
    by_cases hq : q.1 = c
    · rw [mAt_set (by omega), if_pos hq.symm, ← hq, clr_bit (h _)]
      simp [Bool.and_assoc]
    · have : mAt (ms.set q.1 (clr (mAt ms q.1) q.2)) c = mAt ms c := by
        by_cases hq2 : q.1 < ms.length
        · rw [mAt_set hq2, if_neg (Ne.symm hq)]
        · rw [List.set_eq_of_length_le (by omega)]
      rw [this]
      have hb : (q.1 == c) = false := by simpa using hq
      rw [hb, Bool.false_and, Bool.not_false, Bool.true_and]
theorem clrL_ext {R S : List (Nat × Nat)} {ms : List Nat} (h : ∀ k, mAt ms k < 32) (hrs : ∀ q, q ∈ R ↔ q ∈ S) : clrL R ms = clrL S ms := by
  refine mAt_ext (by rw [clrL_len, clrL_len]) fun k hk => Nat.eq_of_testBit_eq fun b => ?_
  rw [clrL_len] at hk
  rw [clrL_bit h hk, clrL_bit h hk]
  congr 1
  rw [Bool.eq_iff_iff, List.all_eq_true, List.all_eq_true]
  exact ⟨fun hr q hq => hr q ((hrs q).2 hq), fun hr q hq => hr q ((hrs q).1 hq)⟩
theorem flat_succ {α : Type} (f : Nat → List α) (k : Nat) : (List.range (k + 1)).flatMap f = (List.range k).flatMap f ++ f k := by
  rw [List.range_succ, List.flatMap_append]
  simp
def sglI (ms : List Nat) (n i : Nat) (c : Nat) : List (Nat × Nat) := if c = i then [] else [(c, mAt ms i)]
def sglK (ms : List Nat) (n i k : Nat) : List (Nat × Nat) := sglI ms n i (i / n * n + k) ++ sglI ms n i (k * n + i % n)
def sglA (ms : List Nat) (n i : Nat) : List (Nat × Nat) := if onlyV (mAt ms i) = 0 then [] else (List.range n).flatMap (sglK ms n i)
def sglM (ms : List Nat) (n : Nat) : List Nat := clrL ((List.range (n * n)).flatMap (sglA ms n)) ms
def sglJ (ms : List Nat) (n i j : Nat) : List (Nat × Nat) := if j ≠ i ∧ (j / n = i / n ∨ j % n = i % n) then [(j, mAt ms i)] else []
def sglB (ms : List Nat) (n i : Nat) : List (Nat × Nat) := if onlyV (mAt ms i) = 0 then [] else (List.range (n * n)).flatMap (sglJ ms n i)
theorem sgl_cells {n : Nat} (hn : n = 2 ∨ n = 3 ∨ n = 4) {i : Nat} (hi : i < n * n) (j : Nat) : (∃ k : Nat, k < n ∧ (j = i / n * n + k ∨ j = k * n + i % n)) ↔ j < n * n ∧ (j / n = i / n ∨ j % n = i % n) := by
  constructor
  · rintro ⟨k, hk, rfl | rfl⟩
    · refine ⟨?_, .inl ?_⟩ <;> rcases hn with rfl | rfl | rfl <;> omega
    · refine ⟨?_, .inr ?_⟩ <;> rcases hn with rfl | rfl | rfl <;> omega
  · rintro ⟨hj, h | h⟩
    · refine ⟨j % n, Nat.mod_lt _ (by omega), .inl ?_⟩
      rcases hn with rfl | rfl | rfl <;> omega
    · refine ⟨j / n, by rw [Nat.div_lt_iff_lt_mul (by omega)]; exact hj, .inr ?_⟩
      rcases hn with rfl | rfl | rfl <;> omega
theorem sgl_mem {n : Nat} (hn : n = 2 ∨ n = 3 ∨ n = 4) (ms : List Nat) {i : Nat} (hi : i < n * n) (q : Nat × Nat) : q ∈ sglA ms n i ↔ q ∈ sglB ms n i := by
  unfold sglA sglB
  split
  · exact Iff.rfl
  have hc := sgl_cells hn hi
  have e1 : q ∈ (List.range n).flatMap (sglK ms n i) ↔ (q.1 ≠ i ∧ q.2 = mAt ms i) ∧ ∃ k : Nat, k < n ∧ (q.1 = i / n * n + k ∨ q.1 = k * n + i % n) := by
    rw [List.mem_flatMap]
    constructor
    · rintro ⟨k, hk, hq⟩
      have hk := List.mem_range.1 hk
      unfold sglK sglI at hq
      rcases List.mem_append.1 hq with hq | hq <;> split at hq
      · cases hq
      · rename_i h; have hq : q = (i / n * n + k, mAt ms i) := by simpa using hq
        subst hq; exact ⟨⟨h, rfl⟩, k, hk, .inl rfl⟩
      · cases hq
      · rename_i h; have hq : q = (k * n + i % n, mAt ms i) := by simpa using hq
        subst hq; exact ⟨⟨h, rfl⟩, k, hk, .inr rfl⟩
    · rintro ⟨⟨h1, h2⟩, k, hk, h3⟩
      refine ⟨k, List.mem_range.2 hk, ?_⟩
      obtain ⟨a, b⟩ := q
      simp only at h1 h2 h3
      subst h2
      unfold sglK sglI
      rcases h3 with h3 | h3
      · refine List.mem_append.2 (.inl ?_)
        rw [← h3, if_neg h1]; simp
      · refine List.mem_append.2 (.inr ?_)
        rw [← h3, if_neg h1]; simp
  have e2 : q ∈ (List.range (n * n)).flatMap (sglJ ms n i) ↔ (q.1 ≠ i ∧ q.2 = mAt ms i) ∧ q.1 < n * n ∧ (q.1 / n = i / n ∨ q.1 % n = i % n) := by
    rw [List.mem_flatMap]
    constructor
    · rintro ⟨j, hj, hq⟩
      have hj := List.mem_range.1 hj
      unfold sglJ at hq
      split at hq
      · rename_i h; have hq : q = (j, mAt ms i) := by simpa using hq
        subst hq; exact ⟨⟨h.1, rfl⟩, hj, h.2⟩
      · cases hq
    · rintro ⟨⟨h1, h2⟩, hj, h3⟩
      refine ⟨q.1, List.mem_range.2 hj, ?_⟩
      obtain ⟨a, b⟩ := q
      simp only at h1 h2 h3 hj ⊢
      subst h2
      unfold sglJ
      rw [if_pos ⟨h1, h3⟩]; simp
  rw [e1, e2, hc]
theorem sgl_same {n : Nat} (hn : n = 2 ∨ n = 3 ∨ n = 4) {ms : List Nat} (h : MsN ms n) : clrL ((List.range (n * n)).flatMap (sglB ms n)) ms = sglM ms n := by
  refine clrL_ext (fun k => by have := h.lt hn k; omega) fun q => ?_
  rw [List.mem_flatMap, List.mem_flatMap]
  constructor
  · rintro ⟨i, hi, hq⟩; exact ⟨i, hi, (sgl_mem hn ms (List.mem_range.1 hi) q).2 hq⟩
  · rintro ⟨i, hi, hq⟩; exact ⟨i, hi, (sgl_mem hn ms (List.mem_range.1 hi) q).1 hq⟩
end Go.Lg

namespace Go.Lg
open Go.Proofs
def filledAt (xs : List Int) : List Int := ((List.range xs.length).filter fun i : Nat => decide (0 < nth xs i)).map fun i : Nat => (i : Int)
def gameOk (g : Gam) : Prop := g.moves.Nodup ∧ (∀ c ∈ g.moves, c ∈ filledAt g.put) ∧ ∀ c ∈ filledAt g.put, c ∈ g.moves ∧ nth g.task.given c ≤ 0
instance (g : Gam) : Decidable (gameOk g) := by unfold gameOk; infer_instance
def eBo (b : Bool) : List FV := [.bool b]
instance : HSz eBo 1 := ⟨fun _ => rfl⟩
theorem eBo_0 (b : Bool) (d : FV) : (eBo b).getD 0 d = .bool b := rfl
theorem zerosBo (n : Nat) : zerosL (n * 1) [.f (.bool false)] = cl eBo (List.replicate n false) := by
  simp only [zerosL, Nat.mul_one, List.length_singleton, Nat.mod_one]
  induction n with
  | zero => rfl
  | succ n ih => rw [List.range_succ, List.map_append, ih, List.replicate_succ', cl_append]; rfl
theorem setBo {xs : List Bool} {e : Int} {v : Bool} (h : 0 ≤ e ∧ e < (xs.length : Int)) : setRange (cl eBo xs) (0 + e.toNat * 1) [.f (.bool v)] = cl eBo (xs.set e.toNat v) :=
  setRange_cl (E := eBo) (by omega)
attribute [go_sem] eBo_0 zerosBo setBo
end Go.Lg

namespace Go.Lg
open Go.Proofs
theorem OpS.nilOpen {P : Program} {o : Oper} {st : St} {K : KV} {t yt : TypeId} {x y : Operand} {ei : TI} (ho : o.op = .binOp .eql t x y yt) (ht : sliceOf P t = some ei)
    (hx : evO st.s x = .c (.f (.sl 0 []))) (hy : isNilV st.h (evO st.s y) = some true) (hk : ∀ b, K (.c (.f (.bool b))) st.h) : OpS P o st K := by
  intro w X a R next Q hn
  obtain ⟨ti, e, ht, hk', he⟩ := sliceOf_some ht
  obtain ⟨inf, d, z', h1, h2, h3, h4, h5, h6, h7⟩ := tinf_some ht
  rw [h5] at hk'; cases tk_slice hk'
  have e2 := nil_of_isNone hy (evO_sound R y)
  have hx' := evO_sound R x
  rw [hx] at hx'
  have : ∃ a0 c, a.eval x = .slice a0 0 c := by
    have hh := va_c hx'
    generalize a.eval x = xv at hh
    cases hh with
    | sl0 a cap => exact ⟨_, _, rfl⟩
    | sl n cs b o cap u hc hI hu hv => exact ⟨_, _, rfl⟩
  obtain ⟨a0, c, ex⟩ := this
  have hrun : (do eqGuard .eql t x y (a.eval x) (a.eval y); binOp .eql t (a.eval x) (a.eval y) : Sem Value).run P w = .ok (.bool a0.isNone) w := by
    rw [Sem.run_bind, run_eqGuard_plain (by rw [ex]), Result.andThen_ok, e2, ex]
    exact Lib.run_eql_slice_nil w t e _ _ _ _ _ h2
  have h1 : (execOp a.eval o).run P w = .ok (.value (.bool a0.isNone)) w := by
    simp only [execOp, ho]; rw [Sem.run_bind, hrun]; rfl
  unfold Oper.wp
  rw [h1, Oper.upon_value]
  exact hn (.c (.f (.bool a0.isNone))) _ X st.h w (.c _ _ (VF.bool _)) R.heap (Ev.refl _ _ _) (hk _)
theorem OpS.valNil {P : Program} {o : Oper} {st : St} {K : KV} (h : opV P st.s st.h o.op = some (.c (.f .nil))) (hk : K (.c (.f (.sl 0 []))) st.h) : OpS P o st K := by
  intro w X a R next Q hn
  obtain ⟨u, h1, h2⟩ := opV_sound (P := P) R h
  unfold Oper.wp
  rw [h1 w (Grow.refl w) o rfl, Oper.upon_value]
  have : VA w X st.h (.c (.f (.sl 0 []))) u := by
    have hh := va_c h2
    cases hh
    exact .c (.f (.sl 0 [])) _ (VF.sl0 none 0)
  exact hn _ u X st.h w this R.heap (Ev.refl _ _ _) hk
theorem RunCall.of_bodyN {P : Program} {f : FuncId} {fn : Func} {c : Code} {args : List AV} {H : Heap} {Q : AV → Heap → Prop} (hf : P.funcs[f]? = some fn) (hb : fn.body = some c) {n : Nat} (hn : fn.ntmps = n) {rs : List ResultVar} (hr : fn.results.toList = rs)
    (h : RunC P c ⟨args ++ List.replicate (n - args.length) .void, H⟩ fun e st' => (e = .normal ∨ e = .ret) ∧ ∃ v H', resV P st'.s st'.h rs = some v ∧ HLe st'.h H' ∧ Q v H') : RunCall P f args H Q := by
  subst hn hr
  exact RunCall.of_body hf hb h
theorem sliceOf_of {P : Program} {t e : TypeId} {ti ei : TI} (ht : tinf P t = some ti) (hk : ti.k = .slice e) (he : tinf P e = some ei) : sliceOf P t = some ei := by
  unfold sliceOf; simp only [ht, hk, he]
theorem binA_ne {P : Program} {H : Heap} {t e : TypeId} {ti : TI} {n : Nat} {cs : List FV} (ht : tinf P t = some ti) (hk : ti.k = .slice e) (hn : 0 < n) : binA P H .eql t (.c (.f (.sl n cs))) (.c (.f .nil)) = some (.c (.f (.bool false))) := by
  unfold binA
  simp only [ht, hk, isNilV, if_neg (show ¬ n = 0 by omega)]
  rfl
theorem Clone_ne (xs : List Int) (hx : xs.length ≤ 2 ^ 40) (h0 : xs ≠ []) : RunCall Try.prog 38 [ints xs] [] (ownIQ xs) := by
  have hp : 0 < xs.length := List.length_pos_iff.2 h0
  refine RunCall.cw (c := _) Try.func38 rfl (n := 8) Try.ntmps38 (rs := [.tmp 2]) rfl ?_
  simp only[List.length_cons,List.length_nil,reduceAdd,reduceSub,List.replicate,List.cons_append,List.nil_append]
  simp(maxSteps:=999999)(disch:=omega)only[go_sem,reduceAdd,reduceMul,reduceSub,reduceEqDiff,reduceLeDiff, binA_ne ti23 rfl hp]
  intro g g'
  rw [Nat.zero_add]
  exact ⟨_, HLe.refl _, _, _, rfl, .o 0 g' none xs [] (by rw [List.append_nil]; exact look_of (b := ⟨g', 1, cl (eI .i64) xs⟩) rfl), scalH_ints (fun id b hb => by simp at hb)⟩
theorem Clone_e : RunCall Try.prog 38 [ints []] [] (ownIQ []) := by
  refine RunCall.of_bodyN (c := _) rfl rfl (n := 8) rfl (rs := [.tmp 2]) rfl ?_
  refine RunC.seq (RunC.region (OpS.val (v := .c (.f .nil)) rfl ?_))
  refine RunC.seq (RunC.seq (RunC.region (OpS.val (v := ints []) rfl (OpS.nilOpen rfl (sliceOf_of ti23 rfl ti3) rfl rfl fun b => ?_))))
  refine RunC.cond (b := b) rfl (fun hb => ?_) (fun hb => ?_)
  · refine RunC.seq (RunC.region (OpS.valNil rfl ?_))
    refine RunC.ret ?_
    exact ⟨.inr rfl, _, _, rfl, HLe.refl _, _, _, rfl, .e, fun id b hb => by simp at hb⟩
  · refine RunC.skip ?_
    refine (cw_sound _ _ _ (doneK Try.prog [.tmp 2] (ownIQ [])) ?_).mono fun e st ⟨h1, v, h2, H', h3, h4⟩ => ⟨h1, v, H', h2, h3, h4⟩
    simp only[List.length_cons,List.length_nil,reduceAdd,reduceSub,List.replicate,List.cons_append,List.nil_append]
    simp(maxSteps:=999999)(disch:=omega)only[go_sem,reduceAdd,reduceMul,reduceSub,reduceEqDiff,reduceLeDiff]
    intro g
    show lessQ [some ⟨g, 1, []⟩] (ownIQ []) (.c (.own 0 g 0 0 none))
    exact ⟨_, HLe.refl _, _, _, rfl, .o 0 g none [] [] (look_of (b := ⟨g, 1, []⟩) rfl), scalH_ints (xs := []) (fun id b hb => by simp at hb)⟩
theorem Clone_own (xs : List Int) (hx : xs.length ≤ 2 ^ 40) : RunCall Try.prog 38 [ints xs] [] (ownIQ xs) := by
  by_cases h : xs = []
  · subst h; exact Clone_e
  · exact Clone_ne xs hx h
end Go.Lg
