/- GpTI, GpTJ, GpM, GpFF, GpTK, cut to what is needed. -/
import Derived.Test.YtcopagjhklcokaaSde2
import Derived.Test.YtcopagjhklcokaaSdc6
import Derived.Test.YtcopagjhklcokaaSdb4
import Derived.Test.YtcopagjhklcokaaSdb3
import Derived.Test.YtcopagjhklcokaaSdd6
import Derived.Test.YtcopagjhklcokaaSdb9
open Nat(reduceAdd reduceMul reduceSub reduceEqDiff reduceLeDiff)
set_option linter.unusedSimpArgs false
set_option linter.unusedVariables false
set_option maxRecDepth 100000
namespace Go.Lg
open Go.Proofs
attribute [-go_sem] appendM
def makeB (p : Puz) : Bool := puzzleValid p && decide ((mkF p 201 (startM p) []).length ≤ 200)
def makeL (p : Puz) : List Brn := if makeB p = true then mkF p 201 (startM p) [] else []
theorem makeL_len (p : Puz) : (makeL p).length ≤ 200 := by
  unfold makeL
  split
  · rename_i h
    simp only [makeB, Bool.and_eq_true, decide_eq_true_eq] at h
    exact h.2
  · simp
def mprQ (p : Puz) : KV := fun v H => ∃ c, v = .tup [.c c, bool (makeB p)] ∧ OwnL eB 2 H c (makeL p) ∧ scalH H ∧ c ≠ .emp
theorem OwnL.ofLook {H : Heap} {id g : Nat} {xs : List Brn} {k : Nat} (h : look H id g = some ⟨g, 2, cl eB xs⟩) (hk : xs.length = k) : OwnL eB 2 H (.own id g 0 k none) xs := by
  subst hk
  exact .o id g xs h
theorem lessQ_mpr {H : Heap} {c : CV} {p : Puz} {b : Bool} {L : List Brn} (e1 : makeB p = b) (e2 : makeL p = L) (h : OwnL eB 2 H c L) (hc : c ≠ .emp := by intro h; cases h) : lessQ H (mprQ p) (.tup [.c c, bool b]) := by
  subst e1
  subst e2
  generalize hL : makeL p = L at h
  cases h with
  | n => exact ⟨[], hle_nil _, _, rfl, by rw [hL]; exact .n, fun id b hb => by simp at hb, hc⟩
  | m => exact absurd rfl hc
  | o id g xs h =>
    have hlt : id < H.length := (List.getElem?_eq_some_iff.1 (look_some h).1).1
    refine ⟨keepH [id] H, keepH_le _ _, _, rfl, ?_, scalH_keep fun i hi b hb c hc => ?_, hc⟩
    · rw [hL]
      refine OwnL.ofLook ?_ rfl
      unfold look at h ⊢
      rw [keepH_get (by simp) hlt]
      exact h
    · have : i = id := by simpa using hi
      subst this
      rw [(look_some h).1] at hb
      cases hb
      obtain ⟨x, hx, rfl⟩ := List.mem_map.1 hc
      obtain ⟨y, _, hy⟩ := List.mem_flatMap.1 hx
      have hy : x ∈ [FV.int .i64 y.tech, FV.int .i64 y.cell] := hy
      simp only [List.mem_cons, List.not_mem_nil, or_false] at hy
      rcases hy with rfl | rfl <;> rfl
set_option maxHeartbeats 4000000 in
theorem sMakeProof_own (p : Puz) (hx : smP p) : RunCall Try.prog 41 [aP p] [] (mprQ p) := by
  refine RunCall.cw (c := _) Try.func41 rfl (n := 19) Try.ntmps41 (rs := [.tmp 2, .tmp 3]) rfl ?_
  simp only[List.length_cons,List.length_nil,reduceAdd,reduceSub,List.replicate,List.cons_append,List.nil_append]
  simp(maxSteps:=999999)(disch:=omega)only[go_sem,reduceAdd,reduceMul,reduceSub,reduceEqDiff,reduceLeDiff]
  intro g g2 g3
  first | refine OpS.rd (sPuzzleValid_run p hx) (⟨_, Try.func25, rfl, rfl⟩ : Enters Try.prog 25) rfl rfl rfl rfl ?_ | refine Loud.rd (sPuzzleValid_run p hx) (⟨_, Try.func25, rfl, rfl⟩ : Enters Try.prog 25) rfl rfl rfl rfl ?_
  simp(maxSteps:=999999)(disch:=omega)only[go_sem,reduceAdd,reduceMul,reduceSub,reduceEqDiff,reduceLeDiff]
  cases hv : puzzleValid p with
  | false =>
    have e1 : makeB p = false := by unfold makeB; rw [hv]; rfl
    have e2 : makeL p = [] := by unfold makeL; rw [e1]; rfl
    ((first|(with_reducible first|refine condK_dec ?_ ?_|refine condK_ndec ?_ ?_|refine condK_nb ?_ ?_)|refine condK_b ?_ ?_) <;> intro c0)
    · cases c0
    simp(maxSteps:=999999)(disch:=omega)only[go_sem,reduceAdd,reduceMul,reduceSub,reduceEqDiff,reduceLeDiff]
    exact lessQ_mpr e1 e2 (OwnL.ofLook (H := [some ⟨g, 1, cP p⟩, some ⟨g2, 2, cl eB []⟩, some ⟨g3, 1, [.own 1 g2 0 0 none]⟩]) (look_of (b := ⟨g2, 2, cl eB []⟩) rfl) rfl)
  | true =>
    obtain ⟨hp, hg⟩ := puz_factsT hv
    have hlen := mkF_len p 201 (startM p) [] (by simp)
    have hcl := l20Make_run hp hv 201 (startM p) [] [some ⟨g, 1, cP p⟩, some ⟨g2, 2, cl eB []⟩, some ⟨g3, 1, [.own 1 g2 0 0 none]⟩] 1 2 g2 g3 (startM_ok hp hg) (by simp) (by simp) (look_of (b := ⟨g2, 2, cl eB []⟩) rfl) (look_of (b := ⟨g3, 1, [.own 1 g2 0 0 none]⟩) rfl) (by omega)
    ((first|(with_reducible first|refine condK_dec ?_ ?_|refine condK_ndec ?_ ?_|refine condK_nb ?_ ?_)|refine condK_b ?_ ?_) <;> intro c0)
    rotate_left
    · cases c0
    simp(maxSteps:=999999)(disch:=omega)only[go_sem,reduceAdd,reduceMul,reduceSub,reduceEqDiff,reduceLeDiff]
    refine drawP_lF [0, 1, 2] [] none [3] [] foll (by kernel_rfl) ?_
    simp(maxSteps:=999999)(disch:=omega)only[go_sem,Nat.reduceBEq,Bool.true_or,reduceAdd,reduceMul,reduceSub,reduceEqDiff,reduceLeDiff]
    first | refine OpS.mk (sStartMasks_run hp hv hg) (⟨_, Try.func77, rfl, rfl⟩ : Enters Try.prog 77) rfl rfl rfl rfl rfl ?_ | refine Loud.mk (sStartMasks_run hp hv hg) (⟨_, Try.func77, rfl, rfl⟩ : Enters Try.prog 77) rfl rfl rfl rfl rfl ?_
    simp(maxSteps:=999999)(disch:=omega)only[go_sem,reduceAdd,reduceMul,reduceSub,reduceEqDiff,reduceLeDiff]
    refine OpS.run hcl (⟨_, Try.func89, rfl, rfl⟩ : Enters Try.prog 89) rfl rfl ?_
    rintro _ H' ⟨rfl, g', h1, h2, h3⟩
    obtain ⟨R, hR⟩ : ∃ R, R = mkF p 201 (startM p) [] := ⟨_, rfl⟩
    rw [← hR] at h1 h2 hlen
    have hB : makeB p = decide (R.length ≤ 200) := by unfold makeB; rw [hv, Bool.true_and, hR]
    simp(maxSteps:=999999)(disch:=omega)only[go_sem,reduceAdd,reduceMul,reduceSub,reduceEqDiff,reduceLeDiff, h1, h2]
    ((first|(with_reducible first|refine condK_dec ?_ ?_|refine condK_ndec ?_ ?_|refine condK_nb ?_ ?_)|refine condK_b ?_ ?_) <;> intro c1)
    · have e1 : makeB p = false := by rw [hB]; exact decide_eq_false (by omega)
      have e2 : makeL p = [] := by unfold makeL; rw [e1]; rfl
      simp(maxSteps:=999999)(disch:=omega)only[go_sem,reduceAdd,reduceMul,reduceSub,reduceEqDiff,reduceLeDiff]
      intro g9
      exact lessQ_mpr e1 e2 (OwnL.ofLook (xs := []) look_last rfl)
    · have e1 : makeB p = true := by rw [hB]; exact decide_eq_true (by omega)
      have e2 : makeL p = R := by unfold makeL; rw [e1, hR]; rfl
      simp(maxSteps:=999999)(disch:=omega)only[go_sem,reduceAdd,reduceMul,reduceSub,reduceEqDiff,reduceLeDiff, h2]
      exact lessQ_mpr e1 e2 (OwnL.ofLook h1 rfl)
end Go.Lg

namespace Go.Lg
open Go.Proofs
instance : HSzK cB 2 := ⟨fun _ => rfl⟩
end Go.Lg

namespace Go.Lg
open Go.Proofs
def RO.setV (o : RO) (k : Int) : RO := { o with r := { o.r with val := k } }
end Go.Lg

namespace Go.Lg
open Go.Proofs
def countV (p : Puz) (most : Int) : Int := if puzzleValid p = true ∧ 1 ≤ most ∧ most ≤ 600 then (allS p most.toNat).length else -1
theorem CountSolutions_run (p : Puz) (most : Int) (hx : smP p) : Reads Try.prog 19 [aP p, int most] (int (countV p most)) := by
  refine RunCall.cw (c := _) Try.func19 rfl (n := 22) Try.ntmps19 (rs := [.tmp 4]) rfl ?_
  simp only[List.length_cons,List.length_nil,reduceAdd,reduceSub,List.replicate,List.cons_append,List.nil_append]
  simp(maxSteps:=999999)(disch:=omega)only[go_sem,reduceAdd,reduceMul,reduceSub,reduceEqDiff,reduceLeDiff]
  intro g
  first | refine OpS.rd (PuzzleValid_run p hx) (⟨_, Try.func66, rfl, rfl⟩ : Enters Try.prog 66) rfl rfl rfl rfl ?_ | refine Loud.rd (PuzzleValid_run p hx) (⟨_, Try.func66, rfl, rfl⟩ : Enters Try.prog 66) rfl rfl rfl rfl ?_
  simp(maxSteps:=999999)(disch:=omega)only[go_sem,reduceAdd,reduceMul,reduceSub,reduceEqDiff,reduceLeDiff]
  ((with_reducible first|refine guardK_dec ?_ ?_|refine guardK_ndec ?_ ?_|refine guardK_nb ?_ ?_|refine guardK_split ?_ ?_|refine guardQ_dec ?_ ?_|refine guardL_dec ?_ ?_|refine guardQ_ndec ?_ ?_|refine guardL_ndec ?_ ?_|refine guardQ_nb ?_ ?_|refine guardL_nb ?_ ?_|refine guardQ_split ?_ ?_|refine guardL_split ?_ ?_) <;> intro h1 <;> simp(maxSteps:=999999)(disch:=omega)only[go_sem,reduceAdd,reduceMul,reduceSub,reduceEqDiff,reduceLeDiff, h1])
  rotate_left
  · unfold countV
    rw [if_neg (fun h => by rw [h.1] at h1; cases h1)]
  ((with_reducible first|refine guardK_dec ?_ ?_|refine guardK_ndec ?_ ?_|refine guardK_nb ?_ ?_|refine guardK_split ?_ ?_|refine guardQ_dec ?_ ?_|refine guardL_dec ?_ ?_|refine guardQ_ndec ?_ ?_|refine guardL_ndec ?_ ?_|refine guardQ_nb ?_ ?_|refine guardL_nb ?_ ?_|refine guardQ_split ?_ ?_|refine guardL_split ?_ ?_) <;> intro h2 <;> simp(maxSteps:=999999)(disch:=omega)only[go_sem,reduceAdd,reduceMul,reduceSub,reduceEqDiff,reduceLeDiff, h2])
  · unfold countV
    rw [if_neg (by omega)]
  ((first|(with_reducible first|refine condK_dec ?_ ?_|refine condK_ndec ?_ ?_|refine condK_nb ?_ ?_)|refine condK_b ?_ ?_) <;> intro h3)
  · simp(maxSteps:=999999)(disch:=omega)only[go_sem,reduceAdd,reduceMul,reduceSub,reduceEqDiff,reduceLeDiff]
    unfold countV
    rw [if_neg (by omega)]
  obtain ⟨k, rfl⟩ : ∃ k : Nat, most = k := ⟨most.toNat, by omega⟩
  simp(maxSteps:=999999)(disch:=omega)only[go_sem,reduceAdd,reduceMul,reduceSub,reduceEqDiff,reduceLeDiff]
  first | refine OpS.mk (first_all h1 k (by omega)) (⟨_, Try.func67, rfl, rfl⟩ : Enters Try.prog 67) rfl rfl rfl rfl rfl ?_ | refine Loud.mk (first_all h1 k (by omega)) (⟨_, Try.func67, rfl, rfl⟩ : Enters Try.prog 67) rfl rfl rfl rfl rfl ?_
  simp(maxSteps:=999999)(disch:=omega)only[go_sem,reduceAdd,reduceMul,reduceSub,reduceEqDiff,reduceLeDiff]
  unfold countV
  rw [if_pos ⟨h1, by omega, by omega⟩, Int.toNat_natCast]
end Go.Lg

namespace Go.Lg
open Go.Proofs
theorem OpS.mkMpr {P : Program} {o : Oper} {st : St} {K : KV} {fo : Operand} {ws : Array Operand} {ts : Array TypeId} {f : FuncId} {args args' : List AV} {p : Puz} (hc : RunCall P f args' [] (mprQ p)) (he : Enters P f) (ho : o.op = .call ⟨.value fo, ws, ts⟩) (ha : callArgs st fo ws = some (f, args)) (hs : args.mapM (snapD st.h) = some args')
    (hk : ∀ c H', OwnL eB 2 (st.h ++ H') c (makeL p) → (∀ i, idsC c i → st.h.length ≤ i ∧ i < st.h.length + H'.length) → c ≠ .emp → K (.tup [.c c, bool (makeB p)]) (st.h ++ H')) : OpS P o st K :=
  OpS.mkD hc he ho ha hs fun r H' ⟨c, h1, h2, h3, h4⟩ => by
    subst h1
    have hlt := h2.lt
    generalize hL : makeL p = L at h2 hk
    cases h2 with
    | n => exact ⟨⟨rfl, rfl, h3⟩, hk (.f .nil) _ .n (fun i h => h.elim) h4⟩
    | m => exact absurd rfl h4
    | o id g xs h =>
      refine ⟨⟨rfl, rfl, h3⟩, hk (.own (id + st.h.length) g 0 _ none) _ (OwnL.ofLook ?_ rfl) (fun i hi => ?_) (by intro h; cases h)⟩
      · rw [look_shiftH h]
        simp only [shiftB, shift_cl]
      · have hi : i = id + st.h.length := hi
        have := hlt id rfl
        rw [shiftH_length]
        omega
end Go.Lg
