/- GpFF, GpTK, cut to what is needed. -/
import Derived.Test.YtcopagjhklcokaaRfd0
import Derived.Test.YtcopagjhklcokaaRfd1
import Derived.Test.YtcopagjhklcokaaRfc0
import Derived.Test.YtcopagjhklcokaaRfd5
import Derived.Test.YtcopagjhklcokaaRfb8
open Nat(reduceAdd reduceMul reduceSub reduceEqDiff reduceLeDiff)
set_option linter.unusedSimpArgs false
set_option linter.unusedVariables false
set_option maxRecDepth 100000
namespace Go.Lg
open Go.Proofs
theorem wMP_small (p : Puz) : wMP p ≤ 2 * wP p := by
  have := wM_le p.rules
  unfold wMP wP
  omega
end Go.Lg

set_option linter.unusedSimpArgs false
set_option linter.unusedVariables false
set_option maxRecDepth 100000
namespace Go.Lg
open Go.Proofs
theorem mprQ_rd {P : Program} {f : FuncId} {args : List AV} {p : Puz} (h : RunCall P f args [] (mprQ p)) : Reads P f args (.tup [rsl eB (makeL p), bool (makeB p)]) :=
  Reads.ice h fun r H ⟨c, h1, h2, _⟩ => by
    subst h1
    have e : frzC H (.f (.bool (makeB p))) = some (.f (.bool (makeB p))) := rfl
    show (([_, _] : List AV).mapM (frz1 H)).map AV.tup = _
    simp only [List.mapM_cons, List.mapM_nil, frz1, h2.frzC, e, Option.bind_eq_bind, Option.pure_def, Option.bind_some, Option.map_some]
theorem OpS.mkMpr {P : Program} {o : Oper} {st : St} {K : KV} {fo : Operand} {ws : Array Operand} {ts : Array TypeId} {f : FuncId} {args args' : List AV} {p : Puz} (hc : RunCall P f args' [] (mprQ p)) (he : Enters P f) (ho : o.op = .call ⟨.value fo, ws, ts⟩) (ha : callArgs st fo ws = some (f, args)) (hs : args.mapM (snapD st.h) = some args')
    (hk : ∀ c H', OwnL eB 2 (st.h ++ H') c (makeL p) → (∀ i, idsC c i → st.h.length ≤ i ∧ i < st.h.length + H'.length) → K (.tup [.c c, bool (makeB p)]) (st.h ++ H')) : OpS P o st K :=
  OpS.mkD hc he ho ha hs fun r H' ⟨c, h1, h2, h3⟩ => by
    subst h1
    have hlt := h2.lt
    generalize hL : makeL p = L at h2 hk
    cases h2 with
    | n => exact ⟨⟨rfl, rfl, h3⟩, hk (.f .nil) _ .n fun i h => h.elim⟩
    | m => exact ⟨⟨rfl, rfl, h3⟩, hk .emp _ .m fun i h => h.elim⟩
    | o id g xs h =>
      refine ⟨⟨rfl, rfl, h3⟩, hk (.own (id + st.h.length) g 0 _ none) _ (OwnL.ofLook ?_ rfl) fun i hi => ?_⟩
      · rw [look_shiftH h]
        simp only [shiftB, shift_cl]
      · have hi : i = id + st.h.length := hi
        have := hlt id rfl
        rw [shiftH_length]
        omega
set_option maxHeartbeats 4000000 in
theorem law_MakeProof (p : Puz) (h1 : okP' p) : Reads Try.prog 8 [aP p] (bool true) := by
  refine RunCall.cw (c := _) Try.func8 rfl (n := 96) Try.ntmps8 (rs := [.tmp 2]) rfl ?_
  simp only [List.length_cons, List.length_nil, Nat.reduceAdd, Nat.reduceSub, List.replicate, List.cons_append, List.nil_append]
  simp(maxSteps:=999999)(disch:=omega)only[go_sem,reduceAdd,reduceMul,reduceSub,reduceEqDiff,reduceLeDiff]
  intro g
  first | refine OpS.rd (szPuzzle_run p 1048576 (by omega) h1) (⟨_, Try.func28, rfl, rfl⟩ : Enters Try.prog 28) rfl rfl rfl rfl ?_ | refine Loud.rd (szPuzzle_run p 1048576 (by omega) h1) (⟨_, Try.func28, rfl, rfl⟩ : Enters Try.prog 28) rfl rfl rfl rfl ?_
  simp(maxSteps:=999999)(disch:=omega)only[go_sem,reduceAdd,reduceMul,reduceSub,reduceEqDiff,reduceLeDiff]
  have hb := szI_le (n := wP p) (left := 1048576) (by omega)
  ((first | with_reducible refine condK_dec ?_ ?_ | with_reducible refine condK_ndec ?_ ?_ | with_reducible refine condK_nb ?_ ?_ | refine condK_b ?_ ?_) <;> intro h)
  · simp(maxSteps:=999999)(disch:=omega)only[go_sem,reduceAdd,reduceMul,reduceSub,reduceEqDiff,reduceLeDiff]
  obtain ⟨hw, hw2⟩ := szI_ok h
  have hs := smP_of (p := p) (n := 1048576) (by omega) (by omega)
  have hwm := wMP_small p
  have hgl : (makeL p).length ≤ 200 := makeL_len p
  have hspec := mprQ_rd (sMakeProof_own p hs)
  have himpl := MakeProof_own p hs
  simp(maxSteps:=999999)(disch:=omega)only[go_sem,reduceAdd,reduceMul,reduceSub,reduceEqDiff,reduceLeDiff]
  first | refine OpS.mk (toPuzzle_run p hs) (⟨_, Try.func30, rfl, rfl⟩ : Enters Try.prog 30) rfl rfl rfl rfl rfl ?_ | refine Loud.mk (toPuzzle_run p hs) (⟨_, Try.func30, rfl, rfl⟩ : Enters Try.prog 30) rfl rfl rfl rfl rfl ?_
  simp(maxSteps:=999999)(disch:=omega)only[go_sem,reduceAdd,reduceMul,reduceSub,reduceEqDiff,reduceLeDiff]
  first | refine OpS.mk (hspec) (⟨_, Try.func41, rfl, rfl⟩ : Enters Try.prog 41) rfl rfl rfl rfl rfl ?_ | refine Loud.mk (hspec) (⟨_, Try.func41, rfl, rfl⟩ : Enters Try.prog 41) rfl rfl rfl rfl rfl ?_
  simp(maxSteps:=999999)(disch:=omega)only[go_sem,reduceAdd,reduceMul,reduceSub,reduceEqDiff,reduceLeDiff]
  refine OpS.mkP (toPuzzle_deep p hs) (⟨_, Try.func30, rfl, rfl⟩ : Enters Try.prog 30) rfl rfl rfl ?_
  intro cs H1 S1 hP1 hS1
  simp only [List.length_cons, List.length_nil] at hS1
  obtain ⟨c1, c2, T1, T2, rfl, eS, k1, k2⟩ := hP1.ex
  simp(maxSteps:=999999)(disch:=omega)only[go_sem,reduceAdd,reduceMul,reduceSub,reduceEqDiff,reduceLeDiff, look_last, set_last]
  intro g2
  have hP2 := hP1.app (H' := [some ⟨g2, 3, [.f (.int .i64 p.size), c1, c2]⟩])
  obtain ⟨HA, hHA⟩ : ∃ HA : Heap, HA = some ⟨g, 1, cP p⟩ :: (H1 ++ [some ⟨g2, 3, [.f (.int .i64 p.size), c1, c2]⟩]) := ⟨_, rfl⟩
  have hA0 : look HA 0 g = some ⟨g, 1, cP p⟩ := by rw [hHA]; exact look_zero
  have hA1 : look HA (H1.length + 1) g2 = some ⟨g2, 3, [.f (.int .i64 p.size), c1, c2]⟩ := by
    rw [hHA, look_succ]
    exact look_last
  have hAl : HA.length = H1.length + 2 := by rw [hHA]; simp
  have hPA : OwnP HA [.f (.int .i64 p.size), c1, c2] p S1 := by rw [hHA]; exact hP2
  rw [← hHA]
  clear hHA hP2 hP1
  refine OpS.mkMpr himpl (⟨_, Try.func42, rfl, rfl⟩ : Enters Try.prog 42) rfl rfl (snap_one hPA.snap) ?_
  intro c H3 hI1 hS3
  have hS3 : ∀ i, idsC c i → HA.length ≤ i ∧ i < HA.length + H3.length := hS3
  obtain ⟨HB, hHB⟩ : ∃ HB : Heap, HB = HA ++ H3 := ⟨_, rfl⟩
  have hB0 : look HB 0 g = some ⟨g, 1, cP p⟩ := by rw [hHB]; exact look_appL hA0
  have hB1 : look HB (H1.length + 1) g2 = some ⟨g2, 3, [.f (.int .i64 p.size), c1, c2]⟩ := by rw [hHB]; exact look_appL hA1
  have hPB : OwnP HB [.f (.int .i64 p.size), c1, c2] p S1 := by rw [hHB]; exact hPA.app
  have hIB : OwnL eB 2 HB c (makeL p) := by rw [hHB]; exact hI1
  simp(maxSteps:=999999)(disch:=omega)only[go_sem,reduceAdd,reduceMul,reduceSub,reduceEqDiff,reduceLeDiff]
  rw [← hHB]
  clear hHB hI1
  obtain ⟨B, hBB⟩ : ∃ B, B = makeB p := ⟨_, rfl⟩
  obtain ⟨L, hLL⟩ : ∃ L, L = makeL p := ⟨_, rfl⟩
  have hbb : decide (B = B) = true := decide_eq_true rfl
  have himplF := mprQ_rd himpl
  rw [← hBB] at himplF ⊢
  rw [← hLL] at himplF hIB hgl ⊢
  refine OpS.rdD (eqBranchS_run L L (by omega)) (⟨_, Try.func43, rfl, rfl⟩ : Enters Try.prog 43) rfl rfl (snap_two hIB.snap rfl) rfl ?_
  simp(maxSteps:=999999)(disch:=omega)only[go_sem,reduceAdd,reduceMul,reduceSub,reduceEqDiff,reduceLeDiff, hbb]
  refine drawP_lF [0, 1, 2] [] none [3, 4] [] foll (by kernel_rfl) ?_
  simp (maxSteps := 1000000) (disch := omega) only [go_sem, Nat.reduceBEq, Bool.true_or, Nat.reduceAdd, Nat.reduceMul, Nat.reduceSub, Nat.reduceEqDiff, Nat.reduceLeDiff]
  simp(maxSteps:=999999)(disch:=omega)only[go_sem,reduceAdd,reduceMul,reduceSub,reduceEqDiff,reduceLeDiff, hB1, hB0]
  refine Loud.mk (toPuzzle_run p hs) (⟨_, Try.func30, rfl, rfl⟩ : Enters Try.prog 30) rfl rfl rfl rfl rfl ?_
  simp(maxSteps:=999999)(disch:=omega)only[go_sem,reduceAdd,reduceMul,reduceSub,reduceEqDiff,reduceLeDiff]
  refine OpS.rdD (eqPuzzle_run p p hs) (⟨_, Try.func34, rfl, rfl⟩ : Enters Try.prog 34) rfl rfl (snap_two hPB.snap snapD_aP) rfl ?_
  simp(maxSteps:=999999)(disch:=omega)only[go_sem,reduceAdd,reduceMul,reduceSub,reduceEqDiff,reduceLeDiff, hB1]
  refine OpS.run (markPuzzle_deep _ _ p S1 1 hPB (by omega) hs) (⟨_, Try.func38, rfl, rfl⟩ : Enters Try.prog 38) rfl rfl ?_
  rintro _ H4 ⟨rfl, hp4, f4⟩
  have hI4 := hIB.same (H' := H4) fun i hi _ => f4.2 i fun hm => by
    have := hS3 i hi
    have := hS1 i hm
    omega
  have hb4 : look H4 0 g = some ⟨g, 1, cP p⟩ := by
    rw [f4.look fun hm => by have := hS1 0 hm; omega]
    exact hB0
  simp (maxSteps := 1000000) (disch := omega) only [go_sem, lt_no, lt_yes, le_no, le_yes, eq_no, eq_yes, Nat.reduceAdd, Nat.reduceMul, Nat.reduceSub, Nat.reduceEqDiff, Nat.reduceLeDiff]
  refine OpS.rdD (eqBranchS_run L L (by omega)) (⟨_, Try.func43, rfl, rfl⟩ : Enters Try.prog 43) rfl rfl (snap_two hI4.snap rfl) rfl ?_
  simp(maxSteps:=999999)(disch:=omega)only[go_sem,reduceAdd,reduceMul,reduceSub,reduceEqDiff,reduceLeDiff, hbb]
  refine OpS.run (markBranchS_L H4 c L 1 hI4 (by omega) (by omega)) (⟨_, Try.func44, rfl, rfl⟩ : Enters Try.prog 44) rfl rfl ?_
  rintro _ H5 ⟨rfl, hI5, hl5, f5⟩
  have hb5 : look H5 0 g = some ⟨g, 1, cP p⟩ := by
    have h0 := f5 0 fun hm => by have := hS3 0 hm; omega
    unfold look at hb4 ⊢
    rw [h0]
    exact hb4
  simp(maxSteps:=999999)(disch:=omega)only[go_sem,reduceAdd,reduceMul,reduceSub,reduceEqDiff,reduceLeDiff]
  refine OpS.rdD (heldBranchS_run L.length 1 (by omega) (by omega)) (⟨_, Try.func45, rfl, rfl⟩ : Enters Try.prog 45) rfl rfl (snap_two hI5.snap snapD_int) rfl ?_
  simp (maxSteps := 1000000) (disch := omega) only [go_sem, lt_no, lt_yes, le_no, le_yes, eq_no, eq_yes, Nat.reduceAdd, Nat.reduceMul, Nat.reduceSub, Nat.reduceEqDiff, Nat.reduceLeDiff]
  rw [hb5]
  simp(maxSteps:=999999)(disch:=omega)only[go_sem,reduceAdd,reduceMul,reduceSub,reduceEqDiff,reduceLeDiff]
  first | refine OpS.mk (toPuzzle_run p hs) (⟨_, Try.func30, rfl, rfl⟩ : Enters Try.prog 30) rfl rfl rfl rfl rfl ?_ | refine Loud.mk (toPuzzle_run p hs) (⟨_, Try.func30, rfl, rfl⟩ : Enters Try.prog 30) rfl rfl rfl rfl rfl ?_
  simp(maxSteps:=999999)(disch:=omega)only[go_sem,reduceAdd,reduceMul,reduceSub,reduceEqDiff,reduceLeDiff]
  first | refine OpS.mk (himplF) (⟨_, Try.func42, rfl, rfl⟩ : Enters Try.prog 42) rfl rfl rfl rfl rfl ?_ | refine Loud.mk (himplF) (⟨_, Try.func42, rfl, rfl⟩ : Enters Try.prog 42) rfl rfl rfl rfl rfl ?_
  simp(maxSteps:=999999)(disch:=omega)only[go_sem,reduceAdd,reduceMul,reduceSub,reduceEqDiff,reduceLeDiff]
  first | refine OpS.rd (eqBranchS_run L L (by omega)) (⟨_, Try.func43, rfl, rfl⟩ : Enters Try.prog 43) rfl rfl rfl rfl ?_ | refine Loud.rd (eqBranchS_run L L (by omega)) (⟨_, Try.func43, rfl, rfl⟩ : Enters Try.prog 43) rfl rfl rfl rfl ?_
  simp(maxSteps:=999999)(disch:=omega)only[go_sem,reduceAdd,reduceMul,reduceSub,reduceEqDiff,reduceLeDiff]
  refine OpS.rdD (heldBranchS_run L.length 1 (by omega) (by omega)) (⟨_, Try.func45, rfl, rfl⟩ : Enters Try.prog 45) rfl rfl (snap_two hI5.snap snapD_int) rfl ?_
  simp (maxSteps := 1000000) (disch := omega) only [go_sem, lt_no, lt_yes, le_no, le_yes, eq_no, eq_yes, Nat.reduceAdd, Nat.reduceMul, Nat.reduceSub, Nat.reduceEqDiff, Nat.reduceLeDiff]
end Go.Lg
