/- GpJA, GpK, GpP, cut to what is needed. -/
import Derived.Test.YtcopagjhklcokaaQbc9
import Derived.Test.YtcopagjhklcokaaQbc3
import Derived.Test.YtcopagjhklcokaaQbb5
import Derived.Test.YtcopagjhklcokaaQbb3
set_option linter.unusedSimpArgs false
set_option linter.unusedVariables false
set_option maxRecDepth 100000
namespace Go.Lg
open Go.Proofs
attribute [-go_sem] appendM lwF_cons
def wiR (p : Puz) (rs : List Rul) : Puz := ⟨p.size, p.given, rs⟩
def needL (p : Puz) : Nat → Nat → List Rul → List Rul
  | 0, _, rs => rs
  | f + 1, i, rs => if oneV (wiR p (rs.eraseIdx i)) = true then needL p f i (rs.eraseIdx i) else needL p f (i + 1) rs
def needOk (p : Puz) : Bool := puzzleValid p && oneV p
def needV (p : Puz) : List Rul := if needOk p = true then needL p p.rules.length 0 p.rules else []
theorem erase_take {rs : List Rul} {i : Nat} : rs.eraseIdx i = rs.take i ++ rs.drop (i + 1) := List.eraseIdx_eq_take_drop_succ ..
theorem smRs_erase {rs : List Rul} {i : Nat} (h : smRs rs) : smRs (rs.eraseIdx i) := ⟨Nat.le_trans (List.length_eraseIdx_le ..) h.1, fun r hr => h.2 r (List.mem_of_mem_eraseIdx hr)⟩
theorem sliceR_pre {P : Program} {H : Heap} {t e : TypeId} {ti ei : TI} {id g k : Nat} {rs : List Rul} (ht : tinf P t = some ti) (hk : ti.k = .slice e) (he : tinf P e = some ei) (hs : ei.size = 3) (hl : look H id g = some ⟨g, 3, cl eR rs⟩) (hn : k ≤ rs.length) :
    sliceV P H t (.c (.own id g 0 rs.length none)) none (some k) none = some (.c (.own id g 0 k none)) := by
  have hrl : (cl eR rs).length = rs.length * 3 := cl_length rs
  simp only [sliceV, ht, hk, he, hl, Option.getD_none, Option.getD_some, hs, hrl]
  rw [if_pos ⟨by omega, by omega, by omega, by simp, trivial, by omega, by omega⟩]
  simp
theorem sliceR_suf {P : Program} {H : Heap} {t e : TypeId} {ti ei : TI} {id g k : Nat} {rs : List Rul} (ht : tinf P t = some ti) (hk : ti.k = .slice e) (he : tinf P e = some ei) (hs : ei.size = 3) (hl : look H id g = some ⟨g, 3, cl eR rs⟩) (hn : k ≤ rs.length) :
    sliceV P H t (.c (.own id g 0 rs.length none)) (some k) none none = some (.c (.own id g (k * 3) (rs.length - k) none)) := by
  have hrl : (cl eR rs).length = rs.length * 3 := cl_length rs
  simp only [sliceV, ht, hk, he, hl, Option.getD_none, Option.getD_some, hs, hrl]
  rw [if_pos ⟨by omega, by omega, by omega, by simp, trivial, by omega, by omega⟩]
  simp
theorem cl_split (rs : List Rul) (k : Nat) (hk : k ≤ rs.length) : (cl eR rs).take (k * 3) = cl eR (rs.take k) ∧ (cl eR rs).drop (k * 3) = cl eR (rs.drop k) := by
  have h1 : (cl eR (rs.take k)).length = k * 3 := by
    have : (cl eR (rs.take k)).length = (rs.take k).length * 3 := cl_length _
    rw [this, List.length_take, Nat.min_eq_left hk]
  have h2 : cl eR rs = cl eR (rs.take k) ++ cl eR (rs.drop k) := by rw [← cl_append, List.take_append_drop]
  rw [h2]
  exact ⟨by rw [← h1, List.take_left], by rw [← h1, List.drop_left]⟩
theorem elemsR_pre {H : Heap} {id g k : Nat} {rs : List Rul} (h : look H id g = some ⟨g, 3, cl eR rs⟩) (hk : k ≤ rs.length) : elems H 3 (.c (.own id g 0 k none)) = some (k, cl eR (rs.take k)) := by
  simp only [elems, h, if_true, List.drop_zero, (cl_split rs k hk).1]
theorem elemsR_suf {H : Heap} {id g k : Nat} {rs : List Rul} (h : look H id g = some ⟨g, 3, cl eR rs⟩) (hk : k ≤ rs.length) : elems H 3 (.c (.own id g (k * 3) (rs.length - k) none)) = some (rs.length - k, cl eR (rs.drop k)) := by
  have e : (cl eR (rs.drop k)).length = (rs.length - k) * 3 := by
    have : (cl eR (rs.drop k)).length = (rs.drop k).length * 3 := cl_length _
    rw [this, List.length_drop]
  simp only [elems, h, if_true, (cl_split rs k hk).2, List.take_of_length_le (Nat.le_of_eq e)]
theorem snapP1 {H : Heap} {z : Int} {zs : List Int} {rc : CV} {rs : List Rul} (h : OwnL eR 3 H rc rs) : [AV.agg [.f (.int .i64 z), .f (fints zs), rc]].mapM (snapD H) = some [aP ⟨z, zs, rs⟩] := by
  have e1 : ∀ x : Int, frzC H (.f (.int .i64 x)) = some (.f (.int .i64 x)) := fun _ => rfl
  have e2 : frzC H (.f (fints zs)) = some (.f (fints zs)) := rfl
  simp only [snapD, List.mapM_cons, List.mapM_nil, e1, e2, h.frzC, Option.bind_eq_bind, Option.pure_def, Option.bind_some, Option.map_some]
theorem needL_step {p : Puz} {i : Nat} {rs : List Rul} (h : i < rs.length) : needL p (rs.length - i) i rs = if oneV (wiR p (rs.eraseIdx i)) = true then needL p ((rs.eraseIdx i).length - i) i (rs.eraseIdx i) else needL p (rs.length - (i + 1)) (i + 1) rs := by
  obtain ⟨f, hf⟩ : ∃ f, rs.length - i = f + 1 := ⟨rs.length - i - 1, by omega⟩
  rw [hf, List.length_eraseIdx, if_pos h, show rs.length - 1 - i = f by omega, show rs.length - (i + 1) = f by omega]
  rfl
theorem l1OwnRuleList_rd (rs : List Rul) (hx : smRs rs) : Reads Try.prog 107 [rsl eR rs] (rsl eR rs) := by
  obtain ⟨hn, hc⟩ := hx
  refine Reads.ice (Q := fun v H' => ∃ g, v = .c (.own 0 g 0 rs.length none) ∧ look H' 0 g = some ⟨g, 3, cl eR rs⟩) ?_ (by rintro v H' ⟨g, rfl, h⟩; exact frzA_own (lim := none) h)
  refine RunCall.cw (c := _) Try.func107 rfl (n := 21) Try.ntmps107 (rs := [.tmp 2]) rfl ?_
  simp only [List.length_cons, List.length_nil, Nat.reduceAdd, Nat.reduceSub, List.replicate, List.cons_append, List.nil_append]
  simp (maxSteps := 1000000) (disch := omega) only [go_sem, Nat.reduceAdd, Nat.reduceMul, Nat.reduceSub, Nat.reduceEqDiff, Nat.reduceLeDiff]
  intro g
  refine loop_rule2 (fun (i g : Nat) => rs.length - i) (fun i g => i ≤ rs.length) (fun i g => [.k, .a, .a, .p (.c (.own 0 g 0 i none)), .p (int i), .a, .a, .a, .a, .a, .a, .a, .a, .a, .a, .a, .a, .a, .a, .a, .a]) (fun i g => [some ⟨g, 3, cl eR (rs.take i)⟩]) 0 g
    (Nat.zero_le _) (by simp (maxSteps := 1000000) (disch := omega) only [go_sem, Nat.reduceAdd, Nat.reduceMul, Nat.reduceSub, Nat.reduceEqDiff, Nat.reduceLeDiff]; rfl) (HLe.refl _) ?_
  intro i g hi
  simp (maxSteps := 1000000) (disch := omega) only [go_sem, Nat.reduceAdd, Nat.reduceMul, Nat.reduceSub, Nat.reduceEqDiff, Nat.reduceLeDiff]
  (first | with_reducible refine condK_dec (fun h => ?_) (fun h => ?_) | with_reducible refine condK_ndec (fun h => ?_) (fun h => ?_) | with_reducible refine condK_nb (fun h => ?_) (fun h => ?_) | refine condK_b (fun h => ?_) (fun h => ?_))
  · have h : i < rs.length := by omega
    have htl : (rs.take i).length = i := by rw [List.length_take]; omega
    simp (maxSteps := 1000000) (disch := omega) only [go_sem, Nat.reduceAdd, Nat.reduceMul, Nat.reduceSub, Nat.reduceEqDiff, Nat.reduceLeDiff]
    first | refine OpS.mk (l1OwnRule_rd (nth rs i) (hc _ (nth_mem h))) (⟨_, Try.func140, rfl, rfl⟩ : Enters Try.prog 140) rfl rfl rfl rfl rfl ?_ | refine Loud.mk (l1OwnRule_rd (nth rs i) (hc _ (nth_mem h))) (⟨_, Try.func140, rfl, rfl⟩ : Enters Try.prog 140) rfl rfl rfl rfl rfl ?_
    simp (maxSteps := 1000000) (disch := omega) only [go_sem, Nat.reduceAdd, Nat.reduceMul, Nat.reduceSub, Nat.reduceEqDiff, Nat.reduceLeDiff]
    intro g1
    refine appendM_own (E := eR) (xs := rs.take i) (ys := [nth rs i]) (sliceOf_of' ti24 rfl ti32) ⟨rfl, rfl, by decide, by decide⟩ htl look_zero ⟨by omega, by simp⟩ (elems_own (xs := [nth rs i]) (look_of (b := ⟨g1, 3, cl eR [nth rs i]⟩) rfl)) ?_
    intro g2
    simp (maxSteps := 1000000) (disch := omega) only [go_sem, Nat.reduceAdd, Nat.reduceMul, Nat.reduceSub, Nat.reduceEqDiff, Nat.reduceLeDiff]
    refine ⟨i + 1, g2, ⟨by omega, by omega⟩, ⟨⟨rfl, rfl⟩, by push_cast; omega⟩, ?_⟩
    rw [take_succ_nth h]
    exact HLe.app [some ⟨g2, 3, cl eR (rs.take i ++ [nth rs i])⟩] [some ⟨g1, 3, cR (nth rs i)⟩]
  · have hi' : i = rs.length := by omega
    subst hi'
    simp (maxSteps := 1000000) (disch := omega) only [go_sem, Nat.reduceAdd, Nat.reduceMul, Nat.reduceSub, Nat.reduceEqDiff, Nat.reduceLeDiff]
    rw [List.take_length]
    exact ⟨_, HLe.refl _, g, rfl, look_zero⟩
theorem l1OwnPuzzle_rd (p : Puz) (hx : smP p) : Reads Try.prog 64 [aP p] (aP p) := by
  refine Reads.ice (Q := fun v H' => ∃ c, v = .agg [.f (.int .i64 p.size), c, .f (fsl eR p.rules)] ∧ frzC H' c = some (.f (fints p.given))) ?_ ?_
  rotate_left
  · rintro v H' ⟨c, rfl, h1⟩
    have e1 : ∀ x : Int, frzC H' (.f (.int .i64 x)) = some (.f (.int .i64 x)) := fun _ => rfl
    have e2 : frzC H' (.f (fsl eR p.rules)) = some (.f (fsl eR p.rules)) := rfl
    simp only [frzA, frz1, List.mapM_cons, List.mapM_nil, e1, e2, h1, Option.bind_eq_bind, Option.pure_def, Option.bind_some, Option.map_some]
  refine RunCall.cw (c := _) Try.func64 rfl (n := 15) Try.ntmps64 (rs := [.cell 2 26]) rfl ?_
  simp only [List.length_cons, List.length_nil, Nat.reduceAdd, Nat.reduceSub, List.replicate, List.cons_append, List.nil_append]
  simp (maxSteps := 1000000) (disch := omega) only [go_sem, Nat.reduceAdd, Nat.reduceMul, Nat.reduceSub, Nat.reduceEqDiff, Nat.reduceLeDiff]
  intro g1 g2 g3 g4
  refine appendM_own (E := eI .i64) (xs := []) (ys := p.given) (sliceOf_of' ti23 rfl ti3) ⟨rfl, rfl, by decide, by decide⟩ rfl (look_of (b := ⟨g4, 1, cl (eI .i64) []⟩) rfl) ⟨by simp, hx.1⟩ elems_f ?_
  intro g5
  simp (maxSteps := 1000000) (disch := omega) only [go_sem, Nat.reduceAdd, Nat.reduceMul, Nat.reduceSub, Nat.reduceEqDiff, Nat.reduceLeDiff, Nat.zero_add, List.nil_append, List.length_nil]
  first | refine OpS.mk (l1OwnRuleList_rd p.rules hx.2) (⟨_, Try.func107, rfl, rfl⟩ : Enters Try.prog 107) rfl rfl rfl rfl rfl ?_ | refine Loud.mk (l1OwnRuleList_rd p.rules hx.2) (⟨_, Try.func107, rfl, rfl⟩ : Enters Try.prog 107) rfl rfl rfl rfl rfl ?_
  simp (maxSteps := 1000000) (disch := omega) only [go_sem, Nat.reduceAdd, Nat.reduceMul, Nat.reduceSub, Nat.reduceEqDiff, Nat.reduceLeDiff]
  exact ⟨_, HLe.refl _, _, rfl, (OwnI.o 3 g5 none p.given [] (by rw [List.append_nil]; exact look_of (b := ⟨g5, 1, cl (eI .i64) p.given⟩) rfl)).frzC⟩
theorem sNeededRules_run (p : Puz) (hx : smP p) : Reads Try.prog 17 [aP p] (.tup [rsl eR (needV p), bool (needOk p)]) := by
  have hx1 := hx.1
  have hr1 := hx.2.1
  refine Reads.ice (Q := fun v H' => ∃ (id g : Nat), v = .tup [.c (.own id g 0 (needV p).length none), bool (needOk p)] ∧ look H' id g = some ⟨g, 3, cl eR (needV p)⟩) ?_ ?_
  rotate_left
  · rintro v H' ⟨id, g, rfl, h1⟩
    have e1 := frzA_own (lim := none) h1
    simp only [frzA, frz1, Option.map_eq_some_iff] at e1
    obtain ⟨y, e1, e2⟩ := e1
    cases e2
    have e3 : ∀ x, frzC H' (.f (.bool x)) = some (.f (.bool x)) := fun x => rfl
    simp only [frzA, List.mapM_cons, List.mapM_nil, frz1, e1, e3, Option.pure_def, Option.bind_eq_bind, Option.bind_some, Option.map_some]
  have hno : ¬ needOk p = true → needV p = [] := fun h => by unfold needV; rw [if_neg h]
  refine RunCall.cw (c := _) Try.func17 rfl (n := 47) Try.ntmps17 (rs := [.tmp 2, .tmp 3]) rfl ?_
  simp only [List.length_cons, List.length_nil, Nat.reduceAdd, Nat.reduceSub, List.replicate, List.cons_append, List.nil_append]
  simp (maxSteps := 1000000) (disch := omega) only [go_sem, Nat.reduceAdd, Nat.reduceMul, Nat.reduceSub, Nat.reduceEqDiff, Nat.reduceLeDiff]
  intro g1
  first | refine OpS.mk (l1OwnPuzzle_rd p hx) (⟨_, Try.func64, rfl, rfl⟩ : Enters Try.prog 64) rfl rfl rfl rfl rfl ?_ | refine Loud.mk (l1OwnPuzzle_rd p hx) (⟨_, Try.func64, rfl, rfl⟩ : Enters Try.prog 64) rfl rfl rfl rfl rfl ?_
  simp (maxSteps := 1000000) (disch := omega) only [go_sem, Nat.reduceAdd, Nat.reduceMul, Nat.reduceSub, Nat.reduceEqDiff, Nat.reduceLeDiff]
  first | refine OpS.rd (sPuzzleValid_run p hx) (⟨_, Try.func25, rfl, rfl⟩ : Enters Try.prog 25) rfl rfl rfl rfl ?_ | refine Loud.rd (sPuzzleValid_run p hx) (⟨_, Try.func25, rfl, rfl⟩ : Enters Try.prog 25) rfl rfl rfl rfl ?_
  simp (maxSteps := 1000000) (disch := omega) only [go_sem, Nat.reduceAdd, Nat.reduceMul, Nat.reduceSub, Nat.reduceEqDiff, Nat.reduceLeDiff]
  (first | with_reducible refine guardK_dec (fun h1 => ?_) (fun h1 => ?_) <;> simp (maxSteps := 1000000) (disch := omega) only [go_sem, Nat.reduceAdd, Nat.reduceMul, Nat.reduceSub, Nat.reduceEqDiff, Nat.reduceLeDiff, h1] | with_reducible refine guardK_ndec (fun h1 => ?_) (fun h1 => ?_) <;> simp (maxSteps := 1000000) (disch := omega) only [go_sem, Nat.reduceAdd, Nat.reduceMul, Nat.reduceSub, Nat.reduceEqDiff, Nat.reduceLeDiff, h1] | with_reducible refine guardK_nb (fun h1 => ?_) (fun h1 => ?_) <;> simp (maxSteps := 1000000) (disch := omega) only [go_sem, Nat.reduceAdd, Nat.reduceMul, Nat.reduceSub, Nat.reduceEqDiff, Nat.reduceLeDiff, h1] | with_reducible refine guardK_split (fun h1 => ?_) (fun h1 => ?_) <;> simp (maxSteps := 1000000) (disch := omega) only [go_sem, Nat.reduceAdd, Nat.reduceMul, Nat.reduceSub, Nat.reduceEqDiff, Nat.reduceLeDiff, h1] | with_reducible refine guardQ_dec (fun h1 => ?_) (fun h1 => ?_) <;> simp (maxSteps := 1000000) (disch := omega) only [go_sem, Nat.reduceAdd, Nat.reduceMul, Nat.reduceSub, Nat.reduceEqDiff, Nat.reduceLeDiff, h1] | with_reducible refine guardL_dec (fun h1 => ?_) (fun h1 => ?_) <;> simp (maxSteps := 1000000) (disch := omega) only [go_sem, Nat.reduceAdd, Nat.reduceMul, Nat.reduceSub, Nat.reduceEqDiff, Nat.reduceLeDiff, h1] | with_reducible refine guardQ_ndec (fun h1 => ?_) (fun h1 => ?_) <;> simp (maxSteps := 1000000) (disch := omega) only [go_sem, Nat.reduceAdd, Nat.reduceMul, Nat.reduceSub, Nat.reduceEqDiff, Nat.reduceLeDiff, h1] | with_reducible refine guardL_ndec (fun h1 => ?_) (fun h1 => ?_) <;> simp (maxSteps := 1000000) (disch := omega) only [go_sem, Nat.reduceAdd, Nat.reduceMul, Nat.reduceSub, Nat.reduceEqDiff, Nat.reduceLeDiff, h1] | with_reducible refine guardQ_nb (fun h1 => ?_) (fun h1 => ?_) <;> simp (maxSteps := 1000000) (disch := omega) only [go_sem, Nat.reduceAdd, Nat.reduceMul, Nat.reduceSub, Nat.reduceEqDiff, Nat.reduceLeDiff, h1] | with_reducible refine guardL_nb (fun h1 => ?_) (fun h1 => ?_) <;> simp (maxSteps := 1000000) (disch := omega) only [go_sem, Nat.reduceAdd, Nat.reduceMul, Nat.reduceSub, Nat.reduceEqDiff, Nat.reduceLeDiff, h1] | with_reducible refine guardQ_split (fun h1 => ?_) (fun h1 => ?_) <;> simp (maxSteps := 1000000) (disch := omega) only [go_sem, Nat.reduceAdd, Nat.reduceMul, Nat.reduceSub, Nat.reduceEqDiff, Nat.reduceLeDiff, h1] | with_reducible refine guardL_split (fun h1 => ?_) (fun h1 => ?_) <;> simp (maxSteps := 1000000) (disch := omega) only [go_sem, Nat.reduceAdd, Nat.reduceMul, Nat.reduceSub, Nat.reduceEqDiff, Nat.reduceLeDiff, h1])
  rotate_left
  · have e : needOk p = false := by unfold needOk; rw [h1]; rfl
    intro g
    rw [e, hno (by rw [e]; simp)]
    exact ⟨_, HLe.refl _, 1, g, rfl, look_of (b := ⟨g, 3, cl eR []⟩) rfl⟩
  first | refine OpS.rd (l10One_run p hx) (⟨_, Try.func65, rfl, rfl⟩ : Enters Try.prog 65) rfl rfl rfl rfl ?_ | refine Loud.rd (l10One_run p hx) (⟨_, Try.func65, rfl, rfl⟩ : Enters Try.prog 65) rfl rfl rfl rfl ?_
  simp (maxSteps := 1000000) (disch := omega) only [go_sem, Nat.reduceAdd, Nat.reduceMul, Nat.reduceSub, Nat.reduceEqDiff, Nat.reduceLeDiff]
  (first | with_reducible refine condK_dec (fun h2 => ?_) (fun h2 => ?_) | with_reducible refine condK_ndec (fun h2 => ?_) (fun h2 => ?_) | with_reducible refine condK_nb (fun h2 => ?_) (fun h2 => ?_) | refine condK_b (fun h2 => ?_) (fun h2 => ?_))
  rotate_left
  · have e : needOk p = false := by unfold needOk oneV; rw [h1, decide_eq_false h2]; rfl
    simp (maxSteps := 1000000) (disch := omega) only [go_sem, Nat.reduceAdd, Nat.reduceMul, Nat.reduceSub, Nat.reduceEqDiff, Nat.reduceLeDiff]
    intro g
    rw [e, hno (by rw [e]; simp)]
    exact ⟨_, HLe.refl _, 1, g, rfl, look_of (b := ⟨g, 3, cl eR []⟩) rfl⟩
  have e : needOk p = true := by unfold needOk oneV; rw [h1, decide_eq_true h2]; rfl
  rw [e]
  simp (maxSteps := 1000000) (disch := omega) only [go_sem, Nat.reduceAdd, Nat.reduceMul, Nat.reduceSub, Nat.reduceEqDiff, Nat.reduceLeDiff]
  intro g
  refine appendM_own (E := eR) (xs := []) (ys := p.rules) (sliceOf_of' ti24 rfl ti32) ⟨rfl, rfl, by decide, by decide⟩ rfl (look_of (b := ⟨g, 3, cl eR []⟩) rfl) ⟨by simp, hr1⟩ elems_f ?_
  intro g2
  simp (maxSteps := 1000000) (disch := omega) only [go_sem, Nat.reduceAdd, Nat.reduceMul, Nat.reduceSub, Nat.reduceEqDiff, Nat.reduceLeDiff, Nat.zero_add, List.nil_append, List.length_nil]
  have hN : needV p = needL p p.rules.length 0 p.rules := by unfold needV; rw [if_pos e]
  refine loop_rule2 (fun (i : Nat) (b : Heap × Nat × Nat × List Rul) => b.2.2.2.length - i) (fun i b => i ≤ b.2.2.2.length ∧ smRs b.2.2.2 ∧ b.2.2.2.length ≤ p.rules.length ∧ needV p = needL p (b.2.2.2.length - i) i b.2.2.2 ∧ look b.1 0 g1 = some ⟨g1, 1, cP p⟩ ∧ look b.1 b.2.1 b.2.2.1 = some ⟨b.2.2.1, 3, cl eR b.2.2.2⟩) (fun i b => [.a, .k, .a, .a, .p (.c (.own b.2.1 b.2.2.1 0 b.2.2.2.length none)), .p (int i), .a, .a, .a, .a, .a, .a, .a, .a, .a, .a, .a, .a, .a, .a, .a, .a, .a, .a, .a, .a, .a, .a, .a, .a, .a, .a, .a, .a, .a, .a, .a, .a, .a, .a, .a, .a, .a, .a, .a, .a, .a]) (fun i b => b.1) 0 ([some ⟨g1, 1, cP p⟩, some ⟨g2, 3, cl eR p.rules⟩], 1, g2, p.rules)
    ⟨Nat.zero_le _, hx.2, Nat.le_refl _, hN, look_zero, look_of (b := ⟨g2, 3, cl eR p.rules⟩) rfl⟩ (by simp (maxSteps := 1000000) (disch := omega) only [go_sem, Nat.reduceAdd, Nat.reduceMul, Nat.reduceSub, Nat.reduceEqDiff, Nat.reduceLeDiff]; rfl) (HLe.refl _) ?_
  rintro i ⟨HI, j, gj, rs⟩ ⟨hi, hsm, hle, hnd, hb0, hbj⟩
  simp only at hi hsm hle hnd hb0 hbj ⊢
  have hrl : (cl eR rs).length = rs.length * 3 := cl_length rs
  simp (maxSteps := 1000000) (disch := omega) only [go_sem, Nat.reduceAdd, Nat.reduceMul, Nat.reduceSub, Nat.reduceEqDiff, Nat.reduceLeDiff, hbj, hb0]
  (first | with_reducible refine condK_dec (fun h3 => ?_) (fun h3 => ?_) | with_reducible refine condK_ndec (fun h3 => ?_) (fun h3 => ?_) | with_reducible refine condK_nb (fun h3 => ?_) (fun h3 => ?_) | refine condK_b (fun h3 => ?_) (fun h3 => ?_))
  · have h3 : i < rs.length := by omega
    simp (maxSteps := 1000000) (disch := omega) only [go_sem, Nat.reduceAdd, Nat.reduceMul, Nat.reduceSub, Nat.reduceEqDiff, Nat.reduceLeDiff, hbj, hb0]
    have hms := mask_fr_same HI
    refine drawP_lM [1, 2, 3, 5, 6, 7, 8, 0, 4] [] none [9, 10] (List.replicate HI.length false ++ [true]) [0, 0, 0, 6, 15, 0, 0, 64, 224, 511, 1023] foll (by kernel_rfl) ?_
    have hpre := sliceR_pre ti24 rfl ti32 rfl hbj (k := i) hi
    have hsuf := sliceR_suf ti24 rfl ti32 rfl hbj (k := i + 1) h3
    have hix : ((i : Int)).toNat = i := Int.toNat_natCast i
    have hix2 : ((i : Int) + 1).toNat = i + 1 := by omega
    iterate 3 (rw [lwF_cons]; simp (maxSteps := 1000000) (disch := omega) only [go_sem, Nat.reduceAdd, Nat.reduceMul, Nat.reduceSub, Nat.reduceEqDiff, Nat.reduceLeDiff, hms, hbj, hb0])
    rw [hix, hpre]
    simp (maxSteps := 1000000) (disch := omega) only [go_sem, Nat.reduceAdd, Nat.reduceMul, Nat.reduceSub, Nat.reduceEqDiff, Nat.reduceLeDiff, hms, hbj, hb0]
    iterate 3 (rw [lwF_cons]; simp (maxSteps := 1000000) (disch := omega) only [go_sem, Nat.reduceAdd, Nat.reduceMul, Nat.reduceSub, Nat.reduceEqDiff, Nat.reduceLeDiff, hms, hbj, hb0])
    rw [lwF_cons]
    simp (maxSteps := 1000000) (disch := omega) only [go_sem, Nat.reduceAdd, Nat.reduceMul, Nat.reduceSub, Nat.reduceEqDiff, Nat.reduceLeDiff, hms, hbj, hb0, hix2, hsuf]
    rw [lwF_cons]
    simp (maxSteps := 1000000) (disch := omega) only [go_sem, Nat.reduceAdd, Nat.reduceMul, Nat.reduceSub, Nat.reduceEqDiff, Nat.reduceLeDiff, look_off, look_off0, set_off, set_off0, List.append_assoc, List.cons_append, List.nil_append, List.length_append, hms, hbj, hb0]
    intro g3
    refine ⟨okM_fr (by omega) (fun k hk => List.getElem?_append_left hk), ?_⟩
    rw [lwF_cons]
    simp (maxSteps := 1000000) (disch := omega) only [go_sem, Nat.reduceAdd, Nat.reduceMul, Nat.reduceSub, Nat.reduceEqDiff, Nat.reduceLeDiff, look_off, look_off0, set_off, set_off0, List.append_assoc, List.cons_append, List.nil_append, List.length_append]
    have htl : (rs.take i).length = i := by rw [List.length_take]; omega
    have hdl : (rs.drop (i + 1)).length = rs.length - (i + 1) := List.length_drop ..
    have hbX : ∀ L, look (HI ++ L) j gj = some ⟨gj, 3, cl eR rs⟩ := fun L => look_appL hbj
    have hb0X : ∀ L, look (HI ++ L) 0 g1 = some ⟨g1, 1, cP p⟩ := fun L => look_appL hb0
    refine appendM_own (E := eR) (xs := []) (ys := rs.take i) (sliceOf_of' ti24 rfl ti32) ⟨rfl, rfl, by decide, by decide⟩ rfl (by rw [look_off0]; exact look_of (b := ⟨g3, 3, cl eR []⟩) rfl) ⟨by simp, by omega⟩ (by rw [htl]; exact elemsR_pre (hbX _) hi) ?_
    intro g4
    rw [htl]
    simp (maxSteps := 1000000) (disch := omega) only [go_sem, Nat.reduceAdd, Nat.reduceMul, Nat.reduceSub, Nat.reduceEqDiff, Nat.reduceLeDiff, look_off, look_off0, set_off, set_off0, List.append_assoc, List.cons_append, List.nil_append, List.length_append, Nat.zero_add]
    refine ⟨okM_fr (by simp) (fun k hk => by rw [List.getElem?_append_left hk, List.getElem?_append_left hk]), ?_⟩
    refine appendM_own (E := eR) (xs := rs.take i) (ys := rs.drop (i + 1)) (sliceOf_of' ti24 rfl ti32) ⟨rfl, rfl, by decide, by decide⟩ htl (by rw [look_off0]; exact look_of (b := ⟨g4, 3, cl eR (rs.take i)⟩) rfl) ⟨by omega, by omega⟩ (by rw [hdl]; exact elemsR_suf (hbX _) h3) ?_
    intro g5
    rw [← erase_take]
    have hel : i + (rs.drop (i + 1)).length = (rs.eraseIdx i).length := by rw [List.length_eraseIdx, if_pos h3, hdl]; omega
    rw [hel]
    simp (maxSteps := 1000000) (disch := omega) only [go_sem, Nat.reduceAdd, Nat.reduceMul, Nat.reduceSub, Nat.reduceEqDiff, Nat.reduceLeDiff, look_off, look_off0, set_off, set_off0, List.append_assoc, List.cons_append, List.nil_append, List.length_append, hb0X]
    have hown : OwnL eR 3 (HI ++ [some ⟨g5, 3, cl eR (rs.eraseIdx i)⟩]) (.own HI.length g5 0 (rs.eraseIdx i).length none) (rs.eraseIdx i) := OwnL.o _ _ _ look_last
    have hstep := needL_step (p := p) h3
    refine OpS.rdD (l10One_run (wiR p (rs.eraseIdx i)) ⟨hx.1, smRs_erase hsm⟩) (⟨_, Try.func65, rfl, rfl⟩ : Enters Try.prog 65) rfl rfl (snapP1 hown) rfl ?_
    change _ = if decide ((allS (wiR p (rs.eraseIdx i)) 2).length = 1) = true then _ else _ at hstep
    generalize decide ((allS (wiR p (rs.eraseIdx i)) 2).length = 1) = b at hstep ⊢
    rw [← hnd] at hstep
    have hl2 : (rs.eraseIdx i).length = rs.length - 1 := by rw [List.length_eraseIdx, if_pos h3]
    simp (maxSteps := 1000000) (disch := omega) only [go_sem, Nat.reduceAdd, Nat.reduceMul, Nat.reduceSub, Nat.reduceEqDiff, Nat.reduceLeDiff, look_off, look_off0, set_off, set_off0, List.append_assoc, List.cons_append, List.nil_append, List.length_append]
    (first | with_reducible refine condK_dec (fun h4 => ?_) (fun h4 => ?_) | with_reducible refine condK_ndec (fun h4 => ?_) (fun h4 => ?_) | with_reducible refine condK_nb (fun h4 => ?_) (fun h4 => ?_) | refine condK_b (fun h4 => ?_) (fun h4 => ?_))
    · rw [if_pos h4] at hstep
      simp (maxSteps := 1000000) (disch := omega) only [go_sem, Nat.reduceAdd, Nat.reduceMul, Nat.reduceSub, Nat.reduceEqDiff, Nat.reduceLeDiff, look_off, look_off0, set_off, set_off0, List.append_assoc, List.cons_append, List.nil_append, List.length_append]
      refine ⟨i, (HI ++ [some ⟨g5, 3, cl eR (rs.eraseIdx i)⟩], HI.length, g5, rs.eraseIdx i), ⟨?_, ?_⟩, ?_, HLe.refl _⟩
      · exact ⟨by show i ≤ (rs.eraseIdx i).length; omega, smRs_erase hsm, by show (rs.eraseIdx i).length ≤ _; omega, hstep, hb0X _, look_last⟩
      · show (rs.eraseIdx i).length - i < _
        omega
      · exact ⟨⟨rfl, rfl, rfl⟩, rfl⟩
    · rw [if_neg (by simp [h4])] at hstep
      simp (maxSteps := 1000000) (disch := omega) only [go_sem, Nat.reduceAdd, Nat.reduceMul, Nat.reduceSub, Nat.reduceEqDiff, Nat.reduceLeDiff, look_off, look_off0, set_off, set_off0, List.append_assoc, List.cons_append, List.nil_append, List.length_append]
      refine ⟨i + 1, (HI ++ [some ⟨g5, 3, cl eR (rs.eraseIdx i)⟩], j, gj, rs), ⟨?_, ?_⟩, ?_, HLe.refl _⟩
      · exact ⟨by show i + 1 ≤ rs.length; omega, hsm, hle, hstep, hb0X _, hbX _⟩
      · show rs.length - (i + 1) < _
        omega
      · exact ⟨⟨rfl, rfl, rfl⟩, by push_cast; rfl⟩
  · have hie : i = rs.length := by omega
    simp (maxSteps := 1000000) (disch := omega) only [go_sem, Nat.reduceAdd, Nat.reduceMul, Nat.reduceSub, Nat.reduceEqDiff, Nat.reduceLeDiff, hbj, hb0]
    rw [hie, Nat.sub_self] at hnd
    rw [hnd]
    exact ⟨_, HLe.refl _, j, gj, rfl, hbj⟩
end Go.Lg

set_option linter.unusedSimpArgs false
set_option linter.unusedVariables false
set_option maxRecDepth 100000
namespace Go.Lg
open Go.Proofs
def filledAt (xs : List Int) : List Int := ((List.range xs.length).filter fun i : Nat => decide (0 < nth xs i)).map fun i : Nat => (i : Int)
def gameOk (g : Gam) : Prop := g.moves.Nodup ∧ (∀ c ∈ g.moves, c ∈ filledAt g.put) ∧ ∀ c ∈ filledAt g.put, c ∈ g.moves ∧ nth g.task.given c ≤ 0
instance (g : Gam) : Decidable (gameOk g) := by unfold gameOk; infer_instance
def eBo (b : Bool) : List FV := [.bool b]
instance : HSz eBo 1 := ⟨fun _ => rfl⟩
theorem eBo_0 (b : Bool) (d : FV) : (eBo b).getD 0 d = .bool b := rfl
theorem zerosBo (n : Nat) : zerosL (n * 1) [.f (.bool false)] = cl eBo (List.replicate n false) := by
  simp only [zerosL, Nat.mul_one, List.length_singleton, Nat.mod_one]
  induction n with
  | zero => rfl
  | succ n ih => rw [List.range_succ, List.map_append, ih, List.replicate_succ', cl_append]; rfl
theorem setBo {xs : List Bool} {e : Int} {v : Bool} (h : 0 ≤ e ∧ e < (xs.length : Int)) : setRange (cl eBo xs) (0 + e.toNat * 1) [.f (.bool v)] = cl eBo (xs.set e.toNat v) :=
  setRange_cl (E := eBo) (by omega)
attribute [go_sem] eBo_0 zerosBo setBo
end Go.Lg

set_option linter.unusedSimpArgs false
set_option linter.unusedVariables false
set_option maxRecDepth 100000
namespace Go.Lg
open Go.Proofs
theorem OpS.nilOpen {P : Program} {o : Oper} {st : St} {K : KV} {t yt : TypeId} {x y : Operand} {ei : TI} (ho : o.op = .binOp .eql t x y yt) (ht : sliceOf P t = some ei)
    (hx : evO st.s x = .c (.f (.sl 0 []))) (hy : isNilV st.h (evO st.s y) = some true) (hk : ∀ b, K (.c (.f (.bool b))) st.h) : OpS P o st K := by
  intro w X a R next Q hn
  obtain ⟨ti, e, ht, hk', he⟩ := sliceOf_some ht
  obtain ⟨inf, d, z', h1, h2, h3, h4, h5, h6, h7⟩ := tinf_some ht
  rw [h5] at hk'; cases tk_slice hk'
  have e2 := nil_of_isNone hy (evO_sound R y)
  have hx' := evO_sound R x
  rw [hx] at hx'
  have : ∃ a0 c, a.eval x = .slice a0 0 c := by
    have hh := va_c hx'
    generalize a.eval x = xv at hh
    cases hh with
    | sl0 a cap => exact ⟨_, _, rfl⟩
    | sl n cs b o cap u hc hI hu hv => exact ⟨_, _, rfl⟩
  obtain ⟨a0, c, ex⟩ := this
  have hrun : (do eqGuard .eql t x y (a.eval x) (a.eval y); binOp .eql t (a.eval x) (a.eval y) : Sem Value).run P w = .ok (.bool a0.isNone) w := by
    rw [Sem.run_bind, run_eqGuard_plain (by rw [ex]), Result.andThen_ok, e2, ex]
    exact Lib.run_eql_slice_nil w t e _ _ _ _ _ h2
  have h1 : (execOp a.eval o).run P w = .ok (.value (.bool a0.isNone)) w := by
    simp only [execOp, ho]; rw [Sem.run_bind, hrun]; rfl
  unfold Oper.wp
  rw [h1, Oper.upon_value]
  exact hn (.c (.f (.bool a0.isNone))) _ X st.h w (.c _ _ (VF.bool _)) R.heap (Ev.refl _ _ _) (hk _)
theorem OpS.valNil {P : Program} {o : Oper} {st : St} {K : KV} (h : opV P st.s st.h o.op = some (.c (.f .nil))) (hk : K (.c (.f (.sl 0 []))) st.h) : OpS P o st K := by
  intro w X a R next Q hn
  obtain ⟨u, h1, h2⟩ := opV_sound (P := P) R h
  unfold Oper.wp
  rw [h1 w (Grow.refl w) o rfl, Oper.upon_value]
  have : VA w X st.h (.c (.f (.sl 0 []))) u := by
    have hh := va_c h2
    cases hh
    exact .c (.f (.sl 0 [])) _ (VF.sl0 none 0)
  exact hn _ u X st.h w this R.heap (Ev.refl _ _ _) hk
theorem RunCall.of_bodyN {P : Program} {f : FuncId} {fn : Func} {c : Code} {args : List AV} {H : Heap} {Q : AV → Heap → Prop} (hf : P.funcs[f]? = some fn) (hb : fn.body = some c) {n : Nat} (hn : fn.ntmps = n) {rs : List ResultVar} (hr : fn.results.toList = rs)
    (h : RunC P c ⟨args ++ List.replicate (n - args.length) .void, H⟩ fun e st' => (e = .normal ∨ e = .ret) ∧ ∃ v H', resV P st'.s st'.h rs = some v ∧ HLe st'.h H' ∧ Q v H') : RunCall P f args H Q := by
  subst hn hr
  exact RunCall.of_body hf hb h
theorem sliceOf_of {P : Program} {t e : TypeId} {ti ei : TI} (ht : tinf P t = some ti) (hk : ti.k = .slice e) (he : tinf P e = some ei) : sliceOf P t = some ei := by
  unfold sliceOf; simp only [ht, hk, he]
theorem binA_ne {P : Program} {H : Heap} {t e : TypeId} {ti : TI} {n : Nat} {cs : List FV} (ht : tinf P t = some ti) (hk : ti.k = .slice e) (hn : 0 < n) : binA P H .eql t (.c (.f (.sl n cs))) (.c (.f .nil)) = some (.c (.f (.bool false))) := by
  unfold binA
  simp only [ht, hk, isNilV, if_neg (show ¬ n = 0 by omega)]
  rfl
theorem Clone_ne (xs : List Int) (hx : xs.length ≤ 2 ^ 40) (h0 : xs ≠ []) : RunCall Try.prog 106 [ints xs] [] (ownIQ xs) := by
  have hp : 0 < xs.length := List.length_pos_iff.2 h0
  refine RunCall.cw (c := _) Try.func106 rfl (n := 8) Try.ntmps106 (rs := [.tmp 2]) rfl ?_
  simp only [List.length_cons, List.length_nil, Nat.reduceAdd, Nat.reduceSub, List.replicate, List.cons_append, List.nil_append]
  simp (maxSteps := 1000000) (disch := omega) only [go_sem, Nat.reduceAdd, Nat.reduceMul, Nat.reduceSub, Nat.reduceEqDiff, Nat.reduceLeDiff, binA_ne ti23 rfl hp]
  intro g g'
  rw [Nat.zero_add]
  exact ⟨_, HLe.refl _, _, _, rfl, .o 0 g' none xs [] (by rw [List.append_nil]; exact look_of (b := ⟨g', 1, cl (eI .i64) xs⟩) rfl), scalH_ints (fun id b hb => by simp at hb)⟩
theorem Clone_e : RunCall Try.prog 106 [ints []] [] (ownIQ []) := by
  refine RunCall.of_bodyN (c := _) rfl rfl (n := 8) rfl (rs := [.tmp 2]) rfl ?_
  refine RunC.seq (RunC.region (OpS.val (v := .c (.f .nil)) rfl ?_))
  refine RunC.seq (RunC.seq (RunC.region (OpS.val (v := ints []) rfl (OpS.nilOpen rfl (sliceOf_of ti23 rfl ti3) rfl rfl fun b => ?_))))
  refine RunC.cond (b := b) rfl (fun hb => ?_) (fun hb => ?_)
  · refine RunC.seq (RunC.region (OpS.valNil rfl ?_))
    refine RunC.ret ?_
    exact ⟨.inr rfl, _, _, rfl, HLe.refl _, _, _, rfl, .e, fun id b hb => by simp at hb⟩
  · refine RunC.skip ?_
    refine (cw_sound _ _ _ (doneK Try.prog [.tmp 2] (ownIQ [])) ?_).mono fun e st ⟨h1, v, h2, H', h3, h4⟩ => ⟨h1, v, H', h2, h3, h4⟩
    simp only [List.length_cons, List.length_nil, Nat.reduceAdd, Nat.reduceSub, List.replicate, List.cons_append, List.nil_append]
    simp (maxSteps := 1000000) (disch := omega) only [go_sem, Nat.reduceAdd, Nat.reduceMul, Nat.reduceSub, Nat.reduceEqDiff, Nat.reduceLeDiff]
    intro g
    show lessQ [some ⟨g, 1, []⟩] (ownIQ []) (.c (.own 0 g 0 0 none))
    exact ⟨_, HLe.refl _, _, _, rfl, .o 0 g none [] [] (look_of (b := ⟨g, 1, []⟩) rfl), scalH_ints (xs := []) (fun id b hb => by simp at hb)⟩
theorem Clone_own (xs : List Int) (hx : xs.length ≤ 2 ^ 40) : RunCall Try.prog 106 [ints xs] [] (ownIQ xs) := by
  by_cases h : xs = []
  · subst h; exact Clone_e
  · exact Clone_ne xs hx h
end Go.Lg
