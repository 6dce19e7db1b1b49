/- GpTI, GpTJ, GpM, cut to what is needed. -/
import Derived.Test.YtcopagjhklcokaaRfd4
import Derived.Test.YtcopagjhklcokaaRfc2
open Nat(reduceAdd reduceMul reduceSub reduceEqDiff reduceLeDiff)
set_option linter.unusedSimpArgs false
set_option linter.unusedVariables false
set_option maxRecDepth 100000
namespace Go.Lg
open Go.Proofs
attribute [-go_sem] appendM
def makeB (p : Puz) : Bool := puzzleValid p && decide ((mkF p 201 (startM p) []).length ≤ 200)
def makeL (p : Puz) : List Brn := if makeB p = true then mkF p 201 (startM p) [] else []
theorem makeL_len (p : Puz) : (makeL p).length ≤ 200 := by
  unfold makeL
  split
  · rename_i h
    simp only [makeB, Bool.and_eq_true, decide_eq_true_eq] at h
    exact h.2
  · simp
def mprQ (p : Puz) : KV := fun v H => ∃ c, v = .tup [.c c, bool (makeB p)] ∧ OwnL eB 2 H c (makeL p) ∧ scalH H
theorem OwnL.ofLook {H : Heap} {id g : Nat} {xs : List Brn} {k : Nat} (h : look H id g = some ⟨g, 2, cl eB xs⟩) (hk : xs.length = k) : OwnL eB 2 H (.own id g 0 k none) xs := by
  subst hk
  exact .o id g xs h
theorem lessQ_mpr {H : Heap} {c : CV} {p : Puz} {b : Bool} {L : List Brn} (e1 : makeB p = b) (e2 : makeL p = L) (h : OwnL eB 2 H c L) : lessQ H (mprQ p) (.tup [.c c, bool b]) := by
  subst e1
  subst e2
  generalize hL : makeL p = L at h
  cases h with
  | n => exact ⟨[], hle_nil _, _, rfl, by rw [hL]; exact .n, fun id b hb => by simp at hb⟩
  | m => exact ⟨[], hle_nil _, _, rfl, by rw [hL]; exact .m, fun id b hb => by simp at hb⟩
  | o id g xs h =>
    have hlt : id < H.length := (List.getElem?_eq_some_iff.1 (look_some h).1).1
    refine ⟨keepH [id] H, keepH_le _ _, _, rfl, ?_, scalH_keep fun i hi b hb c hc => ?_⟩
    · rw [hL]
      refine OwnL.ofLook ?_ rfl
      unfold look at h ⊢
      rw [keepH_get (by simp) hlt]
      exact h
    · have : i = id := by simpa using hi
      subst this
      rw [(look_some h).1] at hb
      cases hb
      obtain ⟨x, hx, rfl⟩ := List.mem_map.1 hc
      obtain ⟨y, _, hy⟩ := List.mem_flatMap.1 hx
      have hy : x ∈ [FV.int .i64 y.tech, FV.int .i64 y.cell] := hy
      simp only [List.mem_cons, List.not_mem_nil, or_false] at hy
      rcases hy with rfl | rfl <;> rfl
set_option maxHeartbeats 4000000 in
theorem sMakeProof_own (p : Puz) (hx : smP p) : RunCall Try.prog 41 [aP p] [] (mprQ p) := by
  refine RunCall.cw (c := _) Try.func41 rfl (n := 19) Try.ntmps41 (rs := [.tmp 2, .tmp 3]) rfl ?_
  simp only [List.length_cons, List.length_nil, Nat.reduceAdd, Nat.reduceSub, List.replicate, List.cons_append, List.nil_append]
  simp(maxSteps:=999999)(disch:=omega)only[go_sem,reduceAdd,reduceMul,reduceSub,reduceEqDiff,reduceLeDiff]
  intro g g2 g3
  first | refine OpS.rd (sPuzzleValid_run p hx) (⟨_, Try.func25, rfl, rfl⟩ : Enters Try.prog 25) rfl rfl rfl rfl ?_ | refine Loud.rd (sPuzzleValid_run p hx) (⟨_, Try.func25, rfl, rfl⟩ : Enters Try.prog 25) rfl rfl rfl rfl ?_
  simp(maxSteps:=999999)(disch:=omega)only[go_sem,reduceAdd,reduceMul,reduceSub,reduceEqDiff,reduceLeDiff]
  cases hv : puzzleValid p with
  | false =>
    have e1 : makeB p = false := by unfold makeB; rw [hv]; rfl
    have e2 : makeL p = [] := by unfold makeL; rw [e1]; rfl
    ((first | with_reducible refine condK_dec ?_ ?_ | with_reducible refine condK_ndec ?_ ?_ | with_reducible refine condK_nb ?_ ?_ | refine condK_b ?_ ?_) <;> intro c0)
    · cases c0
    simp(maxSteps:=999999)(disch:=omega)only[go_sem,reduceAdd,reduceMul,reduceSub,reduceEqDiff,reduceLeDiff]
    exact lessQ_mpr e1 e2 (OwnL.ofLook (H := [some ⟨g, 1, cP p⟩, some ⟨g2, 2, cl eB []⟩, some ⟨g3, 1, [.own 1 g2 0 0 none]⟩]) (look_of (b := ⟨g2, 2, cl eB []⟩) rfl) rfl)
  | true =>
    obtain ⟨hp, hg⟩ := puz_factsT hv
    have hlen := mkF_len p 201 (startM p) [] (by simp)
    have hcl := l20Make_run hp hv 201 (startM p) [] [some ⟨g, 1, cP p⟩, some ⟨g2, 2, cl eB []⟩, some ⟨g3, 1, [.own 1 g2 0 0 none]⟩] 1 2 g2 g3 (startM_ok hp hg) (by simp) (by simp) (look_of (b := ⟨g2, 2, cl eB []⟩) rfl) (look_of (b := ⟨g3, 1, [.own 1 g2 0 0 none]⟩) rfl) (by omega)
    ((first | with_reducible refine condK_dec ?_ ?_ | with_reducible refine condK_ndec ?_ ?_ | with_reducible refine condK_nb ?_ ?_ | refine condK_b ?_ ?_) <;> intro c0)
    rotate_left
    · cases c0
    simp(maxSteps:=999999)(disch:=omega)only[go_sem,reduceAdd,reduceMul,reduceSub,reduceEqDiff,reduceLeDiff]
    refine drawP_lF [0, 1, 2] [] none [3] [] foll (by kernel_rfl) ?_
    simp (maxSteps := 1000000) (disch := omega) only [go_sem, Nat.reduceBEq, Bool.true_or, Nat.reduceAdd, Nat.reduceMul, Nat.reduceSub, Nat.reduceEqDiff, Nat.reduceLeDiff]
    first | refine OpS.mk (sStartMasks_run hp hv hg) (⟨_, Try.func77, rfl, rfl⟩ : Enters Try.prog 77) rfl rfl rfl rfl rfl ?_ | refine Loud.mk (sStartMasks_run hp hv hg) (⟨_, Try.func77, rfl, rfl⟩ : Enters Try.prog 77) rfl rfl rfl rfl rfl ?_
    simp(maxSteps:=999999)(disch:=omega)only[go_sem,reduceAdd,reduceMul,reduceSub,reduceEqDiff,reduceLeDiff]
    refine OpS.run hcl (⟨_, Try.func89, rfl, rfl⟩ : Enters Try.prog 89) rfl rfl ?_
    rintro _ H' ⟨rfl, g', h1, h2, h3⟩
    obtain ⟨R, hR⟩ : ∃ R, R = mkF p 201 (startM p) [] := ⟨_, rfl⟩
    rw [← hR] at h1 h2 hlen
    have hB : makeB p = decide (R.length ≤ 200) := by unfold makeB; rw [hv, Bool.true_and, hR]
    simp(maxSteps:=999999)(disch:=omega)only[go_sem,reduceAdd,reduceMul,reduceSub,reduceEqDiff,reduceLeDiff, h1, h2]
    ((first | with_reducible refine condK_dec ?_ ?_ | with_reducible refine condK_ndec ?_ ?_ | with_reducible refine condK_nb ?_ ?_ | refine condK_b ?_ ?_) <;> intro c1)
    · have e1 : makeB p = false := by rw [hB]; exact decide_eq_false (by omega)
      have e2 : makeL p = [] := by unfold makeL; rw [e1]; rfl
      simp(maxSteps:=999999)(disch:=omega)only[go_sem,reduceAdd,reduceMul,reduceSub,reduceEqDiff,reduceLeDiff]
      intro g9
      exact lessQ_mpr e1 e2 (OwnL.ofLook (xs := []) look_last rfl)
    · have e1 : makeB p = true := by rw [hB]; exact decide_eq_true (by omega)
      have e2 : makeL p = R := by unfold makeL; rw [e1, hR]; rfl
      simp(maxSteps:=999999)(disch:=omega)only[go_sem,reduceAdd,reduceMul,reduceSub,reduceEqDiff,reduceLeDiff, h2]
      exact lessQ_mpr e1 e2 (OwnL.ofLook h1 rfl)
set_option maxHeartbeats 4000000 in
theorem MakeProof_own (p : Puz) (hx : smP p) : RunCall Try.prog 42 [aP p] [] (mprQ p) := by
  refine RunCall.cw (c := _) Try.func42 rfl (n := 17) Try.ntmps42 (rs := [.tmp 2, .tmp 3]) rfl ?_
  simp only [List.length_cons, List.length_nil, Nat.reduceAdd, Nat.reduceSub, List.replicate, List.cons_append, List.nil_append]
  simp(maxSteps:=999999)(disch:=omega)only[go_sem,reduceAdd,reduceMul,reduceSub,reduceEqDiff,reduceLeDiff]
  intro g
  first | refine OpS.rd (PuzzleValid_run p hx) (⟨_, Try.func66, rfl, rfl⟩ : Enters Try.prog 66) rfl rfl rfl rfl ?_ | refine Loud.rd (PuzzleValid_run p hx) (⟨_, Try.func66, rfl, rfl⟩ : Enters Try.prog 66) rfl rfl rfl rfl ?_
  simp(maxSteps:=999999)(disch:=omega)only[go_sem,reduceAdd,reduceMul,reduceSub,reduceEqDiff,reduceLeDiff]
  cases hv : puzzleValid p with
  | false =>
    have e1 : makeB p = false := by unfold makeB; rw [hv]; rfl
    have e2 : makeL p = [] := by unfold makeL; rw [e1]; rfl
    ((first | with_reducible refine condK_dec ?_ ?_ | with_reducible refine condK_ndec ?_ ?_ | with_reducible refine condK_nb ?_ ?_ | refine condK_b ?_ ?_) <;> intro c0)
    · cases c0
    simp(maxSteps:=999999)(disch:=omega)only[go_sem,reduceAdd,reduceMul,reduceSub,reduceEqDiff,reduceLeDiff]
    exact lessQ_mpr e1 e2 (.n)
  | true =>
    obtain ⟨hp, hg⟩ := puz_factsT hv
    have hlen := mkF_len p 201 (startM p) [] (by simp)
    ((first | with_reducible refine condK_dec ?_ ?_ | with_reducible refine condK_ndec ?_ ?_ | with_reducible refine condK_nb ?_ ?_ | refine condK_b ?_ ?_) <;> intro c0)
    rotate_left
    · cases c0
    simp(maxSteps:=999999)(disch:=omega)only[go_sem,reduceAdd,reduceMul,reduceSub,reduceEqDiff,reduceLeDiff]
    refine drawP_lM [0, 1, 2, 3] [2] none [4, 5] [false, true] [0, 0, 2, 0, 15, 31] foll (by kernel_rfl) ?_
    simp(maxSteps:=999999)(disch:=omega)only[go_sem,reduceAdd,reduceMul,reduceSub,reduceEqDiff,reduceLeDiff]
    refine softW_call (StartMasks_run hp hv hg) (⟨_, Try.func84, rfl, rfl⟩ : Enters Try.prog 84) rfl rfl (by
      intro x hm
      simp only [Call.operands, List.mem_toArray, Array.mem_append, List.mem_cons, List.not_mem_nil, or_false] at hm
      rcases hm with rfl | rfl <;> rfl) rfl ⟨rfl, rfl, rfl, rfl⟩ ?_
    simp(maxSteps:=999999)(disch:=omega)only[go_sem,reduceAdd,reduceMul,reduceSub,reduceEqDiff,reduceLeDiff]
    intro g2
    have hcl := makeLines_run hp hv 201 (startM p) [] [some ⟨g, 1, cP p⟩, some ⟨g2, 2, cl eB []⟩] 1 g2 (startM_ok hp hg) (by simp) (by simp) (look_of (b := ⟨g2, 2, cl eB []⟩) rfl)
    refine OpS.run hcl (⟨_, Try.func90, rfl, rfl⟩ : Enters Try.prog 90) rfl rfl ?_
    rintro _ H' ⟨g', rfl, h1, h3⟩
    obtain ⟨R, hR⟩ : ∃ R, R = mkF p 201 (startM p) [] := ⟨_, rfl⟩
    rw [← hR] at h1 hlen ⊢
    have hB : makeB p = decide (R.length ≤ 200) := by unfold makeB; rw [hv, Bool.true_and, hR]
    simp(maxSteps:=999999)(disch:=omega)only[go_sem,reduceAdd,reduceMul,reduceSub,reduceEqDiff,reduceLeDiff, h1]
    ((first | with_reducible refine condK_dec ?_ ?_ | with_reducible refine condK_ndec ?_ ?_ | with_reducible refine condK_nb ?_ ?_ | refine condK_b ?_ ?_) <;> intro c1)
    · have e1 : makeB p = false := by rw [hB]; exact decide_eq_false (by omega)
      have e2 : makeL p = [] := by unfold makeL; rw [e1]; rfl
      simp(maxSteps:=999999)(disch:=omega)only[go_sem,reduceAdd,reduceMul,reduceSub,reduceEqDiff,reduceLeDiff]
      exact lessQ_mpr e1 e2 (.n)
    · have e1 : makeB p = true := by rw [hB]; exact decide_eq_true (by omega)
      have e2 : makeL p = R := by unfold makeL; rw [e1, hR]; rfl
      simp(maxSteps:=999999)(disch:=omega)only[go_sem,reduceAdd,reduceMul,reduceSub,reduceEqDiff,reduceLeDiff]
      exact lessQ_mpr e1 e2 (OwnL.ofLook h1 rfl)
end Go.Lg

set_option linter.unusedSimpArgs false
set_option linter.unusedVariables false
set_option maxRecDepth 100000
namespace Go.Lg
open Go.Proofs
def mkB (k : Int) (n : Nat) : List Brn := (List.range n).map fun (i : Nat) => ⟨k + 2 * (i : Int), k + 2 * (i : Int) + 1⟩
theorem mkB_len (k : Int) (n : Nat) : (mkB k n).length = n := by simp [mkB]
theorem mkB_nth {k : Int} {n j : Nat} (h : j < n) : nth (mkB k n) j = ⟨k + 2 * j, k + 2 * j + 1⟩ := by
  rw [nth_eq (by rw [mkB_len]; omega)]
  simp [mkB]
instance : HSzK cB 2 := ⟨fun _ => rfl⟩
theorem cl_kB (xs : List Brn) : cl eB xs = kl cB xs := by
  induction xs with
  | nil => rfl
  | cons x xs ih =>
    show (eB x ++ fl eB xs).map CV.f = cB x ++ kl cB xs
    rw [List.map_append, ← ih]
    rfl
theorem setRB0 {zs : List Brn} {i : Nat} (h : i < zs.length) (a : Int) : setRange (cl eB zs) (0 + ((i : Nat) : Int).toNat * 2 + 0) [CV.f (.int .i64 a)] = cl eB (zs.set i ⟨a, (nth zs i).cell⟩) := by
  rw [Int.toNat_natCast, cl_kB, cl_kB, setRange_klj (E := cB) (n := 2) (v := ⟨a, (nth zs i).cell⟩) h (by omega)]
  rw [nth_eq (by omega)]
  rfl
theorem setRB1 {zs : List Brn} {i : Nat} (h : i < zs.length) (a : Int) : setRange (cl eB zs) (0 + ((i : Nat) : Int).toNat * 2 + 1) [CV.f (.int .i64 a)] = cl eB (zs.set i ⟨(nth zs i).tech, a⟩) := by
  rw [Int.toNat_natCast, cl_kB, cl_kB, setRange_klj (E := cB) (n := 2) (v := ⟨(nth zs i).tech, a⟩) h (by omega)]
  rw [nth_eq (by omega)]
  rfl
theorem markBranchS_view (H : Heap) (id g : Nat) (xs : List Brn) (k : Int) (hl : look H id g = some ⟨g, 2, cl eB xs⟩) (hk : 0 ≤ k ∧ k ≤ 2 ^ 50) (hx : xs.length ≤ 2 ^ 40) :
    RunCall Try.prog 44 [.c (.own id g 0 xs.length none), int k] H (fun r H' => r = int (k + 2 * xs.length) ∧ H' = H.set id (some ⟨g, 2, cl eB (mkB k xs.length)⟩)) := by
  refine RunCall.cw (c := _) Try.func44 rfl (n := 27) Try.ntmps44 (rs := [.tmp 4]) rfl ?_
  simp only [List.length_cons, List.length_nil, Nat.reduceAdd, Nat.reduceSub, List.replicate, List.cons_append, List.nil_append]
  simp(maxSteps:=999999)(disch:=omega)only[go_sem,reduceAdd,reduceMul,reduceSub,reduceEqDiff,reduceLeDiff]
  have hid : H[id]? = some (some ⟨g, 2, cl eB xs⟩) := (look_some hl).1
  have hlt : id < H.length := (List.getElem?_eq_some_iff.1 hid).1
  have hs : ∀ ys : List Brn, look (H.set id (some ⟨g, 2, cl eB ys⟩)) id g = some ⟨g, 2, cl eB ys⟩ := fun ys => look_of (b := ⟨g, 2, cl eB ys⟩) (by rw [List.getElem?_set_self hlt])
  refine loop_rule2 (fun (i : Nat) (zs : List Brn) => xs.length - i) (fun i zs => i ≤ xs.length ∧ zs.length = xs.length ∧ ∀ j : Nat, j < i → nth zs j = ⟨k + 2 * j, k + 2 * j + 1⟩) (fun i _ => [.k, .p (int (k + 2 * i)), .a, .a, .a, .p (int i), .a, .a, .a, .a, .a, .a, .a, .a, .a, .a, .a, .a, .a, .a, .a, .a, .a, .a, .a, .a, .a]) (fun _ zs => H.set id (some ⟨g, 2, cl eB zs⟩)) 0 xs ⟨Nat.zero_le _, rfl, fun j hj => absurd hj (Nat.not_lt_zero _)⟩ (by simp(maxSteps:=999999)(disch:=omega)only[go_sem,reduceAdd,reduceMul,reduceSub,reduceEqDiff,reduceLeDiff]; simp) (hle_set_same hid) ?_
  rintro i zs ⟨hi, hly, hall⟩
  simp(maxSteps:=999999)(disch:=omega)only[go_sem,reduceAdd,reduceMul,reduceSub,reduceEqDiff,reduceLeDiff, hs]
  ((first | with_reducible refine condK_dec ?_ ?_ | with_reducible refine condK_ndec ?_ ?_ | with_reducible refine condK_nb ?_ ?_ | refine condK_b ?_ ?_) <;> intro h)
  · have h : i < xs.length := by omega
    have e0 := fun a : Int => setRB0 (zs := zs) (i := i) (by omega) a
    have hl2 : ∀ v : Brn, (zs.set i v).length = xs.length := fun v => by rw [List.length_set]; exact hly
    have e1 := fun (v : Brn) (a : Int) => setRB1 (zs := zs.set i v) (i := i) (by rw [hl2]; exact h) a
    simp(maxSteps:=999999)(disch:=omega)only[go_sem,reduceAdd,reduceMul,reduceSub,reduceEqDiff,reduceLeDiff, hs, e0, List.set_set, hl2, e1]
    have e2 : nth (zs.set i (⟨k + 2 * (i : Int), (nth zs i).cell⟩ : Brn)) (i : Int) = ⟨k + 2 * (i : Int), (nth zs i).cell⟩ := by
      rw [nth_eq (by rw [hl2]; omega)]
      simp
    refine ⟨i + 1, zs.set i ⟨k + 2 * (i : Int), k + 2 * (i : Int) + 1⟩, ⟨⟨h, hl2 _, fun j hj => ?_⟩, by omega⟩, ⟨by push_cast; omega, by push_cast; rfl⟩, by rw [e2]; exact HLe.refl _⟩
    rw [nth_eq (by rw [hl2]; omega)]
    by_cases hji : j = i
    · subst hji; simp
    · have := hall j (by omega)
      rw [nth_eq (by omega)] at this
      simp only [Int.toNat_natCast, List.getElem_set] at this ⊢
      rw [if_neg (Ne.symm hji)]
      exact this
  have h : i = xs.length := by omega
  subst h
  simp(maxSteps:=999999)(disch:=omega)only[go_sem,reduceAdd,reduceMul,reduceSub,reduceEqDiff,reduceLeDiff]
  have : zs = mkB k xs.length := ext_nth (by rw [hly, mkB_len]) fun j hj => by
    rw [hall j (by omega), mkB_nth (by omega)]
  rw [this]
  exact ⟨_, HLe.refl _, rfl, rfl⟩
theorem markBNil_run (c : CV) (hc : c = .f .nil ∨ c = .emp) (k : Int) : Reads Try.prog 44 [.c c, int k] (int k) := by
  rcases hc with rfl | rfl
  · refine RunCall.cw (c := _) Try.func44 rfl (n := 27) Try.ntmps44 (rs := [.tmp 4]) rfl ?_
    simp only [List.length_cons, List.length_nil, Nat.reduceAdd, Nat.reduceSub, List.replicate, List.cons_append, List.nil_append]
    simp(maxSteps:=999999)(disch:=omega)only[go_sem,reduceAdd,reduceMul,reduceSub,reduceEqDiff,reduceLeDiff]
    refine loop_rule2 (fun (i : Nat) (z : Nat) => i) (fun i z => True) (fun i _ => [.k, .p (int k), .a, .a, .a, .p (int 0), .a, .a, .a, .a, .a, .a, .a, .a, .a, .a, .a, .a, .a, .a, .a, .a, .a, .a, .a, .a, .a]) (fun _ _ => []) 0 0 trivial (by simp(maxSteps:=999999)(disch:=omega)only[go_sem,reduceAdd,reduceMul,reduceSub,reduceEqDiff,reduceLeDiff]) (hle_nil _) ?_
    rintro i z _
    simp(maxSteps:=999999)(disch:=omega)only[go_sem,reduceAdd,reduceMul,reduceSub,reduceEqDiff,reduceLeDiff]
    ((first | with_reducible refine condK_dec ?_ ?_ | with_reducible refine condK_ndec ?_ ?_ | with_reducible refine condK_nb ?_ ?_ | refine condK_b ?_ ?_) <;> intro c1)
    · exfalso; omega
    simp(maxSteps:=999999)(disch:=omega)only[go_sem,reduceAdd,reduceMul,reduceSub,reduceEqDiff,reduceLeDiff]
  · refine RunCall.cw (c := _) Try.func44 rfl (n := 27) Try.ntmps44 (rs := [.tmp 4]) rfl ?_
    simp only [List.length_cons, List.length_nil, Nat.reduceAdd, Nat.reduceSub, List.replicate, List.cons_append, List.nil_append]
    simp(maxSteps:=999999)(disch:=omega)only[go_sem,reduceAdd,reduceMul,reduceSub,reduceEqDiff,reduceLeDiff]
    refine loop_rule2 (fun (i : Nat) (z : Nat) => i) (fun i z => True) (fun i _ => [.k, .p (int k), .a, .a, .a, .p (int 0), .a, .a, .a, .a, .a, .a, .a, .a, .a, .a, .a, .a, .a, .a, .a, .a, .a, .a, .a, .a, .a]) (fun _ _ => []) 0 0 trivial (by simp(maxSteps:=999999)(disch:=omega)only[go_sem,reduceAdd,reduceMul,reduceSub,reduceEqDiff,reduceLeDiff]) (hle_nil _) ?_
    rintro i z _
    simp(maxSteps:=999999)(disch:=omega)only[go_sem,reduceAdd,reduceMul,reduceSub,reduceEqDiff,reduceLeDiff]
    ((first | with_reducible refine condK_dec ?_ ?_ | with_reducible refine condK_ndec ?_ ?_ | with_reducible refine condK_nb ?_ ?_ | refine condK_b ?_ ?_) <;> intro c1)
    · exfalso; omega
    simp(maxSteps:=999999)(disch:=omega)only[go_sem,reduceAdd,reduceMul,reduceSub,reduceEqDiff,reduceLeDiff]
theorem markBranchS_L (H : Heap) (c : CV) (xs : List Brn) (k : Int) (h : OwnL eB 2 H c xs) (hk : 0 ≤ k ∧ k ≤ 2 ^ 50) (hx : xs.length ≤ 2 ^ 40) :
    RunCall Try.prog 44 [.c c, int k] H (fun r H' => r = int (k + 2 * xs.length) ∧ OwnL eB 2 H' c (mkB k xs.length) ∧ H'.length = H.length ∧ ∀ i, ¬ idsC c i → H'[i]? = H[i]?) := by
  cases h with
  | n =>
    refine (RunCall.frame rfl (markBNil_run _ (.inl rfl) k) fun r H' h => by rw [h]; rfl).weaker ?_
    rintro r H2 ⟨r', H', rfl, rfl, rfl⟩
    refine ⟨H, HLe.app _ _, ?_, .n, rfl, fun _ _ => rfl⟩
    simp [shiftA, shift1, shiftC]
  | m =>
    refine (RunCall.frame rfl (markBNil_run _ (.inr rfl) k) fun r H' h => by rw [h]; rfl).weaker ?_
    rintro r H2 ⟨r', H', rfl, rfl, rfl⟩
    refine ⟨H, HLe.app _ _, ?_, .m, rfl, fun _ _ => rfl⟩
    simp [shiftA, shift1, shiftC]
  | o id g xs h =>
    refine (markBranchS_view H id g xs k h hk hx).weaker ?_
    rintro r H2 ⟨rfl, rfl⟩
    have hlt : id < H.length := (List.getElem?_eq_some_iff.1 (look_some h).1).1
    refine ⟨_, HLe.refl _, rfl, OwnL.ofLook (look_of (b := ⟨g, 2, cl eB (mkB k xs.length)⟩) (by rw [List.getElem?_set_self hlt])) (mkB_len _ _), by simp, fun i hi => ?_⟩
    rw [List.getElem?_set_ne]
    intro e
    exact hi (by first | exact e.symm | exact e | simp [idsC, e])
theorem heldBranchS_run (n : Nat) (k : Int) (hk : 0 ≤ k ∧ k ≤ 2 ^ 50) (hn : n ≤ 2 ^ 40) : Reads Try.prog 45 [rsl eB (mkB k n), int k] (int (k + 2 * n)) := by
  have hlen := mkB_len k n
  refine RunCall.cw (c := _) Try.func45 rfl (n := 31) Try.ntmps45 (rs := [.tmp 4]) rfl ?_
  simp only [List.length_cons, List.length_nil, Nat.reduceAdd, Nat.reduceSub, List.replicate, List.cons_append, List.nil_append]
  simp(maxSteps:=999999)(disch:=omega)only[go_sem,reduceAdd,reduceMul,reduceSub,reduceEqDiff,reduceLeDiff]
  refine loop_rule (fun i : Nat => n - i) (fun i => i ≤ n) (fun i => [.k, .p (int (k + 2 * i)), .a, .a, .a, .p (int i), .a, .a, .a, .a, .a, .a, .a, .a, .a, .a, .a, .a, .a, .a, .a, .a, .a, .a, .a, .a, .a, .a, .a, .a, .a]) (fun _ => []) 0 (Nat.zero_le _) (by simp(maxSteps:=999999)(disch:=omega)only[go_sem,reduceAdd,reduceMul,reduceSub,reduceEqDiff,reduceLeDiff]; simp) (hle_nil _) ?_
  intro i hi
  simp(maxSteps:=999999)(disch:=omega)only[go_sem,reduceAdd,reduceMul,reduceSub,reduceEqDiff,reduceLeDiff, hlen]
  ((first | with_reducible refine condK_dec ?_ ?_ | with_reducible refine condK_ndec ?_ ?_ | with_reducible refine condK_nb ?_ ?_ | refine condK_b ?_ ?_) <;> intro h)
  · have h : i < n := by omega
    have hb := mkB_nth (k := k) h
    simp(maxSteps:=999999)(disch:=omega)only[go_sem,reduceAdd,reduceMul,reduceSub,reduceEqDiff,reduceLeDiff, lt_no, lt_yes, le_no, le_yes, eq_no, eq_yes, hlen, hb]
    exact ⟨i + 1, ⟨h, by omega⟩, ⟨by push_cast; omega, by push_cast; rfl⟩, hle_nil _⟩
  have h : i = n := by omega
  subst h
  simp(maxSteps:=999999)(disch:=omega)only[go_sem,reduceAdd,reduceMul,reduceSub,reduceEqDiff,reduceLeDiff]
end Go.Lg

set_option linter.unusedSimpArgs false
set_option linter.unusedVariables false
set_option maxRecDepth 100000
namespace Go.Lg
open Go.Proofs
def mrk (k : Int) : List Rul → List Rul
  | [] => []
  | r :: rs => ⟨k, marks (k + 1) r.cells.length, k + 1 + r.cells.length⟩ :: mrk (k + 2 + r.cells.length) rs
def wM (rs : List Rul) : Nat := (rs.map fun r => 2 + r.cells.length).sum
theorem wM_app (a b : List Rul) : wM (a ++ b) = wM a + wM b := by simp [wM]
theorem wM_one (r : Rul) : wM [r] = 2 + r.cells.length := by simp [wM]
theorem mrk_app (k : Int) (a b : List Rul) : mrk k (a ++ b) = mrk k a ++ mrk (k + wM a) b := by
  induction a generalizing k with
  | nil => simp [mrk, wM]
  | cons r a ih =>
    simp only [List.cons_append, mrk, ih, wM, List.map_cons, List.sum_cons]
    congr 3
    push_cast
    omega
theorem wM_take_le (rs : List Rul) (i : Nat) : wM (rs.take i) ≤ wM rs := by
  conv => rhs; rw [← List.take_append_drop i rs, wM_app]
  omega
theorem wM_le (rs : List Rul) : wM rs ≤ 2 * wRs rs := by
  unfold wM wRs
  induction rs with
  | nil => simp
  | cons r rs ih => simp only [List.map_cons, List.sum_cons, List.length_cons] at ih ⊢; omega
theorem setRange_app {A ys m : List CV} {o : Nat} (h : o + m.length ≤ A.length) : setRange (A ++ ys) o m = setRange A o m ++ ys := by
  simp only [setRange]
  rw [List.take_append_of_le_length (by omega), List.drop_append_of_le_length (by omega)]
  simp
theorem ldP_kR {g : Nat} {l : List RO} {ys : List CV} {i : Nat} (h : i < l.length) : ldP (some ⟨g, 3, kl kR l ++ ys⟩) (0 + ((i : Int)).toNat * 3 + 1) = some (.c l[i].c) := by
  have hl := kl_length (E := kR) l
  have hle : (i + 1) * 3 ≤ l.length * 3 := Nat.mul_le_mul_right _ h
  rw [ldP_some]
  simp only [Int.toNat_natCast, Nat.zero_add]
  rw [List.getElem?_append_left (by omega), kl_getAt h (by omega)]
  rfl
def RO.setK (o : RO) (k : Int) : RO := { o with r := { o.r with kind := k } }
def RO.setV (o : RO) (k : Int) : RO := { o with r := { o.r with val := k } }
def RO.setC (o : RO) (xs : List Int) : RO := { o with r := { o.r with cells := xs } }
theorem set_kind {l : List RO} {ys : List CV} {i : Nat} {k : Int} (h : i < l.length) : setRange (kl kR l ++ ys) (0 + ((i : Int)).toNat * 3 + 0) [.f (.int .i64 k)] = kl kR (l.set i (l[i].setK k)) ++ ys := by
  have hl := kl_length (E := kR) l
  have hle : (i + 1) * 3 ≤ l.length * 3 := Nat.mul_le_mul_right _ h
  simp only [Int.toNat_natCast]
  rw [setRange_app (by simp; omega), setRange_klj (v := l[i].setK k) h (by omega) rfl]
theorem set_val {l : List RO} {ys : List CV} {i : Nat} {k : Int} (h : i < l.length) : setRange (kl kR l ++ ys) (0 + ((i : Int)).toNat * 3 + 2) [.f (.int .i64 k)] = kl kR (l.set i (l[i].setV k)) ++ ys := by
  have hl := kl_length (E := kR) l
  have hle : (i + 1) * 3 ≤ l.length * 3 := Nat.mul_le_mul_right _ h
  simp only [Int.toNat_natCast]
  rw [setRange_app (by simp; omega), setRange_klj (v := l[i].setV k) h (by omega) rfl]
theorem kl_setC {l : List RO} {i : Nat} {xs : List Int} (h : i < l.length) : kl kR (l.set i (l[i].setC xs)) = kl kR l := by
  have e : kl kR (l.set i (l[i].setC xs)) = kl kR (l.set i l[i]) := by
    rw [List.set_eq_take_append_cons_drop, if_pos h, List.set_eq_take_append_cons_drop, if_pos h]
    rw [kl_append, kl_append]
    rfl
  rw [e, List.set_getElem_self]
theorem flat_disj {l : List RO} (hn : (l.flatMap (·.i)).Nodup) {i j : Nat} (hi : i < l.length) (hj : j < l.length) (hij : i < j) {x : Nat} (h1 : x ∈ l[i].i) (h2 : x ∈ l[j].i) : False := by
  rw [← List.take_append_drop j l, List.flatMap_append, List.nodup_append] at hn
  refine hn.2.2 x (List.mem_flatMap.2 ⟨l[i], ?_, h1⟩) x (List.mem_flatMap.2 ⟨l[j], ?_, h2⟩) rfl
  · rw [List.mem_take_iff_getElem]
    exact ⟨i, by omega, rfl⟩
  · exact List.mem_iff_getElem.2 ⟨0, by simp; omega, by simp⟩
theorem markRuleNil_run (k : Int) : Reads Try.prog 88 [rsl eR [], int k] (int k) := by
  refine RunCall.cw (c := _) Try.func88 rfl (n := 34) Try.ntmps88 (rs := [.tmp 4]) rfl ?_
  simp only [List.length_cons, List.length_nil, Nat.reduceAdd, Nat.reduceSub, List.replicate, List.cons_append, List.nil_append]
  simp(maxSteps:=999999)(disch:=omega)only[go_sem,reduceAdd,reduceMul,reduceSub,reduceEqDiff,reduceLeDiff]
  refine loop_rule (fun _ : Unit => 0) (fun _ => True) (fun _ => [.k, .p (int k), .a, .a, .a, .p (int 0), .a, .a, .a, .a, .a, .a, .a, .a, .a, .a, .a, .a, .a, .a, .a, .a, .a, .a, .a, .a, .a, .a, .a, .a, .a, .a, .a, .a]) (fun _ => []) () trivial (by simp(maxSteps:=999999)(disch:=omega)only[go_sem,reduceAdd,reduceMul,reduceSub,reduceEqDiff,reduceLeDiff]) (hle_nil _) ?_
  intro _ _
  simp(maxSteps:=999999)(disch:=omega)only[go_sem,reduceAdd,reduceMul,reduceSub,reduceEqDiff,reduceLeDiff]
  simp only [show decide ((0 : Int) < ((0 : Nat) : Int)) = false from rfl]
  simp(maxSteps:=999999)(disch:=omega)only[go_sem,reduceAdd,reduceMul,reduceSub,reduceEqDiff,reduceLeDiff]
theorem markRuleS_deep (H : Heap) (c : CV) (rs : List Rul) (S : List Nat) (k : Int) (h : OwnR H c rs S) (hk : 0 ≤ k ∧ k + wM rs ≤ 2 ^ 50) (hx : smRs rs) :
    RunCall Try.prog 88 [.c c, int k] H (fun r H' => r = int (k + wM rs) ∧ OwnR H' c (mrk k rs) S ∧ Frm H H' S) := by
  cases h with
  | e =>
    refine (RunCall.frame rfl (markRuleNil_run k) fun r H' h => by rw [h]; rfl).weaker ?_
    rintro r H2 ⟨r', H', rfl, rfl, rfl⟩
    refine ⟨H, HLe.app _ _, ?_, .e, Frm.refl _ _⟩
    simp [shiftA, shift1, shiftC, wM]
  | o id g lim l ys hlook ho hnd hy =>
    obtain ⟨hn, hcl⟩ := hx
    simp only [List.length_map] at hn
    refine RunCall.cw (c := _) Try.func88 rfl (n := 34) Try.ntmps88 (rs := [.tmp 4]) rfl ?_
    simp only [List.length_cons, List.length_nil, Nat.reduceAdd, Nat.reduceSub, List.replicate, List.cons_append, List.nil_append]
    simp(maxSteps:=999999)(disch:=omega)only[go_sem,reduceAdd,reduceMul,reduceSub,reduceEqDiff,reduceLeDiff]
    refine loop_rule3 (fun (i : Nat) (b : Heap × List RO) (kk : Int) => l.length - i)
      (fun i b kk => i ≤ l.length ∧ kk = k + wM ((l.map (·.r)).take i) ∧ Frm H b.1 (id :: l.flatMap (·.i)) ∧ look b.1 id g = some ⟨g, 3, kl kR b.2 ++ ys⟩ ∧ b.2.length = l.length ∧ (∀ j (h1 : j < b.2.length) (h2 : j < l.length), b.2[j].c = l[j].c ∧ b.2[j].i = l[j].i ∧ OwnI b.1 b.2[j].c b.2[j].r.cells b.2[j].i) ∧
        (b.2.take i).map (·.r) = mrk k ((l.map (·.r)).take i) ∧ (b.2.drop i).map (·.r) = (l.map (·.r)).drop i)
      (fun i b kk => [.k, .p (int kk), .a, .a, .a, .p (int i), .a, .a, .a, .a, .a, .a, .a, .a, .a, .a, .a, .a, .a, .a, .a, .a, .a, .a, .a, .a, .a, .a, .a, .a, .a, .a, .a, .a]) (fun _ b _ => b.1) 0 (H, l) k
      ⟨Nat.zero_le _, by simp [wM], Frm.refl _ _, hlook, rfl, fun j h1 h2 => ⟨rfl, rfl, ho _ (List.getElem_mem h1)⟩, rfl, rfl⟩ (by simp(maxSteps:=999999)(disch:=omega)only[go_sem,reduceAdd,reduceMul,reduceSub,reduceEqDiff,reduceLeDiff]; rfl) (HLe.refl _) ?_
    rintro i ⟨H1, l1⟩ kk ⟨hi, hkk, hf, hl1, hlen, hall, hm1, hm2⟩
    simp only at hf hl1 hlen hall hm1 hm2 ⊢
    have hle := wM_take_le (l.map (·.r)) i
    have hidlt : id < H1.length := (List.getElem?_eq_some_iff.1 (look_some hl1).1).1
    simp(maxSteps:=999999)(disch:=omega)only[go_sem,reduceAdd,reduceMul,reduceSub,reduceEqDiff,reduceLeDiff, hl1]
    ((first | with_reducible refine condK_dec ?_ ?_ | with_reducible refine condK_ndec ?_ ?_ | with_reducible refine condK_nb ?_ ?_ | refine condK_b ?_ ?_) <;> intro h)
    · have h : i < l.length := by omega
      have h' : i < l1.length := by omega
      have hkl := kl_length (E := kR) l1
      have hmul : (i + 1) * 3 ≤ l1.length * 3 := Nat.mul_le_mul_right _ h'
      obtain ⟨q1, q2, q3⟩ := hall i h' h
      have hr : l1[i].r = l[i].r := by
        have := congrArg (fun q => q[0]?) hm2
        simp only [List.getElem?_map, List.getElem?_drop, Nat.add_zero, List.getElem?_eq_getElem h', List.getElem?_eq_getElem h, Option.map_some, Option.some.injEq] at this
        exact this
      have hc40 : l1[i].r.cells.length ≤ 2 ^ 40 := by rw [hr]; exact hcl _ (List.mem_map.2 ⟨l[i], List.getElem_mem h, rfl⟩)
      have htk : (l.map (·.r)).take (i + 1) = (l.map (·.r)).take i ++ [l[i].r] := by rw [List.take_succ_eq_append_getElem (by simpa using h)]; simp
      have hw1 : wM ((l.map (·.r)).take (i + 1)) = wM ((l.map (·.r)).take i) + (2 + l1[i].r.cells.length) := by rw [htk, wM_app, wM_one, hr]
      have hle2 := wM_take_le (l.map (·.r)) (i + 1)
      have hs : ∀ cs : List CV, look (H1.set id (some ⟨g, 3, cs⟩)) id g = some ⟨g, 3, cs⟩ := fun cs => look_of (b := ⟨g, 3, cs⟩) (by rw [List.getElem?_set_self hidlt])
      have e1 := set_kind (ys := ys) (k := kk) h'
      have hgi : (l1.set i (l1[i].setK kk))[i]'(by simp; exact h') = l1[i].setK kk := by simp
      have e2 := ldP_kR (g := g) (ys := ys) (l := l1.set i (l1[i].setK kk)) (i := i) (by simpa using h')
      rw [hgi] at e2
      simp(maxSteps:=999999)(disch:=omega)only[go_sem,reduceAdd,reduceMul,reduceSub,reduceEqDiff,reduceLeDiff, hl1, e1, hs, e2, List.length_append]
      let H2 : Heap := H1.set id (some ⟨g, 3, kl kR (l1.set i (l1[i].setK kk)) ++ ys⟩)
      have hq3 : OwnI H2 l1[i].c l1[i].r.cells l1[i].i := q3.frm (Frm.set _ _ _) fun x hx => by
        simp
        rintro rfl
        rw [q2] at hx
        exact (List.nodup_cons.1 hnd).1 (List.mem_flatMap.2 ⟨l[i], List.getElem_mem h, hx⟩)
      refine OpS.run (markIntS_deep H2 l1[i].c l1[i].r.cells l1[i].i (kk + 1) hq3 (by omega) hc40) (⟨_, Try.func39, rfl, rfl⟩ : Enters Try.prog 39) rfl rfl ?_
      rintro _ H3 ⟨rfl, hq4, hf3⟩
      have hid3 : id ∉ l1[i].i := by rw [q2]; exact fun hx => (List.nodup_cons.1 hnd).1 (List.mem_flatMap.2 ⟨l[i], List.getElem_mem h, hx⟩)
      have hl3 : look H3 id g = some ⟨g, 3, kl kR (l1.set i (l1[i].setK kk)) ++ ys⟩ := by rw [hf3.look hid3]; exact hs _
      have hid3lt : id < H3.length := (List.getElem?_eq_some_iff.1 (look_some hl3).1).1
      have hlen3 : i < (l1.set i (l1[i].setK kk)).length := by simpa using h'
      have hkl3 := kl_length (E := kR) (l1.set i (l1[i].setK kk))
      simp only [List.length_set] at hkl3
      have e3 := set_val (ys := ys) (k := kk + 1 + l1[i].r.cells.length) hlen3
      rw [hgi] at e3
      simp(maxSteps:=999999)(disch:=omega)only[go_sem,reduceAdd,reduceMul,reduceSub,reduceEqDiff,reduceLeDiff, hl3, e3, List.length_append]
      have e4 : kl kR ((l1.set i (l1[i].setK kk)).set i ((l1[i].setK kk).setV (kk + 1 + l1[i].r.cells.length))) = kl kR (l1.set i ⟨⟨kk, marks (kk + 1) l1[i].r.cells.length, kk + 1 + l1[i].r.cells.length⟩, l1[i].c, l1[i].i⟩) := by
        rw [List.set_set]
        have := kl_setC (l := l1.set i ((l1[i].setK kk).setV (kk + 1 + l1[i].r.cells.length))) (i := i) (xs := marks (kk + 1) l1[i].r.cells.length) (by simpa using h')
        rw [List.set_set] at this
        rw [← this]
        simp only [List.getElem_set_self]
        rfl
      rw [e4]
      refine ⟨i + 1, (_, l1.set i ⟨⟨kk, marks (kk + 1) l1[i].r.cells.length, kk + 1 + l1[i].r.cells.length⟩, l1[i].c, l1[i].i⟩), kk + 1 + l1[i].r.cells.length + 1, ⟨⟨h, ?_, ?_, ?_, by simp [hlen], fun j h1 h2 => ?_, ?_, ?_⟩, by omega⟩, ⟨by omega, by omega⟩, HLe.refl _⟩
      · rw [hw1]; push_cast; omega
      · refine (hf.trans ((Frm.set H1 id _).mono (by simp))).trans ((hf3.mono fun x hx => ?_).trans ((Frm.set H3 id _).mono (by simp)))
        rw [q2] at hx
        exact List.mem_cons_of_mem _ (List.mem_flatMap.2 ⟨l[i], List.getElem_mem h, hx⟩)
      · exact look_of (b := ⟨g, 3, kl kR (l1.set i ⟨⟨kk, marks (kk + 1) l1[i].r.cells.length, kk + 1 + l1[i].r.cells.length⟩, l1[i].c, l1[i].i⟩) ++ ys⟩) (by simp only [List.getElem?_set_self hid3lt])
      · simp only [List.length_set] at h1
        obtain ⟨p1, p2, p3⟩ := hall j h1 h2
        have hidj : id ∉ l[j].i := fun hx => (List.nodup_cons.1 hnd).1 (List.mem_flatMap.2 ⟨l[j], List.getElem_mem h2, hx⟩)
        by_cases hij : i = j
        · subst hij
          simp only [List.getElem_set_self]
          refine ⟨q1, q2, hq4.frm (Frm.set _ _ _) fun x hx => ?_⟩
          simp
          rintro rfl
          exact hid3 hx
        · simp only [List.getElem_set_ne hij]
          refine ⟨p1, p2, ((p3.frm (Frm.set _ _ _) fun x hx => ?_).frm hf3 fun x hx => ?_).frm (Frm.set _ _ _) fun x hx => ?_⟩
          · simp
            rintro rfl
            rw [p2] at hx; exact hidj hx
          · rw [p2] at hx
            rw [q2]
            have hn2 := (List.nodup_cons.1 hnd).2
            rcases Nat.lt_or_gt_of_ne hij with hlt | hlt
            · exact fun hy => flat_disj hn2 h h2 hlt hy hx
            · exact fun hy => flat_disj hn2 h2 h hlt hx hy
          · simp
            rintro rfl
            rw [p2] at hx; exact hidj hx
      · rw [htk, mrk_app, ← hm1, ← hkk]
        rw [List.take_set, List.take_succ_eq_append_getElem h', List.set_append_right _ _ (by simp; omega)]
        simp [mrk, hr, Nat.min_eq_left (Nat.le_of_lt h')]
      · rw [List.drop_set_of_lt (by omega)]
        have := congrArg (List.drop 1) hm2
        simp only [← List.map_drop, List.drop_drop] at this ⊢
        exact this
    · have hil : i = l.length := by omega
      subst hil
      simp(maxSteps:=999999)(disch:=omega)only[go_sem,reduceAdd,reduceMul,reduceSub,reduceEqDiff,reduceLeDiff]
      refine ⟨H1, HLe.refl _, ?_, ?_, hf⟩
      · rw [hkk, List.take_of_length_le (by simp)]
      · rw [List.take_of_length_le (by omega), List.take_of_length_le (by simp)] at hm1
        have hii : l1.flatMap (·.i) = l.flatMap (·.i) := by
          have : l1.map (·.i) = l.map (·.i) := List.ext_getElem (by simp [hlen]) fun j h1 h2 => by
            simp at h1 h2 ⊢
            exact (hall j h1 h2).2.1
          simp only [List.flatMap_def, this]
        have := OwnR.o id g lim l1 ys hl1 (fun o hm => by
          obtain ⟨j, hj, rfl⟩ := List.mem_iff_getElem.1 hm
          exact (hall j hj (by omega)).2.2) (by rw [hii]; exact hnd) hy
        rw [hm1, hii, hlen] at this
        exact this
def mrkP (k : Int) (p : Puz) : Puz := ⟨p.size, marks k p.given.length, mrk (k + p.given.length) p.rules⟩
def wMP (p : Puz) : Nat := p.given.length + wM p.rules
theorem markPuzzle_deep (H : Heap) (cs : List CV) (p : Puz) (S : List Nat) (k : Int) (h : OwnP H cs p S) (hk : 0 ≤ k ∧ k + wMP p ≤ 2 ^ 50) (hx : smP p) :
    RunCall Try.prog 38 [.agg cs, int k] H (fun r H' => r = int (k + wMP p) ∧ OwnP H' cs (mrkP k p) S ∧ Frm H H' S) := by
  obtain ⟨c1, c2, S1, S2, rfl, rfl, h1, h2⟩ := h.ex
  have hnd := h.nd
  rw [List.nodup_append] at hnd
  obtain ⟨hx1, hx2⟩ := hx
  unfold wMP at hk ⊢
  refine RunCall.cw (c := _) Try.func38 rfl (n := 14) Try.ntmps38 (rs := [.tmp 4]) rfl ?_
  simp only [List.length_cons, List.length_nil, Nat.reduceAdd, Nat.reduceSub, List.replicate, List.cons_append, List.nil_append]
  simp(maxSteps:=999999)(disch:=omega)only[go_sem,reduceAdd,reduceMul,reduceSub,reduceEqDiff,reduceLeDiff, look_last, look_app_lt]
  intro g
  have h1a := h1.app (H' := [some ⟨g, 1, [.f (.int .i64 p.size), c1, c2]⟩])
  have h2a := h2.app (H' := [some ⟨g, 1, [.f (.int .i64 p.size), c1, c2]⟩])
  refine OpS.run (markIntS_deep _ c1 p.given S1 k h1a (by omega) hx1) (⟨_, Try.func39, rfl, rfl⟩ : Enters Try.prog 39) rfl rfl ?_
  rintro _ H1 ⟨rfl, q1, f1⟩
  have hb1 : look H1 H.length g = some ⟨g, 1, [.f (.int .i64 p.size), c1, c2]⟩ := by
    rw [f1.look fun hm => Nat.lt_irrefl _ (h1.lt _ hm)]; exact look_last
  simp(maxSteps:=999999)(disch:=omega)only[go_sem,reduceAdd,reduceMul,reduceSub,reduceEqDiff,reduceLeDiff, hb1]
  have h2b := h2a.frm f1 fun i hi hm => hnd.2.2 i hm i hi rfl
  refine OpS.run (markRuleS_deep H1 c2 p.rules S2 (k + p.given.length) h2b (by omega) hx2) (⟨_, Try.func88, rfl, rfl⟩ : Enters Try.prog 88) rfl rfl ?_
  rintro _ H2 ⟨rfl, q2, f2⟩
  simp(maxSteps:=999999)(disch:=omega)only[go_sem,reduceAdd,reduceMul,reduceSub,reduceEqDiff,reduceLeDiff]
  refine ⟨H2.take H.length, ?_, by simp only [AV.c.injEq, CV.f.injEq, FV.int.injEq, true_and]; push_cast; omega, ⟨⟨c1, c2, S1, S2, rfl, rfl, ?_, ?_⟩, h.nd⟩, ?_⟩
  · intro id b hb
    have : id < H.length := by have := (List.getElem?_eq_some_iff.1 hb).1; simp at this; omega
    rw [List.getElem?_take_of_lt this] at hb; exact hb
  · refine ((q1.frm f2 fun i hi hm => hnd.2.2 i hi i hm rfl)).same fun i hi => List.getElem?_take_of_lt (h1.lt i hi)
  · have e : (mrkP k p).rules = mrk (k + p.given.length) p.rules := rfl
    rw [e]
    exact q2.same fun i hi => List.getElem?_take_of_lt (h2.lt i hi)
  · have hl2 := f2.1
    have hl1 := f1.1
    simp at hl1
    refine ⟨by simp; omega, fun id hid => ?_⟩
    simp only [List.mem_append, not_or] at hid
    by_cases hlt : id < H.length
    · rw [List.getElem?_take_of_lt hlt, f2.2 id hid.2, f1.2 id hid.1, List.getElem?_append_left hlt]
    · rw [List.getElem?_eq_none (by simp; omega), List.getElem?_eq_none (by omega)]
end Go.Lg
