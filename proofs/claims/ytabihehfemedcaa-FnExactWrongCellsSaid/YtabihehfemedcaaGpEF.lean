/- What is told of a solution, as the program keeps it. -/
import Derived.Test.YtabihehfemedcaaGpEE
import Derived.Test.YtabihehfemedcaaGpDI
set_option linter.unusedSimpArgs false
set_option linter.unusedVariables false
set_option maxRecDepth 100000
namespace Go.Lg
open Go.Proofs

theorem binA_ne' {P : Program} {H : Heap} {t e : TypeId} {ti : TI} {n : Nat} {cs : List FV} (ht : tinf P t = some ti) (hk : ti.k = .slice e) (hn : 0 < n) : binA P H .eql t (.c (.f (.sl n cs))) (.c (.f .nil)) = some (.c (.f (.bool false))) := by
  unfold binA
  simp only [ht, hk, isNilV, if_neg (show ¬ n = 0 by omega)]
  rfl
theorem shiftH_one {k g n : Nat} {xs : List Int} : shiftH k [some ⟨g, n, cl (eI .i64) xs⟩] = [some ⟨g, n, cl (eI .i64) xs⟩] := by
  simp only [shiftH, List.map_cons, List.map_nil, Option.map_some, shiftB, shift_cl]
section
variable {P : Program} {o : Oper} {st : St} {K : KV} {fo : Operand} {xs : Array Operand} {ts : Array TypeId} {f : FuncId} {args args' : List AV} {zs : List Int} {ops : Array Oper} {s : List AV} {H : Heap}
theorem OpS.mkDQ (hc : RunCall P f args' [] (ownQ (eI .i64) 1 zs)) (he : Enters P f) (ho : o.op = .call ⟨.value fo, xs, ts⟩) (ha : callArgs st fo xs = some (f, args)) (hs : args.mapM (snapD st.h) = some args')
    (hk : ∀ g, K (.c (.own st.h.length g 0 zs.length none)) (st.h ++ [some ⟨g, 1, cl (eI .i64) zs⟩])) : OpS P o st K :=
  OpS.mkD hc he ho ha hs fun r H' ⟨g, h1, h2⟩ => by
    subst h1 h2
    refine ⟨⟨rfl, rfl, scalH_ints fun id b hb => by simp at hb⟩, ?_⟩
    rw [shiftH_one]
    have := hk g
    rwa [← Nat.zero_add st.h.length] at this
theorem Loud.mkDQ (hc : RunCall P f args' [] (ownQ (eI .i64) 1 zs)) (he : Enters P f) (ho : o.op = .call ⟨.value fo, xs, ts⟩) (ha : callArgs ⟨s, H⟩ fo xs = some (f, args)) (hs : args.mapM (snapD H) = some args')
    (hk : ∀ g, K (.c (.own H.length g 0 zs.length none)) (H ++ [some ⟨g, 1, cl (eI .i64) zs⟩])) : Loud P ops o s H K := Loud.call ho ha fun s' ha' => OpS.mkDQ hc he ho ha' hs hk
end
theorem Clone_q (xs : List Int) (hx : xs.length ≤ 2 ^ 40) (h0 : xs ≠ []) : RunCall Try.prog 112 [ints xs] [] (ownQ (eI .i64) 1 xs) := by
  have hp : 0 < xs.length := List.length_pos_iff.2 h0
  refine RunCall.cw (c := _) Try.func112 rfl (n := 8) Try.ntmps112 (rs := [.tmp 2]) rfl ?_
  simp only [List.length_cons, List.length_nil, Nat.reduceAdd, Nat.reduceSub, List.replicate, List.cons_append, List.nil_append]
  simp (maxSteps := 1000000) (disch := omega) only [go_sem, Nat.reduceAdd, Nat.reduceMul, Nat.reduceSub, Nat.reduceEqDiff, Nat.reduceLeDiff, binA_ne' ti23 rfl hp]
  intro g g'
  rw [Nat.zero_add]
  exact lessQ_own (HLe.refl _)
attribute [-go_sem] appendM lwF_cons
theorem tell_run (most : Nat) (hmo : most ≤ 600) (H : Heap) (gid gg : Nat) (xs : List Int) (pid pg mid mg : Nat) (ls : List (List Int)) (S : List Nat) (hxl : 0 < xs.length ∧ xs.length ≤ 16) (hgl : look H gid gg = some ⟨gg, 1, cl (eI .i64) xs⟩) (hml : look H mid mg = some ⟨mg, 1, [.f (.int .i64 most)]⟩) (hmp : mid ≠ pid) (hmS : mid ∉ S) (hls : ls.length < most) (hout : OutL H pid pg ls S) (hSl : ∀ k ∈ S, k < H.length) :
    RunCall Try.prog 111 [.c (.own gid gg 0 xs.length none), .c (.ptr pid pg 0), .c (.ptr mid mg 0)] H (fun v H' => v = bool (decide (ls.length + 1 < most)) ∧ ∃ S', OutL H' pid pg (ls ++ [xs]) S' ∧ (∀ k ∈ S', k ∈ S ∨ H.length ≤ k) ∧ (∀ k ∈ S', k < H'.length) ∧ H.length ≤ H'.length ∧ ∀ k, k < H.length → k ≠ pid → k ∉ S → H'[k]? = H[k]?) := by
  obtain ⟨⟨oid, og, cs, o1, o2, o3, o4, o5⟩, opn⟩ := hout
  have hplt : pid < H.length := (List.getElem?_eq_some_iff.1 (look_some o1).1).1
  have hpo : pid ≠ oid := fun h => opn (by rw [h]; exact o3)
  have holt : oid < H.length := hSl oid o3
  refine RunCall.cw (c := _) Try.func111 rfl (n := 14) Try.ntmps111 (rs := [.tmp 4]) rfl ?_
  simp only [List.length_cons, List.length_nil, Nat.reduceAdd, Nat.reduceSub, List.replicate, List.cons_append, List.nil_append]
  simp (maxSteps := 1000000) (disch := omega) only [go_sem, Nat.reduceAdd, Nat.reduceMul, Nat.reduceSub, Nat.reduceEqDiff, Nat.reduceLeDiff]
  have hM1 : look (mask (hideM oid H.length (H.length + 3)) H) pid pg = some ⟨pg, 1, [.own oid og 0 ls.length none]⟩ := by rw [look_mask (hideM_no hpo (by omega))]; exact o1
  have hM2 : nilV (mask (hideM oid H.length (H.length + 3)) H) (.c (.ptr pid pg 0)) = some (.c (.ptr pid pg 0)) := nilV_ptr hM1
  refine drawP_lM [0, 1, 2, 3] [] none [4, 5] (hideM oid H.length (H.length + 3)) [0, 0, 2, 6, 15, 31] foll (by kernel_rfl) ?_
  iterate 3 (rw [lwF_cons]; simp (maxSteps := 1000000) (disch := omega) only [go_sem, Nat.reduceAdd, Nat.reduceMul, Nat.reduceSub, Nat.reduceEqDiff, Nat.reduceLeDiff, hM1, hM2])
  have hown : OwnI H (.own gid gg 0 xs.length none) xs [gid] := OwnI.o (H := H) gid gg none xs [] (by rw [List.append_nil]; exact hgl)
  refine Loud.mkDQ (Clone_q xs (by omega) (fun h => by rw [h] at hxl; simp at hxl)) (⟨_, Try.func112, rfl, rfl⟩ : Enters Try.prog 112) rfl rfl (snap_one hown.snap) ?_
  intro g4
  refine ⟨okM_gen fun j b hj hb => by rw [List.getElem?_append_left (List.getElem?_eq_some_iff.1 hb).1]; exact hb, ?_⟩
  rw [lwF_cons]
  simp (maxSteps := 1000000) (disch := omega) only [go_sem, Nat.reduceAdd, Nat.reduceMul, Nat.reduceSub, Nat.reduceEqDiff, Nat.reduceLeDiff]
  intro g5
  refine ⟨okM_gen fun j b hj hb => by rw [List.getElem?_append_left (List.getElem?_eq_some_iff.1 hb).1]; exact hb, ?_⟩
  have l4 : look (H ++ [some ⟨g4, 1, cl (eI .i64) xs⟩]) H.length g4 = some ⟨g4, 1, cl (eI .i64) xs⟩ := look_last
  have hbl : look (H ++ [some ⟨g4, 1, cl (eI .i64) xs⟩] ++ [some ⟨g5, 1, [CV.own H.length g4 0 xs.length none]⟩]) (H.length + 1) g5 = some ⟨g5, 1, [CV.own H.length g4 0 xs.length none]⟩ := by
    have := look_last (H := H ++ [some ⟨g4, 1, cl (eI .i64) xs⟩]) (g := g5) (sz := 1) (cs := [CV.own H.length g4 0 xs.length none])
    rwa [List.length_append, List.length_singleton] at this
  have hol : look (H ++ [some ⟨g4, 1, cl (eI .i64) xs⟩] ++ [some ⟨g5, 1, [CV.own H.length g4 0 xs.length none]⟩]) oid og = some ⟨og, 1, cs⟩ := look_appL (look_appL o2)
  refine appendM_cells (sliceOf_of' ti81 rfl ti23) ⟨rfl, rfl, by decide⟩ (by omega) hol o4 hbl ?_
  intro g6
  obtain ⟨HL, hHL⟩ : ∃ HL : Heap, HL = (H ++ [some ⟨g4, 1, cl (eI .i64) xs⟩] ++ [some ⟨g5, 1, [CV.own H.length g4 0 xs.length none]⟩] : Heap).set oid (some ⟨g6, 1, cs ++ [CV.own H.length g4 0 xs.length none]⟩) := ⟨_, rfl⟩
  have hLl : HL.length = H.length + 2 := by rw [hHL, List.length_set]; simp
  have hL3 : ∀ j, j < H.length → j ≠ oid → HL[j]? = H[j]? := fun j hj hn => by rw [hHL, List.getElem?_set_ne (Ne.symm hn), List.append_assoc, List.getElem?_append_left hj]
  have hL1 : look HL pid pg = some ⟨pg, 1, [.own oid og 0 ls.length none]⟩ := by unfold look; rw [hL3 pid (by omega) hpo]; exact o1
  have hL2 : look HL oid g6 = some ⟨g6, 1, cs ++ [CV.own H.length g4 0 xs.length none]⟩ := by rw [hHL]; exact look_set_eq' (by simp; omega)
  have hL4 : look HL H.length g4 = some ⟨g4, 1, cl (eI .i64) xs⟩ := by rw [hHL, look_set_ne' (by omega)]; exact look_appL l4
  rw [← hHL]
  clear hHL
  have hL5 : nilV HL (.c (.ptr pid pg 0)) = some (.c (.ptr pid pg 0)) := nilV_ptr hL1
  simp (maxSteps := 1000000) (disch := omega) only [go_sem, Nat.reduceAdd, Nat.reduceMul, Nat.reduceSub, Nat.reduceEqDiff, Nat.reduceLeDiff, hL1, hL5]
  obtain ⟨HF, hHF⟩ : ∃ HF : Heap, HF = HL.set pid (some ⟨pg, 1, [CV.own oid g6 0 (ls.length + 1) none]⟩) := ⟨_, rfl⟩
  have hlen1 : (ls ++ [xs]).length = ls.length + 1 := by simp
  have hmlt : mid < H.length := (List.getElem?_eq_some_iff.1 (look_some hml).1).1
  have hF1 : look HF pid pg = some ⟨pg, 1, [CV.own oid g6 0 (ls.length + 1) none]⟩ := by rw [hHF]; exact look_set_eq' (by omega)
  have hF2 : look HF mid mg = some ⟨mg, 1, [.f (.int .i64 most)]⟩ := by
    rw [hHF, look_set_ne' (Ne.symm hmp)]
    unfold look
    rw [hL3 mid hmlt (fun h => hmS (by rw [h]; exact o3))]
    exact hml
  have hF3 : look HF oid g6 = some ⟨g6, 1, cs ++ [CV.own H.length g4 0 xs.length none]⟩ := by rw [hHF, look_set_ne' hpo]; exact hL2
  have hfin : OutL HF pid pg (ls ++ [xs]) (H.length :: S) := by
    rw [hHF]
    refine ⟨⟨oid, g6, cs ++ [CV.own H.length g4 0 xs.length none], by rw [hlen1]; exact look_set_eq' (by omega), by rw [look_set_ne' hpo]; exact hL2, by simp [o3], by simp [o4], fun i hi => ?_⟩, by simp; exact ⟨by omega, opn⟩⟩
    rw [hlen1] at hi
    by_cases hil : i < ls.length
    · obtain ⟨id, g, k1, k2, k3, hio⟩ := o5 i hil
      have hidl := hSl id k3
      refine ⟨id, g, by rw [List.getElem?_append_left (by omega)]; rw [List.getElem_append_left hil]; exact k1, ?_, by simp [k3], hio⟩
      rw [List.getElem_append_left hil, look_set_ne' (fun h => opn (by rw [h]; exact k3))]
      unfold look
      rw [hL3 id (by omega) hio]
      exact k2
    · have hie : i = ls.length := by omega
      subst hie
      refine ⟨H.length, g4, ?_, ?_, by simp, by omega⟩
      · rw [List.getElem?_append_right (by omega), o4]
        simp
      · rw [look_set_ne' (by omega)]
        simp only [List.getElem_append_right (Nat.le_refl _), Nat.sub_self, List.getElem_singleton]
        exact hL4
  have hFl : HF.length = H.length + 2 := by rw [hHF, List.length_set]; omega
  have hFf : ∀ k, k < H.length → k ≠ pid → k ∉ S → HF[k]? = H[k]? := fun k hk hkp hkS => by rw [hHF, List.getElem?_set_ne (Ne.symm hkp), hL3 k (by omega) (fun h => hkS (by rw [h]; exact o3))]
  rw [← hHF]
  clear hHF
  simp (maxSteps := 1000000) (disch := omega) only [go_sem, Nat.reduceAdd, Nat.reduceMul, Nat.reduceSub, Nat.reduceEqDiff, Nat.reduceLeDiff, hF1, hF2, hF3]
  refine ⟨HF, HLe.refl _, ?_, H.length :: S, hfin, ?_, ?_, by omega, hFf⟩
  · rw [show decide (((ls.length + 1 : Nat) : Int) < most) = decide (ls.length + 1 < most) from decide_eq_decide.2 (by omega)]
  · intro k hk
    rcases List.mem_cons.1 hk with rfl | hk
    · exact .inr (by omega)
    · exact .inl hk
  · intro k hk
    rcases List.mem_cons.1 hk with rfl | hk
    · omega
    · have := hSl k hk; omega
end Go.Lg
