/- GpJC, GpHA, GpJD, GpVA, cut to what is needed. -/
import Derived.Test.YtabihehfemedcaaQcc7
import Derived.Test.YtabihehfemedcaaQcd2
set_option linter.unusedSimpArgs false
set_option linter.unusedVariables false
set_option maxRecDepth 100000
namespace Go.Lg
open Go.Proofs
attribute [-go_sem] appendM lwF_cons
structure OwnP0 (H : Heap) (c r : CV) (p : Puz) (S1 S2 : List Nat) : Prop where
  g : OwnI H c p.given S1
  rr : (r = .f .nil ∧ p.rules = [] ∧ S2 = []) ∨ OwnR H r p.rules S2
  nd : (S1 ++ S2).Nodup
  l : limN r
theorem limN_shift {r : CV} {k : Nat} (h : limN r) : limN (shiftC k r) := by
  cases r with
  | f v => cases v <;> exact h
  | _ => exact h
section
variable {H H' : Heap} {c r : CV} {p : Puz} {S1 S2 : List Nat}
theorem OwnP0.same (h : OwnP0 H c r p S1 S2) (hs : ∀ i ∈ S1 ++ S2, H'[i]? = H[i]?) : OwnP0 H' c r p S1 S2 :=
  ⟨h.g.same fun i hi => hs i (by simp [hi]), h.rr.imp id fun k => k.same fun i hi => hs i (by simp [hi]), h.nd, h.l⟩
theorem OwnP0.lt (h : OwnP0 H c r p S1 S2) : ∀ i ∈ S1 ++ S2, i < H.length := fun i hi => by
  rcases List.mem_append.1 hi with hi | hi
  · exact h.g.lt i hi
  · rcases h.rr with ⟨_, _, rfl⟩ | k
    · simp at hi
    · exact k.lt i hi
theorem OwnP0.blk (h : OwnP0 H c r p S1 S2) : (∀ i ∈ S1 ++ S2, ∀ b, H[i]? = some (some b) → ∀ x ∈ b.cs, scalC x = true) ∧ scalC c = true ∧ scalC r = true := by
  refine ⟨fun i hi => ?_, h.g.scal1, ?_⟩
  · rcases List.mem_append.1 hi with hi | hi
    · exact h.g.blk i hi
    · rcases h.rr with ⟨_, _, rfl⟩ | k
      · simp at hi
      · exact k.blk i hi
  · rcases h.rr with ⟨rfl, _, _⟩ | k
    · rfl
    · exact k.scal1
theorem OwnP0.shift {H0 : Heap} (h : OwnP0 H c r p S1 S2) : OwnP0 (H0 ++ shiftH H0.length H) (shiftC H0.length c) (shiftC H0.length r) p (S1.map (· + H0.length)) (S2.map (· + H0.length)) := by
  refine ⟨h.g.shift, ?_, ?_, limN_shift h.l⟩
  · rcases h.rr with ⟨rfl, h1, rfl⟩ | k
    · exact .inl ⟨rfl, h1, rfl⟩
    · exact .inr k.shift
  · rw [← List.map_append]
    exact List.pairwise_map.2 (h.nd.imp fun h h' => h (by omega))
theorem OwnP0.snap (h : OwnP0 H c r p S1 S2) : [AV.agg [.f (.int .i64 p.size), c, r]].mapM (snapD H) = some [aP p] := by
  have e1 : ∀ x : Int, frzC H (.f (.int .i64 x)) = some (.f (.int .i64 x)) := fun _ => rfl
  have e2 := h.g.frzC
  have e3 : frzC H r = some (.f (fsl eR p.rules)) := by
    rcases h.rr with ⟨rfl, h1, _⟩ | k
    · rw [h1]; exact (OwnL.n (E := eR) (n := 3)).frzC
    · exact k.frzC
  simp only [snapD, List.mapM_cons, List.mapM_nil, e1, e2, e3, Option.bind_eq_bind, Option.pure_def, Option.bind_some, Option.map_some]
end
def puz0S (p : Puz) : KV := fun v H => ∃ c r S1 S2, v = .agg [.f (.int .i64 p.size), c, r] ∧ OwnP0 H c r p S1 S2 ∧ scalH H ∧ scalC c = true ∧ scalC r = true
theorem RunCall.puz0 {P : Program} {f : FuncId} {args : List AV} {H : Heap} {p : Puz} (h : RunCall P f args H (puzQ1 p)) : RunCall P f args H (puz0S p) :=
  h.weaker fun v H' ⟨c, r, S1, S2, h1, h2, h3, h4, h5⟩ => by
    have k : OwnP0 H' c r p S1 S2 := ⟨h2, h3, h4, h5⟩
    exact ⟨keepH (S1 ++ S2) H', keepH_le _ _, c, r, S1, S2, h1, k.same fun i hi => keepH_get hi (k.lt i hi), scalH_keep k.blk.1, k.blk.2⟩
section
variable {P : Program} {o : Oper} {st : St} {K : KV} {fo : Operand} {xs : Array Operand} {ts : Array TypeId} {f : FuncId} {args args' : List AV} {p : Puz}
theorem OpS.mkP0 (hc : RunCall P f args' [] (puzQ1 p)) (he : Enters P f) (ho : o.op = .call ⟨.value fo, xs, ts⟩) (ha : callArgs st fo xs = some (f, args)) (hs : args.mapM (snapD st.h) = some args')
    (hk : ∀ c r H' S1 S2, OwnP0 (st.h ++ H') c r p S1 S2 → (∀ i ∈ S1 ++ S2, st.h.length ≤ i ∧ i < st.h.length + H'.length) → K (.agg [.f (.int .i64 p.size), c, r]) (st.h ++ H')) : OpS P o st K :=
  OpS.mkD (RunCall.puz0 hc) he ho ha hs fun v H' ⟨c, r, S1, S2, h1, h2, h3, h4, h5⟩ => by
    subst h1
    refine ⟨⟨rfl, by show List.all _ scalC = true; simp only [List.all_cons, List.all_nil, h4, h5, Bool.and_true]; rfl, h3⟩, hk _ _ _ _ _ h2.shift fun i hi => ?_⟩
    rw [← List.map_append] at hi
    rw [shiftH_length]
    exact shift_ge h2.lt i hi
end
theorem one_iff (p : Puz) : decide (countV p 2 = 1) = oneV p := by
  unfold oneV countV
  rw [decide_eq_decide]
  split
  · show ((allS p 2).length : Int) = 1 ↔ _
    omega
  · rename_i h
    rw [allS_no (fun hv => h ⟨hv, by omega, by omega⟩)]
    simp
theorem ok_iff (p : Puz) : needOk p = oneV p := by
  unfold needOk
  cases h : puzzleValid p
  · unfold oneV
    rw [allS_no (by rw [h]; simp)]
    rfl
  · rfl
theorem look_last2 {H H' : Heap} {g sz : Nat} {cs : List CV} : look (H ++ H' ++ [some ⟨g, sz, cs⟩]) (H.length + H'.length) g = some ⟨g, sz, cs⟩ := by rw [← List.length_append]; exact look_last
theorem set_last2 {H H' : Heap} {x y : Option Blk} : (H ++ H' ++ [x]).set (H.length + H'.length) y = H ++ H' ++ [y] := by rw [← List.length_append]; exact set_last
theorem fm_erase (l : List RO) (i : Nat) : List.Sublist ((l.eraseIdx i).flatMap (·.i)) (l.flatMap (·.i)) := by
  have h1 : (l.eraseIdx i).flatMap (·.i) = (l.take i).flatMap (·.i) ++ (l.drop (i + 1)).flatMap (·.i) := by rw [List.eraseIdx_eq_take_drop_succ, List.flatMap_append]
  have h2 : l.flatMap (·.i) = (l.take i).flatMap (·.i) ++ (l.drop i).flatMap (·.i) := by rw [← List.flatMap_append, List.take_append_drop]
  rw [h1, h2]
  refine (List.Sublist.refl _).append ?_
  cases hd : l.drop i with
  | nil =>
    have : l.drop (i + 1) = [] := by rw [← List.drop_drop, hd]; rfl
    rw [this]
    exact List.Sublist.refl _
  | cons x t =>
    have : l.drop (i + 1) = t := by rw [← List.drop_drop, hd]; rfl
    rw [this, List.flatMap_cons]
    exact List.sublist_append_right _ _
theorem map_erase (l : List RO) (i : Nat) : (l.eraseIdx i).map (·.r) = (l.map (·.r)).eraseIdx i := by
  rw [List.eraseIdx_eq_take_drop_succ, List.eraseIdx_eq_take_drop_succ, List.map_append, List.map_take, List.map_drop]
theorem OwnP0.del {H : Heap} {c : CV} {q : Puz} {id g i : Nat} {l : List RO} {ys : List CV} {T1 : List Nat} (h : OwnP0 H c (.own id g 0 l.length none) (wiR q (l.map (·.r))) T1 (id :: l.flatMap (·.i))) (hl : look H id g = some ⟨g, 3, kl kR l ++ ys⟩) (hil : ∀ o ∈ l, OwnI H o.c o.r.cells o.i) (hy : ∀ c ∈ ys, scalC c = true) (hi : i < l.length) :
    OwnP0 (H.set id (some ⟨g, 3, kl kR (l.eraseIdx i) ++ ([.f (.int .i64 0), .f .nil, .f (.int .i64 0)] ++ ys)⟩)) c (.own id g 0 (l.length - 1) none) (wiR q ((l.map (·.r)).eraseIdx i)) T1 (id :: (l.eraseIdx i).flatMap (·.i)) := by
  have hlt : id < H.length := (List.getElem?_eq_some_iff.1 (look_some hl).1).1
  have hnd := h.nd
  have hidn : id ∉ T1 ∧ id ∉ l.flatMap (·.i) := by
    rw [List.nodup_append] at hnd
    exact ⟨fun hm => hnd.2.2 id hm id (by simp) rfl, (List.nodup_cons.1 hnd.2.1).1⟩
  have hsub := fm_erase l i
  have hlen : (l.eraseIdx i).length = l.length - 1 := by rw [List.length_eraseIdx, if_pos hi]
  refine ⟨h.g.same fun k hk => List.getElem?_set_ne (fun e => hidn.1 (by rw [e]; exact hk)), .inr ?_, ?_, rfl⟩
  · have := OwnR.o (H := H.set id (some ⟨g, 3, kl kR (l.eraseIdx i) ++ ([.f (.int .i64 0), .f .nil, .f (.int .i64 0)] ++ ys)⟩)) id g none (l.eraseIdx i) ([.f (.int .i64 0), .f .nil, .f (.int .i64 0)] ++ ys) (look_set_eq hlt) (fun o ho => by
      have hol := List.mem_of_mem_eraseIdx ho
      exact (hil o hol).same fun k hk => List.getElem?_set_ne (fun e => hidn.2 (by rw [e]; exact List.mem_flatMap.2 ⟨o, hol, hk⟩))) (by
      refine List.nodup_cons.2 ⟨fun hm => hidn.2 (hsub.subset hm), ?_⟩
      rw [List.nodup_append] at hnd
      exact (List.nodup_cons.1 hnd.2.1).2.sublist hsub) (fun x hx => by
      rcases List.mem_append.1 hx with hx | hx
      · simp only [List.mem_cons, List.not_mem_nil, or_false] at hx
        rcases hx with rfl | rfl | rfl <;> rfl
      · exact hy x hx)
    rw [hlen, map_erase] at this
    exact this
  · exact hnd.sublist ((List.Sublist.refl T1).append (hsub.cons_cons id))
def needIQ (p : Puz) : KV := fun v H => (needOk p = false ∧ v = .tup [.c (.f .nil), bool false]) ∨ (needOk p = true ∧ ∃ r S, v = .tup [.c r, bool true] ∧ ((r = .f .nil ∧ needV p = [] ∧ S = []) ∨ OwnR H r (needV p) S))
theorem NeededRules_own (p : Puz) (hx : smP p) : RunCall Try.prog 46 [aP p] [] (needIQ p) := by
  refine RunCall.cw (c := _) Try.func46 rfl (n := 34) Try.ntmps46 (rs := [.tmp 2, .tmp 3]) rfl ?_
  simp only [List.length_cons, List.length_nil, Nat.reduceAdd, Nat.reduceSub, List.replicate, List.cons_append, List.nil_append]
  simp (maxSteps := 1000000) (disch := omega) only [go_sem, Nat.reduceAdd, Nat.reduceMul, Nat.reduceSub, Nat.reduceEqDiff, Nat.reduceLeDiff]
  intro g1
  first | refine OpS.rd (onlyOne_run p hx) (⟨_, Try.func89, rfl, rfl⟩ : Enters Try.prog 89) rfl rfl rfl rfl ?_ | refine Loud.rd (onlyOne_run p hx) (⟨_, Try.func89, rfl, rfl⟩ : Enters Try.prog 89) rfl rfl rfl rfl ?_
  simp (maxSteps := 1000000) (disch := omega) only [go_sem, Nat.reduceAdd, Nat.reduceMul, Nat.reduceSub, Nat.reduceEqDiff, Nat.reduceLeDiff]
  rw [one_iff, ← ok_iff]
  (first | with_reducible refine condK_dec (fun h1 => ?_) (fun h1 => ?_) | with_reducible refine condK_ndec (fun h1 => ?_) (fun h1 => ?_) | with_reducible refine condK_nb (fun h1 => ?_) (fun h1 => ?_) | refine condK_b (fun h1 => ?_) (fun h1 => ?_))
  rotate_left
  · simp (maxSteps := 1000000) (disch := omega) only [go_sem, Nat.reduceAdd, Nat.reduceMul, Nat.reduceSub, Nat.reduceEqDiff, Nat.reduceLeDiff]
    exact ⟨_, HLe.refl _, .inl ⟨h1, rfl⟩⟩
  simp (maxSteps := 1000000) (disch := omega) only [go_sem, Nat.reduceAdd, Nat.reduceMul, Nat.reduceSub, Nat.reduceEqDiff, Nat.reduceLeDiff]
  refine OpS.mkP0 (copyPuzzle_own1 p hx) (⟨_, Try.func92, rfl, rfl⟩ : Enters Try.prog 92) rfl rfl rfl ?_
  intro c r H1 S1 S2 hC hS
  simp (maxSteps := 1000000) (disch := omega) only [go_sem, Nat.reduceAdd, Nat.reduceMul, Nat.reduceSub, Nat.reduceEqDiff, Nat.reduceLeDiff, look_last, set_last]
  intro g
  have hN : needV p = needL p p.rules.length 0 p.rules := by unfold needV; rw [if_pos h1]
  have hC' : OwnP0 (some ⟨g1, 1, cP p⟩ :: (H1 ++ [some ⟨g, 3, [.f (.int .i64 p.size), c, r]⟩])) c r (wiR p p.rules) S1 S2 := hC.same fun i hi => by
    have h2 := hC.lt i hi
    exact List.getElem?_append_left (l₁ := some ⟨g1, 1, cP p⟩ :: H1) h2
  refine loop_rule2 (fun (i : Nat) (b : Heap × CV × CV × List Rul × List Nat × List Nat) => b.2.2.2.1.length - i) (fun i b => (i ≤ b.2.2.2.1.length ∧ smRs b.2.2.2.1 ∧ b.2.2.2.1.length ≤ p.rules.length ∧ needV p = needL p (b.2.2.2.1.length - i) i b.2.2.2.1) ∧ look b.1 (H1.length + 1) g = some ⟨g, 3, [.f (.int .i64 p.size), b.2.1, b.2.2.1]⟩ ∧ OwnP0 b.1 b.2.1 b.2.2.1 (wiR p b.2.2.2.1) b.2.2.2.2.1 b.2.2.2.2.2 ∧ ∀ k ∈ b.2.2.2.2.1 ++ b.2.2.2.2.2, k ≠ H1.length + 1) (fun i b => [.a, .a, .a, .a, .k, .p (int i), .a, .a, .a, .a, .a, .a, .a, .a, .a, .a, .a, .a, .a, .a, .a, .a, .a, .a, .a, .a, .a, .a, .a, .a, .a, .a, .a, .a]) (fun i b => b.1) 0 (_, c, r, p.rules, S1, S2)
    ⟨⟨Nat.zero_le _, hx.2, Nat.le_refl _, hN⟩, look_of (b := ⟨g, 3, [.f (.int .i64 p.size), c, r]⟩) (by simp), hC', fun k hk => by have := (hS k hk).2; simp at this; omega⟩ (by simp (maxSteps := 1000000) (disch := omega) only [go_sem, Nat.reduceAdd, Nat.reduceMul, Nat.reduceSub, Nat.reduceEqDiff, Nat.reduceLeDiff]; rfl) (HLe.refl _) ?_
  rintro i ⟨HI, c, r, rs, S1, S2⟩ ⟨⟨hi, hsm, hle, hnd⟩, hb, hC, hne⟩
  simp only at hi hsm hle hnd hb hC hne ⊢
  clear hC' hS
  generalize H1.length + 1 = N at hb hne ⊢
  rcases hC.rr with ⟨rfl, hrs, rfl⟩ | hR
  · have hrs : rs = [] := hrs
    subst hrs
    have hi0 : i = 0 := by simpa using hi
    simp (maxSteps := 1000000) (disch := omega) only [go_sem, Nat.reduceAdd, Nat.reduceMul, Nat.reduceSub, Nat.reduceEqDiff, Nat.reduceLeDiff, hb]
    (first | with_reducible refine condK_dec (fun h3 => ?_) (fun h3 => ?_) | with_reducible refine condK_ndec (fun h3 => ?_) (fun h3 => ?_) | with_reducible refine condK_nb (fun h3 => ?_) (fun h3 => ?_) | refine condK_b (fun h3 => ?_) (fun h3 => ?_))
    · omega
    · simp (maxSteps := 1000000) (disch := omega) only [go_sem, Nat.reduceAdd, Nat.reduceMul, Nat.reduceSub, Nat.reduceEqDiff, Nat.reduceLeDiff, hb]
      refine OpS.run (ClipR_nil HI) (⟨_, Try.func73, rfl, rfl⟩ : Enters Try.prog 73) rfl rfl ?_
      rintro _ _ ⟨rfl, rfl⟩
      simp (maxSteps := 1000000) (disch := omega) only [go_sem, Nat.reduceAdd, Nat.reduceMul, Nat.reduceSub, Nat.reduceEqDiff, Nat.reduceLeDiff]
      exact ⟨_, HLe.refl _, .inr ⟨h1, _, [], rfl, .inl ⟨rfl, by rw [hnd, hi0]; rfl, rfl⟩⟩⟩
  · have hR : OwnR HI r rs S2 := hR
    have hC0 := hC
    cases hR with
    | e => exact absurd hC.l id
    | o id gr lim l ys hl hil hd hy =>
      obtain rfl : lim = none := hC.l
      have hkl : (kl kR l ++ ys).length = l.length * 3 + ys.length := by rw [List.length_append, kl_length]
      have hml : (l.map (·.r)).length = l.length := List.length_map ..
      have hl40 : l.length ≤ 2 ^ 40 := by have := hsm.1; omega
      simp (maxSteps := 1000000) (disch := omega) only [go_sem, Nat.reduceAdd, Nat.reduceMul, Nat.reduceSub, Nat.reduceEqDiff, Nat.reduceLeDiff, hb, hl]
      (first | with_reducible refine condK_dec (fun h3 => ?_) (fun h3 => ?_) | with_reducible refine condK_ndec (fun h3 => ?_) (fun h3 => ?_) | with_reducible refine condK_nb (fun h3 => ?_) (fun h3 => ?_) | refine condK_b (fun h3 => ?_) (fun h3 => ?_))
      · have h3 : i < l.length := by omega
        simp (maxSteps := 1000000) (disch := omega) only [go_sem, Nat.reduceAdd, Nat.reduceMul, Nat.reduceSub, Nat.reduceEqDiff, Nat.reduceLeDiff, hb, hl]
        obtain ⟨rs0, hrs0⟩ : ∃ rs0, rs0 = l.map (·.r) := ⟨_, rfl⟩
        rw [← hrs0] at hC0 hnd hsm hle hml
        have hsmq : smP (wiR p rs0) := ⟨hx.1, hsm⟩
        refine OpS.mkP0 (copyPuzzle_own1 (wiR p rs0) hsmq) (⟨_, Try.func92, rfl, rfl⟩ : Enters Try.prog 92) rfl rfl hC0.snap ?_
        intro c2 r2 H2 T1 T2 hD hT
        rw [show (wiR p rs0).size = p.size from rfl]
        simp (maxSteps := 1000000) (disch := omega) only [go_sem, Nat.reduceAdd, Nat.reduceMul, Nat.reduceSub, Nat.reduceEqDiff, Nat.reduceLeDiff, look_last2, set_last2]
        intro g6
        have hD : OwnP0 (HI ++ H2) c2 r2 (wiR p rs0) T1 T2 := hD
        have hR2 : OwnR (HI ++ H2) r2 rs0 T2 := by
          rcases hD.rr with ⟨_, h0, _⟩ | k
          · have h0 : rs0 = [] := h0
            rw [h0] at hml
            simp only [List.length_nil] at hml
            omega
          · exact k
        have hN : N < HI.length := (List.getElem?_eq_some_iff.1 (look_some hb).1).1
        cases hR2 with
        | e => exact absurd hD.l (fun h => h)
        | o id2 g2 lim2 l2 ys2 hl2 hil2 hd2 hy2 =>
          obtain rfl : lim2 = none := hD.l
          have hml2 : l2.length = l.length := by rw [List.length_map] at hml; exact hml
          have hid2 : HI.length ≤ id2 ∧ id2 < HI.length + H2.length := hT id2 (by simp)
          obtain ⟨HK, hHK⟩ : ∃ HK, HK = HI ++ H2 ++ [some ⟨g6, 3, [.f (.int .i64 p.size), c2, .own id2 g2 0 l2.length none]⟩] := ⟨_, rfl⟩
          obtain ⟨J, hJ⟩ : ∃ J, J = HI.length + H2.length := ⟨_, rfl⟩
          have hKl : HK.length = J + 1 := by rw [hHK, hJ]; simp; omega
          have hKJ : look HK J g6 = some ⟨g6, 3, [.f (.int .i64 p.size), c2, .own id2 g2 0 l2.length none]⟩ := by rw [hHK, hJ]; exact look_last2
          have hKD : OwnP0 HK c2 (.own id2 g2 0 l2.length none) (wiR p (l2.map (·.r))) T1 (id2 :: l2.flatMap (·.i)) := by
            rw [hHK]
            exact hD.same fun k hk => List.getElem?_append_left (hD.lt k hk)
          have hKl2 : look HK id2 g2 = some ⟨g2, 3, kl kR l2 ++ ys2⟩ := by rw [hHK]; exact look_appL hl2
          have hKil : ∀ o ∈ l2, OwnI HK o.c o.r.cells o.i := fun o ho => by rw [hHK]; exact (hil2 o ho).app
          have hKN : look HK N g = some ⟨g, 3, [.f (.int .i64 p.size), c, .own id gr 0 l.length none]⟩ := by rw [hHK]; exact look_appL (look_appL hb)
          have hKC : OwnP0 HK c (.own id gr 0 l.length none) (wiR p (l2.map (·.r))) S1 (id :: l.flatMap (·.i)) := by
            rw [hHK]
            exact hC0.same fun k hk => by
              have := hC0.lt k hk
              rw [List.getElem?_append_left (by rw [List.length_append]; omega), List.getElem?_append_left this]
          rw [← hHK, ← hJ]
          refine OpS.run (DeleteR_run HK id2 g2 i l2 ys2 hKl2 (by omega) (by have := hsm.1; omega)) (⟨_, Try.func93, rfl, rfl⟩ : Enters Try.prog 93) rfl rfl ?_
          rintro _ _ ⟨rfl, rfl⟩
          have hE := hKD.del hKl2 hKil hy2 (i := i) (by omega)
          have hidJ : id2 ≠ J := by omega
          have hidN : id2 ≠ N := by omega
          obtain ⟨HL, hHL⟩ : ∃ HL, HL = HK.set id2 (some ⟨g2, 3, kl kR (l2.eraseIdx i) ++ ([.f (.int .i64 0), .f .nil, .f (.int .i64 0)] ++ ys2)⟩) := ⟨_, rfl⟩
          have hLJ : look HL J g6 = some ⟨g6, 3, [.f (.int .i64 p.size), c2, .own id2 g2 0 l2.length none]⟩ := by rw [hHL, look_set_ne hidJ]; exact hKJ
          have hLN : look HL N g = some ⟨g, 3, [.f (.int .i64 p.size), c, .own id gr 0 l.length none]⟩ := by rw [hHL, look_set_ne hidN]; exact hKN
          have hLC : OwnP0 HL c (.own id gr 0 l.length none) (wiR p (l2.map (·.r))) S1 (id :: l.flatMap (·.i)) := by
            rw [hHL]
            exact hKC.same fun k hk => List.getElem?_set_ne (by have := hC0.lt k hk; omega)
          have hLl : HL.length = J + 1 := by rw [hHL, List.length_set]; exact hKl
          rw [← hHL] at hE ⊢
          have hLJ2 : ∀ X, look (HL.set J (some ⟨g6, 3, X⟩)) J g6 = some ⟨g6, 3, X⟩ := fun X => look_set_eq (by omega)
          simp (maxSteps := 1000000) (disch := omega) only [go_sem, Nat.reduceAdd, Nat.reduceMul, Nat.reduceSub, Nat.reduceEqDiff, Nat.reduceLeDiff, hLJ, hLJ2]
          obtain ⟨HM, hHM⟩ : ∃ HM, HM = HL.set J (some ⟨g6, 3, [.f (.int .i64 p.size), c2, .own id2 g2 0 (l2.length - 1) none]⟩) := ⟨_, rfl⟩
          have hsubT : ∀ k ∈ T1 ++ id2 :: (l2.eraseIdx i).flatMap (·.i), k ∈ T1 ++ id2 :: l2.flatMap (·.i) := fun k hk => by
            simp only [List.mem_append, List.mem_cons] at hk ⊢
            rcases hk with hk | hk | hk
            · exact .inl hk
            · exact .inr (.inl hk)
            · exact .inr (.inr ((fm_erase l2 i).subset hk))
          have hEM : OwnP0 HM c2 (.own id2 g2 0 (l2.length - 1) none) (wiR p ((l2.map (·.r)).eraseIdx i)) T1 (id2 :: (l2.eraseIdx i).flatMap (·.i)) := by
            rw [hHM]
            exact hE.same fun k hk => List.getElem?_set_ne (by have := hD.lt k (hsubT k hk); rw [List.length_append] at this; omega)
          have hMC : OwnP0 HM c (.own id gr 0 l.length none) (wiR p (l2.map (·.r))) S1 (id :: l.flatMap (·.i)) := by
            rw [hHM]
            exact hLC.same fun k hk => List.getElem?_set_ne (by have := hC0.lt k hk; omega)
          have hMN : look HM N g = some ⟨g, 3, [.f (.int .i64 p.size), c, .own id gr 0 l.length none]⟩ := by rw [hHM, look_set_ne (by omega)]; exact hLN
          have hMJ : look HM J g6 = some ⟨g6, 3, [.f (.int .i64 p.size), c2, .own id2 g2 0 (l2.length - 1) none]⟩ := by rw [hHM]; exact hLJ2 _
          have hMl : HM.length = J + 1 := by rw [hHM, List.length_set]; exact hLl
          have hlen2 : ((l2.map (·.r)).eraseIdx i).length = l2.length - 1 := by rw [List.length_eraseIdx, List.length_map, if_pos (by omega)]
          have hNJ : N ≠ J := by omega
          rw [← hHM]
          have hsn : [AV.agg [.f (.int .i64 p.size), c2, .own id2 g2 0 (l2.length - 1) none]].mapM (snapD HM) = some [aP (wiR p ((l2.map (·.r)).eraseIdx i))] := hEM.snap
          have hrun := onlyOne_run (wiR p ((l2.map fun o : RO => o.r).eraseIdx i)) ⟨hx.1, smRs_erase hsm⟩
          refine OpS.rdD hrun (⟨_, Try.func89, rfl, rfl⟩ : Enters Try.prog 89) rfl rfl hsn rfl ?_
          rw [one_iff]
          have hstep := needL_step (p := p) (i := i) (rs := l2.map (·.r)) (by rw [List.length_map]; omega)
          rw [← hnd] at hstep
          generalize oneV (wiR p ((l2.map (·.r)).eraseIdx i)) = b at hstep ⊢
          simp (maxSteps := 1000000) (disch := omega) only [go_sem, Nat.reduceAdd, Nat.reduceMul, Nat.reduceSub, Nat.reduceEqDiff, Nat.reduceLeDiff]
          (first | with_reducible refine condK_dec (fun h4 => ?_) (fun h4 => ?_) | with_reducible refine condK_ndec (fun h4 => ?_) (fun h4 => ?_) | with_reducible refine condK_nb (fun h4 => ?_) (fun h4 => ?_) | refine condK_b (fun h4 => ?_) (fun h4 => ?_))
          · rw [if_pos h4] at hstep
            simp (maxSteps := 1000000) (disch := omega) only [go_sem, Nat.reduceAdd, Nat.reduceMul, Nat.reduceSub, Nat.reduceEqDiff, Nat.reduceLeDiff, hMJ, hMN]
            refine ⟨i, (HM.set N (some ⟨g, 3, [.f (.int .i64 p.size), c2, .own id2 g2 0 (l2.length - 1) none]⟩), c2, .own id2 g2 0 (l2.length - 1) none, (l2.map (·.r)).eraseIdx i, T1, id2 :: (l2.eraseIdx i).flatMap (·.i)), ⟨⟨⟨?_, smRs_erase hsm, ?_, hstep⟩, look_set_eq (by omega), hEM.same fun k hk => List.getElem?_set_ne ?_, fun k hk => ?_⟩, ?_⟩, rfl, HLe.refl _⟩
            · show i ≤ ((l2.map (·.r)).eraseIdx i).length
              omega
            · show ((l2.map (·.r)).eraseIdx i).length ≤ _
              omega
            · have := (hT k (hsubT k hk)).1
              have h9 : HI.length ≤ k := this
              omega
            · have := (hT k (hsubT k hk)).1
              have h9 : HI.length ≤ k := this
              omega
            · show ((l2.map (·.r)).eraseIdx i).length - i < _
              omega
          · rw [if_neg (by simp [h4])] at hstep
            simp (maxSteps := 1000000) (disch := omega) only [go_sem, Nat.reduceAdd, Nat.reduceMul, Nat.reduceSub, Nat.reduceEqDiff, Nat.reduceLeDiff]
            refine ⟨i + 1, (HM, c, .own id gr 0 l.length none, l2.map (·.r), S1, id :: l.flatMap (·.i)), ⟨⟨⟨?_, hsm, hle, hstep⟩, hMN, hMC, hne⟩, ?_⟩, by push_cast; rfl, HLe.refl _⟩
            · show i + 1 ≤ (l2.map (·.r)).length
              rw [List.length_map]; omega
            · show (l2.map (·.r)).length - (i + 1) < _
              rw [List.length_map]; omega
      · simp (maxSteps := 1000000) (disch := omega) only [go_sem, Nat.reduceAdd, Nat.reduceMul, Nat.reduceSub, Nat.reduceEqDiff, Nat.reduceLeDiff, hb, hl]
        refine OpS.run (ClipR_run HI id gr l.length _ hl (by omega) (by have := hsm.1; omega)) (⟨_, Try.func73, rfl, rfl⟩ : Enters Try.prog 73) rfl rfl ?_
        rintro _ _ ⟨rfl, rfl⟩
        simp (maxSteps := 1000000) (disch := omega) only [go_sem, Nat.reduceAdd, Nat.reduceMul, Nat.reduceSub, Nat.reduceEqDiff, Nat.reduceLeDiff]
        have hie : (l.map (·.r)).length - i = 0 := by omega
        rw [hie] at hnd
        exact ⟨_, HLe.refl _, .inr ⟨h1, _, _, rfl, .inr (by rw [hnd]; exact OwnR.o id gr (some l.length) l ys hl hil hd hy)⟩⟩
end Go.Lg

set_option linter.unusedSimpArgs false
set_option linter.unusedVariables false
set_option maxRecDepth 100000
namespace Go.Lg
open Go.Proofs
def Full (n : Nat) (s : List Int) : Prop := GrdN s n ∧ ∀ k : Nat, k < n * n → 0 < nth s k
def ExtG (xs s : List Int) : Prop := ∀ k : Nat, 0 < nth xs k → nth s k = nth xs k
instance (xs s : List Int) : Decidable (ExtG xs s) := decidable_of_iff (∀ k, k < xs.length → 0 < nth xs (k : Int) → nth s (k : Int) = nth xs (k : Int)) ⟨fun h k hk => by
  by_cases hl : k < xs.length
  · exact h k hl hk
  · rw [nth_over (by omega)] at hk; omega, fun h k _ => h k⟩
theorem ExtG.refl (xs : List Int) : ExtG xs xs := fun _ _ => rfl
theorem ExtG.trans {a b c : List Int} (h : ExtG a b) (k : ExtG b c) : ExtG a c := fun i hi => by
  have := h i hi
  rw [k i (by omega), this]
theorem ExtG.set {xs : List Int} {i : Nat} {v : Int} (hi : i < xs.length) (h0 : ¬ 0 < nth xs i) : ExtG xs (xs.set i v) := fun k hk => by
  rw [nth_setN _ _ _ _ hi, if_neg (fun h => by subst h; exact h0 hk)]
theorem ExtG.of_set {xs s : List Int} {i : Nat} {v : Int} (hi : i < xs.length) (h : ExtG xs s) (hv : nth s i = v) : ExtG (xs.set i v) s := fun k hk => by
  rw [nth_setN _ _ _ _ hi] at hk ⊢
  split
  · rename_i hki; subst hki; exact hv
  · rename_i hki; rw [if_neg hki] at hk; exact h k hk
theorem sols_fit (p : Puz) (n : Nat) : ∀ (m : Nat) (xs : List Int), fitsL p xs n = true → ∀ s ∈ sols p n m xs, fitsL p s n = true
  | 0, xs, hf, s, hs => by rw [sols, List.mem_singleton] at hs; subst hs; exact hf
  | m + 1, xs, hf, s, hs => by
    rw [sols_succ p n m xs rfl] at hs
    split at hs
    · exact sols_fit p n m xs hf s hs
    · obtain ⟨v, hv, hs⟩ := List.mem_flatMap.1 hs
      split at hs
      · rename_i h; exact sols_fit p n m _ h s hs
      · simp at hs
theorem mem_vals {n v : Nat} (h : 1 ≤ v ∧ v ≤ n) : v ∈ vals n 1 := by
  unfold vals
  rw [Nat.sub_self, List.drop_zero, List.mem_map]
  exact ⟨v - 1, List.mem_range.2 (by omega), by omega⟩
theorem vals_nodup (n : Nat) : (vals n 1).Nodup := by
  unfold vals
  rw [Nat.sub_self, List.drop_zero]
  exact List.pairwise_map.2 ((List.nodup_range (n := n)).imp fun h => by omega)
theorem sols_complete {p : Puz} {n : Nat} (hp : PuzN p n) {s : List Int} (hs : Full n s) (hf : fitsL p s n = true) : ∀ (m : Nat) (xs : List Int), m ≤ n * n → GrdN xs n → (∀ k : Nat, k < n * n - m → 0 < nth xs k) → ExtG xs s → s ∈ sols p n m xs
  | 0, xs, hm, hg, hk, he => by
    rw [sols, List.mem_singleton]
    refine ext_nth (by rw [hs.1.len, hg.len]) fun j hj => he j (hk j (by rw [hs.1.len] at hj; omega))
  | m + 1, xs, hm, hg, hk, he => by
    have hxl := hg.len
    obtain ⟨i, hi⟩ : ∃ i, i = xs.length - (m + 1) := ⟨_, rfl⟩
    have hil : i < xs.length := by omega
    rw [sols_succ p n m xs hi.symm]
    split
    · rename_i h0
      refine sols_complete hp hs hf m xs (by omega) hg (fun k hk' => ?_) he
      by_cases hki : k = i
      · rw [hki]; exact h0
      · exact hk k (by omega)
    · rename_i h0
      have hv := hs.1.val i (by rw [hs.1.len]; omega)
      have hv0 := hs.2 i (by omega)
      obtain ⟨v, hvv⟩ : ∃ v : Nat, nth s i = v := ⟨(nth s i).toNat, by omega⟩
      refine List.mem_flatMap.2 ⟨v, mem_vals (by omega), ?_⟩
      have hes := ExtG.of_set (v := (v : Int)) hil he hvv
      have hgs := hg.set (v := v) hil (by omega)
      rw [if_pos (fits_mono hp hgs hs.1 hes hf)]
      refine sols_complete hp hs hf m _ (by omega) hgs (fun k hk' => ?_) hes
      rw [nth_setN _ _ _ _ hil]
      split
      · omega
      · exact hk k (by omega)
theorem sols_nodup (p : Puz) {n : Nat} : ∀ (m : Nat) (xs : List Int), m ≤ n * n → GrdN xs n → (∀ k : Nat, k < n * n - m → 0 < nth xs k) → (sols p n m xs).Nodup
  | 0, xs, _, _, _ => by rw [sols]; simp
  | m + 1, xs, hm, hg, hk => by
    have hxl := hg.len
    obtain ⟨i, hi⟩ : ∃ i, i = xs.length - (m + 1) := ⟨_, rfl⟩
    have hil : i < xs.length := by omega
    rw [sols_succ p n m xs hi.symm]
    split
    · rename_i h0
      refine sols_nodup p m xs (by omega) hg fun k hk' => ?_
      by_cases hki : k = i
      · rw [hki]; exact h0
      · exact hk k (by omega)
    · have hkv : ∀ v : Nat, 1 ≤ v → ∀ k : Nat, k < n * n - m → 0 < nth (xs.set i (v : Int)) k := fun v hv k hk' => by
        rw [nth_setN _ _ _ _ hil]
        split
        · omega
        · exact hk k (by omega)
      rw [List.Nodup, List.pairwise_flatMap]
      refine ⟨fun v hv => ?_, (vals_nodup n).imp_of_mem fun {a b} ha hb hab x hx y hy hxy => ?_⟩
      · have hvb := vals_mem hv
        split
        · exact sols_nodup p m _ (by omega) (hg.set hil hvb.2) (hkv v hvb.1)
        · simp
      · subst hxy
        have hav := vals_mem ha
        have hbv := vals_mem hb
        split at hx
        · split at hy
          · have h1 := (sols_full p m _ (by omega) (hg.set hil hav.2) (hkv a hav.1) x hx).2.2 i (by rw [nth_setN _ _ _ _ hil, if_pos rfl]; omega)
            have h2 := (sols_full p m _ (by omega) (hg.set hil hbv.2) (hkv b hbv.1) x hy).2.2 i (by rw [nth_setN _ _ _ _ hil, if_pos rfl]; omega)
            rw [nth_setN _ _ _ _ hil, if_pos rfl] at h1 h2
            omega
          · simp at hy
        · simp at hx
def allL (p : Puz) : List (List Int) := if puzzleValid p = true ∧ fitsL p p.given p.size.toNat = true then sols p p.size.toNat (p.size.toNat * p.size.toNat) p.given else []
theorem allS_take (p : Puz) (most : Nat) : allS p most = (allL p).take most := by
  unfold allS allL
  split
  · rfl
  · simp
def IsSol (p : Puz) (s : List Int) : Prop := Full p.size.toNat s ∧ ExtG p.given s ∧ fitsL p s p.size.toNat = true
theorem puz_facts {p : Puz} (hv : puzzleValid p = true) : PuzN p p.size.toNat ∧ GrdN p.given p.size.toNat := by
  obtain ⟨hp, hz⟩ := PuzN.of hv
  exact ⟨hp, GrdN.of hp.hn (xs := p.given) (by rw [hz]; exact puzzleValid_grid' hv)⟩
theorem allL_mem {p : Puz} (hv : puzzleValid p = true) (s : List Int) : s ∈ allL p ↔ IsSol p s := by
  obtain ⟨hp, hg⟩ := puz_facts hv
  unfold allL
  constructor
  · intro h
    split at h
    · rename_i hf
      obtain ⟨q1, q2, q3⟩ := sols_full p _ _ (Nat.le_refl _) hg (fun k hk => absurd hk (by omega)) s h
      exact ⟨⟨q1, q2⟩, q3, sols_fit p _ _ _ hf.2 s h⟩
    · simp at h
  · rintro ⟨h1, h2, h3⟩
    rw [if_pos ⟨hv, fits_mono hp hg h1.1 h2 h3⟩]
    exact sols_complete hp h1 h3 _ _ (Nat.le_refl _) hg (fun k hk => absurd hk (by omega)) h2
theorem allL_nodup (p : Puz) : (allL p).Nodup := by
  unfold allL
  split
  · rename_i h
    exact sols_nodup p _ _ (Nat.le_refl _) (puz_facts h.1).2 (fun k hk => absurd hk (by omega))
  · simp
theorem nodup_le {α : Type} [DecidableEq α] : ∀ {a b : List α}, a.Nodup → (∀ x ∈ a, x ∈ b) → a.length ≤ b.length
  | [], _, _, _ => by simp
  | x :: a, b, hn, hs => by
    rw [List.nodup_cons] at hn
    have hx := hs x (by simp)
    have := nodup_le (a := a) (b := b.erase x) hn.2 fun y hy => by
      have hyb := hs y (by simp [hy])
      exact (List.mem_erase_of_ne (fun h => hn.1 (by rw [← h]; exact hy))).2 hyb
    rw [List.length_erase_of_mem hx] at this
    have := List.length_pos_of_mem hx
    simp only [List.length_cons]
    omega
end Go.Lg

set_option linter.unusedSimpArgs false
set_option linter.unusedVariables false
set_option maxRecDepth 100000
namespace Go.Lg
open Go.Proofs
theorem NeededRules_rd (p : Puz) (hx : smP p) : Reads Try.prog 46 [aP p] (.tup [rsl eR (needV p), bool (needOk p)]) := by
  refine Reads.ice (NeededRules_own p hx) ?_
  intro v H' hq
  have e3 : ∀ x, frzC H' (.f (.bool x)) = some (.f (.bool x)) := fun x => rfl
  have key : ∀ (r : CV) (b : Bool), frzC H' r = some (.f (fsl eR (needV p))) → frzA H' (.tup [.c r, bool b]) = some (.tup [rsl eR (needV p), bool b]) := fun r b e1 => by
    simp only [frzA, List.mapM_cons, List.mapM_nil, frz1, e1, e3, Option.pure_def, Option.bind_eq_bind, Option.bind_some, Option.map_some]
  rcases hq with ⟨h1, rfl⟩ | ⟨h1, r, S, rfl, h2⟩
  · rw [h1]
    refine key _ _ ?_
    have : needV p = [] := by unfold needV; rw [if_neg (by rw [h1]; simp)]
    rw [this]
    exact (OwnL.n (E := eR) (n := 3)).frzC
  · rw [h1]
    refine key _ _ ?_
    rcases h2 with ⟨rfl, h3, _⟩ | k
    · rw [h3]; exact (OwnL.n (E := eR) (n := 3)).frzC
    · exact k.frzC
theorem valid_sub {p : Puz} {rs rs' : List Rul} (h : puzzleValid (wiR p rs) = true) (hs : List.Sublist rs' rs) : puzzleValid (wiR p rs') = true := by
  simp only [puzzleValid, Bool.and_eq_true, decide_eq_true_eq, List.all_eq_true] at h ⊢
  obtain ⟨h1, h2, h3⟩ := h
  exact ⟨h1, Nat.le_trans hs.length_le h2, fun r hr => h3 r (hs.subset hr)⟩
theorem sol_sub {p : Puz} {rs rs' : List Rul} (h : puzzleValid (wiR p rs) = true) (hs : List.Sublist rs' rs) : ∀ s ∈ allL (wiR p rs), s ∈ allL (wiR p rs') := fun s hm => by
  rw [allL_mem h] at hm
  rw [allL_mem (valid_sub h hs)]
  refine ⟨hm.1, hm.2.1, ?_⟩
  have := hm.2.2
  simp only [fitsL, Bool.and_eq_true, List.all_eq_true] at this ⊢
  exact ⟨this.1, fun r hr => this.2.1 r (hs.subset hr), this.2.2⟩
theorem one_len (p : Puz) : oneV p = decide ((allL p).length = 1) := by
  unfold oneV
  rw [allS_take, List.length_take, decide_eq_decide]
  omega
theorem len_sub {p : Puz} {rs rs' : List Rul} (h : puzzleValid (wiR p rs) = true) (hs : List.Sublist rs' rs) : (allL (wiR p rs)).length ≤ (allL (wiR p rs')).length := nodup_le (allL_nodup _) (sol_sub h hs)
theorem erase_sub {rs : List Rul} {i j : Nat} (hj : j < i) (hi : i < rs.length) : List.Sublist ((rs.eraseIdx i).eraseIdx j) (rs.eraseIdx j) := by
  have htl : (rs.take i).length = i := by rw [List.length_take]; omega
  have h1 : (rs.eraseIdx i).eraseIdx j = (rs.take i).eraseIdx j ++ rs.drop (i + 1) := by
    rw [List.eraseIdx_eq_take_drop_succ (i := i), List.eraseIdx_append_of_lt_length (by omega)]
  have h2 : rs.eraseIdx j = (rs.take i).eraseIdx j ++ rs.drop i := by
    conv => lhs; rw [← List.take_append_drop i rs]
    rw [List.eraseIdx_append_of_lt_length (by omega)]
  rw [h1, h2]
  refine (List.Sublist.refl _).append ?_
  rw [← List.drop_drop]
  exact List.drop_sublist _ _
theorem need_min (p : Puz) : ∀ (f i : Nat) (rs : List Rul), f = rs.length - i → i ≤ rs.length → puzzleValid (wiR p rs) = true → oneV (wiR p rs) = true → (∀ j, j < i → ¬ oneV (wiR p (rs.eraseIdx j)) = true) →
    puzzleValid (wiR p (needL p f i rs)) = true ∧ oneV (wiR p (needL p f i rs)) = true ∧ (∀ j, j < (needL p f i rs).length → ¬ oneV (wiR p ((needL p f i rs).eraseIdx j)) = true) ∧ List.Sublist (needL p f i rs) rs
  | 0, i, rs, hf, hi, hv, ho, hk => ⟨hv, ho, fun j hj => hk j (by simp only [needL] at hj; omega), List.Sublist.refl _⟩
  | f + 1, i, rs, hf, hi, hv, ho, hk => by
    have hil : i < rs.length := by omega
    have hlen : (rs.eraseIdx i).length = rs.length - 1 := by rw [List.length_eraseIdx, if_pos hil]
    unfold needL
    split
    · rename_i h1
      have hsub := List.eraseIdx_sublist rs i
      have hv1 := valid_sub hv hsub
      obtain ⟨q1, q2, q3, q4⟩ := need_min p f i (rs.eraseIdx i) (by omega) (by omega) hv1 h1 (fun j hj h2 => by
        have a1 := hk j hj
        rw [one_len, decide_eq_true_eq] at a1 h2 ho
        have a2 := len_sub hv (List.eraseIdx_sublist rs j)
        have a3 := len_sub (valid_sub hv (List.eraseIdx_sublist rs j)) (erase_sub hj hil)
        omega)
      exact ⟨q1, q2, q3, q4.trans hsub⟩
    · rename_i h1
      exact need_min p f (i + 1) rs (by omega) (by omega) hv ho (fun j hj => by
        by_cases hji : j = i
        · rw [hji]; exact h1
        · exact hk j (by omega))
theorem need_facts {p : Puz} (h : needOk p = true) : puzzleValid (wiR p (needV p)) = true ∧ oneV (wiR p (needV p)) = true ∧ (∀ j, j < (needV p).length → ¬ oneV (wiR p ((needV p).eraseIdx j)) = true) ∧ List.Sublist (needV p) p.rules := by
  have h' := h
  simp only [needOk, Bool.and_eq_true] at h'
  have := need_min p p.rules.length 0 p.rules (by omega) (Nat.zero_le _) h'.1 h'.2 (fun j hj => absurd hj (Nat.not_lt_zero _))
  unfold needV
  rw [if_pos h]
  exact this
theorem need_sm {p : Puz} (h : smP p) : smRs (needV p) ∧ (needV p).length ≤ p.rules.length := by
  by_cases hk : needOk p = true
  · have hs := (need_facts hk).2.2.2
    exact ⟨⟨Nat.le_trans hs.length_le h.2.1, fun r hr => h.2.2 r (hs.subset hr)⟩, hs.length_le⟩
  · have : needV p = [] := by unfold needV; rw [if_neg hk]
    rw [this]
    exact ⟨⟨by simp, by simp⟩, by simp⟩
end Go.Lg

set_option linter.unusedSimpArgs false
set_option linter.unusedVariables false
set_option maxRecDepth 100000
namespace Go.Lg
open Go.Proofs
theorem heldRuleS_run (rs : List Rul) (k : Int) (hk : 0 ≤ k ∧ k + wM rs ≤ 2 ^ 50) (hx : smRs rs) : Reads Try.prog 49 [rsl eR (mrk k rs), int k] (int (k + wM rs)) := by
  have hlen := hx.1
  have hml : (mrk k rs).length = rs.length := mrk_length k rs
  refine RunCall.cw (c := _) Try.func49 rfl (n := 40) Try.ntmps49 (rs := [.tmp 4]) rfl ?_
  simp only [List.length_cons, List.length_nil, Nat.reduceAdd, Nat.reduceSub, List.replicate, List.cons_append, List.nil_append]
  simp (maxSteps := 1000000) (disch := omega) only [go_sem, Nat.reduceAdd, Nat.reduceMul, Nat.reduceSub, Nat.reduceEqDiff, Nat.reduceLeDiff]
  refine loop_rule (fun i : Nat => rs.length - i) (fun i => i ≤ rs.length) (fun i => [.k, .p (int (k + wM (rs.take i))), .a, .a, .a, .p (int i), .a, .a, .a, .a, .a, .a, .a, .a, .a, .a, .a, .a, .a, .a, .a, .a, .a, .a, .a, .a, .a, .a, .a, .a, .a, .a, .a, .a, .a, .a, .a, .a, .a, .a]) (fun _ => []) 0 (Nat.zero_le _) (by simp (maxSteps := 1000000) (disch := omega) only [go_sem, Nat.reduceAdd, Nat.reduceMul, Nat.reduceSub, Nat.reduceEqDiff, Nat.reduceLeDiff]; simp [wM]) (hle_nil _) ?_
  intro i hi
  have hle := wM_take_le rs i
  simp (maxSteps := 1000000) (disch := omega) only [go_sem, Nat.reduceAdd, Nat.reduceMul, Nat.reduceSub, Nat.reduceEqDiff, Nat.reduceLeDiff, mrk_length]
  (first | with_reducible refine condK_dec (fun h => ?_) (fun h => ?_) | with_reducible refine condK_ndec (fun h => ?_) (fun h => ?_) | with_reducible refine condK_nb (fun h => ?_) (fun h => ?_) | refine condK_b (fun h => ?_) (fun h => ?_))
  · have h : i < rs.length := by omega
    have hw1 : wM (rs.take (i + 1)) = wM (rs.take i) + (2 + (nth rs i).cells.length) := by rw [take_succ_nth h, wM_app, wM_one]
    have hle2 := wM_take_le rs (i + 1)
    have hc := hx.2 _ (nth_mem h)
    simp (maxSteps := 1000000) (disch := omega) only [go_sem, Nat.reduceAdd, Nat.reduceMul, Nat.reduceSub, Nat.reduceEqDiff, Nat.reduceLeDiff, mrk_length, mrk_nth h]
    first | refine OpS.rd (heldIntS_run (nth rs i).cells.length (k + wM (rs.take i) + 1) (by omega) (by omega)) (⟨_, Try.func44, rfl, rfl⟩ : Enters Try.prog 44) rfl rfl rfl rfl ?_ | refine Loud.rd (heldIntS_run (nth rs i).cells.length (k + wM (rs.take i) + 1) (by omega) (by omega)) (⟨_, Try.func44, rfl, rfl⟩ : Enters Try.prog 44) rfl rfl rfl rfl ?_
    simp (maxSteps := 1000000) (disch := omega) only [go_sem, Nat.reduceAdd, Nat.reduceMul, Nat.reduceSub, Nat.reduceEqDiff, Nat.reduceLeDiff]
    simp (maxSteps := 1000000) (disch := omega) only [go_sem, Nat.reduceAdd, Nat.reduceMul, Nat.reduceSub, Nat.reduceEqDiff, Nat.reduceLeDiff, lt_no, lt_yes, le_no, le_yes, eq_no, eq_yes, mrk_length, mrk_nth h]
    exact ⟨i + 1, ⟨h, by omega⟩, ⟨by push_cast; omega, by omega⟩, hle_nil _⟩
  have h : i = rs.length := by omega
  subst h
  simp (maxSteps := 1000000) (disch := omega) only [go_sem, Nat.reduceAdd, Nat.reduceMul, Nat.reduceSub, Nat.reduceEqDiff, Nat.reduceLeDiff]
  rw [List.take_length]
end Go.Lg
