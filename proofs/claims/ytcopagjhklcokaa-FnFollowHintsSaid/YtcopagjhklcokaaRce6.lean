/- GpGF, cut to what is needed. -/
import Derived.Test.YtcopagjhklcokaaRce4
import Derived.Test.YtcopagjhklcokaaRcd5
open Nat(reduceAdd reduceMul reduceSub reduceEqDiff reduceLeDiff)
set_option linter.unusedSimpArgs false
set_option linter.unusedVariables false
set_option maxRecDepth 100000
namespace Go.Lg
open Go.Proofs
attribute [-go_sem] appendM lwF_cons
def LstO (H : Heap) (c : CV) (ls : List (List Int)) : Prop := ∃ oid og cs, c = .own oid og 0 ls.length none ∧ look H oid og = some ⟨og, 1, cs⟩ ∧ cs.length = ls.length ∧ ∀ i (h : i < ls.length), ∃ id g, cs[i]? = some (.own id g 0 ls[i].length none) ∧ look H id g = some ⟨g, 1, cl (eI .i64) ls[i]⟩
theorem LstO.shift {H0 H : Heap} {c : CV} {ls : List (List Int)} (h : LstO H c ls) : LstO (H0 ++ shiftH H0.length H) (shiftC H0.length c) ls := by
  obtain ⟨oid, og, cs, rfl, k1, k2, k3⟩ := h
  refine ⟨oid + H0.length, og, cs.map (shiftC H0.length), rfl, look_shiftH k1, by rw [List.length_map]; exact k2, fun i hi => ?_⟩
  obtain ⟨id, g, q1, q2⟩ := k3 i hi
  refine ⟨id + H0.length, g, by rw [List.getElem?_map, q1]; rfl, ?_⟩
  rw [look_shiftH q2]
  simp only [shiftB, shift_cl]
section
variable {P : Program} {o : Oper} {st : St} {K : KV} {fo : Operand} {xs : Array Operand} {ts : Array TypeId} {f : FuncId} {args : List AV}
theorem OpS.mkLst {ls : List (List Int)} (hc : RunCall P f args [] (fun v H => ∃ c, v = .c c ∧ LstO H c ls)) (he : Enters P f) (ho : o.op = .call ⟨.value fo, xs, ts⟩) (ha : callArgs st fo xs = some (f, args)) (hf : args.all frozenA = true)
    (hk : ∀ c H', LstO (st.h ++ H') c ls → K (.c c) (st.h ++ H')) : OpS P o st K :=
  OpS.mkQ hc he ho ha hf fun r H' ⟨c, h1, h2⟩ => by
    subst h1
    exact ⟨rfl, hk _ _ h2.shift⟩
def FstO (p : Puz) (H : Heap) (v : AV) : Prop := (allS p 1 = [] ∧ ∃ id g, v = .tup [.c (.own id g 0 0 none), bool false]) ∨ ∃ s id g, allS p 1 = [s] ∧ v = .tup [.c (.own id g 0 s.length none), bool true] ∧ look H id g = some ⟨g, 1, cl (eI .i64) s⟩
theorem OpS.mkFst {p : Puz} (hc : RunCall P f args [] (fun v H => FstO p H v)) (he : Enters P f) (ho : o.op = .call ⟨.value fo, xs, ts⟩) (ha : callArgs st fo xs = some (f, args)) (hf : args.all frozenA = true)
    (hk0 : ∀ id g H', allS p 1 = [] → K (.tup [.c (.own id g 0 0 none), bool false]) (st.h ++ H'))
    (hk1 : ∀ s id g H', allS p 1 = [s] → look (st.h ++ H') id g = some ⟨g, 1, cl (eI .i64) s⟩ → st.h.length ≤ id → K (.tup [.c (.own id g 0 s.length none), bool true]) (st.h ++ H')) : OpS P o st K :=
  OpS.mkQ hc he ho ha hf fun r H' h => by
    rcases h with ⟨h1, id, g, rfl⟩ | ⟨s, id, g, h1, rfl, h2⟩
    · exact ⟨rfl, hk0 _ _ _ h1⟩
    · refine ⟨rfl, hk1 s _ _ _ h1 ?_ (by omega)⟩
      rw [look_shiftH h2]
      simp only [shiftB, shift_cl]
end
theorem l5All_own (p : Puz) (most : Nat) (hmo : 1 ≤ most ∧ most ≤ 600) (hx : smP p) : RunCall Try.prog 70 [aP p, int most] [] (fun v H => ∃ c, v = .c c ∧ LstO H c (allS p most)) := by
  have hgl := hx.1
  refine RunCall.cw (c := _) Try.func70 rfl (n := 17) Try.ntmps70 (rs := [.tmp 4]) rfl ?_
  simp only [List.length_cons, List.length_nil, Nat.reduceAdd, Nat.reduceSub, List.replicate, List.cons_append, List.nil_append]
  simp(maxSteps:=999999)(disch:=omega)only[go_sem,reduceAdd,reduceMul,reduceSub,reduceEqDiff,reduceLeDiff]
  intro g1 g2 g3
  first | refine OpS.rd (sPuzzleFits_run p p.given hx hgl) (⟨_, Try.func75, rfl, rfl⟩ : Enters Try.prog 75) rfl rfl rfl rfl ?_ | refine Loud.rd (sPuzzleFits_run p p.given hx hgl) (⟨_, Try.func75, rfl, rfl⟩ : Enters Try.prog 75) rfl rfl rfl rfl ?_
  simp(maxSteps:=999999)(disch:=omega)only[go_sem,reduceAdd,reduceMul,reduceSub,reduceEqDiff,reduceLeDiff]
  cases hc : (puzzleValid p && (gridValid p.given p.size && fitsL p p.given p.size.toNat)) with
  | false =>
    simp(maxSteps:=999999)(disch:=omega)only[go_sem,reduceAdd,reduceMul,reduceSub,reduceEqDiff,reduceLeDiff]
    have : allS p most = [] := by
      unfold allS
      rw [if_neg]
      rintro ⟨h1, h2⟩
      rw [h1, puzzleValid_grid' h1, h2] at hc
      cases hc
    rw [this]
    exact ⟨_, HLe.refl _, _, rfl, 1, g2, [], rfl, look_of (b := ⟨g2, 1, []⟩) rfl, rfl, fun i h => by simp at h⟩
  | true =>
    simp only [Bool.and_eq_true] at hc
    obtain ⟨h1, h2, h3⟩ := hc
    obtain ⟨hp, hs⟩ := PuzN.of h1
    have hg := GrdN.of hp.hn (xs := p.given) (by rw [hs]; exact h2)
    have hall : allS p most = (sols p p.size.toNat (p.size.toNat * p.size.toNat) p.given).take most := by unfold allS; rw [if_pos ⟨h1, h3⟩]
    generalize p.size.toNat = n at hp hs hg hall
    have hr := l5Search_frz hp most hmo.2 (n * n) [some ⟨g1, 1, cP p⟩, some ⟨g2, 1, []⟩, some ⟨g3, 1, [CV.own 1 g2 0 0 none]⟩] p.given 2 g3 [] [1] (Nat.le_refl _) hg (by simp; omega)
      ⟨⟨1, g2, [], look_of (b := ⟨g3, 1, [CV.own 1 g2 0 0 none]⟩) rfl, look_of (b := ⟨g2, 1, []⟩) rfl, by simp, rfl, fun i hi => by simp at hi⟩, by simp⟩ (by simp)
    rw [Nat.sub_self] at hr
    simp(maxSteps:=999999)(disch:=omega)only[go_sem,reduceAdd,reduceMul,reduceSub,reduceEqDiff,reduceLeDiff]
    refine OpS.run hr (⟨_, Try.func113, rfl, rfl⟩ : Enters Try.prog 113) rfl rfl ?_
    rintro _ H2 ⟨rfl, S2, o2, _⟩
    rw [List.nil_append, List.length_nil, Nat.sub_zero, ← hall] at o2
    obtain ⟨⟨oid, og, cs, k1, k2, k3, k4, k5⟩, _⟩ := o2
    simp(maxSteps:=999999)(disch:=omega)only[go_sem,reduceAdd,reduceMul,reduceSub,reduceEqDiff,reduceLeDiff, k1]
    exact ⟨_, HLe.refl _, _, rfl, oid, og, cs, rfl, k2, k4, fun i hi => by obtain ⟨id, g, q1, q2, _⟩ := k5 i hi; exact ⟨id, g, q1, q2⟩⟩
theorem sSolveFirst_own (p : Puz) (hx : smP p) : RunCall Try.prog 111 [aP p] [] (fun v H => FstO p H v) := by
  have hle := allS_len' p 1
  refine RunCall.cw (c := _) Try.func111 rfl (n := 14) Try.ntmps111 (rs := [.tmp 2, .tmp 3]) rfl ?_
  simp only [List.length_cons, List.length_nil, Nat.reduceAdd, Nat.reduceSub, List.replicate, List.cons_append, List.nil_append]
  simp(maxSteps:=999999)(disch:=omega)only[go_sem,reduceAdd,reduceMul,reduceSub,reduceEqDiff,reduceLeDiff]
  intro g1
  refine OpS.mkLst (l5All_own p 1 (by omega) hx) (⟨_, Try.func70, rfl, rfl⟩ : Enters Try.prog 70) rfl rfl rfl ?_
  rintro _ H1 ⟨oid, og, cs, rfl, k1, k2, k3⟩
  obtain ⟨HA, hHA⟩ : ∃ HA : Heap, HA = [some ⟨g1, 1, cP p⟩] ++ H1 := ⟨_, rfl⟩
  have k1 : look HA oid og = some ⟨og, 1, cs⟩ := by rw [hHA]; exact k1
  have k3 : ∀ i (h : i < (allS p 1).length), ∃ id g, cs[i]? = some (.own id g 0 (allS p 1)[i].length none) ∧ look HA id g = some ⟨g, 1, cl (eI .i64) (allS p 1)[i]⟩ := by rw [hHA]; exact k3
  show vwK _ _ _ _ _ _ (.c (.own oid og 0 (allS p 1).length none)) ([some ⟨g1, 1, cP p⟩] ++ H1)
  rw [← hHA]
  clear hHA
  match hL : allS p 1, hle with
  | [], _ =>
    simp(maxSteps:=999999)(disch:=omega)only[go_sem,reduceAdd,reduceMul,reduceSub,reduceEqDiff,reduceLeDiff, k1]
    ((first | with_reducible refine condK_dec ?_ ?_ | with_reducible refine condK_ndec ?_ ?_ | with_reducible refine condK_nb ?_ ?_ | refine condK_b ?_ ?_) <;> intro c0)
    rotate_left
    · exact absurd rfl c0
    simp(maxSteps:=999999)(disch:=omega)only[go_sem,reduceAdd,reduceMul,reduceSub,reduceEqDiff,reduceLeDiff]
    intro g2
    exact ⟨_, HLe.refl _, .inl ⟨hL, _, _, rfl⟩⟩
  | [s], _ =>
    simp only [hL] at k3
    obtain ⟨id, g, q1, q2⟩ := k3 0 (by simp)
    have hcs : cs = [.own id g 0 s.length none] := by
      rw [hL] at k2
      obtain ⟨c, rfl⟩ := List.length_eq_one_iff.1 k2
      simpa using q1
    subst hcs
    simp(maxSteps:=999999)(disch:=omega)only[go_sem,reduceAdd,reduceMul,reduceSub,reduceEqDiff,reduceLeDiff, k1]
    ((first | with_reducible refine condK_dec ?_ ?_ | with_reducible refine condK_ndec ?_ ?_ | with_reducible refine condK_nb ?_ ?_ | refine condK_b ?_ ?_) <;> intro c0)
    · cases c0
    simp(maxSteps:=999999)(disch:=omega)only[go_sem,reduceAdd,reduceMul,reduceSub,reduceEqDiff,reduceLeDiff, k1, Int.reduceToNat]
    exact ⟨_, HLe.refl _, .inr ⟨s, id, g, hL, rfl, q2⟩⟩
  | _ :: _ :: _, h => simp at h
def smD (p : Puz) : Prop := p.given.length ≤ 16 ∧ ruleSm p.rules 30 5
theorem smD.sm {p : Puz} (h : smD p) : smP p := ⟨by have := h.1; omega, by have := h.2.1; omega, fun r hr => by have := h.2.2 r hr; omega⟩
structure TrI (H HI : Heap) (id g : Nat) (B : Int) (g4 J g6 : Nat) (p : Puz) (c : CV) (zs : List Int) : Prop where
  out : look HI H.length g4 = some ⟨g4, 3, [.f (.int .i64 0), .f .nil, .f .nil]⟩
  puz : look HI J g6 = some ⟨g6, 3, cP p⟩
  grid : ∃ gid gg, c = .own gid gg 0 zs.length none ∧ look HI gid gg = some ⟨gg, 1, cl (eI .i64) zs⟩ ∧ H.length < gid ∧ gid ≠ J
  rd : RdAt HI id g B
  lt : id < H.length
  ln : H.length < J ∧ J < HI.length
  frm : ∀ k, k < H.length → k ≠ id → HI[k]? = H[k]?
section
variable {H HI H2 : Heap} {id g g4 J g6 : Nat} {B B' : Int} {p : Puz} {c : CV} {zs : List Int}
theorem TrI.mono (h : TrI H HI id g B g4 J g6 p c zs) (hb : B ≤ B') : TrI H HI id g B' g4 J g6 p c zs := { h with rd := h.rd.mono hb }
theorem TrI.step (h : TrI H HI id g B g4 J g6 p c zs) (hs : ∀ i, H.length ≤ i → i < HI.length → H2[i]? = HI[i]?) (hl : HI.length ≤ H2.length) (hr : RdAt H2 id g B') (hf : ∀ k, k < H.length → k ≠ id → H2[k]? = HI[k]?) : TrI H H2 id g B' g4 J g6 p c zs := by
  have hn := h.ln
  have hL : ∀ i g, H.length ≤ i → i < HI.length → look H2 i g = look HI i g := fun i g h1 h2 => by unfold look; rw [hs i h1 h2]
  obtain ⟨gid, gg, g1, g2, g3, g4⟩ := h.grid
  have hgl : gid < HI.length := (List.getElem?_eq_some_iff.1 (look_some g2).1).1
  exact { out := by rw [hL _ _ (Nat.le_refl _) (by omega)]; exact h.out
          puz := by rw [hL _ _ (by omega) (by omega)]; exact h.puz
          grid := ⟨gid, gg, g1, by rw [hL _ _ (by omega) hgl]; exact g2, g3, g4⟩
          rd := hr, lt := h.lt, ln := by omega
          frm := fun k hk hne => by rw [hf k hk hne]; exact h.frm k hk hne }
theorem TrI.pick (h : TrI H HI id g B g4 J g6 p c zs) (hr : RdAt H2 id g B') (hf : Frm HI H2 [id]) : TrI H H2 id g B' g4 J g6 p c zs := by
  have hl := h.lt
  exact h.step (fun i hi _ => hf.2 i (by simp; omega)) (by rw [hf.1]; exact Nat.le_refl _) hr fun k hk hne => hf.2 k (by simpa using hne)
theorem TrI.app {X : Heap} (h : TrI H HI id g B g4 J g6 p c zs) : TrI H (HI ++ X) id g B g4 J g6 p c zs := by
  have hn := h.ln
  exact h.step (fun i _ hi => List.getElem?_append_left hi) (by simp) h.rd.app fun k hk _ => List.getElem?_append_left (by omega)
theorem TrI.set (h : TrI H HI id g B g4 J g6 p c zs) {gid gg : Nat} (hc : c = .own gid gg 0 zs.length none) (k : Nat) (v : Int) : TrI H (HI.set gid (some ⟨gg, 1, cl (eI .i64) (zs.set k v)⟩)) id g B g4 J g6 p c (zs.set k v) := by
  have hn := h.ln
  have hl := h.lt
  obtain ⟨gid', gg', g1, g2, g3, g4⟩ := h.grid
  rw [hc] at g1
  cases g1
  have hgl : gid < HI.length := (List.getElem?_eq_some_iff.1 (look_some g2).1).1
  exact { out := by rw [look_set_ne' (by omega)]; exact h.out
          puz := by rw [look_set_ne' (by omega)]; exact h.puz
          grid := ⟨gid, gg, by rw [hc, List.length_set], look_set_eq' hgl, g3, g4⟩
          rd := h.rd.same (by rw [List.getElem?_set_ne (by omega)])
          lt := hl, ln := by rw [List.length_set]; exact hn
          frm := fun k hk hne => by rw [List.getElem?_set_ne (by omega)]; exact h.frm k hk hne }
end
def tryDQ (H : Heap) (id g : Nat) (B : Int) : KV := fun v H' => (∃ (p : Puz) (zs : List Int), v = .tup [aP p, ints zs] ∧ smD p ∧ zs.length ≤ 16) ∧ RdAt H' id g (B + 500) ∧ Frm H H' [id]
set_option maxHeartbeats 4000000 in
theorem l20Try_run (H : Heap) (id g : Nat) (B kk : Int) (hr : RdAt H id g B) (hB : B ≤ 2 ^ 36) (hkk : kk ≤ 1000) : RunCall Try.prog 68 [.c (.ptr id g 0), int kk] H (tryDQ H id g B) := by
  have hlt := hr.lt
  refine RunCall.iceS (Q' := fun v H' => ∃ p c zs, v = .tup [aP p, .c c] ∧ frzS (tailS H.length) H' 6 c = some (fints zs) ∧ smD p ∧ zs.length ≤ 16 ∧ RdAt H' id g (B + 500) ∧ H.length ≤ H'.length ∧ ∀ k, k < H.length → k ≠ id → H'[k]? = H[k]?) ?_ ?_
  rotate_left
  · rintro v H' ⟨p, c, zs, rfl, h1, h2, h3, h5, h6, h7⟩
    refine ⟨tailS H.length, H'.take H.length, .tup [aP p, ints zs], iceH_take _ _, iceA_two (.s _) (.c _ _ (iceC_f h1)), ⟨p, zs, rfl, h2, h3⟩, h5.take hlt, by simp; omega, fun i hi => ?_⟩
    by_cases hi' : i < H.length
    · rw [List.getElem?_take_of_lt hi', h7 i hi' (by simpa using hi)]
    · rw [List.getElem?_take_eq_none (by omega), List.getElem?_eq_none (by omega)]
  refine RunCall.ofR (c := _) Try.func68 rfl (n := 87) Try.ntmps68 (rs := [.cell 4 26, .tmp 5]) rfl ?_
  simp only [List.length_cons, List.length_nil, Nat.reduceAdd, Nat.reduceSub, List.replicate, List.cons_append, List.nil_append]
  refine RunC.cutN 4 (fun a : Nat × Nat × Nat × Puz × CV × List Int × Heap => smD a.2.2.2.1 ∧ a.2.2.2.2.2.1.length ≤ 16 ∧ TrI H a.2.2.2.2.2.2 id g (B + 450) a.1 a.2.1 a.2.2.1 a.2.2.2.1 a.2.2.2.2.1 a.2.2.2.2.2.1) (fun a => [.k, .k, .a, .a, .p (.c (.ptr H.length a.1 0)), .a, .p (.c (.ptr a.2.1 a.2.2.1 0)), .p (.c a.2.2.2.2.1), .a, .a, .a, .a, .a, .a, .a, .a, .a, .a, .a, .a, .a, .a, .a, .a, .a, .a, .a, .a, .a, .a, .a, .a, .a, .a, .a, .a, .a, .a, .a, .a, .a, .a, .a, .a, .a, .a, .a, .a, .a, .a, .a, .a, .a, .a, .a, .a, .a, .a, .a, .a, .a, .a, .a, .a, .a, .a, .a, .a, .a, .a, .a, .a, .a, .a, .a, .a, .a, .a, .a, .a, .a, .a, .a, .a, .a, .a, .a]) (fun a => a.2.2.2.2.2.2) ?_ ?_
  · simp(maxSteps:=999999)(disch:=omega)only[go_sem,reduceAdd,reduceMul,reduceSub,reduceEqDiff,reduceLeDiff, look_off, look_off0, set_off, set_off0, List.append_assoc, List.cons_append, List.nil_append, List.length_append]
    intro g4
    refine OpS.run (l20Puzzle_run _ id g B kk hr.app (by omega) hkk) (⟨_, Try.func58, rfl, rfl⟩ : Enters Try.prog 58) rfl rfl ?_
    rintro _ H1 ⟨⟨p, rfl, hp1, hp2⟩, r1, f1⟩
    have hsm : smD p := ⟨hp1, hp2⟩
    have l1 : H1.length = H.length + 1 := by rw [f1.1]; simp
    have ho1 : look H1 H.length g4 = some ⟨g4, 3, [.f (.int .i64 0), .f .nil, .f .nil]⟩ := by rw [f1.look (by simp; omega)]; exact look_last
    simp(maxSteps:=999999)(disch:=omega)only[go_sem,reduceAdd,reduceMul,reduceSub,reduceEqDiff,reduceLeDiff, look_off, look_off0, set_off, set_off0, List.append_assoc, List.cons_append, List.nil_append, List.length_append]
    intro g6 g5
    refine appendM_own (E := eI .i64) (xs := []) (ys := p.given) (sliceOf_of' ti23 rfl ti3) ⟨rfl, rfl, by decide, by decide⟩ rfl (by rw [look_off]; exact look_of (b := ⟨g5, 1, cl (eI .i64) []⟩) rfl) ⟨by simp, by omega⟩ elems_f ?_
    intro g7
    rw [List.length_nil, Nat.zero_add, List.nil_append]
    simp(maxSteps:=999999)(disch:=omega)only[go_sem,reduceAdd,reduceMul,reduceSub,reduceEqDiff,reduceLeDiff, look_off, look_off0, set_off, set_off0, List.append_assoc, List.cons_append, List.nil_append, List.length_append]
    obtain ⟨HI, hHI⟩ : ∃ HI : Heap, HI = H1 ++ [some ⟨g6, 3, cP p⟩, some ⟨g7, 1, cl (eI .i64) p.given⟩] := ⟨_, rfl⟩
    have eHI : H1 ++ [some ⟨g6, 3, [CV.f (FV.int IntKind.i64 p.size), CV.f (fints p.given), CV.f (fsl eR p.rules)]⟩, some ⟨g7, 1, cl (eI .i64) p.given⟩] = HI := hHI.symm
    have q0 : TrI H HI id g (B + 400) g4 H1.length g6 p (.own (H1.length + 1) g7 0 p.given.length none) p.given :=
      { out := by rw [hHI]; exact look_appL ho1
        puz := by rw [hHI, look_off0]; exact look_of (b := ⟨g6, 3, cP p⟩) rfl
        grid := ⟨H1.length + 1, g7, rfl, by rw [hHI, look_off]; exact look_of (b := ⟨g7, 1, cl (eI .i64) p.given⟩) rfl, by omega, by omega⟩
        rd := by rw [hHI]; exact r1.app
        lt := hlt, ln := by rw [hHI]; simp; omega
        frm := fun k hk hne => by rw [hHI, List.getElem?_append_left (by omega), f1.2 k (by simpa using hne), List.getElem?_append_left hk] }
    rw [eHI]
    clear hHI eHI
    refine OpS.mkFst (sSolveFirst_own p hsm.sm) (⟨_, Try.func111, rfl, rfl⟩ : Enters Try.prog 111) rfl rfl rfl ?_ ?_
    · intro id8 g8 H5 _
      simp(maxSteps:=999999)(disch:=omega)only[go_sem,reduceAdd,reduceMul,reduceSub,reduceEqDiff,reduceLeDiff]
      exact ⟨(g4, H1.length, g6, p, .own (H1.length + 1) g7 0 p.given.length none, p.given, HI ++ H5), ⟨hsm, hp1, q0.app.mono (by omega)⟩, by simp, HLe.refl _⟩
    · intro s id8 g8 H5 hs hlk hid
      have hv : puzzleValid p = true := by
        by_cases hv : puzzleValid p = true
        · exact hv
        · unfold allS at hs; rw [if_neg (fun h => hv h.1)] at hs; cases hs
      have hsl : s.length = p.given.length := allS_cell hv (most := 1) (by rw [hs]; simp)
      have q5 := q0.app (X := H5)
      obtain ⟨HK, hHK⟩ : ∃ HK : Heap, HK = HI ++ H5 := ⟨_, rfl⟩
      have hlk : look HK id8 g8 = some ⟨g8, 1, cl (eI .i64) s⟩ := by rw [hHK]; exact hlk
      have hid : HI.length ≤ id8 := hid
      rw [← hHK] at q5
      show vwK _ _ _ _ _ _ (.tup [.c (.own id8 g8 0 s.length none), bool true]) (HI ++ H5)
      rw [← hHK]
      have hHKl : HI.length ≤ HK.length := by rw [hHK]; simp
      clear hHK
      simp(maxSteps:=999999)(disch:=omega)only[go_sem,reduceAdd,reduceMul,reduceSub,reduceEqDiff,reduceLeDiff]
      refine OpS.run (pick_run HK id g _ _ q5.rd (by omega)) (⟨_, Try.func99, rfl, rfl⟩ : Enters Try.prog 99) rfl rfl ?_
      rintro _ H6 ⟨⟨y, rfl, y0, y1⟩, r6, f6⟩
      replace f6 : Frm HK H6 [id] := f6
      have q6 := q5.pick r6 f6
      have hln0 := q0.ln
      have hlk6 : look H6 id8 g8 = some ⟨g8, 1, cl (eI .i64) s⟩ := by rw [f6.look (by simp; omega)]; exact hlk
      simp(maxSteps:=999999)(disch:=omega)only[go_sem,reduceAdd,reduceMul,reduceSub,reduceEqDiff,reduceLeDiff]
      ((first | with_reducible refine condK_dec ?_ ?_ | with_reducible refine condK_ndec ?_ ?_ | with_reducible refine condK_nb ?_ ?_ | refine condK_b ?_ ?_) <;> intro c1)
      rotate_left
      · simp(maxSteps:=999999)(disch:=omega)only[go_sem,reduceAdd,reduceMul,reduceSub,reduceEqDiff,reduceLeDiff]
        exact ⟨(g4, H1.length, g6, p, .own (H1.length + 1) g7 0 p.given.length none, p.given, H6), ⟨hsm, hp1, q6.mono (by omega)⟩, by simp, HLe.refl _⟩
      have q7 : TrI H H6 id g (B + 401) g4 H1.length g6 p (.own id8 g8 0 s.length none) s :=
        { q6 with grid := ⟨id8, g8, rfl, hlk6, by omega, by omega⟩, rd := q6.rd.mono (by omega) }
      simp(maxSteps:=999999)(disch:=omega)only[go_sem,reduceAdd,reduceMul,reduceSub,reduceEqDiff,reduceLeDiff]
      refine loop_rule3 (fun (k : Nat) (zs : List Int) (HI : Heap) => s.length - k) (fun k zs HI => k ≤ s.length ∧ zs.length = s.length ∧ TrI H HI id g (B + 401 + k) g4 H1.length g6 p (.own id8 g8 0 s.length none) zs) (fun k zs HI => [.k, .k, .a, .a, .k, .a, .k, .p (.c (.own id8 g8 0 s.length none)), .a, .a, .p (int k), .a, .a, .a, .a, .a, .a, .a, .a, .a, .a, .a, .a, .a, .a, .a, .a, .a, .a, .a, .a, .a, .a, .a, .a, .a, .a, .a, .a, .a, .a, .a, .a, .a, .a, .a, .a, .a, .a, .a, .a, .a, .a, .a, .a, .a, .a, .a, .a, .a, .a, .a, .a, .a, .a, .a, .a, .a, .a, .a, .a, .a, .a, .a, .a, .a, .a, .a, .a, .a, .a, .a, .a, .a, .a, .a, .a]) (fun _ _ HI => HI) 0 s H6 ⟨Nat.zero_le _, rfl, q7.mono (by omega)⟩ (by simp(maxSteps:=999999)(disch:=omega)only[go_sem,reduceAdd,reduceMul,reduceSub,reduceEqDiff,reduceLeDiff]; rfl) (HLe.refl _) ?_
      rintro k zs HI ⟨hk, hzl, q⟩
      have hpz := q.puz
      obtain ⟨gid, gg, e1, e2, e3, e4⟩ := q.grid
      rw [hzl] at e1
      cases e1
      simp(maxSteps:=999999)(disch:=omega)only[go_sem,reduceAdd,reduceMul,reduceSub,reduceEqDiff,reduceLeDiff, e2]
      ((first | with_reducible refine condK_dec ?_ ?_ | with_reducible refine condK_ndec ?_ ?_ | with_reducible refine condK_nb ?_ ?_ | refine condK_b ?_ ?_) <;> intro c2)
      · have c2 : k < s.length := by omega
        simp(maxSteps:=999999)(disch:=omega)only[go_sem,reduceAdd,reduceMul,reduceSub,reduceEqDiff,reduceLeDiff, hpz]
        ((first | with_reducible refine guardK_dec ?_ ?_ | with_reducible refine guardK_ndec ?_ ?_ | with_reducible refine guardK_nb ?_ ?_ | with_reducible refine guardK_split ?_ ?_ | with_reducible refine guardQ_dec ?_ ?_ | with_reducible refine guardL_dec ?_ ?_ | with_reducible refine guardQ_ndec ?_ ?_ | with_reducible refine guardL_ndec ?_ ?_ | with_reducible refine guardQ_nb ?_ ?_ | with_reducible refine guardL_nb ?_ ?_ | with_reducible refine guardQ_split ?_ ?_ | with_reducible refine guardL_split ?_ ?_) <;> intro d1 <;> simp(maxSteps:=999999)(disch:=omega)only[go_sem,reduceAdd,reduceMul,reduceSub,reduceEqDiff,reduceLeDiff, d1])
        · refine OpS.run (pick_run HI id g _ _ q.rd (by omega)) (⟨_, Try.func99, rfl, rfl⟩ : Enters Try.prog 99) rfl rfl ?_
          rintro _ H7 ⟨⟨y, rfl, y0, y1⟩, r7, f7⟩
          replace f7 : Frm HI H7 [id] := f7
          have q8 := q.pick r7 f7
          obtain ⟨gid', gg', e1', e2', _⟩ := q8.grid
          rw [hzl] at e1'
          cases e1'
          simp(maxSteps:=999999)(disch:=omega)only[go_sem,reduceAdd,reduceMul,reduceSub,reduceEqDiff,reduceLeDiff]
          ((first | with_reducible refine condK_dec ?_ ?_ | with_reducible refine condK_ndec ?_ ?_ | with_reducible refine condK_nb ?_ ?_ | refine condK_b ?_ ?_) <;> intro d2)
          · simp(maxSteps:=999999)(disch:=omega)only[go_sem,reduceAdd,reduceMul,reduceSub,reduceEqDiff,reduceLeDiff, e2']
            rw [Int.toNat_natCast]
            exact ⟨k + 1, zs.set k 0, _, ⟨⟨by omega, by rw [List.length_set]; exact hzl, (q8.set (by rw [hzl]) k 0).mono (by push_cast; omega)⟩, by omega⟩, by push_cast; omega, HLe.refl _⟩
          · simp(maxSteps:=999999)(disch:=omega)only[go_sem,reduceAdd,reduceMul,reduceSub,reduceEqDiff,reduceLeDiff]
            exact ⟨k + 1, zs, _, ⟨⟨by omega, hzl, q8.mono (by push_cast; omega)⟩, by omega⟩, by push_cast; omega, HLe.refl _⟩
        · exact ⟨k + 1, zs, _, ⟨⟨by omega, hzl, q.mono (by push_cast; omega)⟩, by omega⟩, by push_cast; omega, HLe.refl _⟩
      · simp(maxSteps:=999999)(disch:=omega)only[go_sem,reduceAdd,reduceMul,reduceSub,reduceEqDiff,reduceLeDiff]
        exact ⟨(g4, H1.length, g6, p, .own id8 g8 0 s.length none, zs, HI), ⟨hsm, by simp only; omega, q.mono (by omega)⟩, by simp, HLe.refl _⟩
  · rintro ⟨g4, J, g6, p, c, zs, HI⟩ ⟨hsm, hzl, q⟩
    simp only at hsm hzl q
    simp(maxSteps:=999999)(disch:=omega)only[go_sem,reduceAdd,reduceMul,reduceSub,reduceEqDiff,reduceLeDiff]
    refine RunC.cutN 1 (fun a : List Int × Heap => a.1.length = zs.length ∧ TrI H a.2 id g (B + 453) g4 J g6 p c a.1) (fun a => [.k, .k, .a, .a, .k, .a, .k, .k, .a, .a, .a, .a, .a, .a, .a, .a, .a, .a, .a, .a, .a, .a, .a, .a, .a, .a, .a, .a, .a, .a, .a, .a, .a, .a, .a, .a, .a, .a, .a, .a, .a, .a, .a, .a, .a, .a, .a, .a, .a, .a, .a, .a, .a, .a, .a, .a, .a, .a, .a, .a, .a, .a, .a, .a, .a, .a, .a, .a, .a, .a, .a, .a, .a, .a, .a, .a, .a, .a, .a, .a, .a, .a, .a, .a, .a, .a, .a]) (fun a => a.2) ?_ ?_
    · obtain ⟨gid, gg, e1, e2, e3, e4⟩ := q.grid
      subst e1
      have hlt := q.lt
      have hln := q.ln
      have hpz := q.puz
      have hgl : gid < HI.length := (List.getElem?_eq_some_iff.1 (look_some e2).1).1
      simp(maxSteps:=999999)(disch:=omega)only[go_sem,reduceAdd,reduceMul,reduceSub,reduceEqDiff,reduceLeDiff, e2]
      ((first | with_reducible refine guardK_dec ?_ ?_ | with_reducible refine guardK_ndec ?_ ?_ | with_reducible refine guardK_nb ?_ ?_ | with_reducible refine guardK_split ?_ ?_ | with_reducible refine guardQ_dec ?_ ?_ | with_reducible refine guardL_dec ?_ ?_ | with_reducible refine guardQ_ndec ?_ ?_ | with_reducible refine guardL_ndec ?_ ?_ | with_reducible refine guardQ_nb ?_ ?_ | with_reducible refine guardL_nb ?_ ?_ | with_reducible refine guardQ_split ?_ ?_ | with_reducible refine guardL_split ?_ ?_) <;> intro c1 <;> simp(maxSteps:=999999)(disch:=omega)only[go_sem,reduceAdd,reduceMul,reduceSub,reduceEqDiff,reduceLeDiff, c1])
      rotate_left
      · exact ⟨(zs, HI), ⟨rfl, q.mono (by omega)⟩, HLe.refl _⟩
      refine OpS.run (pick_run HI id g _ _ q.rd (by omega)) (⟨_, Try.func99, rfl, rfl⟩ : Enters Try.prog 99) rfl rfl ?_
      rintro _ H1 ⟨⟨y, rfl, y0, y1⟩, r1, f1⟩
      replace f1 : Frm HI H1 [id] := f1
      have q1 := q.pick r1 f1
      simp(maxSteps:=999999)(disch:=omega)only[go_sem,reduceAdd,reduceMul,reduceSub,reduceEqDiff,reduceLeDiff]
      ((first | with_reducible refine condK_dec ?_ ?_ | with_reducible refine condK_ndec ?_ ?_ | with_reducible refine condK_nb ?_ ?_ | refine condK_b ?_ ?_) <;> intro c2)
      rotate_left
      · simp(maxSteps:=999999)(disch:=omega)only[go_sem,reduceAdd,reduceMul,reduceSub,reduceEqDiff,reduceLeDiff]
        exact ⟨(zs, H1), ⟨rfl, q1.mono (by omega)⟩, HLe.refl _⟩
      have e2' : look H1 gid gg = some ⟨gg, 1, cl (eI .i64) zs⟩ := by rw [f1.look (by simp; omega)]; exact e2
      have hpz1 := q1.puz
      have hok : ∀ X Y : Heap, Frm X Y [id] → X.length = H1.length → okM (hideM id H1.length (H1.length + 1)) X Y := fun X Y hf hX => okM_gen fun j b hj hb => by
        have hjl := (List.getElem?_eq_some_iff.1 hb).1
        obtain ⟨h1, _⟩ := hideM_yes hj (by omega)
        rw [hf.2 j (by simpa using h1)]
        exact hb
      have hMg0 : look (mask (hideM id H1.length (H1.length + 1)) H1) gid gg = some ⟨gg, 1, cl (eI .i64) zs⟩ := by rw [look_mask (hideM_no (by omega) (by rw [f1.1]; omega))]; exact e2'
      have hMp0 : look (mask (hideM id H1.length (H1.length + 1)) H1) J g6 = some ⟨g6, 3, cP p⟩ := by rw [look_mask (hideM_no (by omega) (by rw [f1.1]; omega))]; exact hpz1
      refine drawP_lM [0, 1, 2, 3, 5, 6, 7, 8, 9, 4, 10] [] none [11, 12] (hideM id H1.length (H1.length + 1)) [0, 0, 0, 4, 14, 0, 0, 64, 192, 448, 1022, 2047, 4095] foll (by kernel_rfl) ?_
      iterate 9 (rw [lwF_cons]; simp(maxSteps:=999999)(disch:=omega)only[go_sem,reduceAdd,reduceMul,reduceSub,reduceEqDiff,reduceLeDiff, hMg0, hMp0])
      rw [lwF_cons]
      simp(maxSteps:=999999)(disch:=omega)only[go_sem,reduceAdd,reduceMul,reduceSub,reduceEqDiff,reduceLeDiff]
      refine Loud.run (pick_run H1 id g _ _ q1.rd (by omega)) (⟨_, Try.func99, rfl, rfl⟩ : Enters Try.prog 99) rfl rfl ?_
      rintro _ H2 ⟨⟨a, rfl, a0, a1⟩, r2, f2⟩
      have a1 := a1 (by omega)
      replace f2 : Frm H1 H2 [id] := f2
      refine ⟨hok _ _ f2 rfl, ?_⟩
      rw [lwF_cons]
      simp(maxSteps:=999999)(disch:=omega)only[go_sem,reduceAdd,reduceMul,reduceSub,reduceEqDiff,reduceLeDiff]
      refine Loud.run (pick_run H2 id g _ _ r2 (by omega)) (⟨_, Try.func99, rfl, rfl⟩ : Enters Try.prog 99) rfl rfl ?_
      rintro _ H3 ⟨⟨e, rfl, e0, e1⟩, r3, f3⟩
      replace f3 : Frm H2 H3 [id] := f3
      refine ⟨hok _ _ f3 f2.1, ?_⟩
      have q3 := (q1.pick r2 f2).pick r3 f3
      have e3' : look H3 gid gg = some ⟨gg, 1, cl (eI .i64) zs⟩ := by rw [f3.look (by simp; omega), f2.look (by simp; omega)]; exact e2'
      obtain ⟨an, rfl⟩ : ∃ an : Nat, a = an := ⟨a.toNat, by omega⟩
      simp(maxSteps:=999999)(disch:=omega)only[go_sem,reduceAdd,reduceMul,reduceSub,reduceEqDiff,reduceLeDiff, e3']
      rw [Int.toNat_natCast]
      exact ⟨(zs.set an e, _), ⟨by simp, (q3.set rfl an e).mono (by omega)⟩, HLe.refl _⟩
    · rintro ⟨zs', HK⟩ ⟨hzl', q⟩
      simp only at hzl' q
      simp(maxSteps:=999999)(disch:=omega)only[go_sem,reduceAdd,reduceMul,reduceSub,reduceEqDiff,reduceLeDiff]
      refine RunC.cutN 1 (fun a : List Int × Heap => a.1.length = zs.length ∧ TrI H a.2 id g (B + 460) g4 J g6 p c a.1) (fun a => [.a, .a, .a, .a, .k, .a, .k, .k, .a, .a, .a, .a, .a, .a, .a, .a, .a, .a, .a, .a, .a, .a, .a, .a, .a, .a, .a, .a, .a, .a, .a, .a, .a, .a, .a, .a, .a, .a, .a, .a, .a, .a, .a, .a, .a, .a, .a, .a, .a, .a, .a, .a, .a, .a, .a, .a, .a, .a, .a, .a, .a, .a, .a, .a, .a, .a, .a, .a, .a, .a, .a, .a, .a, .a, .a, .a, .a, .a, .a, .a, .a, .a, .a, .a, .a, .a, .a]) (fun a => a.2) ?_ ?_
      · obtain ⟨gid, gg, e1, e2, e3, e4⟩ := q.grid
        subst e1
        have hlt := q.lt
        have hln := q.ln
        simp(maxSteps:=999999)(disch:=omega)only[go_sem,reduceAdd,reduceMul,reduceSub,reduceEqDiff,reduceLeDiff, e2]
        ((first | with_reducible refine guardK_dec ?_ ?_ | with_reducible refine guardK_ndec ?_ ?_ | with_reducible refine guardK_nb ?_ ?_ | with_reducible refine guardK_split ?_ ?_ | with_reducible refine guardQ_dec ?_ ?_ | with_reducible refine guardL_dec ?_ ?_ | with_reducible refine guardQ_ndec ?_ ?_ | with_reducible refine guardL_ndec ?_ ?_ | with_reducible refine guardQ_nb ?_ ?_ | with_reducible refine guardL_nb ?_ ?_ | with_reducible refine guardQ_split ?_ ?_ | with_reducible refine guardL_split ?_ ?_) <;> intro c1 <;> simp(maxSteps:=999999)(disch:=omega)only[go_sem,reduceAdd,reduceMul,reduceSub,reduceEqDiff,reduceLeDiff, c1])
        rotate_left
        · exact ⟨(zs', HK), ⟨hzl', q.mono (by omega)⟩, HLe.refl _⟩
        refine OpS.run (odd_run HK id g _ kk q.rd (by omega) hkk) (⟨_, Try.func105, rfl, rfl⟩ : Enters Try.prog 105) rfl rfl ?_
        rintro _ H1 ⟨⟨b, rfl, _⟩, r1, f1⟩
        replace f1 : Frm HK H1 [id] := f1
        have q1 := q.pick r1 f1
        simp(maxSteps:=999999)(disch:=omega)only[go_sem,reduceAdd,reduceMul,reduceSub,reduceEqDiff,reduceLeDiff]
        ((first | with_reducible refine condK_dec ?_ ?_ | with_reducible refine condK_ndec ?_ ?_ | with_reducible refine condK_nb ?_ ?_ | refine condK_b ?_ ?_) <;> intro c2)
        rotate_left
        · simp(maxSteps:=999999)(disch:=omega)only[go_sem,reduceAdd,reduceMul,reduceSub,reduceEqDiff,reduceLeDiff]
          exact ⟨(zs', H1), ⟨hzl', q1.mono (by omega)⟩, HLe.refl _⟩
        simp(maxSteps:=999999)(disch:=omega)only[go_sem,reduceAdd,reduceMul,reduceSub,reduceEqDiff,reduceLeDiff]
        intro g5
        have q2 := q1.app (X := [some ⟨g5, 1, [.f (.int .i64 (-1)), .f (.int .i64 9)]⟩])
        refine OpS.run (pick_run _ id g _ _ q2.rd (by omega)) (⟨_, Try.func99, rfl, rfl⟩ : Enters Try.prog 99) rfl rfl ?_
        rintro _ H3 ⟨⟨y, rfl, y0, y1⟩, r3, f3⟩
        have y1 := y1 (by omega)
        replace f3 : Frm (H1 ++ [some ⟨g5, 1, [.f (.int .i64 (-1)), .f (.int .i64 9)]⟩]) H3 [id] := f3
        have q3 := q2.pick r3 f3
        have hb := f3.last q1.rd.lt
        have e3' : look H3 gid gg = some ⟨gg, 1, cl (eI .i64) zs'⟩ := by rw [f3.look (by simp; omega)]; exact look_appL (by rw [f1.look (by simp; omega)]; exact e2)
        obtain rfl | rfl : y = 0 ∨ y = 1 := by omega
        · simp(maxSteps:=999999)(disch:=omega)only[go_sem,reduceAdd,reduceMul,reduceSub,reduceEqDiff,reduceLeDiff, hb, Int.reduceToNat]
          simp(maxSteps:=999999)(disch:=omega)only[go_sem,reduceAdd,reduceMul,reduceSub,reduceEqDiff,reduceLeDiff, e3', hb, Int.reduceToNat]
          rw [show setRange (cl (eI .i64) zs') 0 [.f (.int .i64 (-1))] = cl (eI .i64) (zs'.set 0 (-1)) from setI (e := 0) ⟨by omega, by omega⟩]
          exact ⟨(zs'.set 0 (-1), _), ⟨by simp; omega, (q3.set rfl 0 (-1)).mono (by omega)⟩, HLe.refl _⟩
        · simp(maxSteps:=999999)(disch:=omega)only[go_sem,reduceAdd,reduceMul,reduceSub,reduceEqDiff,reduceLeDiff, hb, Int.reduceToNat]
          simp(maxSteps:=999999)(disch:=omega)only[go_sem,reduceAdd,reduceMul,reduceSub,reduceEqDiff,reduceLeDiff, e3', hb, Int.reduceToNat]
          rw [show setRange (cl (eI .i64) zs') 0 [.f (.int .i64 9)] = cl (eI .i64) (zs'.set 0 9) from setI (e := 0) ⟨by omega, by omega⟩]
          exact ⟨(zs'.set 0 9, _), ⟨by simp; omega, (q3.set rfl 0 9).mono (by omega)⟩, HLe.refl _⟩
      · rintro ⟨zs2, HF⟩ ⟨hzl2, o⟩
        simp only at hzl2 o
        have hpz := o.puz
        have ho := o.out
        have hln := o.ln
        have hlt := o.lt
        have hS : ∀ b, look (HF.set H.length (some ⟨g4, 3, b⟩)) H.length g4 = some ⟨g4, 3, b⟩ := fun b => look_set_eq' (by omega)
        obtain ⟨gid, gg, rfl, e2, e3, e4⟩ := o.grid
        refine cw_sound _ _ _ _ ?_
        simp(maxSteps:=999999)(disch:=omega)only[go_sem,reduceAdd,reduceMul,reduceSub,reduceEqDiff,reduceLeDiff, hpz, ho, hS]
        have hf := frz_own (H := H) (H' := HF.set H.length (some ⟨g4, 3, cP p⟩)) e2 e3 (fun i hi _ => by rw [List.getElem?_set_ne (by omega)]) (off := 0) (k := zs2.length) (by omega)
        rw [List.drop_zero, List.take_length] at hf
        refine ⟨_, HLe.refl _, p, _, zs2, rfl, hf, hsm, by omega, (o.rd.mono (by omega)).same (by rw [List.getElem?_set_ne (by omega)]), by rw [List.length_set]; omega, fun k hk hn => ?_⟩
        rw [List.getElem?_set_ne (by omega)]
        exact o.frm k hk hn
def dTry : AV → Prop := fun v => ∃ (p : Puz) (zs : List Int), v = .tup [aP p, ints zs] ∧ smD p ∧ zs.length ≤ 16
theorem wf_u8' {xs : List Int} (h : ∀ x ∈ xs, (Lit.int .u8 x).wf = true) : ∀ x ∈ xs, 0 ≤ x ∧ x ≤ 255 := fun x hx => by
  have := h x hx
  simp [Lit.wf] at this
  have e1 : IntKind.u8.min = 0 := by decide
  have e2 : IntKind.u8.max = 255 := by decide
  omega
theorem RdAt.shift {H0 H : Heap} {id g : Nat} {B : Int} (h : RdAt H id g B) : RdAt (H0 ++ shiftH H0.length H) (id + H0.length) g B := by
  obtain ⟨sz, b, p, h1, h2⟩ := h
  exact ⟨sz, b, p, by rw [look_shiftH h1]; rfl, h2⟩
theorem OpS.mkRd {P : Program} {o : Oper} {st : St} {K : KV} {fo : Operand} {xs : Array Operand} {ts : Array TypeId} {f : FuncId} {args : List AV} (hc : RunCall P f args [] (fun v H' => ∃ g, v = .c (.ptr 0 g 0) ∧ RdAt H' 0 g 0 ∧ H'.length = 1)) (he : Enters P f) (ho : o.op = .call ⟨.value fo, xs, ts⟩) (ha : callArgs st fo xs = some (f, args)) (hf : args.all frozenA = true)
    (hk : ∀ g H', RdAt (st.h ++ H') st.h.length g 0 → H'.length = 1 → K (.c (.ptr st.h.length g 0)) (st.h ++ H')) : OpS P o st K :=
  OpS.mkQ hc he ho ha hf fun r H' ⟨g, h1, h2, h3⟩ => by
    subst h1
    refine ⟨rfl, ?_⟩
    have := hk g (shiftH st.h.length H') (by have := h2.shift (H0 := st.h); rwa [Nat.zero_add] at this) (by rw [shiftH_length]; exact h3)
    show K (.c (.ptr (0 + st.h.length) g 0)) _
    rw [Nat.zero_add]
    exact this
end Go.Lg
