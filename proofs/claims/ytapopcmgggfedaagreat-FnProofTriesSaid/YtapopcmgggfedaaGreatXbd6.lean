/- GpEF, GpEG, cut to what is needed. -/
import Derived.Test.YtapopcmgggfedaaGreatXbc8
import Derived.Test.YtapopcmgggfedaaGreatXbc4
open Nat renaming reduceAdd → zA, reduceMul → zM, reduceSub → zS, reduceEqDiff → zE, reduceLeDiff → zL
set_option linter.unusedSimpArgs false
set_option linter.unusedVariables false
set_option maxRecDepth 100000
namespace Go.Lg
open Go.Proofs
theorem binA_ne' {P : Program} {H : Heap} {t e : TypeId} {ti : TI} {n : Nat} {cs : List FV} (ht : tinf P t = some ti) (hk : ti.k = .slice e) (hn : 0 < n) : binA P H .eql t (.c (.f (.sl n cs))) (.c (.f .nil)) = some (.c (.f (.bool false))) := by
  unfold binA
  simp only [ht, hk, isNilV, if_neg (show ¬ n = 0 by omega)]
  rfl
theorem shiftH_one {k g n : Nat} {xs : List Int} : shiftH k [some ⟨g, n, cl (eI .i64) xs⟩] = [some ⟨g, n, cl (eI .i64) xs⟩] := by
  simp only [shiftH, List.map_cons, List.map_nil, Option.map_some, shiftB, shift_cl]
section
variable {P : Program} {o : Oper} {st : St} {K : KV} {fo : Operand} {xs : Array Operand} {ts : Array TypeId} {f : FuncId} {args args' : List AV} {zs : List Int} {ops : Array Oper} {s : List AV} {H : Heap}
theorem OpS.mkDQ (hc : RunCall P f args' [] (ownQ (eI .i64) 1 zs)) (he : Enters P f) (ho : o.op = .call ⟨.value fo, xs, ts⟩) (ha : callArgs st fo xs = some (f, args)) (hs : args.mapM (snapD st.h) = some args')
    (hk : ∀ g, K (.c (.own st.h.length g 0 zs.length none)) (st.h ++ [some ⟨g, 1, cl (eI .i64) zs⟩])) : OpS P o st K :=
  OpS.mkD hc he ho ha hs fun r H' ⟨g, h1, h2⟩ => by
    subst h1 h2
    refine ⟨⟨rfl, rfl, scalH_ints fun id b hb => by simp at hb⟩, ?_⟩
    rw [shiftH_one]
    have := hk g
    rwa [← Nat.zero_add st.h.length] at this
theorem Loud.mkDQ (hc : RunCall P f args' [] (ownQ (eI .i64) 1 zs)) (he : Enters P f) (ho : o.op = .call ⟨.value fo, xs, ts⟩) (ha : callArgs ⟨s, H⟩ fo xs = some (f, args)) (hs : args.mapM (snapD H) = some args')
    (hk : ∀ g, K (.c (.own H.length g 0 zs.length none)) (H ++ [some ⟨g, 1, cl (eI .i64) zs⟩])) : Loud P ops o s H K := Loud.call ho ha fun s' ha' => OpS.mkDQ hc he ho ha' hs hk
end
theorem Clone_q0 (xs : List Int) (hx : xs.length ≤ 2 ^ 40) (h0 : xs ≠ []) : RunCall Tryz.prog 31 [ints xs] [] (ownQ (eI .i64) 1 xs) := by
  have hp : 0 < xs.length := List.length_pos_iff.2 h0
  refine RunCall.cw (c := _) Tryz.func31 rfl (n := 8) Tryz.ntmps31 (rs := [.tmp 2]) rfl ?_
  simp only[List.length_cons,List.length_nil,zA,zS,List.replicate,List.cons_append,List.nil_append]
  simp(maxSteps:=999999)(disch:=omega)only[go_sem,zA,zM,zS,zE,zL, binA_ne' ti23 rfl hp]
  intro g g'
  rw [Nat.zero_add]
  exact lessQ_own (HLe.refl _)
attribute [-go_sem] appendM lwF_cons
theorem tell_run (most : Nat) (hmo : most ≤ 600) (H : Heap) (gid gg : Nat) (xs : List Int) (pid pg mid mg : Nat) (ls : List (List Int)) (S : List Nat) (hxl : 0 < xs.length ∧ xs.length ≤ 16) (hgl : look H gid gg = some ⟨gg, 1, cl (eI .i64) xs⟩) (hml : look H mid mg = some ⟨mg, 1, [.f (.int .i64 most)]⟩) (hmp : mid ≠ pid) (hmS : mid ∉ S) (hls : ls.length < most) (hout : OutL H pid pg ls S) (hSl : ∀ k ∈ S, k < H.length) :
    RunCall Tryz.prog 71 [.c (.own gid gg 0 xs.length none), .c (.ptr pid pg 0), .c (.ptr mid mg 0)] H (fun v H' => v = bool (decide (ls.length + 1 < most)) ∧ ∃ S', OutL H' pid pg (ls ++ [xs]) S' ∧ (∀ k ∈ S', k ∈ S ∨ H.length ≤ k) ∧ (∀ k ∈ S', k < H'.length) ∧ H.length ≤ H'.length ∧ ∀ k, k < H.length → k ≠ pid → k ∉ S → H'[k]? = H[k]?) := by
  obtain ⟨⟨oid, og, cs, o1, o2, o3, o4, o5⟩, opn⟩ := hout
  have hplt : pid < H.length := (List.getElem?_eq_some_iff.1 (look_some o1).1).1
  have hpo : pid ≠ oid := fun h => opn (by rw [h]; exact o3)
  have holt : oid < H.length := hSl oid o3
  refine RunCall.cw (c := _) Tryz.func71 rfl (n := 14) Tryz.ntmps71 (rs := [.tmp 4]) rfl ?_
  simp only[List.length_cons,List.length_nil,zA,zS,List.replicate,List.cons_append,List.nil_append]
  simp(maxSteps:=999999)(disch:=omega)only[go_sem,zA,zM,zS,zE,zL]
  have hM1 : look (mask (hideM oid H.length (H.length + 3)) H) pid pg = some ⟨pg, 1, [.own oid og 0 ls.length none]⟩ := by rw [look_mask (hideM_no hpo (by omega))]; exact o1
  have hM2 : nilV (mask (hideM oid H.length (H.length + 3)) H) (.c (.ptr pid pg 0)) = some (.c (.ptr pid pg 0)) := nilV_ptr hM1
  refine drawP_lM [0, 1, 2, 3] [] none [4, 5] (hideM oid H.length (H.length + 3)) [0, 0, 2, 6, 15, 31] foll (by kernel_rfl) ?_
  iterate 3 (rw [lwF_cons]; simp(maxSteps:=999999)(disch:=omega)only[go_sem,zA,zM,zS,zE,zL, hM1, hM2])
  have hown : OwnI H (.own gid gg 0 xs.length none) xs [gid] := OwnI.o (H := H) gid gg none xs [] (by rw [List.append_nil]; exact hgl)
  refine Loud.mkDQ (Clone_q0 xs (by omega) (fun h => by rw [h] at hxl; simp at hxl)) (⟨_, Tryz.func31, rfl, rfl⟩ : Enters Tryz.prog 31) rfl rfl (snap_one hown.snap) ?_
  intro g4
  refine ⟨okM_gen fun j b hj hb => by rw [List.getElem?_append_left (List.getElem?_eq_some_iff.1 hb).1]; exact hb, ?_⟩
  rw [lwF_cons]
  simp(maxSteps:=999999)(disch:=omega)only[go_sem,zA,zM,zS,zE,zL]
  intro g5
  refine ⟨okM_gen fun j b hj hb => by rw [List.getElem?_append_left (List.getElem?_eq_some_iff.1 hb).1]; exact hb, ?_⟩
  have l4 : look (H ++ [some ⟨g4, 1, cl (eI .i64) xs⟩]) H.length g4 = some ⟨g4, 1, cl (eI .i64) xs⟩ := look_last
  have hbl : look (H ++ [some ⟨g4, 1, cl (eI .i64) xs⟩] ++ [some ⟨g5, 1, [CV.own H.length g4 0 xs.length none]⟩]) (H.length + 1) g5 = some ⟨g5, 1, [CV.own H.length g4 0 xs.length none]⟩ := by
    have := look_last (H := H ++ [some ⟨g4, 1, cl (eI .i64) xs⟩]) (g := g5) (sz := 1) (cs := [CV.own H.length g4 0 xs.length none])
    rwa [List.length_append, List.length_singleton] at this
  have hol : look (H ++ [some ⟨g4, 1, cl (eI .i64) xs⟩] ++ [some ⟨g5, 1, [CV.own H.length g4 0 xs.length none]⟩]) oid og = some ⟨og, 1, cs⟩ := look_appL (look_appL o2)
  refine appendM_cells (sliceOf_of' ti77 rfl ti23) ⟨rfl, rfl, by decide⟩ (by omega) hol o4 hbl ?_
  intro g6
  obtain ⟨HL, hHL⟩ : ∃ HL : Heap, HL = (H ++ [some ⟨g4, 1, cl (eI .i64) xs⟩] ++ [some ⟨g5, 1, [CV.own H.length g4 0 xs.length none]⟩] : Heap).set oid (some ⟨g6, 1, cs ++ [CV.own H.length g4 0 xs.length none]⟩) := ⟨_, rfl⟩
  have hLl : HL.length = H.length + 2 := by rw [hHL, List.length_set]; simp
  have hL3 : ∀ j, j < H.length → j ≠ oid → HL[j]? = H[j]? := fun j hj hn => by rw [hHL, List.getElem?_set_ne (Ne.symm hn), List.append_assoc, List.getElem?_append_left hj]
  have hL1 : look HL pid pg = some ⟨pg, 1, [.own oid og 0 ls.length none]⟩ := by unfold look; rw [hL3 pid (by omega) hpo]; exact o1
  have hL2 : look HL oid g6 = some ⟨g6, 1, cs ++ [CV.own H.length g4 0 xs.length none]⟩ := by rw [hHL]; exact look_set_eq' (by simp; omega)
  have hL4 : look HL H.length g4 = some ⟨g4, 1, cl (eI .i64) xs⟩ := by rw [hHL, look_set_ne' (by omega)]; exact look_appL l4
  rw [← hHL]
  clear hHL
  have hL5 : nilV HL (.c (.ptr pid pg 0)) = some (.c (.ptr pid pg 0)) := nilV_ptr hL1
  simp(maxSteps:=999999)(disch:=omega)only[go_sem,zA,zM,zS,zE,zL, hL1, hL5]
  obtain ⟨HF, hHF⟩ : ∃ HF : Heap, HF = HL.set pid (some ⟨pg, 1, [CV.own oid g6 0 (ls.length + 1) none]⟩) := ⟨_, rfl⟩
  have hlen1 : (ls ++ [xs]).length = ls.length + 1 := by simp
  have hmlt : mid < H.length := (List.getElem?_eq_some_iff.1 (look_some hml).1).1
  have hF1 : look HF pid pg = some ⟨pg, 1, [CV.own oid g6 0 (ls.length + 1) none]⟩ := by rw [hHF]; exact look_set_eq' (by omega)
  have hF2 : look HF mid mg = some ⟨mg, 1, [.f (.int .i64 most)]⟩ := by
    rw [hHF, look_set_ne' (Ne.symm hmp)]
    unfold look
    rw [hL3 mid hmlt (fun h => hmS (by rw [h]; exact o3))]
    exact hml
  have hF3 : look HF oid g6 = some ⟨g6, 1, cs ++ [CV.own H.length g4 0 xs.length none]⟩ := by rw [hHF, look_set_ne' hpo]; exact hL2
  have hfin : OutL HF pid pg (ls ++ [xs]) (H.length :: S) := by
    rw [hHF]
    refine ⟨⟨oid, g6, cs ++ [CV.own H.length g4 0 xs.length none], by rw [hlen1]; exact look_set_eq' (by omega), by rw [look_set_ne' hpo]; exact hL2, by simp [o3], by simp [o4], fun i hi => ?_⟩, by simp; exact ⟨by omega, opn⟩⟩
    rw [hlen1] at hi
    by_cases hil : i < ls.length
    · obtain ⟨id, g, k1, k2, k3, hio⟩ := o5 i hil
      have hidl := hSl id k3
      refine ⟨id, g, by rw [List.getElem?_append_left (by omega)]; rw [List.getElem_append_left hil]; exact k1, ?_, by simp [k3], hio⟩
      rw [List.getElem_append_left hil, look_set_ne' (fun h => opn (by rw [h]; exact k3))]
      unfold look
      rw [hL3 id (by omega) hio]
      exact k2
    · have hie : i = ls.length := by omega
      subst hie
      refine ⟨H.length, g4, ?_, ?_, by simp, by omega⟩
      · rw [List.getElem?_append_right (by omega), o4]
        simp
      · rw [look_set_ne' (by omega)]
        simp only [List.getElem_append_right (Nat.le_refl _), Nat.sub_self, List.getElem_singleton]
        exact hL4
  have hFl : HF.length = H.length + 2 := by rw [hHF, List.length_set]; omega
  have hFf : ∀ k, k < H.length → k ≠ pid → k ∉ S → HF[k]? = H[k]? := fun k hk hkp hkS => by rw [hHF, List.getElem?_set_ne (Ne.symm hkp), hL3 k (by omega) (fun h => hkS (by rw [h]; exact o3))]
  rw [← hHF]
  clear hHF
  simp(maxSteps:=999999)(disch:=omega)only[go_sem,zA,zM,zS,zE,zL, hF1, hF2, hF3]
  refine ⟨HF, HLe.refl _, ?_, H.length :: S, hfin, ?_, ?_, by omega, hFf⟩
  · rw [show decide (((ls.length + 1 : Nat) : Int) < most) = decide (ls.length + 1 < most) from decide_eq_decide.2 (by omega)]
  · intro k hk
    rcases List.mem_cons.1 hk with rfl | hk
    · exact .inr (by omega)
    · exact .inl hk
  · intro k hk
    rcases List.mem_cons.1 hk with rfl | hk
    · omega
    · have := hSl k hk; omega
end Go.Lg

namespace Go.Lg
open Go.Proofs
attribute [-go_sem] appendM lwF_cons
theorem setV {xs : List Int} {i : Nat} (h : i < xs.length) (w v : Int) : setRange (cl (eI .i64) (xs.set i w)) (0 + (i : Int).toNat * 1) [.f (.int .i64 v)] = cl (eI .i64) (xs.set i v) := by
  have := setRange_cl (E := eI .i64) (n := 1) (xs := xs.set i w) (i := i) (v := v) (by rw [List.length_set]; exact h)
  rw [List.set_set] at this
  exact this
theorem GrdN.nn {xs : List Int} {n : Nat} (h : GrdN xs n) (c : Int) : 0 ≤ nth xs c := by
  rw [nth_toNat]
  by_cases hk : c.toNat < xs.length
  · exact (h.val _ hk).1
  · unfold nth
    rw [Int.toNat_natCast, List.getD_eq_getElem?_getD, List.getElem?_eq_none (by omega)]
    exact Int.le_refl _
theorem PuzN.cells0 {p : Puz} {n : Nat} (h : PuzN p n) : ∀ r ∈ p.rules, ∀ c ∈ r.cells, 0 ≤ c := fun r hr c hc => ((ruleValid_facts (h.rv r hr)).2.2.1 c hc).1
structure Cap where
  gp : Nat
  gpg : Nat
  tb : Nat
  tbg : Nat
  ty : Nat
  tyg : Nat
  sz : Nat
  szg : Nat
  pb : Nat
  pbg : Nat
  mid : Nat
  mg : Nat
  pid : Nat
  pg : Nat
  gid : Nat
  gg : Nat
def Cap.ids (c : Cap) : List Nat := [c.gp, c.tb, c.ty, c.sz, c.pb, c.mid]
structure TryH (ft fy : FuncId) (p : Puz) (n most : Nat) (c : Cap) (H : Heap) : Prop where
  g : look H c.gp c.gpg = some ⟨c.gpg, 1, [.own c.gid c.gg 0 (n * n) none]⟩
  t : look H c.tb c.tbg = some ⟨c.tbg, 1, [.fn ft [(c.pid, c.pg), (c.mid, c.mg)]]⟩
  y : look H c.ty c.tyg = some ⟨c.tyg, 1, [.fn fy [(c.gp, c.gpg), (c.tb, c.tbg), (c.ty, c.tyg), (c.sz, c.szg), (c.pb, c.pbg)]]⟩
  z : look H c.sz c.szg = some ⟨c.szg, 1, [.f (.int .i64 n)]⟩
  b : look H c.pb c.pbg = some ⟨c.pbg, 1, cP p⟩
  m : look H c.mid c.mg = some ⟨c.mg, 1, [.f (.int .i64 most)]⟩
theorem TryH.same {ft fy : FuncId} {p : Puz} {n most : Nat} {c : Cap} {H H' : Heap} (h : TryH ft fy p n most c H) (hs : ∀ k ∈ c.ids, H'[k]? = H[k]?) : TryH ft fy p n most c H' := by
  have k : ∀ i g b, i ∈ c.ids → look H i g = b → look H' i g = b := fun i g b hi he => by unfold look at *; rw [hs i hi]; exact he
  exact ⟨k _ _ _ (by simp [Cap.ids]) h.g, k _ _ _ (by simp [Cap.ids]) h.t, k _ _ _ (by simp [Cap.ids]) h.y, k _ _ _ (by simp [Cap.ids]) h.z, k _ _ _ (by simp [Cap.ids]) h.b, k _ _ _ (by simp [Cap.ids]) h.m⟩
theorem set_same {xs : List Int} {i : Nat} {x : Int} (h : nth xs i = x) : xs.set i x = xs := by
  refine List.ext_getElem (by simp) fun j h1 h2 => ?_
  rw [List.getElem_set]
  split
  · rename_i hij
    subst hij
    rw [← h, nth_eq (by simpa using h2)]
    simp
  · rfl
def Ext (p : Puz) (xs : List Int) : Prop := ∀ k : Nat, nth xs k = 0 → nth p.given k ≤ 0
theorem target_all {H : Heap} {f : FuncId} {caps : List (Nat × Nat)} (h : ∀ c ∈ caps, (look H c.1 c.2).isSome = true) : target H (.c (.fn f caps)) = some (f, caps.map fun c => .c (.ptr c.1 c.2 0)) := by
  unfold target
  exact if_pos (List.all_eq_true.2 h)
theorem TryH.lt {ft fy : FuncId} {p : Puz} {n most : Nat} {c : Cap} {H : Heap} (h : TryH ft fy p n most c H) : ∀ k ∈ c.ids, k < H.length := by
  intro k hk
  have hl : ∀ {i g : Nat} {b : Blk}, look H i g = some b → i < H.length := fun h => (List.getElem?_eq_some_iff.1 (look_some h).1).1
  simp only [Cap.ids, List.mem_cons, List.not_mem_nil, or_false] at hk
  rcases hk with rfl | rfl | rfl | rfl | rfl | rfl
  · exact hl h.g
  · exact hl h.t
  · exact hl h.y
  · exact hl h.z
  · exact hl h.b
  · exact hl h.m
def tryQ (p : Puz) (n most : Nat) (c : Cap) (m : Nat) (xs : List Int) (ls : List (List Int)) (S : List Nat) (H : Heap) : KV := fun v H' =>
  ∃ l, l = ls ++ (sols p n m xs).take (most - ls.length) ∧ v = bool (decide (l.length < most)) ∧ ∃ S' ys, OutL H' c.pid c.pg l S' ∧ (∀ k ∈ S', k ∈ S ∨ H.length ≤ k) ∧ (∀ k ∈ S', k < H'.length) ∧ H.length ≤ H'.length ∧
    look H' c.gid c.gg = some ⟨c.gg, 1, cl (eI .i64) ys⟩ ∧ ys.length = xs.length ∧ (l.length < most → ys = xs) ∧ ∀ k, k < H.length → k ≠ c.pid → k ∉ S → k ≠ c.gid → H'[k]? = H[k]?
theorem try_run {p : Puz} {n : Nat} (hp : PuzN p n) (most : Nat) (hmo : most ≤ 600) (c : Cap) (hcp : ∀ k ∈ c.ids, k ≠ c.pid ∧ k ≠ c.gid) (hgp : c.gid ≠ c.pid) :
    ∀ (m : Nat) (H : Heap) (xs : List Int) (ls : List (List Int)) (S : List Nat), m ≤ n * n → GrdN xs n → fitsL p xs n = true → Ext p xs → TryH 71 86 p n most c H → (∀ k ∈ c.ids, k ∉ S) → look H c.gid c.gg = some ⟨c.gg, 1, cl (eI .i64) xs⟩ → c.gid ∉ S → ls.length < most → OutL H c.pid c.pg ls S → (∀ k ∈ S, k < H.length) →
    RunCall Tryz.prog 86 [int ((n * n - m : Nat) : Int), .c (.ptr c.gp c.gpg 0), .c (.ptr c.tb c.tbg 0), .c (.ptr c.ty c.tyg 0), .c (.ptr c.sz c.szg 0), .c (.ptr c.pb c.pbg 0)] H (tryQ p n most c m xs ls S H)
  | 0, H, xs, ls, S, hm, hg, hfit, hext, hT, hcS, hgl, hgS, hls, hout, hSl => by
    have hn := hp.hn
    have hxl := hg.len
    have hsq : 4 ≤ n * n ∧ n * n ≤ 16 := by rcases hn with rfl | rfl | rfl <;> omega
    have kg := hT.g
    have kt := hT.t
    refine RunCall.cw (c := _) Tryz.func86 rfl (n := 48) Tryz.ntmps86 (rs := [.tmp 7]) rfl ?_
    simp only[List.length_cons,List.length_nil,zA,zS,List.replicate,List.cons_append,List.nil_append]
    simp(maxSteps:=999999)(disch:=omega)only[go_sem,zA,zM,zS,zE,zL, kg, kt, hgl]
    ((first|(with_reducible first|refine condK_dec ?_ ?_|refine condK_ndec ?_ ?_|refine condK_nb ?_ ?_)|refine condK_b ?_ ?_) <;> intro c1)
    rotate_left
    · exfalso; omega
    simp(maxSteps:=999999)(disch:=omega)only[go_sem,zA,zM,zS,zE,zL, kg, kt, hgl]
    have hrun := tell_run most hmo H c.gid c.gg xs c.pid c.pg c.mid c.mg ls S (by omega) hgl hT.m (hcp c.mid (by simp [Cap.ids])).1 (hcS c.mid (by simp [Cap.ids])) hls hout hSl
    rw [hxl] at hrun
    have htg : target H (.c (.fn 71 [(c.pid, c.pg), (c.mid, c.mg)])) = some (71, [.c (.ptr c.pid c.pg 0), .c (.ptr c.mid c.mg 0)]) := by
      obtain ⟨⟨oid, og, cs, o1, _⟩, _⟩ := hout
      exact target_all (caps := [(c.pid, c.pg), (c.mid, c.mg)]) (by simp [o1, hT.m])
    refine OpS.runFn hrun (⟨_, Tryz.func71, rfl, rfl⟩ : Enters Tryz.prog 71) rfl htg rfl ?_
    rintro _ H2 ⟨rfl, S2, o2, t1, t2, t3, t4⟩
    simp(maxSteps:=999999)(disch:=omega)only[go_sem,zA,zM,zS,zE,zL]
    have hs : sols p n 0 xs = [xs] := rfl
    have ht : (sols p n 0 xs).take (most - ls.length) = [xs] := by rw [hs, List.take_of_length_le (by simp; omega)]
    refine ⟨H2, HLe.refl _, ls ++ [xs], by rw [ht], ?_, S2, xs, o2, t1, t2, t3, ?_, rfl, fun _ => rfl, fun k h1 h2 h3 _ => t4 k h1 h2 h3⟩
    · rw [List.length_append, List.length_singleton]
    · have hglt := (List.getElem?_eq_some_iff.1 (look_some hgl).1).1
      unfold look
      rw [t4 c.gid hglt hgp hgS]
      exact hgl
  | m + 1, H, xs, ls, S, hm, hg, hfit, hext, hT, hcS, hgl, hgS, hls, hout, hSl => by
    have hn := hp.hn
    have hxl := hg.len
    have hsq : 4 ≤ n * n ∧ n * n ≤ 16 := by rcases hn with rfl | rfl | rfl <;> omega
    have kg := hT.g
    have ky := hT.y
    have kz := hT.z
    have kb := hT.b
    obtain ⟨i, hi⟩ : ∃ i, i = n * n - (m + 1) := ⟨_, rfl⟩
    have him : n * n - m = i + 1 := by omega
    have hil : i < xs.length := by omega
    have hxi := hg.val i hil
    have hss : sols p n (m + 1) xs = if 0 < nth xs i then sols p n m xs else (vals n 1).flatMap fun (v : Nat) => if fitsL p (xs.set i (v : Int)) n = true then sols p n m (xs.set i (v : Int)) else [] := by
      have e : xs.length - (m + 1) = i := by omega
      conv => lhs; rw [sols, e]
      rfl
    have hglt := (List.getElem?_eq_some_iff.1 (look_some hgl).1).1
    rw [← hi]
    have htgt : ∀ {HI : Heap}, TryH 71 86 p n most c HI → target HI (.c (.fn 86 [(c.gp, c.gpg), (c.tb, c.tbg), (c.ty, c.tyg), (c.sz, c.szg), (c.pb, c.pbg)])) = some (86, [.c (.ptr c.gp c.gpg 0), .c (.ptr c.tb c.tbg 0), .c (.ptr c.ty c.tyg 0), .c (.ptr c.sz c.szg 0), .c (.ptr c.pb c.pbg 0)]) := fun h =>
      target_all (caps := [(c.gp, c.gpg), (c.tb, c.tbg), (c.ty, c.tyg), (c.sz, c.szg), (c.pb, c.pbg)]) (by simp [h.g, h.t, h.y, h.z, h.b])
    refine RunCall.cw (c := _) Tryz.func86 rfl (n := 48) Tryz.ntmps86 (rs := [.tmp 7]) rfl ?_
    simp only[List.length_cons,List.length_nil,zA,zS,List.replicate,List.cons_append,List.nil_append]
    simp(maxSteps:=999999)(disch:=omega)only[go_sem,zA,zM,zS,zE,zL, kg, hgl]
    ((first|(with_reducible first|refine condK_dec ?_ ?_|refine condK_ndec ?_ ?_|refine condK_nb ?_ ?_)|refine condK_b ?_ ?_) <;> intro c1)
    · exfalso; omega
    simp(maxSteps:=999999)(disch:=omega)only[go_sem,zA,zM,zS,zE,zL, kg, hgl]
    ((first|(with_reducible first|refine condK_dec ?_ ?_|refine condK_ndec ?_ ?_|refine condK_nb ?_ ?_)|refine condK_b ?_ ?_) <;> intro c2)
    · simp(maxSteps:=999999)(disch:=omega)only[go_sem,zA,zM,zS,zE,zL, ky]
      have hrec := try_run hp most hmo c hcp hgp m H xs ls S (by omega) hg hfit hext hT hcS hgl hgS hls hout hSl
      rw [him, show int ((i + 1 : Nat) : Int) = int ((i : Int) + 1) by push_cast; rfl] at hrec
      refine OpS.runFn hrec (⟨_, Tryz.func86, rfl, rfl⟩ : Enters Tryz.prog 86) rfl (htgt hT) rfl ?_
      rintro _ H2 ⟨l, hl, rfl, hrest⟩
      simp(maxSteps:=999999)(disch:=omega)only[go_sem,zA,zM,zS,zE,zL]
      exact ⟨H2, HLe.refl _, l, by rw [hss, if_pos c2]; exact hl, rfl, hrest⟩
    · have h0 : nth xs i = 0 := by omega
      simp(maxSteps:=999999)(disch:=omega)only[go_sem,zA,zM,zS,zE,zL]
      refine loop_rule3 (fun (v : Nat) (HI : Heap) (l : List (List Int)) => n + 1 - v) (fun v HI l => 1 ≤ v ∧ v ≤ n + 1 ∧ goV p n m xs i most (vals n v) l = goV p n m xs i most (vals n 1) ls ∧ l.length < most ∧ H.length ≤ HI.length ∧ ∃ S' w, OutL HI c.pid c.pg l S' ∧ (∀ k ∈ S', k ∈ S ∨ H.length ≤ k) ∧ (∀ k ∈ S', k < HI.length) ∧ look HI c.gid c.gg = some ⟨c.gg, 1, cl (eI .i64) (xs.set i w)⟩ ∧ ∀ k, k < H.length → k ≠ c.pid → k ∉ S → k ≠ c.gid → HI[k]? = H[k]?)
        (fun v _ _ => [.k, .k, .a, .k, .k, .k, .a, .a, .p (int v), .a, .a, .a, .a, .a, .a, .a, .a, .a, .a, .a, .a, .a, .a, .a, .a, .a, .a, .a, .a, .a, .a, .a, .a, .a, .a, .a, .a, .a, .a, .a, .a, .a, .a, .a, .a, .a, .a, .a]) (fun _ HI _ => HI) 1 H ls ⟨Nat.le_refl _, by omega, rfl, hls, Nat.le_refl _, S, 0, hout, fun k hk => .inl hk, hSl, by rw [set_same h0]; exact hgl, fun _ _ _ _ _ => rfl⟩ (by simp(maxSteps:=999999)(disch:=omega)only[go_sem,zA,zM,zS,zE,zL]; rfl) (HLe.refl _) ?_
      rintro v HI l ⟨hv1, hv2, hgo, hlm, hlI, S', w, oI, hS1, hS2, gI, hfI⟩
      have hlt := hT.lt
      have hgoal : sols p n (m + 1) xs = (vals n 1).flatMap fun (v : Nat) => if fitsL p (xs.set i (v : Int)) n = true then sols p n m (xs.set i (v : Int)) else [] := by rw [hss, if_neg c2]
      have hTI := hT.same (H' := HI) fun k hk => hfI k (hlt k hk) (hcp k hk).1 (hcS k hk) (hcp k hk).2
      have hcS' : ∀ k ∈ c.ids, k ∉ S' := fun k hk h => by
        rcases hS1 k h with h | h
        · exact hcS k hk h
        · have := hlt k hk; omega
      have hgS' : c.gid ∉ S' := fun h => by
        rcases hS1 _ h with h | h
        · exact hgS h
        · omega
      have kgI := hTI.g
      have kzI := hTI.z
      simp(maxSteps:=999999)(disch:=omega)only[go_sem,zA,zM,zS,zE,zL, kgI, kzI]
      ((first|(with_reducible first|refine condK_dec ?_ ?_|refine condK_ndec ?_ ?_|refine condK_nb ?_ ?_)|refine condK_b ?_ ?_) <;> intro d1)
      · have hvn : v ≤ n := by omega
        have hset := setV hil w (v : Int)
        simp(maxSteps:=999999)(disch:=omega)only[go_sem,zA,zM,zS,zE,zL, kgI, kzI, gI, hset]
        obtain ⟨HN, hHN⟩ : ∃ HN : Heap, HN = HI.set c.gid (some ⟨c.gg, 1, cl (eI .i64) (xs.set i v)⟩) := ⟨_, rfl⟩
        have hNl : HN.length = HI.length := by rw [hHN, List.length_set]
        have hNg : ∀ k, k ≠ c.gid → HN[k]? = HI[k]? := fun k hk => by rw [hHN, List.getElem?_set_ne (Ne.symm hk)]
        have gN : look HN c.gid c.gg = some ⟨c.gg, 1, cl (eI .i64) (xs.set i v)⟩ := by rw [hHN]; exact look_set_eq' (by omega)
        have hTN := hTI.same (H' := HN) fun k hk => hNg k (hcp k hk).2
        have oN : OutL HN c.pid c.pg l S' := oI.same fun k hk => hNg k (by rcases hk with rfl | hk; exact Ne.symm hgp; exact fun h => hgS' (by rw [← h]; exact hk))
        rw [← hHN]
        clear hHN
        have hgs : GrdN (xs.set i (v : Int)) n := ⟨by rw [List.length_set]; exact hxl, fun k hk => by
          rw [List.length_set] at hk
          rw [nth_setN _ _ _ _ hil]
          split
          · omega
          · exact hg.val k hk⟩
        have hown : OwnI HN (.own c.gid c.gg 0 (n * n) none) (xs.set i (v : Int)) [c.gid] := by
          have := OwnI.o (H := HN) c.gid c.gg none (xs.set i (v : Int)) [] (by rw [List.append_nil]; exact gN)
          rwa [List.length_set, hxl] at this
        have bN := hTN.b
        have ggN := hTN.g
        simp(maxSteps:=999999)(disch:=omega)only[go_sem,zA,zM,zS,zE,zL, bN, ggN, gN]
        refine OpS.rdD (cellFits_run hp (xs.set i (v : Int)) hgs i (by omega)) (⟨_, Tryz.func87, rfl, rfl⟩ : Enters Tryz.prog 87) rfl rfl (snap_three rfl hown.snap snapD_int) rfl ?_
        have hstep := fits_step hn (i := i) (v := v) hfit hxl hg.nn (by omega) hv1 h0 (hext i h0) hp.cells0
        rw [← hstep]
        have yN := hTN.y
        simp(maxSteps:=999999)(disch:=omega)only[go_sem,zA,zM,zS,zE,zL, yN]
        ((with_reducible first|refine guardK_dec ?_ ?_|refine guardK_ndec ?_ ?_|refine guardK_nb ?_ ?_|refine guardK_split ?_ ?_|refine guardQ_dec ?_ ?_|refine guardL_dec ?_ ?_|refine guardQ_ndec ?_ ?_|refine guardL_ndec ?_ ?_|refine guardQ_nb ?_ ?_|refine guardL_nb ?_ ?_|refine guardQ_split ?_ ?_|refine guardL_split ?_ ?_) <;> intro c3 <;> simp(maxSteps:=999999)(disch:=omega)only[go_sem,zA,zM,zS,zE,zL, c3])
        · simp(maxSteps:=999999)(disch:=omega)only[go_sem,zA,zM,zS,zE,zL, yN]
          have hexts : Ext p (xs.set i (v : Int)) := fun k hk => by
            rw [nth_setN _ _ _ _ hil] at hk
            split at hk
            · omega
            · exact hext k hk
          have hrec := try_run hp most hmo c hcp hgp m HN (xs.set i (v : Int)) l S' (by omega) hgs c3 hexts hTN hcS' gN hgS' hlm oN (fun k hk => by have := hS2 k hk; omega)
          rw [him, show int ((i + 1 : Nat) : Int) = int ((i : Int) + 1) by push_cast; rfl] at hrec
          refine OpS.runFn hrec (⟨_, Tryz.func86, rfl, rfl⟩ : Enters Tryz.prog 86) rfl (htgt hTN) rfl ?_
          rintro _ H2 ⟨l2, hl2, rfl, S2, ys, o2, t1, t2, t3, t4, t5, t6, t7⟩
          have hgo2 : goV p n m xs i most (vals n (v + 1)) l2 = goV p n m xs i most (vals n 1) ls := by
            rw [← hgo, vals_cons ⟨hv1, hvn⟩]
            conv => rhs; unfold goV
            rw [if_pos hlm, if_pos c3, hl2]
          have hS2' : ∀ k ∈ S2, k ∈ S ∨ H.length ≤ k := fun k hk => by
            rcases t1 k hk with h | h
            · exact hS1 k h
            · exact .inr (by omega)
          have hf2 : ∀ k, k < H.length → k ≠ c.pid → k ∉ S → k ≠ c.gid → H2[k]? = H[k]? := fun k h1 h2 h3 h4 => by
            have hkS' : k ∉ S' := fun h => by
              rcases hS1 k h with h | h
              · exact h3 h
              · omega
            rw [t7 k (by omega) h2 hkS' h4, hNg k h4, hfI k h1 h2 h3 h4]
          simp(maxSteps:=999999)(disch:=omega)only[go_sem,zA,zM,zS,zE,zL]
          ((first|(with_reducible first|refine condK_dec ?_ ?_|refine condK_ndec ?_ ?_|refine condK_nb ?_ ?_)|refine condK_b ?_ ?_) <;> intro d2)
          · simp(maxSteps:=999999)(disch:=omega)only[go_sem,zA,zM,zS,zE,zL]
            refine ⟨v + 1, H2, l2, ⟨⟨by omega, by omega, hgo2, d2, by omega, S2, (v : Int), o2, hS2', t2, ?_, hf2⟩, by omega⟩, by push_cast; omega, HLe.refl _⟩
            rw [t4, t6 d2]
          · simp(maxSteps:=999999)(disch:=omega)only[go_sem,zA,zM,zS,zE,zL]
            have hend : goV p n m xs i most (vals n 1) ls = l2 := by rw [← hgo2]; exact goV_full d2
            rw [goV_eq _ _ _ _ _ _ _ _ (by omega), ← hgoal] at hend
            exact ⟨H2, HLe.refl _, l2, hend.symm, by rw [decide_eq_false d2], S2, ys, o2, hS2', t2, by omega, t4, by rw [t5, List.length_set], fun h => absurd h d2, hf2⟩
        · refine ⟨v + 1, HN, l, ⟨⟨by omega, by omega, ?_, hlm, by omega, S', (v : Int), oN, hS1, fun k hk => by have := hS2 k hk; omega, gN, fun k h1 h2 h3 h4 => by rw [hNg k h4]; exact hfI k h1 h2 h3 h4⟩, by omega⟩, by push_cast; omega, HLe.refl _⟩
          rw [← hgo, vals_cons ⟨hv1, hvn⟩]
          conv => rhs; unfold goV
          rw [if_pos hlm, if_neg (by rw [c3]; simp)]
      · have hve : v = n + 1 := by omega
        have hset := setV hil w 0
        simp(maxSteps:=999999)(disch:=omega)only[go_sem,zA,zM,zS,zE,zL, kgI, gI, hset]
        have hend : goV p n m xs i most (vals n 1) ls = l := by rw [← hgo, hve, vals_nil]; rfl
        rw [goV_eq _ _ _ _ _ _ _ _ (by omega), ← hgoal] at hend
        obtain ⟨HN, hHN⟩ : ∃ HN : Heap, HN = HI.set c.gid (some ⟨c.gg, 1, cl (eI .i64) (xs.set i 0)⟩) := ⟨_, rfl⟩
        have hNl : HN.length = HI.length := by rw [hHN, List.length_set]
        have hNg : ∀ k, k ≠ c.gid → HN[k]? = HI[k]? := fun k hk => by rw [hHN, List.getElem?_set_ne (Ne.symm hk)]
        have gN : look HN c.gid c.gg = some ⟨c.gg, 1, cl (eI .i64) xs⟩ := by rw [hHN, set_same h0]; exact look_set_eq' (by omega)
        have oN : OutL HN c.pid c.pg l S' := oI.same fun k hk => hNg k (by rcases hk with rfl | hk; exact Ne.symm hgp; exact fun h => hgS' (by rw [← h]; exact hk))
        rw [← hHN]
        exact ⟨HN, HLe.refl _, l, hend.symm, by rw [decide_eq_true hlm], S', xs, oN, hS1, fun k hk => by rw [hNl]; exact hS2 k hk, by omega, gN, rfl, fun _ => rfl, fun k h1 h2 h3 h4 => by rw [hNg k h4]; exact hfI k h1 h2 h3 h4⟩
end Go.Lg
