/- GpTI, GpGF, GpGG, GpQB, cut to what is needed. -/
import Derived.Test.YtapopcmgggfedaaGreatXbe7
import Derived.Test.YtapopcmgggfedaaGreatXbe2
import Derived.Test.YtapopcmgggfedaaGreatXbc5
import Derived.Test.YtapopcmgggfedaaGreatXbe5
import Derived.Test.YtapopcmgggfedaaGreatXbe3
import Derived.Test.YtapopcmgggfedaaGreatXbe0
import Derived.Test.YtapopcmgggfedaaGreatXbb9
import Derived.Test.YtapopcmgggfedaaGreatXbd7
import Derived.Test.YtapopcmgggfedaaGreatXbb4
open Nat renaming reduceAdd → zA, reduceMul → zM, reduceSub → zS, reduceEqDiff → zE, reduceLeDiff → zL
set_option linter.unusedSimpArgs false
set_option linter.unusedVariables false
set_option maxRecDepth 100000
namespace Go.Lg
open Go.Proofs
attribute [-go_sem] appendM
def makeB (p : Puz) : Bool := puzzleValid p && decide ((mkF p 201 (startM p) []).length ≤ 200)
def makeL (p : Puz) : List Brn := if makeB p = true then mkF p 201 (startM p) [] else []
theorem makeL_len (p : Puz) : (makeL p).length ≤ 200 := by
  unfold makeL
  split
  · rename_i h
    simp only [makeB, Bool.and_eq_true, decide_eq_true_eq] at h
    exact h.2
  · simp
def mprQ (p : Puz) : KV := fun v H => ∃ c, v = .tup [.c c, bool (makeB p)] ∧ OwnL eB 2 H c (makeL p) ∧ scalH H ∧ c ≠ .emp
theorem OwnL.ofLook {H : Heap} {id g : Nat} {xs : List Brn} {k : Nat} (h : look H id g = some ⟨g, 2, cl eB xs⟩) (hk : xs.length = k) : OwnL eB 2 H (.own id g 0 k none) xs := by
  subst hk
  exact .o id g xs h
theorem lessQ_mpr {H : Heap} {c : CV} {p : Puz} {b : Bool} {L : List Brn} (e1 : makeB p = b) (e2 : makeL p = L) (h : OwnL eB 2 H c L) (hc : c ≠ .emp := by intro h; cases h) : lessQ H (mprQ p) (.tup [.c c, bool b]) := by
  subst e1
  subst e2
  generalize hL : makeL p = L at h
  cases h with
  | n => exact ⟨[], hle_nil _, _, rfl, by rw [hL]; exact .n, fun id b hb => by simp at hb, hc⟩
  | m => exact absurd rfl hc
  | o id g xs h =>
    have hlt : id < H.length := (List.getElem?_eq_some_iff.1 (look_some h).1).1
    refine ⟨keepH [id] H, keepH_le _ _, _, rfl, ?_, scalH_keep fun i hi b hb c hc => ?_, hc⟩
    · rw [hL]
      refine OwnL.ofLook ?_ rfl
      unfold look at h ⊢
      rw [keepH_get (by simp) hlt]
      exact h
    · have : i = id := by simpa using hi
      subst this
      rw [(look_some h).1] at hb
      cases hb
      obtain ⟨x, hx, rfl⟩ := List.mem_map.1 hc
      obtain ⟨y, _, hy⟩ := List.mem_flatMap.1 hx
      have hy : x ∈ [FV.int .i64 y.tech, FV.int .i64 y.cell] := hy
      simp only [List.mem_cons, List.not_mem_nil, or_false] at hy
      rcases hy with rfl | rfl <;> rfl
set_option maxHeartbeats 4000000 in
theorem sMakeProof_own (p : Puz) (hx : smP p) : RunCall Tryz.prog 22 [aP p] [] (mprQ p) := by
  refine RunCall.cw (c := _) Tryz.func22 rfl (n := 19) Tryz.ntmps22 (rs := [.tmp 2, .tmp 3]) rfl ?_
  simp only[List.length_cons,List.length_nil,zA,zS,List.replicate,List.cons_append,List.nil_append]
  simp(maxSteps:=999999)(disch:=omega)only[go_sem,zA,zM,zS,zE,zL]
  intro g g2 g3
  first | refine OpS.rd (sPuzzleValid_run p hx) (⟨_, Tryz.func26, rfl, rfl⟩ : Enters Tryz.prog 26) rfl rfl rfl rfl ?_ | refine Loud.rd (sPuzzleValid_run p hx) (⟨_, Tryz.func26, rfl, rfl⟩ : Enters Tryz.prog 26) rfl rfl rfl rfl ?_
  simp(maxSteps:=999999)(disch:=omega)only[go_sem,zA,zM,zS,zE,zL]
  cases hv : puzzleValid p with
  | false =>
    have e1 : makeB p = false := by unfold makeB; rw [hv]; rfl
    have e2 : makeL p = [] := by unfold makeL; rw [e1]; rfl
    ((first|(with_reducible first|refine condK_dec ?_ ?_|refine condK_ndec ?_ ?_|refine condK_nb ?_ ?_)|refine condK_b ?_ ?_) <;> intro c0)
    · cases c0
    simp(maxSteps:=999999)(disch:=omega)only[go_sem,zA,zM,zS,zE,zL]
    exact lessQ_mpr e1 e2 (OwnL.ofLook (H := [some ⟨g, 1, cP p⟩, some ⟨g2, 2, cl eB []⟩, some ⟨g3, 1, [.own 1 g2 0 0 none]⟩]) (look_of (b := ⟨g2, 2, cl eB []⟩) rfl) rfl)
  | true =>
    obtain ⟨hp, hg⟩ := puz_factsT hv
    have hlen := mkF_len p 201 (startM p) [] (by simp)
    have hcl := l20Make_run hp hv 201 (startM p) [] [some ⟨g, 1, cP p⟩, some ⟨g2, 2, cl eB []⟩, some ⟨g3, 1, [.own 1 g2 0 0 none]⟩] 1 2 g2 g3 (startM_ok hp hg) (by simp) (by simp) (look_of (b := ⟨g2, 2, cl eB []⟩) rfl) (look_of (b := ⟨g3, 1, [.own 1 g2 0 0 none]⟩) rfl) (by omega)
    ((first|(with_reducible first|refine condK_dec ?_ ?_|refine condK_ndec ?_ ?_|refine condK_nb ?_ ?_)|refine condK_b ?_ ?_) <;> intro c0)
    rotate_left
    · cases c0
    simp(maxSteps:=999999)(disch:=omega)only[go_sem,zA,zM,zS,zE,zL]
    refine drawP_lF [0, 1, 2] [] none [3] [] foll (by kernel_rfl) ?_
    simp(maxSteps:=999999)(disch:=omega)only[go_sem,Nat.reduceBEq,Bool.true_or,zA,zM,zS,zE,zL]
    first | refine OpS.mk (sStartMasks_run hp hv hg) (⟨_, Tryz.func48, rfl, rfl⟩ : Enters Tryz.prog 48) rfl rfl rfl rfl rfl ?_ | refine Loud.mk (sStartMasks_run hp hv hg) (⟨_, Tryz.func48, rfl, rfl⟩ : Enters Tryz.prog 48) rfl rfl rfl rfl rfl ?_
    simp(maxSteps:=999999)(disch:=omega)only[go_sem,zA,zM,zS,zE,zL]
    refine OpS.run hcl (⟨_, Tryz.func47, rfl, rfl⟩ : Enters Tryz.prog 47) rfl rfl ?_
    rintro _ H' ⟨rfl, g', h1, h2, h3⟩
    obtain ⟨R, hR⟩ : ∃ R, R = mkF p 201 (startM p) [] := ⟨_, rfl⟩
    rw [← hR] at h1 h2 hlen
    have hB : makeB p = decide (R.length ≤ 200) := by unfold makeB; rw [hv, Bool.true_and, hR]
    simp(maxSteps:=999999)(disch:=omega)only[go_sem,zA,zM,zS,zE,zL, h1, h2]
    ((first|(with_reducible first|refine condK_dec ?_ ?_|refine condK_ndec ?_ ?_|refine condK_nb ?_ ?_)|refine condK_b ?_ ?_) <;> intro c1)
    · have e1 : makeB p = false := by rw [hB]; exact decide_eq_false (by omega)
      have e2 : makeL p = [] := by unfold makeL; rw [e1]; rfl
      simp(maxSteps:=999999)(disch:=omega)only[go_sem,zA,zM,zS,zE,zL]
      intro g9
      exact lessQ_mpr e1 e2 (OwnL.ofLook (xs := []) look_last rfl)
    · have e1 : makeB p = true := by rw [hB]; exact decide_eq_true (by omega)
      have e2 : makeL p = R := by unfold makeL; rw [e1, hR]; rfl
      simp(maxSteps:=999999)(disch:=omega)only[go_sem,zA,zM,zS,zE,zL, h2]
      exact lessQ_mpr e1 e2 (OwnL.ofLook h1 rfl)
set_option maxHeartbeats 4000000 in
theorem MakeProof_own (p : Puz) (hx : smP p) : RunCall Tryz.prog 9 [aP p] [] (mprQ p) := by
  refine RunCall.cw (c := _) Tryz.func9 rfl (n := 17) Tryz.ntmps9 (rs := [.tmp 2, .tmp 3]) rfl ?_
  simp only[List.length_cons,List.length_nil,zA,zS,List.replicate,List.cons_append,List.nil_append]
  simp(maxSteps:=999999)(disch:=omega)only[go_sem,zA,zM,zS,zE,zL]
  intro g
  first | refine OpS.rd (PuzzleValid_run p hx) (⟨_, Tryz.func15, rfl, rfl⟩ : Enters Tryz.prog 15) rfl rfl rfl rfl ?_ | refine Loud.rd (PuzzleValid_run p hx) (⟨_, Tryz.func15, rfl, rfl⟩ : Enters Tryz.prog 15) rfl rfl rfl rfl ?_
  simp(maxSteps:=999999)(disch:=omega)only[go_sem,zA,zM,zS,zE,zL]
  cases hv : puzzleValid p with
  | false =>
    have e1 : makeB p = false := by unfold makeB; rw [hv]; rfl
    have e2 : makeL p = [] := by unfold makeL; rw [e1]; rfl
    ((first|(with_reducible first|refine condK_dec ?_ ?_|refine condK_ndec ?_ ?_|refine condK_nb ?_ ?_)|refine condK_b ?_ ?_) <;> intro c0)
    · cases c0
    simp(maxSteps:=999999)(disch:=omega)only[go_sem,zA,zM,zS,zE,zL]
    exact lessQ_mpr e1 e2 (.n)
  | true =>
    obtain ⟨hp, hg⟩ := puz_factsT hv
    have hlen := mkF_len p 201 (startM p) [] (by simp)
    ((first|(with_reducible first|refine condK_dec ?_ ?_|refine condK_ndec ?_ ?_|refine condK_nb ?_ ?_)|refine condK_b ?_ ?_) <;> intro c0)
    rotate_left
    · cases c0
    simp(maxSteps:=999999)(disch:=omega)only[go_sem,zA,zM,zS,zE,zL]
    refine drawP_lM [0, 1, 2, 3] [2] none [4, 5] [false, true] [0, 0, 2, 0, 15, 31] foll (by kernel_rfl) ?_
    simp(maxSteps:=999999)(disch:=omega)only[go_sem,zA,zM,zS,zE,zL]
    refine softW_call (StartMasks_run hp hv hg) (⟨_, Tryz.func18, rfl, rfl⟩ : Enters Tryz.prog 18) rfl rfl (by
      intro x hm
      simp only [Call.operands, List.mem_toArray, Array.mem_append, List.mem_cons, List.not_mem_nil, or_false] at hm
      rcases hm with rfl | rfl <;> rfl) rfl ⟨rfl, rfl, rfl, rfl⟩ ?_
    simp(maxSteps:=999999)(disch:=omega)only[go_sem,zA,zM,zS,zE,zL]
    intro g2
    have hcl := makeLines_run hp hv 201 (startM p) [] [some ⟨g, 1, cP p⟩, some ⟨g2, 2, cl eB []⟩] 1 g2 (startM_ok hp hg) (by simp) (by simp) (look_of (b := ⟨g2, 2, cl eB []⟩) rfl)
    refine OpS.run hcl (⟨_, Tryz.func20, rfl, rfl⟩ : Enters Tryz.prog 20) rfl rfl ?_
    rintro _ H' ⟨g', rfl, h1, h3⟩
    obtain ⟨R, hR⟩ : ∃ R, R = mkF p 201 (startM p) [] := ⟨_, rfl⟩
    rw [← hR] at h1 hlen ⊢
    have hB : makeB p = decide (R.length ≤ 200) := by unfold makeB; rw [hv, Bool.true_and, hR]
    simp(maxSteps:=999999)(disch:=omega)only[go_sem,zA,zM,zS,zE,zL, h1]
    ((first|(with_reducible first|refine condK_dec ?_ ?_|refine condK_ndec ?_ ?_|refine condK_nb ?_ ?_)|refine condK_b ?_ ?_) <;> intro c1)
    · have e1 : makeB p = false := by rw [hB]; exact decide_eq_false (by omega)
      have e2 : makeL p = [] := by unfold makeL; rw [e1]; rfl
      simp(maxSteps:=999999)(disch:=omega)only[go_sem,zA,zM,zS,zE,zL]
      exact lessQ_mpr e1 e2 (.n)
    · have e1 : makeB p = true := by rw [hB]; exact decide_eq_true (by omega)
      have e2 : makeL p = R := by unfold makeL; rw [e1, hR]; rfl
      simp(maxSteps:=999999)(disch:=omega)only[go_sem,zA,zM,zS,zE,zL]
      exact lessQ_mpr e1 e2 (OwnL.ofLook h1 rfl)
end Go.Lg

namespace Go.Lg
open Go.Proofs
attribute [-go_sem] appendM lwF_cons
def LstO (H : Heap) (c : CV) (ls : List (List Int)) : Prop := ∃ oid og cs, c = .own oid og 0 ls.length none ∧ look H oid og = some ⟨og, 1, cs⟩ ∧ cs.length = ls.length ∧ ∀ i (h : i < ls.length), ∃ id g, cs[i]? = some (.own id g 0 ls[i].length none) ∧ look H id g = some ⟨g, 1, cl (eI .i64) ls[i]⟩
theorem LstO.shift {H0 H : Heap} {c : CV} {ls : List (List Int)} (h : LstO H c ls) : LstO (H0 ++ shiftH H0.length H) (shiftC H0.length c) ls := by
  obtain ⟨oid, og, cs, rfl, k1, k2, k3⟩ := h
  refine ⟨oid + H0.length, og, cs.map (shiftC H0.length), rfl, look_shiftH k1, by rw [List.length_map]; exact k2, fun i hi => ?_⟩
  obtain ⟨id, g, q1, q2⟩ := k3 i hi
  refine ⟨id + H0.length, g, by rw [List.getElem?_map, q1]; rfl, ?_⟩
  rw [look_shiftH q2]
  simp only [shiftB, shift_cl]
section
variable {P : Program} {o : Oper} {st : St} {K : KV} {fo : Operand} {xs : Array Operand} {ts : Array TypeId} {f : FuncId} {args : List AV}
end
def smD (p : Puz) : Prop := p.given.length ≤ 16 ∧ ruleSm p.rules 30 5
theorem smD.sm {p : Puz} (h : smD p) : smP p := ⟨by have := h.1; omega, by have := h.2.1; omega, fun r hr => by have := h.2.2 r hr; omega⟩
structure TrI (H HI : Heap) (id g : Nat) (B : Int) (g4 J g6 : Nat) (p : Puz) (c : CV) (zs : List Int) : Prop where
  out : look HI H.length g4 = some ⟨g4, 3, [.f (.int .i64 0), .f .nil, .f .nil]⟩
  puz : look HI J g6 = some ⟨g6, 3, cP p⟩
  grid : ∃ gid gg, c = .own gid gg 0 zs.length none ∧ look HI gid gg = some ⟨gg, 1, cl (eI .i64) zs⟩ ∧ H.length < gid ∧ gid ≠ J
  rd : RdAt HI id g B
  lt : id < H.length
  ln : H.length < J ∧ J < HI.length
  frm : ∀ k, k < H.length → k ≠ id → HI[k]? = H[k]?
section
variable {H HI H2 : Heap} {id g g4 J g6 : Nat} {B B' : Int} {p : Puz} {c : CV} {zs : List Int}
theorem TrI.mono (h : TrI H HI id g B g4 J g6 p c zs) (hb : B ≤ B') : TrI H HI id g B' g4 J g6 p c zs := { h with rd := h.rd.mono hb }
theorem TrI.step (h : TrI H HI id g B g4 J g6 p c zs) (hs : ∀ i, H.length ≤ i → i < HI.length → H2[i]? = HI[i]?) (hl : HI.length ≤ H2.length) (hr : RdAt H2 id g B') (hf : ∀ k, k < H.length → k ≠ id → H2[k]? = HI[k]?) : TrI H H2 id g B' g4 J g6 p c zs := by
  have hn := h.ln
  have hL : ∀ i g, H.length ≤ i → i < HI.length → look H2 i g = look HI i g := fun i g h1 h2 => by unfold look; rw [hs i h1 h2]
  obtain ⟨gid, gg, g1, g2, g3, g4⟩ := h.grid
  have hgl : gid < HI.length := (List.getElem?_eq_some_iff.1 (look_some g2).1).1
  exact { out := by rw [hL _ _ (Nat.le_refl _) (by omega)]; exact h.out
          puz := by rw [hL _ _ (by omega) (by omega)]; exact h.puz
          grid := ⟨gid, gg, g1, by rw [hL _ _ (by omega) hgl]; exact g2, g3, g4⟩
          rd := hr, lt := h.lt, ln := by omega
          frm := fun k hk hne => by rw [hf k hk hne]; exact h.frm k hk hne }
theorem TrI.pick (h : TrI H HI id g B g4 J g6 p c zs) (hr : RdAt H2 id g B') (hf : Frm HI H2 [id]) : TrI H H2 id g B' g4 J g6 p c zs := by
  have hl := h.lt
  exact h.step (fun i hi _ => hf.2 i (by simp; omega)) (by rw [hf.1]; exact Nat.le_refl _) hr fun k hk hne => hf.2 k (by simpa using hne)
theorem TrI.app {X : Heap} (h : TrI H HI id g B g4 J g6 p c zs) : TrI H (HI ++ X) id g B g4 J g6 p c zs := by
  have hn := h.ln
  exact h.step (fun i _ hi => List.getElem?_append_left hi) (by simp) h.rd.app fun k hk _ => List.getElem?_append_left (by omega)
theorem TrI.set (h : TrI H HI id g B g4 J g6 p c zs) {gid gg : Nat} (hc : c = .own gid gg 0 zs.length none) (k : Nat) (v : Int) : TrI H (HI.set gid (some ⟨gg, 1, cl (eI .i64) (zs.set k v)⟩)) id g B g4 J g6 p c (zs.set k v) := by
  have hn := h.ln
  have hl := h.lt
  obtain ⟨gid', gg', g1, g2, g3, g4⟩ := h.grid
  rw [hc] at g1
  cases g1
  have hgl : gid < HI.length := (List.getElem?_eq_some_iff.1 (look_some g2).1).1
  exact { out := by rw [look_set_ne' (by omega)]; exact h.out
          puz := by rw [look_set_ne' (by omega)]; exact h.puz
          grid := ⟨gid, gg, by rw [hc, List.length_set], look_set_eq' hgl, g3, g4⟩
          rd := h.rd.same (by rw [List.getElem?_set_ne (by omega)])
          lt := hl, ln := by rw [List.length_set]; exact hn
          frm := fun k hk hne => by rw [List.getElem?_set_ne (by omega)]; exact h.frm k hk hne }
end
theorem wf_u8' {xs : List Int} (h : ∀ x ∈ xs, (Lit.int .u8 x).wf = true) : ∀ x ∈ xs, 0 ≤ x ∧ x ≤ 255 := fun x hx => by
  have := h x hx
  simp [Lit.wf] at this
  have e1 : IntKind.u8.min = 0 := by decide
  have e2 : IntKind.u8.max = 255 := by decide
  omega
theorem RdAt.shift {H0 H : Heap} {id g : Nat} {B : Int} (h : RdAt H id g B) : RdAt (H0 ++ shiftH H0.length H) (id + H0.length) g B := by
  obtain ⟨sz, b, p, h1, h2⟩ := h
  exact ⟨sz, b, p, by rw [look_shiftH h1]; rfl, h2⟩
theorem OpS.mkRd {P : Program} {o : Oper} {st : St} {K : KV} {fo : Operand} {xs : Array Operand} {ts : Array TypeId} {f : FuncId} {args : List AV} (hc : RunCall P f args [] (fun v H' => ∃ g, v = .c (.ptr 0 g 0) ∧ RdAt H' 0 g 0 ∧ H'.length = 1)) (he : Enters P f) (ho : o.op = .call ⟨.value fo, xs, ts⟩) (ha : callArgs st fo xs = some (f, args)) (hf : args.all frozenA = true)
    (hk : ∀ g H', RdAt (st.h ++ H') st.h.length g 0 → H'.length = 1 → K (.c (.ptr st.h.length g 0)) (st.h ++ H')) : OpS P o st K :=
  OpS.mkQ hc he ho ha hf fun r H' ⟨g, h1, h2, h3⟩ => by
    subst h1
    refine ⟨rfl, ?_⟩
    have := hk g (shiftH st.h.length H') (by have := h2.shift (H0 := st.h); rwa [Nat.zero_add] at this) (by rw [shiftH_length]; exact h3)
    show K (.c (.ptr (0 + st.h.length) g 0)) _
    rw [Nat.zero_add]
    exact this
end Go.Lg

namespace Go.Lg
open Go.Proofs
attribute [-go_sem] appendM lwF_cons
theorem resV_ctt (P : Program) (s : List AV) (H : Heap) (t u w : Nat) (ty : TypeId) : resV P s H [.cell t ty, .tmp u, .tmp w] = (loadV P H ty (s.getD t .void)).map fun v => .tup [v, s.getD u .void, s.getD w .void] := by
  simp only [resV, resAll, resOne]
  cases loadV P H ty (s.getD t .void) <;> rfl
attribute [go_sem] resV_ctt
theorem aliveF_run : Reads Tryz.prog 7 [] (bool true) := by
  refine RunCall.cw (c := _) Tryz.func7 rfl (n := 4) Tryz.ntmps7 (rs := [.tmp 0]) rfl ?_
  simp only[List.length_cons,List.length_nil,zA,zS,List.replicate,List.cons_append,List.nil_append]
  simp(maxSteps:=999999)(disch:=omega)only[go_sem,zA,zM,zS,zE,zL]
  intro g
  have hown : OwnI [some ⟨g, 1, [.f (.int .i64 1), .f (.int .i64 0), .f (.int .i64 0), .f (.int .i64 2)]⟩] (.own 0 g 0 4 none) [1, 0, 0, 2] [0] := OwnI.o 0 g none [1, 0, 0, 2] [] (by rw [look_zero]; rfl)
  refine OpS.rdD (GridFilled_run [1, 0, 0, 2] 2 (by simp)) (⟨_, Tryz.func14, rfl, rfl⟩ : Enters Tryz.prog 14) rfl rfl (snap_two hown.snap snapD_int) rfl ?_
  have e : gridFilled [1, 0, 0, 2] 2 = 2 := by decide
  rw [e]
  simp(maxSteps:=999999)(disch:=omega)only[go_sem,zA,zM,zS,zE,zL]
end Go.Lg

namespace Go.Lg
open Go.Proofs
def nextT (p : Puz) (most : Nat) (ms : List Nat) : Nat := (((List.range most).map (· + 1)).find? fun t => decide (narM p t ms ≠ ms)).getD 0
theorem nextT_is {p : Puz} {most t : Nat} {ms : List Nat} (h1 : 1 ≤ t) (h2 : t ≤ most) (hlt : ∀ u, 1 ≤ u → u < t → narM p u ms = ms) (hne : narM p t ms ≠ ms) : nextT p most ms = t := by
  unfold nextT
  have : (((List.range most).map (· + 1)).find? fun t => decide (narM p t ms ≠ ms)) = some t := by
    rw [List.find?_eq_some_iff_getElem]
    refine ⟨decide_eq_true hne, t - 1, by simp; omega, by simp; omega, fun j hj => ?_⟩
    simp only [List.getElem_map, List.getElem_range, Bool.not_eq_true', decide_eq_false_iff_not, ne_eq, Classical.not_not]
    exact hlt _ (by omega) (by omega)
  rw [this]
  rfl
theorem nextT_no {p : Puz} {most : Nat} {ms : List Nat} (h : ∀ u, 1 ≤ u → u ≤ most → narM p u ms = ms) : nextT p most ms = 0 := by
  unfold nextT
  have : (((List.range most).map (· + 1)).find? fun t => decide (narM p t ms ≠ ms)) = none := by
    rw [List.find?_eq_none]
    intro t ht
    obtain ⟨j, hj, rfl⟩ := List.mem_map.1 ht
    have := List.mem_range.1 hj
    rw [decide_eq_true_eq, Classical.not_not]
    exact h _ (by omega) (by omega)
  rw [this]
  rfl
theorem nextT_le (p : Puz) (most : Nat) (ms : List Nat) : nextT p most ms ≤ most ∧ (nextT p most ms ≠ 0 → narM p (nextT p most ms) ms ≠ ms) := by
  unfold nextT
  cases e : ((List.range most).map (· + 1)).find? fun t => decide (narM p t ms ≠ ms) with
  | none => exact ⟨Nat.zero_le _, fun h => absurd rfl h⟩
  | some t =>
    have h1 := List.find?_some e
    have h2 := List.mem_of_find?_eq_some e
    obtain ⟨j, hj, rfl⟩ := List.mem_map.1 h2
    have := List.mem_range.1 hj
    exact ⟨by show j + 1 ≤ most; omega, fun _ => of_decide_eq_true h1⟩
def nallF (p : Puz) (most : Nat) : Nat → List Nat → List Nat × Nat
  | 0, ms => (ms, 0)
  | f + 1, ms => if nextT p most ms = 0 then (ms, 0) else ((nallF p most f (narM p (nextT p most ms) ms)).1, (nallF p most f (narM p (nextT p most ms) ms)).2 + 1)
theorem nallF_ok {p : Puz} {most n : Nat} : ∀ (f : Nat) (ms : List Nat), MsN ms n → MsN (nallF p most f ms).1 n ∧ (nallF p most f ms).2 ≤ f
  | 0, ms, h => ⟨h, Nat.le_refl _⟩
  | f + 1, ms, h => by
    unfold nallF
    split
    · exact ⟨h, Nat.zero_le _⟩
    · have := nallF_ok (p := p) (most := most) f _ (narM_ok (p := p) (t := nextT p most ms) h)
      exact ⟨this.1, by have := this.2; show _ + 1 ≤ f + 1; omega⟩
theorem nallF_stop {p : Puz} {most f : Nat} {ms : List Nat} (h : nextT p most ms = 0) : nallF p most f ms = (ms, 0) := by
  cases f with
  | zero => rfl
  | succ f => unfold nallF; rw [if_pos h]
theorem nallF_step {p : Puz} {most f : Nat} {ms : List Nat} (h : nextT p most ms ≠ 0) : nallF p most (f + 1) ms = ((nallF p most f (narM p (nextT p most ms) ms)).1, (nallF p most f (narM p (nextT p most ms) ms)).2 + 1) := by
  conv => lhs; unfold nallF
  rw [if_neg h]
def nallV (p : Puz) (most : Nat) (ms : List Nat) : List Nat := (nallF p most 500 ms).1
def soleB (p : Puz) (most : Nat) : Bool := decide (∀ i : Nat, i < p.size.toNat * p.size.toNat → onlyV (mAt (nallV p most (startM p)) i) ≠ 0)
def gradeV (p : Puz) : Int :=
  if puzzleValid p = true then (if (allL p).length = 1 then ((((List.range 4).map (· + 1)).find? (soleB p)).getD 5 : Nat) else 0) else -1
def GoodM (p : Puz) (s : List Int) (n : Nat) : Prop := ∀ ms : List Nat, MsN ms n → SubM ms (startM p) → InM s ms (n * n) → nextM p ms = 0 → ∀ i : Nat, i < n * n → onlyV (mAt ms i) ≠ 0
section
variable {p : Puz} {s : List Int} {n : Nat}
theorem nall_keep (hs : Lat s n) (hp : PuzN p n) {A : List Nat} (hA : MsN A n) (hi : InM s A (n * n)) (hf : nextM p A = 0) (most : Nat) : ∀ (f : Nat) (B : List Nat), MsN B n → SubM A B → SubM A (nallF p most f B).1
  | 0, B, _, h => h
  | f + 1, B, hB, h => by
    unfold nallF
    split
    · exact h
    · exact nall_keep hs hp hA hi hf most f _ (narM_ok hB) (nar_keep hs hp hA hB hi h hf _)
theorem good_of (hs : Lat s n) (hp : PuzN p n) (hg : GrdN p.given n) {most : Nat} (h : soleB p most = true) : GoodM p s n := by
  intro ms hm hS hi hf i hin
  have hz : p.size.toNat = n := by rw [hp.size]; rfl
  have hall := of_decide_eq_true h i (by rw [hz]; exact hin)
  have hk := nall_keep hs hp hm hi hf most 500 _ (startM_ok hp hg) hS
  have hN := (nallF_ok (p := p) (most := most) 500 _ (startM_ok hp hg)).1
  rw [one_sub hs.hn hm hN hk (hi i hin) hall]
  exact hall
theorem grade_facts {p : Puz} (h : 1 ≤ gradeV p ∧ gradeV p ≤ 4) : ∃ s, puzzleValid p = true ∧ allL p = [s] ∧ GoodM p s p.size.toNat := by
  unfold gradeV at h
  split at h
  · rename_i hv
    split at h
    · rename_i h1
      obtain ⟨s, hs⟩ : ∃ s, allL p = [s] := List.length_eq_one_iff.1 h1
      obtain ⟨hp, hg⟩ := puz_facts hv
      refine ⟨s, hv, hs, ?_⟩
      have hl := sol_lat hv ((allL_mem hv s).1 (by rw [hs]; simp))
      cases e : ((List.range 4).map (· + 1)).find? (soleB p) with
      | none => rw [e] at h; simp at h
      | some t => exact good_of hl hp hg (List.find?_some e)
    · omega
  · omega
theorem mk_tech (hs : Lat s n) (hp : PuzN p n) (hr : ∀ r ∈ p.rules, canHold r s n = true) (hG : GoodM p s n) : ∀ (f : Nat) (ms : List Nat) (out : List Brn), MsN ms n → SubM ms (startM p) → InM s ms (n * n) → (∀ b ∈ out, b.tech ≠ 0) → ∀ b ∈ mkF p f ms out, b.tech ≠ 0
  | 0, ms, out, _, _, _, h => h
  | f + 1, ms, out, hm, hS, hi, h => by
    by_cases h200 : 200 < out.length
    · rw [mkF_full h200]; exact h
    · cases he : endM p ms with
      | some m => rw [mkF_end he]; exact h
      | none =>
        rw [mkF_go h200 he]
        by_cases hn : nextM p ms = 0
        · exfalso
          have hall := hG ms hm hS hi hn
          rw [endM_is, hm.len] at he
          split at he
          · cases he
          · first | cases he | (rw [if_pos hall] at he; cases he)
        · rw [if_pos hn]
          refine mk_tech hs hp hr hG f _ _ (narM_ok hm) ((narM_subM hp.hn _ hm).trans hS) (nar_in hs hp hr hm hi) ?_
          intro b hb
          rcases List.mem_append.1 hb with hb | hb
          · exact h b hb
          · have : b = ⟨(nextM p ms : Nat), 0⟩ := by simpa using hb
            rw [this]
            show ((nextM p ms : Nat) : Int) ≠ 0
            omega
theorem make_tech {p : Puz} (h : 1 ≤ gradeV p ∧ gradeV p ≤ 4) : ∀ b ∈ makeL p, b.tech ≠ 0 := by
  obtain ⟨s, hv, hs, hG⟩ := grade_facts h
  obtain ⟨hp, hg⟩ := puz_facts hv
  have hsol := (allL_mem hv s).1 (by rw [hs]; simp)
  have hl := sol_lat hv hsol
  unfold makeL
  split
  · exact mk_tech hl hp (fits_parts hsol.2.2).2.1 hG 201 _ [] (startM_ok hp hg) (SubM.refl _) (startM_in hl hp hg hsol.2.1) (by simp)
  · simp
end
end Go.Lg
