/- GpX, GpY, GpZ, GpMA, GpEE, GpEG, GpMK, GpTF, cut to what is needed. -/
import Derived.Test.YtpdaalgdkdpihaaUad2
import Derived.Test.YtpdaalgdkdpihaaUad0
import Derived.Test.YtpdaalgdkdpihaaUac2
import Derived.Test.YtpdaalgdkdpihaaUac3
import Derived.Test.YtpdaalgdkdpihaaUac5
import Derived.Test.YtpdaalgdkdpihaaUad1
import Derived.Test.YtpdaalgdkdpihaaUac8
import Derived.Test.YtpdaalgdkdpihaaUac0
import Derived.Test.YtpdaalgdkdpihaaUac1
open Nat(reduceAdd reduceMul reduceSub reduceEqDiff reduceLeDiff)
set_option linter.unusedSimpArgs false
set_option linter.unusedVariables false
set_option maxRecDepth 100000
namespace Go.Lg
open Go.Proofs
theorem resV_cellTmp (P : Program) (s : List AV) (H : Heap) (t u : Nat) (ty : TypeId) : resV P s H [.cell t ty, .tmp u] = (loadV P H ty (s.getD t .void)).map fun v => .tup [v, s.getD u .void] := by
  simp only [resV, resAll, resOne]
  cases loadV P H ty (s.getD t .void) <;> rfl
attribute [go_sem] resV_cellTmp
inductive OwnA (H : Heap) : CV → List Int → List Nat → Prop where
  | n : OwnA H (.f .nil) [] []
  | o (id g : Nat) (xs : List Int) (h : look H id g = some ⟨g, 1, cl (eI .i64) xs⟩) : OwnA H (.own id g 0 xs.length none) xs [id]
theorem OwnA.toI {H : Heap} {c : CV} {xs : List Int} {S : List Nat} (h : OwnA H c xs S) : OwnI H (nzC c) xs S := by
  cases h with
  | n => exact .e
  | o id g xs h => exact .o id g none xs [] (by rw [List.append_nil]; exact h)
theorem OwnA.same {H H' : Heap} {c : CV} {xs : List Int} {S : List Nat} (h : OwnA H c xs S) (hs : ∀ i ∈ S, H'[i]? = H[i]?) : OwnA H' c xs S := by
  cases h with
  | n => exact .n
  | o id g xs h => exact .o id g xs (by unfold look at *; rw [hs id (by simp)]; exact h)
theorem OwnA.shift {H0 H : Heap} {c : CV} {xs : List Int} {S : List Nat} (h : OwnA H c xs S) : OwnA (H0 ++ shiftH H0.length H) (shiftC H0.length c) xs (S.map (· + H0.length)) := by
  cases h with
  | n => exact .n
  | o id g xs h =>
    refine .o (id + H0.length) g xs ?_
    rw [look_shiftH h]
    simp only [shiftB, shift_cl]
theorem OwnA.lt {H : Heap} {c : CV} {xs : List Int} {S : List Nat} (h : OwnA H c xs S) : ∀ i ∈ S, i < H.length := fun i hi => h.toI.lt i hi
theorem OwnA.nd {H : Heap} {c : CV} {xs : List Int} {S : List Nat} (h : OwnA H c xs S) : S.Nodup := h.toI.nd
def ownAQ (xs : List Int) : KV := fun r H => ∃ c S, r = .c c ∧ OwnA H c xs S
structure OwnGA (H : Heap) (cs : List CV) (q : Gam) (S : List Nat) : Prop where
  ex : ∃ c1 c2 c3 c4 S1 S2 S3 S4, cs = [.f (.int .i64 q.task.size), c1, c2, c3, c4] ∧ S = S1 ++ (S2 ++ (S3 ++ S4)) ∧ OwnI H c1 q.task.given S1 ∧ OwnR H c2 q.task.rules S2 ∧ OwnI H c3 q.put S3 ∧ OwnA H c4 q.moves S4
  nd : S.Nodup
def gamAQ (q : Gam) : KV := fun v H => ∃ cs S, v = .agg cs ∧ OwnGA H cs q S
theorem OwnGA.shift {H0 H : Heap} {cs : List CV} {q : Gam} {S : List Nat} (h : OwnGA H cs q S) : OwnGA (H0 ++ shiftH H0.length H) (cs.map (shiftC H0.length)) q (S.map (· + H0.length)) := by
  obtain ⟨c1, c2, c3, c4, S1, S2, S3, S4, rfl, rfl, h1, h2, h3, h4⟩ := h.ex
  exact ⟨⟨_, _, _, _, _, _, _, _, rfl, by simp, h1.shift, h2.shift, h3.shift, h4.shift⟩, nodup_shift h.nd⟩
theorem OwnGA.lt {H : Heap} {cs : List CV} {q : Gam} {S : List Nat} (h : OwnGA H cs q S) : ∀ i ∈ S, i < H.length := by
  obtain ⟨c1, c2, c3, c4, S1, S2, S3, S4, rfl, rfl, h1, h2, h3, h4⟩ := h.ex
  intro i hi
  simp only [List.mem_append] at hi
  rcases hi with hi | hi | hi | hi
  · exact h1.lt i hi
  · exact h2.lt i hi
  · exact h3.lt i hi
  · exact h4.lt i hi
theorem OwnGA.same {H H' : Heap} {cs : List CV} {q : Gam} {S : List Nat} (h : OwnGA H cs q S) (hs : ∀ i ∈ S, H'[i]? = H[i]?) : OwnGA H' cs q S := by
  obtain ⟨c1, c2, c3, c4, S1, S2, S3, S4, rfl, rfl, h1, h2, h3, h4⟩ := h.ex
  refine ⟨⟨_, _, _, _, _, _, _, _, rfl, rfl, h1.same fun i hi => hs i ?_, h2.same fun i hi => hs i ?_, h3.same fun i hi => hs i ?_, h4.same fun i hi => hs i ?_⟩, h.nd⟩ <;> simp [hi]
section
variable {P : Program} {o : Oper} {st : St} {K : KV} {fo : Operand} {xs : Array Operand} {ts : Array TypeId} {f : FuncId} {args args' : List AV} {zs : List Int} {ops : Array Oper} {s : List AV} {H : Heap}
theorem OpS.mkA (hc : RunCall P f args [] (ownAQ zs)) (he : Enters P f) (ho : o.op = .call ⟨.value fo, xs, ts⟩) (ha : callArgs st fo xs = some (f, args)) (hf : args.all frozenA = true)
    (hk : ∀ c H' S, OwnA (st.h ++ H') c zs S → (∀ i ∈ S, st.h.length ≤ i ∧ i < st.h.length + H'.length) → K (.c c) (st.h ++ H')) : OpS P o st K :=
  OpS.mkQ hc he ho ha hf fun r H' ⟨c, S, h1, h2⟩ => by
    subst h1
    exact ⟨rfl, hk _ _ _ h2.shift (by rw [shiftH_length]; exact shift_ge h2.lt)⟩
theorem OpS.mkGA {q : Gam} (hc : RunCall P f args [] (gamAQ q)) (he : Enters P f) (ho : o.op = .call ⟨.value fo, xs, ts⟩) (ha : callArgs st fo xs = some (f, args)) (hf : args.all frozenA = true)
    (hk : ∀ cs H' S, OwnGA (st.h ++ H') cs q S → (∀ i ∈ S, st.h.length ≤ i ∧ i < st.h.length + H'.length) → K (.agg cs) (st.h ++ H')) : OpS P o st K :=
  OpS.mkQ hc he ho ha hf fun r H' ⟨c, S, h1, h2⟩ => by
    subst h1
    exact ⟨rfl, hk _ _ _ h2.shift (by rw [shiftH_length]; exact shift_ge h2.lt)⟩
end
theorem OwnI.inv {H : Heap} {c : CV} {xs : List Int} {S : List Nat} (h : OwnI H c xs S) (hn : xs ≠ []) : ∃ id g lim ys, c = .own id g 0 xs.length lim ∧ S = [id] ∧ look H id g = some ⟨g, 1, cl (eI .i64) (xs ++ ys)⟩ := by
  cases h with
  | e => exact absurd rfl hn
  | o id g lim xs ys h => exact ⟨id, g, lim, ys, rfl, rfl, h⟩
theorem nodup4_dis {S1 S2 S3 S4 : List Nat} (h : (S1 ++ (S2 ++ (S3 ++ S4))).Nodup) : (∀ a ∈ S1, a ∉ S3 ∧ a ∉ S4) ∧ (∀ a ∈ S2, a ∉ S3 ∧ a ∉ S4) ∧ (∀ a ∈ S3, a ∉ S4) ∧ (S1 ++ S2).Nodup := by
  have h' := h
  rw [← List.append_assoc, List.nodup_append] at h
  obtain ⟨h12, h34, hd⟩ := h
  rw [List.nodup_append] at h34
  refine ⟨fun a ha => ⟨fun hb => ?_, fun hb => ?_⟩, fun a ha => ⟨fun hb => ?_, fun hb => ?_⟩, fun a ha hb => h34.2.2 a ha a hb rfl, h12⟩
  · exact hd a (by simp [ha]) a (by simp [hb]) rfl
  · exact hd a (by simp [ha]) a (by simp [hb]) rfl
  · exact hd a (by simp [ha]) a (by simp [hb]) rfl
  · exact hd a (by simp [ha]) a (by simp [hb]) rfl
theorem OwnI.nzc {H : Heap} {c : CV} {xs : List Int} {S : List Nat} (h : OwnI H c xs S) : nzC c = c := by cases h <;> rfl
theorem OwnR.nzc {H : Heap} {c : CV} {xs : List Rul} {S : List Nat} (h : OwnR H c xs S) : nzC c = c := by cases h <;> rfl
theorem gam_fin {H : Heap} {q q' : Gam} {b b' : Bool} {c1 c2 c3 c4 : CV} {S1 S2 S3 S4 : List Nat} (hq : q' = q) (hb : b' = b) (k1 : OwnI H c1 q.task.given S1) (k2 : OwnR H c2 q.task.rules S2) (k3 : OwnI H c3 q.put S3) (k4 : OwnA H c4 q.moves S4)
    (kn : (S1 ++ (S2 ++ (S3 ++ S4))).Nodup) : lessQ H (nzQ (gamWQ (withB b') q')) (.tup [.agg [.f (.int .i64 q.task.size), c1, c2, c3, c4], .c (.f (.bool b))]) := by
  subst hq hb
  refine ⟨H, HLe.refl _, [.f (.int .i64 q'.task.size), c1, c2, c3, nzC c4], _, ?_, ⟨⟨_, _, _, _, _, _, _, _, rfl, rfl, k1, k2, k3, k4.toI⟩, kn⟩⟩
  simp only [nzA, nz1, withB, List.map_cons, List.map_nil, k1.nzc, k2.nzc, k3.nzc]
  rfl
theorem gam_fin0 {H : Heap} {q' : Gam} {b b' : Bool} (hq : q' = ⟨⟨0, [], []⟩, [], []⟩) (hb : b' = b) : lessQ H (nzQ (gamWQ (withB b') q')) (.tup [.agg [.f (.int .i64 0), .f .nil, .f .nil, .f .nil, .f .nil], .c (.f (.bool b))]) := by
  subst hq hb
  exact ⟨H, HLe.refl _, _, [], rfl, ⟨⟨_, _, _, _, [], [], [], [], rfl, rfl, .e, .e, .e, .e⟩, by simp⟩⟩
theorem Clone_neA (xs : List Int) (hx : xs.length ≤ 2 ^ 40) (h0 : xs ≠ []) : RunCall Try.prog 78 [ints xs] [] (ownAQ xs) := by
  have hp : 0 < xs.length := List.length_pos_iff.2 h0
  refine RunCall.cw (c := _) Try.func78 rfl (n := 8) Try.ntmps78 (rs := [.tmp 2]) rfl ?_
  simp only [List.length_cons, List.length_nil, Nat.reduceAdd, Nat.reduceSub, List.replicate, List.cons_append, List.nil_append]
  simp(maxSteps:=999999)(disch:=omega)only[go_sem,reduceAdd,reduceMul,reduceSub,reduceEqDiff,reduceLeDiff, binA_ne ti22 rfl hp]
  intro g g'
  rw [Nat.zero_add]
  exact ⟨_, HLe.refl _, _, _, rfl, .o 0 g' xs (look_of (b := ⟨g', 1, cl (eI .i64) xs⟩) rfl)⟩
theorem Clone_eA : RunCall Try.prog 78 [ints []] [] (ownAQ []) := by
  refine RunCall.of_bodyN (c := _) rfl rfl (n := 8) rfl (rs := [.tmp 2]) rfl ?_
  refine RunC.seq (RunC.region (OpS.val (v := .c (.f .nil)) rfl ?_))
  refine RunC.seq (RunC.seq (RunC.region (OpS.val (v := ints []) rfl (OpS.nilOpen rfl (sliceOf_of ti22 rfl ti3) rfl rfl fun b => ?_))))
  refine RunC.cond (b := b) rfl (fun hb => ?_) (fun hb => ?_)
  · refine RunC.seq (RunC.region (OpS.val (v := .c (.f .nil)) rfl ?_))
    refine RunC.ret ?_
    exact ⟨.inr rfl, _, _, rfl, HLe.refl _, _, _, rfl, .n⟩
  · refine RunC.skip ?_
    refine (cw_sound _ _ _ (doneK Try.prog [.tmp 2] (ownAQ [])) ?_).mono fun e st ⟨h1, v, h2, H', h3, h4⟩ => ⟨h1, v, H', h2, h3, h4⟩
    simp only [List.length_cons, List.length_nil, Nat.reduceAdd, Nat.reduceSub, List.replicate, List.cons_append, List.nil_append]
    simp(maxSteps:=999999)(disch:=omega)only[go_sem,reduceAdd,reduceMul,reduceSub,reduceEqDiff,reduceLeDiff]
    intro g
    show lessQ [some ⟨g, 1, []⟩] (ownAQ []) (.c (.own 0 g 0 0 none))
    exact ⟨_, HLe.refl _, _, _, rfl, .o 0 g [] (look_of (b := ⟨g, 1, []⟩) rfl)⟩
theorem Clone_ownA (xs : List Int) (hx : xs.length ≤ 2 ^ 40) : RunCall Try.prog 78 [ints xs] [] (ownAQ xs) := by
  by_cases h : xs = []
  · subst h; exact Clone_eA
  · exact Clone_neA xs hx h
theorem copyGame_ownA (q : Gam) (hx : smG q) : RunCall Try.prog 61 [aG q] [] (gamAQ q) := by
  refine RunCall.cw (c := _) Try.func61 rfl (n := 13) Try.ntmps61 (rs := [.cell 2 34]) rfl ?_
  simp only [List.length_cons, List.length_nil, Nat.reduceAdd, Nat.reduceSub, List.replicate, List.cons_append, List.nil_append]
  simp(maxSteps:=999999)(disch:=omega)only[go_sem,reduceAdd,reduceMul,reduceSub,reduceEqDiff,reduceLeDiff]
  intro g1 g2
  refine drawP_lF [0, 1, 3, 4, 6, 7, 2, 5] [] none [8, 9, 10] [] foll (by kernel_rfl) ?_
  simp (maxSteps := 1000000) (disch := omega) only [go_sem, Nat.reduceBEq, Bool.true_or, Nat.reduceAdd, Nat.reduceMul, Nat.reduceSub, Nat.reduceEqDiff, Nat.reduceLeDiff]
  refine Loud.mkP (copyPuzzle_puz q.task hx.1) (⟨_, Try.func56, rfl, rfl⟩ : Enters Try.prog 56) rfl rfl rfl ?_
  rintro _ H1 _ ⟨⟨c1, c2, S1, S2, rfl, rfl, k1, k2⟩, kn⟩ hS
  simp(maxSteps:=999999)(disch:=omega)only[go_sem,reduceAdd,reduceMul,reduceSub,reduceEqDiff,reduceLeDiff]
  refine Loud.mkI (Clone_own q.put hx.2.1) (⟨_, Try.func78, rfl, rfl⟩ : Enters Try.prog 78) rfl rfl rfl ?_
  intro c3 H3 S3 h3 hS3
  simp(maxSteps:=999999)(disch:=omega)only[go_sem,reduceAdd,reduceMul,reduceSub,reduceEqDiff,reduceLeDiff]
  refine OpS.mkA (Clone_ownA q.moves hx.2.2) (⟨_, Try.func78, rfl, rfl⟩ : Enters Try.prog 78) rfl rfl rfl ?_
  intro c4 H4 S4 h4 hS4
  simp(maxSteps:=999999)(disch:=omega)only[go_sem,reduceAdd,reduceMul,reduceSub,reduceEqDiff,reduceLeDiff]
  simp only [List.length_append, List.length_cons, List.length_nil] at hS hS3 hS4
  refine ⟨_, HLe.refl _, _, S1 ++ (S2 ++ (S3 ++ S4)), rfl, ⟨⟨_, _, _, _, S1, S2, S3, S4, rfl, rfl, k1.same fun k hk => ?_, k2.same fun k hk => ?_, h3.same fun k hk => ?_, h4.same fun k hk => ?_⟩, nodup4 (n1 := H1.length + 2) (n2 := H1.length + H3.length + 2) kn h3.nd h4.nd (fun k hk => ?_) (fun k hk => ?_) (fun k hk => ?_) (by omega)⟩⟩
  · have := hS k (by simp [hk])
    simp only [List.cons_append, List.nil_append]
    rw [cons2 (by omega), cons2 (by omega), List.getElem?_append_left (by simp; omega), List.getElem?_append_left (by omega)]
  · have := hS k (by simp [hk])
    simp only [List.cons_append, List.nil_append]
    rw [cons2 (by omega), cons2 (by omega), List.getElem?_append_left (by simp; omega), List.getElem?_append_left (by omega)]
  · have := hS3 k hk
    simp only [List.cons_append, List.nil_append]
    rw [cons2 (by omega), cons2 (by omega), List.getElem?_append_left (by simp; omega)]
  · have := hS4 k hk
    simp only [List.cons_append, List.nil_append]
    rw [cons2 (by omega), cons2 (by omega)]
  · have := hS k hk; omega
  · have := hS3 k hk; omega
  · have := hS4 k hk; omega
end Go.Lg

set_option linter.unusedSimpArgs false
set_option linter.unusedVariables false
set_option maxRecDepth 100000
namespace Go.Lg
open Go.Proofs
attribute [-go_sem] appendM
def zeroG : Gam := ⟨⟨0, [], []⟩, [], []⟩
def putOk (q : Gam) (cell value : Int) : Prop := 0 ≤ cell ∧ cell < q.put.length ∧ nth (gameGrid q) cell ≤ 0 ∧ 1 ≤ value ∧ value ≤ q.task.size
instance (q : Gam) (cell value : Int) : Decidable (putOk q cell value) := by unfold putOk; infer_instance
end Go.Lg

set_option linter.unusedSimpArgs false
set_option linter.unusedVariables false
set_option maxRecDepth 100000
namespace Go.Lg
open Go.Proofs
attribute [-go_sem] appendM
def gameBack (q : Gam) : Gam := if gameValid q = true then (if q.moves = [] then q else ⟨q.task, q.put.set (nth q.moves ((q.moves.length : Int) - 1)).toNat 0, q.moves.take (q.moves.length - 1)⟩) else zeroG
def gameBackB (q : Gam) : Bool := gameValid q && decide (q.moves ≠ [])
theorem gam_finI {H : Heap} {q q' : Gam} {b b' : Bool} {c1 c2 c3 c4 : CV} {S1 S2 S3 S4 : List Nat} (hq : q' = q) (hb : b' = b) (k1 : OwnI H c1 q.task.given S1) (k2 : OwnR H c2 q.task.rules S2) (k3 : OwnI H c3 q.put S3) (k4 : OwnI H c4 q.moves S4)
    (kn : (S1 ++ (S2 ++ (S3 ++ S4))).Nodup) : lessQ H (nzQ (gamWQ (withB b') q')) (.tup [.agg [.f (.int .i64 q.task.size), c1, c2, c3, c4], .c (.f (.bool b))]) := by
  subst hq hb
  refine ⟨H, HLe.refl _, [.f (.int .i64 q'.task.size), c1, c2, c3, c4], _, ?_, ⟨⟨_, _, _, _, _, _, _, _, rfl, rfl, k1, k2, k3, k4⟩, kn⟩⟩
  simp only [nzA, nz1, withB, List.map_cons, List.map_nil, k1.nzc, k2.nzc, k3.nzc, k4.nzc]
  rfl
theorem OwnA.inv {H : Heap} {c : CV} {xs : List Int} {S : List Nat} (h : OwnA H c xs S) (hn : xs ≠ []) : ∃ id g, c = .own id g 0 xs.length none ∧ S = [id] ∧ look H id g = some ⟨g, 1, cl (eI .i64) xs⟩ := by
  cases h with
  | n => exact absurd rfl hn
  | o id g xs h => exact ⟨id, g, rfl, rfl, h⟩
theorem OwnA.inv0 {H : Heap} {c : CV} {xs : List Int} {S : List Nat} (h : OwnA H c xs S) (hn : xs = []) : c = .f .nil ∨ ∃ id g, c = .own id g 0 0 none ∧ look H id g = some ⟨g, 1, []⟩ := by
  cases h with
  | n => exact .inl rfl
  | o id g xs h => subst hn; exact .inr ⟨id, g, rfl, h⟩
theorem last_move {q : Gam} (h : gameOk q) (hn : q.moves ≠ []) : 0 ≤ nth q.moves ((q.moves.length : Int) - 1) ∧ nth q.moves ((q.moves.length : Int) - 1) < q.put.length := by
  have hp : 0 < q.moves.length := List.length_pos_iff.2 hn
  have e : (q.moves.length : Int) - 1 = ((q.moves.length - 1 : Nat) : Int) := by omega
  have hm := h.2.1 _ (nth_mem (xs := q.moves) (i := q.moves.length - 1) (by omega))
  rw [e]
  have := mem_filledAt.1 hm
  omega
theorem sliceV_ownC {P : Program} {H : Heap} {t e : TypeId} {ti ei : TI} {id g n : Nat} {b : Blk} (ht : tinf P t = some ti) (hk : ti.k = .slice e) (he : tinf P e = some ei) (hs : ei.size = 1) (hl : look H id g = some b) (hb : b.sz = 1) (hn : n ≤ b.cs.length) :
    sliceV P H t (.c (.own id g 0 n none)) none (some n) (some n) = some (.c (.own id g 0 n (some n))) := by
  simp only [sliceV, ht, hk, he, hl, Option.getD_none, Option.getD_some, hb, hs]
  rw [if_pos ⟨by omega, by omega, by omega, fun _ => rfl, trivial, by omega, by omega⟩]
  simp
theorem sliceV_ownT {P : Program} {H : Heap} {t e : TypeId} {ti ei : TI} {id g n m : Nat} {b : Blk} (ht : tinf P t = some ti) (hk : ti.k = .slice e) (he : tinf P e = some ei) (hs : ei.size = 1) (hl : look H id g = some b) (hb : b.sz = 1) (hn : m ≤ b.cs.length) :
    sliceV P H t (.c (.own id g 0 n none)) none (some m) none = some (.c (.own id g 0 m none)) := by
  simp only [sliceV, ht, hk, he, hl, Option.getD_none, Option.getD_some, hb, hs]
  rw [if_pos ⟨by omega, by omega, by omega, by simp, trivial, by omega, by omega⟩]
  simp
theorem Clip_run (H : Heap) (id g n : Nat) (b : Blk) (hl : look H id g = some b) (hb : b.sz = 1 ∧ n ≤ b.cs.length ∧ n ≤ 2 ^ 40) :
    RunCall Try.prog 62 [.c (.own id g 0 n none)] H (fun v H' => v = .c (.own id g 0 n (some n)) ∧ H' = H) := by
  obtain ⟨b1, b2, b3⟩ := hb
  refine RunCall.cw (c := _) Try.func62 rfl (n := 9) Try.ntmps62 (rs := [.tmp 2]) rfl ?_
  simp only [List.length_cons, List.length_nil, Nat.reduceAdd, Nat.reduceSub, List.replicate, List.cons_append, List.nil_append]
  simp(maxSteps:=999999)(disch:=omega)only[go_sem,reduceAdd,reduceMul,reduceSub,reduceEqDiff,reduceLeDiff, hl]
  rw [Int.toNat_natCast, sliceV_ownC ti22 rfl ti3 rfl hl b1 b2]
  simp(maxSteps:=999999)(disch:=omega)only[go_sem,reduceAdd,reduceMul,reduceSub,reduceEqDiff,reduceLeDiff]
  exact ⟨_, HLe.refl _, rfl, rfl⟩
theorem GameBack_own (q : Gam) (hx : smG q) : RunCall Try.prog 31 [aG q] [] (gamWQ (withB (gameBackB q)) (gameBack q)) := by
  refine RunCall.nz ?_
  refine RunCall.cw (c := _) Try.func31 rfl (n := 34) Try.ntmps31 (rs := [.cell 2 34, .tmp 3]) rfl ?_
  simp only [List.length_cons, List.length_nil, Nat.reduceAdd, Nat.reduceSub, List.replicate, List.cons_append, List.nil_append]
  simp(maxSteps:=999999)(disch:=omega)only[go_sem,reduceAdd,reduceMul,reduceSub,reduceEqDiff,reduceLeDiff]
  intro g1 g2
  first | refine OpS.rd (GameValid_run q hx) (⟨_, Try.func38, rfl, rfl⟩ : Enters Try.prog 38) rfl rfl rfl rfl ?_ | refine Loud.rd (GameValid_run q hx) (⟨_, Try.func38, rfl, rfl⟩ : Enters Try.prog 38) rfl rfl rfl rfl ?_
  simp(maxSteps:=999999)(disch:=omega)only[go_sem,reduceAdd,reduceMul,reduceSub,reduceEqDiff,reduceLeDiff]
  ((first | with_reducible refine condK_dec ?_ ?_ | with_reducible refine condK_ndec ?_ ?_ | with_reducible refine condK_nb ?_ ?_ | refine condK_b ?_ ?_) <;> intro h)
  · simp(maxSteps:=999999)(disch:=omega)only[go_sem,reduceAdd,reduceMul,reduceSub,reduceEqDiff,reduceLeDiff]
    obtain ⟨h1, h2, h3, h4, h5, h6⟩ := gameValid_facts h
    refine OpS.mkGA (copyGame_ownA q hx) (⟨_, Try.func61, rfl, rfl⟩ : Enters Try.prog 61) rfl rfl rfl ?_
    rintro _ H1 _ ⟨⟨c1, c2, c3, c4, S1, S2, S3, S4, rfl, rfl, k1, k2, k3, k4⟩, kn⟩ hS
    simp(maxSteps:=999999)(disch:=omega)only[go_sem,reduceAdd,reduceMul,reduceSub,reduceEqDiff,reduceLeDiff]
    intro g3
    simp(maxSteps:=999999)(disch:=omega)only[go_sem,reduceAdd,reduceMul,reduceSub,reduceEqDiff,reduceLeDiff, look_last, set_last]
    simp only [List.length_cons, List.length_nil, List.cons_append, List.nil_append] at k1 k2 k3 k4 hS
    have mv : ∀ {X1 X2 Y1 Y2 : Option Blk} {Z : Heap}, ∀ k, 2 ≤ k ∧ k < 2 + H1.length → (X1 :: Y1 :: (H1 ++ Z))[k]? = (X2 :: Y2 :: H1)[k]? := fun k hk => by
      rw [cons2 hk.1, cons2 hk.1, List.getElem?_append_left (by omega)]
    have m1 : ∀ k ∈ S1, 2 ≤ k ∧ k < 2 + H1.length := fun k hk => by have := hS k (by simp [hk]); omega
    have m2 : ∀ k ∈ S2, 2 ≤ k ∧ k < 2 + H1.length := fun k hk => by have := hS k (by simp [hk]); omega
    have m3 : ∀ k ∈ S3, 2 ≤ k ∧ k < 2 + H1.length := fun k hk => by have := hS k (by simp [hk]); omega
    have m4 : ∀ k ∈ S4, 2 ≤ k ∧ k < 2 + H1.length := fun k hk => by have := hS k (by simp [hk]); omega
    obtain ⟨HA, hHA⟩ : ∃ HA : Heap, HA = some ⟨g1, 1, cG q⟩ :: some ⟨g2, 5, [.f (.int .i64 0), .f .nil, .f .nil, .f .nil, .f .nil]⟩ :: (H1 ++ [some ⟨g3, 5, [.f (.int .i64 q.task.size), c1, c2, c3, c4]⟩]) := ⟨_, rfl⟩
    have e1 := k1.same (H' := HA) fun k hk => by rw [hHA]; exact mv k (m1 k hk)
    have e2 := k2.same (H' := HA) fun k hk => by rw [hHA]; exact mv k (m2 k hk)
    have e3 := k3.same (H' := HA) fun k hk => by rw [hHA]; exact mv k (m3 k hk)
    have e4 := k4.same (H' := HA) fun k hk => by rw [hHA]; exact mv k (m4 k hk)
    have b1 : look HA 1 g2 = some ⟨g2, 5, [.f (.int .i64 0), .f .nil, .f .nil, .f .nil, .f .nil]⟩ := by rw [hHA]; simp only [go_sem]
    have b2 : look HA (H1.length + 1 + 1) g3 = some ⟨g3, 5, [.f (.int .i64 q.task.size), c1, c2, c3, c4]⟩ := by rw [hHA]; simp only [go_sem]; exact look_last
    have hlA : HA.length = H1.length + 3 := by rw [hHA]; simp
    rw [← hHA]
    clear hHA k1 k2 k3 k4
    obtain ⟨n1, n2, n3, n12⟩ := nodup4_dis kn
    by_cases hm : q.moves = []
    · have r1 : gameBack q = q := by simp [gameBack, h, hm]
      have r2 : gameBackB q = false := by simp [gameBackB, hm]
      have fin : ∀ {X : Option Blk}, lessQ (HA.set 1 X) (nzQ (gamWQ (withB (gameBackB q)) (gameBack q))) (.tup [.agg [.f (.int .i64 q.task.size), c1, c2, c3, c4], .c (.f (.bool false))]) := fun {X} =>
        have hX : ∀ k, 2 ≤ k ∧ k < 2 + H1.length → (HA.set 1 X)[k]? = HA[k]? := fun k hk => by rw [List.getElem?_set_ne (by omega)]
        gam_fin r1 r2 (e1.same fun k hk => hX k (m1 k hk)) (e2.same fun k hk => hX k (m2 k hk)) (e3.same fun k hk => hX k (m3 k hk)) (e4.same fun k hk => hX k (m4 k hk)) kn
      rcases e4.inv0 hm with rfl | ⟨id4, g4, rfl, l4⟩
      · simp(maxSteps:=999999)(disch:=omega)only[go_sem,reduceAdd,reduceMul,reduceSub,reduceEqDiff,reduceLeDiff, lt_yes, lt_no, b2]
        rw [b1]
        simp(maxSteps:=999999)(disch:=omega)only[go_sem,reduceAdd,reduceMul,reduceSub,reduceEqDiff,reduceLeDiff]
        rw [look_set_eq (by omega)]
        simp(maxSteps:=999999)(disch:=omega)only[go_sem,reduceAdd,reduceMul,reduceSub,reduceEqDiff,reduceLeDiff]
        exact fin
      · simp(maxSteps:=999999)(disch:=omega)only[go_sem,reduceAdd,reduceMul,reduceSub,reduceEqDiff,reduceLeDiff, lt_yes, lt_no, b2, l4]
        rw [b1]
        simp(maxSteps:=999999)(disch:=omega)only[go_sem,reduceAdd,reduceMul,reduceSub,reduceEqDiff,reduceLeDiff]
        rw [look_set_eq (by omega)]
        simp(maxSteps:=999999)(disch:=omega)only[go_sem,reduceAdd,reduceMul,reduceSub,reduceEqDiff,reduceLeDiff]
        exact fin
    obtain ⟨hl0, hl1⟩ := last_move h4 hm
    obtain ⟨mi, hmi⟩ : ∃ mi : Nat, nth q.moves ((q.moves.length : Int) - 1) = mi := ⟨(nth q.moves ((q.moves.length : Int) - 1)).toNat, by omega⟩
    have r1 : gameBack q = ⟨q.task, q.put.set mi 0, q.moves.take (q.moves.length - 1)⟩ := by simp [gameBack, h, hm, hmi]
    have r2 : gameBackB q = true := by simp [gameBackB, h, hm]
    have hne : q.put ≠ [] := by intro h0; rw [h0] at hl1; simp at hl1; omega
    have hmp : 0 < q.moves.length := List.length_pos_iff.2 hm
    obtain ⟨id3, g4, lim3, ys, rfl, rfl, l3⟩ := e3.inv hne
    obtain ⟨id4, g5, rfl, rfl, l4⟩ := e4.inv hm
    have hi3 := m3 id3 (by simp)
    have hi4 := m4 id4 (by simp)
    have hni : id3 ≠ id4 := fun he => n3 id3 (by simp) (by simp [he])
    have hml : mi < q.put.length := by omega
    have hml2 : mi < (q.put ++ ys).length := by simp; omega
    have hix : ∀ zs : List Int, 0 < zs.length → ((zs.length : Int) - 1).toNat = zs.length - 1 := fun zs hz => by omega
    simp(maxSteps:=999999)(disch:=omega)only[go_sem,reduceAdd,reduceMul,reduceSub,reduceEqDiff,reduceLeDiff, lt_yes, lt_no, b2, l4]
    refine drawP_lF [0, 1, 2, 3, 4, 5, 6] [] none [7, 8] [] foll (by kernel_rfl) ?_
    simp (maxSteps := 1000000) (disch := omega) only [go_sem, Nat.reduceBEq, Bool.true_or, Nat.reduceAdd, Nat.reduceMul, Nat.reduceSub, Nat.reduceEqDiff, Nat.reduceLeDiff]
    simp(maxSteps:=999999)(disch:=omega)only[go_sem,reduceAdd,reduceMul,reduceSub,reduceEqDiff,reduceLeDiff, b2, l3, l4, hmi]
    rw [Int.toNat_natCast, List.set_append_left _ _ hml]
    have hlt3 : id3 < HA.length := by omega
    obtain ⟨HB, hHB⟩ : ∃ HB : Heap, HB = HA.set id3 (some ⟨g4, 1, cl (eI .i64) (q.put.set mi 0 ++ ys)⟩) := ⟨_, rfl⟩
    have hB : ∀ k, k ≠ id3 → HB[k]? = HA[k]? := fun k hk => by rw [hHB, List.getElem?_set_ne (Ne.symm hk)]
    have hlB : HB.length = H1.length + 3 := by rw [hHB, List.length_set, hlA]
    have f1 := e1.same (H' := HB) fun k hk => hB k fun he => (n1 k hk).1 (by simp [he])
    have f2 := e2.same (H' := HB) fun k hk => hB k fun he => (n2 k hk).1 (by simp [he])
    have l5 : look HB id4 g5 = some ⟨g5, 1, cl (eI .i64) q.moves⟩ := by unfold look; rw [hB _ (Ne.symm hni)]; exact l4
    have f3 : OwnI HB (.own id3 g4 0 q.put.length lim3) (q.put.set mi 0) [id3] := by
      have := OwnI.o (H := HB) id3 g4 lim3 (q.put.set mi 0) ys (by rw [hHB]; exact look_of (b := ⟨g4, 1, cl (eI .i64) (q.put.set mi 0 ++ ys)⟩) (by rw [List.getElem?_set_self hlt3]))
      rwa [List.length_set] at this
    have f4 : OwnI HB (.own id4 g5 0 (q.moves.length - 1) (some (q.moves.length - 1))) (q.moves.take (q.moves.length - 1)) [id4] := by
      have := OwnI.o (H := HB) id4 g5 (some (q.moves.length - 1)) (q.moves.take (q.moves.length - 1)) (q.moves.drop (q.moves.length - 1)) (by rw [List.take_append_drop]; exact l5)
      rwa [List.length_take, Nat.min_eq_left (by omega)] at this
    have b3 : look HB 1 g2 = some ⟨g2, 5, [.f (.int .i64 0), .f .nil, .f .nil, .f .nil, .f .nil]⟩ := by unfold look; rw [hB 1 (by omega)]; exact b1
    have b4 : look HB (H1.length + 1 + 1) g3 = some ⟨g3, 5, [.f (.int .i64 q.task.size), c1, c2, .own id3 g4 0 q.put.length lim3, .own id4 g5 0 q.moves.length none]⟩ := by unfold look; rw [hB _ (by omega)]; exact b2
    rw [← hHB]
    clear hHB e1 e2 e3 e4 b1 b2 l3 l4
    simp(maxSteps:=999999)(disch:=omega)only[go_sem,reduceAdd,reduceMul,reduceSub,reduceEqDiff,reduceLeDiff, b4, l5]
    rw [hix _ hmp, sliceV_ownT ti22 rfl ti3 rfl l5 rfl (by simp only [cl_length]; omega)]
    simp(maxSteps:=999999)(disch:=omega)only[go_sem,reduceAdd,reduceMul,reduceSub,reduceEqDiff,reduceLeDiff]
    refine OpS.run (Clip_run HB id4 g5 (q.moves.length - 1) _ l5 ⟨rfl, by simp only [cl_length]; omega, by omega⟩) (⟨_, Try.func62, rfl, rfl⟩ : Enters Try.prog 62) rfl rfl ?_
    rintro _ H9 ⟨rfl, h9⟩
    rw [h9]
    simp(maxSteps:=999999)(disch:=omega)only[go_sem,reduceAdd,reduceMul,reduceSub,reduceEqDiff,reduceLeDiff, b4]
    rw [look_set_eq (by omega)]
    simp(maxSteps:=999999)(disch:=omega)only[go_sem,reduceAdd,reduceMul,reduceSub,reduceEqDiff,reduceLeDiff]
    rw [look_set_ne (by omega), b3]
    simp(maxSteps:=999999)(disch:=omega)only[go_sem,reduceAdd,reduceMul,reduceSub,reduceEqDiff,reduceLeDiff]
    rw [look_set_eq (by rw [List.length_set]; omega)]
    simp(maxSteps:=999999)(disch:=omega)only[go_sem,reduceAdd,reduceMul,reduceSub,reduceEqDiff,reduceLeDiff]
    have hD : ∀ {X Y : Option Blk}, ∀ k, 2 ≤ k ∧ k < 2 + H1.length → ((HB.set (H1.length + 1 + 1) X).set 1 Y)[k]? = HB[k]? := fun k hk => by
      rw [List.getElem?_set_ne (by omega), List.getElem?_set_ne (by omega)]
    refine gam_finI (q := ⟨q.task, q.put.set mi 0, q.moves.take (q.moves.length - 1)⟩) r1 r2 (f1.same fun k hk => hD k (m1 k hk)) (f2.same fun k hk => hD k (m2 k hk)) (f3.same fun k hk => hD k (m3 k hk)) (f4.same fun k hk => hD k (m4 k hk)) kn
  · simp(maxSteps:=999999)(disch:=omega)only[go_sem,reduceAdd,reduceMul,reduceSub,reduceEqDiff,reduceLeDiff]
    refine gam_fin0 ?_ ?_
    · simp [gameBack, h, zeroG]
    · simp [gameBackB, h]
end Go.Lg

set_option linter.unusedSimpArgs false
set_option linter.unusedVariables false
set_option maxRecDepth 100000
namespace Go.Lg
open Go.Proofs
def mAt (ms : List Nat) (k : Nat) : Nat := ms.getD k 0
theorem nth_nats (ms : List Nat) (k : Nat) : nth (nats ms) k = ((mAt ms k : Nat) : Int) := by
  unfold nth nats mAt
  rw [Int.toNat_natCast]
  simp only [List.getD, List.getElem?_map]
  by_cases h : k < ms.length
  · rw [List.getElem?_eq_getElem h]; rfl
  · rw [List.getElem?_eq_none (by omega)]; rfl
theorem nats_len (ms : List Nat) : (nats ms).length = ms.length := by simp [nats]
theorem mAt_over {ms : List Nat} {k : Nat} (h : ms.length ≤ k) : mAt ms k = 0 := by
  unfold mAt
  simp [List.getD, List.getElem?_eq_none h]
theorem mAt_mem {ms : List Nat} {k : Nat} (h : k < ms.length) : mAt ms k ∈ ms := by
  unfold mAt
  simp [List.getD, List.getElem?_eq_getElem h]
structure MsN (ms : List Nat) (n : Nat) : Prop where
  len : ms.length = n * n
  val : ∀ m ∈ ms, m ≤ 2 ^ (n + 1) - 2 ∧ m % 2 = 0
theorem MsN.at {ms : List Nat} {n : Nat} (h : MsN ms n) (k : Nat) : mAt ms k ≤ 2 ^ (n + 1) - 2 ∧ mAt ms k % 2 = 0 := by
  by_cases hk : k < ms.length
  · exact h.val _ (mAt_mem hk)
  · rw [mAt_over (by omega)]; exact ⟨Nat.zero_le _, rfl⟩
theorem pow_n {n : Nat} (hn : n = 2 ∨ n = 3 ∨ n = 4) : 8 ≤ 2 ^ (n + 1) ∧ 2 ^ (n + 1) ≤ 32 := by rcases hn with rfl | rfl | rfl <;> decide
theorem MsN.lt {ms : List Nat} {n : Nat} (hn : n = 2 ∨ n = 3 ∨ n = 4) (h : MsN ms n) (k : Nat) : mAt ms k ≤ 30 ∧ mAt ms k % 2 = 0 := by
  have := h.at k
  have := pow_n hn
  omega
theorem MsN.ok {ms : List Nat} {n : Nat} (h : MsN ms n) : MasksOk (nats ms) n := by
  refine ⟨by rw [nats_len]; exact h.len, fun k hk => ?_⟩
  have := h.at k
  rw [nth_nats]
  omega
theorem MsN.set {ms : List Nat} {n k v : Nat} (h : MsN ms n) (hv : v ≤ 2 ^ (n + 1) - 2 ∧ v % 2 = 0) : MsN (ms.set k v) n :=
  ⟨by rw [List.length_set]; exact h.len, fun m hm => by
    rcases List.mem_or_eq_of_mem_set hm with hm | rfl
    · exact h.val m hm
    · exact hv⟩
end Go.Lg

set_option linter.unusedSimpArgs false
set_option linter.unusedVariables false
set_option maxRecDepth 100000
namespace Go.Lg
open Go.Proofs
theorem PuzN.sm {p : Puz} {n : Nat} (hp : PuzN p n) : smP p := by
  have hsq : n * n ≤ 16 := by rcases hp.hn with rfl | rfl | rfl <;> omega
  have := hp.len
  have := hp.rl
  refine ⟨by omega, by omega, fun r hr => ?_⟩
  have := (ruleValid_facts (hp.rv r hr)).1
  omega
end Go.Lg

set_option linter.unusedSimpArgs false
set_option linter.unusedVariables false
set_option maxRecDepth 100000
namespace Go.Lg
open Go.Proofs
attribute [-go_sem] appendM lwF_cons
structure Cap where
  gp : Nat
  gpg : Nat
  tb : Nat
  tbg : Nat
  ty : Nat
  tyg : Nat
  sz : Nat
  szg : Nat
  pb : Nat
  pbg : Nat
  mid : Nat
  mg : Nat
  pid : Nat
  pg : Nat
  gid : Nat
  gg : Nat
def Cap.ids (c : Cap) : List Nat := [c.gp, c.tb, c.ty, c.sz, c.pb, c.mid]
structure TryH (ft fy : FuncId) (p : Puz) (n most : Nat) (c : Cap) (H : Heap) : Prop where
  g : look H c.gp c.gpg = some ⟨c.gpg, 1, [.own c.gid c.gg 0 (n * n) none]⟩
  t : look H c.tb c.tbg = some ⟨c.tbg, 1, [.fn ft [(c.pid, c.pg), (c.mid, c.mg)]]⟩
  y : look H c.ty c.tyg = some ⟨c.tyg, 1, [.fn fy [(c.gp, c.gpg), (c.tb, c.tbg), (c.ty, c.tyg), (c.sz, c.szg), (c.pb, c.pbg)]]⟩
  z : look H c.sz c.szg = some ⟨c.szg, 1, [.f (.int .i64 n)]⟩
  b : look H c.pb c.pbg = some ⟨c.pbg, 1, cP p⟩
  m : look H c.mid c.mg = some ⟨c.mg, 1, [.f (.int .i64 most)]⟩
theorem TryH.same {ft fy : FuncId} {p : Puz} {n most : Nat} {c : Cap} {H H' : Heap} (h : TryH ft fy p n most c H) (hs : ∀ k ∈ c.ids, H'[k]? = H[k]?) : TryH ft fy p n most c H' := by
  have k : ∀ i g b, i ∈ c.ids → look H i g = b → look H' i g = b := fun i g b hi he => by unfold look at *; rw [hs i hi]; exact he
  exact ⟨k _ _ _ (by simp [Cap.ids]) h.g, k _ _ _ (by simp [Cap.ids]) h.t, k _ _ _ (by simp [Cap.ids]) h.y, k _ _ _ (by simp [Cap.ids]) h.z, k _ _ _ (by simp [Cap.ids]) h.b, k _ _ _ (by simp [Cap.ids]) h.m⟩
theorem TryH.lt {ft fy : FuncId} {p : Puz} {n most : Nat} {c : Cap} {H : Heap} (h : TryH ft fy p n most c H) : ∀ k ∈ c.ids, k < H.length := by
  intro k hk
  have hl : ∀ {i g : Nat} {b : Blk}, look H i g = some b → i < H.length := fun h => (List.getElem?_eq_some_iff.1 (look_some h).1).1
  simp only [Cap.ids, List.mem_cons, List.not_mem_nil, or_false] at hk
  rcases hk with rfl | rfl | rfl | rfl | rfl | rfl
  · exact hl h.g
  · exact hl h.t
  · exact hl h.y
  · exact hl h.z
  · exact hl h.b
  · exact hl h.m
end Go.Lg

set_option linter.unusedSimpArgs false
set_option linter.unusedVariables false
set_option maxRecDepth 100000
namespace Go.Lg
open Go.Proofs
theorem sum_le_mul : ∀ (l : List Nat) (b : Nat), (∀ x ∈ l, x ≤ b) → l.sum ≤ b * l.length
  | [], b, _ => by simp
  | x :: l, b, h => by
    have h1 := sum_le_mul l b fun y hy => h y (by simp [hy])
    have h2 := h x (by simp)
    simp only [List.sum_cons, List.length_cons, Nat.mul_add, Nat.mul_one]
    omega
theorem MsN.sum {ms : List Nat} {n : Nat} (hn : n = 2 ∨ n = 3 ∨ n = 4) (h : MsN ms n) : ms.sum ≤ 480 := by
  have h1 := sum_le_mul ms 30 fun x hx => by have := (h.val x hx).1; have := pow_n hn; omega
  have h2 : ms.length ≤ 16 := by rw [h.len]; rcases hn with rfl | rfl | rfl <;> omega
  omega
end Go.Lg

set_option linter.unusedSimpArgs false
set_option linter.unusedVariables false
set_option maxRecDepth 100000
namespace Go.Lg
open Go.Proofs
theorem puz_factsT {p : Puz} (hv : puzzleValid p = true) : PuzN p p.size.toNat ∧ GrdN p.given p.size.toNat := by
  obtain ⟨hp, hz⟩ := PuzN.of hv
  refine ⟨hp, ?_⟩
  simp only [puzzleValid, Bool.and_eq_true, decide_eq_true_eq] at hv
  exact GrdN.of hp.hn (by rw [hz]; exact hv.1)
end Go.Lg
