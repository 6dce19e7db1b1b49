/- LgZ, LgZ2, LgZ3, GpCA, GpCC, GpCE, GpGA, GpOE, GpDC, cut to what is needed. -/
import Derived.Test.YtfkhojmllokgoaaDoorYab2
import Derived.Test.YtfkhojmllokgoaaDoorYab1
import Derived.KernelRfl
import Derived.Test.YtfkhojmllokgoaaDoorYab3
open Nat renaming reduceAdd → zA, reduceMul → zM, reduceSub → zS, reduceEqDiff → zE, reduceLeDiff → zL
set_option linter.unusedSimpArgs false
set_option linter.unusedVariables false
namespace Go.Lg
class HSzK {α : Type} (E : α → List CV) (n : outParam Nat) : Prop where
  sz : ∀ x, (E x).length = n
def kl {α : Type} (E : α → List CV) (xs : List α) : List CV := xs.flatMap E
section
variable {α : Type} {E : α → List CV} {n : Nat}
theorem kl_length [h : HSzK E n] (xs : List α) : (kl E xs).length = xs.length * n := by
  induction xs with
  | nil => simp [kl]
  | cons x xs ih => simp only [kl, List.flatMap_cons, List.length_append, h.sz, List.length_cons] at ih ⊢; rw [ih, Nat.add_mul]; omega
end
inductive OwnI (H : Heap) : CV → List Int → List Nat → Prop where
  | e : OwnI H (.f (.sl 0 [])) [] []
  | o (id g : Nat) (lim : Option Nat) (xs ys : List Int) (h : look H id g = some ⟨g, 1, cl (eI .i64) (xs ++ ys)⟩) : OwnI H (.own id g 0 xs.length lim) xs [id]
def Frm (H H' : Heap) (S : List Nat) : Prop := H'.length = H.length ∧ ∀ id, id ∉ S → H'[id]? = H[id]?
theorem Frm.refl (H : Heap) (S : List Nat) : Frm H H S := ⟨rfl, fun _ _ => rfl⟩
theorem Frm.trans {H H' H'' : Heap} {S : List Nat} (h : Frm H H' S) (k : Frm H' H'' S) : Frm H H'' S := ⟨k.1.trans h.1, fun id hi => (k.2 id hi).trans (h.2 id hi)⟩
theorem Frm.mono {H H' : Heap} {S T : List Nat} (h : Frm H H' S) (hs : ∀ i ∈ S, i ∈ T) : Frm H H' T := ⟨h.1, fun id hi => h.2 id fun hm => hi (hs id hm)⟩
theorem Frm.look {H H' : Heap} {S : List Nat} (h : Frm H H' S) {id g : Nat} (hi : id ∉ S) : look H' id g = look H id g := by
  unfold Lg.look; rw [h.2 id hi]
theorem Frm.set (H : Heap) (id : Nat) (b : Option Blk) : Frm H (H.set id b) [id] := ⟨by simp, fun i hi => by rw [List.getElem?_set_ne (by simp at hi; exact fun h => hi h.symm)]⟩
theorem OwnI.frm {H H' : Heap} {c : CV} {xs : List Int} {S T : List Nat} (h : OwnI H c xs S) (hf : Frm H H' T) (hd : ∀ i ∈ S, i ∉ T) : OwnI H' c xs S := by
  cases h with
  | e => exact .e
  | o id g lim xs ys h => exact .o id g lim xs ys (by rw [hf.look (hd id (by simp))]; exact h)
theorem OwnI.frz {H : Heap} {c : CV} {xs : List Int} {S : List Nat} (h : OwnI H c xs S) (n : Nat) : frz H (n + 1) c = some (fints xs) := by
  cases h with
  | e => cases n <;> rfl
  | o id g lim xs ys h =>
    simp only [Lg.frz, h, List.drop_zero]
    rw [cl_append, List.take_append_of_le_length (by rw [cl_length]; exact Nat.le_refl _), List.take_of_length_le (by rw [cl_length]; exact Nat.le_refl _), frz_cl]
    rfl
structure RO where
  r : Rul
  c : CV
  i : List Nat
  deriving Inhabited
def kR (o : RO) : List CV := [.f (.int .i64 o.r.kind), o.c, .f (.int .i64 o.r.val)]
instance : HSzK kR 3 := ⟨fun _ => rfl⟩
def kRo (o : Option RO) : List CV := match o with | none => [.f (.int .i64 0), .f .nil, .f (.int .i64 0)] | some o => kR o
instance : HSzK kRo 3 := ⟨fun o => by cases o <;> rfl⟩
inductive OwnR (H : Heap) : CV → List Rul → List Nat → Prop where
  | e : OwnR H (.f (.sl 0 [])) [] []
  | o (id g : Nat) (lim : Option Nat) (l : List RO) (ys : List CV) (h : look H id g = some ⟨g, 3, kl kR l ++ ys⟩) (hi : ∀ o ∈ l, OwnI H o.c o.r.cells o.i) (hd : (id :: l.flatMap (·.i)).Nodup) (hy : ∀ c ∈ ys, scalC c = true) :
      OwnR H (.own id g 0 l.length lim) (l.map (·.r)) (id :: l.flatMap (·.i))
theorem OwnR.frm {H H' : Heap} {c : CV} {rs : List Rul} {S T : List Nat} (h : OwnR H c rs S) (hf : Frm H H' T) (hd : ∀ i ∈ S, i ∉ T) : OwnR H' c rs S := by
  cases h with
  | e => exact .e
  | o id g lim l ys h hi hn hy =>
    refine .o id g lim l ys (by rw [hf.look (hd id (by simp))]; exact h) (fun o ho => (hi o ho).frm hf fun i hm => hd i ?_) hn hy
    exact List.mem_cons_of_mem _ (List.mem_flatMap.2 ⟨o, ho, hm⟩)
theorem mapM_frz_kR {H : Heap} {n : Nat} : ∀ (l : List RO), (∀ o ∈ l, OwnI H o.c o.r.cells o.i) → (kl kR l).mapM (frz H (n + 1)) = some (fl eR (l.map (·.r)))
  | [], _ => rfl
  | o :: l, h => by
    have h1 := (h o (by simp)).frz n
    have h2 := mapM_frz_kR (n := n) l fun x hx => h x (by simp [hx])
    simp only [kl, List.flatMap_cons, kR, List.cons_append, List.nil_append] at h2 ⊢
    simp only [List.mapM_cons, h1, h2, Option.pure_def, Option.bind_eq_bind, Option.bind_some]
    rfl
theorem OwnR.frz {H : Heap} {c : CV} {rs : List Rul} {S : List Nat} (h : OwnR H c rs S) (n : Nat) : frz H (n + 2) c = some (fsl eR rs) := by
  cases h with
  | e => rfl
  | o id g lim l ys h hi hn hy =>
    simp only [Lg.frz, h, List.drop_zero]
    rw [List.take_append_of_le_length (by rw [kl_length]; exact Nat.le_refl _), List.take_of_length_le (by rw [kl_length]; exact Nat.le_refl _), mapM_frz_kR l hi]
    simp
def snapD (H : Heap) : AV → Option AV
  | .c x => (frzC H x).map .c
  | .agg cs => (cs.mapM (frzC H)).map .agg
  | .void => some .void
  | _ => none
end Go.Lg

namespace Go.Lg
section
variable {P : Program} {o : Oper} {st : St} {K : KV} {fo : Operand} {xs : Array Operand} {ts : Array TypeId} {f : FuncId} {args args' : List AV} {v : AV} {u : Value} {Q : KV}
end
section
variable {P : Program} {ops : Array Oper} {o : Oper} {s : List AV} {H : Heap} {K : KV} {fo : Operand} {xs : Array Operand} {ts : Array TypeId} {f : FuncId} {args args' : List AV} {v : AV} {u : Value} {Q : KV}
end
theorem look_shiftH {H0 H : Heap} {id g : Nat} {b : Blk} (h : look H id g = some b) : look (H0 ++ shiftH H0.length H) (id + H0.length) g = some (shiftB H0.length b) := by
  obtain ⟨h1, h2⟩ := look_some h
  have : (H0 ++ shiftH H0.length H)[id + H0.length]? = some (some (shiftB H0.length b)) := by
    rw [List.getElem?_append_right (by omega), Nat.add_sub_cancel]
    simp [shiftH, h1]
  have := look_of this
  simp only [shiftB] at this ⊢
  rw [h2] at this ⊢
  exact this
theorem look_appL {H H' : Heap} {id g : Nat} {b : Blk} (h : look H id g = some b) : look (H ++ H') id g = some b := (HLe.app H H').look h
theorem scalC_shift (k : Nat) (c : CV) : scalC (shiftC k c) = scalC c := by cases c <;> rfl
theorem OwnI.shift {H0 H : Heap} {c : CV} {xs : List Int} {S : List Nat} (h : OwnI H c xs S) : OwnI (H0 ++ shiftH H0.length H) (shiftC H0.length c) xs (S.map (· + H0.length)) := by
  cases h with
  | e => exact .e
  | o id g lim xs ys h =>
    refine .o (id + H0.length) g lim xs ys ?_
    rw [look_shiftH h]
    simp only [shiftB, shift_cl]
theorem OwnI.app {H H' : Heap} {c : CV} {xs : List Int} {S : List Nat} (h : OwnI H c xs S) : OwnI (H ++ H') c xs S := by
  cases h with
  | e => exact .e
  | o id g lim xs ys h => exact .o id g lim xs ys (look_appL h)
def RO.sh (k : Nat) (o : RO) : RO := ⟨o.r, shiftC k o.c, o.i.map (· + k)⟩
theorem kl_sh (k : Nat) (l : List RO) : (kl kR l).map (shiftC k) = kl kR (l.map (RO.sh k)) := by
  simp only [kl, List.map_flatMap, List.flatMap_map]; rfl
theorem OwnR.shift {H0 H : Heap} {c : CV} {rs : List Rul} {S : List Nat} (h : OwnR H c rs S) : OwnR (H0 ++ shiftH H0.length H) (shiftC H0.length c) rs (S.map (· + H0.length)) := by
  cases h with
  | e => exact .e
  | o id g lim l ys h hi hd hy =>
    have := OwnR.o (H := H0 ++ shiftH H0.length H) (id + H0.length) g lim (l.map (RO.sh H0.length)) (ys.map (shiftC H0.length)) (by
      rw [look_shiftH h]
      simp only [shiftB, List.map_append, kl_sh]) (fun o ho => by
      obtain ⟨p, hp, rfl⟩ := List.mem_map.1 ho
      exact (hi p hp).shift) (by
      have e : (id + H0.length) :: (l.map (RO.sh H0.length)).flatMap (·.i) = (id :: l.flatMap (·.i)).map (· + H0.length) := by
        simp only [List.map_cons, List.flatMap_map, List.map_flatMap]; rfl
      rw [e]
      exact List.pairwise_map.2 (hd.imp fun h he => h (by omega))) (fun c hc => by
      obtain ⟨d, hd, rfl⟩ := List.mem_map.1 hc
      rw [scalC_shift]; exact hy d hd)
    simp only [List.length_map, List.map_map, List.flatMap_map] at this
    simp only [shiftC, List.map_cons, List.map_flatMap]
    exact this
theorem OwnR.app {H H' : Heap} {c : CV} {rs : List Rul} {S : List Nat} (h : OwnR H c rs S) : OwnR (H ++ H') c rs S := by
  cases h with
  | e => exact .e
  | o id g lim l ys h hi hd hy => exact .o id g lim l ys (look_appL h) (fun o ho => (hi o ho).app) hd hy
theorem OwnI.frzC {H : Heap} {c : CV} {xs : List Int} {S : List Nat} (h : OwnI H c xs S) : Lg.frzC H c = some (.f (fints xs)) := by
  have := h.frz 5
  cases h with
  | e => rfl
  | o id g lim xs ys h => simp only [Lg.frzC, this, Option.map_some]
theorem OwnR.frzC {H : Heap} {c : CV} {rs : List Rul} {S : List Nat} (h : OwnR H c rs S) : Lg.frzC H c = some (.f (fsl eR rs)) := by
  have := h.frz 4
  cases h with
  | e => rfl
  | o id g lim l ys h hi hd hy => simp only [Lg.frzC, this, Option.map_some]
theorem OwnI.lt {H : Heap} {c : CV} {xs : List Int} {S : List Nat} (h : OwnI H c xs S) : ∀ i ∈ S, i < H.length := by
  cases h with
  | e => simp
  | o id g lim xs ys h => intro i hi; have : i = id := by simpa using hi
                          subst this; exact (List.getElem?_eq_some_iff.1 (look_some h).1).1
theorem OwnR.lt {H : Heap} {c : CV} {xs : List Rul} {S : List Nat} (h : OwnR H c xs S) : ∀ i ∈ S, i < H.length := by
  cases h with
  | e => simp
  | o id g lim l ys h hi hd hy =>
    intro i hm
    rcases List.mem_cons.1 hm with rfl | hm
    · exact (List.getElem?_eq_some_iff.1 (look_some h).1).1
    · obtain ⟨o, ho, hm⟩ := List.mem_flatMap.1 hm
      exact (hi o ho).lt i hm
theorem OwnI.nd {H : Heap} {c : CV} {xs : List Int} {S : List Nat} (h : OwnI H c xs S) : S.Nodup := by cases h <;> simp
theorem OwnR.nd {H : Heap} {c : CV} {xs : List Rul} {S : List Nat} (h : OwnR H c xs S) : S.Nodup := by
  cases h with
  | e => simp
  | o id g lim l ys h hi hd hy => exact hd
structure OwnP (H : Heap) (cs : List CV) (p : Puz) (S : List Nat) : Prop where
  ex : ∃ c1 c2 S1 S2, cs = [.f (.int .i64 p.size), c1, c2] ∧ S = S1 ++ S2 ∧ OwnI H c1 p.given S1 ∧ OwnR H c2 p.rules S2
  nd : S.Nodup
structure OwnG (H : Heap) (cs : List CV) (q : Gam) (S : List Nat) : Prop where
  ex : ∃ c1 c2 c3 c4 S1 S2 S3 S4, cs = [.f (.int .i64 q.task.size), c1, c2, c3, c4] ∧ S = S1 ++ (S2 ++ (S3 ++ S4)) ∧ OwnI H c1 q.task.given S1 ∧ OwnR H c2 q.task.rules S2 ∧ OwnI H c3 q.put S3 ∧ OwnI H c4 q.moves S4
  nd : S.Nodup
theorem OwnP.snap {H : Heap} {cs : List CV} {p : Puz} {S : List Nat} (h : OwnP H cs p S) : snapD H (.agg cs) = some (aP p) := by
  obtain ⟨c1, c2, S1, S2, rfl, _, h1, h2⟩ := h.ex
  simp only [snapD, List.mapM_cons, List.mapM_nil, h1.frzC, h2.frzC, Option.pure_def, Option.bind_eq_bind, Option.bind_some]
  rfl
theorem OwnG.snap {H : Heap} {cs : List CV} {q : Gam} {S : List Nat} (h : OwnG H cs q S) : snapD H (.agg cs) = some (aG q) := by
  obtain ⟨c1, c2, c3, c4, S1, S2, S3, S4, rfl, _, h1, h2, h3, h4⟩ := h.ex
  simp only [snapD, List.mapM_cons, List.mapM_nil, h1.frzC, h2.frzC, h3.frzC, h4.frzC, Option.pure_def, Option.bind_eq_bind, Option.bind_some]
  rfl
theorem nodup_shift {S : List Nat} {k : Nat} (h : S.Nodup) : (S.map (· + k)).Nodup := List.pairwise_map.2 (h.imp fun h he => h (by omega))
theorem OwnP.shift {H0 H : Heap} {cs : List CV} {p : Puz} {S : List Nat} (h : OwnP H cs p S) : OwnP (H0 ++ shiftH H0.length H) (cs.map (shiftC H0.length)) p (S.map (· + H0.length)) := by
  obtain ⟨c1, c2, S1, S2, rfl, rfl, h1, h2⟩ := h.ex
  exact ⟨⟨_, _, _, _, rfl, by simp, h1.shift, h2.shift⟩, nodup_shift h.nd⟩
theorem OwnG.shift {H0 H : Heap} {cs : List CV} {q : Gam} {S : List Nat} (h : OwnG H cs q S) : OwnG (H0 ++ shiftH H0.length H) (cs.map (shiftC H0.length)) q (S.map (· + H0.length)) := by
  obtain ⟨c1, c2, c3, c4, S1, S2, S3, S4, rfl, rfl, h1, h2, h3, h4⟩ := h.ex
  exact ⟨⟨_, _, _, _, _, _, _, _, rfl, by simp, h1.shift, h2.shift, h3.shift, h4.shift⟩, nodup_shift h.nd⟩
theorem OwnP.app {H H' : Heap} {cs : List CV} {p : Puz} {S : List Nat} (h : OwnP H cs p S) : OwnP (H ++ H') cs p S := by
  obtain ⟨c1, c2, S1, S2, rfl, rfl, h1, h2⟩ := h.ex
  exact ⟨⟨_, _, _, _, rfl, rfl, h1.app, h2.app⟩, h.nd⟩
theorem OwnG.app {H H' : Heap} {cs : List CV} {q : Gam} {S : List Nat} (h : OwnG H cs q S) : OwnG (H ++ H') cs q S := by
  obtain ⟨c1, c2, c3, c4, S1, S2, S3, S4, rfl, rfl, h1, h2, h3, h4⟩ := h.ex
  exact ⟨⟨_, _, _, _, _, _, _, _, rfl, rfl, h1.app, h2.app, h3.app, h4.app⟩, h.nd⟩
theorem OwnG.frm {H H' : Heap} {cs : List CV} {q : Gam} {S T : List Nat} (h : OwnG H cs q S) (hf : Frm H H' T) (hd : ∀ i ∈ S, i ∉ T) : OwnG H' cs q S := by
  obtain ⟨c1, c2, c3, c4, S1, S2, S3, S4, rfl, rfl, h1, h2, h3, h4⟩ := h.ex
  refine ⟨⟨_, _, _, _, _, _, _, _, rfl, rfl, h1.frm hf fun i hi => hd i ?_, h2.frm hf fun i hi => hd i ?_, h3.frm hf fun i hi => hd i ?_, h4.frm hf fun i hi => hd i ?_⟩, h.nd⟩ <;> simp [hi]
theorem OwnP.frm {H H' : Heap} {cs : List CV} {p : Puz} {S T : List Nat} (h : OwnP H cs p S) (hf : Frm H H' T) (hd : ∀ i ∈ S, i ∉ T) : OwnP H' cs p S := by
  obtain ⟨c1, c2, S1, S2, rfl, rfl, h1, h2⟩ := h.ex
  refine ⟨⟨_, _, _, _, rfl, rfl, h1.frm hf fun i hi => hd i ?_, h2.frm hf fun i hi => hd i ?_⟩, h.nd⟩ <;> simp [hi]
theorem OwnI.same {H H' : Heap} {c : CV} {xs : List Int} {S : List Nat} (h : OwnI H c xs S) (hs : ∀ i ∈ S, H'[i]? = H[i]?) : OwnI H' c xs S := by
  cases h with
  | e => exact .e
  | o id g lim xs ys h => exact .o id g lim xs ys (by unfold look at *; rw [hs id (by simp)]; exact h)
theorem OwnR.same {H H' : Heap} {c : CV} {rs : List Rul} {S : List Nat} (h : OwnR H c rs S) (hs : ∀ i ∈ S, H'[i]? = H[i]?) : OwnR H' c rs S := by
  cases h with
  | e => exact .e
  | o id g lim l ys h hi hn hy =>
    refine .o id g lim l ys (by unfold look at *; rw [hs id (by simp)]; exact h) (fun o ho => (hi o ho).same fun i hm => hs i ?_) hn hy
    exact List.mem_cons_of_mem _ (List.mem_flatMap.2 ⟨o, ho, hm⟩)
theorem OwnP.same {H H' : Heap} {cs : List CV} {p : Puz} {S : List Nat} (h : OwnP H cs p S) (hs : ∀ i ∈ S, H'[i]? = H[i]?) : OwnP H' cs p S := by
  obtain ⟨c1, c2, S1, S2, rfl, rfl, h1, h2⟩ := h.ex
  exact ⟨⟨_, _, _, _, rfl, rfl, h1.same fun i hi => hs i (by simp [hi]), h2.same fun i hi => hs i (by simp [hi])⟩, h.nd⟩
theorem OwnG.of {H : Heap} {z : Int} {c1 c2 c3 c4 : CV} {p : Puz} {xs ys : List Int} {S1 S2 S3 S4 : List Nat} (h : OwnP H [.f (.int .i64 z), c1, c2] p (S1 ++ S2)) (h3 : OwnI H c3 xs S3) (h4 : OwnI H c4 ys S4) (hn : (S1 ++ (S2 ++ (S3 ++ S4))).Nodup) :
    OwnG H [.f (.int .i64 z), c1, c2, c3, c4] ⟨p, xs, ys⟩ (S1 ++ (S2 ++ (S3 ++ S4))) := by
  obtain ⟨d1, d2, T1, T2, e1, e2, k1, k2⟩ := h.ex
  cases e1
  refine ⟨⟨_, _, _, _, T1, T2, S3, S4, rfl, ?_, k1, k2, h3, h4⟩, hn⟩
  rw [← List.append_assoc, e2, List.append_assoc]
theorem look_last {H : Heap} {g sz : Nat} {cs : List CV} : look (H ++ [some ⟨g, sz, cs⟩]) H.length g = some ⟨g, sz, cs⟩ := look_of (b := ⟨g, sz, cs⟩) (by simp)
theorem OwnP.lt {H : Heap} {cs : List CV} {p : Puz} {S : List Nat} (h : OwnP H cs p S) : ∀ i ∈ S, i < H.length := by
  obtain ⟨c1, c2, S1, S2, rfl, rfl, h1, h2⟩ := h.ex
  intro i hi
  rcases List.mem_append.1 hi with hi | hi
  · exact h1.lt i hi
  · exact h2.lt i hi
theorem OwnG.lt {H : Heap} {cs : List CV} {q : Gam} {S : List Nat} (h : OwnG H cs q S) : ∀ i ∈ S, i < H.length := by
  obtain ⟨c1, c2, c3, c4, S1, S2, S3, S4, rfl, rfl, h1, h2, h3, h4⟩ := h.ex
  intro i hi
  simp only [List.mem_append] at hi
  rcases hi with hi | hi | hi | hi
  · exact h1.lt i hi
  · exact h2.lt i hi
  · exact h3.lt i hi
  · exact h4.lt i hi
section
variable {P : Program} {o : Oper} {st : St} {K : KV} {fo : Operand} {xs : Array Operand} {ts : Array TypeId} {f : FuncId} {args args' : List AV}
end
theorem OwnI.blk {H : Heap} {c : CV} {xs : List Int} {S : List Nat} (h : OwnI H c xs S) : ∀ i ∈ S, ∀ b, H[i]? = some (some b) → ∀ x ∈ b.cs, scalC x = true := by
  cases h with
  | e => simp
  | o id g lim xs ys h =>
    intro i hi b hb x hx
    obtain rfl : i = id := by simpa using hi
    rw [(look_some h).1] at hb
    cases hb
    exact scal_own (g := g) (n := 1) (scalI .i64 (xs ++ ys)) 0 _ rfl x hx
theorem OwnI.scal1 {H : Heap} {c : CV} {xs : List Int} {S : List Nat} (h : OwnI H c xs S) : scalC c = true := by cases h <;> rfl
theorem OwnR.scal1 {H : Heap} {c : CV} {xs : List Rul} {S : List Nat} (h : OwnR H c xs S) : scalC c = true := by cases h <;> rfl
theorem OwnR.blk {H : Heap} {c : CV} {xs : List Rul} {S : List Nat} (h : OwnR H c xs S) : ∀ i ∈ S, ∀ b, H[i]? = some (some b) → ∀ x ∈ b.cs, scalC x = true := by
  cases h with
  | e => simp
  | o id g lim l ys h hi hd hy =>
    intro i hm b hb x hx
    rcases List.mem_cons.1 hm with rfl | hm
    · rw [(look_some h).1] at hb
      cases hb
      rcases List.mem_append.1 hx with hx | hx
      · obtain ⟨o, ho, hx⟩ := List.mem_flatMap.1 hx
        simp only [kR, List.mem_cons, List.not_mem_nil, or_false] at hx
        rcases hx with rfl | rfl | rfl
        · rfl
        · exact (hi o ho).scal1
        · rfl
      · exact hy x hx
    · obtain ⟨o, ho, hm⟩ := List.mem_flatMap.1 hm
      exact (hi o ho).blk i hm b hb x hx
theorem OwnP.blk {H : Heap} {cs : List CV} {p : Puz} {S : List Nat} (h : OwnP H cs p S) : (∀ i ∈ S, ∀ b, H[i]? = some (some b) → ∀ x ∈ b.cs, scalC x = true) ∧ cs.all scalC = true := by
  obtain ⟨c1, c2, S1, S2, rfl, rfl, h1, h2⟩ := h.ex
  refine ⟨fun i hi => ?_, by simp only [List.all_cons, List.all_nil, h1.scal1, h2.scal1, Bool.and_true]; rfl⟩
  rcases List.mem_append.1 hi with hi | hi
  · exact h1.blk i hi
  · exact h2.blk i hi
theorem OwnG.blk {H : Heap} {cs : List CV} {q : Gam} {S : List Nat} (h : OwnG H cs q S) : (∀ i ∈ S, ∀ b, H[i]? = some (some b) → ∀ x ∈ b.cs, scalC x = true) ∧ cs.all scalC = true := by
  obtain ⟨c1, c2, c3, c4, S1, S2, S3, S4, rfl, rfl, h1, h2, h3, h4⟩ := h.ex
  refine ⟨fun i hi => ?_, by simp only [List.all_cons, List.all_nil, h1.scal1, h2.scal1, h3.scal1, h4.scal1, Bool.and_true]; rfl⟩
  simp only [List.mem_append] at hi
  rcases hi with hi | hi | hi | hi
  · exact h1.blk i hi
  · exact h2.blk i hi
  · exact h3.blk i hi
  · exact h4.blk i hi
theorem OwnG.same {H H' : Heap} {cs : List CV} {q : Gam} {S : List Nat} (h : OwnG H cs q S) (hs : ∀ i ∈ S, H'[i]? = H[i]?) : OwnG H' cs q S := by
  obtain ⟨c1, c2, c3, c4, S1, S2, S3, S4, rfl, rfl, h1, h2, h3, h4⟩ := h.ex
  refine ⟨⟨_, _, _, _, _, _, _, _, rfl, rfl, h1.same fun i hi => hs i ?_, h2.same fun i hi => hs i ?_, h3.same fun i hi => hs i ?_, h4.same fun i hi => hs i ?_⟩, h.nd⟩ <;> simp [hi]
section
variable {P : Program} {o : Oper} {st : St} {K : KV} {fo : Operand} {xs : Array Operand} {ts : Array TypeId} {f : FuncId} {args args' : List AV} {q : Gam}
end
theorem OwnI.scal {H : Heap} {c : CV} {xs : List Int} {S : List Nat} (h : OwnI H c xs S) : scalC c = true := by cases h <;> rfl
section
variable {P : Program} {o : Oper} {st : St} {K : KV} {fo : Operand} {xs : Array Operand} {ts : Array TypeId} {f : FuncId} {args args' : List AV} {zs : List Int}
end
theorem OwnI.snap {H : Heap} {c : CV} {xs : List Int} {S : List Nat} (h : OwnI H c xs S) : snapD H (.c c) = some (ints xs) := by
  simp only [snapD, h.frzC, Option.map_some]
theorem fl_if {α β : Type} {E : α → List FV} {n : Nat} [HSz E n] {xs : List α} {x y : β} : (if (fl E xs).length = xs.length * n then x else y) = x := if_pos (fl_length xs)
theorem map_fl {α : Type} {E : α → List FV} {xs : List α} : (fl E xs).map CV.f = cl E xs := rfl
attribute [go_sem] fl_if map_fl
end Go.Lg

set_option maxRecDepth 100000
namespace Go.Lg
mutual
def nzF : FV → FV
  | .nil => .sl 0 []
  | .sl n cs => .sl n (nzL cs)
  | .int k n => .int k n
  | .bool b => .bool b
  | .str s => .str s
def nzL : List FV → List FV
  | [] => []
  | x :: l => nzF x :: nzL l
end
theorem nzL_map : ∀ l : List FV, nzL l = l.map nzF
  | [] => rfl
  | x :: l => by rw [nzL, nzL_map l]; rfl
theorem nzF_sl (n : Nat) (cs : List FV) : nzF (.sl n cs) = .sl n (cs.map nzF) := by rw [nzF, nzL_map]
def frzS (S : Nat → Bool) (H : Heap) : Nat → CV → Option FV
  | _, .f x => some (nzF x)
  | _, .emp => some (.sl 0 [])
  | n + 1, .own id g off k _ => if S id then match look H id g with
    | some b => (((b.cs.drop off).take (k * b.sz)).mapM (frzS S H n)).map (.sl k)
    | none => none else none
  | _, _ => none
section
variable {w : World} {X : Cx} {S : Nat → Bool} {H H' : Heap}
end
def tailS (n : Nat) : Nat → Bool := fun i => decide (n ≤ i)
def Fz (S : Nat → Bool) (H : Heap) (n : Nat) (c : CV) (x : FV) : Prop := ∀ H' : Heap, (∀ i, S i = true → i < H.length → H'[i]? = H[i]?) → ∀ m, n ≤ m → frzS S H' m c = some x
theorem Fz.frz {S : Nat → Bool} {H : Heap} {n : Nat} {c : CV} {x : FV} (h : Fz S H n c x) {m : Nat} (hm : n ≤ m) : frzS S H m c = some x := h H (fun _ _ _ => rfl) m hm
theorem Fz.f {S : Nat → Bool} {H : Heap} {x : FV} (n : Nat) : Fz S H n (.f x) (nzF x) := fun H' _ m _ => by cases m <;> rfl
theorem Fz.emp {S : Nat → Bool} {H : Heap} (n : Nat) : Fz S H n .emp (.sl 0 []) := fun H' _ m _ => by cases m <;> rfl
theorem Fz.mono {S : Nat → Bool} {H H1 : Heap} {n : Nat} {c : CV} {x : FV} (h : Fz S H n c x) (hs : ∀ i, S i = true → i < H.length → H1[i]? = H[i]?) (hl : H.length ≤ H1.length) : Fz S H1 n c x :=
  fun H' k m hm => h H' (fun i hi hil => (k i hi (Nat.lt_of_lt_of_le hil hl)).trans (hs i hi hil)) m hm
theorem Fz.own {S : Nat → Bool} {H : Heap} {n : Nat} {id g k : Nat} {b : Blk} {xs : List FV} {lim : Option Nat} (hS : S id = true) (hl : look H id g = some b) (hlen : xs.length = k * b.sz) (hle : k * b.sz ≤ b.cs.length)
    (hc : ∀ j (h : j < xs.length), ∃ c, b.cs[j]? = some c ∧ Fz S H n c xs[j]) : Fz S H (n + 1) (.own id g 0 k lim) (.sl k xs) := fun H' hh m hm => by
  obtain ⟨m, rfl⟩ : ∃ m', m = m' + 1 := ⟨m - 1, by omega⟩
  have hlt : id < H.length := (List.getElem?_eq_some_iff.1 (look_some hl).1).1
  have hl' : look H' id g = some b := by unfold look at *; rw [hh id hS hlt]; exact hl
  simp only [frzS, hS, if_true, hl', List.drop_zero]
  have : ∀ (cs : List CV) (ys : List FV), cs.length = ys.length → (∀ j (h : j < ys.length), ∃ c, cs[j]? = some c ∧ frzS S H' m c = some ys[j]) → cs.mapM (frzS S H' m) = some ys := by
    intro cs
    induction cs with
    | nil => intro ys h _; have : ys = [] := List.eq_nil_of_length_eq_zero h.symm; subst this; rfl
    | cons c cs ih =>
      intro ys h hall
      cases ys with
      | nil => simp at h
      | cons y ys =>
        obtain ⟨c0, h0, h1⟩ := hall 0 (by simp)
        have : c = c0 := by simpa using h0
        subst this
        rw [List.mapM_cons, h1, ih ys (by simpa using h) fun j hj => by
          obtain ⟨c', q1, q2⟩ := hall (j + 1) (by simpa using hj)
          exact ⟨c', by simpa using q1, by simpa using q2⟩]
        rfl
  rw [this _ xs (by rw [List.length_take]; omega) fun j hj => ?_]
  · rfl
  · obtain ⟨c, h1, h2⟩ := hc j hj
    exact ⟨c, by rw [List.getElem?_take_of_lt (by omega)]; exact h1, h2 H' hh m (by omega)⟩
def headN : Nat → Code → Code
  | n + 1, .seq x y => .seq x (headN n y)
  | _, _ => .skip
def tailN : Nat → Code → Code
  | n + 1, .seq _ y => tailN n y
  | _, c => c
theorem headN_zero (c : Code) : headN 0 c = .skip := by cases c <;> rfl
theorem headN_seq (n : Nat) (x y : Code) : headN (n + 1) (.seq x y) = .seq x (headN n y) := rfl
theorem tailN_zero (c : Code) : tailN 0 c = c := by cases c <;> rfl
theorem tailN_seq (n : Nat) (x y : Code) : tailN (n + 1) (.seq x y) = tailN n y := rfl
def midK (R : KS) (K : KT) : KT := fun e s H => match e with
  | .normal => R s H
  | e => K e s H
theorem midK_normal (R : KS) (K : KT) (s : List AV) (H : Heap) : midK R K .normal s H = R s H := propext Iff.rfl
theorem midK_ret (R : KS) (K : KT) (s : List AV) (H : Heap) : midK R K .ret s H = K .ret s H := propext Iff.rfl
theorem midK_exit (R : KS) (K : KT) (i : Nat) (s : List AV) (H : Heap) : midK R K (.exit i) s H = K (.exit i) s H := propext Iff.rfl
theorem RunC.split {P : Program} {R : KS} {K : KT} : ∀ (n : Nat) (c : Code) (s : List AV) (H : Heap), cw P (headN n c) s H (midK R K) → (∀ s H, R s H → RunC P (tailN n c) ⟨s, H⟩ (stK K)) → RunC P c ⟨s, H⟩ (stK K)
  | 0, c, s, H, h, k => by
    rw [headN_zero] at h
    rw [← tailN_zero c]
    exact k s H h
  | n + 1, c, s, H, h, k => by
    cases c with
    | seq x y =>
      refine RunC.seq ((cw_sound x s H _ h).mono fun e st hq => ?_)
      cases e with
      | normal => exact RunC.split n y st.s st.h hq k
      | _ => exact hq
    | _ => exact k s H h
attribute [go_sem] headN_zero headN_seq tailN_zero tailN_seq midK_normal midK_ret midK_exit
end Go.Lg

namespace Go.Lg
open Go.Proofs
def RdAt (H : Heap) (id g : Nat) (B : Int) : Prop := ∃ (sz : Nat) (b : List Int) (p : Int), look H id g = some ⟨g, sz, [.f (.sl b.length (fl (eI .u8) b)), .f (.int .i64 p)]⟩ ∧ b.length ≤ 2000 ∧ (∀ x ∈ b, 0 ≤ x ∧ x ≤ 255) ∧ 0 ≤ p ∧ p ≤ B
theorem RdAt.mono {H : Heap} {id g : Nat} {B B' : Int} (h : RdAt H id g B) (hb : B ≤ B') : RdAt H id g B' := by
  obtain ⟨sz, b, p, h1, h2, h3, h4, h5⟩ := h
  exact ⟨sz, b, p, h1, h2, h3, h4, by omega⟩
theorem RdAt.same {H H' : Heap} {id g : Nat} {B : Int} (h : RdAt H id g B) (hs : H'[id]? = H[id]?) : RdAt H' id g B := by
  obtain ⟨sz, b, p, h1, h2⟩ := h
  exact ⟨sz, b, p, by unfold look at *; rw [hs]; exact h1, h2⟩
theorem RdAt.lt {H : Heap} {id g : Nat} {B : Int} (h : RdAt H id g B) : id < H.length := by
  obtain ⟨sz, b, p, h1, _⟩ := h
  exact (List.getElem?_eq_some_iff.1 (look_some h1).1).1
theorem look_set_eq' {H : Heap} {id g sz : Nat} {cs : List CV} (h : id < H.length) : look (H.set id (some ⟨g, sz, cs⟩)) id g = some ⟨g, sz, cs⟩ := look_of (b := ⟨g, sz, cs⟩) (by rw [List.getElem?_set_self h])
theorem RdAt.take {H : Heap} {id g n : Nat} {B : Int} (h : RdAt H id g B) (hn : id < n) : RdAt (H.take n) id g B := h.same (by rw [List.getElem?_take_of_lt hn])
theorem RdAt.app {H X : Heap} {id g : Nat} {B : Int} (h : RdAt H id g B) : RdAt (H ++ X) id g B := h.same (by rw [List.getElem?_append_left h.lt])
theorem Frm.last {H H2 : Heap} {id sz gb : Nat} {cs : List CV} (f : Frm (H ++ [some ⟨gb, sz, cs⟩]) H2 [id]) (hid : id < H.length) : Lg.look H2 H.length gb = some ⟨gb, sz, cs⟩ := by
  rw [f.look (by simp; omega)]; exact look_last
end Go.Lg

namespace Go.Lg
open Go.Proofs
theorem nth_setN (l : List Int) (i : Nat) (v : Int) (k : Nat) (h : i < l.length) : nth (l.set i v) (k : Int) = if k = i then v else nth l k := by
  rw [nth_set _ _ _ _ h (by omega)]
  by_cases hk : k = i
  · rw [if_pos (by omega), if_pos hk]
  · rw [if_neg (by omega), if_neg hk]
end Go.Lg

namespace Go.Lg
open Go.Proofs
section
variable {P : Program} {o : Oper} {st : St} {K : KV} {fo : Operand} {xs : Array Operand} {ts : Array TypeId} {f : FuncId} {args args' : List AV} {zs : List Int}
end
def GrdAt (H HI : Heap) (id g : Nat) (B : Int) (cid cg n2 : Nat) : Prop := (∃ zs : List Int, look HI cid cg = some ⟨cg, 1, cl (eI .i64) zs⟩ ∧ n2 ≤ zs.length) ∧ RdAt HI id g B ∧ id < H.length ∧ H.length ≤ cid ∧ H.length ≤ HI.length ∧ ∀ k, k < H.length → k ≠ id → HI[k]? = H[k]?
theorem GrdAt.mono {H HI : Heap} {id g cid cg n2 : Nat} {B B' : Int} (h : GrdAt H HI id g B cid cg n2) (hb : B ≤ B') : GrdAt H HI id g B' cid cg n2 := by
  obtain ⟨h1, h2, h3⟩ := h
  exact ⟨h1, h2.mono hb, h3⟩
theorem GrdAt.pick {H HI H2 : Heap} {id g cid cg n2 : Nat} {B B' : Int} (h : GrdAt H HI id g B cid cg n2) (hr : RdAt H2 id g B') (hf : Frm HI H2 [id]) : GrdAt H H2 id g B' cid cg n2 := by
  obtain ⟨⟨zs, h1, h2⟩, _, h3, h4, h5, h6⟩ := h
  refine ⟨⟨zs, by rw [hf.look (by simp; omega)]; exact h1, h2⟩, hr, h3, h4, by rw [hf.1]; exact h5, fun k hk hne => ?_⟩
  rw [hf.2 k (by simp; exact hne), h6 k hk hne]
theorem GrdAt.store {H HI : Heap} {id g cid cg n2 : Nat} {B : Int} (h : GrdAt H HI id g B cid cg n2) {zs : List Int} (hz : n2 ≤ zs.length) : GrdAt H (HI.set cid (some ⟨cg, 1, cl (eI .i64) zs⟩)) id g B cid cg n2 := by
  obtain ⟨⟨_, h1, _⟩, h2, h3, h4, h5, h6⟩ := h
  have hlt : cid < HI.length := (List.getElem?_eq_some_iff.1 (look_some h1).1).1
  refine ⟨⟨zs, look_set_eq' hlt, hz⟩, h2.same (by rw [List.getElem?_set_ne (by omega)]), h3, h4, by simpa using h5, fun k hk hne => ?_⟩
  rw [List.getElem?_set_ne (by omega), h6 k hk hne]
theorem GrdAt.app {H HI X : Heap} {id g cid cg n2 : Nat} {B : Int} (h : GrdAt H HI id g B cid cg n2) : GrdAt H (HI ++ X) id g B cid cg n2 := by
  obtain ⟨⟨zs, h1, h2⟩, h3, h4, h5, h6, h7⟩ := h
  refine ⟨⟨zs, look_appL h1, h2⟩, h3.app, h4, h5, by rw [List.length_append]; omega, fun k hk hne => ?_⟩
  rw [List.getElem?_append_left (by omega), h7 k hk hne]
theorem frz_view {H : Heap} {id g off n : Nat} {lim : Option Nat} {zs : List Int} (h : look H id g = some ⟨g, 1, cl (eI .i64) zs⟩) (hn : off + n ≤ zs.length) : frzC H (.own id g off n lim) = some (.f (fints ((zs.drop off).take n))) := by
  have e : ((cl (eI .i64) zs).drop off).take (n * 1) = cl (eI .i64) ((zs.drop off).take n) := by
    have e1 : (cl (eI .i64) zs).drop off = cl (eI .i64) (zs.drop off) := by
      have := List.take_append_drop off zs
      conv => lhs; rw [← this, cl_append]
      rw [List.drop_append_of_le_length (by rw [cl_length]; simp; omega), List.drop_of_length_le (by rw [cl_length]; simp; omega), List.nil_append]
    rw [e1, Nat.mul_one]
    have := List.take_append_drop n (zs.drop off)
    conv => lhs; rw [← this, cl_append]
    rw [List.take_append_of_le_length (by rw [cl_length]; simp; omega), List.take_of_length_le (by rw [cl_length]; simp; omega)]
  have hl : ((zs.drop off).take n).length = n := by simp; omega
  simp only [frzC, frz, h, e, frz_cl, Option.map_some]
  rw [show fints ((zs.drop off).take n) = .sl ((zs.drop off).take n).length (fl (eI .i64) ((zs.drop off).take n)) from rfl, hl]
end Go.Lg

namespace Go.Lg
open Go.Proofs
attribute [-go_sem] appendM
inductive OwnL {α : Type} (E : α → List FV) (n : Nat) (H : Heap) : CV → List α → Prop where
  | n : OwnL E n H (.f .nil) []
  | m : OwnL E n H .emp []
  | o (id g : Nat) (xs : List α) (h : look H id g = some ⟨g, n, cl E xs⟩) : OwnL E n H (.own id g 0 xs.length none) xs
def idsC : CV → Nat → Prop
  | .own id _ _ _ _, k => k = id
  | _, _ => False
section
variable {α : Type} {E : α → List FV} {n : Nat} {H H' : Heap} {c : CV} {xs ys : List α}
theorem OwnL.same (h : OwnL E n H c xs) (hs : ∀ i, idsC c i → i < H.length → H'[i]? = H[i]?) : OwnL E n H' c xs := by
  cases h with
  | n => exact .n
  | m => exact .m
  | o id g xs h => exact .o id g xs (by unfold look at *; rw [hs id rfl (List.getElem?_eq_some_iff.1 (look_some h).1).1]; exact h)
theorem OwnL.lt (h : OwnL E n H c xs) : ∀ i, idsC c i → i < H.length := by
  cases h with
  | n => exact fun i hi => hi.elim
  | m => exact fun i hi => hi.elim
  | o id g xs h => intro i hi; cases hi; exact (List.getElem?_eq_some_iff.1 (look_some h).1).1
theorem OwnL.app (h : OwnL E n H c xs) : OwnL E n (H ++ H') c xs := h.same fun i _ hl => List.getElem?_append_left hl
theorem OwnL.snap [HSz E n] (h : OwnL E n H c xs) : snapD H (.c c) = some (rsl E xs) := by
  cases h with
  | n => rfl
  | m => rfl
  | o id g xs h =>
    have e : (cl E xs).take (xs.length * n) = cl E xs := List.take_of_length_le (Nat.le_of_eq (cl_length xs))
    simp only [snapD, Lg.frzC, Lg.frz, h, List.drop_zero, e, frz_cl, Option.map_some]
theorem OwnL.frzC [HSz E n] (h : OwnL E n H c xs) : frzC H c = some (.f (fsl E xs)) := by
  have := h.snap
  simp only [snapD, Option.map_eq_some_iff] at this
  obtain ⟨y, h1, h2⟩ := this
  cases h2
  exact h1
theorem OwnL.len (P : Program) (h : OwnL E n H c xs) {s : List AV} {t : TypeId} {ei : TI} (ht : sliceOf P t = some ei) (hs : ei.size = n) : True := trivial
end
theorem nzF_ints {k : IntKind} (xs : List Int) : (fl (eI k) xs).map nzF = fl (eI k) xs := by
  induction xs with
  | nil => rfl
  | cons x xs ih => 
    show nzF _ :: (fl (eI k) xs).map nzF = _
    rw [ih]; rfl
theorem nzF_rules (rs : List Rul) : (fl eR rs).map nzF = fl eR rs := by
  induction rs with
  | nil => rfl
  | cons x xs ih =>
    show [nzF _, nzF _, nzF _] ++ (fl eR xs).map nzF = _
    rw [ih, fints, nzF_sl, nzF_ints]; rfl
theorem frzS_cells {S : Nat → Bool} {H : Heap} {n : Nat} : ∀ (l : List FV), (l.map CV.f).mapM (frzS S H n) = some (l.map nzF)
  | [] => rfl
  | x :: l => by
    rw [List.map_cons, List.mapM_cons, frzS_cells l]
    cases n <;> rfl
theorem OwnL.frzS {S : Nat → Bool} {H : Heap} {c : CV} {rs : List Rul} (h : OwnL eR 3 H c rs) (hs : ∀ i, idsC c i → S i = true) (m : Nat) : frzS S H (m + 1) c = some (fsl eR rs) := by
  cases h with
  | n => rfl
  | m => rfl
  | o id g xs h =>
    have e : (cl eR rs).take (rs.length * 3) = cl eR rs := List.take_of_length_le (Nat.le_of_eq (cl_length rs))
    simp only [Lg.frzS, hs id rfl, if_true, h, List.drop_zero, e]
    rw [show cl eR rs = (fl eR rs).map CV.f from rfl, frzS_cells, nzF_rules]
    rfl
theorem frzS_view {S : Nat → Bool} {H : Heap} {id g off n : Nat} {lim : Option Nat} {zs : List Int} (h : look H id g = some ⟨g, 1, cl (eI .i64) zs⟩) (hs : S id = true) (hn : off + n ≤ zs.length) (m : Nat) : Lg.frzS S H (m + 1) (.own id g off n lim) = some (fints ((zs.drop off).take n)) := by
  have hv := frz_view (lim := lim) h hn
  have hl : ((zs.drop off).take n).length = n := by simp; omega
  simp only [frzC, frz, h, Option.map_map, Option.map_eq_some_iff] at hv
  obtain ⟨l, h1, h2⟩ := hv
  simp only [Lg.frzS, hs, if_true, h]
  have e : ((cl (eI .i64) zs).drop off).take (n * 1) = cl (eI .i64) ((zs.drop off).take n) := by
    have e1 : (cl (eI .i64) zs).drop off = cl (eI .i64) (zs.drop off) := by
      have := List.take_append_drop off zs
      conv => lhs; rw [← this, cl_append]
      rw [List.drop_append_of_le_length (by rw [cl_length]; simp; omega), List.drop_of_length_le (by rw [cl_length]; simp; omega), List.nil_append]
    rw [e1, Nat.mul_one]
    have := List.take_append_drop n (zs.drop off)
    conv => lhs; rw [← this, cl_append]
    rw [List.take_append_of_le_length (by rw [cl_length]; simp; omega), List.take_of_length_le (by rw [cl_length]; simp; omega)]
  rw [e, show cl (eI .i64) ((zs.drop off).take n) = (fl (eI .i64) ((zs.drop off).take n)).map CV.f from rfl, frzS_cells, nzF_ints, Option.map_some]
  rw [show fints ((zs.drop off).take n) = .sl ((zs.drop off).take n).length (fl (eI .i64) ((zs.drop off).take n)) from rfl, hl]
theorem elems_f {α : Type} {E : α → List FV} {n : Nat} [HSz E n] {H : Heap} {ys : List α} : elems H n (.c (.f (fsl E ys))) = some (ys.length, cl E ys) := by
  have : (fl E ys).length = ys.length * n := fl_length ys
  simp only [elems]
  first | rfl | simp [this, cl]
end Go.Lg

namespace Go.Lg
attribute [-go_sem] appendM
inductive OwnE (H : Heap) : CV → List Int → List Nat → Prop where
  | m : OwnE H .emp [] []
  | o (id g : Nat) (xs : List Int) (h : look H id g = some ⟨g, 1, cl (eI .i64) xs⟩) : OwnE H (.own id g 0 xs.length none) xs [id]
theorem OwnE.frzC {H : Heap} {c : CV} {xs : List Int} {S : List Nat} (h : OwnE H c xs S) : Lg.frzC H c = some (.f (fints xs)) := by
  cases h with
  | m => rfl
  | o id g xs h => exact (OwnI.o id g none xs [] (by rw [List.append_nil]; exact h)).frzC
theorem OwnE.same {H H' : Heap} {c : CV} {xs : List Int} {S : List Nat} (h : OwnE H c xs S) (hs : ∀ i ∈ S, H'[i]? = H[i]?) : OwnE H' c xs S := by
  cases h with
  | m => exact .m
  | o id g xs h => exact .o id g xs (by unfold look at *; rw [hs id (by simp)]; exact h)
theorem OwnE.shift {H0 H : Heap} {c : CV} {xs : List Int} {S : List Nat} (h : OwnE H c xs S) : OwnE (H0 ++ shiftH H0.length H) (shiftC H0.length c) xs (S.map (· + H0.length)) := by
  cases h with
  | m => exact .m
  | o id g xs h =>
    refine .o (id + H0.length) g xs ?_
    rw [look_shiftH h]
    simp only [shiftB, shift_cl]
theorem OwnE.lt {H : Heap} {c : CV} {xs : List Int} {S : List Nat} (h : OwnE H c xs S) : ∀ i ∈ S, i < H.length := by
  cases h with
  | m => simp
  | o id g xs h => intro i hi; have : i = id := by simpa using hi
                   subst this; exact (List.getElem?_eq_some_iff.1 (look_some h).1).1
theorem OwnE.nd {H : Heap} {c : CV} {xs : List Int} {S : List Nat} (h : OwnE H c xs S) : S.Nodup := by cases h <;> simp
theorem OwnE.inv {H : Heap} {c : CV} {xs : List Int} {S : List Nat} (h : OwnE H c xs S) (hn : xs ≠ []) : ∃ id g, c = .own id g 0 xs.length none ∧ S = [id] ∧ look H id g = some ⟨g, 1, cl (eI .i64) xs⟩ := by
  cases h with
  | m => exact absurd rfl hn
  | o id g xs h => exact ⟨id, g, rfl, rfl, h⟩
end Go.Lg

namespace Go.Lg
open Go.Proofs
attribute [-go_sem] appendM lwF_cons
theorem look_set_ne' {H : Heap} {id j g : Nat} {x : Option Blk} (h : id ≠ j) : look (H.set id x) j g = look H j g := by
  unfold look; rw [List.getElem?_set_ne h]
theorem resV_none (P : Program) (s : List AV) (H : Heap) : resV P s H [] = some (.tup []) := rfl
attribute [go_sem] resV_none
end Go.Lg
