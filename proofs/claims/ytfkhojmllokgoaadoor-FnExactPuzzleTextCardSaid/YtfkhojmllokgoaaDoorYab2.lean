/- LgV, LgX, cut to what is needed. -/
import Derived.Test.YtfkhojmllokgoaaDoorYab1
import Derived.Test.YtfkhojmllokgoaaDoorYab0
open Nat renaming reduceAdd → zA, reduceMul → zM, reduceSub → zS, reduceEqDiff → zE, reduceLeDiff → zL
set_option linter.unusedSimpArgs false
set_option linter.unusedVariables false
namespace Go.Lg
open Go.ChangeShapes Go.WideShapes Go.ChangeAt Go.RowKit
def CsF (w : World) (I : Nat → Prop) (ys : List FV) (cs : List Value) : Prop :=
  ys.length = cs.length ∧ ∀ j (h : j < ys.length), ∃ u, cs[j]? = some u ∧ VF w I ys[j] u
section
variable {w : World} {I : Nat → Prop}
theorem CsF.nil : CsF w I [] [] := ⟨rfl, fun j h => absurd h (Nat.not_lt_zero _)⟩
theorem CsF.one {y : FV} {v : Value} (h : VF w I y v) : CsF w I [y] [v] := ⟨rfl, fun j hj => by
  have : j = 0 := by simpa using hj
  subst this; exact ⟨v, rfl, h⟩⟩
theorem CsF.app {ys ys' : List FV} {cs cs' : List Value} (h : CsF w I ys cs) (h' : CsF w I ys' cs') : CsF w I (ys ++ ys') (cs ++ cs') := by
  refine ⟨by simp [h.1, h'.1], fun j hj => ?_⟩
  by_cases hl : j < ys.length
  · obtain ⟨u, h1, h2⟩ := h.2 j hl
    refine ⟨u, by rw [List.getElem?_append_left (by rw [← h.1]; exact hl)]; exact h1, ?_⟩
    rw [List.getElem_append_left hl]; exact h2
  · have hj' : j - ys.length < ys'.length := by simp at hj; omega
    obtain ⟨u, h1, h2⟩ := h'.2 _ hj'
    refine ⟨u, by rw [List.getElem?_append_right (by rw [← h.1]; omega), ← h.1]; exact h1, ?_⟩
    rw [List.getElem_append_right (by omega)]; exact h2
end
def Shp (P : Program) : Nat → TypeId → List FV → Prop
  | 0, _, _ => False
  | n + 1, t, ys => match P.underlying t with
    | some (.int k) => ∃ x, ys = [.int k x] ∧ (Lit.int k x).wf = true
    | some .bool => ∃ b, ys = [.bool b]
    | some .string => ∃ s : List UInt8, ys = [.str (bs s)] ∧ s.length ≤ 9223372036854775807
    | some (.slice e) => ∃ es : List (List FV), ys = [.sl es.length es.flatten] ∧ es.length ≤ 9223372036854775807 ∧ ∀ x ∈ es, Shp P n e x
    | some (.struct fs) => ∃ es : List (List FV), ys = es.flatten ∧ es.length = fs.size ∧ ∀ (i : Nat) (f : Field), fs[i]? = some f → ∃ x, es[i]? = some x ∧ Shp P n f.type x
    | _ => False
def contigB (P : Program) (tot : Nat) : Nat → List Field → Bool
  | o, [] => o == tot
  | o, f :: fs => f.offset == o && contigB P tot (o + P.cellsOf f.type) fs
def plainT (P : Program) : Nat → TypeId → Bool
  | 0, _ => false
  | n + 1, t => match P.underlying t with
    | some (.int _) => true
    | some .bool => true
    | some .string => true
    | some (.slice e) => decide (0 < P.cellsOf e) && plainT P n e
    | some (.struct fs) => contigB P (P.cellsOf t) 0 fs.toList && fs.toList.all fun f => plainT P n f.type
    | _ => false
theorem cell_plain {W : World} {a : Addr} {i : Nat} (hi : i = 0) {u : Value} (h : W.cell? ((a.add i).add 0) = some u) : a.spot = none := by
  simp only [World.cell?] at h
  split at h
  · split at h
    · cases h
    · rename_i hsp
      have : ((a.add i).add 0).spot = none := by simpa using hsp
      obtain ⟨b, o, sp⟩ := a
      cases sp with
      | none => rfl
      | some s => exfalso; revert this; unfold Addr.add; simp [hi]
  · cases h
section
variable {H : Type} {enc : TypeId × Value → H} {P : Program} {W : World}
theorem read_all : ∀ (n fuel : Nat) (t : TypeId) (cs : List Value) (x : DataW H × List MemPlace), plainT P n t = true → DataW.trod enc P W 0 (fun _ => true) true fuel t cs = some x →
    ∃ ys, CsF W (Cx.base W).I ys cs ∧ Shp P n t ys := by
  intro n
  induction n with
  | zero => intro fuel t cs x hp; simp [plainT] at hp
  | succ n ih =>
    intro fuel t cs x hp h
    unfold plainT at hp
    split at hp
    · rename_i k hu
      obtain ⟨m, rfl, rfl, hw⟩ := DataW.trod_int hu h
      exact ⟨[.int k m], CsF.one (VF.int k m), by unfold Shp; rw [hu]; exact ⟨m, rfl, hw⟩⟩
    · rename_i hu
      obtain ⟨b, rfl, rfl⟩ := DataW.trod_bool hu h
      exact ⟨[.bool b], CsF.one (VF.bool b), by unfold Shp; rw [hu]; exact ⟨b, rfl⟩⟩
    · rename_i hu
      obtain ⟨s, rfl, rfl, hs⟩ := DataW.trod_string hu h
      have e : bs s.data.toList = s := by simp [bs]
      exact ⟨[.str s], CsF.one (VF.str s), by unfold Shp; rw [hu]; exact ⟨s.data.toList, by rw [e], str_len hs⟩⟩
    · rename_i e hu
      simp only [Bool.and_eq_true, decide_eq_true_eq] at hp
      rcases DataW.trod_slice hu h with ⟨rfl, rfl⟩ | ⟨a, len, cap, elems, rest, m, rfl, rfl, rfl, hb, hl, hm, hlen, hel, _, _⟩
      · exact ⟨[.sl 0 []], CsF.one (VF.sl0 none 0), by unfold Shp; rw [hu]; exact ⟨[], rfl, by simp, by simp⟩⟩
      · have each : ∀ i, i < len → ∃ cs', W.cells? 0 (a.add (i * P.cellsOf e)) (P.cellsOf e) = some cs' ∧ ∃ ys, CsF W (Cx.base W).I ys cs' ∧ Shp P n e ys := by
          intro i hi
          have h1 := hel i hi
          rw [List.getElem?_eq_getElem (by omega)] at h1
          obtain ⟨cs', h2, h3⟩ := Option.bind_eq_some_iff.1 h1
          exact ⟨cs', h2, ih _ _ _ _ hp.2 h3⟩
        have hml : len ≤ 9223372036854775807 := by
          have : maxLen ≤ 9223372036854775807 := by decide
          omega
        by_cases h0 : len = 0
        · subst h0
          exact ⟨[.sl 0 []], CsF.one (VF.sl0 _ _), by unfold Shp; rw [hu]; exact ⟨[], rfl, by simp, by simp⟩⟩
        obtain ⟨b, o, sp⟩ := a
        have hsp : sp = none := by
          obtain ⟨cs', h2, ys, h3, h4⟩ := each 0 (by omega)
          obtain ⟨_, h5, h6⟩ := World.cells?_some h2
          have h7 := h6 0 hp.1
          rw [List.getElem?_eq_getElem (by omega)] at h7
          exact cell_plain (a := ⟨b, o, sp⟩) (Nat.zero_mul _) h7
        subst hsp
        have build : ∀ k, k ≤ len → ∃ es : List (List FV), es.length = k ∧ (∀ x ∈ es, Shp P n e x) ∧ es.flatten.length = k * P.cellsOf e ∧
            ∀ j (h : j < es.flatten.length), ∃ u, W.cell? ⟨b, o + j, none⟩ = some u ∧ VF W (Cx.base W).I es.flatten[j] u := by
          intro k
          induction k with
          | zero => intro _; exact ⟨[], rfl, by simp, by simp, fun j hj => absurd hj (by simp)⟩
          | succ k ihk =>
            intro hk
            obtain ⟨es, e1, e2, e3, e4⟩ := ihk (by omega)
            obtain ⟨cs', h2, ys, h3, h4⟩ := each k (by omega)
            obtain ⟨_, h5, h6⟩ := World.cells?_some h2
            have hys : ys.length = P.cellsOf e := by rw [h3.1, h5]
            refine ⟨es ++ [ys], by simp [e1], fun x hx => ?_, ?_, fun j hj => ?_⟩
            · rcases List.mem_append.1 hx with hx | hx
              · exact e2 x hx
              · have : x = ys := by simpa using hx
                subst this; exact h4
            · simp only [List.flatten_append, List.length_append, e3, List.flatten_cons, List.flatten_nil, List.append_nil, hys, Nat.add_mul, Nat.one_mul]
            · have hfl : (es ++ [ys]).flatten = es.flatten ++ ys := by simp
              by_cases hjl : j < es.flatten.length
              · obtain ⟨u, k1, k2⟩ := e4 j hjl
                refine ⟨u, k1, ?_⟩
                have : (es ++ [ys]).flatten[j] = es.flatten[j] := by simp only [hfl]; exact List.getElem_append_left hjl
                rw [this]; exact k2
              · have hj' : j - es.flatten.length < ys.length := by
                  have : j < (es.flatten ++ ys).length := by rw [← hfl]; exact hj
                  rw [List.length_append] at this; omega
                obtain ⟨u, k1, k2⟩ := h3.2 _ hj'
                have h8 := h6 (j - es.flatten.length) (by omega)
                rw [add_plain, add_plain, k1] at h8
                refine ⟨u, ?_, ?_⟩
                · rw [show o + k * P.cellsOf e + (j - es.flatten.length) = o + j by omega] at h8
                  exact h8
                · have : (es ++ [ys]).flatten[j] = ys[j - es.flatten.length] := by simp only [hfl]; exact List.getElem_append_right (by omega)
                  rw [this]; exact k2
        obtain ⟨es, e1, e2, e3, e4⟩ := build len (Nat.le_refl _)
        have hI : (Cx.base W).I b := by
          obtain ⟨u, k1, _⟩ := e4 0 (by rw [e3]; exact Nat.mul_pos (by omega) hp.1)
          exact World.block_lt_of_cell? W _ k1
        refine ⟨[.sl es.length es.flatten], CsF.one ?_, by unfold Shp; rw [hu]; exact ⟨es, rfl, by omega, e2⟩⟩
        rw [e1]
        refine VF.sl len es.flatten b o cap (fun j => (W.cell? ⟨b, o + j, none⟩).getD undef) hl hI (fun j hj => ?_) (fun j hj => ?_)
        · obtain ⟨u, k1, _⟩ := e4 j hj
          rw [k1]; rfl
        · obtain ⟨u, k1, k2⟩ := e4 j hj
          simp only [k1, Option.getD_some]; exact k2
    · rename_i fs hu
      simp only [Bool.and_eq_true, List.all_eq_true] at hp
      obtain ⟨xs, m, rfl, rfl, hl, hlen, hf⟩ := DataW.trod_struct hu h
      have go : ∀ (l : List Field) (o : Nat), contigB P (P.cellsOf t) o l = true → (∀ (i : Nat) (f : Field), l[i]? = some f → plainT P n f.type = true ∧ ∃ y, DataW.trod enc P W 0 (fun _ => true) true m f.type ((cs.drop f.offset).take (P.cellsOf f.type)) = some y) →
          ∃ es : List (List FV), CsF W (Cx.base W).I es.flatten (cs.drop o) ∧ es.length = l.length ∧ ∀ (i : Nat) (f : Field), l[i]? = some f → ∃ x, es[i]? = some x ∧ Shp P n f.type x := by
        intro l
        induction l with
        | nil =>
          intro o ho _
          simp only [contigB, beq_iff_eq] at ho
          refine ⟨[], ?_, rfl, fun i f hi => by simp at hi⟩
          rw [List.drop_eq_nil_of_le (by omega)]; exact CsF.nil
        | cons f l ihl =>
          intro o ho hall
          simp only [contigB, Bool.and_eq_true, beq_iff_eq] at ho
          obtain ⟨es, k1, k2, k3⟩ := ihl _ ho.2 fun i f' hi => hall (i + 1) f' hi
          obtain ⟨hp0, y, hy⟩ := hall 0 f rfl
          obtain ⟨ys, q1, q2⟩ := ih _ _ _ _ hp0 hy
          rw [ho.1] at q1
          refine ⟨ys :: es, ?_, by simp [k2], fun i f' hi => ?_⟩
          · have : cs.drop o = (cs.drop o).take (P.cellsOf f.type) ++ cs.drop (o + P.cellsOf f.type) := by
              rw [← List.drop_drop, List.take_append_drop]
            rw [this]
            exact q1.app k1
          · cases i with
            | zero =>
              have : f = f' := by simpa using hi
              subst this
              exact ⟨ys, rfl, q2⟩
            | succ i => exact k3 i f' hi
      obtain ⟨es, k1, k2, k3⟩ := go fs.toList 0 hp.1 fun i f hi => by
        have hi' : fs[i]? = some f := by simpa using hi
        refine ⟨hp.2 f (List.mem_of_getElem? hi), ?_⟩
        have := hf i f hi'
        have hlt : i < xs.length := by rw [hlen]; exact (Array.getElem?_eq_some_iff.1 hi').1
        rw [List.getElem?_eq_getElem hlt] at this
        exact ⟨_, this⟩
      refine ⟨es.flatten, by simpa using k1, ?_⟩
      unfold Shp; rw [hu]
      exact ⟨es, rfl, by simpa using k2, fun i f hi => k3 i f (by simpa using hi)⟩
    · cases hp
theorem read_one {t : TypeId} {v : Value} {d : DataW H} {ps : List MemPlace} (n : Nat) (hp : plainT P n t = true) (h : DataW.Trod enc P W 0 (fun _ => true) true t v d ps) :
    ∃ ys, CsF W (Cx.base W).I ys v.cells.toList ∧ Shp P n t ys := by
  obtain ⟨fuel, hf⟩ := h
  exact read_all n fuel t _ _ hp hf
theorem CsF.agg {ys : List FV} {cs : Array Value} (h : CsF W (Cx.base W).I ys cs.toList) : VA W (Cx.base W) [] (.agg (ys.map .f)) (.agg cs) := by
  refine .agg _ _ (by simpa using h.1.symm) fun j hj => ?_
  have hj' : j < ys.length := by simpa using hj
  obtain ⟨u, h1, h2⟩ := h.2 j hj'
  refine ⟨u, by simpa using h1, ?_⟩
  rw [List.getElem_map]; exact h2
theorem CsF.val {y : FV} {v : Value} (h : CsF W (Cx.base W).I [y] [v]) : VA W (Cx.base W) [] (.c (.f y)) v := by
  obtain ⟨u, h1, h2⟩ := h.2 0 (by simp)
  have : v = u := by simpa using h1
  subst this
  exact .c _ _ h2
theorem shp_list {α : Type} {E : α → List FV} {F : α → Prop} : ∀ {es : List (List FV)}, (∀ x ∈ es, ∃ a, x = E a ∧ F a) → ∃ xs : List α, es.length = xs.length ∧ es.flatten = fl E xs ∧ ∀ a ∈ xs, F a
  | [], _ => ⟨[], rfl, rfl, by simp⟩
  | x :: es, h => by
    obtain ⟨a, rfl, h1⟩ := h x (by simp)
    obtain ⟨xs, h2, h3, h4⟩ := shp_list (es := es) fun y hy => h y (by simp [hy])
    exact ⟨a :: xs, by simp [h2], by simp [fl, h3], fun b hb => by
      rcases List.mem_cons.1 hb with rfl | hb
      · exact h1
      · exact h4 b hb⟩
end
end Go.Lg

namespace Go.Lg
section
variable {P : Program} {ops r : Array Oper} {rl : List Oper} {s : List AV} {H : Heap} {K : KS} {Q : KT} {d : Option Tmp} {op : Op} {t : TypeId} {p : String} {e : Array Edge} {gd : Option (Nat × Bool)} {c x y : Code} {w : Bool} {q : Prop} [Decidable q]
theorem guardK_dec (h1 : q → guardK P ops ⟨d, op, t, p, e, gd⟩ rl s H K w (some true)) (h2 : ¬ q → guardK P ops ⟨d, op, t, p, e, gd⟩ rl s H K w (some false)) : guardK P ops ⟨d, op, t, p, e, gd⟩ rl s H K w (some (decide q)) := by
  by_cases h : q
  · rw [decide_eq_true h]; exact h1 h
  · rw [decide_eq_false h]; exact h2 h
theorem guardK_ndec (h1 : q → guardK P ops ⟨d, op, t, p, e, gd⟩ rl s H K w (some false)) (h2 : ¬ q → guardK P ops ⟨d, op, t, p, e, gd⟩ rl s H K w (some true)) : guardK P ops ⟨d, op, t, p, e, gd⟩ rl s H K w (some (!decide q)) := by
  by_cases h : q
  · rw [decide_eq_true h]; exact h1 h
  · rw [decide_eq_false h]; exact h2 h
theorem guardK_nb {b : Bool} (h1 : b = true → guardK P ops ⟨d, op, t, p, e, gd⟩ rl s H K w (some false)) (h2 : b = false → guardK P ops ⟨d, op, t, p, e, gd⟩ rl s H K w (some true)) : guardK P ops ⟨d, op, t, p, e, gd⟩ rl s H K w (some (!b)) := by
  cases b
  · exact h2 rfl
  · exact h1 rfl
theorem guardQ_dec {G : KS} (h1 : q → guardQ P ops ⟨d, op, t, p, e, gd⟩ rl s H G w (some true)) (h2 : ¬ q → guardQ P ops ⟨d, op, t, p, e, gd⟩ rl s H G w (some false)) : guardQ P ops ⟨d, op, t, p, e, gd⟩ rl s H G w (some (decide q)) := by
  by_cases h : q
  · rw [decide_eq_true h]; exact h1 h
  · rw [decide_eq_false h]; exact h2 h
theorem guardQ_ndec {G : KS} (h1 : q → guardQ P ops ⟨d, op, t, p, e, gd⟩ rl s H G w (some false)) (h2 : ¬ q → guardQ P ops ⟨d, op, t, p, e, gd⟩ rl s H G w (some true)) : guardQ P ops ⟨d, op, t, p, e, gd⟩ rl s H G w (some (!decide q)) := by
  by_cases h : q
  · rw [decide_eq_true h]; exact h1 h
  · rw [decide_eq_false h]; exact h2 h
theorem guardQ_nb {b : Bool} {G : KS} (h1 : b = true → guardQ P ops ⟨d, op, t, p, e, gd⟩ rl s H G w (some false)) (h2 : b = false → guardQ P ops ⟨d, op, t, p, e, gd⟩ rl s H G w (some true)) : guardQ P ops ⟨d, op, t, p, e, gd⟩ rl s H G w (some (!b)) := by
  cases b
  · exact h2 rfl
  · exact h1 rfl
theorem condK_dec (h1 : q → cw P x s H Q) (h2 : ¬ q → cw P y s H Q) : condK P x y s H Q (decide q) := by
  by_cases h : q
  · rw [decide_eq_true h, condK_t]; exact h1 h
  · rw [decide_eq_false h, condK_f]; exact h2 h
theorem condK_ndec (h1 : q → cw P y s H Q) (h2 : ¬ q → cw P x s H Q) : condK P x y s H Q (!decide q) := by
  by_cases h : q
  · rw [decide_eq_true h]; exact condK_f ▸ h1 h
  · rw [decide_eq_false h]; exact condK_t ▸ h2 h
theorem condK_b {b : Bool} (h1 : b = true → cw P x s H Q) (h2 : b = false → cw P y s H Q) : condK P x y s H Q b := by
  cases b
  · rw [condK_f]; exact h2 rfl
  · rw [condK_t]; exact h1 rfl
theorem condK_nb {b : Bool} (h1 : b = true → cw P y s H Q) (h2 : b = false → cw P x s H Q) : condK P x y s H Q (!b) := by
  cases b
  · exact condK_t ▸ h2 rfl
  · exact condK_f ▸ h1 rfl
end
def okM (m : List Bool) (H H' : Heap) : Prop := HLe (mask m H') (mask m H)
theorem mask_nil (H : Heap) : mask [] H = H := by cases H <;> rfl
theorem mask_t (m : List Bool) (x : Option Blk) (H : Heap) : mask (true :: m) (x :: H) = none :: mask m H := rfl
theorem mask_f (m : List Bool) (x : Option Blk) (H : Heap) : mask (false :: m) (x :: H) = x :: mask m H := rfl
theorem mask_e (m : List Bool) : mask m [] = [] := by cases m with
  | nil => rfl
  | cons b m => cases b <;> rfl
theorem okM_self (m : List Bool) (H : Heap) : okM m H H = True := eq_true (HLe.refl _)
theorem okM_nil (m : List Bool) (H : Heap) : okM m [] H = True := eq_true (by unfold okM; rw [mask_e]; exact hle_nil _)
theorem okM_app (H H' : Heap) : okM [] H (H ++ H') = True := eq_true (by unfold okM; rw [mask_nil, mask_nil]; exact HLe.app _ _)
theorem hle_cons_iff (x : Option Blk) (H H' : Heap) : HLe (x :: H) (x :: H') ↔ HLe H H' :=
  ⟨fun h id b hb => h (id + 1) b hb, fun h => hle_self x H H' h⟩
theorem hle_none_iff (x : Option Blk) (H H' : Heap) : HLe (x :: H) (none :: H') ↔ HLe H H' :=
  ⟨fun h id b hb => h (id + 1) b hb, fun h => hle_none x H H' h⟩
theorem okM_cs (x : Option Blk) (H H' : Heap) : okM [] (x :: H) (x :: H') = okM [] H H' := by
  unfold okM; simp only [mask_nil]; exact propext (hle_cons_iff x H' H)
theorem okM_t (m : List Bool) (x y : Option Blk) (H H' : Heap) : okM (true :: m) (x :: H) (y :: H') = okM m H H' := by
  unfold okM; simp only [mask_t]; exact propext (hle_none_iff none _ _)
theorem okM_f (m : List Bool) (x : Option Blk) (H H' : Heap) : okM (false :: m) (x :: H) (x :: H') = okM m H H' := by
  unfold okM; simp only [mask_f]; exact propext (hle_cons_iff x _ _)
def softApp (P : Program) (s : List AV) (t : TypeId) (v x : AV) (K : AV → Prop) : Prop :=
  match sliceOf P t, v, x with
  | some ei, .c .emp, .c (.f (.sl m cs)) => okP (ei.zero.length = ei.size ∧ cs.length = m * ei.size ∧ m ≤ 9223372036854775807 ∧ m * ei.bytes ≤ 140737488355328) (K (.c (.f (.sl m cs))))
  | _, _, _ => False
def softW (P : Program) (ops : Array Oper) (o : Oper) (s : List AV) (K : AV → Prop) : Prop :=
  match o.op with
  | .buildSlice t n ps => if n = 0 ∧ ps = #[] then bindP (sliceOf P t) (fun _ => K (.c .emp)) else softBuild P s t n ps.toList K
  | .call ⟨.builtin .append, ⟨[v, x]⟩, ⟨[t, u]⟩⟩ => if t = u then softApp P s t (evO s v) (evO s x) K else False
  | _ => ∃ v, (∀ H, Soft P ops o s H v) ∧ K v
theorem softW_build0 {P : Program} {ops : Array Oper} {s : List AV} {K : AV → Prop} {d : Option Tmp} {t t' : TypeId} {p : String} {e : Array Edge} {g : Option (Nat × Bool)} : softW P ops ⟨d, .buildSlice t 0 #[], t', p, e, g⟩ s K = bindP (sliceOf P t) (fun _ => K (.c .emp)) := by
  simp [softW]
theorem softW_build {P : Program} {ops : Array Oper} {s : List AV} {K : AV → Prop} {d : Option Tmp} {t t' : TypeId} {p : String} {e : Array Edge} {g : Option (Nat × Bool)} {n : Nat} {ps : List (Nat × Operand)} : softW P ops ⟨d, .buildSlice t (n + 1) ps.toArray, t', p, e, g⟩ s K = softBuild P s t (n + 1) ps K := by
  simp [softW]
theorem softW_app {P : Program} {ops : Array Oper} {s : List AV} {K : AV → Prop} {d : Option Tmp} {t t' : TypeId} {p : String} {e : Array Edge} {g : Option (Nat × Bool)} {v x : Operand} : softW P ops ⟨d, .call ⟨.builtin .append, #[v, x], #[t, t]⟩, t', p, e, g⟩ s K = softApp P s t (evO s v) (evO s x) K := by
  simp [softW]
theorem softApp_sl {P : Program} {s : List AV} {t : TypeId} {m : Nat} {cs : List FV} {K : AV → Prop} : softApp P s t (.c .emp) (.c (.f (.sl m cs))) K = bindP (sliceOf P t) (fun ei => okP (ei.zero.length = ei.size ∧ cs.length = m * ei.size ∧ m ≤ 9223372036854775807 ∧ m * ei.bytes ≤ 140737488355328) (K (.c (.f (.sl m cs))))) := by
  unfold softApp
  cases sliceOf P t <;> simp [bindP]
section
variable (P : Program) (ops : Array Oper) (m : List Bool) (F : List Nat) (D : Option Nat) (r : List Nat) (G : Option Gh) (s : List AV) (H : Heap) (K : KS)
def lwF : List Nat → Option Gh → List AV → Heap → KS → Prop
  | [], G, s, H, K => realize G s H K
  | i :: r, G, s, H, K => match ops[i]? with
    | none => False
    | some o => if D = some i then bindP (ghV P s o) (fun e => e.d < s.length ∧ lwF r (some e) (putS s o.dst .any) H K) else match o.guard with
      | none => if isVal o.op = true then opW P o s (mask m H) (fun v _ => lwF r G (putS s o.dst v) H K) else if F.contains i = true then softW P ops o s (fun v => lwF r G (putS s o.dst v) H K) else if isMemo o.op = true then opW P o s H (fun v H' => okM m H H' ∧ lwF r G (putS s o.dst v) H' K) else Loud P ops o s H (fun v H' => okM m H H' ∧ lwF r G (putS s o.dst v) H' K)
      | some (j, want) => bindP (guardV ops s j) (fun g => guardP g want (if isVal o.op = true then opW P o s (mask m H) (fun v _ => lwF r G (putS s o.dst v) H K) else if F.contains i = true then softW P ops o s (fun v => lwF r G (putS s o.dst v) H K) else if isMemo o.op = true then opW P o s H (fun v H' => okM m H H' ∧ lwF r G (putS s o.dst v) H' K) else Loud P ops o s H (fun v H' => okM m H H' ∧ lwF r G (putS s o.dst v) H' K)) (lwF r G (putS s o.dst .void) H K))
def lwV (d : Option Tmp) : KV := fun v _ => lwF P ops m F D r G (putS s d v) H K
def lwL (d : Option Tmp) : KV := fun v H' => okM m H H' ∧ lwF P ops m F D r G (putS s d v) H' K
def lwG (d : Option Tmp) : Gh → Prop := fun e => e.d < s.length ∧ lwF P ops m F D r (some e) (putS s d .any) H K
def lwS (d : Option Tmp) : AV → Prop := fun v => lwF P ops m F D r G (putS s d v) H K
def lwOne (i : Nat) (o : Oper) : Prop := if isVal o.op = true then opW P o s (mask m H) (lwV P ops m F D r G s H K o.dst) else if F.contains i = true then softW P ops o s (lwS P ops m F D r G s H K o.dst) else if isMemo o.op = true then opW P o s H (lwL P ops m F D r G s H K o.dst) else Loud P ops o s H (lwL P ops m F D r G s H K o.dst)
def lwW (i : Nat) (o : Oper) (want : Bool) : Option Bool → Prop := fun g => guardP g want (lwOne P ops m F D r G s H K i o) (lwF P ops m F D r G (putS s o.dst .void) H K)
def lwO (i : Nat) : Option Oper → Prop
  | none => False
  | some o => if D = some i then bindP (ghV P s o) (lwG P ops m F D r s H K o.dst) else match o.guard with
    | none => lwOne P ops m F D r G s H K i o
    | some (j, want) => bindP (guardV ops s j) (lwW P ops m F D r G s H K i o want)
theorem lwF_cons (i : Nat) : lwF P ops m F D (i :: r) G s H K = lwO P ops m F D r G s H K i ops[i]? := by
  rw [lwF]
  cases ops[i]? with
  | none => rfl
  | some o => rfl
theorem lwF_nil : lwF P ops m F D [] G s H K = realize G s H K := by rw [lwF]
theorem lwO_some (i : Nat) (d : Option Tmp) (op : Op) (t : TypeId) (p : String) (e : Array Edge) :
    lwO P ops m F D r G s H K i (some ⟨d, op, t, p, e, none⟩) = if D = some i then bindP (ghV P s ⟨d, op, t, p, e, none⟩) (lwG P ops m F D r s H K d) else lwOne P ops m F D r G s H K i ⟨d, op, t, p, e, none⟩ := propext Iff.rfl
theorem lwO_guard (i : Nat) (d : Option Tmp) (op : Op) (t : TypeId) (p : String) (e : Array Edge) (j : Nat) (want : Bool) :
    lwO P ops m F D r G s H K i (some ⟨d, op, t, p, e, some (j, want)⟩) = if D = some i then bindP (ghV P s ⟨d, op, t, p, e, some (j, want)⟩) (lwG P ops m F D r s H K d) else bindP (guardV ops s j) (lwW P ops m F D r G s H K i ⟨d, op, t, p, e, some (j, want)⟩ want) := propext Iff.rfl
theorem lwOne_op (i : Nat) (d : Option Tmp) (op : Op) (t : TypeId) (p : String) (e : Array Edge) (g : Option (Nat × Bool)) :
    lwOne P ops m F D r G s H K i ⟨d, op, t, p, e, g⟩ = if isVal op = true then opW P ⟨d, op, t, p, e, g⟩ s (mask m H) (lwV P ops m F D r G s H K d) else if F.contains i = true then softW P ops ⟨d, op, t, p, e, g⟩ s (lwS P ops m F D r G s H K d) else if isMemo op = true then opW P ⟨d, op, t, p, e, g⟩ s H (lwL P ops m F D r G s H K d) else Loud P ops ⟨d, op, t, p, e, g⟩ s H (lwL P ops m F D r G s H K d) := propext Iff.rfl
theorem lwV_ap (d : Option Tmp) (v : AV) (H' : Heap) : lwV P ops m F D r G s H K d v H' = lwF P ops m F D r G (putS s d v) H K := propext Iff.rfl
theorem lwS_ap (d : Option Tmp) (v : AV) : lwS P ops m F D r G s H K d v = lwF P ops m F D r G (putS s d v) H K := propext Iff.rfl
theorem lwL_ap (d : Option Tmp) (v : AV) (H' : Heap) : lwL P ops m F D r G s H K d v H' = okP (okM m H H') (lwF P ops m F D r G (putS s d v) H' K) := propext Iff.rfl
theorem lwG_ap (d : Option Tmp) (e : Gh) : lwG P ops m F D r s H K d e = okP (e.d < s.length) (lwF P ops m F D r (some e) (putS s d .any) H K) := propext Iff.rfl
theorem lwW_ap (i : Nat) (d : Option Tmp) (op : Op) (t : TypeId) (p : String) (e : Array Edge) (gd : Option (Nat × Bool)) (want : Bool) (g : Option Bool) :
    lwW P ops m F D r G s H K i ⟨d, op, t, p, e, gd⟩ want g = guardP g want (lwOne P ops m F D r G s H K i ⟨d, op, t, p, e, gd⟩) (lwF P ops m F D r G (putS s d .void) H K) := propext Iff.rfl
theorem realize_none : realize none s H K = K s H := propext Iff.rfl
theorem realize_some (d : Tmp) (n : Option Nat) (sz : Nat) (cs : List CV) : realize (some ⟨d, n, sz, cs⟩) s H K = ∀ g, K (s.set d (ghA H.length g n)) (H ++ [some ⟨g, sz, cs⟩]) := propext Iff.rfl
def swO : Option Oper → Prop
  | none => False
  | some o => vw P ops [o] s H (swK P ops r K)
theorem sw_cons (i : Nat) : sw P ops (i :: r) s H K = swO P ops r s H K ops[i]? := by
  rw [sw]
  cases ops[i]? <;> rfl
theorem sw_nil : sw P ops [] s H K = K s H := by rw [sw]
theorem swO_some (o : Oper) : swO P ops r s H K (some o) = vw P ops [o] s H (swK P ops r K) := propext Iff.rfl
theorem swK_ap : swK P ops r K s H = sw P ops r s H K := propext Iff.rfl
end
theorem ghV_alloc {P : Program} {s : List AV} {d : Tmp} {t : TypeId} {t' : TypeId} {p : String} {e : Array Edge} {g : Option (Nat × Bool)} : ghV P s ⟨some d, .alloc t, t', p, e, g⟩ = match tinf P t with
    | some ti => if ti.zero.all constC = true then some ⟨d, none, ti.size, ti.zero⟩ else none
    | none => none := rfl
theorem ghV_make {P : Program} {s : List AV} {d : Tmp} {t : TypeId} {t' : TypeId} {p : String} {e : Array Edge} {g : Option (Nat × Bool)} {l c : Operand} : ghV P s ⟨some d, .makeSlice t l c, t', p, e, g⟩ = match sliceOf P t, evO s l, evO s c with
    | some ei, .c (.f (.int _ l)), .c (.f (.int _ c)) => if ei.zero.all constC ∧ ei.zero.length = ei.size ∧ (0 ≤ l ∧ l ≤ c) ∧ c ≤ 9223372036854775807 ∧ ei.bytes * c ≤ 281474976710656 then some ⟨d, some (cnt l), ei.size, zerosL (cnt l * ei.size) ei.zero⟩ else none
    | _, _, _ => none := rfl
section
variable {P : Program} {ops : Array Oper} {m : List Bool} {F : List Nat} {D : Option Nat} {i : Nat} {rl : List Nat} {G : Option Gh} {s : List AV} {H : Heap} {K : KS} {d : Option Tmp} {op : Op} {t : TypeId} {p : String} {e : Array Edge} {gd : Option (Nat × Bool)} {b w : Bool} {q : Prop} [Decidable q]
theorem lwW_tt : lwW P ops m F D rl G s H K i ⟨d, op, t, p, e, gd⟩ true (some true) = lwOne P ops m F D rl G s H K i ⟨d, op, t, p, e, gd⟩ := by rw [lwW_ap, guardP_tt]
theorem lwW_ff : lwW P ops m F D rl G s H K i ⟨d, op, t, p, e, gd⟩ false (some false) = lwOne P ops m F D rl G s H K i ⟨d, op, t, p, e, gd⟩ := by rw [lwW_ap, guardP_ff]
theorem lwW_tf : lwW P ops m F D rl G s H K i ⟨d, op, t, p, e, gd⟩ true (some false) = lwF P ops m F D rl G (putS s d .void) H K := by rw [lwW_ap, guardP_ft]
theorem lwW_ft : lwW P ops m F D rl G s H K i ⟨d, op, t, p, e, gd⟩ false (some true) = lwF P ops m F D rl G (putS s d .void) H K := by rw [lwW_ap, guardP_tf]
theorem lwW_no : lwW P ops m F D rl G s H K i ⟨d, op, t, p, e, gd⟩ w none = lwF P ops m F D rl G (putS s d .void) H K := by rw [lwW_ap, guardP_none]
theorem guardL_split (h1 : b = true → lwW P ops m F D rl G s H K i ⟨d, op, t, p, e, gd⟩ w (some true)) (h2 : b = false → lwW P ops m F D rl G s H K i ⟨d, op, t, p, e, gd⟩ w (some false)) : lwW P ops m F D rl G s H K i ⟨d, op, t, p, e, gd⟩ w (some b) := by
  cases b
  · exact h2 rfl
  · exact h1 rfl
theorem guardL_nb (h1 : b = true → lwW P ops m F D rl G s H K i ⟨d, op, t, p, e, gd⟩ w (some false)) (h2 : b = false → lwW P ops m F D rl G s H K i ⟨d, op, t, p, e, gd⟩ w (some true)) : lwW P ops m F D rl G s H K i ⟨d, op, t, p, e, gd⟩ w (some (!b)) := by
  cases b
  · exact h2 rfl
  · exact h1 rfl
theorem guardL_dec (h1 : q → lwW P ops m F D rl G s H K i ⟨d, op, t, p, e, gd⟩ w (some true)) (h2 : ¬ q → lwW P ops m F D rl G s H K i ⟨d, op, t, p, e, gd⟩ w (some false)) : lwW P ops m F D rl G s H K i ⟨d, op, t, p, e, gd⟩ w (some (decide q)) := by
  by_cases h : q
  · rw [decide_eq_true h]; exact h1 h
  · rw [decide_eq_false h]; exact h2 h
theorem guardL_ndec (h1 : q → lwW P ops m F D rl G s H K i ⟨d, op, t, p, e, gd⟩ w (some false)) (h2 : ¬ q → lwW P ops m F D rl G s H K i ⟨d, op, t, p, e, gd⟩ w (some true)) : lwW P ops m F D rl G s H K i ⟨d, op, t, p, e, gd⟩ w (some (!decide q)) := by
  by_cases h : q
  · rw [decide_eq_true h]; exact h1 h
  · rw [decide_eq_false h]; exact h2 h
end
section
variable {P : Program} {ops : Array Oper} {o : Oper} {s : List AV} {H : Heap} {K : KV} {fo : Operand} {xs : Array Operand} {ts : Array TypeId} {f : FuncId} {args args' : List AV} {v : AV} {u : Value} {Q : KV}
theorem Loud.call (ho : o.op = .call ⟨.value fo, xs, ts⟩) (ha : callArgs ⟨s, H⟩ fo xs = some (f, args)) (h : ∀ s', callArgs ⟨s', H⟩ fo xs = some (f, args) → OpS P o ⟨s', H⟩ K) : Loud P ops o s H K :=
  Loud.of (h _ (by rw [callArgs_congr (s := s) (H := H) ts fun x hx => evO_restr (tmp_looks (by rw [ho]; exact hx))]; exact ha))
theorem Loud.rd (hc : Reads P f args' v) (he : Enters P f) (ho : o.op = .call ⟨.value fo, xs, ts⟩) (ha : callArgs ⟨s, H⟩ fo xs = some (f, args)) (hs : args.mapM (snapA H) = some args')
    (hf : flatV v = some u) (hk : K v H) : Loud P ops o s H K := Loud.call ho ha fun s' ha' => OpS.rd hc he ho ha' hs hf hk
theorem Loud.mk (hc : Reads P f args v) (he : Enters P f) (ho : o.op = .call ⟨.value fo, xs, ts⟩) (ha : callArgs ⟨s, H⟩ fo xs = some (f, args)) (hf : args.all frozenA = true)
    (ht : tupOk v = true) (hv : shiftA H.length v = v) (hk : K v H) : Loud P ops o s H K := Loud.call ho ha fun s' ha' => OpS.mk hc he ho ha' hf ht hv hk
theorem Loud.run (hc : RunCall P f args H Q) (he : Enters P f) (ho : o.op = .call ⟨.value fo, xs, ts⟩) (ha : callArgs ⟨s, H⟩ fo xs = some (f, args)) (hk : ∀ r H', Q r H' → K r H') : Loud P ops o s H K :=
  Loud.call ho ha fun s' ha' => OpS.run hc he ho ha' hk
end
theorem opW_build {P : Program} {s : List AV} {H : Heap} {F : KV} {d : Option Tmp} {t : TypeId} {p : String} {e : Array Edge} {g : Option (Nat × Bool)} (bt : TypeId) (ps : List (Nat × Operand)) : opW P ⟨d, .build bt ps.toArray, t, p, e, g⟩ s H F = aggM P s H bt ps F := propext Iff.rfl
theorem all_isSome_nil {P : Program} : (∀ f ∈ ([] : List (TypeId × Nat)), (tinf P f.1).isSome = true) = True := eq_true (by simp)
theorem all_isSome_cons {P : Program} {t : TypeId} {n : Nat} {l : List (TypeId × Nat)} : (∀ f ∈ (t, n) :: l, (tinf P f.1).isSome = true) = ((tinf P t).isSome = true ∧ ∀ f ∈ l, (tinf P f.1).isSome = true) := by simp
theorem minV_max (k k' : IntKind) (a b : Int) : minV true (.c (.f (.int k a))) (.c (.f (.int k' b))) = some (.c (.f (.int k (max a b)))) := by
  simp only [minV, if_true]
  congr 4
  split <;> omega
theorem minV_min (k k' : IntKind) (a b : Int) : minV false (.c (.f (.int k a))) (.c (.f (.int k' b))) = some (.c (.f (.int k (min a b)))) := by
  simp only [minV, Bool.false_eq_true, if_false]
  congr 4
  split <;> omega
attribute [go_sem] lwF_cons minV_max minV_min Option.map_none mask_nil mask_t mask_f mask_e okM_self okM_nil okM_app okM_cs okM_t okM_f lwF_nil lwO_some lwO_guard lwOne_op lwV_ap lwS_ap lwL_ap softW_build0 softW_build softW_app softApp_sl List.contains_cons List.contains_nil Bool.or_false Bool.false_or Nat.reduceBEq lwG_ap lwW_tt lwW_ff lwW_tf lwW_ft lwW_no realize_none realize_some sw_cons sw_nil swO_some swK_ap ghV_alloc ghV_make ghA
  isVal isMemo Option.some.injEq List.all_cons List.all_nil constC Bool.and_self opW_build aggM all_isSome_nil all_isSome_cons szOf
theorem resV_cell (P : Program) (s : List AV) (H : Heap) (t : Nat) (ty : TypeId) : resV P s H [.cell t ty] = loadV P H ty (s.getD t .void) := by
  simp only [resV, resAll, resOne]
  cases loadV P H ty (s.getD t .void) <;> rfl
theorem ldP_zero {g sz : Nat} {c : CV} {l : List CV} : ldP (some ⟨g, sz, c :: l⟩) 0 = some (.c c) := rfl
theorem ldP_succ {g sz n : Nat} {c : CV} {l : List CV} : ldP (some ⟨g, sz, c :: l⟩) (n + 1) = ldP (some ⟨g, sz, l⟩) n := rfl
def ldN (b : Option Blk) (off n : Nat) : Option (List CV) := match b with
  | some b => if off + n ≤ b.cs.length then some ((b.cs.drop off).take n) else none
  | none => none
theorem cellsAt_ptr {H : Heap} {id g off n : Nat} : cellsAt H (.ptr id g off) n = ldN (look H id g) off n := rfl
theorem ldN_succ {g sz n off : Nat} {c : CV} {l : List CV} : ldN (some ⟨g, sz, c :: l⟩) (off + 1) n = ldN (some ⟨g, sz, l⟩) off n := by
  simp only [ldN, List.length_cons, List.drop_succ_cons]
  by_cases h : off + n ≤ l.length
  · rw [if_pos h, if_pos (by omega)]
  · rw [if_neg h, if_neg (by omega)]
theorem ldN_z {g sz : Nat} {l : List CV} : ldN (some ⟨g, sz, l⟩) 0 0 = some [] := by simp [ldN]
theorem ldN_zs {g sz n : Nat} {c : CV} {l : List CV} : ldN (some ⟨g, sz, c :: l⟩) 0 (n + 1) = (ldN (some ⟨g, sz, l⟩) 0 n).map (c :: ·) := by
  simp only [ldN, List.length_cons, List.drop_zero, List.take_succ_cons]
  by_cases h : 0 + n ≤ l.length
  · rw [if_pos h, if_pos (by omega)]; rfl
  · rw [if_neg h, if_neg (by omega)]; rfl
theorem setRange_z {l : List CV} : setRange l 0 [] = l := by simp [setRange]
theorem setRange_zs {c d : CV} {l m : List CV} : setRange (c :: l) 0 (d :: m) = d :: setRange l 0 m := by simp [setRange]
theorem setRange_s {c : CV} {l m : List CV} {n : Nat} : setRange (c :: l) (n + 1) m = c :: setRange l n m := by
  simp only [setRange, List.take_succ_cons, List.cons_append, List.cons.injEq, true_and]
  rw [show n + 1 + m.length = n + m.length + 1 by omega, List.drop_succ_cons]
theorem ldP_clj {α : Type} {E : α → List FV} {n : Nat} [Inhabited α] [hs : HSz E n] {g sz : Nat} {xs : List α} {e : Int} {j : Nat} (h : 0 ≤ e ∧ e < (xs.length : Int)) (hj : j < n) :
    ldP (some ⟨g, sz, cl E xs⟩) (0 + e.toNat * n + j) = some (.c (.f ((E (nth xs e)).getD j .nil))) := by
  have hi : e.toNat < xs.length := by omega
  have := fl_getAt (E := E) (xs := xs) hi hj
  rw [ldP_some, Nat.zero_add, nth_eq h]
  simp only [cl, List.getElem?_map, this, Option.map_some]
theorem ldN_cl {α : Type} {E : α → List FV} {n : Nat} [Inhabited α] [hs : HSz E n] {g sz : Nat} {xs : List α} {e : Int} (h : 0 ≤ e ∧ e < (xs.length : Int)) :
    ldN (some ⟨g, sz, cl E xs⟩) (0 + e.toNat * n) n = some ((E (nth xs e)).map .f) := by
  have hi : e.toNat < xs.length := by omega
  have h2 := fl_at (E := E) xs hi
  simp only [ldN, cl_length, Nat.zero_add]
  rw [if_pos (by rw [← Nat.succ_mul]; exact Nat.mul_le_mul_right _ hi), nth_eq h]
  simp only [cl, ← List.map_drop, ← List.map_take, h2]
theorem setRange_clI {α : Type} {E : α → List FV} {n : Nat} [hs : HSz E n] {xs : List α} {e : Int} {v : α} {l : List CV} (hl : (E v).map .f = l) (h : 0 ≤ e ∧ e < (xs.length : Int)) :
    setRange (cl E xs) (0 + e.toNat * n) l = cl E (xs.set e.toNat v) := by
  subst hl
  exact setRange_cl (E := E) (by omega)
theorem cutS_fl0 {α : Type} {E : α → List FV} {sz : Nat} [h : HSz E sz] {xs : List α} {b : Int} (hb : 0 ≤ b ∧ b ≤ xs.length) : cutS sz xs.length (fl E xs) 0 b.toNat = some (rsl E (sub xs 0 b)) := cutS_fl (a := 0) (by omega)
theorem cutS_flN {α : Type} {E : α → List FV} {sz : Nat} [h : HSz E sz] {xs : List α} {a : Int} (hb : 0 ≤ a ∧ a ≤ xs.length) : cutS sz xs.length (fl E xs) a.toNat xs.length = some (rsl E (sub xs a xs.length)) := cutS_fl (b := xs.length) (by omega)
theorem cutT_sub0 {l : List UInt8} {b : Int} (hb : 0 ≤ b ∧ b ≤ l.length) : cutT l 0 b.toNat = some (txt (sub l 0 b)) := cutT_sub (a := 0) (by omega)
theorem cutT_subN {l : List UInt8} {a : Int} (hb : 0 ≤ a ∧ a ≤ l.length) : cutT l a.toNat l.length = some (txt (sub l a l.length)) := cutT_sub (b := l.length) (by omega)
theorem bool_ff {q : Prop} [Decidable q] (h : ¬ q) : false = decide q := (decide_eq_false h).symm
theorem bool_tt {q : Prop} [Decidable q] (h : q) : true = decide q := (decide_eq_true h).symm
theorem bool_pq {p q : Prop} [Decidable p] [Decidable q] (h : p ↔ q) : decide p = decide q := decide_eq_decide.2 h
structure Rul where
  kind : Int
  cells : List Int
  val : Int
  deriving DecidableEq, Inhabited
structure Puz where
  size : Int
  given : List Int
  rules : List Rul
  deriving DecidableEq, Inhabited
structure Gam where
  task : Puz
  put : List Int
  moves : List Int
  deriving DecidableEq, Inhabited
structure Brn where
  tech : Int
  cell : Int
  deriving DecidableEq, Inhabited
structure Hnt where
  tech : Int
  cell : Int
  val : Int
  deriving DecidableEq, Inhabited
def eR (r : Rul) : List FV := [.int .i64 r.kind, fints r.cells, .int .i64 r.val]
instance : HSz eR 3 := ⟨fun _ => rfl⟩
def eB (b : Brn) : List FV := [.int .i64 b.tech, .int .i64 b.cell]
instance : HSz eB 2 := ⟨fun _ => rfl⟩
def eL (l : List Int) : List FV := [fints l]
instance : HSz eL 1 := ⟨fun _ => rfl⟩
theorem eR_0 (r : Rul) : (eR r).getD 0 .nil = .int .i64 r.kind := rfl
theorem eR_1 (r : Rul) : (eR r).getD 1 .nil = fints r.cells := rfl
theorem eR_2 (r : Rul) : (eR r).getD 2 .nil = .int .i64 r.val := rfl
theorem eB_0 (r : Brn) : (eB r).getD 0 .nil = .int .i64 r.tech := rfl
theorem eB_1 (r : Brn) : (eB r).getD 1 .nil = .int .i64 r.cell := rfl
theorem eL_0 (l : List Int) : (eL l).getD 0 .nil = fints l := rfl
abbrev cR (r : Rul) : List CV := [.f (.int .i64 r.kind), .f (fints r.cells), .f (.int .i64 r.val)]
abbrev cB (b : Brn) : List CV := [.f (.int .i64 b.tech), .f (.int .i64 b.cell)]
abbrev cP (p : Puz) : List CV := [.f (.int .i64 p.size), .f (fints p.given), .f (fsl eR p.rules)]
abbrev cG (g : Gam) : List CV := [.f (.int .i64 g.task.size), .f (fints g.task.given), .f (fsl eR g.task.rules), .f (fints g.put), .f (fints g.moves)]
abbrev aR (r : Rul) : AV := .agg (cR r)
abbrev aP (p : Puz) : AV := .agg (cP p)
abbrev aG (g : Gam) : AV := .agg (cG g)
theorem eR_map (r : Rul) : (eR r).map CV.f = cR r := rfl
theorem eB_map (r : Brn) : (eB r).map CV.f = cB r := rfl
theorem eL_map (r : List Int) : (eL r).map CV.f = [.f (fints r)] := rfl
attribute [go_sem] cutS_fl0 cutS_flN cutT_sub0 cutT_subN resV_cell ldP_zero ldP_succ cellsAt_ptr ldN_succ ldN_z ldN_zs setRange_z setRange_zs setRange_s ldP_clj ldN_cl eR_0 eR_1 eR_2 eB_0 eB_1 eL_0 eR_map eB_map eL_map moved fieldV fieldA boxM
end Go.Lg
