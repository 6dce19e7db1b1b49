/- LgV, LgW, GpDB, GpOE, GpCD, cut to what is needed. -/
import Derived.Test.YtcopagjhklcokaaRbb5
import Derived.Test.YtcopagjhklcokaaRbb2
import Derived.Test.YtcopagjhklcokaaRbb4
import Derived.Test.YtcopagjhklcokaaRbb3
set_option linter.unusedSimpArgs false
set_option linter.unusedVariables false
namespace Go.Lg
open Go.ChangeShapes Go.WideShapes Go.ChangeAt Go.RowKit
def CsF (w : World) (I : Nat → Prop) (ys : List FV) (cs : List Value) : Prop :=
  ys.length = cs.length ∧ ∀ j (h : j < ys.length), ∃ u, cs[j]? = some u ∧ VF w I ys[j] u
section
variable {w : World} {I : Nat → Prop}
theorem CsF.nil : CsF w I [] [] := ⟨rfl, fun j h => absurd h (Nat.not_lt_zero _)⟩
theorem CsF.one {y : FV} {v : Value} (h : VF w I y v) : CsF w I [y] [v] := ⟨rfl, fun j hj => by
  have : j = 0 := by simpa using hj
  subst this; exact ⟨v, rfl, h⟩⟩
theorem CsF.app {ys ys' : List FV} {cs cs' : List Value} (h : CsF w I ys cs) (h' : CsF w I ys' cs') : CsF w I (ys ++ ys') (cs ++ cs') := by
  refine ⟨by simp [h.1, h'.1], fun j hj => ?_⟩
  by_cases hl : j < ys.length
  · obtain ⟨u, h1, h2⟩ := h.2 j hl
    refine ⟨u, by rw [List.getElem?_append_left (by rw [← h.1]; exact hl)]; exact h1, ?_⟩
    rw [List.getElem_append_left hl]; exact h2
  · have hj' : j - ys.length < ys'.length := by simp at hj; omega
    obtain ⟨u, h1, h2⟩ := h'.2 _ hj'
    refine ⟨u, by rw [List.getElem?_append_right (by rw [← h.1]; omega), ← h.1]; exact h1, ?_⟩
    rw [List.getElem_append_right (by omega)]; exact h2
end
def Shp (P : Program) : Nat → TypeId → List FV → Prop
  | 0, _, _ => False
  | n + 1, t, ys => match P.underlying t with
    | some (.int k) => ∃ x, ys = [.int k x] ∧ (Lit.int k x).wf = true
    | some .bool => ∃ b, ys = [.bool b]
    | some .string => ∃ s : List UInt8, ys = [.str (bs s)] ∧ s.length ≤ 9223372036854775807
    | some (.slice e) => ∃ es : List (List FV), ys = [.sl es.length es.flatten] ∧ es.length ≤ 9223372036854775807 ∧ ∀ x ∈ es, Shp P n e x
    | some (.struct fs) => ∃ es : List (List FV), ys = es.flatten ∧ es.length = fs.size ∧ ∀ (i : Nat) (f : Field), fs[i]? = some f → ∃ x, es[i]? = some x ∧ Shp P n f.type x
    | _ => False
def contigB (P : Program) (tot : Nat) : Nat → List Field → Bool
  | o, [] => o == tot
  | o, f :: fs => f.offset == o && contigB P tot (o + P.cellsOf f.type) fs
def plainT (P : Program) : Nat → TypeId → Bool
  | 0, _ => false
  | n + 1, t => match P.underlying t with
    | some (.int _) => true
    | some .bool => true
    | some .string => true
    | some (.slice e) => decide (0 < P.cellsOf e) && plainT P n e
    | some (.struct fs) => contigB P (P.cellsOf t) 0 fs.toList && fs.toList.all fun f => plainT P n f.type
    | _ => false
theorem cell_plain {W : World} {a : Addr} {i : Nat} (hi : i = 0) {u : Value} (h : W.cell? ((a.add i).add 0) = some u) : a.spot = none := by
  simp only [World.cell?] at h
  split at h
  · split at h
    · cases h
    · rename_i hsp
      have : ((a.add i).add 0).spot = none := by simpa using hsp
      obtain ⟨b, o, sp⟩ := a
      cases sp with
      | none => rfl
      | some s => exfalso; revert this; unfold Addr.add; simp [hi]
  · cases h
section
variable {H : Type} {enc : TypeId × Value → H} {P : Program} {W : World}
theorem read_all : ∀ (n fuel : Nat) (t : TypeId) (cs : List Value) (x : DataW H × List MemPlace), plainT P n t = true → DataW.trod enc P W 0 (fun _ => true) true fuel t cs = some x →
    ∃ ys, CsF W (Cx.base W).I ys cs ∧ Shp P n t ys := by
  intro n
  induction n with
  | zero => intro fuel t cs x hp; simp [plainT] at hp
  | succ n ih =>
    intro fuel t cs x hp h
    unfold plainT at hp
    split at hp
    · rename_i k hu
      obtain ⟨m, rfl, rfl, hw⟩ := DataW.trod_int hu h
      exact ⟨[.int k m], CsF.one (VF.int k m), by unfold Shp; rw [hu]; exact ⟨m, rfl, hw⟩⟩
    · rename_i hu
      obtain ⟨b, rfl, rfl⟩ := DataW.trod_bool hu h
      exact ⟨[.bool b], CsF.one (VF.bool b), by unfold Shp; rw [hu]; exact ⟨b, rfl⟩⟩
    · rename_i hu
      obtain ⟨s, rfl, rfl, hs⟩ := DataW.trod_string hu h
      have e : bs s.data.toList = s := by simp [bs]
      exact ⟨[.str s], CsF.one (VF.str s), by unfold Shp; rw [hu]; exact ⟨s.data.toList, by rw [e], str_len hs⟩⟩
    · rename_i e hu
      simp only [Bool.and_eq_true, decide_eq_true_eq] at hp
      rcases DataW.trod_slice hu h with ⟨rfl, rfl⟩ | ⟨a, len, cap, elems, rest, m, rfl, rfl, rfl, hb, hl, hm, hlen, hel, _, _⟩
      · exact ⟨[.sl 0 []], CsF.one (VF.sl0 none 0), by unfold Shp; rw [hu]; exact ⟨[], rfl, by simp, by simp⟩⟩
      · have each : ∀ i, i < len → ∃ cs', W.cells? 0 (a.add (i * P.cellsOf e)) (P.cellsOf e) = some cs' ∧ ∃ ys, CsF W (Cx.base W).I ys cs' ∧ Shp P n e ys := by
          intro i hi
          have h1 := hel i hi
          rw [List.getElem?_eq_getElem (by omega)] at h1
          obtain ⟨cs', h2, h3⟩ := Option.bind_eq_some_iff.1 h1
          exact ⟨cs', h2, ih _ _ _ _ hp.2 h3⟩
        have hml : len ≤ 9223372036854775807 := by
          have : maxLen ≤ 9223372036854775807 := by decide
          omega
        by_cases h0 : len = 0
        · subst h0
          exact ⟨[.sl 0 []], CsF.one (VF.sl0 _ _), by unfold Shp; rw [hu]; exact ⟨[], rfl, by simp, by simp⟩⟩
        obtain ⟨b, o, sp⟩ := a
        have hsp : sp = none := by
          obtain ⟨cs', h2, ys, h3, h4⟩ := each 0 (by omega)
          obtain ⟨_, h5, h6⟩ := World.cells?_some h2
          have h7 := h6 0 hp.1
          rw [List.getElem?_eq_getElem (by omega)] at h7
          exact cell_plain (a := ⟨b, o, sp⟩) (Nat.zero_mul _) h7
        subst hsp
        have build : ∀ k, k ≤ len → ∃ es : List (List FV), es.length = k ∧ (∀ x ∈ es, Shp P n e x) ∧ es.flatten.length = k * P.cellsOf e ∧
            ∀ j (h : j < es.flatten.length), ∃ u, W.cell? ⟨b, o + j, none⟩ = some u ∧ VF W (Cx.base W).I es.flatten[j] u := by
          intro k
          induction k with
          | zero => intro _; exact ⟨[], rfl, by simp, by simp, fun j hj => absurd hj (by simp)⟩
          | succ k ihk =>
            intro hk
            obtain ⟨es, e1, e2, e3, e4⟩ := ihk (by omega)
            obtain ⟨cs', h2, ys, h3, h4⟩ := each k (by omega)
            obtain ⟨_, h5, h6⟩ := World.cells?_some h2
            have hys : ys.length = P.cellsOf e := by rw [h3.1, h5]
            refine ⟨es ++ [ys], by simp [e1], fun x hx => ?_, ?_, fun j hj => ?_⟩
            · rcases List.mem_append.1 hx with hx | hx
              · exact e2 x hx
              · have : x = ys := by simpa using hx
                subst this; exact h4
            · simp only [List.flatten_append, List.length_append, e3, List.flatten_cons, List.flatten_nil, List.append_nil, hys, Nat.add_mul, Nat.one_mul]
            · have hfl : (es ++ [ys]).flatten = es.flatten ++ ys := by simp
              by_cases hjl : j < es.flatten.length
              · obtain ⟨u, k1, k2⟩ := e4 j hjl
                refine ⟨u, k1, ?_⟩
                have : (es ++ [ys]).flatten[j] = es.flatten[j] := by simp only [hfl]; exact List.getElem_append_left hjl
                rw [this]; exact k2
              · have hj' : j - es.flatten.length < ys.length := by
                  have : j < (es.flatten ++ ys).length := by rw [← hfl]; exact hj
                  rw [List.length_append] at this; omega
                obtain ⟨u, k1, k2⟩ := h3.2 _ hj'
                have h8 := h6 (j - es.flatten.length) (by omega)
                rw [add_plain, add_plain, k1] at h8
                refine ⟨u, ?_, ?_⟩
                · rw [show o + k * P.cellsOf e + (j - es.flatten.length) = o + j by omega] at h8
                  exact h8
                · have : (es ++ [ys]).flatten[j] = ys[j - es.flatten.length] := by simp only [hfl]; exact List.getElem_append_right (by omega)
                  rw [this]; exact k2
        obtain ⟨es, e1, e2, e3, e4⟩ := build len (Nat.le_refl _)
        have hI : (Cx.base W).I b := by
          obtain ⟨u, k1, _⟩ := e4 0 (by rw [e3]; exact Nat.mul_pos (by omega) hp.1)
          exact World.block_lt_of_cell? W _ k1
        refine ⟨[.sl es.length es.flatten], CsF.one ?_, by unfold Shp; rw [hu]; exact ⟨es, rfl, by omega, e2⟩⟩
        rw [e1]
        refine VF.sl len es.flatten b o cap (fun j => (W.cell? ⟨b, o + j, none⟩).getD undef) hl hI (fun j hj => ?_) (fun j hj => ?_)
        · obtain ⟨u, k1, _⟩ := e4 j hj
          rw [k1]; rfl
        · obtain ⟨u, k1, k2⟩ := e4 j hj
          simp only [k1, Option.getD_some]; exact k2
    · rename_i fs hu
      simp only [Bool.and_eq_true, List.all_eq_true] at hp
      obtain ⟨xs, m, rfl, rfl, hl, hlen, hf⟩ := DataW.trod_struct hu h
      have go : ∀ (l : List Field) (o : Nat), contigB P (P.cellsOf t) o l = true → (∀ (i : Nat) (f : Field), l[i]? = some f → plainT P n f.type = true ∧ ∃ y, DataW.trod enc P W 0 (fun _ => true) true m f.type ((cs.drop f.offset).take (P.cellsOf f.type)) = some y) →
          ∃ es : List (List FV), CsF W (Cx.base W).I es.flatten (cs.drop o) ∧ es.length = l.length ∧ ∀ (i : Nat) (f : Field), l[i]? = some f → ∃ x, es[i]? = some x ∧ Shp P n f.type x := by
        intro l
        induction l with
        | nil =>
          intro o ho _
          simp only [contigB, beq_iff_eq] at ho
          refine ⟨[], ?_, rfl, fun i f hi => by simp at hi⟩
          rw [List.drop_eq_nil_of_le (by omega)]; exact CsF.nil
        | cons f l ihl =>
          intro o ho hall
          simp only [contigB, Bool.and_eq_true, beq_iff_eq] at ho
          obtain ⟨es, k1, k2, k3⟩ := ihl _ ho.2 fun i f' hi => hall (i + 1) f' hi
          obtain ⟨hp0, y, hy⟩ := hall 0 f rfl
          obtain ⟨ys, q1, q2⟩ := ih _ _ _ _ hp0 hy
          rw [ho.1] at q1
          refine ⟨ys :: es, ?_, by simp [k2], fun i f' hi => ?_⟩
          · have : cs.drop o = (cs.drop o).take (P.cellsOf f.type) ++ cs.drop (o + P.cellsOf f.type) := by
              rw [← List.drop_drop, List.take_append_drop]
            rw [this]
            exact q1.app k1
          · cases i with
            | zero =>
              have : f = f' := by simpa using hi
              subst this
              exact ⟨ys, rfl, q2⟩
            | succ i => exact k3 i f' hi
      obtain ⟨es, k1, k2, k3⟩ := go fs.toList 0 hp.1 fun i f hi => by
        have hi' : fs[i]? = some f := by simpa using hi
        refine ⟨hp.2 f (List.mem_of_getElem? hi), ?_⟩
        have := hf i f hi'
        have hlt : i < xs.length := by rw [hlen]; exact (Array.getElem?_eq_some_iff.1 hi').1
        rw [List.getElem?_eq_getElem hlt] at this
        exact ⟨_, this⟩
      refine ⟨es.flatten, by simpa using k1, ?_⟩
      unfold Shp; rw [hu]
      exact ⟨es, rfl, by simpa using k2, fun i f hi => k3 i f (by simpa using hi)⟩
    · cases hp
theorem read_one {t : TypeId} {v : Value} {d : DataW H} {ps : List MemPlace} (n : Nat) (hp : plainT P n t = true) (h : DataW.Trod enc P W 0 (fun _ => true) true t v d ps) :
    ∃ ys, CsF W (Cx.base W).I ys v.cells.toList ∧ Shp P n t ys := by
  obtain ⟨fuel, hf⟩ := h
  exact read_all n fuel t _ _ hp hf
theorem CsF.agg {ys : List FV} {cs : Array Value} (h : CsF W (Cx.base W).I ys cs.toList) : VA W (Cx.base W) [] (.agg (ys.map .f)) (.agg cs) := by
  refine .agg _ _ (by simpa using h.1.symm) fun j hj => ?_
  have hj' : j < ys.length := by simpa using hj
  obtain ⟨u, h1, h2⟩ := h.2 j hj'
  refine ⟨u, by simpa using h1, ?_⟩
  rw [List.getElem_map]; exact h2
theorem CsF.val {y : FV} {v : Value} (h : CsF W (Cx.base W).I [y] [v]) : VA W (Cx.base W) [] (.c (.f y)) v := by
  obtain ⟨u, h1, h2⟩ := h.2 0 (by simp)
  have : v = u := by simpa using h1
  subst this
  exact .c _ _ h2
theorem shp_list {α : Type} {E : α → List FV} {F : α → Prop} : ∀ {es : List (List FV)}, (∀ x ∈ es, ∃ a, x = E a ∧ F a) → ∃ xs : List α, es.length = xs.length ∧ es.flatten = fl E xs ∧ ∀ a ∈ xs, F a
  | [], _ => ⟨[], rfl, rfl, by simp⟩
  | x :: es, h => by
    obtain ⟨a, rfl, h1⟩ := h x (by simp)
    obtain ⟨xs, h2, h3, h4⟩ := shp_list (es := es) fun y hy => h y (by simp [hy])
    exact ⟨a :: xs, by simp [h2], by simp [fl, h3], fun b hb => by
      rcases List.mem_cons.1 hb with rfl | hb
      · exact h1
      · exact h4 b hb⟩
end
end Go.Lg

set_option linter.unusedSimpArgs false
set_option linter.unusedVariables false
set_option maxRecDepth 100000
namespace Go.Lg
open Go.Proofs
section
variable {P : Program} {n : Nat} {t e : TypeId} {ys : List FV}
theorem shp_int {k : IntKind} (hu : P.underlying t = some (.int k)) (h : Shp P (n + 1) t ys) : ∃ x, ys = [.int k x] ∧ (Lit.int k x).wf = true := by
  unfold Shp at h; rw [hu] at h; exact h
theorem shp_slice {α : Type} {E : α → List FV} {F : α → Prop} (hu : P.underlying t = some (.slice e)) (he : ∀ x, Shp P n e x → ∃ a, x = E a ∧ F a) (h : Shp P (n + 1) t ys) : ∃ xs : List α, ys = [fsl E xs] ∧ xs.length ≤ 9223372036854775807 ∧ ∀ a ∈ xs, F a := by
  unfold Shp at h; rw [hu] at h
  obtain ⟨es, rfl, h1, h2⟩ := h
  obtain ⟨xs, h3, h4, h5⟩ := shp_list (E := E) (F := F) fun x hx => he x (h2 x hx)
  exact ⟨xs, by rw [h3, h4], by omega, h5⟩
theorem shp_ints {k : IntKind} (hu : P.underlying t = some (.slice e)) (he : P.underlying e = some (.int k)) (h : Shp P (n + 2) t ys) : ∃ xs : List Int, ys = [fsl (eI k) xs] ∧ xs.length ≤ 9223372036854775807 ∧ ∀ a ∈ xs, (Lit.int k a).wf = true :=
  shp_slice hu (fun x hx => shp_int he hx) h
theorem shp_struct3 {f0 f1 f2 : Field} (hu : P.underlying t = some (.struct #[f0, f1, f2])) (h : Shp P (n + 1) t ys) : ∃ a b c, ys = a ++ (b ++ c) ∧ Shp P n f0.type a ∧ Shp P n f1.type b ∧ Shp P n f2.type c := by
  unfold Shp at h; rw [hu] at h
  obtain ⟨es, rfl, h1, h2⟩ := h
  have h1 : es.length = 3 := h1
  match es, h1 with
  | [a, b, c], _ =>
    obtain ⟨_, q0, p0⟩ := h2 0 f0 rfl
    obtain ⟨_, q1, p1⟩ := h2 1 f1 rfl
    obtain ⟨_, q2, p2⟩ := h2 2 f2 rfl
    cases q0; cases q1; cases q2
    exact ⟨a, b, c, by simp, p0, p1, p2⟩
end
def wRs (rs : List Rul) : Nat := rs.length + (rs.map fun r => r.cells.length).sum
def okRs (rs : List Rul) : Prop := rs.length ≤ 9223372036854775807 ∧ ∀ r ∈ rs, r.cells.length ≤ 9223372036854775807
def okP' (p : Puz) : Prop := p.given.length ≤ 9223372036854775807 ∧ okRs p.rules
abbrev fP (p : Puz) : List FV := [.int .i64 p.size, fints p.given, fsl eR p.rules]
theorem shp_rule {n : Nat} {ys : List FV} (h : Shp Try.prog (n + 3) 126 ys) : ∃ r : Rul, ys = eR r ∧ r.cells.length ≤ 9223372036854775807 := by
  obtain ⟨a, b, c, rfl, ha, hb, hc⟩ := shp_struct3 Try.underlying126 h
  obtain ⟨x, rfl, _⟩ := shp_int Try.underlying3 ha
  obtain ⟨xs, rfl, h1, _⟩ := shp_ints Try.underlying23 Try.underlying3 hb
  obtain ⟨z, rfl, _⟩ := shp_int Try.underlying3 hc
  exact ⟨⟨x, xs, z⟩, rfl, h1⟩
theorem shp_puzzle {n : Nat} {ys : List FV} (h : Shp Try.prog (n + 5) 46 ys) : ∃ p : Puz, ys = fP p ∧ okP' p := by
  obtain ⟨a, b, c, rfl, ha, hb, hc⟩ := shp_struct3 Try.underlying46 h
  obtain ⟨x, rfl, _⟩ := shp_int Try.underlying3 ha
  obtain ⟨xs, rfl, h1, _⟩ := shp_ints Try.underlying23 Try.underlying3 hb
  obtain ⟨rs, rfl, h2, h3⟩ := shp_slice (E := eR) (F := fun r => r.cells.length ≤ 9223372036854775807) Try.underlying44 (fun x hx => shp_rule hx) hc
  exact ⟨⟨x, xs, rs⟩, rfl, h1, h2, h3⟩
end Go.Lg

set_option linter.unusedSimpArgs false
set_option linter.unusedVariables false
set_option maxRecDepth 100000
namespace Go.Lg
open Go.Proofs
theorem prodV_app (vs : List Int) (v : Int) : prodV (vs ++ [v]) = prodV vs * v := by simp [prodV]
theorem prodV_bound : ∀ (n : Nat) (vs : List Int), vs.length ≤ n → (∀ v ∈ vs, 0 ≤ v ∧ v ≤ 4) → 0 ≤ prodV vs ∧ prodV vs ≤ 4 ^ n := by
  intro n
  induction n with
  | zero => intro vs h _; have : vs = [] := List.eq_nil_of_length_eq_zero (by omega); subst this; simp [prodV]
  | succ n ih =>
    intro vs h hv
    rcases List.eq_nil_or_concat vs with rfl | ⟨ws, w, rfl⟩
    · exact ⟨by simp [prodV], by simp only [prodV, List.foldl_nil]; have : (0 : Int) < 4 ^ (n + 1) := Int.pow_pos (by omega); omega⟩
    · obtain ⟨h1, h2⟩ := ih ws (by simp at h; omega) fun v hm => hv v (by simp [hm])
      have hw := hv w (by simp)
      rw [List.concat_eq_append, prodV_app]
      refine ⟨Int.mul_nonneg h1 hw.1, ?_⟩
      have := Int.mul_le_mul h2 hw.2 hw.1 (by omega)
      rw [Int.pow_succ]
      exact this
theorem prodV_take {vs : List Int} (h : vs.length ≤ 4) (hv : ∀ v ∈ vs, 0 ≤ v ∧ v ≤ 4) (k : Nat) : 0 ≤ prodV (vs.take k) ∧ prodV (vs.take k) ≤ 256 := by
  have := prodV_bound 4 (vs.take k) (by simp; omega) fun v hm => hv v (List.mem_of_mem_take hm)
  omega
theorem sum_take {vs : List Int} (h : vs.length ≤ 4) (hv : ∀ v ∈ vs, 0 ≤ v ∧ v ≤ 4) (k : Nat) : 0 ≤ (vs.take k).sum ∧ (vs.take k).sum ≤ 16 := by
  have gen : ∀ (ws : List Int), (∀ v ∈ ws, 0 ≤ v ∧ v ≤ 4) → 0 ≤ ws.sum ∧ ws.sum ≤ 4 * ws.length := by
    intro ws hw
    induction ws with
    | nil => simp
    | cons w ws ih =>
      have h1 := ih fun v hm => hw v (by simp [hm])
      have h2 := hw w (by simp)
      simp only [List.sum_cons, List.length_cons]
      push_cast
      omega
  have := gen (vs.take k) fun v hm => hv v (List.mem_of_mem_take hm)
  have : (vs.take k).length ≤ 4 := by simp; omega
  omega
theorem nodup_take {vs : List Int} {k : Nat} (h : k < vs.length) : (vs.take (k + 1)).Nodup ↔ (vs.take k).Nodup ∧ ∀ i : Nat, i < k → nth vs i ≠ nth vs k := by
  rw [take_succ_nth h, List.nodup_append]
  constructor
  · rintro ⟨h1, _, h3⟩
    refine ⟨h1, fun i hi => h3 _ ?_ _ (by simp)⟩
    rw [nth_eq (by omega)]
    simp only [Int.toNat_natCast]
    exact List.mem_take_iff_getElem.2 ⟨i, by omega, rfl⟩
  · rintro ⟨h1, h2⟩
    refine ⟨h1, by simp, fun a ha b hb => ?_⟩
    obtain ⟨i, hi, rfl⟩ := List.mem_take_iff_getElem.1 ha
    have := h2 i (by omega)
    rw [nth_eq (by omega)] at this
    simp only [Int.toNat_natCast] at this
    simp only [List.mem_singleton] at hb
    rw [hb]
    exact this
theorem l4Holds_run (r : Rul) (vs : List Int) (hl : vs.length ≤ 4) (hv : ∀ v ∈ vs, 0 ≤ v ∧ v ≤ 4) (hk : r.kind = 1 ∨ r.kind = 2 ∨ r.kind = 3 ∨ 2 ≤ vs.length) : Reads Try.prog 165 [aR r, ints vs] (bool (holdsV r vs)) := by
  have hnv : ∀ k : Nat, k < vs.length → 0 ≤ nth vs k ∧ nth vs k ≤ 4 := fun k hk => hv _ (by rw [nth_eq (by omega)]; exact List.getElem_mem _)
  have hpt := prodV_take hl hv
  have hst := sum_take hl hv
  refine RunCall.cw (c := _) Try.func165 rfl (n := 86) Try.ntmps165 (rs := [.tmp 4]) rfl ?_
  simp only [List.length_cons, List.length_nil, Nat.reduceAdd, Nat.reduceSub, List.replicate, List.cons_append, List.nil_append]
  simp (maxSteps := 1000000) (disch := omega) only [go_sem, Nat.reduceAdd, Nat.reduceMul, Nat.reduceSub, Nat.reduceEqDiff, Nat.reduceLeDiff]
  intro g
  refine loop_rule (fun k : Nat => vs.length - k) (fun k => k ≤ vs.length) (fun k => [.a, .k, .k, .a, .a, .p (int (vs.take k).sum), .p (int (prodV (vs.take k))), .p (bool (decide (vs.take k).Nodup)), .p (int k), .a, .a, .a, .a, .a, .a, .a, .a, .a, .a, .a, .a, .a, .a, .a, .a, .a, .a, .a, .a, .a, .a, .a, .a, .a, .a, .a, .a, .a, .a, .a, .a, .a, .a, .a, .a, .a, .a, .a, .a, .a, .a, .a, .a, .a, .a, .a, .a, .a, .a, .a, .a, .a, .a, .a, .a, .a, .a, .a, .a, .a, .a, .a, .a, .a, .a, .a, .a, .a, .a, .a, .a, .a, .a, .a, .a, .a]) (fun _ => [some ⟨g, 1, cR r⟩]) 0 (Nat.zero_le _) (by simp (maxSteps := 1000000) (disch := omega) only [go_sem, Nat.reduceAdd, Nat.reduceMul, Nat.reduceSub, Nat.reduceEqDiff, Nat.reduceLeDiff]; simp [prodV]) (HLe.refl _) ?_
  intro k hk'
  simp (maxSteps := 1000000) (disch := omega) only [go_sem, Nat.reduceAdd, Nat.reduceMul, Nat.reduceSub, Nat.reduceEqDiff, Nat.reduceLeDiff]
  (first | with_reducible refine condK_dec (fun h1 => ?_) (fun h1 => ?_) | with_reducible refine condK_ndec (fun h1 => ?_) (fun h1 => ?_) | with_reducible refine condK_nb (fun h1 => ?_) (fun h1 => ?_) | refine condK_b (fun h1 => ?_) (fun h1 => ?_))
  · have h1 : k < vs.length := by omega
    have e1 : (vs.take (k + 1)).sum = (vs.take k).sum + nth vs k := by rw [take_succ_nth h1]; simp
    have e2 : prodV (vs.take (k + 1)) = prodV (vs.take k) * nth vs k := by rw [take_succ_nth h1, prodV_app]
    have b1 := hst (k + 1)
    have b2 := hpt (k + 1)
    rw [e1] at b1
    rw [e2] at b2
    simp (maxSteps := 1000000) (disch := omega) only [go_sem, Nat.reduceAdd, Nat.reduceMul, Nat.reduceSub, Nat.reduceEqDiff, Nat.reduceLeDiff]
    refine loop_rule (fun j : Nat => k - j) (fun j => j ≤ k) (fun j => [.a, .k, .k, .a, .a, .k, .k, .p (bool (decide ((vs.take k).Nodup ∧ ∀ i : Nat, i < j → nth vs i ≠ nth vs k))), .k, .p (int j), .a, .a, .a, .a, .a, .a, .a, .a, .a, .a, .a, .a, .a, .a, .a, .a, .a, .a, .a, .a, .a, .a, .a, .a, .a, .a, .a, .a, .a, .a, .a, .a, .a, .a, .a, .a, .a, .a, .a, .a, .a, .a, .a, .a, .a, .a, .a, .a, .a, .a, .a, .a, .a, .a, .a, .a, .a, .a, .a, .a, .a, .a, .a, .a, .a, .a, .a, .a, .a, .a, .a, .a, .a, .a, .a, .a]) (fun _ => [some ⟨g, 1, cR r⟩]) 0 (Nat.zero_le _) (by simp (maxSteps := 1000000) (disch := omega) only [go_sem, Nat.reduceAdd, Nat.reduceMul, Nat.reduceSub, Nat.reduceEqDiff, Nat.reduceLeDiff]; exact ⟨by simp, rfl⟩) (HLe.refl _) ?_
    intro j hj
    have hd : ((vs.take k).Nodup ∧ ∀ i : Nat, i < j + 1 → nth vs i ≠ nth vs k) ↔ ((vs.take k).Nodup ∧ ∀ i : Nat, i < j → nth vs i ≠ nth vs k) ∧ nth vs j ≠ nth vs k := by
      constructor
      · rintro ⟨a, b⟩
        exact ⟨⟨a, fun i hi => b i (by omega)⟩, b j (by omega)⟩
      · rintro ⟨⟨a, b⟩, c⟩
        refine ⟨a, fun i hi => ?_⟩
        by_cases hij : i = j
        · rw [hij]; exact c
        · exact b i (by omega)
    generalize hb : decide ((vs.take k).Nodup ∧ ∀ i : Nat, i < j → nth vs i ≠ nth vs k) = b
    cases b with
    | false =>
      simp (maxSteps := 1000000) (disch := omega) only [go_sem, Nat.reduceAdd, Nat.reduceMul, Nat.reduceSub, Nat.reduceEqDiff, Nat.reduceLeDiff]
      (first | with_reducible refine condK_dec (fun h2 => ?_) (fun h2 => ?_) | with_reducible refine condK_ndec (fun h2 => ?_) (fun h2 => ?_) | with_reducible refine condK_nb (fun h2 => ?_) (fun h2 => ?_) | refine condK_b (fun h2 => ?_) (fun h2 => ?_))
      · have h2 : j < k := by omega
        simp (maxSteps := 1000000) (disch := omega) only [go_sem, Nat.reduceAdd, Nat.reduceMul, Nat.reduceSub, Nat.reduceEqDiff, Nat.reduceLeDiff]
        refine drawP_q foll (by kernel_rfl) ?_
        simp (maxSteps := 1000000) (disch := omega) only [go_sem, Nat.reduceBEq, Bool.true_or, Nat.reduceAdd, Nat.reduceMul, Nat.reduceSub, Nat.reduceEqDiff, Nat.reduceLeDiff]
        refine ⟨j + 1, ⟨by omega, by omega⟩, ⟨?_, by push_cast; omega⟩, HLe.refl _⟩
        rw [eq_comm, decide_eq_false_iff_not, hd]
        exact fun h => (decide_eq_false_iff_not.1 hb) h.1
      · have hjk : j = k := by omega
        simp (maxSteps := 1000000) (disch := omega) only [go_sem, Nat.reduceAdd, Nat.reduceMul, Nat.reduceSub, Nat.reduceEqDiff, Nat.reduceLeDiff]
        refine ⟨k + 1, ⟨by omega, by omega⟩, ⟨e1.symm, e2.symm, ?_, by push_cast; omega⟩, HLe.refl _⟩
        rw [eq_comm, decide_eq_false_iff_not, nodup_take h1, ← hjk]
        rw [hjk] at hb ⊢
        exact decide_eq_false_iff_not.1 hb
    | true =>
      simp (maxSteps := 1000000) (disch := omega) only [go_sem, Nat.reduceAdd, Nat.reduceMul, Nat.reduceSub, Nat.reduceEqDiff, Nat.reduceLeDiff]
      (first | with_reducible refine condK_dec (fun h2 => ?_) (fun h2 => ?_) | with_reducible refine condK_ndec (fun h2 => ?_) (fun h2 => ?_) | with_reducible refine condK_nb (fun h2 => ?_) (fun h2 => ?_) | refine condK_b (fun h2 => ?_) (fun h2 => ?_))
      · have h2 : j < k := by omega
        have hjl : j < vs.length := by omega
        simp (maxSteps := 1000000) (disch := omega) only [go_sem, Nat.reduceAdd, Nat.reduceMul, Nat.reduceSub, Nat.reduceEqDiff, Nat.reduceLeDiff]
        refine drawP_q foll (by kernel_rfl) ?_
        simp (maxSteps := 1000000) (disch := omega) only [go_sem, Nat.reduceBEq, Bool.true_or, Nat.reduceAdd, Nat.reduceMul, Nat.reduceSub, Nat.reduceEqDiff, Nat.reduceLeDiff]
        refine ⟨j + 1, ⟨by omega, by omega⟩, ⟨?_, by push_cast; omega⟩, HLe.refl _⟩
        have hb' := of_decide_eq_true hb
        by_cases he : nth vs (j : Int) = nth vs (k : Int)
        · rw [decide_eq_true he, eq_comm, Bool.not_true, decide_eq_false_iff_not, hd]
          exact fun h => h.2 he
        · rw [decide_eq_false he, eq_comm, Bool.not_false, decide_eq_true_eq, hd]
          exact ⟨hb', he⟩
      · have hjk : j = k := by omega
        simp (maxSteps := 1000000) (disch := omega) only [go_sem, Nat.reduceAdd, Nat.reduceMul, Nat.reduceSub, Nat.reduceEqDiff, Nat.reduceLeDiff]
        refine ⟨k + 1, ⟨by omega, by omega⟩, ⟨e1.symm, e2.symm, ?_, by push_cast; omega⟩, HLe.refl _⟩
        rw [eq_comm, decide_eq_true_eq, nodup_take h1]
        rw [hjk] at hb
        exact of_decide_eq_true hb
  · simp (maxSteps := 1000000) (disch := omega) only [go_sem, Nat.reduceAdd, Nat.reduceMul, Nat.reduceSub, Nat.reduceEqDiff, Nat.reduceLeDiff]
    rw [List.take_of_length_le (by omega)]
    have hkl : vs.take k = vs := List.take_of_length_le (by omega)
    (first | with_reducible refine condK_dec (fun d1 => ?_) (fun d1 => ?_) | with_reducible refine condK_ndec (fun d1 => ?_) (fun d1 => ?_) | with_reducible refine condK_nb (fun d1 => ?_) (fun d1 => ?_) | refine condK_b (fun d1 => ?_) (fun d1 => ?_))
    · simp (maxSteps := 1000000) (disch := omega) only [go_sem, Nat.reduceAdd, Nat.reduceMul, Nat.reduceSub, Nat.reduceEqDiff, Nat.reduceLeDiff]
      unfold holdsV
      rw [if_pos d1]
    simp (maxSteps := 1000000) (disch := omega) only [go_sem, Nat.reduceAdd, Nat.reduceMul, Nat.reduceSub, Nat.reduceEqDiff, Nat.reduceLeDiff]
    (first | with_reducible refine condK_dec (fun d2 => ?_) (fun d2 => ?_) | with_reducible refine condK_ndec (fun d2 => ?_) (fun d2 => ?_) | with_reducible refine condK_nb (fun d2 => ?_) (fun d2 => ?_) | refine condK_b (fun d2 => ?_) (fun d2 => ?_))
    · simp (maxSteps := 1000000) (disch := omega) only [go_sem, Nat.reduceAdd, Nat.reduceMul, Nat.reduceSub, Nat.reduceEqDiff, Nat.reduceLeDiff]
      unfold holdsV
      rw [if_neg d1, if_pos d2]
    simp (maxSteps := 1000000) (disch := omega) only [go_sem, Nat.reduceAdd, Nat.reduceMul, Nat.reduceSub, Nat.reduceEqDiff, Nat.reduceLeDiff]
    (first | with_reducible refine condK_dec (fun d3 => ?_) (fun d3 => ?_) | with_reducible refine condK_ndec (fun d3 => ?_) (fun d3 => ?_) | with_reducible refine condK_nb (fun d3 => ?_) (fun d3 => ?_) | refine condK_b (fun d3 => ?_) (fun d3 => ?_))
    · simp (maxSteps := 1000000) (disch := omega) only [go_sem, Nat.reduceAdd, Nat.reduceMul, Nat.reduceSub, Nat.reduceEqDiff, Nat.reduceLeDiff]
      unfold holdsV
      rw [if_neg d1, if_neg d2, if_pos d3]
    have hl2 : 2 ≤ vs.length := by omega
    simp (maxSteps := 1000000) (disch := omega) only [go_sem, Nat.reduceAdd, Nat.reduceMul, Nat.reduceSub, Nat.reduceEqDiff, Nat.reduceLeDiff]
    have v0 : 0 ≤ nth vs (0 : Int) ∧ nth vs (0 : Int) ≤ 4 := hnv 0 (by omega)
    have v1 : 0 ≤ nth vs (1 : Int) ∧ nth vs (1 : Int) ≤ 4 := hnv 1 (by omega)
    (first | with_reducible refine condK_dec (fun d4 => ?_) (fun d4 => ?_) | with_reducible refine condK_ndec (fun d4 => ?_) (fun d4 => ?_) | with_reducible refine condK_nb (fun d4 => ?_) (fun d4 => ?_) | refine condK_b (fun d4 => ?_) (fun d4 => ?_))
    · simp (maxSteps := 1000000) (disch := omega) only [go_sem, Nat.reduceAdd, Nat.reduceMul, Nat.reduceSub, Nat.reduceEqDiff, Nat.reduceLeDiff]
      refine drawP_q foll (by kernel_rfl) ?_
      simp (maxSteps := 1000000) (disch := omega) only [go_sem, Nat.reduceBEq, Bool.true_or, Nat.reduceAdd, Nat.reduceMul, Nat.reduceSub, Nat.reduceEqDiff, Nat.reduceLeDiff]
      unfold holdsV
      rw [if_neg d1, if_neg d2, if_neg d3, if_pos d4]
    · simp (maxSteps := 1000000) (disch := omega) only [go_sem, Nat.reduceAdd, Nat.reduceMul, Nat.reduceSub, Nat.reduceEqDiff, Nat.reduceLeDiff]
      refine drawP_q foll (by kernel_rfl) ?_
      simp (maxSteps := 1000000) (disch := omega) only [go_sem, Nat.reduceBEq, Bool.true_or, Nat.reduceAdd, Nat.reduceMul, Nat.reduceSub, Nat.reduceEqDiff, Nat.reduceLeDiff]
      unfold holdsV
      rw [if_neg d1, if_neg d2, if_neg d3, if_neg d4, show (0 : Int) - (nth vs 0 - nth vs 1) = nth vs 1 - nth vs 0 by omega]
end Go.Lg

set_option linter.unusedSimpArgs false
set_option linter.unusedVariables false
set_option maxRecDepth 100000
namespace Go.Lg
attribute [-go_sem] appendM
inductive OwnE (H : Heap) : CV → List Int → List Nat → Prop where
  | m : OwnE H .emp [] []
  | o (id g : Nat) (xs : List Int) (h : look H id g = some ⟨g, 1, cl (eI .i64) xs⟩) : OwnE H (.own id g 0 xs.length none) xs [id]
theorem OwnE.frzC {H : Heap} {c : CV} {xs : List Int} {S : List Nat} (h : OwnE H c xs S) : Lg.frzC H c = some (.f (fints xs)) := by
  cases h with
  | m => rfl
  | o id g xs h => exact (OwnI.o id g none xs [] (by rw [List.append_nil]; exact h)).frzC
theorem OwnE.same {H H' : Heap} {c : CV} {xs : List Int} {S : List Nat} (h : OwnE H c xs S) (hs : ∀ i ∈ S, H'[i]? = H[i]?) : OwnE H' c xs S := by
  cases h with
  | m => exact .m
  | o id g xs h => exact .o id g xs (by unfold look at *; rw [hs id (by simp)]; exact h)
theorem OwnE.shift {H0 H : Heap} {c : CV} {xs : List Int} {S : List Nat} (h : OwnE H c xs S) : OwnE (H0 ++ shiftH H0.length H) (shiftC H0.length c) xs (S.map (· + H0.length)) := by
  cases h with
  | m => exact .m
  | o id g xs h =>
    refine .o (id + H0.length) g xs ?_
    rw [look_shiftH h]
    simp only [shiftB, shift_cl]
theorem OwnE.lt {H : Heap} {c : CV} {xs : List Int} {S : List Nat} (h : OwnE H c xs S) : ∀ i ∈ S, i < H.length := by
  cases h with
  | m => simp
  | o id g xs h => intro i hi; have : i = id := by simpa using hi
                   subst this; exact (List.getElem?_eq_some_iff.1 (look_some h).1).1
theorem OwnE.nd {H : Heap} {c : CV} {xs : List Int} {S : List Nat} (h : OwnE H c xs S) : S.Nodup := by cases h <;> simp
theorem OwnE.inv {H : Heap} {c : CV} {xs : List Int} {S : List Nat} (h : OwnE H c xs S) (hn : xs ≠ []) : ∃ id g, c = .own id g 0 xs.length none ∧ S = [id] ∧ look H id g = some ⟨g, 1, cl (eI .i64) xs⟩ := by
  cases h with
  | m => exact absurd rfl hn
  | o id g xs h => exact ⟨id, g, rfl, rfl, h⟩
end Go.Lg

set_option linter.unusedSimpArgs false
set_option linter.unusedVariables false
set_option maxRecDepth 100000
namespace Go.Lg
open Go.Proofs
attribute [-go_sem] appendM lenO
theorem sliceOf_of' {P : Program} {t e : TypeId} {ti ei : TI} (ht : tinf P t = some ti) (hk : ti.k = .slice e) (he : tinf P e = some ei) : sliceOf P t = some ei := by
  unfold sliceOf; simp only [ht, hk, he]
theorem OwnI.inv' {H : Heap} {c : CV} {xs : List Int} {S : List Nat} (h : OwnI H c xs S) (hn : 0 < xs.length) : ∃ id g lim ys, c = .own id g 0 xs.length lim ∧ S = [id] ∧ look H id g = some ⟨g, 1, cl (eI .i64) (xs ++ ys)⟩ := by
  cases h with
  | e => simp at hn
  | o id g lim xs ys h => exact ⟨id, g, lim, ys, rfl, rfl, h⟩
end Go.Lg
