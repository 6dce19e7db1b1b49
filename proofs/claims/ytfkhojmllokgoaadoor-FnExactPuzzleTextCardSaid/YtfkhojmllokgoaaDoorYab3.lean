/- LgW, GpH, cut to what is needed. -/
import Derived.Test.YtfkhojmllokgoaaDoorYab2
import Derived.Test.YtfkhojmllokgoaaDoorYab0
import Derived.Test.YtfkhojmllokgoaaDoorYab1
open Nat renaming reduceAdd → zA, reduceMul → zM, reduceSub → zS, reduceEqDiff → zE, reduceLeDiff → zL
set_option linter.unusedSimpArgs false
set_option linter.unusedVariables false
set_option maxRecDepth 100000
namespace Go.Lg
open Go.Proofs
section
variable {P : Program} {n : Nat} {t e : TypeId} {ys : List FV}
theorem shp_int {k : IntKind} (hu : P.underlying t = some (.int k)) (h : Shp P (n + 1) t ys) : ∃ x, ys = [.int k x] ∧ (Lit.int k x).wf = true := by
  unfold Shp at h; rw [hu] at h; exact h
theorem shp_slice {α : Type} {E : α → List FV} {F : α → Prop} (hu : P.underlying t = some (.slice e)) (he : ∀ x, Shp P n e x → ∃ a, x = E a ∧ F a) (h : Shp P (n + 1) t ys) : ∃ xs : List α, ys = [fsl E xs] ∧ xs.length ≤ 9223372036854775807 ∧ ∀ a ∈ xs, F a := by
  unfold Shp at h; rw [hu] at h
  obtain ⟨es, rfl, h1, h2⟩ := h
  obtain ⟨xs, h3, h4, h5⟩ := shp_list (E := E) (F := F) fun x hx => he x (h2 x hx)
  exact ⟨xs, by rw [h3, h4], by omega, h5⟩
theorem shp_ints {k : IntKind} (hu : P.underlying t = some (.slice e)) (he : P.underlying e = some (.int k)) (h : Shp P (n + 2) t ys) : ∃ xs : List Int, ys = [fsl (eI k) xs] ∧ xs.length ≤ 9223372036854775807 ∧ ∀ a ∈ xs, (Lit.int k a).wf = true :=
  shp_slice hu (fun x hx => shp_int he hx) h
theorem shp_struct3 {f0 f1 f2 : Field} (hu : P.underlying t = some (.struct #[f0, f1, f2])) (h : Shp P (n + 1) t ys) : ∃ a b c, ys = a ++ (b ++ c) ∧ Shp P n f0.type a ∧ Shp P n f1.type b ∧ Shp P n f2.type c := by
  unfold Shp at h; rw [hu] at h
  obtain ⟨es, rfl, h1, h2⟩ := h
  have h1 : es.length = 3 := h1
  match es, h1 with
  | [a, b, c], _ =>
    obtain ⟨_, q0, p0⟩ := h2 0 f0 rfl
    obtain ⟨_, q1, p1⟩ := h2 1 f1 rfl
    obtain ⟨_, q2, p2⟩ := h2 2 f2 rfl
    cases q0; cases q1; cases q2
    exact ⟨a, b, c, by simp, p0, p1, p2⟩
end
def wRs (rs : List Rul) : Nat := rs.length + (rs.map fun r => r.cells.length).sum
def okRs (rs : List Rul) : Prop := rs.length ≤ 9223372036854775807 ∧ ∀ r ∈ rs, r.cells.length ≤ 9223372036854775807
def okP' (p : Puz) : Prop := p.given.length ≤ 9223372036854775807 ∧ okRs p.rules
abbrev fP (p : Puz) : List FV := [.int .i64 p.size, fints p.given, fsl eR p.rules]
theorem shp_rule {n : Nat} {ys : List FV} (h : Shp Tryd.prog (n + 3) 34 ys) : ∃ r : Rul, ys = eR r ∧ r.cells.length ≤ 9223372036854775807 := by
  obtain ⟨a, b, c, rfl, ha, hb, hc⟩ := shp_struct3 Tryd.underlying34 h
  obtain ⟨x, rfl, _⟩ := shp_int Tryd.underlying3 ha
  obtain ⟨xs, rfl, h1, _⟩ := shp_ints Tryd.underlying32 Tryd.underlying3 hb
  obtain ⟨z, rfl, _⟩ := shp_int Tryd.underlying3 hc
  exact ⟨⟨x, xs, z⟩, rfl, h1⟩
theorem shp_puzzle {n : Nat} {ys : List FV} (h : Shp Tryd.prog (n + 5) 43 ys) : ∃ p : Puz, ys = fP p ∧ okP' p := by
  obtain ⟨a, b, c, rfl, ha, hb, hc⟩ := shp_struct3 Tryd.underlying43 h
  obtain ⟨x, rfl, _⟩ := shp_int Tryd.underlying3 ha
  obtain ⟨xs, rfl, h1, _⟩ := shp_ints Tryd.underlying32 Tryd.underlying3 hb
  obtain ⟨rs, rfl, h2, h3⟩ := shp_slice (E := eR) (F := fun r => r.cells.length ≤ 9223372036854775807) Tryd.underlying41 (fun x hx => shp_rule hx) hc
  exact ⟨⟨x, xs, rs⟩, rfl, h1, h2, h3⟩
end Go.Lg

namespace Go.Lg
open Go.Proofs
def szI (n : Nat) (left : Int) : Int := if left - n < 0 then -1 else left - n
def wP (p : Puz) : Nat := p.given.length + wRs p.rules
theorem szI_add (a b : Nat) (left : Int) : (if szI a left < 0 then -1 else szI b (szI a left)) = szI (a + b) left := by
  unfold szI
  split <;> split <;> (try split) <;> omega
theorem szI_1 {n : Nat} {left : Int} (h : left - n < 0) : -1 = szI n left := by unfold szI; rw [if_pos h]
theorem szI_2 {n : Nat} {left : Int} (h : 0 ≤ left - n) : szI n left = left - n := by unfold szI; rw [if_neg (by omega)]
theorem szI_ok {n : Nat} {left : Int} (h : ¬ szI n left < 0) : (n : Int) ≤ left ∧ szI n left = left - n := by unfold szI at *; split at h <;> simp_all <;> omega
theorem szI_neg {n : Nat} {left : Int} (h : szI n left < 0) : szI n left = -1 := by unfold szI at *; split at h <;> simp_all <;> omega
theorem szI_le {n : Nat} {left : Int} (h0 : 0 ≤ left) : szI n left ≤ left ∧ -1 ≤ szI n left := by unfold szI; split <;> omega
theorem szIntS_run (xs : List Int) (left : Int) (hl : 0 ≤ left ∧ left ≤ 1048576) (hx : xs.length ≤ 9223372036854775807) : Reads Tryd.prog 33 [ints xs, int left] (int (szI xs.length left)) := by
  refine RunCall.cw (c := _) Tryd.func33 rfl (n := 12) Tryd.ntmps33 (rs := [.tmp 4]) rfl ?_
  simp only[List.length_cons,List.length_nil,zA,zS,List.replicate,List.cons_append,List.nil_append]
  simp(maxSteps:=999999)(disch:=omega)only[go_sem,zA,zM,zS,zE,zL]
  ((first|(with_reducible first|refine condK_dec ?_ ?_|refine condK_ndec ?_ ?_|refine condK_nb ?_ ?_)|refine condK_b ?_ ?_) <;> intro h)
  · simp(maxSteps:=999999)(disch:=omega)only[go_sem,zA,zM,zS,zE,zL]
    simp [szI, h]
  · simp(maxSteps:=999999)(disch:=omega)only[go_sem,zA,zM,zS,zE,zL]
    simp [szI, h]
theorem szRule_run (r : Rul) (left : Int) (hl : 0 ≤ left ∧ left ≤ 1048576) (hx : r.cells.length ≤ 9223372036854775807) : Reads Tryd.prog 14 [aR r, int left] (int (szI r.cells.length left)) := by
  refine RunCall.cw (c := _) Tryd.func14 rfl (n := 12) Tryd.ntmps14 (rs := [.tmp 4]) rfl ?_
  simp only[List.length_cons,List.length_nil,zA,zS,List.replicate,List.cons_append,List.nil_append]
  simp(maxSteps:=999999)(disch:=omega)only[go_sem,zA,zM,zS,zE,zL]
  intro g
  first | refine OpS.rd (szIntS_run _ _ (by omega) (by omega)) (⟨_, Tryd.func33, rfl, rfl⟩ : Enters Tryd.prog 33) rfl rfl rfl rfl ?_ | refine Loud.rd (szIntS_run _ _ (by omega) (by omega)) (⟨_, Tryd.func33, rfl, rfl⟩ : Enters Tryd.prog 33) rfl rfl rfl rfl ?_
  simp(maxSteps:=999999)(disch:=omega)only[go_sem,zA,zM,zS,zE,zL]
  ((first|(with_reducible first|refine condK_dec ?_ ?_|refine condK_ndec ?_ ?_|refine condK_nb ?_ ?_)|refine condK_b ?_ ?_) <;> intro h)
  · simp(maxSteps:=999999)(disch:=omega)only[go_sem,zA,zM,zS,zE,zL]
    rw [szI_neg h]
  · simp(maxSteps:=999999)(disch:=omega)only[go_sem,zA,zM,zS,zE,zL]
theorem wRs_take (rs : List Rul) {i : Nat} (h : i < rs.length) : (rs.map fun r => r.cells.length).take (i + 1) = (rs.map fun r => r.cells.length).take i ++ [(nth rs i).cells.length] := by
  rw [List.take_succ_eq_append_getElem (by simpa using h), nth_eq (by omega)]; simp
theorem nth_mem {α : Type} [Inhabited α] {xs : List α} {i : Nat} (h : i < xs.length) : nth xs i ∈ xs := by
  rw [nth_eq (by omega)]; exact List.getElem_mem _
theorem szRuleS_run (rs : List Rul) (left : Int) (hl : 0 ≤ left ∧ left ≤ 1048576) (hx : okRs rs) : Reads Tryd.prog 39 [rsl eR rs, int left] (int (szI (wRs rs) left)) := by
  obtain ⟨hx1, hx2⟩ := hx
  refine RunCall.cw (c := _) Tryd.func39 rfl (n := 27) Tryd.ntmps39 (rs := [.tmp 4]) rfl ?_
  simp only[List.length_cons,List.length_nil,zA,zS,List.replicate,List.cons_append,List.nil_append]
  simp(maxSteps:=999999)(disch:=omega)only[go_sem,zA,zM,zS,zE,zL]
  ((first|(with_reducible first|refine condK_dec ?_ ?_|refine condK_ndec ?_ ?_|refine condK_nb ?_ ?_)|refine condK_b ?_ ?_) <;> intro h)
  · simp(maxSteps:=999999)(disch:=omega)only[go_sem,zA,zM,zS,zE,zL]
    exact szI_1 (by unfold wRs; omega)
  · simp(maxSteps:=999999)(disch:=omega)only[go_sem,zA,zM,zS,zE,zL]
    have hs : ∀ i, i ≤ rs.length → ((rs.map fun r => r.cells.length).take i).sum ≤ (rs.map fun r => r.cells.length).sum := fun i hi => by
      conv => rhs; rw [← List.take_append_drop i (rs.map fun r => r.cells.length), List.sum_append]
      omega
    refine loop_rule (fun i : Nat => rs.length - i) (fun i => i ≤ rs.length ∧ 0 ≤ left - rs.length - ((rs.map fun r => r.cells.length).take i).sum) (fun i => [.k, .p (int (left - rs.length - ((rs.map fun r => r.cells.length).take i).sum)), .a, .a, .a, .p (int i), .a, .a, .a, .a, .a, .a, .a, .a, .a, .a, .a, .a, .a, .a, .a, .a, .a, .a, .a, .a, .a]) (fun _ => []) 0
      ⟨Nat.zero_le _, by simp; omega⟩ (by simp(maxSteps:=999999)(disch:=omega)only[go_sem,zA,zM,zS,zE,zL]; simp) (hle_nil _) ?_
    rintro i ⟨hi, hp⟩
    simp(maxSteps:=999999)(disch:=omega)only[go_sem,zA,zM,zS,zE,zL]
    ((first|(with_reducible first|refine condK_dec ?_ ?_|refine condK_ndec ?_ ?_|refine condK_nb ?_ ?_)|refine condK_b ?_ ?_) <;> intro h2)
    · have h2 : i < rs.length := by omega
      have hc := hx2 _ (nth_mem h2)
      have ht := wRs_take rs h2
      have hs2 := hs (i + 1) h2
      rw [ht] at hs2
      simp only [List.sum_append, List.sum_cons, List.sum_nil] at hs2
      simp(maxSteps:=999999)(disch:=omega)only[go_sem,zA,zM,zS,zE,zL]
      first | refine OpS.rd (szRule_run _ _ (by omega) (by omega)) (⟨_, Tryd.func14, rfl, rfl⟩ : Enters Tryd.prog 14) rfl rfl rfl rfl ?_ | refine Loud.rd (szRule_run _ _ (by omega) (by omega)) (⟨_, Tryd.func14, rfl, rfl⟩ : Enters Tryd.prog 14) rfl rfl rfl rfl ?_
      simp(maxSteps:=999999)(disch:=omega)only[go_sem,zA,zM,zS,zE,zL]
      ((first|(with_reducible first|refine condK_dec ?_ ?_|refine condK_ndec ?_ ?_|refine condK_nb ?_ ?_)|refine condK_b ?_ ?_) <;> intro h3)
      · simp(maxSteps:=999999)(disch:=omega)only[go_sem,zA,zM,zS,zE,zL]
        refine szI_1 ?_
        unfold szI at h3
        unfold wRs
        split at h3 <;> omega
      · simp(maxSteps:=999999)(disch:=omega)only[go_sem,zA,zM,zS,zE,zL]
        simp only [szI] at *
        split at h3
        · simp at h3
        · rename_i h4
          simp only [h4]
          refine ⟨i + 1, ⟨⟨h2, ?_⟩, by omega⟩, ⟨?_, by omega⟩, hle_nil _⟩
          · rw [ht]; simp; omega
          · rw [ht]; simp; omega
    · have : i = rs.length := by omega
      subst this
      simp(maxSteps:=999999)(disch:=omega)only[go_sem,zA,zM,zS,zE,zL]
      rw [List.take_of_length_le (by simp)] at *
      rw [szI_2 (by unfold wRs; omega)]
      unfold wRs
      omega
theorem szPuzzle_run (p : Puz) (left : Int) (hl : 0 ≤ left ∧ left ≤ 1048576) (hx : okP' p) : Reads Tryd.prog 19 [aP p, int left] (int (szI (wP p) left)) := by
  obtain ⟨hx1, hx2⟩ := hx
  refine RunCall.cw (c := _) Tryd.func19 rfl (n := 18) Tryd.ntmps19 (rs := [.tmp 4]) rfl ?_
  simp only[List.length_cons,List.length_nil,zA,zS,List.replicate,List.cons_append,List.nil_append]
  simp(maxSteps:=999999)(disch:=omega)only[go_sem,zA,zM,zS,zE,zL]
  intro g
  first | refine OpS.rd (szIntS_run _ _ (by omega) (by omega)) (⟨_, Tryd.func33, rfl, rfl⟩ : Enters Tryd.prog 33) rfl rfl rfl rfl ?_ | refine Loud.rd (szIntS_run _ _ (by omega) (by omega)) (⟨_, Tryd.func33, rfl, rfl⟩ : Enters Tryd.prog 33) rfl rfl rfl rfl ?_
  simp(maxSteps:=999999)(disch:=omega)only[go_sem,zA,zM,zS,zE,zL]
  have hb := szI_le (n := p.given.length) hl.1
  ((first|(with_reducible first|refine condK_dec ?_ ?_|refine condK_ndec ?_ ?_|refine condK_nb ?_ ?_)|refine condK_b ?_ ?_) <;> intro h)
  · simp(maxSteps:=999999)(disch:=omega)only[go_sem,zA,zM,zS,zE,zL]
    rw [wP, ← szI_add, if_pos h]
  · simp(maxSteps:=999999)(disch:=omega)only[go_sem,zA,zM,zS,zE,zL]
    first | refine OpS.rd (szRuleS_run _ _ (by omega) hx2) (⟨_, Tryd.func39, rfl, rfl⟩ : Enters Tryd.prog 39) rfl rfl rfl rfl ?_ | refine Loud.rd (szRuleS_run _ _ (by omega) hx2) (⟨_, Tryd.func39, rfl, rfl⟩ : Enters Tryd.prog 39) rfl rfl rfl rfl ?_
    simp(maxSteps:=999999)(disch:=omega)only[go_sem,zA,zM,zS,zE,zL]
    ((first|(with_reducible first|refine condK_dec ?_ ?_|refine condK_ndec ?_ ?_|refine condK_nb ?_ ?_)|refine condK_b ?_ ?_) <;> intro h2)
    · simp(maxSteps:=999999)(disch:=omega)only[go_sem,zA,zM,zS,zE,zL]
      rw [wP, ← szI_add, if_neg h, szI_neg h2]
    · simp(maxSteps:=999999)(disch:=omega)only[go_sem,zA,zM,zS,zE,zL]
      rw [wP, ← szI_add, if_neg h]
theorem toRule_run (r : Rul) (hx : r.cells.length ≤ 2 ^ 40) : Reads Tryd.prog 16 [aR r] (aR r) := by
  refine RunCall.cw (c := _) Tryd.func16 rfl (n := 15) Tryd.ntmps16 (rs := [.cell 2 37]) rfl ?_
  simp only[List.length_cons,List.length_nil,zA,zS,List.replicate,List.cons_append,List.nil_append]
  simp(maxSteps:=999999)(disch:=omega)only[go_sem,zA,zM,zS,zE,zL]
  intro g1 g2 g3
  first | refine OpS.mk (toIntS_run r.cells hx) (⟨_, Tryd.func36, rfl, rfl⟩ : Enters Tryd.prog 36) rfl rfl rfl rfl rfl ?_ | refine Loud.mk (toIntS_run r.cells hx) (⟨_, Tryd.func36, rfl, rfl⟩ : Enters Tryd.prog 36) rfl rfl rfl rfl rfl ?_
  simp(maxSteps:=999999)(disch:=omega)only[go_sem,zA,zM,zS,zE,zL]
def eRo (r : Option Rul) : List FV := match r with | none => [.int .i64 0, .nil, .int .i64 0] | some r => eR r
instance : HSz eRo 3 := ⟨fun r => by cases r <;> rfl⟩
theorem cl_eRo (rs : List Rul) : cl eRo (rs.map some) = cl eR rs := by
  simp only [cl, fl, List.flatMap_map]; rfl
theorem zerosRo (n : Nat) : zerosL (n * 3) [.f (.int .i64 0), .f .nil, .f (.int .i64 0)] = cl eRo (List.replicate n none) := by
  induction n with
  | zero => rfl
  | succ n ih =>
    have e : zerosL ((n + 1) * 3) [.f (.int .i64 0), .f .nil, .f (.int .i64 0)] = zerosL (n * 3) [.f (.int .i64 0), .f .nil, .f (.int .i64 0)] ++ [.f (.int .i64 0), .f .nil, .f (.int .i64 0)] := by
      simp only [zerosL, Nat.add_mul, List.range_add, List.map_append, List.length_cons, List.length_nil]
      congr 1
      simp only [List.range_succ, List.range_zero, List.nil_append, List.map_append, List.map_cons, List.map_nil, List.cons_append, List.map_map]
      simp [Nat.add_mod, Nat.mul_mod]
    rw [e, ih, List.replicate_succ', cl_append]; rfl
theorem setRo {xs : List (Option Rul)} {e : Int} {v : Rul} (h : 0 ≤ e ∧ e < (xs.length : Int)) : setRange (cl eRo xs) (0 + e.toNat * 3) (cR v) = cl eRo (xs.set e.toNat (some v)) :=
  setRange_clI (E := eRo) (v := some v) rfl h
theorem zerosB (n : Nat) : zerosL (n * 2) [.f (.int .i64 0), .f (.int .i64 0)] = cl eB (List.replicate n ⟨0, 0⟩) := by
  induction n with
  | zero => rfl
  | succ n ih =>
    have e : zerosL ((n + 1) * 2) [.f (.int .i64 0), .f (.int .i64 0)] = zerosL (n * 2) [.f (.int .i64 0), .f (.int .i64 0)] ++ [.f (.int .i64 0), .f (.int .i64 0)] := by
      simp only [zerosL, Nat.add_mul, List.range_add, List.map_append, List.length_cons, List.length_nil]
      congr 1
      simp only [List.range_succ, List.range_zero, List.nil_append, List.map_append, List.map_cons, List.map_nil, List.cons_append, List.map_map]
      simp [Nat.add_mod, Nat.mul_mod]
    rw [e, ih, List.replicate_succ', cl_append]; rfl
theorem setB {xs : List Brn} {e : Int} {v : Brn} (h : 0 ≤ e ∧ e < (xs.length : Int)) : setRange (cl eB xs) (0 + e.toNat * 2) (cB v) = cl eB (xs.set e.toNat v) :=
  setRange_clI (E := eB) rfl h
attribute [go_sem] zerosRo setRo zerosB setB
theorem toRuleS_own (rs : List Rul) (hn : rs.length ≤ 2 ^ 40) (hx : ∀ r ∈ rs, r.cells.length ≤ 2 ^ 40) : RunCall Tryd.prog 41 [rsl eR rs] [] (ownQ eR 3 rs) := by
  refine RunCall.cw (c := _) Tryd.func41 rfl (n := 23) Tryd.ntmps41 (rs := [.tmp 2]) rfl ?_
  simp only[List.length_cons,List.length_nil,zA,zS,List.replicate,List.cons_append,List.nil_append]
  simp(maxSteps:=999999)(disch:=omega)only[go_sem,zA,zM,zS,zE,zL]
  intro g
  refine loop_rule2 (fun (i : Nat) (ys : List (Option Rul)) => rs.length - i) (fun i ys => i ≤ rs.length ∧ ys.length = rs.length ∧ ∀ j : Nat, j < i → nth ys j = some (nth rs j)) (fun i _ => [.k, .a, .a, .k, .p (int i), .a, .a, .a, .a, .a, .a, .a, .a, .a, .a, .a, .a, .a, .a, .a, .a, .a, .a]) (fun _ ys => [some ⟨g, 3, cl eRo ys⟩]) 0 (List.replicate rs.length none)
    ⟨Nat.zero_le _, List.length_replicate, fun j hj => absurd hj (Nat.not_lt_zero _)⟩ (by simp(maxSteps:=999999)(disch:=omega)only[go_sem,zA,zM,zS,zE,zL]; rfl) (HLe.refl _) ?_
  rintro i ys ⟨hi, hl, hall⟩
  simp(maxSteps:=999999)(disch:=omega)only[go_sem,zA,zM,zS,zE,zL]
  ((first|(with_reducible first|refine condK_dec ?_ ?_|refine condK_ndec ?_ ?_|refine condK_nb ?_ ?_)|refine condK_b ?_ ?_) <;> intro h)
  · have h : i < rs.length := by omega
    simp(maxSteps:=999999)(disch:=omega)only[go_sem,zA,zM,zS,zE,zL]
    first | refine OpS.mk (toRule_run (nth rs i) (hx _ (nth_mem h))) (⟨_, Tryd.func16, rfl, rfl⟩ : Enters Tryd.prog 16) rfl rfl rfl rfl rfl ?_ | refine Loud.mk (toRule_run (nth rs i) (hx _ (nth_mem h))) (⟨_, Tryd.func16, rfl, rfl⟩ : Enters Tryd.prog 16) rfl rfl rfl rfl rfl ?_
    simp(maxSteps:=999999)(disch:=omega)only[go_sem,zA,zM,zS,zE,zL]
    refine ⟨i + 1, ys.set i (some (nth rs i)), ⟨⟨h, by simp [hl], fun j hj => ?_⟩, by omega⟩, by simp, HLe.refl _⟩
    rw [nth_set _ _ _ _ (by omega) (by omega)]
    split
    · simp_all
    · exact hall j (by omega)
  simp(maxSteps:=999999)(disch:=omega)only[go_sem,zA,zM,zS,zE,zL]
  have : ys = rs.map some := ext_nth (by simp [hl]) fun j hj => by
    rw [hall j (by omega), nth_eq (xs := rs.map some) (by simp; omega), nth_eq (by omega)]; simp
  subst this
  rw [cl_eRo]
  exact lessQ_own (HLe.refl _)
theorem toRuleS_run (rs : List Rul) (hn : rs.length ≤ 2 ^ 40) (hx : ∀ r ∈ rs, r.cells.length ≤ 2 ^ 40) : Reads Tryd.prog 41 [rsl eR rs] (rsl eR rs) := Reads.own (toRuleS_own rs hn hx)
def smRs (rs : List Rul) : Prop := rs.length ≤ 2 ^ 40 ∧ ∀ r ∈ rs, r.cells.length ≤ 2 ^ 40
def smP (p : Puz) : Prop := p.given.length ≤ 2 ^ 40 ∧ smRs p.rules
theorem sm_rule {rs : List Rul} {r : Rul} (h : r ∈ rs) : r.cells.length ≤ (rs.map fun r => r.cells.length).sum := by
  induction rs with
  | nil => cases h
  | cons a rs ih =>
    simp only [List.map_cons, List.sum_cons]
    rcases List.mem_cons.1 h with rfl | h
    · omega
    · have := ih h; omega
theorem smRs_of {rs : List Rul} {n : Nat} (hn : n ≤ 2 ^ 40) (h : wRs rs ≤ n) : smRs rs := by
  unfold wRs at h
  exact ⟨by omega, fun r hr => by have := sm_rule hr; omega⟩
theorem smP_of {p : Puz} {n : Nat} (hn : n ≤ 2 ^ 40) (h : wP p ≤ n) : smP p := by
  unfold wP at h
  exact ⟨by omega, smRs_of hn (by omega)⟩
theorem toPuzzle_run (p : Puz) (hx : smP p) : Reads Tryd.prog 21 [aP p] (aP p) := by
  refine RunCall.cw (c := _) Tryd.func21 rfl (n := 16) Tryd.ntmps21 (rs := [.cell 2 48]) rfl ?_
  simp only[List.length_cons,List.length_nil,zA,zS,List.replicate,List.cons_append,List.nil_append]
  simp(maxSteps:=999999)(disch:=omega)only[go_sem,zA,zM,zS,zE,zL]
  intro g1 g2 g3
  first | refine OpS.mk (toIntS_run p.given hx.1) (⟨_, Tryd.func36, rfl, rfl⟩ : Enters Tryd.prog 36) rfl rfl rfl rfl rfl ?_ | refine Loud.mk (toIntS_run p.given hx.1) (⟨_, Tryd.func36, rfl, rfl⟩ : Enters Tryd.prog 36) rfl rfl rfl rfl rfl ?_
  simp(maxSteps:=999999)(disch:=omega)only[go_sem,zA,zM,zS,zE,zL]
  first | refine OpS.mk (toRuleS_run p.rules hx.2.1 hx.2.2) (⟨_, Tryd.func41, rfl, rfl⟩ : Enters Tryd.prog 41) rfl rfl rfl rfl rfl ?_ | refine Loud.mk (toRuleS_run p.rules hx.2.1 hx.2.2) (⟨_, Tryd.func41, rfl, rfl⟩ : Enters Tryd.prog 41) rfl rfl rfl rfl rfl ?_
  simp(maxSteps:=999999)(disch:=omega)only[go_sem,zA,zM,zS,zE,zL]
theorem eqRule_run (r q : Rul) (hx : r.cells.length ≤ 2 ^ 40) : Reads Tryd.prog 18 [aR r, aR q] (bool (decide (r = q))) := by
  obtain ⟨r1, r2, r3⟩ := r
  obtain ⟨q1, q2, q3⟩ := q
  refine RunCall.cw (c := _) Tryd.func18 rfl (n := 21) Tryd.ntmps18 (rs := [.tmp 4]) rfl ?_
  simp only[List.length_cons,List.length_nil,zA,zS,List.replicate,List.cons_append,List.nil_append]
  simp(maxSteps:=999999)(disch:=omega)only[go_sem,zA,zM,zS,zE,zL]
  intro g1 g2
  ((first|(with_reducible first|refine condK_dec ?_ ?_|refine condK_ndec ?_ ?_|refine condK_nb ?_ ?_)|refine condK_b ?_ ?_) <;> intro h)
  · simp(maxSteps:=999999)(disch:=omega)only[go_sem,zA,zM,zS,zE,zL]
    first | refine OpS.rd (eqIntS_run _ _ hx) (⟨_, Tryd.func38, rfl, rfl⟩ : Enters Tryd.prog 38) rfl rfl rfl rfl ?_ | refine Loud.rd (eqIntS_run _ _ hx) (⟨_, Tryd.func38, rfl, rfl⟩ : Enters Tryd.prog 38) rfl rfl rfl rfl ?_
    simp(maxSteps:=999999)(disch:=omega)only[go_sem,zA,zM,zS,zE,zL]
    ((first|(with_reducible first|refine condK_dec ?_ ?_|refine condK_ndec ?_ ?_|refine condK_nb ?_ ?_)|refine condK_b ?_ ?_) <;> intro h2)
    · simp(maxSteps:=999999)(disch:=omega)only[go_sem,zA,zM,zS,zE,zL]
      ((first|(with_reducible first|refine condK_dec ?_ ?_|refine condK_ndec ?_ ?_|refine condK_nb ?_ ?_)|refine condK_b ?_ ?_) <;> intro h3)
      · simp(maxSteps:=999999)(disch:=omega)only[go_sem,zA,zM,zS,zE,zL]
        simp [h, h2, h3]
      · simp(maxSteps:=999999)(disch:=omega)only[go_sem,zA,zM,zS,zE,zL]
        simp [h3]
    · simp(maxSteps:=999999)(disch:=omega)only[go_sem,zA,zM,zS,zE,zL]
      simp [h2]
  · simp(maxSteps:=999999)(disch:=omega)only[go_sem,zA,zM,zS,zE,zL]
    simp [h]
theorem eqRuleS_run (xs ys : List Rul) (hx : smRs xs) : Reads Tryd.prog 44 [rsl eR xs, rsl eR ys] (bool (decide (xs = ys))) := by
  have hx1 := hx.1
  refine RunCall.cw (c := _) Tryd.func44 rfl (n := 27) Tryd.ntmps44 (rs := [.tmp 4]) rfl ?_
  simp only[List.length_cons,List.length_nil,zA,zS,List.replicate,List.cons_append,List.nil_append]
  simp(maxSteps:=999999)(disch:=omega)only[go_sem,zA,zM,zS,zE,zL]
  ((first|(with_reducible first|refine condK_dec ?_ ?_|refine condK_ndec ?_ ?_|refine condK_nb ?_ ?_)|refine condK_b ?_ ?_) <;> intro h)
  · have hl : xs.length = ys.length := by omega
    simp(maxSteps:=999999)(disch:=omega)only[go_sem,zA,zM,zS,zE,zL]
    refine loop_rule (fun i : Nat => xs.length - i) (fun i => i ≤ xs.length ∧ ∀ j : Nat, j < i → nth xs j = nth ys j) (fun i => [.k, .k, .a, .a, .a, .p (int i), .a, .a, .a, .a, .a, .a, .a, .a, .a, .a, .a, .a, .a, .a, .a, .a, .a, .a, .a, .a, .a]) (fun i => []) 0
      ⟨Nat.zero_le _, fun j hj => absurd hj (Nat.not_lt_zero _)⟩ (by simp(maxSteps:=999999)(disch:=omega)only[go_sem,zA,zM,zS,zE,zL]; rfl) (hle_nil _) ?_
    rintro i ⟨hi, hall⟩
    simp(maxSteps:=999999)(disch:=omega)only[go_sem,zA,zM,zS,zE,zL]
    ((first|(with_reducible first|refine condK_dec ?_ ?_|refine condK_ndec ?_ ?_|refine condK_nb ?_ ?_)|refine condK_b ?_ ?_) <;> intro h)
    · have h : i < xs.length := by omega
      simp(maxSteps:=999999)(disch:=omega)only[go_sem,zA,zM,zS,zE,zL]
      refine drawP_q foll (by kernel_rfl) ?_
      simp(maxSteps:=999999)(disch:=omega)only[go_sem,Nat.reduceBEq,Bool.true_or,zA,zM,zS,zE,zL]
      refine quietW.rd (eqRule_run (nth xs i) (nth ys i) (hx.2 _ (nth_mem h))) (⟨_, Tryd.func18, rfl, rfl⟩ : Enters Tryd.prog 18) rfl rfl rfl rfl ?_
      simp(maxSteps:=999999)(disch:=omega)only[go_sem,zA,zM,zS,zE,zL]
      ((first|(with_reducible first|refine condK_dec ?_ ?_|refine condK_ndec ?_ ?_|refine condK_nb ?_ ?_)|refine condK_b ?_ ?_) <;> intro h2)
      · simp(maxSteps:=999999)(disch:=omega)only[go_sem,zA,zM,zS,zE,zL]
        refine ⟨i + 1, ⟨⟨by omega, fun j hj => ?_⟩, by omega⟩, by omega, hle_nil _⟩
        rcases Nat.lt_succ_iff_lt_or_eq.1 hj with hj | rfl
        · exact hall j hj
        · exact h2
      · simp(maxSteps:=999999)(disch:=omega)only[go_sem,zA,zM,zS,zE,zL]
        symm; simp; intro h3; exact h2 (by rw [h3])
    simp(maxSteps:=999999)(disch:=omega)only[go_sem,zA,zM,zS,zE,zL]
    have := ext_nth hl fun j hj => hall j (by omega)
    simp [this]
  · simp(maxSteps:=999999)(disch:=omega)only[go_sem,zA,zM,zS,zE,zL]
    symm; simp; intro h3; exact h (by rw [h3])
theorem eqPuzzle_run (p q : Puz) (hx : smP p) : Reads Tryd.prog 23 [aP p, aP q] (bool (decide (p = q))) := by
  obtain ⟨p1, p2, p3⟩ := p
  obtain ⟨q1, q2, q3⟩ := q
  refine RunCall.cw (c := _) Tryd.func23 rfl (n := 22) Tryd.ntmps23 (rs := [.tmp 4]) rfl ?_
  simp only[List.length_cons,List.length_nil,zA,zS,List.replicate,List.cons_append,List.nil_append]
  simp(maxSteps:=999999)(disch:=omega)only[go_sem,zA,zM,zS,zE,zL]
  intro g1 g2
  ((first|(with_reducible first|refine condK_dec ?_ ?_|refine condK_ndec ?_ ?_|refine condK_nb ?_ ?_)|refine condK_b ?_ ?_) <;> intro h)
  · simp(maxSteps:=999999)(disch:=omega)only[go_sem,zA,zM,zS,zE,zL]
    first | refine OpS.rd (eqIntS_run _ _ hx.1) (⟨_, Tryd.func38, rfl, rfl⟩ : Enters Tryd.prog 38) rfl rfl rfl rfl ?_ | refine Loud.rd (eqIntS_run _ _ hx.1) (⟨_, Tryd.func38, rfl, rfl⟩ : Enters Tryd.prog 38) rfl rfl rfl rfl ?_
    simp(maxSteps:=999999)(disch:=omega)only[go_sem,zA,zM,zS,zE,zL]
    ((first|(with_reducible first|refine condK_dec ?_ ?_|refine condK_ndec ?_ ?_|refine condK_nb ?_ ?_)|refine condK_b ?_ ?_) <;> intro h2)
    · simp(maxSteps:=999999)(disch:=omega)only[go_sem,zA,zM,zS,zE,zL]
      first | refine OpS.rd (eqRuleS_run _ _ hx.2) (⟨_, Tryd.func44, rfl, rfl⟩ : Enters Tryd.prog 44) rfl rfl rfl rfl ?_ | refine Loud.rd (eqRuleS_run _ _ hx.2) (⟨_, Tryd.func44, rfl, rfl⟩ : Enters Tryd.prog 44) rfl rfl rfl rfl ?_
      simp(maxSteps:=999999)(disch:=omega)only[go_sem,zA,zM,zS,zE,zL]
      ((first|(with_reducible first|refine condK_dec ?_ ?_|refine condK_ndec ?_ ?_|refine condK_nb ?_ ?_)|refine condK_b ?_ ?_) <;> intro h3)
      · simp(maxSteps:=999999)(disch:=omega)only[go_sem,zA,zM,zS,zE,zL]
        simp [h, h2, h3]
      · simp(maxSteps:=999999)(disch:=omega)only[go_sem,zA,zM,zS,zE,zL]
        simp [h3]
    · simp(maxSteps:=999999)(disch:=omega)only[go_sem,zA,zM,zS,zE,zL]
      simp [h2]
  · simp(maxSteps:=999999)(disch:=omega)only[go_sem,zA,zM,zS,zE,zL]
    simp [h]
end Go.Lg
