/- Arguments of the laws' types. -/
import Derived.Test.YtabihehfemedcaaLgPc
import Derived.Test.YtabihehfemedcaaLgTy
set_option linter.unusedSimpArgs false
set_option linter.unusedVariables false
set_option maxRecDepth 100000
namespace Go.Lg
open Go.Proofs

section
variable {P : Program} {n : Nat} {t e : TypeId} {ys : List FV}
theorem shp_int {k : IntKind} (hu : P.underlying t = some (.int k)) (h : Shp P (n + 1) t ys) : ∃ x, ys = [.int k x] ∧ (Lit.int k x).wf = true := by
  unfold Shp at h; rw [hu] at h; exact h
theorem shp_str (hu : P.underlying t = some .string) (h : Shp P (n + 1) t ys) : ∃ s : List UInt8, ys = eS s ∧ s.length ≤ 9223372036854775807 := by
  unfold Shp at h; rw [hu] at h; exact h
theorem shp_slice {α : Type} {E : α → List FV} {F : α → Prop} (hu : P.underlying t = some (.slice e)) (he : ∀ x, Shp P n e x → ∃ a, x = E a ∧ F a) (h : Shp P (n + 1) t ys) : ∃ xs : List α, ys = [fsl E xs] ∧ xs.length ≤ 9223372036854775807 ∧ ∀ a ∈ xs, F a := by
  unfold Shp at h; rw [hu] at h
  obtain ⟨es, rfl, h1, h2⟩ := h
  obtain ⟨xs, h3, h4, h5⟩ := shp_list (E := E) (F := F) fun x hx => he x (h2 x hx)
  exact ⟨xs, by rw [h3, h4], by omega, h5⟩
theorem shp_ints {k : IntKind} (hu : P.underlying t = some (.slice e)) (he : P.underlying e = some (.int k)) (h : Shp P (n + 2) t ys) : ∃ xs : List Int, ys = [fsl (eI k) xs] ∧ xs.length ≤ 9223372036854775807 ∧ ∀ a ∈ xs, (Lit.int k a).wf = true :=
  shp_slice hu (fun x hx => shp_int he hx) h
theorem shp_struct2 {f0 f1 : Field} (hu : P.underlying t = some (.struct #[f0, f1])) (h : Shp P (n + 1) t ys) : ∃ a b, ys = a ++ b ∧ Shp P n f0.type a ∧ Shp P n f1.type b := by
  unfold Shp at h; rw [hu] at h
  obtain ⟨es, rfl, h1, h2⟩ := h
  have h1 : es.length = 2 := h1
  match es, h1 with
  | [a, b], _ =>
    obtain ⟨_, q0, p0⟩ := h2 0 f0 rfl
    obtain ⟨_, q1, p1⟩ := h2 1 f1 rfl
    cases q0; cases q1
    exact ⟨a, b, by simp, p0, p1⟩
theorem shp_struct3 {f0 f1 f2 : Field} (hu : P.underlying t = some (.struct #[f0, f1, f2])) (h : Shp P (n + 1) t ys) : ∃ a b c, ys = a ++ (b ++ c) ∧ Shp P n f0.type a ∧ Shp P n f1.type b ∧ Shp P n f2.type c := by
  unfold Shp at h; rw [hu] at h
  obtain ⟨es, rfl, h1, h2⟩ := h
  have h1 : es.length = 3 := h1
  match es, h1 with
  | [a, b, c], _ =>
    obtain ⟨_, q0, p0⟩ := h2 0 f0 rfl
    obtain ⟨_, q1, p1⟩ := h2 1 f1 rfl
    obtain ⟨_, q2, p2⟩ := h2 2 f2 rfl
    cases q0; cases q1; cases q2
    exact ⟨a, b, c, by simp, p0, p1, p2⟩
end
def wRs (rs : List Rul) : Nat := rs.length + (rs.map fun r => r.cells.length).sum
/-- Lengths as they can be. -/
def okRs (rs : List Rul) : Prop := rs.length ≤ 9223372036854775807 ∧ ∀ r ∈ rs, r.cells.length ≤ 9223372036854775807
def okP' (p : Puz) : Prop := p.given.length ≤ 9223372036854775807 ∧ okRs p.rules
def okG (g : Gam) : Prop := okP' g.task ∧ g.put.length ≤ 9223372036854775807 ∧ g.moves.length ≤ 9223372036854775807
abbrev fP (p : Puz) : List FV := [.int .i64 p.size, fints p.given, fsl eR p.rules]
abbrev fG (g : Gam) : List FV := [.int .i64 g.task.size, fints g.task.given, fsl eR g.task.rules, fints g.put, fints g.moves]
abbrev fH (h : Hnt) : List FV := [.int .i64 h.tech, .int .i64 h.cell, .int .i64 h.val]
theorem shp_rule {n : Nat} {ys : List FV} (h : Shp Try.prog (n + 3) 105 ys) : ∃ r : Rul, ys = eR r ∧ r.cells.length ≤ 9223372036854775807 := by
  obtain ⟨a, b, c, rfl, ha, hb, hc⟩ := shp_struct3 Try.underlying105 h
  obtain ⟨x, rfl, _⟩ := shp_int Try.underlying3 ha
  obtain ⟨xs, rfl, h1, _⟩ := shp_ints Try.underlying23 Try.underlying3 hb
  obtain ⟨z, rfl, _⟩ := shp_int Try.underlying3 hc
  exact ⟨⟨x, xs, z⟩, rfl, h1⟩
theorem shp_puzzle {n : Nat} {ys : List FV} (h : Shp Try.prog (n + 5) 44 ys) : ∃ p : Puz, ys = fP p ∧ okP' p := by
  obtain ⟨a, b, c, rfl, ha, hb, hc⟩ := shp_struct3 Try.underlying44 h
  obtain ⟨x, rfl, _⟩ := shp_int Try.underlying3 ha
  obtain ⟨xs, rfl, h1, _⟩ := shp_ints Try.underlying23 Try.underlying3 hb
  obtain ⟨rs, rfl, h2, h3⟩ := shp_slice (E := eR) (F := fun r => r.cells.length ≤ 9223372036854775807) Try.underlying42 (fun x hx => shp_rule hx) hc
  exact ⟨⟨x, xs, rs⟩, rfl, h1, h2, h3⟩
end Go.Lg
