/- The law FnExactMakeProof holds: every call returns true and leaves its arguments as they were. -/
import Derived.Test.YtcopagjhklcokaaRows
import Derived.Test.YtcopagjhklcokaaRfa0
import Derived.Test.YtcopagjhklcokaaRfa4
import Derived.Test.YtcopagjhklcokaaRfa5
import Derived.Test.YtcopagjhklcokaaRfa8
import Derived.Test.YtcopagjhklcokaaRfb0
import Derived.Test.YtcopagjhklcokaaRfb3
import Derived.Test.YtcopagjhklcokaaRfb4
import Derived.Test.YtcopagjhklcokaaRfb5
import Derived.Test.YtcopagjhklcokaaRfd1
import Derived.Test.YtcopagjhklcokaaRfd6
namespace Go.Proofs.Ytcopagjhklcokaa
open Go.ChangeShapes Go.WideShapes Go.ChangeAt Go.RowKit Go.Lg
open Go.ChangeMaps (open_string shut_string)
theorem fnExactMakeProof_own : ownKnob Try.prog.godebug = none := by kernel_rfl
theorem fnExactMakeProof_laid : laidOutB Try.prog = true := by kernel_rfl
set_option maxRecDepth 100000 in
theorem fnExactMakeProof_lifted (os : Os) (started : os.Started) (H : Type) (enc : TypeId × Value → H) :
    ReturnsInHanded {} Try.checked os 8 .any (Rows.fnExactMakeProofSpec.pre6 enc Try.prog Try.f8 Rows.fnExactMakeProofRow.domain false) (Rows.fnExactMakeProofSpec.post enc Try.prog Try.f8 false true false false) := by
  refine returnsInHanded_of_change_sized (C := Try.checked) fnExactMakeProof_own started (by kernel_rfl) Try.func8
    (ChangeSpec.witness6 (enc := enc) (C := Try.checked) false ⟨#[], #[.agg #[.int .i64 0, .slice none 0 0, .slice none 0 0]], []⟩ 8 (by kernel_rfl) (by kernel_rfl) (by kernel_rfl) (by kernel_rfl)) ?_
  intro W base args ds gs before hval0 hW hcnd hsz0 _
  have hval : ∀ (j : Nat) t v, Try.f8.params[j]? = some t → args[j]? = some v → Value.okWide Try.prog W .any base t v := hval0
  have hW' := hW
  obtain ⟨p, q, hA0, hV, rfl, hfz, hnd⟩ := hW
  have hA : DataW.TrodAll enc Try.prog W 0 (fun _ => true) true Try.f8.params.toList args.toList ds p := hA0
  rw [Try.params8] at hA hval
  obtain ⟨v0, vs0, d0, ds0, p0, q0, hargs, rfl, rfl, h0, r0⟩ := trodAll_cons hA
  obtain ⟨rfl, rfl, rfl⟩ := trodAll_nil r0
  obtain rfl : args = #[v0] := by cases args; simp_all
  obtain ⟨rfl, rfl⟩ := trodVars_none hV
  have k0 := h0
  have lt0 : ∀ x ∈ p0, x.block < W.heap.size := by obtain ⟨m, hm⟩ := k0; exact DataW.trod_lt m _ _ _ hm
  obtain ⟨g0, rfl, _⟩ := okWide_struct Try.underlying46 (hval 0 46 v0 rfl rfl)
  obtain ⟨y0, c0, s0⟩ := read_one 9 (by kernel_rfl) h0
  obtain ⟨x0, rfl, o0⟩ := shp_puzzle s0
  refine ((law_MakeProof x0 o0).below (vas_one (CsF.agg c0))).mono fun e W' ⟨he, bel⟩ => ?_
  subst he
  exact ⟨_, rfl, _, _, _, [], _, [], hW', trodAll_mk1 (shut_bool Try.underlying4 _), (trodAll_cons_mk (Below.trod fnExactMakeProof_laid (by kernel_rfl) (of_decide_eq_true (by kernel_rfl)) k0 bel lt0) trodAll_mk0), rfl, bel.frame _, fun h => by cases h⟩
/-- The law FnExactMakeProof. -/
theorem fnExactMakeProof_holds : Rows.FnExactMakeProofSaid :=
  OpenClaim.holds_of_wide 8 Try.f8 rfl rfl rfl rfl rfl rfl rfl ⟨rfl, rfl, rfl, rfl, rfl⟩ rfl rfl rfl rfl rfl (by kernel_rfl) Try.func8 (by kernel_rfl)
    (of_decide_eq_true (by kernel_rfl)) (by unfold Func.isWrapper; first | (rw [if_pos (by decide +kernel)]; kernel_rfl) | (rw [if_neg (by decide +kernel)]; exact ⟨rfl, rfl⟩))
    (fun os started H enc _ => fnExactMakeProof_lifted os started H enc)
#print axioms fnExactMakeProof_holds
end Go.Proofs.Ytcopagjhklcokaa
