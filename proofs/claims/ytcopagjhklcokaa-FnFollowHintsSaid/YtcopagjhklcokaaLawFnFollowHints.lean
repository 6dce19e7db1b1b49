/- The law FnFollowHints holds: every call returns true and leaves its arguments as they were. -/
import Derived.Test.YtcopagjhklcokaaRows
import Derived.Test.YtcopagjhklcokaaRca0
import Derived.Test.YtcopagjhklcokaaRca4
import Derived.Test.YtcopagjhklcokaaRca5
import Derived.Test.YtcopagjhklcokaaRca8
import Derived.Test.YtcopagjhklcokaaRcb3
import Derived.Test.YtcopagjhklcokaaRcb6
import Derived.Test.YtcopagjhklcokaaRcd8
import Derived.Test.YtcopagjhklcokaaRce8
namespace Go.Proofs.Ytcopagjhklcokaa
open Go.ChangeShapes Go.WideShapes Go.ChangeAt Go.RowKit Go.Lg
open Go.ChangeMaps (open_string shut_string)
theorem fnFollowHints_own : ownKnob Try.prog.godebug = none := by kernel_rfl
theorem fnFollowHints_laid : laidOutB Try.prog = true := by kernel_rfl
set_option maxRecDepth 100000 in
theorem fnFollowHints_lifted (os : Os) (started : os.Started) (H : Type) (enc : TypeId × Value → H) :
    ReturnsInHanded {} Try.checked os 11 .any (Rows.fnFollowHintsSpec.pre6 enc Try.prog Try.f11 Rows.fnFollowHintsRow.domain false) (Rows.fnFollowHintsSpec.post enc Try.prog Try.f11 false true false false) := by
  refine returnsInHanded_of_change_sized (C := Try.checked) fnFollowHints_own started (by kernel_rfl) Try.func11
    (ChangeSpec.witness6 (enc := enc) (C := Try.checked) false ⟨#[], #[.slice none 0 0], []⟩ 8 (by kernel_rfl) (by kernel_rfl) (by kernel_rfl) (by kernel_rfl)) ?_
  intro W base args ds gs before hval0 hW hcnd hsz0 _
  have hval : ∀ (j : Nat) t v, Try.f11.params[j]? = some t → args[j]? = some v → Value.okWide Try.prog W .any base t v := hval0
  have hW' := hW
  obtain ⟨p, q, hA0, hV, rfl, hfz, hnd⟩ := hW
  have hA : DataW.TrodAll enc Try.prog W 0 (fun _ => true) true Try.f11.params.toList args.toList ds p := hA0
  rw [Try.params11] at hA hval
  obtain ⟨v0, vs0, d0, ds0, p0, q0, hargs, rfl, rfl, h0, r0⟩ := trodAll_cons hA
  obtain ⟨rfl, rfl, rfl⟩ := trodAll_nil r0
  obtain rfl : args = #[v0] := by cases args; simp_all
  obtain ⟨rfl, rfl⟩ := trodVars_none hV
  have k0 := h0
  have lt0 : ∀ x ∈ p0, x.block < W.heap.size := by obtain ⟨m, hm⟩ := k0; exact DataW.trod_lt m _ _ _ hm
  obtain ⟨x0, a0, l0, w0⟩ := read_ints Try.underlying22 Try.underlying5 (by kernel_rfl) (hval 0 22 v0 rfl rfl) h0
  refine ((law_FnFollowHints x0 l0 w0).below (vas_one a0)).mono fun e W' ⟨he, bel⟩ => ?_
  subst he
  exact ⟨_, rfl, _, _, _, [], _, [], hW', trodAll_mk1 (shut_bool Try.underlying4 _), (trodAll_cons_mk (Below.trod fnFollowHints_laid (by kernel_rfl) (of_decide_eq_true (by kernel_rfl)) k0 bel lt0) trodAll_mk0), rfl, bel.frame _, fun h => by cases h⟩
/-- The law FnFollowHints. -/
theorem fnFollowHints_holds : Rows.FnFollowHintsSaid :=
  OpenClaim.holds_of_wide 11 Try.f11 rfl rfl rfl rfl rfl rfl rfl ⟨rfl, rfl, rfl, rfl, rfl⟩ rfl rfl rfl rfl rfl (by kernel_rfl) Try.func11 (by kernel_rfl)
    (of_decide_eq_true (by kernel_rfl)) (by unfold Func.isWrapper; first | (rw [if_pos (by decide +kernel)]; kernel_rfl) | (rw [if_neg (by decide +kernel)]; exact ⟨rfl, rfl⟩))
    (fun os started H enc _ => fnFollowHints_lifted os started H enc)
#print axioms fnFollowHints_holds
end Go.Proofs.Ytcopagjhklcokaa
