/- The law FnCheckProof holds: every call returns true and leaves its arguments as they were. -/
import Derived.Test.YtcopagjhklcokaaRows
import Derived.Test.YtcopagjhklcokaaSda0
import Derived.Test.YtcopagjhklcokaaSda4
import Derived.Test.YtcopagjhklcokaaSda5
import Derived.Test.YtcopagjhklcokaaSda8
import Derived.Test.YtcopagjhklcokaaSdb3
import Derived.Test.YtcopagjhklcokaaSdb6
import Derived.Test.YtcopagjhklcokaaSdd6
import Derived.Test.YtcopagjhklcokaaSde8
namespace Go.Proofs.Ytcopagjhklcokaa
open Go.ChangeShapes Go.WideShapes Go.ChangeAt Go.RowKit Go.Lg
open Go.ChangeMaps (open_string shut_string)
theorem fnCheckProof_own : ownKnob Try.prog.godebug = none := by kernel_rfl
theorem fnCheckProof_laid : laidOutB Try.prog = true := by kernel_rfl
set_option maxRecDepth 100000 in
theorem fnCheckProof_lifted (os : Os) (started : os.Started) (H : Type) (enc : TypeId × Value → H) :
    ReturnsInHanded {} Try.checked os 14 .any (Rows.fnCheckProofSpec.pre6 enc Try.prog Try.f14 Rows.fnCheckProofRow.domain false) (Rows.fnCheckProofSpec.post enc Try.prog Try.f14 false true false false) := by
  refine returnsInHanded_of_change_sized (C := Try.checked) fnCheckProof_own started (by kernel_rfl) Try.func14
    (ChangeSpec.witness6 (enc := enc) (C := Try.checked) false ⟨#[], #[.slice none 0 0], []⟩ 8 (by kernel_rfl) (by kernel_rfl) (by kernel_rfl) (by kernel_rfl)) ?_
  intro W base args ds gs before hval0 hW hcnd hsz0 _
  have hval : ∀ (j : Nat) t v, Try.f14.params[j]? = some t → args[j]? = some v → Value.okWide Try.prog W .any base t v := hval0
  have hW' := hW
  obtain ⟨p, q, hA0, hV, rfl, hfz, hnd⟩ := hW
  have hA : DataW.TrodAll enc Try.prog W 0 (fun _ => true) true Try.f14.params.toList args.toList ds p := hA0
  rw [Try.params14] at hA hval
  obtain ⟨v0, vs0, d0, ds0, p0, q0, hargs, rfl, rfl, h0, r0⟩ := trodAll_cons hA
  obtain ⟨rfl, rfl, rfl⟩ := trodAll_nil r0
  obtain rfl : args = #[v0] := by cases args; simp_all
  obtain ⟨rfl, rfl⟩ := trodVars_none hV
  have k0 := h0
  have lt0 : ∀ x ∈ p0, x.block < W.heap.size := by obtain ⟨m, hm⟩ := k0; exact DataW.trod_lt m _ _ _ hm
  obtain ⟨x0, a0, l0, w0⟩ := read_ints Try.underlying22 Try.underlying5 (by kernel_rfl) (hval 0 22 v0 rfl rfl) h0
  refine ((law_FnCheckProof x0 l0 w0).below (vas_one a0)).mono fun e W' ⟨he, bel⟩ => ?_
  subst he
  exact ⟨_, rfl, _, _, _, [], _, [], hW', trodAll_mk1 (shut_bool Try.underlying4 _), (trodAll_cons_mk (Below.trod fnCheckProof_laid (by kernel_rfl) (of_decide_eq_true (by kernel_rfl)) k0 bel lt0) trodAll_mk0), rfl, bel.frame _, fun h => by cases h⟩
/-- The law FnCheckProof. -/
theorem fnCheckProof_holds : Rows.FnCheckProofSaid :=
  OpenClaim.holds_of_wide 14 Try.f14 rfl rfl rfl rfl rfl rfl rfl ⟨rfl, rfl, rfl, rfl, rfl⟩ rfl rfl rfl rfl rfl (by kernel_rfl) Try.func14 (by kernel_rfl)
    (of_decide_eq_true (by kernel_rfl)) (by unfold Func.isWrapper; first | (rw [if_pos (by decide +kernel)]; kernel_rfl) | (rw [if_neg (by decide +kernel)]; exact ⟨rfl, rfl⟩))
    (fun os started H enc _ => fnCheckProof_lifted os started H enc)
#print axioms fnCheckProof_holds
end Go.Proofs.Ytcopagjhklcokaa
