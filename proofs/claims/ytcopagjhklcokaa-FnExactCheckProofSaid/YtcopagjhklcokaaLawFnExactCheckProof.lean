/- The law FnExactCheckProof holds: every call returns true and leaves its arguments as they were. -/
import Derived.Test.YtcopagjhklcokaaRows
import Derived.Test.YtcopagjhklcokaaRea0
import Derived.Test.YtcopagjhklcokaaRea2
import Derived.Test.YtcopagjhklcokaaRea4
import Derived.Test.YtcopagjhklcokaaRea5
import Derived.Test.YtcopagjhklcokaaRea6
import Derived.Test.YtcopagjhklcokaaRea8
import Derived.Test.YtcopagjhklcokaaReb0
import Derived.Test.YtcopagjhklcokaaReb2
import Derived.Test.YtcopagjhklcokaaReb4
import Derived.Test.YtcopagjhklcokaaReb5
import Derived.Test.YtcopagjhklcokaaReb6
import Derived.Test.YtcopagjhklcokaaRed2
import Derived.Test.YtcopagjhklcokaaRed5
namespace Go.Proofs.Ytcopagjhklcokaa
open Go.ChangeShapes Go.WideShapes Go.ChangeAt Go.RowKit Go.Lg
open Go.ChangeMaps (open_string shut_string)
theorem fnExactCheckProof_own : ownKnob Try.prog.godebug = none := by kernel_rfl
theorem fnExactCheckProof_laid : laidOutB Try.prog = true := by kernel_rfl
set_option maxRecDepth 100000 in
theorem fnExactCheckProof_lifted (os : Os) (started : os.Started) (H : Type) (enc : TypeId × Value → H) :
    ReturnsInHanded {} Try.checked os 9 .any (Rows.fnExactCheckProofSpec.pre6 enc Try.prog Try.f9 Rows.fnExactCheckProofRow.domain false) (Rows.fnExactCheckProofSpec.post enc Try.prog Try.f9 false true false false) := by
  refine returnsInHanded_of_change_sized (C := Try.checked) fnExactCheckProof_own started (by kernel_rfl) Try.func9
    (ChangeSpec.witness6 (enc := enc) (C := Try.checked) false ⟨#[], #[.agg #[.int .i64 0, .slice none 0 0, .slice none 0 0], .slice none 0 0], []⟩ 8 (by kernel_rfl) (by kernel_rfl) (by kernel_rfl) (by kernel_rfl)) ?_
  intro W base args ds gs before hval0 hW hcnd hsz0 _
  have hval : ∀ (j : Nat) t v, Try.f9.params[j]? = some t → args[j]? = some v → Value.okWide Try.prog W .any base t v := hval0
  have hW' := hW
  obtain ⟨p, q, hA0, hV, rfl, hfz, hnd⟩ := hW
  have hA : DataW.TrodAll enc Try.prog W 0 (fun _ => true) true Try.f9.params.toList args.toList ds p := hA0
  rw [Try.params9] at hA hval
  obtain ⟨v0, vs0, d0, ds0, p0, q0, hargs, rfl, rfl, h0, r0⟩ := trodAll_cons hA
  obtain ⟨v1, vs1, d1, ds1, p1, q1, rfl, rfl, rfl, h1, r1⟩ := trodAll_cons r0
  obtain ⟨rfl, rfl, rfl⟩ := trodAll_nil r1
  obtain rfl : args = #[v0, v1] := by cases args; simp_all
  obtain ⟨rfl, rfl⟩ := trodVars_none hV
  have k0 := h0
  have lt0 : ∀ x ∈ p0, x.block < W.heap.size := by obtain ⟨m, hm⟩ := k0; exact DataW.trod_lt m _ _ _ hm
  obtain ⟨g0, rfl, _⟩ := okWide_struct Try.underlying46 (hval 0 46 v0 rfl rfl)
  obtain ⟨y0, c0, s0⟩ := read_one 9 (by kernel_rfl) h0
  obtain ⟨x0, rfl, o0⟩ := shp_puzzle s0
  have k1 := h1
  have lt1 : ∀ x ∈ p1, x.block < W.heap.size := by obtain ⟨m, hm⟩ := k1; exact DataW.trod_lt m _ _ _ hm
  obtain ⟨ga1, gb1, gc1, rfl⟩ := okWide_slice Try.underlying66 (hval 1 66 v1 rfl rfl)
  obtain ⟨y1, c1, s1⟩ := read_one 9 (by kernel_rfl) h1
  obtain ⟨x1, rfl, o1⟩ := shp_branches s1
  refine ((law_CheckProof x0 x1 o0 o1).below (vas_two (CsF.agg c0) (CsF.val c1))).mono fun e W' ⟨he, bel⟩ => ?_
  subst he
  exact ⟨_, rfl, _, _, _, [], _, [], hW', trodAll_mk1 (shut_bool Try.underlying4 _), (trodAll_cons_mk (Below.trod fnExactCheckProof_laid (by kernel_rfl) (of_decide_eq_true (by kernel_rfl)) k0 bel lt0) (trodAll_cons_mk (Below.trod fnExactCheckProof_laid (by kernel_rfl) (of_decide_eq_true (by kernel_rfl)) k1 bel lt1) trodAll_mk0)), rfl, bel.frame _, fun h => by cases h⟩
/-- The law FnExactCheckProof. -/
theorem fnExactCheckProof_holds : Rows.FnExactCheckProofSaid :=
  OpenClaim.holds_of_wide 9 Try.f9 rfl rfl rfl rfl rfl rfl rfl ⟨rfl, rfl, rfl, rfl, rfl⟩ rfl rfl rfl rfl rfl (by kernel_rfl) Try.func9 (by kernel_rfl)
    (of_decide_eq_true (by kernel_rfl)) (by unfold Func.isWrapper; first | (rw [if_pos (by decide +kernel)]; kernel_rfl) | (rw [if_neg (by decide +kernel)]; exact ⟨rfl, rfl⟩))
    (fun os started H enc _ => fnExactCheckProof_lifted os started H enc)
#print axioms fnExactCheckProof_holds
end Go.Proofs.Ytcopagjhklcokaa
