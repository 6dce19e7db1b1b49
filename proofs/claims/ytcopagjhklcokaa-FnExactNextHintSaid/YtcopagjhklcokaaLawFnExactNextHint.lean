/- The law FnExactNextHint holds: every call returns true and leaves its arguments as they were. -/
import Derived.Test.YtcopagjhklcokaaRows
import Derived.Test.YtcopagjhklcokaaRaa0
import Derived.Test.YtcopagjhklcokaaRaa4
import Derived.Test.YtcopagjhklcokaaRaa5
import Derived.Test.YtcopagjhklcokaaRaa8
import Derived.Test.YtcopagjhklcokaaRab0
import Derived.Test.YtcopagjhklcokaaRab3
import Derived.Test.YtcopagjhklcokaaRab4
import Derived.Test.YtcopagjhklcokaaRab5
import Derived.Test.YtcopagjhklcokaaRad3
import Derived.Test.YtcopagjhklcokaaRad5
namespace Go.Proofs.Ytcopagjhklcokaa
open Go.ChangeShapes Go.WideShapes Go.ChangeAt Go.RowKit Go.Lg
open Go.ChangeMaps (open_string shut_string)
theorem fnExactNextHint_own : ownKnob Try.prog.godebug = none := by kernel_rfl
theorem fnExactNextHint_laid : laidOutB Try.prog = true := by kernel_rfl
set_option maxRecDepth 100000 in
theorem fnExactNextHint_lifted (os : Os) (started : os.Started) (H : Type) (enc : TypeId × Value → H) :
    ReturnsInHanded {} Try.checked os 6 .any (Rows.fnExactNextHintSpec.pre6 enc Try.prog Try.f6 Rows.fnExactNextHintRow.domain false) (Rows.fnExactNextHintSpec.post enc Try.prog Try.f6 false true false false) := by
  refine returnsInHanded_of_change_sized (C := Try.checked) fnExactNextHint_own started (by kernel_rfl) Try.func6
    (ChangeSpec.witness6 (enc := enc) (C := Try.checked) false ⟨#[], #[.agg #[.int .i64 0, .slice none 0 0, .slice none 0 0], .slice none 0 0], []⟩ 8 (by kernel_rfl) (by kernel_rfl) (by kernel_rfl) (by kernel_rfl)) ?_
  intro W base args ds gs before hval0 hW hcnd hsz0 _
  have hval : ∀ (j : Nat) t v, Try.f6.params[j]? = some t → args[j]? = some v → Value.okWide Try.prog W .any base t v := hval0
  have hW' := hW
  obtain ⟨p, q, hA0, hV, rfl, hfz, hnd⟩ := hW
  have hA : DataW.TrodAll enc Try.prog W 0 (fun _ => true) true Try.f6.params.toList args.toList ds p := hA0
  rw [Try.params6] at hA hval
  obtain ⟨v0, vs0, d0, ds0, p0, q0, hargs, rfl, rfl, h0, r0⟩ := trodAll_cons hA
  obtain ⟨v1, vs1, d1, ds1, p1, q1, rfl, rfl, rfl, h1, r1⟩ := trodAll_cons r0
  obtain ⟨rfl, rfl, rfl⟩ := trodAll_nil r1
  obtain rfl : args = #[v0, v1] := by cases args; simp_all
  obtain ⟨rfl, rfl⟩ := trodVars_none hV
  have k0 := h0
  have lt0 : ∀ x ∈ p0, x.block < W.heap.size := by obtain ⟨m, hm⟩ := k0; exact DataW.trod_lt m _ _ _ hm
  obtain ⟨g0, rfl, _⟩ := okWide_struct Try.underlying46 (hval 0 46 v0 rfl rfl)
  obtain ⟨y0, c0, s0⟩ := read_one 9 (by kernel_rfl) h0
  obtain ⟨x0, rfl, o0⟩ := shp_puzzle s0
  have k1 := h1
  have lt1 : ∀ x ∈ p1, x.block < W.heap.size := by obtain ⟨m, hm⟩ := k1; exact DataW.trod_lt m _ _ _ hm
  obtain ⟨x1, a1, l1, w1⟩ := read_ints Try.underlying23 Try.underlying3 (by kernel_rfl) (hval 1 23 v1 rfl rfl) h1
  refine ((law_NextHint x0 x1 o0 l1 w1).below (vas_two (CsF.agg c0) a1)).mono fun e W' ⟨he, bel⟩ => ?_
  subst he
  exact ⟨_, rfl, _, _, _, [], _, [], hW', trodAll_mk1 (shut_bool Try.underlying4 _), (trodAll_cons_mk (Below.trod fnExactNextHint_laid (by kernel_rfl) (of_decide_eq_true (by kernel_rfl)) k0 bel lt0) (trodAll_cons_mk (Below.trod fnExactNextHint_laid (by kernel_rfl) (of_decide_eq_true (by kernel_rfl)) k1 bel lt1) trodAll_mk0)), rfl, bel.frame _, fun h => by cases h⟩
/-- The law FnExactNextHint. -/
theorem fnExactNextHint_holds : Rows.FnExactNextHintSaid :=
  OpenClaim.holds_of_wide 6 Try.f6 rfl rfl rfl rfl rfl rfl rfl ⟨rfl, rfl, rfl, rfl, rfl⟩ rfl rfl rfl rfl rfl (by kernel_rfl) Try.func6 (by kernel_rfl)
    (of_decide_eq_true (by kernel_rfl)) (by unfold Func.isWrapper; first | (rw [if_pos (by decide +kernel)]; kernel_rfl) | (rw [if_neg (by decide +kernel)]; exact ⟨rfl, rfl⟩))
    (fun os started H enc _ => fnExactNextHint_lifted os started H enc)
#print axioms fnExactNextHint_holds
end Go.Proofs.Ytcopagjhklcokaa
