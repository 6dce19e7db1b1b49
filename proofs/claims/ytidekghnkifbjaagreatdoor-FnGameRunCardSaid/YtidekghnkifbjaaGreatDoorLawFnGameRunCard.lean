/- The law FnGameRun holds: every call returns true and leaves its arguments as they were. -/
import Derived.LaidMore
import Derived.Lay
import Derived.Stop.Joined
import Derived.Lib.LaidTab
import Derived.SevenTiedAt
import Derived.Test.YtidekghnkifbjaaGreatDoorTie
import Derived.Test.YtidekghnkifbjaaGreatDoorCards
import Derived.Test.YtidekghnkifbjaaGreatDoorRows
import Derived.Test.YtidekghnkifbjaaGreatDoorJea0
import Derived.Test.YtidekghnkifbjaaGreatDoorJea3
import Derived.Test.YtidekghnkifbjaaGreatDoorJea4
import Derived.Test.YtidekghnkifbjaaGreatDoorJea5
import Derived.Test.YtidekghnkifbjaaGreatDoorJea7
import Derived.Test.YtidekghnkifbjaaGreatDoorJea9
import Derived.Test.YtidekghnkifbjaaGreatDoorJeb2
import Derived.Test.YtidekghnkifbjaaGreatDoorJeb6
import Derived.Test.YtidekghnkifbjaaGreatDoorJee3
namespace Go.Proofs.YtidekghnkifbjaaGreatDoor
open Go.ChangeShapes Go.WideShapes Go.ChangeAt Go.RowKit Go.Lg
open Go.ChangeMaps (open_string shut_string)
theorem fnGameRun_own : ownKnob Tryz.prog.godebug = none := by kernel_rfl
theorem fnGameRun_laid : laidOutB Tryz.prog = true := by kernel_rfl
def fnGameRun_tabs : List (String × DataW Unit) := [("math/bits.deBruijn32tab", Rows.laid_math_bits_deBruijn32tab), ("math/bits.deBruijn64tab", Rows.laid_math_bits_deBruijn64tab), ("internal/strconv.uint64pow10", Rows.laid_internal_strconv_uint64pow10)]
set_option maxRecDepth 100000 in
theorem fnGameRun_met (os : Os) (args : Array Value) : laidMetH Tryz.prog fnGameRun_tabs ((World.doorLaid Tryz.prog 400 os).forCall (fun _ _ => 0) ⟨#[], args, []⟩).memory :=
  laidMetH_of_parts3 (fuel := 8) (laidMet_of_run' 8 (by kernel_rfl) (by kernel_rfl)) (by kernel_rfl) (by kernel_rfl)
theorem fnGameRun_glob : Tryz.prog.globalNamed "internal/strconv.uint64pow10" = some 0 := by kernel_rfl
set_option maxRecDepth 100000 in
theorem fnGameRun_tab {W : World} (h : laidMetH Tryz.prog fnGameRun_tabs W) : N8 W (Cx.base W).I := by
  rw [MakeChecks.laidMetH_plain _ _ _ (by kernel_rfl)] at h
  obtain ⟨ps, ⟨g0, t0, cs0, f0, p0, q0, hg0, ht0, hv0, hd0, ⟨g1, t1, cs1, f1, p1, q1, hg1, ht1, hv1, hd1, ⟨g2, t2, cs2, f2, p2, q2, hg2, ht2, hv2, hd2, _, _⟩, _⟩, _⟩, _⟩ := h
  obtain rfl := Option.some.inj (fnGameRun_glob.symm.trans hg2)
  obtain rfl := Option.some.inj ((show (Tryz.prog.globals[0]?).map (·.type) = some 156 by kernel_rfl).symm.trans ht2)
  have he := Lib.cells_of_tab (k := .u64) (zs := [1, 10, 100, 1000, 10000, 100000, 1000000, 10000000, 100000000, 1000000000, 10000000000, 100000000000, 1000000000000, 10000000000000, 100000000000000, 1000000000000000, 10000000000000000, 100000000000000000, 1000000000000000000, 10000000000000000000]) Tryz.underlying156 Tryz.underlying147 (by kernel_rfl) (by kernel_rfl) hd2
  have ht : Lib.TabIs Tryz.prog W "internal/strconv.uint64pow10" .u64 [1, 10, 100, 1000, 10000, 100000, 1000000, 10000000, 100000000, 1000000000, 10000000000, 100000000000, 1000000000000, 10000000000000, 100000000000000, 1000000000000000, 10000000000000000, 100000000000000000, 1000000000000000000, 10000000000000000000] := by unfold Lib.TabIs; rw [hv2, ← he]
  refine ⟨fun G cs hc => ?_, fun G hE => ?_⟩
  · simp only [Jgb] at hc
    split at hc
    · rename_i hG
      subst hG
      cases hc
      unfold Lib.TabIs World.var? at ht
      rw [fnGameRun_glob] at ht
      simp only [Option.bind_some] at ht
      split at ht
      · rename_i cc t o hh
        cases ht
        exact ⟨(Array.getElem?_eq_some_iff.1 hh).1, rfl, _, t, o, hh, rfl⟩
      · cases ht
    · cases hc
  · simp [Jkd] at hE
set_option maxRecDepth 100000 in
theorem fnGameRun_lifted (os : Os) (started : os.Started) (H : Type) (enc : TypeId × Value → H) :
    ReturnsInHanded {} Tryz.checked os 5 .any (fun w args => (Rows.fnGameRunSpec.pre enc Tryz.prog Tryz.f5 [] false w args ∧ laidMetH Tryz.prog fnGameRun_tabs w) ∧ sizedMet enc Tryz.prog Tryz.f5 (OpenSpec.ofChange Rows.fnGameRunSpec) false w args) (Rows.fnGameRunSpec.post enc Tryz.prog Tryz.f5 false true false false) := by
  refine returnsInHanded_of_change_and (C := Tryz.checked) (X := fun w _ => laidMetH Tryz.prog fnGameRun_tabs w) (fun _ _ _ hh h => h.of_heap hh) fnGameRun_own started (by kernel_rfl) Tryz.func5
    (ChangeSpec.witness_shaped (enc := enc) (C := Tryz.checked) (os := os) (X := fun w _ => laidMetH Tryz.prog fnGameRun_tabs w) false (World.doorLaid Tryz.prog 400 os) #[.slice none 0 0] 8 rfl (World.shaped_of_RefB (by kernel_rfl) (by kernel_rfl)) (by kernel_rfl) (by kernel_rfl) (by kernel_rfl) (fnGameRun_met os _)) ?_
  intro W base args ds gs before hval0 hW hcnd hsz0 hL _
  have hval : ∀ (j : Nat) t v, Tryz.f5.params[j]? = some t → args[j]? = some v → Value.okWide Tryz.prog W .any base t v := hval0
  have hW' := hW
  obtain ⟨p, q, hA0, hV, rfl, hfz, hnd⟩ := hW
  have hA : DataW.TrodAll enc Tryz.prog W 0 (fun _ => true) true Tryz.f5.params.toList args.toList ds p := hA0
  rw [Tryz.params5] at hA hval
  obtain ⟨v0, vs0, d0, ds0, p0, q0, hargs, rfl, rfl, h0, r0⟩ := trodAll_cons hA
  obtain ⟨rfl, rfl, rfl⟩ := trodAll_nil r0
  obtain rfl : args = #[v0] := by cases args; simp_all
  obtain ⟨rfl, rfl⟩ := trodVars_none hV
  have k0 := h0
  have lt0 : ∀ x ∈ p0, x.block < W.heap.size := by obtain ⟨m, hm⟩ := k0; exact DataW.trod_lt m _ _ _ hm
  obtain ⟨x0, a0, l0, w0⟩ := JaX Tryz.underlying22 Tryz.underlying5 (by kernel_rfl) (hval 0 22 v0 rfl rfl) h0
  refine ((Jau x0 l0 w0).below (Jff a0) (fnGameRun_tab hL)).mono fun e W' ⟨he, bel⟩ => ?_
  subst he
  exact ⟨_, rfl, _, _, _, [], _, [], hW', trodAll_mk1 (shut_bool Tryz.underlying4 _), (trodAll_cons_mk (Below.trod fnGameRun_laid (by kernel_rfl) (of_decide_eq_true (by kernel_rfl)) k0 bel lt0) trodAll_mk0), rfl, bel.frame _, fun h => by cases h⟩
theorem fnGameRun_bare : Rows.FnGameRunSaid :=
  OpenClaim.holds_of_wide 5 Tryz.f5 rfl rfl rfl rfl rfl rfl rfl ⟨rfl, rfl, rfl, rfl, rfl⟩ rfl rfl rfl rfl rfl (by kernel_rfl) Tryz.func5 (by kernel_rfl)
    (of_decide_eq_true (by kernel_rfl)) (by unfold Func.isWrapper; first | (rw [if_pos (by decide +kernel)]; kernel_rfl) | (rw [if_neg (by decide +kernel)]; exact ⟨rfl, rfl⟩))
    (fun os started H enc _ => fnGameRun_lifted os started H enc)
/-- The tied card of the law FnGameRun. -/
theorem fnGameRunCard_holds : Rows.FnGameRunCardSaid :=
  Claim7.holds_tied_plain_at .later [] [.data, .data, .data] true (true, "45b1270a1604f56eff3bf80bf1ae664e56313b96bdee5a1628a8c17706d79976") false
    fnGameRun_bare (fun _ h => by cases h) (by kernel_rfl) (fun _ h => by cases h) fnGameRun_row_tie rfl ⟨rfl, rfl⟩ (by kernel_rfl) rfl
    (fun f fn hf hfn => by
      obtain rfl : f = 5 := Option.some.inj ((show Tryz.prog.funcNamed Tryz.f5.name = some 5 by kernel_rfl).symm.trans hf) |>.symm
      obtain rfl : fn = Tryz.f5 := (Option.some.inj (Tryz.func5.symm.trans hfn)).symm
      exact ⟨by kernel_rfl, fun j t ht => by
        rw [Tryz.params5] at ht
        have hm : t ∈ [22] := by simpa using Array.mem_of_getElem? ht
        have hall : ([22].all fun u => !Tryz.prog.wantsStandIn u) = true := by kernel_rfl
        exact (show Tryz.prog.wantsStandIn t = false by simpa using List.all_eq_true.1 hall t hm)⟩)
    (by kernel_rfl)
#print axioms fnGameRunCard_holds
end Go.Proofs.YtidekghnkifbjaaGreatDoor
