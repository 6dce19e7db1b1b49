/- The law FnRuleText holds: every call returns true and leaves its arguments as they were. -/
import Derived.LaidMore
import Derived.Stop.Joined
import Derived.Lib.LaidTab
import Derived.SevenTiedAt
import Derived.Test.YtiahmfdabpafoaaDoorTie
import Derived.Test.YtiahmfdabpafoaaDoorCards
import Derived.Test.YtiahmfdabpafoaaDoorRows
import Derived.Test.YtiahmfdabpafoaaDoorHaa0
import Derived.Test.YtiahmfdabpafoaaDoorHaa4
import Derived.Test.YtiahmfdabpafoaaDoorHaa5
import Derived.Test.YtiahmfdabpafoaaDoorHaa6
import Derived.Test.YtiahmfdabpafoaaDoorHaa8
import Derived.Test.YtiahmfdabpafoaaDoorHab2
import Derived.Test.YtiahmfdabpafoaaDoorHab6
import Derived.Test.YtiahmfdabpafoaaDoorHab7
import Derived.Test.YtiahmfdabpafoaaDoorHac9
namespace Go.Proofs.YtiahmfdabpafoaaDoor
open Go.ChangeShapes Go.WideShapes Go.ChangeAt Go.RowKit Go.Lg
open Go.ChangeMaps (open_string shut_string)
theorem fnRuleText_own : ownKnob Tryd.prog.godebug = none := by kernel_rfl
theorem fnRuleText_laid : laidOutB Tryd.prog = true := by kernel_rfl
def fnRuleText_tabs : List (String × DataW Unit) := [("math/bits.deBruijn32tab", Rows.laid_math_bits_deBruijn32tab), ("math/bits.deBruijn64tab", Rows.laid_math_bits_deBruijn64tab), ("internal/strconv.uint64pow10", Rows.laid_internal_strconv_uint64pow10), ("strconv.ErrRange", Rows.laid_strconv_ErrRange), ("strconv.ErrSyntax", Rows.laid_strconv_ErrSyntax)]
set_option maxRecDepth 100000 in
theorem fnRuleText_met (os : Os) (args : Array Value) : laidMetH Tryd.prog fnRuleText_tabs ((World.doorLaid Tryd.prog 400 os).forCall (fun _ _ => 0) ⟨#[], args, []⟩).memory :=
  laidMetH_of_parts3 (fuel := 8) (laidMet_of_run' 8 (by kernel_rfl) (by kernel_rfl)) (by kernel_rfl) (by kernel_rfl)
theorem fnRuleText_glob : Tryd.prog.globalNamed "internal/strconv.uint64pow10" = some 3 := by kernel_rfl
theorem fnRuleText_globE : Tryd.prog.globalNamed "strconv.ErrSyntax" = some 1 := by kernel_rfl
set_option maxRecDepth 100000 in
theorem fnRuleText_tab {W : World} (h : laidMetH Tryd.prog fnRuleText_tabs W) : TabR W (Cx.base W).I := by
  rw [MakeChecks.laidMetH_plain _ _ _ (by kernel_rfl)] at h
  obtain ⟨ps, ⟨g0, t0, cs0, f0, p0, q0, hg0, ht0, hv0, hd0, ⟨g1, t1, cs1, f1, p1, q1, hg1, ht1, hv1, hd1, ⟨g2, t2, cs2, f2, p2, q2, hg2, ht2, hv2, hd2, ⟨g3, t3, cs3, f3, p3, q3, hg3, ht3, hv3, hd3, ⟨g4, t4, cs4, f4, p4, q4, hg4, ht4, hv4, hd4, _, _⟩, _⟩, _⟩, _⟩, _⟩, _⟩ := h
  obtain rfl := Option.some.inj (fnRuleText_glob.symm.trans hg2)
  obtain rfl := Option.some.inj ((show (Tryd.prog.globals[3]?).map (·.type) = some 137 by kernel_rfl).symm.trans ht2)
  have he := Lib.cells_of_tab (k := .u64) (zs := [1, 10, 100, 1000, 10000, 100000, 1000000, 10000000, 100000000, 1000000000, 10000000000, 100000000000, 1000000000000, 10000000000000, 100000000000000, 1000000000000000, 10000000000000000, 100000000000000000, 1000000000000000000, 10000000000000000000]) Tryd.underlying137 Tryd.underlying109 (by kernel_rfl) (by kernel_rfl) hd2
  have ht : Lib.TabIs Tryd.prog W "internal/strconv.uint64pow10" .u64 [1, 10, 100, 1000, 10000, 100000, 1000000, 10000000, 100000000, 1000000000, 10000000000, 100000000000, 1000000000000, 10000000000000, 100000000000000, 1000000000000000, 10000000000000000, 100000000000000000, 1000000000000000000, 10000000000000000000] := by unfold Lib.TabIs; rw [hv2, ← he]
  refine ⟨fun G cs hc => ?_, fun G hE => ?_⟩
  · simp only [tabC] at hc
    split at hc
    · rename_i hG
      subst hG
      cases hc
      unfold Lib.TabIs World.var? at ht
      rw [fnRuleText_glob] at ht
      simp only [Option.bind_some] at ht
      split at ht
      · rename_i cc t o hh
        cases ht
        exact ⟨(Array.getElem?_eq_some_iff.1 hh).1, rfl, _, t, o, hh, rfl⟩
      · cases ht
    · cases hc
  · obtain rfl : G = 1 := by simpa [tabE] using hE
    obtain rfl := Option.some.inj (fnRuleText_globE.symm.trans hg4)
    obtain rfl := Option.some.inj ((show (Tryd.prog.globals[1]?).map (·.type) = some 53 by kernel_rfl).symm.trans ht4)
    obtain ⟨u, v, he⟩ := iface_of_tab Tryd.underlying53 hd4
    unfold World.var? at hv4
    rw [fnRuleText_globE] at hv4
    simp only [Option.bind_some] at hv4
    split at hv4
    · rename_i cc t o hh
      cases hv4
      refine ⟨(Array.getElem?_eq_some_iff.1 hh).1, t, o, .iface u v, ?_, .inr ⟨u, v, rfl⟩⟩
      rw [hh]
      have : cs4 = #[.iface u v] := Array.ext' he
      rw [this]
    · cases hv4
set_option maxRecDepth 100000 in
theorem fnRuleText_lifted (os : Os) (started : os.Started) (H : Type) (enc : TypeId × Value → H) :
    ReturnsInHanded {} Tryd.checked os 5 .any (fun w args => (Rows.fnRuleTextSpec.pre enc Tryd.prog Tryd.f5 [] false w args ∧ laidMetH Tryd.prog fnRuleText_tabs w) ∧ sizedMet enc Tryd.prog Tryd.f5 (OpenSpec.ofChange Rows.fnRuleTextSpec) false w args) (Rows.fnRuleTextSpec.post enc Tryd.prog Tryd.f5 false true false false) := by
  refine returnsInHanded_of_change_and (C := Tryd.checked) (X := fun w _ => laidMetH Tryd.prog fnRuleText_tabs w) (fun _ _ _ hh h => h.of_heap hh) fnRuleText_own started (by kernel_rfl) Tryd.func5
    (ChangeSpec.witness_shaped (enc := enc) (C := Tryd.checked) (os := os) (X := fun w _ => laidMetH Tryd.prog fnRuleText_tabs w) false (World.doorLaid Tryd.prog 400 os) #[.slice none 0 0] 8 rfl (World.shaped_of_RefB (by kernel_rfl) (by kernel_rfl)) (by kernel_rfl) (by kernel_rfl) (by kernel_rfl) (fnRuleText_met os _)) ?_
  intro W base args ds gs before hval0 hW hcnd hsz0 hL _
  have hval : ∀ (j : Nat) t v, Tryd.f5.params[j]? = some t → args[j]? = some v → Value.okWide Tryd.prog W .any base t v := hval0
  have hW' := hW
  obtain ⟨p, q, hA0, hV, rfl, hfz, hnd⟩ := hW
  have hA : DataW.TrodAll enc Tryd.prog W 0 (fun _ => true) true Tryd.f5.params.toList args.toList ds p := hA0
  rw [Tryd.params5] at hA hval
  obtain ⟨v0, vs0, d0, ds0, p0, q0, hargs, rfl, rfl, h0, r0⟩ := trodAll_cons hA
  obtain ⟨rfl, rfl, rfl⟩ := trodAll_nil r0
  obtain rfl : args = #[v0] := by cases args; simp_all
  obtain ⟨rfl, rfl⟩ := trodVars_none hV
  have k0 := h0
  have lt0 : ∀ x ∈ p0, x.block < W.heap.size := by obtain ⟨m, hm⟩ := k0; exact DataW.trod_lt m _ _ _ hm
  obtain ⟨x0, a0, l0, w0⟩ := read_ints Tryd.underlying37 Tryd.underlying5 (by kernel_rfl) (hval 0 37 v0 rfl rfl) h0
  refine ((law_FnRuleText x0 l0 w0).below (vas_one a0) (fnRuleText_tab hL)).mono fun e W' ⟨he, bel⟩ => ?_
  subst he
  exact ⟨_, rfl, _, _, _, [], _, [], hW', trodAll_mk1 (shut_bool Tryd.underlying4 _), (trodAll_cons_mk (Below.trod fnRuleText_laid (by kernel_rfl) (of_decide_eq_true (by kernel_rfl)) k0 bel lt0) trodAll_mk0), rfl, bel.frame _, fun h => by cases h⟩
theorem fnRuleText_bare : Rows.FnRuleTextSaid :=
  OpenClaim.holds_of_wide 5 Tryd.f5 rfl rfl rfl rfl rfl rfl rfl ⟨rfl, rfl, rfl, rfl, rfl⟩ rfl rfl rfl rfl rfl (by kernel_rfl) Tryd.func5 (by kernel_rfl)
    (of_decide_eq_true (by kernel_rfl)) (by unfold Func.isWrapper; first | (rw [if_pos (by decide +kernel)]; kernel_rfl) | (rw [if_neg (by decide +kernel)]; exact ⟨rfl, rfl⟩))
    (fun os started H enc _ => fnRuleText_lifted os started H enc)
/-- The tied card of the law FnRuleText. -/
theorem fnRuleTextCard_holds : Rows.FnRuleTextCardSaid :=
  Claim7.holds_tied_plain_at .later [] [.data, .data, .data, .sentinel, .sentinel] true (true, "34beecf04ee3f7f3f9c937651f22c7bed534224937f7b9fa6c557de311f5837a") true
    fnRuleText_bare (fun _ h => by cases h) (by kernel_rfl) (fun _ h => by cases h) fnRuleText_row_tie rfl ⟨rfl, rfl⟩ (by kernel_rfl) rfl
    (fun f fn hf hfn => by
      obtain rfl : f = 5 := Option.some.inj ((show Tryd.prog.funcNamed Tryd.f5.name = some 5 by kernel_rfl).symm.trans hf) |>.symm
      obtain rfl : fn = Tryd.f5 := (Option.some.inj (Tryd.func5.symm.trans hfn)).symm
      exact ⟨by kernel_rfl, fun j t ht => by
        rw [Tryd.params5] at ht
        have hm : t ∈ [37] := by simpa using Array.mem_of_getElem? ht
        have hall : ([37].all fun u => !Tryd.prog.wantsStandIn u) = true := by kernel_rfl
        exact (show Tryd.prog.wantsStandIn t = false by simpa using List.all_eq_true.1 hall t hm)⟩)
    (by kernel_rfl)
#print axioms fnRuleTextCard_holds
end Go.Proofs.YtiahmfdabpafoaaDoor
