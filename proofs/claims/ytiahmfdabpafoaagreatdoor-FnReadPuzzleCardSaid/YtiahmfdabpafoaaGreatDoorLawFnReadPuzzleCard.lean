/- The law FnReadPuzzle holds: every call returns true and leaves its arguments as they were. -/
import Derived.LaidMore
import Derived.Lay
import Derived.Stop.Joined
import Derived.Lib.LaidTab
import Derived.SevenTiedAt
import Derived.Test.YtiahmfdabpafoaaGreatDoorTie
import Derived.Test.YtiahmfdabpafoaaGreatDoorCards
import Derived.Test.YtiahmfdabpafoaaGreatDoorRows
import Derived.Test.YtiahmfdabpafoaaGreatDoorKaa0
import Derived.Test.YtiahmfdabpafoaaGreatDoorKaa4
import Derived.Test.YtiahmfdabpafoaaGreatDoorKaa5
import Derived.Test.YtiahmfdabpafoaaGreatDoorKaa6
import Derived.Test.YtiahmfdabpafoaaGreatDoorKaa8
import Derived.Test.YtiahmfdabpafoaaGreatDoorKab2
import Derived.Test.YtiahmfdabpafoaaGreatDoorKab7
import Derived.Test.YtiahmfdabpafoaaGreatDoorKab8
import Derived.Test.YtiahmfdabpafoaaGreatDoorKae2
namespace Go.Proofs.YtiahmfdabpafoaaGreatDoor
open Go.ChangeShapes Go.WideShapes Go.ChangeAt Go.RowKit Go.Lg
open Go.ChangeMaps (open_string shut_string)
theorem fnReadPuzzle_own : ownKnob Tryz.prog.godebug = none := by kernel_rfl
theorem fnReadPuzzle_laid : laidOutB Tryz.prog = true := by kernel_rfl
def fnReadPuzzle_tabs : List (String × DataW Unit) := [("math/bits.deBruijn32tab", Rows.laid_math_bits_deBruijn32tab), ("math/bits.deBruijn64tab", Rows.laid_math_bits_deBruijn64tab), ("internal/strconv.uint64pow10", Rows.laid_internal_strconv_uint64pow10), ("unicode/utf8.acceptRanges", Rows.laid_unicode_utf8_acceptRanges), ("strconv.ErrRange", Rows.laid_strconv_ErrRange), ("strconv.ErrSyntax", Rows.laid_strconv_ErrSyntax), ("unicode/utf8.first", Rows.laid_unicode_utf8_first)]
set_option maxRecDepth 100000 in
theorem fnReadPuzzle_met (os : Os) (args : Array Value) : laidMetH Tryz.prog fnReadPuzzle_tabs ((World.laidAll Tryz.prog os fnReadPuzzle_tabs).forCall (fun _ _ => 0) ⟨#[], args, []⟩).memory := by
  rw [MakeChecks.laidMetH_plain _ _ _ (by kernel_rfl)]
  exact laidMet_laidAll _ (by kernel_rfl) (by kernel_rfl)
theorem fnReadPuzzle_glob : Tryz.prog.globalNamed "internal/strconv.uint64pow10" = some 3 := by kernel_rfl
theorem fnReadPuzzle_globE : Tryz.prog.globalNamed "strconv.ErrSyntax" = some 1 := by kernel_rfl
set_option maxRecDepth 100000 in
theorem fnReadPuzzle_tab {W : World} (h : laidMetH Tryz.prog fnReadPuzzle_tabs W) : Bx W (Cx.base W).I := by
  rw [MakeChecks.laidMetH_plain _ _ _ (by kernel_rfl)] at h
  obtain ⟨ps, ⟨g0, t0, cs0, f0, p0, q0, hg0, ht0, hv0, hd0, ⟨g1, t1, cs1, f1, p1, q1, hg1, ht1, hv1, hd1, ⟨g2, t2, cs2, f2, p2, q2, hg2, ht2, hv2, hd2, ⟨g3, t3, cs3, f3, p3, q3, hg3, ht3, hv3, hd3, ⟨g4, t4, cs4, f4, p4, q4, hg4, ht4, hv4, hd4, ⟨g5, t5, cs5, f5, p5, q5, hg5, ht5, hv5, hd5, _, _⟩, _⟩, _⟩, _⟩, _⟩, _⟩, _⟩ := h
  obtain rfl := Option.some.inj (fnReadPuzzle_glob.symm.trans hg2)
  obtain rfl := Option.some.inj ((show (Tryz.prog.globals[3]?).map (·.type) = some 119 by kernel_rfl).symm.trans ht2)
  have he := Lib.cells_of_tab (k := .u64) (zs := [1, 10, 100, 1000, 10000, 100000, 1000000, 10000000, 100000000, 1000000000, 10000000000, 100000000000, 1000000000000, 10000000000000, 100000000000000, 1000000000000000, 10000000000000000, 100000000000000000, 1000000000000000000, 10000000000000000000]) Tryz.underlying119 Tryz.underlying105 (by kernel_rfl) (by kernel_rfl) hd2
  have ht : Lib.TabIs Tryz.prog W "internal/strconv.uint64pow10" .u64 [1, 10, 100, 1000, 10000, 100000, 1000000, 10000000, 100000000, 1000000000, 10000000000, 100000000000, 1000000000000, 10000000000000, 100000000000000, 1000000000000000, 10000000000000000, 100000000000000000, 1000000000000000000, 10000000000000000000] := by unfold Lib.TabIs; rw [hv2, ← he]
  refine ⟨fun G cs hc => ?_, fun G hE => ?_⟩
  · simp only [Jco] at hc
    split at hc
    · rename_i hG
      subst hG
      cases hc
      unfold Lib.TabIs World.var? at ht
      rw [fnReadPuzzle_glob] at ht
      simp only [Option.bind_some] at ht
      split at ht
      · rename_i cc t o hh
        cases ht
        exact ⟨(Array.getElem?_eq_some_iff.1 hh).1, rfl, _, t, o, hh, rfl⟩
      · cases ht
    · cases hc
  · obtain rfl : G = 1 := by simpa [Jf9] using hE
    obtain rfl := Option.some.inj (fnReadPuzzle_globE.symm.trans hg5)
    obtain rfl := Option.some.inj ((show (Tryz.prog.globals[1]?).map (·.type) = some 74 by kernel_rfl).symm.trans ht5)
    obtain ⟨u, v, he⟩ := YH Tryz.underlying74 hd5
    unfold World.var? at hv5
    rw [fnReadPuzzle_globE] at hv5
    simp only [Option.bind_some] at hv5
    split at hv5
    · rename_i cc t o hh
      cases hv5
      refine ⟨(Array.getElem?_eq_some_iff.1 hh).1, t, o, .iface u v, ?_, .inr ⟨u, v, rfl⟩⟩
      rw [hh]
      have : cs5 = #[.iface u v] := Array.ext' he
      rw [this]
    · cases hv5
set_option maxRecDepth 100000 in
theorem fnReadPuzzle_lifted (os : Os) (started : os.Started) (H : Type) (enc : TypeId × Value → H) :
    ReturnsInHanded {} Tryz.checked os 4 .any (fun w args => (Rows.fnReadPuzzleSpec.pre enc Tryz.prog Tryz.f4 [] false w args ∧ laidMetH Tryz.prog fnReadPuzzle_tabs w) ∧ sizedMet enc Tryz.prog Tryz.f4 (OpenSpec.ofChange Rows.fnReadPuzzleSpec) false w args) (Rows.fnReadPuzzleSpec.post enc Tryz.prog Tryz.f4 false true false false) := by
  refine returnsInHanded_of_change_and (C := Tryz.checked) (X := fun w _ => laidMetH Tryz.prog fnReadPuzzle_tabs w) (fun _ _ _ hh h => h.of_heap hh) fnReadPuzzle_own started (by kernel_rfl) Tryz.func4
    (ChangeSpec.witness_shaped (enc := enc) (C := Tryz.checked) (os := os) (X := fun w _ => laidMetH Tryz.prog fnReadPuzzle_tabs w) false (World.laidAll Tryz.prog os fnReadPuzzle_tabs) #[.slice none 0 0] 8 (World.laidAll_os _ _ _) (World.shaped_of_ZipB (by kernel_rfl) (by kernel_rfl)) (by kernel_rfl) (by kernel_rfl) (by kernel_rfl) (fnReadPuzzle_met os _)) ?_
  intro W base args ds gs before hval0 hW hcnd hsz0 hL _
  have hval : ∀ (j : Nat) t v, Tryz.f4.params[j]? = some t → args[j]? = some v → Value.okWide Tryz.prog W .any base t v := hval0
  have hW' := hW
  obtain ⟨p, q, hA0, hV, rfl, hfz, hnd⟩ := hW
  have hA : DataW.TrodAll enc Tryz.prog W 0 (fun _ => true) true Tryz.f4.params.toList args.toList ds p := hA0
  rw [Tryz.params4] at hA hval
  obtain ⟨v0, vs0, d0, ds0, p0, q0, hargs, rfl, rfl, h0, r0⟩ := trodAll_cons hA
  obtain ⟨rfl, rfl, rfl⟩ := trodAll_nil r0
  obtain rfl : args = #[v0] := by cases args; simp_all
  obtain ⟨rfl, rfl⟩ := trodVars_none hV
  have k0 := h0
  have lt0 : ∀ x ∈ p0, x.block < W.heap.size := by obtain ⟨m, hm⟩ := k0; exact DataW.trod_lt m _ _ _ hm
  obtain ⟨x0, a0, l0, w0⟩ := Fj Tryz.underlying22 Tryz.underlying5 (by kernel_rfl) (hval 0 22 v0 rfl rfl) h0
  refine ((Kh x0 l0 w0).below (JbD a0) (fnReadPuzzle_tab hL)).mono fun e W' ⟨he, bel⟩ => ?_
  subst he
  exact ⟨_, rfl, _, _, _, [], _, [], hW', trodAll_mk1 (shut_bool Tryz.underlying4 _), (trodAll_cons_mk (Below.trod fnReadPuzzle_laid (by kernel_rfl) (of_decide_eq_true (by kernel_rfl)) k0 bel lt0) trodAll_mk0), rfl, bel.frame _, fun h => by cases h⟩
theorem fnReadPuzzle_bare : Rows.FnReadPuzzleSaid :=
  OpenClaim.holds_of_wide 4 Tryz.f4 rfl rfl rfl rfl rfl rfl rfl ⟨rfl, rfl, rfl, rfl, rfl⟩ rfl rfl rfl rfl rfl (by kernel_rfl) Tryz.func4 (by kernel_rfl)
    (of_decide_eq_true (by kernel_rfl)) (by unfold Func.isWrapper; first | (rw [if_pos (by decide +kernel)]; kernel_rfl) | (rw [if_neg (by decide +kernel)]; exact ⟨rfl, rfl⟩))
    (fun os started H enc _ => fnReadPuzzle_lifted os started H enc)
/-- The tied card of the law FnReadPuzzle. -/
theorem fnReadPuzzleCard_holds : Rows.FnReadPuzzleCardSaid :=
  Claim7.holds_tied_plain_at .later [] [.data, .data, .data, .data, .sentinel, .sentinel, .pinned] true (true, "7261b950d8844d046207539117d7a4fb3d52753ad3f175aa80f4866ebea9d67a") true
    fnReadPuzzle_bare (fun _ h => by cases h) (by kernel_rfl) (fun _ h => by cases h) fnReadPuzzle_row_tie rfl ⟨rfl, rfl⟩ (by kernel_rfl) rfl
    (fun f fn hf hfn => by
      obtain rfl : f = 4 := Option.some.inj ((show Tryz.prog.funcNamed Tryz.f4.name = some 4 by kernel_rfl).symm.trans hf) |>.symm
      obtain rfl : fn = Tryz.f4 := (Option.some.inj (Tryz.func4.symm.trans hfn)).symm
      exact ⟨by kernel_rfl, fun j t ht => by
        rw [Tryz.params4] at ht
        have hm : t ∈ [22] := by simpa using Array.mem_of_getElem? ht
        have hall : ([22].all fun u => !Tryz.prog.wantsStandIn u) = true := by kernel_rfl
        exact (show Tryz.prog.wantsStandIn t = false by simpa using List.all_eq_true.1 hall t hm)⟩)
    (by kernel_rfl)
#print axioms fnReadPuzzleCard_holds
end Go.Proofs.YtiahmfdabpafoaaGreatDoor
