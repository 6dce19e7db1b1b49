/-
  No cell of these rows narrows 'for every input' (looked for: loops, veiled, ifaces, maps, wideKeys, modest, calm, conditions, laid).
  DERIVED. THE GIVEN ROWS OF THIS SEAT. 11 by the template 'for every input the law returns true; each argument reads behind the call as it read before'; 0 by the template 'total and deterministic' (their statements: YtpdaalgdkdpihaaTotals.lean).
  GIVEN WITH THE SEED: the statements are not yours to turn. If you find one false, say at which input.
  Laid BY PROGRAM, IN A SANDBOX (cutbox-rows.mjs): the forced cells as the released guide's own fill.sh prints them over the translation 42eb66a24c6d196d… (all of the seat's roots in one cut). By AI agents, Wed Nov 11 2026. No macro, syntax, notation, axiom, sorry.
-/
import Derived.Test.YtpdaalgdkdpihaaChecked
import GoSem.Claim
import GoSem.ClaimJoined
import GoSem.ClaimMapViews
import Derived.JoinedTies
import Derived.KernelRfl
namespace Go.Proofs.Ytpdaalgdkdpihaa
/- THE CELL 'sum', in the pinned program and in every row, IS THE sha256 OF THE DUMP (.gsa) THAT YtpdaalgdkdpihaaProg.lean LOADS. Nothing in Lean hashes anything: it is a label: what it is worth is what the hold of that sum in a sandbox is worth. -/
noncomputable def Try.pinned : Pinned := { name := "ytpdaalgdkdpihaa", sum := "42eb66a24c6d196d609bff889971229399272942c66b4ee2a3c79949bed36e6b", checked := Try.checked }
namespace Rows
def none {H : Type} : Left H := { results := [], args := [] }

/-- 'laws.FnExactGameGrid': WHATEVER THE INPUT: true; the input reads as it did. -/
def fnExactGameGridSpec : ChangeSpec := { name := "fnExactGameGrid", fn := fun _ => fun
  | [d] => { results := [.lit (.bool true)], args := [d] }
  | _ => none }
def fnExactGameGridRow : OpenClaim := { program := "ytpdaalgdkdpihaa", sum := "42eb66a24c6d196d609bff889971229399272942c66b4ee2a3c79949bed36e6b", func := "loop.example/gridpuzzles/laws.FnExactGameGrid", spec := "fnExactGameGrid", apart := false }
def FnExactGameGridSaid : Prop := fnExactGameGridRow.holds Try.pinned (OpenSpec.ofChange fnExactGameGridSpec)

/-- ITS FALSE NEIGHBOUR: 'it returns false'. Refute it at one input. -/
def fnExactGameGridWrong : ChangeSpec := { name := "fnExactGameGrid", fn := fun _ => fun
  | [d] => { results := [.lit (.bool false)], args := [d] }
  | _ => none }
def FnExactGameGridWrongFalsely : Prop := fnExactGameGridRow.holds Try.pinned (OpenSpec.ofChange fnExactGameGridWrong)

/-- 'laws.FnExactGameOf': WHATEVER THE INPUT: true; the input reads as it did. -/
def fnExactGameOfSpec : ChangeSpec := { name := "fnExactGameOf", fn := fun _ => fun
  | [d] => { results := [.lit (.bool true)], args := [d] }
  | _ => none }
def fnExactGameOfRow : OpenClaim := { program := "ytpdaalgdkdpihaa", sum := "42eb66a24c6d196d609bff889971229399272942c66b4ee2a3c79949bed36e6b", func := "loop.example/gridpuzzles/laws.FnExactGameOf", spec := "fnExactGameOf", apart := false }
def FnExactGameOfSaid : Prop := fnExactGameOfRow.holds Try.pinned (OpenSpec.ofChange fnExactGameOfSpec)

/-- ITS FALSE NEIGHBOUR: 'it returns false'. Refute it at one input. -/
def fnExactGameOfWrong : ChangeSpec := { name := "fnExactGameOf", fn := fun _ => fun
  | [d] => { results := [.lit (.bool false)], args := [d] }
  | _ => none }
def FnExactGameOfWrongFalsely : Prop := fnExactGameOfRow.holds Try.pinned (OpenSpec.ofChange fnExactGameOfWrong)

/-- 'laws.FnExactGameBack': WHATEVER THE INPUT: true; the input reads as it did. -/
def fnExactGameBackSpec : ChangeSpec := { name := "fnExactGameBack", fn := fun _ => fun
  | [d] => { results := [.lit (.bool true)], args := [d] }
  | _ => none }
def fnExactGameBackRow : OpenClaim := { program := "ytpdaalgdkdpihaa", sum := "42eb66a24c6d196d609bff889971229399272942c66b4ee2a3c79949bed36e6b", func := "loop.example/gridpuzzles/laws.FnExactGameBack", spec := "fnExactGameBack", apart := false }
def FnExactGameBackSaid : Prop := fnExactGameBackRow.holds Try.pinned (OpenSpec.ofChange fnExactGameBackSpec)

/-- ITS FALSE NEIGHBOUR: 'it returns false'. Refute it at one input. -/
def fnExactGameBackWrong : ChangeSpec := { name := "fnExactGameBack", fn := fun _ => fun
  | [d] => { results := [.lit (.bool false)], args := [d] }
  | _ => none }
def FnExactGameBackWrongFalsely : Prop := fnExactGameBackRow.holds Try.pinned (OpenSpec.ofChange fnExactGameBackWrong)

/-- 'laws.FnExactGamePut': WHATEVER THE INPUT: true; the input reads as it did. -/
def fnExactGamePutSpec : ChangeSpec := { name := "fnExactGamePut", fn := fun _ => fun
  | [d1, d2, d3] => { results := [.lit (.bool true)], args := [d1, d2, d3] }
  | _ => none }
def fnExactGamePutRow : OpenClaim := { program := "ytpdaalgdkdpihaa", sum := "42eb66a24c6d196d609bff889971229399272942c66b4ee2a3c79949bed36e6b", func := "loop.example/gridpuzzles/laws.FnExactGamePut", spec := "fnExactGamePut", apart := false }
def FnExactGamePutSaid : Prop := fnExactGamePutRow.holds Try.pinned (OpenSpec.ofChange fnExactGamePutSpec)

/-- ITS FALSE NEIGHBOUR: 'it returns false'. Refute it at one input. -/
def fnExactGamePutWrong : ChangeSpec := { name := "fnExactGamePut", fn := fun _ => fun
  | [d1, d2, d3] => { results := [.lit (.bool false)], args := [d1, d2, d3] }
  | _ => none }
def FnExactGamePutWrongFalsely : Prop := fnExactGamePutRow.holds Try.pinned (OpenSpec.ofChange fnExactGamePutWrong)

/-- 'laws.FnGameOf': WHATEVER THE INPUT: true; the input reads as it did. -/
def fnGameOfSpec : ChangeSpec := { name := "fnGameOf", fn := fun _ => fun
  | [d] => { results := [.lit (.bool true)], args := [d] }
  | _ => none }
def fnGameOfRow : OpenClaim := { program := "ytpdaalgdkdpihaa", sum := "42eb66a24c6d196d609bff889971229399272942c66b4ee2a3c79949bed36e6b", func := "loop.example/gridpuzzles/laws.FnGameOf", spec := "fnGameOf", recurses := true, apart := false }
def FnGameOfSaid : Prop := fnGameOfRow.holds Try.pinned (OpenSpec.ofChange fnGameOfSpec)

/-- ITS FALSE NEIGHBOUR: 'it returns false'. Refute it at one input. -/
def fnGameOfWrong : ChangeSpec := { name := "fnGameOf", fn := fun _ => fun
  | [d] => { results := [.lit (.bool false)], args := [d] }
  | _ => none }
def FnGameOfWrongFalsely : Prop := fnGameOfRow.holds Try.pinned (OpenSpec.ofChange fnGameOfWrong)

/-- 'laws.FnGameValid': WHATEVER THE INPUT: true; the input reads as it did. -/
def fnGameValidSpec : ChangeSpec := { name := "fnGameValid", fn := fun _ => fun
  | [d] => { results := [.lit (.bool true)], args := [d] }
  | _ => none }
def fnGameValidRow : OpenClaim := { program := "ytpdaalgdkdpihaa", sum := "42eb66a24c6d196d609bff889971229399272942c66b4ee2a3c79949bed36e6b", func := "loop.example/gridpuzzles/laws.FnGameValid", spec := "fnGameValid", recurses := true, apart := false }
def FnGameValidSaid : Prop := fnGameValidRow.holds Try.pinned (OpenSpec.ofChange fnGameValidSpec)

/-- ITS FALSE NEIGHBOUR: 'it returns false'. Refute it at one input. -/
def fnGameValidWrong : ChangeSpec := { name := "fnGameValid", fn := fun _ => fun
  | [d] => { results := [.lit (.bool false)], args := [d] }
  | _ => none }
def FnGameValidWrongFalsely : Prop := fnGameValidRow.holds Try.pinned (OpenSpec.ofChange fnGameValidWrong)

/-- 'laws.FnGameGrid': WHATEVER THE INPUT: true; the input reads as it did. -/
def fnGameGridSpec : ChangeSpec := { name := "fnGameGrid", fn := fun _ => fun
  | [d] => { results := [.lit (.bool true)], args := [d] }
  | _ => none }
def fnGameGridRow : OpenClaim := { program := "ytpdaalgdkdpihaa", sum := "42eb66a24c6d196d609bff889971229399272942c66b4ee2a3c79949bed36e6b", func := "loop.example/gridpuzzles/laws.FnGameGrid", spec := "fnGameGrid", recurses := true, apart := false }
def FnGameGridSaid : Prop := fnGameGridRow.holds Try.pinned (OpenSpec.ofChange fnGameGridSpec)

/-- ITS FALSE NEIGHBOUR: 'it returns false'. Refute it at one input. -/
def fnGameGridWrong : ChangeSpec := { name := "fnGameGrid", fn := fun _ => fun
  | [d] => { results := [.lit (.bool false)], args := [d] }
  | _ => none }
def FnGameGridWrongFalsely : Prop := fnGameGridRow.holds Try.pinned (OpenSpec.ofChange fnGameGridWrong)

/-- 'laws.FnGameBack': WHATEVER THE INPUT: true; the input reads as it did. -/
def fnGameBackSpec : ChangeSpec := { name := "fnGameBack", fn := fun _ => fun
  | [d] => { results := [.lit (.bool true)], args := [d] }
  | _ => none }
def fnGameBackRow : OpenClaim := { program := "ytpdaalgdkdpihaa", sum := "42eb66a24c6d196d609bff889971229399272942c66b4ee2a3c79949bed36e6b", func := "loop.example/gridpuzzles/laws.FnGameBack", spec := "fnGameBack", recurses := true, apart := false }
def FnGameBackSaid : Prop := fnGameBackRow.holds Try.pinned (OpenSpec.ofChange fnGameBackSpec)

/-- ITS FALSE NEIGHBOUR: 'it returns false'. Refute it at one input. -/
def fnGameBackWrong : ChangeSpec := { name := "fnGameBack", fn := fun _ => fun
  | [d] => { results := [.lit (.bool false)], args := [d] }
  | _ => none }
def FnGameBackWrongFalsely : Prop := fnGameBackRow.holds Try.pinned (OpenSpec.ofChange fnGameBackWrong)

/-- 'laws.FnGamePut': WHATEVER THE INPUT: true; the input reads as it did. -/
def fnGamePutSpec : ChangeSpec := { name := "fnGamePut", fn := fun _ => fun
  | [d] => { results := [.lit (.bool true)], args := [d] }
  | _ => none }
def fnGamePutRow : OpenClaim := { program := "ytpdaalgdkdpihaa", sum := "42eb66a24c6d196d609bff889971229399272942c66b4ee2a3c79949bed36e6b", func := "loop.example/gridpuzzles/laws.FnGamePut", spec := "fnGamePut", recurses := true, apart := false }
def FnGamePutSaid : Prop := fnGamePutRow.holds Try.pinned (OpenSpec.ofChange fnGamePutSpec)

/-- ITS FALSE NEIGHBOUR: 'it returns false'. Refute it at one input. -/
def fnGamePutWrong : ChangeSpec := { name := "fnGamePut", fn := fun _ => fun
  | [d] => { results := [.lit (.bool false)], args := [d] }
  | _ => none }
def FnGamePutWrongFalsely : Prop := fnGamePutRow.holds Try.pinned (OpenSpec.ofChange fnGamePutWrong)

/-- 'laws.FnGameReplay': WHATEVER THE INPUT: true; the input reads as it did. -/
def fnGameReplaySpec : ChangeSpec := { name := "fnGameReplay", fn := fun _ => fun
  | [d] => { results := [.lit (.bool true)], args := [d] }
  | _ => none }
def fnGameReplayRow : OpenClaim := { program := "ytpdaalgdkdpihaa", sum := "42eb66a24c6d196d609bff889971229399272942c66b4ee2a3c79949bed36e6b", func := "loop.example/gridpuzzles/laws.FnGameReplay", spec := "fnGameReplay", recurses := true, apart := false }
def FnGameReplaySaid : Prop := fnGameReplayRow.holds Try.pinned (OpenSpec.ofChange fnGameReplaySpec)

/-- ITS FALSE NEIGHBOUR: 'it returns false'. Refute it at one input. -/
def fnGameReplayWrong : ChangeSpec := { name := "fnGameReplay", fn := fun _ => fun
  | [d] => { results := [.lit (.bool false)], args := [d] }
  | _ => none }
def FnGameReplayWrongFalsely : Prop := fnGameReplayRow.holds Try.pinned (OpenSpec.ofChange fnGameReplayWrong)

/-- 'laws.FnProofValid': WHATEVER THE INPUT: true; the input reads as it did. -/
def fnProofValidSpec : ChangeSpec := { name := "fnProofValid", fn := fun _ => fun
  | [d] => { results := [.lit (.bool true)], args := [d] }
  | _ => none }
def fnProofValidRow : OpenClaim := { program := "ytpdaalgdkdpihaa", sum := "42eb66a24c6d196d609bff889971229399272942c66b4ee2a3c79949bed36e6b", func := "loop.example/gridpuzzles/laws.FnProofValid", spec := "fnProofValid", recurses := true, apart := false }
def FnProofValidSaid : Prop := fnProofValidRow.holds Try.pinned (OpenSpec.ofChange fnProofValidSpec)

/-- ITS FALSE NEIGHBOUR: 'it returns false'. Refute it at one input. -/
def fnProofValidWrong : ChangeSpec := { name := "fnProofValid", fn := fun _ => fun
  | [d] => { results := [.lit (.bool false)], args := [d] }
  | _ => none }
def FnProofValidWrongFalsely : Prop := fnProofValidRow.holds Try.pinned (OpenSpec.ofChange fnProofValidWrong)

/- THE SECOND FORM. 'bulk': how many values and letters a reading holds, each counted each time it is reached (what is shared counts as often as it is met; a slice's spare places count too). A statement '..UptoSaid' is the law's where the arguments, and the package variables that the reading takes, are together of bulk at most 1048576: NARROWER than '..Said'. Prove '..Said' where nothing that the law and all that it calls make is longer than what came in: it says more and counts as full. Else prove '..UptoSaid'. A law counts once. -/
mutual
def uptoBulk {H : Type} : DataW H → Nat
  | .lit (.string bytes) => bytes.length + 1
  | .lit _ => 1
  | .nil => 1
  | .ptr d => uptoBulk d + 1
  | .slice elems spare => uptoBulkAll elems + uptoBulkAll spare + 1
  | .agg parts => uptoBulkAll parts + 1
  | .iface _ d => uptoBulk d + 1
  | .map entries => uptoBulkEntries entries + 1
  | .held _ => 1
def uptoBulkAll {H : Type} : List (DataW H) → Nat
  | [] => 0
  | d :: r => uptoBulk d + uptoBulkAll r
def uptoBulkEntries {H : Type} : List (Lit × DataW H) → Nat
  | [] => 0
  | x :: r => uptoBulkEntry x + uptoBulkEntries r
def uptoBulkEntry {H : Type} : Lit × DataW H → Nat
  | (.string bytes, d) => bytes.length + uptoBulk d + 1
  | (_, d) => uptoBulk d + 1
 end
def uptoSmall : (H : Type) → List (DataW H) → Bool := fun _ ds => decide (uptoBulkAll ds ≤ 1048576)
def OpenSpec.upto (s : _root_.Go.ChangeSpec) : _root_.Go.OpenSpec := { _root_.Go.OpenSpec.ofChange s with cond := some uptoSmall }

/-- 'laws.FnExactGameGrid', WHERE WHAT IT READS IS OF BULK AT MOST 1048576: true; the input reads as it did. -/
def fnExactGameGridUptoRow : OpenClaim := { program := "ytpdaalgdkdpihaa", sum := "42eb66a24c6d196d609bff889971229399272942c66b4ee2a3c79949bed36e6b", func := "loop.example/gridpuzzles/laws.FnExactGameGrid", spec := "fnExactGameGrid", apart := false, narrowed := true }
def FnExactGameGridUptoSaid : Prop := fnExactGameGridUptoRow.holds Try.pinned (OpenSpec.upto fnExactGameGridSpec)

/-- 'laws.FnExactGameOf', WHERE WHAT IT READS IS OF BULK AT MOST 1048576: true; the input reads as it did. -/
def fnExactGameOfUptoRow : OpenClaim := { program := "ytpdaalgdkdpihaa", sum := "42eb66a24c6d196d609bff889971229399272942c66b4ee2a3c79949bed36e6b", func := "loop.example/gridpuzzles/laws.FnExactGameOf", spec := "fnExactGameOf", apart := false, narrowed := true }
def FnExactGameOfUptoSaid : Prop := fnExactGameOfUptoRow.holds Try.pinned (OpenSpec.upto fnExactGameOfSpec)

/-- 'laws.FnExactGameBack', WHERE WHAT IT READS IS OF BULK AT MOST 1048576: true; the input reads as it did. -/
def fnExactGameBackUptoRow : OpenClaim := { program := "ytpdaalgdkdpihaa", sum := "42eb66a24c6d196d609bff889971229399272942c66b4ee2a3c79949bed36e6b", func := "loop.example/gridpuzzles/laws.FnExactGameBack", spec := "fnExactGameBack", apart := false, narrowed := true }
def FnExactGameBackUptoSaid : Prop := fnExactGameBackUptoRow.holds Try.pinned (OpenSpec.upto fnExactGameBackSpec)

/-- 'laws.FnExactGamePut', WHERE WHAT IT READS IS OF BULK AT MOST 1048576: true; the input reads as it did. -/
def fnExactGamePutUptoRow : OpenClaim := { program := "ytpdaalgdkdpihaa", sum := "42eb66a24c6d196d609bff889971229399272942c66b4ee2a3c79949bed36e6b", func := "loop.example/gridpuzzles/laws.FnExactGamePut", spec := "fnExactGamePut", apart := false, narrowed := true }
def FnExactGamePutUptoSaid : Prop := fnExactGamePutUptoRow.holds Try.pinned (OpenSpec.upto fnExactGamePutSpec)

/-- 'laws.FnGameOf', WHERE WHAT IT READS IS OF BULK AT MOST 1048576: true; the input reads as it did. -/
def fnGameOfUptoRow : OpenClaim := { program := "ytpdaalgdkdpihaa", sum := "42eb66a24c6d196d609bff889971229399272942c66b4ee2a3c79949bed36e6b", func := "loop.example/gridpuzzles/laws.FnGameOf", spec := "fnGameOf", recurses := true, apart := false, narrowed := true }
def FnGameOfUptoSaid : Prop := fnGameOfUptoRow.holds Try.pinned (OpenSpec.upto fnGameOfSpec)

/-- 'laws.FnGameValid', WHERE WHAT IT READS IS OF BULK AT MOST 1048576: true; the input reads as it did. -/
def fnGameValidUptoRow : OpenClaim := { program := "ytpdaalgdkdpihaa", sum := "42eb66a24c6d196d609bff889971229399272942c66b4ee2a3c79949bed36e6b", func := "loop.example/gridpuzzles/laws.FnGameValid", spec := "fnGameValid", recurses := true, apart := false, narrowed := true }
def FnGameValidUptoSaid : Prop := fnGameValidUptoRow.holds Try.pinned (OpenSpec.upto fnGameValidSpec)

/-- 'laws.FnGameGrid', WHERE WHAT IT READS IS OF BULK AT MOST 1048576: true; the input reads as it did. -/
def fnGameGridUptoRow : OpenClaim := { program := "ytpdaalgdkdpihaa", sum := "42eb66a24c6d196d609bff889971229399272942c66b4ee2a3c79949bed36e6b", func := "loop.example/gridpuzzles/laws.FnGameGrid", spec := "fnGameGrid", recurses := true, apart := false, narrowed := true }
def FnGameGridUptoSaid : Prop := fnGameGridUptoRow.holds Try.pinned (OpenSpec.upto fnGameGridSpec)

/-- 'laws.FnGameBack', WHERE WHAT IT READS IS OF BULK AT MOST 1048576: true; the input reads as it did. -/
def fnGameBackUptoRow : OpenClaim := { program := "ytpdaalgdkdpihaa", sum := "42eb66a24c6d196d609bff889971229399272942c66b4ee2a3c79949bed36e6b", func := "loop.example/gridpuzzles/laws.FnGameBack", spec := "fnGameBack", recurses := true, apart := false, narrowed := true }
def FnGameBackUptoSaid : Prop := fnGameBackUptoRow.holds Try.pinned (OpenSpec.upto fnGameBackSpec)

/-- 'laws.FnGamePut', WHERE WHAT IT READS IS OF BULK AT MOST 1048576: true; the input reads as it did. -/
def fnGamePutUptoRow : OpenClaim := { program := "ytpdaalgdkdpihaa", sum := "42eb66a24c6d196d609bff889971229399272942c66b4ee2a3c79949bed36e6b", func := "loop.example/gridpuzzles/laws.FnGamePut", spec := "fnGamePut", recurses := true, apart := false, narrowed := true }
def FnGamePutUptoSaid : Prop := fnGamePutUptoRow.holds Try.pinned (OpenSpec.upto fnGamePutSpec)

/-- 'laws.FnGameReplay', WHERE WHAT IT READS IS OF BULK AT MOST 1048576: true; the input reads as it did. -/
def fnGameReplayUptoRow : OpenClaim := { program := "ytpdaalgdkdpihaa", sum := "42eb66a24c6d196d609bff889971229399272942c66b4ee2a3c79949bed36e6b", func := "loop.example/gridpuzzles/laws.FnGameReplay", spec := "fnGameReplay", recurses := true, apart := false, narrowed := true }
def FnGameReplayUptoSaid : Prop := fnGameReplayUptoRow.holds Try.pinned (OpenSpec.upto fnGameReplaySpec)

/-- 'laws.FnProofValid', WHERE WHAT IT READS IS OF BULK AT MOST 1048576: true; the input reads as it did. -/
def fnProofValidUptoRow : OpenClaim := { program := "ytpdaalgdkdpihaa", sum := "42eb66a24c6d196d609bff889971229399272942c66b4ee2a3c79949bed36e6b", func := "loop.example/gridpuzzles/laws.FnProofValid", spec := "fnProofValid", recurses := true, apart := false, narrowed := true }
def FnProofValidUptoSaid : Prop := fnProofValidUptoRow.holds Try.pinned (OpenSpec.upto fnProofValidSpec)

end Rows
end Go.Proofs.Ytpdaalgdkdpihaa
