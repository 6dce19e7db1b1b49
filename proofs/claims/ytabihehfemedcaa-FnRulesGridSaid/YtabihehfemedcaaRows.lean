/-
  No cell of these rows narrows 'for every input' (looked for: loops, veiled, ifaces, maps, wideKeys, modest, calm, conditions, laid).
  DERIVED. THE GIVEN ROWS OF THIS SEAT. 12 by the template 'for every input the law returns true; each argument reads behind the call as it read before'; 0 by the template 'total and deterministic' (their statements: YtabihehfemedcaaTotals.lean).
  GIVEN WITH THE SEED: the statements are not yours to turn. If you find one false, say at which input.
  Laid BY PROGRAM, IN A SANDBOX (cutbox-rows.mjs): the forced cells as the released guide's own fill.sh prints them over the translation ed1946c82a447a96… (all of the seat's roots in one cut). By AI agents, Wed Nov 11 2026. No macro, syntax, notation, axiom, sorry.
-/
import Derived.Test.YtabihehfemedcaaChecked
import GoSem.Claim
import GoSem.ClaimJoined
import GoSem.ClaimMapViews
import Derived.JoinedTies
import Derived.KernelRfl
namespace Go.Proofs.Ytabihehfemedcaa
/- THE CELL 'sum', in the pinned program and in every row, IS THE sha256 OF THE DUMP (.gsa) THAT YtabihehfemedcaaProg.lean LOADS. Nothing in Lean hashes anything: it is a label: what it is worth is what the hold of that sum in a sandbox is worth. -/
noncomputable def Try.pinned : Pinned := { name := "ytabihehfemedcaa", sum := "ed1946c82a447a967cf8baa13b4a51be5b3800032ad333ad1fe63d05e9706a6c", checked := Try.checked }
namespace Rows
def none {H : Type} : Left H := { results := [], args := [] }

/-- 'laws.FnApartRules': WHATEVER THE INPUT: true; the input reads as it did. -/
def fnApartRulesSpec : ChangeSpec := { name := "fnApartRules", fn := fun _ => fun
  | [d] => { results := [.lit (.bool true)], args := [d] }
  | _ => none }
def fnApartRulesRow : OpenClaim := { program := "ytabihehfemedcaa", sum := "ed1946c82a447a967cf8baa13b4a51be5b3800032ad333ad1fe63d05e9706a6c", func := "loop.example/gridpuzzles/laws.FnApartRules", spec := "fnApartRules", recurses := true, apart := false }
def FnApartRulesSaid : Prop := fnApartRulesRow.holds Try.pinned (OpenSpec.ofChange fnApartRulesSpec)

/-- ITS FALSE NEIGHBOUR: 'it returns false'. Refute it at one input. -/
def fnApartRulesWrong : ChangeSpec := { name := "fnApartRules", fn := fun _ => fun
  | [d] => { results := [.lit (.bool false)], args := [d] }
  | _ => none }
def FnApartRulesWrongFalsely : Prop := fnApartRulesRow.holds Try.pinned (OpenSpec.ofChange fnApartRulesWrong)

/-- 'laws.FnLessRules': WHATEVER THE INPUT: true; the input reads as it did. -/
def fnLessRulesSpec : ChangeSpec := { name := "fnLessRules", fn := fun _ => fun
  | [d] => { results := [.lit (.bool true)], args := [d] }
  | _ => none }
def fnLessRulesRow : OpenClaim := { program := "ytabihehfemedcaa", sum := "ed1946c82a447a967cf8baa13b4a51be5b3800032ad333ad1fe63d05e9706a6c", func := "loop.example/gridpuzzles/laws.FnLessRules", spec := "fnLessRules", recurses := true, apart := false }
def FnLessRulesSaid : Prop := fnLessRulesRow.holds Try.pinned (OpenSpec.ofChange fnLessRulesSpec)

/-- ITS FALSE NEIGHBOUR: 'it returns false'. Refute it at one input. -/
def fnLessRulesWrong : ChangeSpec := { name := "fnLessRules", fn := fun _ => fun
  | [d] => { results := [.lit (.bool false)], args := [d] }
  | _ => none }
def FnLessRulesWrongFalsely : Prop := fnLessRulesRow.holds Try.pinned (OpenSpec.ofChange fnLessRulesWrong)

/-- 'laws.FnRulesGrid': WHATEVER THE INPUT: true; the input reads as it did. -/
def fnRulesGridSpec : ChangeSpec := { name := "fnRulesGrid", fn := fun _ => fun
  | [d] => { results := [.lit (.bool true)], args := [d] }
  | _ => none }
def fnRulesGridRow : OpenClaim := { program := "ytabihehfemedcaa", sum := "ed1946c82a447a967cf8baa13b4a51be5b3800032ad333ad1fe63d05e9706a6c", func := "loop.example/gridpuzzles/laws.FnRulesGrid", spec := "fnRulesGrid", unfollowed := true, recurses := true, apart := false }
def FnRulesGridSaid : Prop := fnRulesGridRow.holds Try.pinned (OpenSpec.ofChange fnRulesGridSpec)

/-- ITS FALSE NEIGHBOUR: 'it returns false'. Refute it at one input. -/
def fnRulesGridWrong : ChangeSpec := { name := "fnRulesGrid", fn := fun _ => fun
  | [d] => { results := [.lit (.bool false)], args := [d] }
  | _ => none }
def FnRulesGridWrongFalsely : Prop := fnRulesGridRow.holds Try.pinned (OpenSpec.ofChange fnRulesGridWrong)

/-- 'laws.FnCageRules': WHATEVER THE INPUT: true; the input reads as it did. -/
def fnCageRulesSpec : ChangeSpec := { name := "fnCageRules", fn := fun _ => fun
  | [d] => { results := [.lit (.bool true)], args := [d] }
  | _ => none }
def fnCageRulesRow : OpenClaim := { program := "ytabihehfemedcaa", sum := "ed1946c82a447a967cf8baa13b4a51be5b3800032ad333ad1fe63d05e9706a6c", func := "loop.example/gridpuzzles/laws.FnCageRules", spec := "fnCageRules", recurses := true, apart := false }
def FnCageRulesSaid : Prop := fnCageRulesRow.holds Try.pinned (OpenSpec.ofChange fnCageRulesSpec)

/-- ITS FALSE NEIGHBOUR: 'it returns false'. Refute it at one input. -/
def fnCageRulesWrong : ChangeSpec := { name := "fnCageRules", fn := fun _ => fun
  | [d] => { results := [.lit (.bool false)], args := [d] }
  | _ => none }
def FnCageRulesWrongFalsely : Prop := fnCageRulesRow.holds Try.pinned (OpenSpec.ofChange fnCageRulesWrong)

/-- 'laws.FnExactForcedValue': WHATEVER THE INPUT: true; the input reads as it did. -/
def fnExactForcedValueSpec : ChangeSpec := { name := "fnExactForcedValue", fn := fun _ => fun
  | [d1, d2] => { results := [.lit (.bool true)], args := [d1, d2] }
  | _ => none }
def fnExactForcedValueRow : OpenClaim := { program := "ytabihehfemedcaa", sum := "ed1946c82a447a967cf8baa13b4a51be5b3800032ad333ad1fe63d05e9706a6c", func := "loop.example/gridpuzzles/laws.FnExactForcedValue", spec := "fnExactForcedValue", unfollowed := true, recurses := true, apart := false }
def FnExactForcedValueSaid : Prop := fnExactForcedValueRow.holds Try.pinned (OpenSpec.ofChange fnExactForcedValueSpec)

/-- ITS FALSE NEIGHBOUR: 'it returns false'. Refute it at one input. -/
def fnExactForcedValueWrong : ChangeSpec := { name := "fnExactForcedValue", fn := fun _ => fun
  | [d1, d2] => { results := [.lit (.bool false)], args := [d1, d2] }
  | _ => none }
def FnExactForcedValueWrongFalsely : Prop := fnExactForcedValueRow.holds Try.pinned (OpenSpec.ofChange fnExactForcedValueWrong)

/-- 'laws.FnExactFinishCount': WHATEVER THE INPUT: true; the input reads as it did. -/
def fnExactFinishCountSpec : ChangeSpec := { name := "fnExactFinishCount", fn := fun _ => fun
  | [d1, d2, d3] => { results := [.lit (.bool true)], args := [d1, d2, d3] }
  | _ => none }
def fnExactFinishCountRow : OpenClaim := { program := "ytabihehfemedcaa", sum := "ed1946c82a447a967cf8baa13b4a51be5b3800032ad333ad1fe63d05e9706a6c", func := "loop.example/gridpuzzles/laws.FnExactFinishCount", spec := "fnExactFinishCount", unfollowed := true, recurses := true, apart := false }
def FnExactFinishCountSaid : Prop := fnExactFinishCountRow.holds Try.pinned (OpenSpec.ofChange fnExactFinishCountSpec)

/-- ITS FALSE NEIGHBOUR: 'it returns false'. Refute it at one input. -/
def fnExactFinishCountWrong : ChangeSpec := { name := "fnExactFinishCount", fn := fun _ => fun
  | [d1, d2, d3] => { results := [.lit (.bool false)], args := [d1, d2, d3] }
  | _ => none }
def FnExactFinishCountWrongFalsely : Prop := fnExactFinishCountRow.holds Try.pinned (OpenSpec.ofChange fnExactFinishCountWrong)

/-- 'laws.FnExactCanFinish': WHATEVER THE INPUT: true; the input reads as it did. -/
def fnExactCanFinishSpec : ChangeSpec := { name := "fnExactCanFinish", fn := fun _ => fun
  | [d1, d2] => { results := [.lit (.bool true)], args := [d1, d2] }
  | _ => none }
def fnExactCanFinishRow : OpenClaim := { program := "ytabihehfemedcaa", sum := "ed1946c82a447a967cf8baa13b4a51be5b3800032ad333ad1fe63d05e9706a6c", func := "loop.example/gridpuzzles/laws.FnExactCanFinish", spec := "fnExactCanFinish", unfollowed := true, recurses := true, apart := false }
def FnExactCanFinishSaid : Prop := fnExactCanFinishRow.holds Try.pinned (OpenSpec.ofChange fnExactCanFinishSpec)

/-- ITS FALSE NEIGHBOUR: 'it returns false'. Refute it at one input. -/
def fnExactCanFinishWrong : ChangeSpec := { name := "fnExactCanFinish", fn := fun _ => fun
  | [d1, d2] => { results := [.lit (.bool false)], args := [d1, d2] }
  | _ => none }
def FnExactCanFinishWrongFalsely : Prop := fnExactCanFinishRow.holds Try.pinned (OpenSpec.ofChange fnExactCanFinishWrong)

/-- 'laws.FnExactWrongCells': WHATEVER THE INPUT: true; the input reads as it did. -/
def fnExactWrongCellsSpec : ChangeSpec := { name := "fnExactWrongCells", fn := fun _ => fun
  | [d1, d2] => { results := [.lit (.bool true)], args := [d1, d2] }
  | _ => none }
def fnExactWrongCellsRow : OpenClaim := { program := "ytabihehfemedcaa", sum := "ed1946c82a447a967cf8baa13b4a51be5b3800032ad333ad1fe63d05e9706a6c", func := "loop.example/gridpuzzles/laws.FnExactWrongCells", spec := "fnExactWrongCells", unfollowed := true, recurses := true, apart := false }
def FnExactWrongCellsSaid : Prop := fnExactWrongCellsRow.holds Try.pinned (OpenSpec.ofChange fnExactWrongCellsSpec)

/-- ITS FALSE NEIGHBOUR: 'it returns false'. Refute it at one input. -/
def fnExactWrongCellsWrong : ChangeSpec := { name := "fnExactWrongCells", fn := fun _ => fun
  | [d1, d2] => { results := [.lit (.bool false)], args := [d1, d2] }
  | _ => none }
def FnExactWrongCellsWrongFalsely : Prop := fnExactWrongCellsRow.holds Try.pinned (OpenSpec.ofChange fnExactWrongCellsWrong)

/-- 'laws.FnExactNeededRules': WHATEVER THE INPUT: true; the input reads as it did. -/
def fnExactNeededRulesSpec : ChangeSpec := { name := "fnExactNeededRules", fn := fun _ => fun
  | [d] => { results := [.lit (.bool true)], args := [d] }
  | _ => none }
def fnExactNeededRulesRow : OpenClaim := { program := "ytabihehfemedcaa", sum := "ed1946c82a447a967cf8baa13b4a51be5b3800032ad333ad1fe63d05e9706a6c", func := "loop.example/gridpuzzles/laws.FnExactNeededRules", spec := "fnExactNeededRules", unfollowed := true, recurses := true, apart := false }
def FnExactNeededRulesSaid : Prop := fnExactNeededRulesRow.holds Try.pinned (OpenSpec.ofChange fnExactNeededRulesSpec)

/-- ITS FALSE NEIGHBOUR: 'it returns false'. Refute it at one input. -/
def fnExactNeededRulesWrong : ChangeSpec := { name := "fnExactNeededRules", fn := fun _ => fun
  | [d] => { results := [.lit (.bool false)], args := [d] }
  | _ => none }
def FnExactNeededRulesWrongFalsely : Prop := fnExactNeededRulesRow.holds Try.pinned (OpenSpec.ofChange fnExactNeededRulesWrong)

/-- 'laws.FnForcedValue': WHATEVER THE INPUT: true; the input reads as it did. -/
def fnForcedValueSpec : ChangeSpec := { name := "fnForcedValue", fn := fun _ => fun
  | [d] => { results := [.lit (.bool true)], args := [d] }
  | _ => none }
def fnForcedValueRow : OpenClaim := { program := "ytabihehfemedcaa", sum := "ed1946c82a447a967cf8baa13b4a51be5b3800032ad333ad1fe63d05e9706a6c", func := "loop.example/gridpuzzles/laws.FnForcedValue", spec := "fnForcedValue", unfollowed := true, recurses := true, apart := false }
def FnForcedValueSaid : Prop := fnForcedValueRow.holds Try.pinned (OpenSpec.ofChange fnForcedValueSpec)

/-- ITS FALSE NEIGHBOUR: 'it returns false'. Refute it at one input. -/
def fnForcedValueWrong : ChangeSpec := { name := "fnForcedValue", fn := fun _ => fun
  | [d] => { results := [.lit (.bool false)], args := [d] }
  | _ => none }
def FnForcedValueWrongFalsely : Prop := fnForcedValueRow.holds Try.pinned (OpenSpec.ofChange fnForcedValueWrong)

/-- 'laws.FnCanFinish': WHATEVER THE INPUT: true; the input reads as it did. -/
def fnCanFinishSpec : ChangeSpec := { name := "fnCanFinish", fn := fun _ => fun
  | [d] => { results := [.lit (.bool true)], args := [d] }
  | _ => none }
def fnCanFinishRow : OpenClaim := { program := "ytabihehfemedcaa", sum := "ed1946c82a447a967cf8baa13b4a51be5b3800032ad333ad1fe63d05e9706a6c", func := "loop.example/gridpuzzles/laws.FnCanFinish", spec := "fnCanFinish", unfollowed := true, recurses := true, apart := false }
def FnCanFinishSaid : Prop := fnCanFinishRow.holds Try.pinned (OpenSpec.ofChange fnCanFinishSpec)

/-- ITS FALSE NEIGHBOUR: 'it returns false'. Refute it at one input. -/
def fnCanFinishWrong : ChangeSpec := { name := "fnCanFinish", fn := fun _ => fun
  | [d] => { results := [.lit (.bool false)], args := [d] }
  | _ => none }
def FnCanFinishWrongFalsely : Prop := fnCanFinishRow.holds Try.pinned (OpenSpec.ofChange fnCanFinishWrong)

/-- 'laws.FnFinishCount': WHATEVER THE INPUT: true; the input reads as it did. -/
def fnFinishCountSpec : ChangeSpec := { name := "fnFinishCount", fn := fun _ => fun
  | [d] => { results := [.lit (.bool true)], args := [d] }
  | _ => none }
def fnFinishCountRow : OpenClaim := { program := "ytabihehfemedcaa", sum := "ed1946c82a447a967cf8baa13b4a51be5b3800032ad333ad1fe63d05e9706a6c", func := "loop.example/gridpuzzles/laws.FnFinishCount", spec := "fnFinishCount", unfollowed := true, recurses := true, apart := false }
def FnFinishCountSaid : Prop := fnFinishCountRow.holds Try.pinned (OpenSpec.ofChange fnFinishCountSpec)

/-- ITS FALSE NEIGHBOUR: 'it returns false'. Refute it at one input. -/
def fnFinishCountWrong : ChangeSpec := { name := "fnFinishCount", fn := fun _ => fun
  | [d] => { results := [.lit (.bool false)], args := [d] }
  | _ => none }
def FnFinishCountWrongFalsely : Prop := fnFinishCountRow.holds Try.pinned (OpenSpec.ofChange fnFinishCountWrong)

/- THE SECOND FORM. 'bulk': how many values and letters a reading holds, each counted each time it is reached (what is shared counts as often as it is met; a slice's spare places count too). A statement '..UptoSaid' is the law's where the arguments, and the package variables that the reading takes, are together of bulk at most 1048576: NARROWER than '..Said'. Prove '..Said' where nothing that the law and all that it calls make is longer than what came in: it says more and counts as full. Else prove '..UptoSaid'. A law counts once. -/
mutual
def uptoBulk {H : Type} : DataW H → Nat
  | .lit (.string bytes) => bytes.length + 1
  | .lit _ => 1
  | .nil => 1
  | .ptr d => uptoBulk d + 1
  | .slice elems spare => uptoBulkAll elems + uptoBulkAll spare + 1
  | .agg parts => uptoBulkAll parts + 1
  | .iface _ d => uptoBulk d + 1
  | .map entries => uptoBulkEntries entries + 1
  | .held _ => 1
def uptoBulkAll {H : Type} : List (DataW H) → Nat
  | [] => 0
  | d :: r => uptoBulk d + uptoBulkAll r
def uptoBulkEntries {H : Type} : List (Lit × DataW H) → Nat
  | [] => 0
  | x :: r => uptoBulkEntry x + uptoBulkEntries r
def uptoBulkEntry {H : Type} : Lit × DataW H → Nat
  | (.string bytes, d) => bytes.length + uptoBulk d + 1
  | (_, d) => uptoBulk d + 1
 end
def uptoSmall : (H : Type) → List (DataW H) → Bool := fun _ ds => decide (uptoBulkAll ds ≤ 1048576)
def OpenSpec.upto (s : _root_.Go.ChangeSpec) : _root_.Go.OpenSpec := { _root_.Go.OpenSpec.ofChange s with cond := some uptoSmall }

/-- 'laws.FnApartRules', WHERE WHAT IT READS IS OF BULK AT MOST 1048576: true; the input reads as it did. -/
def fnApartRulesUptoRow : OpenClaim := { program := "ytabihehfemedcaa", sum := "ed1946c82a447a967cf8baa13b4a51be5b3800032ad333ad1fe63d05e9706a6c", func := "loop.example/gridpuzzles/laws.FnApartRules", spec := "fnApartRules", recurses := true, apart := false, narrowed := true }
def FnApartRulesUptoSaid : Prop := fnApartRulesUptoRow.holds Try.pinned (OpenSpec.upto fnApartRulesSpec)

/-- 'laws.FnLessRules', WHERE WHAT IT READS IS OF BULK AT MOST 1048576: true; the input reads as it did. -/
def fnLessRulesUptoRow : OpenClaim := { program := "ytabihehfemedcaa", sum := "ed1946c82a447a967cf8baa13b4a51be5b3800032ad333ad1fe63d05e9706a6c", func := "loop.example/gridpuzzles/laws.FnLessRules", spec := "fnLessRules", recurses := true, apart := false, narrowed := true }
def FnLessRulesUptoSaid : Prop := fnLessRulesUptoRow.holds Try.pinned (OpenSpec.upto fnLessRulesSpec)

/-- 'laws.FnRulesGrid', WHERE WHAT IT READS IS OF BULK AT MOST 1048576: true; the input reads as it did. -/
def fnRulesGridUptoRow : OpenClaim := { program := "ytabihehfemedcaa", sum := "ed1946c82a447a967cf8baa13b4a51be5b3800032ad333ad1fe63d05e9706a6c", func := "loop.example/gridpuzzles/laws.FnRulesGrid", spec := "fnRulesGrid", unfollowed := true, recurses := true, apart := false, narrowed := true }
def FnRulesGridUptoSaid : Prop := fnRulesGridUptoRow.holds Try.pinned (OpenSpec.upto fnRulesGridSpec)

/-- 'laws.FnCageRules', WHERE WHAT IT READS IS OF BULK AT MOST 1048576: true; the input reads as it did. -/
def fnCageRulesUptoRow : OpenClaim := { program := "ytabihehfemedcaa", sum := "ed1946c82a447a967cf8baa13b4a51be5b3800032ad333ad1fe63d05e9706a6c", func := "loop.example/gridpuzzles/laws.FnCageRules", spec := "fnCageRules", recurses := true, apart := false, narrowed := true }
def FnCageRulesUptoSaid : Prop := fnCageRulesUptoRow.holds Try.pinned (OpenSpec.upto fnCageRulesSpec)

/-- 'laws.FnExactForcedValue', WHERE WHAT IT READS IS OF BULK AT MOST 1048576: true; the input reads as it did. -/
def fnExactForcedValueUptoRow : OpenClaim := { program := "ytabihehfemedcaa", sum := "ed1946c82a447a967cf8baa13b4a51be5b3800032ad333ad1fe63d05e9706a6c", func := "loop.example/gridpuzzles/laws.FnExactForcedValue", spec := "fnExactForcedValue", unfollowed := true, recurses := true, apart := false, narrowed := true }
def FnExactForcedValueUptoSaid : Prop := fnExactForcedValueUptoRow.holds Try.pinned (OpenSpec.upto fnExactForcedValueSpec)

/-- 'laws.FnExactFinishCount', WHERE WHAT IT READS IS OF BULK AT MOST 1048576: true; the input reads as it did. -/
def fnExactFinishCountUptoRow : OpenClaim := { program := "ytabihehfemedcaa", sum := "ed1946c82a447a967cf8baa13b4a51be5b3800032ad333ad1fe63d05e9706a6c", func := "loop.example/gridpuzzles/laws.FnExactFinishCount", spec := "fnExactFinishCount", unfollowed := true, recurses := true, apart := false, narrowed := true }
def FnExactFinishCountUptoSaid : Prop := fnExactFinishCountUptoRow.holds Try.pinned (OpenSpec.upto fnExactFinishCountSpec)

/-- 'laws.FnExactCanFinish', WHERE WHAT IT READS IS OF BULK AT MOST 1048576: true; the input reads as it did. -/
def fnExactCanFinishUptoRow : OpenClaim := { program := "ytabihehfemedcaa", sum := "ed1946c82a447a967cf8baa13b4a51be5b3800032ad333ad1fe63d05e9706a6c", func := "loop.example/gridpuzzles/laws.FnExactCanFinish", spec := "fnExactCanFinish", unfollowed := true, recurses := true, apart := false, narrowed := true }
def FnExactCanFinishUptoSaid : Prop := fnExactCanFinishUptoRow.holds Try.pinned (OpenSpec.upto fnExactCanFinishSpec)

/-- 'laws.FnExactWrongCells', WHERE WHAT IT READS IS OF BULK AT MOST 1048576: true; the input reads as it did. -/
def fnExactWrongCellsUptoRow : OpenClaim := { program := "ytabihehfemedcaa", sum := "ed1946c82a447a967cf8baa13b4a51be5b3800032ad333ad1fe63d05e9706a6c", func := "loop.example/gridpuzzles/laws.FnExactWrongCells", spec := "fnExactWrongCells", unfollowed := true, recurses := true, apart := false, narrowed := true }
def FnExactWrongCellsUptoSaid : Prop := fnExactWrongCellsUptoRow.holds Try.pinned (OpenSpec.upto fnExactWrongCellsSpec)

/-- 'laws.FnExactNeededRules', WHERE WHAT IT READS IS OF BULK AT MOST 1048576: true; the input reads as it did. -/
def fnExactNeededRulesUptoRow : OpenClaim := { program := "ytabihehfemedcaa", sum := "ed1946c82a447a967cf8baa13b4a51be5b3800032ad333ad1fe63d05e9706a6c", func := "loop.example/gridpuzzles/laws.FnExactNeededRules", spec := "fnExactNeededRules", unfollowed := true, recurses := true, apart := false, narrowed := true }
def FnExactNeededRulesUptoSaid : Prop := fnExactNeededRulesUptoRow.holds Try.pinned (OpenSpec.upto fnExactNeededRulesSpec)

/-- 'laws.FnForcedValue', WHERE WHAT IT READS IS OF BULK AT MOST 1048576: true; the input reads as it did. -/
def fnForcedValueUptoRow : OpenClaim := { program := "ytabihehfemedcaa", sum := "ed1946c82a447a967cf8baa13b4a51be5b3800032ad333ad1fe63d05e9706a6c", func := "loop.example/gridpuzzles/laws.FnForcedValue", spec := "fnForcedValue", unfollowed := true, recurses := true, apart := false, narrowed := true }
def FnForcedValueUptoSaid : Prop := fnForcedValueUptoRow.holds Try.pinned (OpenSpec.upto fnForcedValueSpec)

/-- 'laws.FnCanFinish', WHERE WHAT IT READS IS OF BULK AT MOST 1048576: true; the input reads as it did. -/
def fnCanFinishUptoRow : OpenClaim := { program := "ytabihehfemedcaa", sum := "ed1946c82a447a967cf8baa13b4a51be5b3800032ad333ad1fe63d05e9706a6c", func := "loop.example/gridpuzzles/laws.FnCanFinish", spec := "fnCanFinish", unfollowed := true, recurses := true, apart := false, narrowed := true }
def FnCanFinishUptoSaid : Prop := fnCanFinishUptoRow.holds Try.pinned (OpenSpec.upto fnCanFinishSpec)

/-- 'laws.FnFinishCount', WHERE WHAT IT READS IS OF BULK AT MOST 1048576: true; the input reads as it did. -/
def fnFinishCountUptoRow : OpenClaim := { program := "ytabihehfemedcaa", sum := "ed1946c82a447a967cf8baa13b4a51be5b3800032ad333ad1fe63d05e9706a6c", func := "loop.example/gridpuzzles/laws.FnFinishCount", spec := "fnFinishCount", unfollowed := true, recurses := true, apart := false, narrowed := true }
def FnFinishCountUptoSaid : Prop := fnFinishCountUptoRow.holds Try.pinned (OpenSpec.upto fnFinishCountSpec)

end Rows
end Go.Proofs.Ytabihehfemedcaa
