/-
  No cell of these rows narrows 'for every input' (looked for: loops, veiled, ifaces, maps, wideKeys, modest, calm, conditions, laid).
  DERIVED. THE GIVEN ROWS OF THIS SEAT. 12 by the template 'for every input the law returns true; each argument reads behind the call as it read before'; 0 by the template 'total and deterministic' (their statements: YtcopagjhklcokaaTotals.lean).
  GIVEN WITH THE SEED: the statements are not yours to turn. If you find one false, say at which input.
  Laid BY PROGRAM, IN A SANDBOX (cutbox-rows.mjs): the forced cells as the released guide's own fill.sh prints them over the translation da5b13b1ac94c9d2… (all of the seat's roots in one cut). By AI agents, Wed Nov 11 2026. No macro, syntax, notation, axiom, sorry.
-/
import Derived.Test.YtcopagjhklcokaaChecked
import GoSem.Claim
import GoSem.ClaimJoined
import GoSem.ClaimMapViews
import Derived.JoinedTies
import Derived.KernelRfl
namespace Go.Proofs.Ytcopagjhklcokaa
/- THE CELL 'sum', in the pinned program and in every row, IS THE sha256 OF THE DUMP (.gsa) THAT YtcopagjhklcokaaProg.lean LOADS. Nothing in Lean hashes anything: it is a label: what it is worth is what the hold of that sum in a sandbox is worth. -/
noncomputable def Try.pinned : Pinned := { name := "ytcopagjhklcokaa", sum := "da5b13b1ac94c9d2e8452a7dbdc40fd8a93b18980bd4900a81b3572b782bd5ca", checked := Try.checked }
namespace Rows
def none {H : Type} : Left H := { results := [], args := [] }

/-- 'laws.FnNeededRules': WHATEVER THE INPUT: true; the input reads as it did. -/
def fnNeededRulesSpec : ChangeSpec := { name := "fnNeededRules", fn := fun _ => fun
  | [d] => { results := [.lit (.bool true)], args := [d] }
  | _ => none }
def fnNeededRulesRow : OpenClaim := { program := "ytcopagjhklcokaa", sum := "da5b13b1ac94c9d2e8452a7dbdc40fd8a93b18980bd4900a81b3572b782bd5ca", func := "loop.example/gridpuzzles/laws.FnNeededRules", spec := "fnNeededRules", unfollowed := true, recurses := true, apart := false }
def FnNeededRulesSaid : Prop := fnNeededRulesRow.holds Try.pinned (OpenSpec.ofChange fnNeededRulesSpec)

/-- ITS FALSE NEIGHBOUR: 'it returns false'. Refute it at one input. -/
def fnNeededRulesWrong : ChangeSpec := { name := "fnNeededRules", fn := fun _ => fun
  | [d] => { results := [.lit (.bool false)], args := [d] }
  | _ => none }
def FnNeededRulesWrongFalsely : Prop := fnNeededRulesRow.holds Try.pinned (OpenSpec.ofChange fnNeededRulesWrong)

/-- 'laws.FnNeededMinimal': WHATEVER THE INPUT: true; the input reads as it did. -/
def fnNeededMinimalSpec : ChangeSpec := { name := "fnNeededMinimal", fn := fun _ => fun
  | [d] => { results := [.lit (.bool true)], args := [d] }
  | _ => none }
def fnNeededMinimalRow : OpenClaim := { program := "ytcopagjhklcokaa", sum := "da5b13b1ac94c9d2e8452a7dbdc40fd8a93b18980bd4900a81b3572b782bd5ca", func := "loop.example/gridpuzzles/laws.FnNeededMinimal", spec := "fnNeededMinimal", unfollowed := true, recurses := true, apart := false }
def FnNeededMinimalSaid : Prop := fnNeededMinimalRow.holds Try.pinned (OpenSpec.ofChange fnNeededMinimalSpec)

/-- ITS FALSE NEIGHBOUR: 'it returns false'. Refute it at one input. -/
def fnNeededMinimalWrong : ChangeSpec := { name := "fnNeededMinimal", fn := fun _ => fun
  | [d] => { results := [.lit (.bool false)], args := [d] }
  | _ => none }
def FnNeededMinimalWrongFalsely : Prop := fnNeededMinimalRow.holds Try.pinned (OpenSpec.ofChange fnNeededMinimalWrong)

/-- 'laws.FnWrongCells': WHATEVER THE INPUT: true; the input reads as it did. -/
def fnWrongCellsSpec : ChangeSpec := { name := "fnWrongCells", fn := fun _ => fun
  | [d] => { results := [.lit (.bool true)], args := [d] }
  | _ => none }
def fnWrongCellsRow : OpenClaim := { program := "ytcopagjhklcokaa", sum := "da5b13b1ac94c9d2e8452a7dbdc40fd8a93b18980bd4900a81b3572b782bd5ca", func := "loop.example/gridpuzzles/laws.FnWrongCells", spec := "fnWrongCells", unfollowed := true, recurses := true, apart := false }
def FnWrongCellsSaid : Prop := fnWrongCellsRow.holds Try.pinned (OpenSpec.ofChange fnWrongCellsSpec)

/-- ITS FALSE NEIGHBOUR: 'it returns false'. Refute it at one input. -/
def fnWrongCellsWrong : ChangeSpec := { name := "fnWrongCells", fn := fun _ => fun
  | [d] => { results := [.lit (.bool false)], args := [d] }
  | _ => none }
def FnWrongCellsWrongFalsely : Prop := fnWrongCellsRow.holds Try.pinned (OpenSpec.ofChange fnWrongCellsWrong)

/-- 'laws.FnExactNextHint': WHATEVER THE INPUT: true; the input reads as it did. -/
def fnExactNextHintSpec : ChangeSpec := { name := "fnExactNextHint", fn := fun _ => fun
  | [d1, d2] => { results := [.lit (.bool true)], args := [d1, d2] }
  | _ => none }
def fnExactNextHintRow : OpenClaim := { program := "ytcopagjhklcokaa", sum := "da5b13b1ac94c9d2e8452a7dbdc40fd8a93b18980bd4900a81b3572b782bd5ca", func := "loop.example/gridpuzzles/laws.FnExactNextHint", spec := "fnExactNextHint", unfollowed := true, recurses := true, apart := false }
def FnExactNextHintSaid : Prop := fnExactNextHintRow.holds Try.pinned (OpenSpec.ofChange fnExactNextHintSpec)

/-- ITS FALSE NEIGHBOUR: 'it returns false'. Refute it at one input. -/
def fnExactNextHintWrong : ChangeSpec := { name := "fnExactNextHint", fn := fun _ => fun
  | [d1, d2] => { results := [.lit (.bool false)], args := [d1, d2] }
  | _ => none }
def FnExactNextHintWrongFalsely : Prop := fnExactNextHintRow.holds Try.pinned (OpenSpec.ofChange fnExactNextHintWrong)

/-- 'laws.FnExactFollowHints': WHATEVER THE INPUT: true; the input reads as it did. -/
def fnExactFollowHintsSpec : ChangeSpec := { name := "fnExactFollowHints", fn := fun _ => fun
  | [d1, d2] => { results := [.lit (.bool true)], args := [d1, d2] }
  | _ => none }
def fnExactFollowHintsRow : OpenClaim := { program := "ytcopagjhklcokaa", sum := "da5b13b1ac94c9d2e8452a7dbdc40fd8a93b18980bd4900a81b3572b782bd5ca", func := "loop.example/gridpuzzles/laws.FnExactFollowHints", spec := "fnExactFollowHints", unfollowed := true, recurses := true, apart := false }
def FnExactFollowHintsSaid : Prop := fnExactFollowHintsRow.holds Try.pinned (OpenSpec.ofChange fnExactFollowHintsSpec)

/-- ITS FALSE NEIGHBOUR: 'it returns false'. Refute it at one input. -/
def fnExactFollowHintsWrong : ChangeSpec := { name := "fnExactFollowHints", fn := fun _ => fun
  | [d1, d2] => { results := [.lit (.bool false)], args := [d1, d2] }
  | _ => none }
def FnExactFollowHintsWrongFalsely : Prop := fnExactFollowHintsRow.holds Try.pinned (OpenSpec.ofChange fnExactFollowHintsWrong)

/-- 'laws.FnExactMakeProof': WHATEVER THE INPUT: true; the input reads as it did. -/
def fnExactMakeProofSpec : ChangeSpec := { name := "fnExactMakeProof", fn := fun _ => fun
  | [d] => { results := [.lit (.bool true)], args := [d] }
  | _ => none }
def fnExactMakeProofRow : OpenClaim := { program := "ytcopagjhklcokaa", sum := "da5b13b1ac94c9d2e8452a7dbdc40fd8a93b18980bd4900a81b3572b782bd5ca", func := "loop.example/gridpuzzles/laws.FnExactMakeProof", spec := "fnExactMakeProof", unfollowed := true, recurses := true, apart := false }
def FnExactMakeProofSaid : Prop := fnExactMakeProofRow.holds Try.pinned (OpenSpec.ofChange fnExactMakeProofSpec)

/-- ITS FALSE NEIGHBOUR: 'it returns false'. Refute it at one input. -/
def fnExactMakeProofWrong : ChangeSpec := { name := "fnExactMakeProof", fn := fun _ => fun
  | [d] => { results := [.lit (.bool false)], args := [d] }
  | _ => none }
def FnExactMakeProofWrongFalsely : Prop := fnExactMakeProofRow.holds Try.pinned (OpenSpec.ofChange fnExactMakeProofWrong)

/-- 'laws.FnExactCheckProof': WHATEVER THE INPUT: true; the input reads as it did. -/
def fnExactCheckProofSpec : ChangeSpec := { name := "fnExactCheckProof", fn := fun _ => fun
  | [d1, d2] => { results := [.lit (.bool true)], args := [d1, d2] }
  | _ => none }
def fnExactCheckProofRow : OpenClaim := { program := "ytcopagjhklcokaa", sum := "da5b13b1ac94c9d2e8452a7dbdc40fd8a93b18980bd4900a81b3572b782bd5ca", func := "loop.example/gridpuzzles/laws.FnExactCheckProof", spec := "fnExactCheckProof", unfollowed := true, recurses := true, apart := false }
def FnExactCheckProofSaid : Prop := fnExactCheckProofRow.holds Try.pinned (OpenSpec.ofChange fnExactCheckProofSpec)

/-- ITS FALSE NEIGHBOUR: 'it returns false'. Refute it at one input. -/
def fnExactCheckProofWrong : ChangeSpec := { name := "fnExactCheckProof", fn := fun _ => fun
  | [d1, d2] => { results := [.lit (.bool false)], args := [d1, d2] }
  | _ => none }
def FnExactCheckProofWrongFalsely : Prop := fnExactCheckProofRow.holds Try.pinned (OpenSpec.ofChange fnExactCheckProofWrong)

/-- 'laws.FnNextHint': WHATEVER THE INPUT: true; the input reads as it did. -/
def fnNextHintSpec : ChangeSpec := { name := "fnNextHint", fn := fun _ => fun
  | [d] => { results := [.lit (.bool true)], args := [d] }
  | _ => none }
def fnNextHintRow : OpenClaim := { program := "ytcopagjhklcokaa", sum := "da5b13b1ac94c9d2e8452a7dbdc40fd8a93b18980bd4900a81b3572b782bd5ca", func := "loop.example/gridpuzzles/laws.FnNextHint", spec := "fnNextHint", unfollowed := true, recurses := true, apart := false }
def FnNextHintSaid : Prop := fnNextHintRow.holds Try.pinned (OpenSpec.ofChange fnNextHintSpec)

/-- ITS FALSE NEIGHBOUR: 'it returns false'. Refute it at one input. -/
def fnNextHintWrong : ChangeSpec := { name := "fnNextHint", fn := fun _ => fun
  | [d] => { results := [.lit (.bool false)], args := [d] }
  | _ => none }
def FnNextHintWrongFalsely : Prop := fnNextHintRow.holds Try.pinned (OpenSpec.ofChange fnNextHintWrong)

/-- 'laws.FnFollowHints': WHATEVER THE INPUT: true; the input reads as it did. -/
def fnFollowHintsSpec : ChangeSpec := { name := "fnFollowHints", fn := fun _ => fun
  | [d] => { results := [.lit (.bool true)], args := [d] }
  | _ => none }
def fnFollowHintsRow : OpenClaim := { program := "ytcopagjhklcokaa", sum := "da5b13b1ac94c9d2e8452a7dbdc40fd8a93b18980bd4900a81b3572b782bd5ca", func := "loop.example/gridpuzzles/laws.FnFollowHints", spec := "fnFollowHints", unfollowed := true, recurses := true, apart := false }
def FnFollowHintsSaid : Prop := fnFollowHintsRow.holds Try.pinned (OpenSpec.ofChange fnFollowHintsSpec)

/-- ITS FALSE NEIGHBOUR: 'it returns false'. Refute it at one input. -/
def fnFollowHintsWrong : ChangeSpec := { name := "fnFollowHints", fn := fun _ => fun
  | [d] => { results := [.lit (.bool false)], args := [d] }
  | _ => none }
def FnFollowHintsWrongFalsely : Prop := fnFollowHintsRow.holds Try.pinned (OpenSpec.ofChange fnFollowHintsWrong)

/-- 'laws.FnMakeProof': WHATEVER THE INPUT: true; the input reads as it did. -/
def fnMakeProofSpec : ChangeSpec := { name := "fnMakeProof", fn := fun _ => fun
  | [d] => { results := [.lit (.bool true)], args := [d] }
  | _ => none }
def fnMakeProofRow : OpenClaim := { program := "ytcopagjhklcokaa", sum := "da5b13b1ac94c9d2e8452a7dbdc40fd8a93b18980bd4900a81b3572b782bd5ca", func := "loop.example/gridpuzzles/laws.FnMakeProof", spec := "fnMakeProof", unfollowed := true, recurses := true, apart := false }
def FnMakeProofSaid : Prop := fnMakeProofRow.holds Try.pinned (OpenSpec.ofChange fnMakeProofSpec)

/-- ITS FALSE NEIGHBOUR: 'it returns false'. Refute it at one input. -/
def fnMakeProofWrong : ChangeSpec := { name := "fnMakeProof", fn := fun _ => fun
  | [d] => { results := [.lit (.bool false)], args := [d] }
  | _ => none }
def FnMakeProofWrongFalsely : Prop := fnMakeProofRow.holds Try.pinned (OpenSpec.ofChange fnMakeProofWrong)

/-- 'laws.FnProofHints': WHATEVER THE INPUT: true; the input reads as it did. -/
def fnProofHintsSpec : ChangeSpec := { name := "fnProofHints", fn := fun _ => fun
  | [d] => { results := [.lit (.bool true)], args := [d] }
  | _ => none }
def fnProofHintsRow : OpenClaim := { program := "ytcopagjhklcokaa", sum := "da5b13b1ac94c9d2e8452a7dbdc40fd8a93b18980bd4900a81b3572b782bd5ca", func := "loop.example/gridpuzzles/laws.FnProofHints", spec := "fnProofHints", unfollowed := true, recurses := true, apart := false }
def FnProofHintsSaid : Prop := fnProofHintsRow.holds Try.pinned (OpenSpec.ofChange fnProofHintsSpec)

/-- ITS FALSE NEIGHBOUR: 'it returns false'. Refute it at one input. -/
def fnProofHintsWrong : ChangeSpec := { name := "fnProofHints", fn := fun _ => fun
  | [d] => { results := [.lit (.bool false)], args := [d] }
  | _ => none }
def FnProofHintsWrongFalsely : Prop := fnProofHintsRow.holds Try.pinned (OpenSpec.ofChange fnProofHintsWrong)

/-- 'laws.FnCheckProof': WHATEVER THE INPUT: true; the input reads as it did. -/
def fnCheckProofSpec : ChangeSpec := { name := "fnCheckProof", fn := fun _ => fun
  | [d] => { results := [.lit (.bool true)], args := [d] }
  | _ => none }
def fnCheckProofRow : OpenClaim := { program := "ytcopagjhklcokaa", sum := "da5b13b1ac94c9d2e8452a7dbdc40fd8a93b18980bd4900a81b3572b782bd5ca", func := "loop.example/gridpuzzles/laws.FnCheckProof", spec := "fnCheckProof", unfollowed := true, recurses := true, apart := false }
def FnCheckProofSaid : Prop := fnCheckProofRow.holds Try.pinned (OpenSpec.ofChange fnCheckProofSpec)

/-- ITS FALSE NEIGHBOUR: 'it returns false'. Refute it at one input. -/
def fnCheckProofWrong : ChangeSpec := { name := "fnCheckProof", fn := fun _ => fun
  | [d] => { results := [.lit (.bool false)], args := [d] }
  | _ => none }
def FnCheckProofWrongFalsely : Prop := fnCheckProofRow.holds Try.pinned (OpenSpec.ofChange fnCheckProofWrong)

/- THE SECOND FORM. 'bulk': how many values and letters a reading holds, each counted each time it is reached (what is shared counts as often as it is met; a slice's spare places count too). A statement '..UptoSaid' is the law's where the arguments, and the package variables that the reading takes, are together of bulk at most 1048576: NARROWER than '..Said'. Prove '..Said' where nothing that the law and all that it calls make is longer than what came in: it says more and counts as full. Else prove '..UptoSaid'. A law counts once. -/
mutual
def uptoBulk {H : Type} : DataW H → Nat
  | .lit (.string bytes) => bytes.length + 1
  | .lit _ => 1
  | .nil => 1
  | .ptr d => uptoBulk d + 1
  | .slice elems spare => uptoBulkAll elems + uptoBulkAll spare + 1
  | .agg parts => uptoBulkAll parts + 1
  | .iface _ d => uptoBulk d + 1
  | .map entries => uptoBulkEntries entries + 1
  | .held _ => 1
def uptoBulkAll {H : Type} : List (DataW H) → Nat
  | [] => 0
  | d :: r => uptoBulk d + uptoBulkAll r
def uptoBulkEntries {H : Type} : List (Lit × DataW H) → Nat
  | [] => 0
  | x :: r => uptoBulkEntry x + uptoBulkEntries r
def uptoBulkEntry {H : Type} : Lit × DataW H → Nat
  | (.string bytes, d) => bytes.length + uptoBulk d + 1
  | (_, d) => uptoBulk d + 1
 end
def uptoSmall : (H : Type) → List (DataW H) → Bool := fun _ ds => decide (uptoBulkAll ds ≤ 1048576)
def OpenSpec.upto (s : _root_.Go.ChangeSpec) : _root_.Go.OpenSpec := { _root_.Go.OpenSpec.ofChange s with cond := some uptoSmall }

/-- 'laws.FnNeededRules', WHERE WHAT IT READS IS OF BULK AT MOST 1048576: true; the input reads as it did. -/
def fnNeededRulesUptoRow : OpenClaim := { program := "ytcopagjhklcokaa", sum := "da5b13b1ac94c9d2e8452a7dbdc40fd8a93b18980bd4900a81b3572b782bd5ca", func := "loop.example/gridpuzzles/laws.FnNeededRules", spec := "fnNeededRules", unfollowed := true, recurses := true, apart := false, narrowed := true }
def FnNeededRulesUptoSaid : Prop := fnNeededRulesUptoRow.holds Try.pinned (OpenSpec.upto fnNeededRulesSpec)

/-- 'laws.FnNeededMinimal', WHERE WHAT IT READS IS OF BULK AT MOST 1048576: true; the input reads as it did. -/
def fnNeededMinimalUptoRow : OpenClaim := { program := "ytcopagjhklcokaa", sum := "da5b13b1ac94c9d2e8452a7dbdc40fd8a93b18980bd4900a81b3572b782bd5ca", func := "loop.example/gridpuzzles/laws.FnNeededMinimal", spec := "fnNeededMinimal", unfollowed := true, recurses := true, apart := false, narrowed := true }
def FnNeededMinimalUptoSaid : Prop := fnNeededMinimalUptoRow.holds Try.pinned (OpenSpec.upto fnNeededMinimalSpec)

/-- 'laws.FnWrongCells', WHERE WHAT IT READS IS OF BULK AT MOST 1048576: true; the input reads as it did. -/
def fnWrongCellsUptoRow : OpenClaim := { program := "ytcopagjhklcokaa", sum := "da5b13b1ac94c9d2e8452a7dbdc40fd8a93b18980bd4900a81b3572b782bd5ca", func := "loop.example/gridpuzzles/laws.FnWrongCells", spec := "fnWrongCells", unfollowed := true, recurses := true, apart := false, narrowed := true }
def FnWrongCellsUptoSaid : Prop := fnWrongCellsUptoRow.holds Try.pinned (OpenSpec.upto fnWrongCellsSpec)

/-- 'laws.FnExactNextHint', WHERE WHAT IT READS IS OF BULK AT MOST 1048576: true; the input reads as it did. -/
def fnExactNextHintUptoRow : OpenClaim := { program := "ytcopagjhklcokaa", sum := "da5b13b1ac94c9d2e8452a7dbdc40fd8a93b18980bd4900a81b3572b782bd5ca", func := "loop.example/gridpuzzles/laws.FnExactNextHint", spec := "fnExactNextHint", unfollowed := true, recurses := true, apart := false, narrowed := true }
def FnExactNextHintUptoSaid : Prop := fnExactNextHintUptoRow.holds Try.pinned (OpenSpec.upto fnExactNextHintSpec)

/-- 'laws.FnExactFollowHints', WHERE WHAT IT READS IS OF BULK AT MOST 1048576: true; the input reads as it did. -/
def fnExactFollowHintsUptoRow : OpenClaim := { program := "ytcopagjhklcokaa", sum := "da5b13b1ac94c9d2e8452a7dbdc40fd8a93b18980bd4900a81b3572b782bd5ca", func := "loop.example/gridpuzzles/laws.FnExactFollowHints", spec := "fnExactFollowHints", unfollowed := true, recurses := true, apart := false, narrowed := true }
def FnExactFollowHintsUptoSaid : Prop := fnExactFollowHintsUptoRow.holds Try.pinned (OpenSpec.upto fnExactFollowHintsSpec)

/-- 'laws.FnExactMakeProof', WHERE WHAT IT READS IS OF BULK AT MOST 1048576: true; the input reads as it did. -/
def fnExactMakeProofUptoRow : OpenClaim := { program := "ytcopagjhklcokaa", sum := "da5b13b1ac94c9d2e8452a7dbdc40fd8a93b18980bd4900a81b3572b782bd5ca", func := "loop.example/gridpuzzles/laws.FnExactMakeProof", spec := "fnExactMakeProof", unfollowed := true, recurses := true, apart := false, narrowed := true }
def FnExactMakeProofUptoSaid : Prop := fnExactMakeProofUptoRow.holds Try.pinned (OpenSpec.upto fnExactMakeProofSpec)

/-- 'laws.FnExactCheckProof', WHERE WHAT IT READS IS OF BULK AT MOST 1048576: true; the input reads as it did. -/
def fnExactCheckProofUptoRow : OpenClaim := { program := "ytcopagjhklcokaa", sum := "da5b13b1ac94c9d2e8452a7dbdc40fd8a93b18980bd4900a81b3572b782bd5ca", func := "loop.example/gridpuzzles/laws.FnExactCheckProof", spec := "fnExactCheckProof", unfollowed := true, recurses := true, apart := false, narrowed := true }
def FnExactCheckProofUptoSaid : Prop := fnExactCheckProofUptoRow.holds Try.pinned (OpenSpec.upto fnExactCheckProofSpec)

/-- 'laws.FnNextHint', WHERE WHAT IT READS IS OF BULK AT MOST 1048576: true; the input reads as it did. -/
def fnNextHintUptoRow : OpenClaim := { program := "ytcopagjhklcokaa", sum := "da5b13b1ac94c9d2e8452a7dbdc40fd8a93b18980bd4900a81b3572b782bd5ca", func := "loop.example/gridpuzzles/laws.FnNextHint", spec := "fnNextHint", unfollowed := true, recurses := true, apart := false, narrowed := true }
def FnNextHintUptoSaid : Prop := fnNextHintUptoRow.holds Try.pinned (OpenSpec.upto fnNextHintSpec)

/-- 'laws.FnFollowHints', WHERE WHAT IT READS IS OF BULK AT MOST 1048576: true; the input reads as it did. -/
def fnFollowHintsUptoRow : OpenClaim := { program := "ytcopagjhklcokaa", sum := "da5b13b1ac94c9d2e8452a7dbdc40fd8a93b18980bd4900a81b3572b782bd5ca", func := "loop.example/gridpuzzles/laws.FnFollowHints", spec := "fnFollowHints", unfollowed := true, recurses := true, apart := false, narrowed := true }
def FnFollowHintsUptoSaid : Prop := fnFollowHintsUptoRow.holds Try.pinned (OpenSpec.upto fnFollowHintsSpec)

/-- 'laws.FnMakeProof', WHERE WHAT IT READS IS OF BULK AT MOST 1048576: true; the input reads as it did. -/
def fnMakeProofUptoRow : OpenClaim := { program := "ytcopagjhklcokaa", sum := "da5b13b1ac94c9d2e8452a7dbdc40fd8a93b18980bd4900a81b3572b782bd5ca", func := "loop.example/gridpuzzles/laws.FnMakeProof", spec := "fnMakeProof", unfollowed := true, recurses := true, apart := false, narrowed := true }
def FnMakeProofUptoSaid : Prop := fnMakeProofUptoRow.holds Try.pinned (OpenSpec.upto fnMakeProofSpec)

/-- 'laws.FnProofHints', WHERE WHAT IT READS IS OF BULK AT MOST 1048576: true; the input reads as it did. -/
def fnProofHintsUptoRow : OpenClaim := { program := "ytcopagjhklcokaa", sum := "da5b13b1ac94c9d2e8452a7dbdc40fd8a93b18980bd4900a81b3572b782bd5ca", func := "loop.example/gridpuzzles/laws.FnProofHints", spec := "fnProofHints", unfollowed := true, recurses := true, apart := false, narrowed := true }
def FnProofHintsUptoSaid : Prop := fnProofHintsUptoRow.holds Try.pinned (OpenSpec.upto fnProofHintsSpec)

/-- 'laws.FnCheckProof', WHERE WHAT IT READS IS OF BULK AT MOST 1048576: true; the input reads as it did. -/
def fnCheckProofUptoRow : OpenClaim := { program := "ytcopagjhklcokaa", sum := "da5b13b1ac94c9d2e8452a7dbdc40fd8a93b18980bd4900a81b3572b782bd5ca", func := "loop.example/gridpuzzles/laws.FnCheckProof", spec := "fnCheckProof", unfollowed := true, recurses := true, apart := false, narrowed := true }
def FnCheckProofUptoSaid : Prop := fnCheckProofUptoRow.holds Try.pinned (OpenSpec.upto fnCheckProofSpec)

end Rows
end Go.Proofs.Ytcopagjhklcokaa
