/-
  No cell of these rows narrows 'for every input' (looked for: loops, veiled, ifaces, maps, wideKeys, modest, calm, conditions, laid).
  DERIVED. THE GIVEN ROWS OF THIS SEAT. 9 by the template 'for every input the law returns true; each argument reads behind the call as it read before'; 0 by the template 'total and deterministic' (their statements: YtlpehaekjclgcaaTotals.lean).
  GIVEN WITH THE SEED: the statements are not yours to turn. If you find one false, say at which input.
  Laid BY PROGRAM, IN A SANDBOX (cutbox-rows.mjs): the forced cells as the released guide's own fill.sh prints them over the translation 13eea430d03629b0… (all of the seat's roots in one cut). By AI agents, Wed Nov 11 2026. No macro, syntax, notation, axiom, sorry.
-/
import Derived.Test.YtlpehaekjclgcaaChecked
import GoSem.Claim
import GoSem.ClaimJoined
import GoSem.ClaimMapViews
import Derived.JoinedTies
import Derived.KernelRfl
namespace Go.Proofs.Ytlpehaekjclgcaa
/- THE CELL 'sum', in the pinned program and in every row, IS THE sha256 OF THE DUMP (.gsa) THAT YtlpehaekjclgcaaProg.lean LOADS. Nothing in Lean hashes anything: it is a label: what it is worth is what the hold of that sum in a sandbox is worth. -/
noncomputable def Try.pinned : Pinned := { name := "ytlpehaekjclgcaa", sum := "13eea430d03629b0a52226150bbfdc12d15f642f8424ccc8896e656c1c7dc1ea", checked := Try.checked }
namespace Rows
def none {H : Type} : Left H := { results := [], args := [] }

/-- 'laws.FnExactGridText': WHATEVER THE INPUT: true; the input reads as it did. -/
def fnExactGridTextSpec : ChangeSpec := { name := "fnExactGridText", fn := fun _ => fun
  | [d1, d2] => { results := [.lit (.bool true)], args := [d1, d2] }
  | _ => none }
def fnExactGridTextRow : OpenClaim := { program := "ytlpehaekjclgcaa", sum := "13eea430d03629b0a52226150bbfdc12d15f642f8424ccc8896e656c1c7dc1ea", func := "loop.example/gridpuzzles/laws.FnExactGridText", spec := "fnExactGridText", apart := false }
def FnExactGridTextSaid : Prop := fnExactGridTextRow.holds Try.pinned (OpenSpec.ofChange fnExactGridTextSpec)

/-- ITS FALSE NEIGHBOUR: 'it returns false'. Refute it at one input. -/
def fnExactGridTextWrong : ChangeSpec := { name := "fnExactGridText", fn := fun _ => fun
  | [d1, d2] => { results := [.lit (.bool false)], args := [d1, d2] }
  | _ => none }
def FnExactGridTextWrongFalsely : Prop := fnExactGridTextRow.holds Try.pinned (OpenSpec.ofChange fnExactGridTextWrong)

/-- 'laws.FnExactReadGrid': WHATEVER THE INPUT: true; the input reads as it did. -/
def fnExactReadGridSpec : ChangeSpec := { name := "fnExactReadGrid", fn := fun _ => fun
  | [d] => { results := [.lit (.bool true)], args := [d] }
  | _ => none }
def fnExactReadGridRow : OpenClaim := { program := "ytlpehaekjclgcaa", sum := "13eea430d03629b0a52226150bbfdc12d15f642f8424ccc8896e656c1c7dc1ea", func := "loop.example/gridpuzzles/laws.FnExactReadGrid", spec := "fnExactReadGrid", apart := false }
def FnExactReadGridSaid : Prop := fnExactReadGridRow.holds Try.pinned (OpenSpec.ofChange fnExactReadGridSpec)

/-- ITS FALSE NEIGHBOUR: 'it returns false'. Refute it at one input. -/
def fnExactReadGridWrong : ChangeSpec := { name := "fnExactReadGrid", fn := fun _ => fun
  | [d] => { results := [.lit (.bool false)], args := [d] }
  | _ => none }
def FnExactReadGridWrongFalsely : Prop := fnExactReadGridRow.holds Try.pinned (OpenSpec.ofChange fnExactReadGridWrong)

/-- 'laws.FnExactGridRows': WHATEVER THE INPUT: true; the input reads as it did. -/
def fnExactGridRowsSpec : ChangeSpec := { name := "fnExactGridRows", fn := fun _ => fun
  | [d1, d2] => { results := [.lit (.bool true)], args := [d1, d2] }
  | _ => none }
def fnExactGridRowsRow : OpenClaim := { program := "ytlpehaekjclgcaa", sum := "13eea430d03629b0a52226150bbfdc12d15f642f8424ccc8896e656c1c7dc1ea", func := "loop.example/gridpuzzles/laws.FnExactGridRows", spec := "fnExactGridRows", apart := false }
def FnExactGridRowsSaid : Prop := fnExactGridRowsRow.holds Try.pinned (OpenSpec.ofChange fnExactGridRowsSpec)

/-- ITS FALSE NEIGHBOUR: 'it returns false'. Refute it at one input. -/
def fnExactGridRowsWrong : ChangeSpec := { name := "fnExactGridRows", fn := fun _ => fun
  | [d1, d2] => { results := [.lit (.bool false)], args := [d1, d2] }
  | _ => none }
def FnExactGridRowsWrongFalsely : Prop := fnExactGridRowsRow.holds Try.pinned (OpenSpec.ofChange fnExactGridRowsWrong)

/-- 'laws.FnGridRows': WHATEVER THE INPUT: true; the input reads as it did. -/
def fnGridRowsSpec : ChangeSpec := { name := "fnGridRows", fn := fun _ => fun
  | [d] => { results := [.lit (.bool true)], args := [d] }
  | _ => none }
def fnGridRowsRow : OpenClaim := { program := "ytlpehaekjclgcaa", sum := "13eea430d03629b0a52226150bbfdc12d15f642f8424ccc8896e656c1c7dc1ea", func := "loop.example/gridpuzzles/laws.FnGridRows", spec := "fnGridRows", recurses := true, apart := false }
def FnGridRowsSaid : Prop := fnGridRowsRow.holds Try.pinned (OpenSpec.ofChange fnGridRowsSpec)

/-- ITS FALSE NEIGHBOUR: 'it returns false'. Refute it at one input. -/
def fnGridRowsWrong : ChangeSpec := { name := "fnGridRows", fn := fun _ => fun
  | [d] => { results := [.lit (.bool false)], args := [d] }
  | _ => none }
def FnGridRowsWrongFalsely : Prop := fnGridRowsRow.holds Try.pinned (OpenSpec.ofChange fnGridRowsWrong)

/-- 'laws.FnGridText': WHATEVER THE INPUT: true; the input reads as it did. -/
def fnGridTextSpec : ChangeSpec := { name := "fnGridText", fn := fun _ => fun
  | [d] => { results := [.lit (.bool true)], args := [d] }
  | _ => none }
def fnGridTextRow : OpenClaim := { program := "ytlpehaekjclgcaa", sum := "13eea430d03629b0a52226150bbfdc12d15f642f8424ccc8896e656c1c7dc1ea", func := "loop.example/gridpuzzles/laws.FnGridText", spec := "fnGridText", recurses := true, apart := false }
def FnGridTextSaid : Prop := fnGridTextRow.holds Try.pinned (OpenSpec.ofChange fnGridTextSpec)

/-- ITS FALSE NEIGHBOUR: 'it returns false'. Refute it at one input. -/
def fnGridTextWrong : ChangeSpec := { name := "fnGridText", fn := fun _ => fun
  | [d] => { results := [.lit (.bool false)], args := [d] }
  | _ => none }
def FnGridTextWrongFalsely : Prop := fnGridTextRow.holds Try.pinned (OpenSpec.ofChange fnGridTextWrong)

/-- 'laws.FnReadGrid': WHATEVER THE INPUT: true; the input reads as it did. -/
def fnReadGridSpec : ChangeSpec := { name := "fnReadGrid", fn := fun _ => fun
  | [d] => { results := [.lit (.bool true)], args := [d] }
  | _ => none }
def fnReadGridRow : OpenClaim := { program := "ytlpehaekjclgcaa", sum := "13eea430d03629b0a52226150bbfdc12d15f642f8424ccc8896e656c1c7dc1ea", func := "loop.example/gridpuzzles/laws.FnReadGrid", spec := "fnReadGrid", recurses := true, apart := false }
def FnReadGridSaid : Prop := fnReadGridRow.holds Try.pinned (OpenSpec.ofChange fnReadGridSpec)

/-- ITS FALSE NEIGHBOUR: 'it returns false'. Refute it at one input. -/
def fnReadGridWrong : ChangeSpec := { name := "fnReadGrid", fn := fun _ => fun
  | [d] => { results := [.lit (.bool false)], args := [d] }
  | _ => none }
def FnReadGridWrongFalsely : Prop := fnReadGridRow.holds Try.pinned (OpenSpec.ofChange fnReadGridWrong)

/-- 'laws.FnExactProofValid': WHATEVER THE INPUT: true; the input reads as it did. -/
def fnExactProofValidSpec : ChangeSpec := { name := "fnExactProofValid", fn := fun _ => fun
  | [d1, d2] => { results := [.lit (.bool true)], args := [d1, d2] }
  | _ => none }
def fnExactProofValidRow : OpenClaim := { program := "ytlpehaekjclgcaa", sum := "13eea430d03629b0a52226150bbfdc12d15f642f8424ccc8896e656c1c7dc1ea", func := "loop.example/gridpuzzles/laws.FnExactProofValid", spec := "fnExactProofValid", apart := false }
def FnExactProofValidSaid : Prop := fnExactProofValidRow.holds Try.pinned (OpenSpec.ofChange fnExactProofValidSpec)

/-- ITS FALSE NEIGHBOUR: 'it returns false'. Refute it at one input. -/
def fnExactProofValidWrong : ChangeSpec := { name := "fnExactProofValid", fn := fun _ => fun
  | [d1, d2] => { results := [.lit (.bool false)], args := [d1, d2] }
  | _ => none }
def FnExactProofValidWrongFalsely : Prop := fnExactProofValidRow.holds Try.pinned (OpenSpec.ofChange fnExactProofValidWrong)

/-- 'laws.FnExactGameValid': WHATEVER THE INPUT: true; the input reads as it did. -/
def fnExactGameValidSpec : ChangeSpec := { name := "fnExactGameValid", fn := fun _ => fun
  | [d] => { results := [.lit (.bool true)], args := [d] }
  | _ => none }
def fnExactGameValidRow : OpenClaim := { program := "ytlpehaekjclgcaa", sum := "13eea430d03629b0a52226150bbfdc12d15f642f8424ccc8896e656c1c7dc1ea", func := "loop.example/gridpuzzles/laws.FnExactGameValid", spec := "fnExactGameValid", apart := false }
def FnExactGameValidSaid : Prop := fnExactGameValidRow.holds Try.pinned (OpenSpec.ofChange fnExactGameValidSpec)

/-- ITS FALSE NEIGHBOUR: 'it returns false'. Refute it at one input. -/
def fnExactGameValidWrong : ChangeSpec := { name := "fnExactGameValid", fn := fun _ => fun
  | [d] => { results := [.lit (.bool false)], args := [d] }
  | _ => none }
def FnExactGameValidWrongFalsely : Prop := fnExactGameValidRow.holds Try.pinned (OpenSpec.ofChange fnExactGameValidWrong)

/-- 'laws.FnExactProofTries': WHATEVER THE INPUT: true; the input reads as it did. -/
def fnExactProofTriesSpec : ChangeSpec := { name := "fnExactProofTries", fn := fun _ => fun
  | [d1, d2] => { results := [.lit (.bool true)], args := [d1, d2] }
  | _ => none }
def fnExactProofTriesRow : OpenClaim := { program := "ytlpehaekjclgcaa", sum := "13eea430d03629b0a52226150bbfdc12d15f642f8424ccc8896e656c1c7dc1ea", func := "loop.example/gridpuzzles/laws.FnExactProofTries", spec := "fnExactProofTries", apart := false }
def FnExactProofTriesSaid : Prop := fnExactProofTriesRow.holds Try.pinned (OpenSpec.ofChange fnExactProofTriesSpec)

/-- ITS FALSE NEIGHBOUR: 'it returns false'. Refute it at one input. -/
def fnExactProofTriesWrong : ChangeSpec := { name := "fnExactProofTries", fn := fun _ => fun
  | [d1, d2] => { results := [.lit (.bool false)], args := [d1, d2] }
  | _ => none }
def FnExactProofTriesWrongFalsely : Prop := fnExactProofTriesRow.holds Try.pinned (OpenSpec.ofChange fnExactProofTriesWrong)

/- THE SECOND FORM. 'bulk': how many values and letters a reading holds, each counted each time it is reached (what is shared counts as often as it is met; a slice's spare places count too). A statement '..UptoSaid' is the law's where the arguments, and the package variables that the reading takes, are together of bulk at most 1048576: NARROWER than '..Said'. Prove '..Said' where nothing that the law and all that it calls make is longer than what came in: it says more and counts as full. Else prove '..UptoSaid'. A law counts once. -/
mutual
def uptoBulk {H : Type} : DataW H → Nat
  | .lit (.string bytes) => bytes.length + 1
  | .lit _ => 1
  | .nil => 1
  | .ptr d => uptoBulk d + 1
  | .slice elems spare => uptoBulkAll elems + uptoBulkAll spare + 1
  | .agg parts => uptoBulkAll parts + 1
  | .iface _ d => uptoBulk d + 1
  | .map entries => uptoBulkEntries entries + 1
  | .held _ => 1
def uptoBulkAll {H : Type} : List (DataW H) → Nat
  | [] => 0
  | d :: r => uptoBulk d + uptoBulkAll r
def uptoBulkEntries {H : Type} : List (Lit × DataW H) → Nat
  | [] => 0
  | x :: r => uptoBulkEntry x + uptoBulkEntries r
def uptoBulkEntry {H : Type} : Lit × DataW H → Nat
  | (.string bytes, d) => bytes.length + uptoBulk d + 1
  | (_, d) => uptoBulk d + 1
 end
def uptoSmall : (H : Type) → List (DataW H) → Bool := fun _ ds => decide (uptoBulkAll ds ≤ 1048576)
def OpenSpec.upto (s : _root_.Go.ChangeSpec) : _root_.Go.OpenSpec := { _root_.Go.OpenSpec.ofChange s with cond := some uptoSmall }

/-- 'laws.FnExactGridText', WHERE WHAT IT READS IS OF BULK AT MOST 1048576: true; the input reads as it did. -/
def fnExactGridTextUptoRow : OpenClaim := { program := "ytlpehaekjclgcaa", sum := "13eea430d03629b0a52226150bbfdc12d15f642f8424ccc8896e656c1c7dc1ea", func := "loop.example/gridpuzzles/laws.FnExactGridText", spec := "fnExactGridText", apart := false, narrowed := true }
def FnExactGridTextUptoSaid : Prop := fnExactGridTextUptoRow.holds Try.pinned (OpenSpec.upto fnExactGridTextSpec)

/-- 'laws.FnExactReadGrid', WHERE WHAT IT READS IS OF BULK AT MOST 1048576: true; the input reads as it did. -/
def fnExactReadGridUptoRow : OpenClaim := { program := "ytlpehaekjclgcaa", sum := "13eea430d03629b0a52226150bbfdc12d15f642f8424ccc8896e656c1c7dc1ea", func := "loop.example/gridpuzzles/laws.FnExactReadGrid", spec := "fnExactReadGrid", apart := false, narrowed := true }
def FnExactReadGridUptoSaid : Prop := fnExactReadGridUptoRow.holds Try.pinned (OpenSpec.upto fnExactReadGridSpec)

/-- 'laws.FnExactGridRows', WHERE WHAT IT READS IS OF BULK AT MOST 1048576: true; the input reads as it did. -/
def fnExactGridRowsUptoRow : OpenClaim := { program := "ytlpehaekjclgcaa", sum := "13eea430d03629b0a52226150bbfdc12d15f642f8424ccc8896e656c1c7dc1ea", func := "loop.example/gridpuzzles/laws.FnExactGridRows", spec := "fnExactGridRows", apart := false, narrowed := true }
def FnExactGridRowsUptoSaid : Prop := fnExactGridRowsUptoRow.holds Try.pinned (OpenSpec.upto fnExactGridRowsSpec)

/-- 'laws.FnGridRows', WHERE WHAT IT READS IS OF BULK AT MOST 1048576: true; the input reads as it did. -/
def fnGridRowsUptoRow : OpenClaim := { program := "ytlpehaekjclgcaa", sum := "13eea430d03629b0a52226150bbfdc12d15f642f8424ccc8896e656c1c7dc1ea", func := "loop.example/gridpuzzles/laws.FnGridRows", spec := "fnGridRows", recurses := true, apart := false, narrowed := true }
def FnGridRowsUptoSaid : Prop := fnGridRowsUptoRow.holds Try.pinned (OpenSpec.upto fnGridRowsSpec)

/-- 'laws.FnGridText', WHERE WHAT IT READS IS OF BULK AT MOST 1048576: true; the input reads as it did. -/
def fnGridTextUptoRow : OpenClaim := { program := "ytlpehaekjclgcaa", sum := "13eea430d03629b0a52226150bbfdc12d15f642f8424ccc8896e656c1c7dc1ea", func := "loop.example/gridpuzzles/laws.FnGridText", spec := "fnGridText", recurses := true, apart := false, narrowed := true }
def FnGridTextUptoSaid : Prop := fnGridTextUptoRow.holds Try.pinned (OpenSpec.upto fnGridTextSpec)

/-- 'laws.FnReadGrid', WHERE WHAT IT READS IS OF BULK AT MOST 1048576: true; the input reads as it did. -/
def fnReadGridUptoRow : OpenClaim := { program := "ytlpehaekjclgcaa", sum := "13eea430d03629b0a52226150bbfdc12d15f642f8424ccc8896e656c1c7dc1ea", func := "loop.example/gridpuzzles/laws.FnReadGrid", spec := "fnReadGrid", recurses := true, apart := false, narrowed := true }
def FnReadGridUptoSaid : Prop := fnReadGridUptoRow.holds Try.pinned (OpenSpec.upto fnReadGridSpec)

/-- 'laws.FnExactProofValid', WHERE WHAT IT READS IS OF BULK AT MOST 1048576: true; the input reads as it did. -/
def fnExactProofValidUptoRow : OpenClaim := { program := "ytlpehaekjclgcaa", sum := "13eea430d03629b0a52226150bbfdc12d15f642f8424ccc8896e656c1c7dc1ea", func := "loop.example/gridpuzzles/laws.FnExactProofValid", spec := "fnExactProofValid", apart := false, narrowed := true }
def FnExactProofValidUptoSaid : Prop := fnExactProofValidUptoRow.holds Try.pinned (OpenSpec.upto fnExactProofValidSpec)

/-- 'laws.FnExactGameValid', WHERE WHAT IT READS IS OF BULK AT MOST 1048576: true; the input reads as it did. -/
def fnExactGameValidUptoRow : OpenClaim := { program := "ytlpehaekjclgcaa", sum := "13eea430d03629b0a52226150bbfdc12d15f642f8424ccc8896e656c1c7dc1ea", func := "loop.example/gridpuzzles/laws.FnExactGameValid", spec := "fnExactGameValid", apart := false, narrowed := true }
def FnExactGameValidUptoSaid : Prop := fnExactGameValidUptoRow.holds Try.pinned (OpenSpec.upto fnExactGameValidSpec)

/-- 'laws.FnExactProofTries', WHERE WHAT IT READS IS OF BULK AT MOST 1048576: true; the input reads as it did. -/
def fnExactProofTriesUptoRow : OpenClaim := { program := "ytlpehaekjclgcaa", sum := "13eea430d03629b0a52226150bbfdc12d15f642f8424ccc8896e656c1c7dc1ea", func := "loop.example/gridpuzzles/laws.FnExactProofTries", spec := "fnExactProofTries", apart := false, narrowed := true }
def FnExactProofTriesUptoSaid : Prop := fnExactProofTriesUptoRow.holds Try.pinned (OpenSpec.upto fnExactProofTriesSpec)

end Rows
end Go.Proofs.Ytlpehaekjclgcaa
