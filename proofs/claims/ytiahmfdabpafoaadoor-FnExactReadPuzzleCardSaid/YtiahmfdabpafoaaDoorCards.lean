/-
  DERIVED. GIVEN WITH THE SEED: THE CARDS: each row of YtiahmfdabpafoaaDoorRows.lean that lists a variable, with what it lists TIED to the program's text (the seventh form; the later family's looks); each row that meets fmt, with fmt's text TOLD by the authors' own Lean function (tested against real Go, not proved from fmt's source: count such statements apart). THE CARD IS WHAT COUNTS. Prove the row's statement (the work); the ties are given (YtiahmfdabpafoaaDoorTie.lean); close each card by the builder's one call (the guide's Derived/Test/ToyasCard.lean, 'card_holds'). Laid BY PROGRAM, IN A SANDBOX (cutbox-door.mjs). By AI agents, Wed Nov 11 2026. No macro, syntax, notation, axiom, sorry.
-/
import Derived.Test.YtiahmfdabpafoaaDoorRows
import GoSem.ClaimSeven
namespace Go.Proofs.YtiahmfdabpafoaaDoor
namespace Rows

/-- THE TIED CARD OF 'laws.FnExactReadRule'. -/
def fnExactReadRuleCard : Claim7 := { stood := { row := fnExactReadRuleRow, standIns := [], harness := (true, "34beecf04ee3f7f3f9c937651f22c7bed534224937f7b9fa6c557de311f5837a"), looks := true }, kinds := [], alts := [], laidByText := true, laidKinds := [.data, .data, .data, .sentinel, .sentinel], laidTests := true, laidLooks := .later }
def FnExactReadRuleCardSaid : Prop := Claim7.holds Tryd.pinned (.plain (OpenSpec.ofChange fnExactReadRuleSpec)) fnExactReadRuleCard

/-- THE TIED CARD OF 'laws.FnExactReadPuzzle'. -/
def fnExactReadPuzzleCard : Claim7 := { stood := { row := fnExactReadPuzzleRow, standIns := [], harness := (true, "34beecf04ee3f7f3f9c937651f22c7bed534224937f7b9fa6c557de311f5837a"), looks := true }, kinds := [], alts := [], laidByText := true, laidKinds := [.data, .data, .data, .data, .sentinel, .sentinel, .pinned], laidTests := true, laidLooks := .later }
def FnExactReadPuzzleCardSaid : Prop := Claim7.holds Tryd.pinned (.plain (OpenSpec.ofChange fnExactReadPuzzleSpec)) fnExactReadPuzzleCard

/-- THE TIED CARD OF 'laws.FnRuleText'. -/
def fnRuleTextCard : Claim7 := { stood := { row := fnRuleTextRow, standIns := [], harness := (true, "34beecf04ee3f7f3f9c937651f22c7bed534224937f7b9fa6c557de311f5837a"), looks := true }, kinds := [], alts := [], laidByText := true, laidKinds := [.data, .data, .data, .sentinel, .sentinel], laidTests := true, laidLooks := .later }
def FnRuleTextCardSaid : Prop := Claim7.holds Tryd.pinned (.plain (OpenSpec.ofChange fnRuleTextSpec)) fnRuleTextCard

/-- THE TIED CARD OF 'laws.FnReadRule'. -/
def fnReadRuleCard : Claim7 := { stood := { row := fnReadRuleRow, standIns := [], harness := (true, "34beecf04ee3f7f3f9c937651f22c7bed534224937f7b9fa6c557de311f5837a"), looks := true }, kinds := [], alts := [], laidByText := true, laidKinds := [.data, .data, .data, .sentinel, .sentinel], laidTests := true, laidLooks := .later }
def FnReadRuleCardSaid : Prop := Claim7.holds Tryd.pinned (.plain (OpenSpec.ofChange fnReadRuleSpec)) fnReadRuleCard

/-- THE TIED CARD OF 'laws.FnGivenCount'. -/
def fnGivenCountCard : Claim7 := { stood := { row := fnGivenCountRow, standIns := [], harness := (true, "34beecf04ee3f7f3f9c937651f22c7bed534224937f7b9fa6c557de311f5837a"), looks := true }, kinds := [], alts := [], laidByText := true, laidKinds := [.data, .data, .data], laidTests := true, laidLooks := .later }
def FnGivenCountCardSaid : Prop := Claim7.holds Tryd.pinned (.plain (OpenSpec.ofChange fnGivenCountSpec)) fnGivenCountCard

/-- THE SECOND FORM's CARD OF 'laws.FnExactReadRule'. -/
def fnExactReadRuleUptoCard : Claim7 := { stood := { row := fnExactReadRuleUptoRow, standIns := [], harness := (true, "34beecf04ee3f7f3f9c937651f22c7bed534224937f7b9fa6c557de311f5837a"), looks := true }, kinds := [], alts := [], laidByText := true, laidKinds := [.data, .data, .data, .sentinel, .sentinel], laidTests := true, laidLooks := .later }
def FnExactReadRuleUptoCardSaid : Prop := Claim7.holds Tryd.pinned (.plain (OpenSpec.upto fnExactReadRuleSpec)) fnExactReadRuleUptoCard

/-- THE SECOND FORM's CARD OF 'laws.FnExactReadPuzzle'. -/
def fnExactReadPuzzleUptoCard : Claim7 := { stood := { row := fnExactReadPuzzleUptoRow, standIns := [], harness := (true, "34beecf04ee3f7f3f9c937651f22c7bed534224937f7b9fa6c557de311f5837a"), looks := true }, kinds := [], alts := [], laidByText := true, laidKinds := [.data, .data, .data, .data, .sentinel, .sentinel, .pinned], laidTests := true, laidLooks := .later }
def FnExactReadPuzzleUptoCardSaid : Prop := Claim7.holds Tryd.pinned (.plain (OpenSpec.upto fnExactReadPuzzleSpec)) fnExactReadPuzzleUptoCard

/-- THE SECOND FORM's CARD OF 'laws.FnRuleText'. -/
def fnRuleTextUptoCard : Claim7 := { stood := { row := fnRuleTextUptoRow, standIns := [], harness := (true, "34beecf04ee3f7f3f9c937651f22c7bed534224937f7b9fa6c557de311f5837a"), looks := true }, kinds := [], alts := [], laidByText := true, laidKinds := [.data, .data, .data, .sentinel, .sentinel], laidTests := true, laidLooks := .later }
def FnRuleTextUptoCardSaid : Prop := Claim7.holds Tryd.pinned (.plain (OpenSpec.upto fnRuleTextSpec)) fnRuleTextUptoCard

/-- THE SECOND FORM's CARD OF 'laws.FnReadRule'. -/
def fnReadRuleUptoCard : Claim7 := { stood := { row := fnReadRuleUptoRow, standIns := [], harness := (true, "34beecf04ee3f7f3f9c937651f22c7bed534224937f7b9fa6c557de311f5837a"), looks := true }, kinds := [], alts := [], laidByText := true, laidKinds := [.data, .data, .data, .sentinel, .sentinel], laidTests := true, laidLooks := .later }
def FnReadRuleUptoCardSaid : Prop := Claim7.holds Tryd.pinned (.plain (OpenSpec.upto fnReadRuleSpec)) fnReadRuleUptoCard

/-- THE SECOND FORM's CARD OF 'laws.FnGivenCount'. -/
def fnGivenCountUptoCard : Claim7 := { stood := { row := fnGivenCountUptoRow, standIns := [], harness := (true, "34beecf04ee3f7f3f9c937651f22c7bed534224937f7b9fa6c557de311f5837a"), looks := true }, kinds := [], alts := [], laidByText := true, laidKinds := [.data, .data, .data], laidTests := true, laidLooks := .later }
def FnGivenCountUptoCardSaid : Prop := Claim7.holds Tryd.pinned (.plain (OpenSpec.upto fnGivenCountSpec)) fnGivenCountUptoCard
end Rows
end Go.Proofs.YtiahmfdabpafoaaDoor
