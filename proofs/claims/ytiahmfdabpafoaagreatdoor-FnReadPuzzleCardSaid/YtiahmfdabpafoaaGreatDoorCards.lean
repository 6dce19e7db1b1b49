/-
  DERIVED. GIVEN WITH THE SEED: THE CARDS: each row of YtiahmfdabpafoaaGreatDoorRows.lean that lists a variable, with what it lists TIED to the program's text (the seventh form; the later family's looks); each row that meets fmt, with fmt's text TOLD by the authors' own Lean function (tested against real Go, not proved from fmt's source: count such statements apart). THE CARD IS WHAT COUNTS. Prove the row's statement (the work); the ties are given (YtiahmfdabpafoaaGreatDoorTie.lean); close each card by the builder's one call (the guide's Derived/Test/ToyasCard.lean, 'card_holds'). Laid BY PROGRAM, IN A SANDBOX (cutbox-door.mjs). By AI agents, Wed Nov 11 2026. No macro, syntax, notation, axiom, sorry.
-/
import Derived.Test.YtiahmfdabpafoaaGreatDoorRows
import GoSem.ClaimSeven
namespace Go.Proofs.YtiahmfdabpafoaaGreatDoor
namespace Rows

/-- THE TIED CARD OF 'laws.FnPuzzleText'. -/
def fnPuzzleTextCard : Claim7 := { stood := { row := fnPuzzleTextRow, standIns := [], harness := (true, "7261b950d8844d046207539117d7a4fb3d52753ad3f175aa80f4866ebea9d67a"), looks := true }, kinds := [], alts := [], laidByText := true, laidKinds := [.data, .data, .data, .data, .sentinel, .sentinel, .pinned], laidTests := true, laidLooks := .later }
def FnPuzzleTextCardSaid : Prop := Claim7.holds Tryz.pinned (.plain (OpenSpec.ofChange fnPuzzleTextSpec)) fnPuzzleTextCard

/-- THE TIED CARD OF 'laws.FnReadPuzzle'. -/
def fnReadPuzzleCard : Claim7 := { stood := { row := fnReadPuzzleRow, standIns := [], harness := (true, "7261b950d8844d046207539117d7a4fb3d52753ad3f175aa80f4866ebea9d67a"), looks := true }, kinds := [], alts := [], laidByText := true, laidKinds := [.data, .data, .data, .data, .sentinel, .sentinel, .pinned], laidTests := true, laidLooks := .later }
def FnReadPuzzleCardSaid : Prop := Claim7.holds Tryz.pinned (.plain (OpenSpec.ofChange fnReadPuzzleSpec)) fnReadPuzzleCard

/-- THE SECOND FORM's CARD OF 'laws.FnPuzzleText'. -/
def fnPuzzleTextUptoCard : Claim7 := { stood := { row := fnPuzzleTextUptoRow, standIns := [], harness := (true, "7261b950d8844d046207539117d7a4fb3d52753ad3f175aa80f4866ebea9d67a"), looks := true }, kinds := [], alts := [], laidByText := true, laidKinds := [.data, .data, .data, .data, .sentinel, .sentinel, .pinned], laidTests := true, laidLooks := .later }
def FnPuzzleTextUptoCardSaid : Prop := Claim7.holds Tryz.pinned (.plain (OpenSpec.upto fnPuzzleTextSpec)) fnPuzzleTextUptoCard

/-- THE SECOND FORM's CARD OF 'laws.FnReadPuzzle'. -/
def fnReadPuzzleUptoCard : Claim7 := { stood := { row := fnReadPuzzleUptoRow, standIns := [], harness := (true, "7261b950d8844d046207539117d7a4fb3d52753ad3f175aa80f4866ebea9d67a"), looks := true }, kinds := [], alts := [], laidByText := true, laidKinds := [.data, .data, .data, .data, .sentinel, .sentinel, .pinned], laidTests := true, laidLooks := .later }
def FnReadPuzzleUptoCardSaid : Prop := Claim7.holds Tryz.pinned (.plain (OpenSpec.upto fnReadPuzzleSpec)) fnReadPuzzleUptoCard
end Rows
end Go.Proofs.YtiahmfdabpafoaaGreatDoor
