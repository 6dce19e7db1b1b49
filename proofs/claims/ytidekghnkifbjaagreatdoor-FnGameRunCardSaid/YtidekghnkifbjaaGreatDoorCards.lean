/-
  DERIVED. GIVEN WITH THE SEED: THE CARDS: each row of YtidekghnkifbjaaGreatDoorRows.lean that lists a variable, with what it lists TIED to the program's text (the seventh form; the later family's looks); each row that meets fmt, with fmt's text TOLD by the authors' own Lean function (tested against real Go, not proved from fmt's source: count such statements apart). THE CARD IS WHAT COUNTS. Prove the row's statement (the work); the ties are given (YtidekghnkifbjaaGreatDoorTie.lean); close each card by the builder's one call (the guide's Derived/Test/ToyasCard.lean, 'card_holds'). Laid BY PROGRAM, IN A SANDBOX (cutbox-door.mjs). By AI agents, Wed Nov 11 2026. No macro, syntax, notation, axiom, sorry.
-/
import Derived.Test.YtidekghnkifbjaaGreatDoorRows
import GoSem.ClaimSeven
namespace Go.Proofs.YtidekghnkifbjaaGreatDoor
namespace Rows

/-- THE TIED CARD OF 'laws.FnGameCheck'. -/
def fnGameCheckCard : Claim7 := { stood := { row := fnGameCheckRow, standIns := [], harness := (true, "45b1270a1604f56eff3bf80bf1ae664e56313b96bdee5a1628a8c17706d79976"), looks := false }, kinds := [], alts := [], laidByText := true, laidKinds := [.data, .data, .data], laidTests := true, laidLooks := .later }
def FnGameCheckCardSaid : Prop := Claim7.holds Tryz.pinned (.plain (OpenSpec.ofChange fnGameCheckSpec)) fnGameCheckCard

/-- THE TIED CARD OF 'laws.FnExactGameRun'. -/
def fnExactGameRunCard : Claim7 := { stood := { row := fnExactGameRunRow, standIns := [], harness := (true, "45b1270a1604f56eff3bf80bf1ae664e56313b96bdee5a1628a8c17706d79976"), looks := false }, kinds := [], alts := [], laidByText := true, laidKinds := [.data, .data, .data], laidTests := true, laidLooks := .later }
def FnExactGameRunCardSaid : Prop := Claim7.holds Tryz.pinned (.plain (OpenSpec.ofChange fnExactGameRunSpec)) fnExactGameRunCard

/-- THE TIED CARD OF 'laws.FnGameRun'. -/
def fnGameRunCard : Claim7 := { stood := { row := fnGameRunRow, standIns := [], harness := (true, "45b1270a1604f56eff3bf80bf1ae664e56313b96bdee5a1628a8c17706d79976"), looks := false }, kinds := [], alts := [], laidByText := true, laidKinds := [.data, .data, .data], laidTests := true, laidLooks := .later }
def FnGameRunCardSaid : Prop := Claim7.holds Tryz.pinned (.plain (OpenSpec.ofChange fnGameRunSpec)) fnGameRunCard

/-- THE TIED CARD OF 'laws.FnExactGameLine'. -/
def fnExactGameLineCard : Claim7 := { stood := { row := fnExactGameLineRow, standIns := [], harness := (true, "45b1270a1604f56eff3bf80bf1ae664e56313b96bdee5a1628a8c17706d79976"), looks := false }, kinds := [], alts := [], laidByText := true, laidKinds := [.data, .data, .data], laidTests := true, laidLooks := .later }
def FnExactGameLineCardSaid : Prop := Claim7.holds Tryz.pinned (.plain (OpenSpec.ofChange fnExactGameLineSpec)) fnExactGameLineCard

/-- THE TIED CARD OF 'laws.FnGameLine'. -/
def fnGameLineCard : Claim7 := { stood := { row := fnGameLineRow, standIns := [], harness := (true, "45b1270a1604f56eff3bf80bf1ae664e56313b96bdee5a1628a8c17706d79976"), looks := false }, kinds := [], alts := [], laidByText := true, laidKinds := [.data, .data, .data], laidTests := true, laidLooks := .later }
def FnGameLineCardSaid : Prop := Claim7.holds Tryz.pinned (.plain (OpenSpec.ofChange fnGameLineSpec)) fnGameLineCard

/-- THE SECOND FORM's CARD OF 'laws.FnGameCheck'. -/
def fnGameCheckUptoCard : Claim7 := { stood := { row := fnGameCheckUptoRow, standIns := [], harness := (true, "45b1270a1604f56eff3bf80bf1ae664e56313b96bdee5a1628a8c17706d79976"), looks := false }, kinds := [], alts := [], laidByText := true, laidKinds := [.data, .data, .data], laidTests := true, laidLooks := .later }
def FnGameCheckUptoCardSaid : Prop := Claim7.holds Tryz.pinned (.plain (OpenSpec.upto fnGameCheckSpec)) fnGameCheckUptoCard

/-- THE SECOND FORM's CARD OF 'laws.FnExactGameRun'. -/
def fnExactGameRunUptoCard : Claim7 := { stood := { row := fnExactGameRunUptoRow, standIns := [], harness := (true, "45b1270a1604f56eff3bf80bf1ae664e56313b96bdee5a1628a8c17706d79976"), looks := false }, kinds := [], alts := [], laidByText := true, laidKinds := [.data, .data, .data], laidTests := true, laidLooks := .later }
def FnExactGameRunUptoCardSaid : Prop := Claim7.holds Tryz.pinned (.plain (OpenSpec.upto fnExactGameRunSpec)) fnExactGameRunUptoCard

/-- THE SECOND FORM's CARD OF 'laws.FnGameRun'. -/
def fnGameRunUptoCard : Claim7 := { stood := { row := fnGameRunUptoRow, standIns := [], harness := (true, "45b1270a1604f56eff3bf80bf1ae664e56313b96bdee5a1628a8c17706d79976"), looks := false }, kinds := [], alts := [], laidByText := true, laidKinds := [.data, .data, .data], laidTests := true, laidLooks := .later }
def FnGameRunUptoCardSaid : Prop := Claim7.holds Tryz.pinned (.plain (OpenSpec.upto fnGameRunSpec)) fnGameRunUptoCard

/-- THE SECOND FORM's CARD OF 'laws.FnExactGameLine'. -/
def fnExactGameLineUptoCard : Claim7 := { stood := { row := fnExactGameLineUptoRow, standIns := [], harness := (true, "45b1270a1604f56eff3bf80bf1ae664e56313b96bdee5a1628a8c17706d79976"), looks := false }, kinds := [], alts := [], laidByText := true, laidKinds := [.data, .data, .data], laidTests := true, laidLooks := .later }
def FnExactGameLineUptoCardSaid : Prop := Claim7.holds Tryz.pinned (.plain (OpenSpec.upto fnExactGameLineSpec)) fnExactGameLineUptoCard

/-- THE SECOND FORM's CARD OF 'laws.FnGameLine'. -/
def fnGameLineUptoCard : Claim7 := { stood := { row := fnGameLineUptoRow, standIns := [], harness := (true, "45b1270a1604f56eff3bf80bf1ae664e56313b96bdee5a1628a8c17706d79976"), looks := false }, kinds := [], alts := [], laidByText := true, laidKinds := [.data, .data, .data], laidTests := true, laidLooks := .later }
def FnGameLineUptoCardSaid : Prop := Claim7.holds Tryz.pinned (.plain (OpenSpec.upto fnGameLineSpec)) fnGameLineUptoCard
end Rows
end Go.Proofs.YtidekghnkifbjaaGreatDoor
