/-
  DERIVED. GIVEN WITH THE SEED: THE CARDS: each row of YtfkhojmllokgoaaDoorRows.lean that lists a variable, with what it lists TIED to the program's text (the seventh form; the later family's looks); each row that meets fmt, with fmt's text TOLD by the authors' own Lean function (tested against real Go, not proved from fmt's source: count such statements apart). THE CARD IS WHAT COUNTS. Prove the row's statement (the work); the ties are given (YtfkhojmllokgoaaDoorTie.lean); close each card by the builder's one call (the guide's Derived/Test/ToyasCard.lean, 'card_holds'). Laid BY PROGRAM, IN A SANDBOX (cutbox-door.mjs). By AI agents, Wed Nov 11 2026. No macro, syntax, notation, axiom, sorry.
-/
import Derived.Test.YtfkhojmllokgoaaDoorRows
import GoSem.ClaimSeven
namespace Go.Proofs.YtfkhojmllokgoaaDoor
namespace Rows

/-- THE TIED CARD OF 'laws.FnExactHintText'. -/
def fnExactHintTextCard : Claim7 := { stood := { row := fnExactHintTextRow, standIns := [], harness := (true, "db484581fab65fb26ae5e4de7d722b4d13117110c3ccd70c0be403e986ad021e"), looks := false }, kinds := [], alts := [], laidByText := true, laidKinds := [.data, .data, .data], laidTests := true, laidLooks := .later }
def FnExactHintTextCardSaid : Prop := Claim7.holds Tryd.pinned (.plain (OpenSpec.ofChange fnExactHintTextSpec)) fnExactHintTextCard

/-- THE TIED CARD OF 'laws.FnHintText'. -/
def fnHintTextCard : Claim7 := { stood := { row := fnHintTextRow, standIns := [], harness := (true, "db484581fab65fb26ae5e4de7d722b4d13117110c3ccd70c0be403e986ad021e"), looks := false }, kinds := [], alts := [], laidByText := true, laidKinds := [.data, .data, .data], laidTests := true, laidLooks := .later }
def FnHintTextCardSaid : Prop := Claim7.holds Tryd.pinned (.plain (OpenSpec.ofChange fnHintTextSpec)) fnHintTextCard

/-- THE TIED CARD OF 'laws.FnExactRuleText'. -/
def fnExactRuleTextCard : Claim7 := { stood := { row := fnExactRuleTextRow, standIns := [], harness := (true, "db484581fab65fb26ae5e4de7d722b4d13117110c3ccd70c0be403e986ad021e"), looks := false }, kinds := [], alts := [], laidByText := true, laidKinds := [.data, .data, .data], laidTests := true, laidLooks := .later }
def FnExactRuleTextCardSaid : Prop := Claim7.holds Tryd.pinned (.plain (OpenSpec.ofChange fnExactRuleTextSpec)) fnExactRuleTextCard

/-- THE TIED CARD OF 'laws.FnExactPuzzleText'. -/
def fnExactPuzzleTextCard : Claim7 := { stood := { row := fnExactPuzzleTextRow, standIns := [], harness := (true, "db484581fab65fb26ae5e4de7d722b4d13117110c3ccd70c0be403e986ad021e"), looks := false }, kinds := [], alts := [], laidByText := true, laidKinds := [.data, .data, .data], laidTests := true, laidLooks := .later }
def FnExactPuzzleTextCardSaid : Prop := Claim7.holds Tryd.pinned (.plain (OpenSpec.ofChange fnExactPuzzleTextSpec)) fnExactPuzzleTextCard

/-- THE TIED CARD OF 'laws.FnTextsRules'. -/
def fnTextsRulesCard : Claim7 := { stood := { row := fnTextsRulesRow, standIns := [], harness := (true, "db484581fab65fb26ae5e4de7d722b4d13117110c3ccd70c0be403e986ad021e"), looks := false }, kinds := [], alts := [], laidByText := true, laidKinds := [.data, .data, .data], laidTests := true, laidLooks := .later }
def FnTextsRulesCardSaid : Prop := Claim7.holds Tryd.pinned (.plain (OpenSpec.ofChange fnTextsRulesSpec)) fnTextsRulesCard

/-- THE TIED CARD OF 'laws.FnGivenCount'. -/
def fnGivenCountCard : Claim7 := { stood := { row := fnGivenCountRow, standIns := [], harness := (true, "db484581fab65fb26ae5e4de7d722b4d13117110c3ccd70c0be403e986ad021e"), looks := false }, kinds := [], alts := [], laidByText := true, laidKinds := [.data, .data, .data], laidTests := true, laidLooks := .later }
def FnGivenCountCardSaid : Prop := Claim7.holds Tryd.pinned (.plain (OpenSpec.ofChange fnGivenCountSpec)) fnGivenCountCard

/-- THE SECOND FORM's CARD OF 'laws.FnExactHintText'. -/
def fnExactHintTextUptoCard : Claim7 := { stood := { row := fnExactHintTextUptoRow, standIns := [], harness := (true, "db484581fab65fb26ae5e4de7d722b4d13117110c3ccd70c0be403e986ad021e"), looks := false }, kinds := [], alts := [], laidByText := true, laidKinds := [.data, .data, .data], laidTests := true, laidLooks := .later }
def FnExactHintTextUptoCardSaid : Prop := Claim7.holds Tryd.pinned (.plain (OpenSpec.upto fnExactHintTextSpec)) fnExactHintTextUptoCard

/-- THE SECOND FORM's CARD OF 'laws.FnHintText'. -/
def fnHintTextUptoCard : Claim7 := { stood := { row := fnHintTextUptoRow, standIns := [], harness := (true, "db484581fab65fb26ae5e4de7d722b4d13117110c3ccd70c0be403e986ad021e"), looks := false }, kinds := [], alts := [], laidByText := true, laidKinds := [.data, .data, .data], laidTests := true, laidLooks := .later }
def FnHintTextUptoCardSaid : Prop := Claim7.holds Tryd.pinned (.plain (OpenSpec.upto fnHintTextSpec)) fnHintTextUptoCard

/-- THE SECOND FORM's CARD OF 'laws.FnExactRuleText'. -/
def fnExactRuleTextUptoCard : Claim7 := { stood := { row := fnExactRuleTextUptoRow, standIns := [], harness := (true, "db484581fab65fb26ae5e4de7d722b4d13117110c3ccd70c0be403e986ad021e"), looks := false }, kinds := [], alts := [], laidByText := true, laidKinds := [.data, .data, .data], laidTests := true, laidLooks := .later }
def FnExactRuleTextUptoCardSaid : Prop := Claim7.holds Tryd.pinned (.plain (OpenSpec.upto fnExactRuleTextSpec)) fnExactRuleTextUptoCard

/-- THE SECOND FORM's CARD OF 'laws.FnExactPuzzleText'. -/
def fnExactPuzzleTextUptoCard : Claim7 := { stood := { row := fnExactPuzzleTextUptoRow, standIns := [], harness := (true, "db484581fab65fb26ae5e4de7d722b4d13117110c3ccd70c0be403e986ad021e"), looks := false }, kinds := [], alts := [], laidByText := true, laidKinds := [.data, .data, .data], laidTests := true, laidLooks := .later }
def FnExactPuzzleTextUptoCardSaid : Prop := Claim7.holds Tryd.pinned (.plain (OpenSpec.upto fnExactPuzzleTextSpec)) fnExactPuzzleTextUptoCard

/-- THE SECOND FORM's CARD OF 'laws.FnTextsRules'. -/
def fnTextsRulesUptoCard : Claim7 := { stood := { row := fnTextsRulesUptoRow, standIns := [], harness := (true, "db484581fab65fb26ae5e4de7d722b4d13117110c3ccd70c0be403e986ad021e"), looks := false }, kinds := [], alts := [], laidByText := true, laidKinds := [.data, .data, .data], laidTests := true, laidLooks := .later }
def FnTextsRulesUptoCardSaid : Prop := Claim7.holds Tryd.pinned (.plain (OpenSpec.upto fnTextsRulesSpec)) fnTextsRulesUptoCard

/-- THE SECOND FORM's CARD OF 'laws.FnGivenCount'. -/
def fnGivenCountUptoCard : Claim7 := { stood := { row := fnGivenCountUptoRow, standIns := [], harness := (true, "db484581fab65fb26ae5e4de7d722b4d13117110c3ccd70c0be403e986ad021e"), looks := false }, kinds := [], alts := [], laidByText := true, laidKinds := [.data, .data, .data], laidTests := true, laidLooks := .later }
def FnGivenCountUptoCardSaid : Prop := Claim7.holds Tryd.pinned (.plain (OpenSpec.upto fnGivenCountSpec)) fnGivenCountUptoCard
end Rows
end Go.Proofs.YtfkhojmllokgoaaDoor
