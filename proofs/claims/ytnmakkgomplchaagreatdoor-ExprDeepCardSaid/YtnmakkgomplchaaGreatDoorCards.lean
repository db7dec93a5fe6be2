/-
  DERIVED. GIVEN WITH THE SEED: THE CARDS: each row of YtnmakkgomplchaaGreatDoorRows.lean that lists a variable, with what it lists TIED to the program's text (the seventh form; the later family's looks); each row that meets fmt, with fmt's text TOLD by the authors' own Lean function (tested against real Go, not proved from fmt's source: count such statements apart). THE CARD IS WHAT COUNTS. Prove the row's statement (the work); the ties are given (YtnmakkgomplchaaGreatDoorTie.lean); close each card by the builder's one call (the guide's Derived/Test/ToyasCard.lean, 'card_holds'). Laid BY PROGRAM, IN A SANDBOX (cutbox-door.mjs). By AI agents, Wed Nov 11 2026. No macro, syntax, notation, axiom, sorry.
-/
import Derived.Test.YtnmakkgomplchaaGreatDoorRows
import GoSem.ClaimSeven
namespace Go.Proofs.YtnmakkgomplchaaGreatDoor
namespace Rows

/-- THE TIED CARD OF 'klaxonlaw8.ExprDeep'. -/
def exprDeepCard : Claim7 := { stood := { row := exprDeepRow, standIns := [], harness := (true, "2432b3469b366181df09b64872c74cbc5dd6c54482affc360b9f6f09adec88b0"), looks := true }, kinds := [], alts := [], laidByText := true, laidKinds := [.data, .data, .data, .data, .sentinel, .sentinel, .pinned], laidTests := true, laidLooks := .later }
def ExprDeepCardSaid : Prop := Claim7.holds Tryz.pinned (.plain (OpenSpec.ofChange exprDeepSpec)) exprDeepCard

/-- THE TIED CARD OF 'klaxonlaw11.RuleGrids'. -/
def ruleGridsCard : Claim7 := { stood := { row := ruleGridsRow, standIns := [], harness := (true, "2432b3469b366181df09b64872c74cbc5dd6c54482affc360b9f6f09adec88b0"), looks := true }, kinds := [], alts := [], laidByText := true, laidKinds := [.data, .data, .data, .data, .sentinel, .sentinel, .pinned], laidTests := true, laidLooks := .later }
def RuleGridsCardSaid : Prop := Claim7.holds Tryz.pinned (.plain (OpenSpec.ofChange ruleGridsSpec)) ruleGridsCard

/-- THE SECOND FORM's CARD OF 'klaxonlaw8.ExprDeep'. -/
def exprDeepUptoCard : Claim7 := { stood := { row := exprDeepUptoRow, standIns := [], harness := (true, "2432b3469b366181df09b64872c74cbc5dd6c54482affc360b9f6f09adec88b0"), looks := true }, kinds := [], alts := [], laidByText := true, laidKinds := [.data, .data, .data, .data, .sentinel, .sentinel, .pinned], laidTests := true, laidLooks := .later }
def ExprDeepUptoCardSaid : Prop := Claim7.holds Tryz.pinned (.plain (OpenSpec.upto exprDeepSpec)) exprDeepUptoCard

/-- THE SECOND FORM's CARD OF 'klaxonlaw11.RuleGrids'. -/
def ruleGridsUptoCard : Claim7 := { stood := { row := ruleGridsUptoRow, standIns := [], harness := (true, "2432b3469b366181df09b64872c74cbc5dd6c54482affc360b9f6f09adec88b0"), looks := true }, kinds := [], alts := [], laidByText := true, laidKinds := [.data, .data, .data, .data, .sentinel, .sentinel, .pinned], laidTests := true, laidLooks := .later }
def RuleGridsUptoCardSaid : Prop := Claim7.holds Tryz.pinned (.plain (OpenSpec.upto ruleGridsSpec)) ruleGridsUptoCard
end Rows
end Go.Proofs.YtnmakkgomplchaaGreatDoor
