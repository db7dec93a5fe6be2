/-
  DERIVED. GIVEN WITH THE SEED: THE CARDS: each row of YtmlmbjgnfobhcaaGreatDoorRows.lean that lists a variable, with what it lists TIED to the program's text (the seventh form; the later family's looks); each row that meets fmt, with fmt's text TOLD by the authors' own Lean function (tested against real Go, not proved from fmt's source: count such statements apart). THE CARD IS WHAT COUNTS. Prove the row's statement (the work); the ties are given (YtmlmbjgnfobhcaaGreatDoorTie.lean); close each card by the builder's one call (the guide's Derived/Test/ToyasCard.lean, 'card_holds'). Laid BY PROGRAM, IN A SANDBOX (cutbox-door.mjs). By AI agents, Wed Nov 11 2026. No macro, syntax, notation, axiom, sorry.
-/
import Derived.Test.YtmlmbjgnfobhcaaGreatDoorRows
import GoSem.ClaimSeven
namespace Go.Proofs.YtmlmbjgnfobhcaaGreatDoor
namespace Rows

/-- THE TIED CARD OF 'klaxonlaw23.ArchiveRuns'. -/
def archiveRunsCard : Claim7 := { stood := { row := archiveRunsRow, standIns := [], harness := (true, "51648bfbc82195dc01389758d6348afd059049d31f05d7deca0d881a1d4008c9"), looks := true }, kinds := [], alts := [], laidByText := true, laidKinds := [.data, .pinned], laidTests := true, laidLooks := .later }
def ArchiveRunsCardSaid : Prop := Claim7.holds Tryz.pinned (.plain (OpenSpec.ofChange archiveRunsSpec)) archiveRunsCard

/-- THE TIED CARD OF 'klaxonlaw8.ExprRuns'. -/
def exprRunsCard : Claim7 := { stood := { row := exprRunsRow, standIns := [], harness := (true, "51648bfbc82195dc01389758d6348afd059049d31f05d7deca0d881a1d4008c9"), looks := true }, kinds := [], alts := [], laidByText := true, laidKinds := [.data, .data, .data, .data, .sentinel, .sentinel, .pinned], laidTests := true, laidLooks := .later }
def ExprRunsCardSaid : Prop := Claim7.holds Tryz.pinned (.plain (OpenSpec.ofChange exprRunsSpec)) exprRunsCard

/-- THE TIED CARD OF 'klaxonlaw11.RuleRuns'. -/
def ruleRunsCard : Claim7 := { stood := { row := ruleRunsRow, standIns := [], harness := (true, "51648bfbc82195dc01389758d6348afd059049d31f05d7deca0d881a1d4008c9"), looks := true }, kinds := [], alts := [], laidByText := true, laidKinds := [.data, .data, .data, .data, .sentinel, .sentinel, .pinned], laidTests := true, laidLooks := .later }
def RuleRunsCardSaid : Prop := Claim7.holds Tryz.pinned (.plain (OpenSpec.ofChange ruleRunsSpec)) ruleRunsCard

/-- THE SECOND FORM's CARD OF 'klaxonlaw23.ArchiveRuns'. -/
def archiveRunsUptoCard : Claim7 := { stood := { row := archiveRunsUptoRow, standIns := [], harness := (true, "51648bfbc82195dc01389758d6348afd059049d31f05d7deca0d881a1d4008c9"), looks := true }, kinds := [], alts := [], laidByText := true, laidKinds := [.data, .pinned], laidTests := true, laidLooks := .later }
def ArchiveRunsUptoCardSaid : Prop := Claim7.holds Tryz.pinned (.plain (OpenSpec.upto archiveRunsSpec)) archiveRunsUptoCard

/-- THE SECOND FORM's CARD OF 'klaxonlaw8.ExprRuns'. -/
def exprRunsUptoCard : Claim7 := { stood := { row := exprRunsUptoRow, standIns := [], harness := (true, "51648bfbc82195dc01389758d6348afd059049d31f05d7deca0d881a1d4008c9"), looks := true }, kinds := [], alts := [], laidByText := true, laidKinds := [.data, .data, .data, .data, .sentinel, .sentinel, .pinned], laidTests := true, laidLooks := .later }
def ExprRunsUptoCardSaid : Prop := Claim7.holds Tryz.pinned (.plain (OpenSpec.upto exprRunsSpec)) exprRunsUptoCard

/-- THE SECOND FORM's CARD OF 'klaxonlaw11.RuleRuns'. -/
def ruleRunsUptoCard : Claim7 := { stood := { row := ruleRunsUptoRow, standIns := [], harness := (true, "51648bfbc82195dc01389758d6348afd059049d31f05d7deca0d881a1d4008c9"), looks := true }, kinds := [], alts := [], laidByText := true, laidKinds := [.data, .data, .data, .data, .sentinel, .sentinel, .pinned], laidTests := true, laidLooks := .later }
def RuleRunsUptoCardSaid : Prop := Claim7.holds Tryz.pinned (.plain (OpenSpec.upto ruleRunsSpec)) ruleRunsUptoCard
end Rows
end Go.Proofs.YtmlmbjgnfobhcaaGreatDoor
