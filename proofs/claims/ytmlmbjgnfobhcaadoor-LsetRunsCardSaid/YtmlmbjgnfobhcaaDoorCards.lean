/-
  DERIVED. GIVEN WITH THE SEED: THE CARDS: each row of YtmlmbjgnfobhcaaDoorRows.lean that lists a variable, with what it lists TIED to the program's text (the seventh form; the later family's looks); each row that meets fmt, with fmt's text TOLD by the authors' own Lean function (tested against real Go, not proved from fmt's source: count such statements apart). THE CARD IS WHAT COUNTS. Prove the row's statement (the work); the ties are given (YtmlmbjgnfobhcaaDoorTie.lean); close each card by the builder's one call (the guide's Derived/Test/ToyasCard.lean, 'card_holds'). Laid BY PROGRAM, IN A SANDBOX (cutbox-door.mjs). By AI agents, Wed Nov 11 2026. No macro, syntax, notation, axiom, sorry.
-/
import Derived.Test.YtmlmbjgnfobhcaaDoorRows
import GoSem.ClaimSeven
namespace Go.Proofs.YtmlmbjgnfobhcaaDoor
namespace Rows

/-- THE TIED CARD OF 'klaxonlaw18.MuteRuns'. -/
def muteRunsCard : Claim7 := { stood := { row := muteRunsRow, standIns := [], harness := (true, "56712b4d461f118885d2c3672fd3e727af96805a8ca75dc69f0ce649bac41485"), looks := true }, kinds := [], alts := [], laidByText := true, laidKinds := [.data, .pinned], laidTests := true, laidLooks := .later }
def MuteRunsCardSaid : Prop := Claim7.holds Tryd.pinned (.plain (OpenSpec.ofChange muteRunsSpec)) muteRunsCard

/-- THE TIED CARD OF 'klaxonlaw3.MatchRuns'. -/
def matchRunsCard : Claim7 := { stood := { row := matchRunsRow, standIns := [], harness := (true, "56712b4d461f118885d2c3672fd3e727af96805a8ca75dc69f0ce649bac41485"), looks := true }, kinds := [], alts := [], laidByText := true, laidKinds := [.data, .pinned], laidTests := true, laidLooks := .later }
def MatchRunsCardSaid : Prop := Claim7.holds Tryd.pinned (.plain (OpenSpec.ofChange matchRunsSpec)) matchRunsCard

/-- THE TIED CARD OF 'klaxonlaw2.LsetRuns'. -/
def lsetRunsCard : Claim7 := { stood := { row := lsetRunsRow, standIns := [], harness := (true, "56712b4d461f118885d2c3672fd3e727af96805a8ca75dc69f0ce649bac41485"), looks := true }, kinds := [], alts := [], laidByText := true, laidKinds := [.data, .pinned], laidTests := true, laidLooks := .later }
def LsetRunsCardSaid : Prop := Claim7.holds Tryd.pinned (.plain (OpenSpec.ofChange lsetRunsSpec)) lsetRunsCard

/-- THE TIED CARD OF 'klaxonlaw9.VecRuns'. -/
def vecRunsCard : Claim7 := { stood := { row := vecRunsRow, standIns := [], harness := (true, "56712b4d461f118885d2c3672fd3e727af96805a8ca75dc69f0ce649bac41485"), looks := true }, kinds := [], alts := [], laidByText := true, laidKinds := [.data, .pinned], laidTests := true, laidLooks := .later }
def VecRunsCardSaid : Prop := Claim7.holds Tryd.pinned (.plain (OpenSpec.ofChange vecRunsSpec)) vecRunsCard

/-- THE TIED CARD OF 'klaxonlaw7.LexRuns'. -/
def lexRunsCard : Claim7 := { stood := { row := lexRunsRow, standIns := [], harness := (true, "56712b4d461f118885d2c3672fd3e727af96805a8ca75dc69f0ce649bac41485"), looks := true }, kinds := [], alts := [], laidByText := true, laidKinds := [.data, .data, .data, .data, .sentinel, .sentinel, .pinned], laidTests := true, laidLooks := .later }
def LexRunsCardSaid : Prop := Claim7.holds Tryd.pinned (.plain (OpenSpec.ofChange lexRunsSpec)) lexRunsCard

/-- THE SECOND FORM's CARD OF 'klaxonlaw18.MuteRuns'. -/
def muteRunsUptoCard : Claim7 := { stood := { row := muteRunsUptoRow, standIns := [], harness := (true, "56712b4d461f118885d2c3672fd3e727af96805a8ca75dc69f0ce649bac41485"), looks := true }, kinds := [], alts := [], laidByText := true, laidKinds := [.data, .pinned], laidTests := true, laidLooks := .later }
def MuteRunsUptoCardSaid : Prop := Claim7.holds Tryd.pinned (.plain (OpenSpec.upto muteRunsSpec)) muteRunsUptoCard

/-- THE SECOND FORM's CARD OF 'klaxonlaw3.MatchRuns'. -/
def matchRunsUptoCard : Claim7 := { stood := { row := matchRunsUptoRow, standIns := [], harness := (true, "56712b4d461f118885d2c3672fd3e727af96805a8ca75dc69f0ce649bac41485"), looks := true }, kinds := [], alts := [], laidByText := true, laidKinds := [.data, .pinned], laidTests := true, laidLooks := .later }
def MatchRunsUptoCardSaid : Prop := Claim7.holds Tryd.pinned (.plain (OpenSpec.upto matchRunsSpec)) matchRunsUptoCard

/-- THE SECOND FORM's CARD OF 'klaxonlaw2.LsetRuns'. -/
def lsetRunsUptoCard : Claim7 := { stood := { row := lsetRunsUptoRow, standIns := [], harness := (true, "56712b4d461f118885d2c3672fd3e727af96805a8ca75dc69f0ce649bac41485"), looks := true }, kinds := [], alts := [], laidByText := true, laidKinds := [.data, .pinned], laidTests := true, laidLooks := .later }
def LsetRunsUptoCardSaid : Prop := Claim7.holds Tryd.pinned (.plain (OpenSpec.upto lsetRunsSpec)) lsetRunsUptoCard

/-- THE SECOND FORM's CARD OF 'klaxonlaw9.VecRuns'. -/
def vecRunsUptoCard : Claim7 := { stood := { row := vecRunsUptoRow, standIns := [], harness := (true, "56712b4d461f118885d2c3672fd3e727af96805a8ca75dc69f0ce649bac41485"), looks := true }, kinds := [], alts := [], laidByText := true, laidKinds := [.data, .pinned], laidTests := true, laidLooks := .later }
def VecRunsUptoCardSaid : Prop := Claim7.holds Tryd.pinned (.plain (OpenSpec.upto vecRunsSpec)) vecRunsUptoCard

/-- THE SECOND FORM's CARD OF 'klaxonlaw7.LexRuns'. -/
def lexRunsUptoCard : Claim7 := { stood := { row := lexRunsUptoRow, standIns := [], harness := (true, "56712b4d461f118885d2c3672fd3e727af96805a8ca75dc69f0ce649bac41485"), looks := true }, kinds := [], alts := [], laidByText := true, laidKinds := [.data, .data, .data, .data, .sentinel, .sentinel, .pinned], laidTests := true, laidLooks := .later }
def LexRunsUptoCardSaid : Prop := Claim7.holds Tryd.pinned (.plain (OpenSpec.upto lexRunsSpec)) lexRunsUptoCard
end Rows
end Go.Proofs.YtmlmbjgnfobhcaaDoor
