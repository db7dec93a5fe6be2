/-
  DERIVED. GIVEN WITH THE SEED: THE CARDS: each row of YtghkbjflejgieaaDoorRows.lean that lists a variable, with what it lists TIED to the program's text (the seventh form; the later family's looks); each row that meets fmt, with fmt's text TOLD by the authors' own Lean function (tested against real Go, not proved from fmt's source: count such statements apart). THE CARD IS WHAT COUNTS. Prove the row's statement (the work); the ties are given (YtghkbjflejgieaaDoorTie.lean); close each card by the builder's one call (the guide's Derived/Test/ToyasCard.lean, 'card_holds'). Laid BY PROGRAM, IN A SANDBOX (cutbox-door.mjs). By AI agents, Wed Nov 11 2026. No macro, syntax, notation, axiom, sorry.
-/
import Derived.Test.YtghkbjflejgieaaDoorRows
import GoSem.ClaimSeven
namespace Go.Proofs.YtghkbjflejgieaaDoor
namespace Rows

/-- THE TIED CARD OF 'klaxonlaw18.MuteRuns'. -/
def muteRunsCard : Claim7 := { stood := { row := muteRunsRow, standIns := [], harness := (true, "396e7b1e67c30ff226e89baf1277dd9c84bc4a60b6c6d73aa731dcaad9ae8691"), looks := false }, kinds := [], alts := [], laidByText := true, laidKinds := [.data, .pinned], laidTests := true, laidLooks := .later }
def MuteRunsCardSaid : Prop := Claim7.holds Tryd.pinned (.plain (OpenSpec.ofChange muteRunsSpec)) muteRunsCard

/-- THE TIED CARD OF 'klaxonlaw18.MuteTells'. -/
def muteTellsCard : Claim7 := { stood := { row := muteTellsRow, standIns := [], harness := (true, "396e7b1e67c30ff226e89baf1277dd9c84bc4a60b6c6d73aa731dcaad9ae8691"), looks := false }, kinds := [], alts := [], laidByText := true, laidKinds := [.data, .pinned], laidTests := true, laidLooks := .later }
def MuteTellsCardSaid : Prop := Claim7.holds Tryd.pinned (.plain (OpenSpec.ofChange muteTellsSpec)) muteTellsCard

/-- THE TIED CARD OF 'klaxonlaw18.MuteMore'. -/
def muteMoreCard : Claim7 := { stood := { row := muteMoreRow, standIns := [], harness := (true, "396e7b1e67c30ff226e89baf1277dd9c84bc4a60b6c6d73aa731dcaad9ae8691"), looks := false }, kinds := [], alts := [], laidByText := true, laidKinds := [.data, .pinned], laidTests := true, laidLooks := .later }
def MuteMoreCardSaid : Prop := Claim7.holds Tryd.pinned (.plain (OpenSpec.ofChange muteMoreSpec)) muteMoreCard

/-- THE TIED CARD OF 'klaxonlaw3.MatchRuns'. -/
def matchRunsCard : Claim7 := { stood := { row := matchRunsRow, standIns := [], harness := (true, "396e7b1e67c30ff226e89baf1277dd9c84bc4a60b6c6d73aa731dcaad9ae8691"), looks := false }, kinds := [], alts := [], laidByText := true, laidKinds := [.data, .pinned], laidTests := true, laidLooks := .later }
def MatchRunsCardSaid : Prop := Claim7.holds Tryd.pinned (.plain (OpenSpec.ofChange matchRunsSpec)) matchRunsCard

/-- THE TIED CARD OF 'klaxonlaw3.MatchTells'. -/
def matchTellsCard : Claim7 := { stood := { row := matchTellsRow, standIns := [], harness := (true, "396e7b1e67c30ff226e89baf1277dd9c84bc4a60b6c6d73aa731dcaad9ae8691"), looks := false }, kinds := [], alts := [], laidByText := true, laidKinds := [.data, .pinned], laidTests := true, laidLooks := .later }
def MatchTellsCardSaid : Prop := Claim7.holds Tryd.pinned (.plain (OpenSpec.ofChange matchTellsSpec)) matchTellsCard

/-- THE TIED CARD OF 'klaxonlaw3.MatchOpposite'. -/
def matchOppositeCard : Claim7 := { stood := { row := matchOppositeRow, standIns := [], harness := (true, "396e7b1e67c30ff226e89baf1277dd9c84bc4a60b6c6d73aa731dcaad9ae8691"), looks := false }, kinds := [], alts := [], laidByText := true, laidKinds := [.data, .pinned], laidTests := true, laidLooks := .later }
def MatchOppositeCardSaid : Prop := Claim7.holds Tryd.pinned (.plain (OpenSpec.ofChange matchOppositeSpec)) matchOppositeCard

/-- THE TIED CARD OF 'klaxonlaw3.MatchExact'. -/
def matchExactCard : Claim7 := { stood := { row := matchExactRow, standIns := [], harness := (true, "396e7b1e67c30ff226e89baf1277dd9c84bc4a60b6c6d73aa731dcaad9ae8691"), looks := false }, kinds := [], alts := [], laidByText := true, laidKinds := [.data, .pinned], laidTests := true, laidLooks := .later }
def MatchExactCardSaid : Prop := Claim7.holds Tryd.pinned (.plain (OpenSpec.ofChange matchExactSpec)) matchExactCard

/-- THE SECOND FORM's CARD OF 'klaxonlaw18.MuteRuns'. -/
def muteRunsUptoCard : Claim7 := { stood := { row := muteRunsUptoRow, standIns := [], harness := (true, "396e7b1e67c30ff226e89baf1277dd9c84bc4a60b6c6d73aa731dcaad9ae8691"), looks := false }, kinds := [], alts := [], laidByText := true, laidKinds := [.data, .pinned], laidTests := true, laidLooks := .later }
def MuteRunsUptoCardSaid : Prop := Claim7.holds Tryd.pinned (.plain (OpenSpec.upto muteRunsSpec)) muteRunsUptoCard

/-- THE SECOND FORM's CARD OF 'klaxonlaw18.MuteTells'. -/
def muteTellsUptoCard : Claim7 := { stood := { row := muteTellsUptoRow, standIns := [], harness := (true, "396e7b1e67c30ff226e89baf1277dd9c84bc4a60b6c6d73aa731dcaad9ae8691"), looks := false }, kinds := [], alts := [], laidByText := true, laidKinds := [.data, .pinned], laidTests := true, laidLooks := .later }
def MuteTellsUptoCardSaid : Prop := Claim7.holds Tryd.pinned (.plain (OpenSpec.upto muteTellsSpec)) muteTellsUptoCard

/-- THE SECOND FORM's CARD OF 'klaxonlaw18.MuteMore'. -/
def muteMoreUptoCard : Claim7 := { stood := { row := muteMoreUptoRow, standIns := [], harness := (true, "396e7b1e67c30ff226e89baf1277dd9c84bc4a60b6c6d73aa731dcaad9ae8691"), looks := false }, kinds := [], alts := [], laidByText := true, laidKinds := [.data, .pinned], laidTests := true, laidLooks := .later }
def MuteMoreUptoCardSaid : Prop := Claim7.holds Tryd.pinned (.plain (OpenSpec.upto muteMoreSpec)) muteMoreUptoCard

/-- THE SECOND FORM's CARD OF 'klaxonlaw3.MatchRuns'. -/
def matchRunsUptoCard : Claim7 := { stood := { row := matchRunsUptoRow, standIns := [], harness := (true, "396e7b1e67c30ff226e89baf1277dd9c84bc4a60b6c6d73aa731dcaad9ae8691"), looks := false }, kinds := [], alts := [], laidByText := true, laidKinds := [.data, .pinned], laidTests := true, laidLooks := .later }
def MatchRunsUptoCardSaid : Prop := Claim7.holds Tryd.pinned (.plain (OpenSpec.upto matchRunsSpec)) matchRunsUptoCard

/-- THE SECOND FORM's CARD OF 'klaxonlaw3.MatchTells'. -/
def matchTellsUptoCard : Claim7 := { stood := { row := matchTellsUptoRow, standIns := [], harness := (true, "396e7b1e67c30ff226e89baf1277dd9c84bc4a60b6c6d73aa731dcaad9ae8691"), looks := false }, kinds := [], alts := [], laidByText := true, laidKinds := [.data, .pinned], laidTests := true, laidLooks := .later }
def MatchTellsUptoCardSaid : Prop := Claim7.holds Tryd.pinned (.plain (OpenSpec.upto matchTellsSpec)) matchTellsUptoCard

/-- THE SECOND FORM's CARD OF 'klaxonlaw3.MatchOpposite'. -/
def matchOppositeUptoCard : Claim7 := { stood := { row := matchOppositeUptoRow, standIns := [], harness := (true, "396e7b1e67c30ff226e89baf1277dd9c84bc4a60b6c6d73aa731dcaad9ae8691"), looks := false }, kinds := [], alts := [], laidByText := true, laidKinds := [.data, .pinned], laidTests := true, laidLooks := .later }
def MatchOppositeUptoCardSaid : Prop := Claim7.holds Tryd.pinned (.plain (OpenSpec.upto matchOppositeSpec)) matchOppositeUptoCard

/-- THE SECOND FORM's CARD OF 'klaxonlaw3.MatchExact'. -/
def matchExactUptoCard : Claim7 := { stood := { row := matchExactUptoRow, standIns := [], harness := (true, "396e7b1e67c30ff226e89baf1277dd9c84bc4a60b6c6d73aa731dcaad9ae8691"), looks := false }, kinds := [], alts := [], laidByText := true, laidKinds := [.data, .pinned], laidTests := true, laidLooks := .later }
def MatchExactUptoCardSaid : Prop := Claim7.holds Tryd.pinned (.plain (OpenSpec.upto matchExactSpec)) matchExactUptoCard
end Rows
end Go.Proofs.YtghkbjflejgieaaDoor
