/-
  DERIVED. GIVEN WITH THE SEED: THE CARDS: each row of YtcdpgldecikejaaDoorRows.lean that lists a variable, with what it lists TIED to the program's text (the seventh form; the later family's looks); each row that meets fmt, with fmt's text TOLD by the authors' own Lean function (tested against real Go, not proved from fmt's source: count such statements apart). THE CARD IS WHAT COUNTS. Prove the row's statement (the work); the ties are given (YtcdpgldecikejaaDoorTie.lean); close each card by the builder's one call (the guide's Derived/Test/ToyasCard.lean, 'card_holds'). Laid BY PROGRAM, IN A SANDBOX (cutbox-door.mjs). By AI agents, Wed Nov 11 2026. No macro, syntax, notation, axiom, sorry.
-/
import Derived.Test.YtcdpgldecikejaaDoorRows
import GoSem.ClaimSeven
namespace Go.Proofs.YtcdpgldecikejaaDoor
namespace Rows

/-- THE TIED CARD OF 'klaxonlaw2.LsetQuote'. -/
def lsetQuoteCard : Claim7 := { stood := { row := lsetQuoteRow, standIns := [], harness := (true, "3f9ee12b7e065ccea552f4d7dad995e1276f920eb5da6a5f4ff0bc6b0a8ebe49"), looks := false }, kinds := [], alts := [], laidByText := true, laidKinds := [.data, .pinned], laidTests := true, laidLooks := .later }
def LsetQuoteCardSaid : Prop := Claim7.holds Tryd.pinned (.plain (OpenSpec.ofChange lsetQuoteSpec)) lsetQuoteCard

/-- THE TIED CARD OF 'klaxonlaw2.LsetBack'. -/
def lsetBackCard : Claim7 := { stood := { row := lsetBackRow, standIns := [], harness := (true, "3f9ee12b7e065ccea552f4d7dad995e1276f920eb5da6a5f4ff0bc6b0a8ebe49"), looks := false }, kinds := [], alts := [], laidByText := true, laidKinds := [.data, .pinned], laidTests := true, laidLooks := .later }
def LsetBackCardSaid : Prop := Claim7.holds Tryd.pinned (.plain (OpenSpec.ofChange lsetBackSpec)) lsetBackCard

/-- THE TIED CARD OF 'klaxonlaw2.LsetMerge'. -/
def lsetMergeCard : Claim7 := { stood := { row := lsetMergeRow, standIns := [], harness := (true, "3f9ee12b7e065ccea552f4d7dad995e1276f920eb5da6a5f4ff0bc6b0a8ebe49"), looks := false }, kinds := [], alts := [], laidByText := true, laidKinds := [.data, .pinned], laidTests := true, laidLooks := .later }
def LsetMergeCardSaid : Prop := Claim7.holds Tryd.pinned (.plain (OpenSpec.ofChange lsetMergeSpec)) lsetMergeCard

/-- THE TIED CARD OF 'klaxonlaw2.LsetTells'. -/
def lsetTellsCard : Claim7 := { stood := { row := lsetTellsRow, standIns := [], harness := (true, "3f9ee12b7e065ccea552f4d7dad995e1276f920eb5da6a5f4ff0bc6b0a8ebe49"), looks := false }, kinds := [], alts := [], laidByText := true, laidKinds := [.data, .pinned], laidTests := true, laidLooks := .later }
def LsetTellsCardSaid : Prop := Claim7.holds Tryd.pinned (.plain (OpenSpec.ofChange lsetTellsSpec)) lsetTellsCard

/-- THE TIED CARD OF 'klaxonlaw2.LsetWith'. -/
def lsetWithCard : Claim7 := { stood := { row := lsetWithRow, standIns := [], harness := (true, "3f9ee12b7e065ccea552f4d7dad995e1276f920eb5da6a5f4ff0bc6b0a8ebe49"), looks := false }, kinds := [], alts := [], laidByText := true, laidKinds := [.data, .pinned], laidTests := true, laidLooks := .later }
def LsetWithCardSaid : Prop := Claim7.holds Tryd.pinned (.plain (OpenSpec.ofChange lsetWithSpec)) lsetWithCard

/-- THE TIED CARD OF 'klaxonlaw3.MatchMany'. -/
def matchManyCard : Claim7 := { stood := { row := matchManyRow, standIns := [], harness := (true, "3f9ee12b7e065ccea552f4d7dad995e1276f920eb5da6a5f4ff0bc6b0a8ebe49"), looks := false }, kinds := [], alts := [], laidByText := true, laidKinds := [.data, .pinned], laidTests := true, laidLooks := .later }
def MatchManyCardSaid : Prop := Claim7.holds Tryd.pinned (.plain (OpenSpec.ofChange matchManySpec)) matchManyCard

/-- THE SECOND FORM's CARD OF 'klaxonlaw2.LsetQuote'. -/
def lsetQuoteUptoCard : Claim7 := { stood := { row := lsetQuoteUptoRow, standIns := [], harness := (true, "3f9ee12b7e065ccea552f4d7dad995e1276f920eb5da6a5f4ff0bc6b0a8ebe49"), looks := false }, kinds := [], alts := [], laidByText := true, laidKinds := [.data, .pinned], laidTests := true, laidLooks := .later }
def LsetQuoteUptoCardSaid : Prop := Claim7.holds Tryd.pinned (.plain (OpenSpec.upto lsetQuoteSpec)) lsetQuoteUptoCard

/-- THE SECOND FORM's CARD OF 'klaxonlaw2.LsetBack'. -/
def lsetBackUptoCard : Claim7 := { stood := { row := lsetBackUptoRow, standIns := [], harness := (true, "3f9ee12b7e065ccea552f4d7dad995e1276f920eb5da6a5f4ff0bc6b0a8ebe49"), looks := false }, kinds := [], alts := [], laidByText := true, laidKinds := [.data, .pinned], laidTests := true, laidLooks := .later }
def LsetBackUptoCardSaid : Prop := Claim7.holds Tryd.pinned (.plain (OpenSpec.upto lsetBackSpec)) lsetBackUptoCard

/-- THE SECOND FORM's CARD OF 'klaxonlaw2.LsetMerge'. -/
def lsetMergeUptoCard : Claim7 := { stood := { row := lsetMergeUptoRow, standIns := [], harness := (true, "3f9ee12b7e065ccea552f4d7dad995e1276f920eb5da6a5f4ff0bc6b0a8ebe49"), looks := false }, kinds := [], alts := [], laidByText := true, laidKinds := [.data, .pinned], laidTests := true, laidLooks := .later }
def LsetMergeUptoCardSaid : Prop := Claim7.holds Tryd.pinned (.plain (OpenSpec.upto lsetMergeSpec)) lsetMergeUptoCard

/-- THE SECOND FORM's CARD OF 'klaxonlaw2.LsetTells'. -/
def lsetTellsUptoCard : Claim7 := { stood := { row := lsetTellsUptoRow, standIns := [], harness := (true, "3f9ee12b7e065ccea552f4d7dad995e1276f920eb5da6a5f4ff0bc6b0a8ebe49"), looks := false }, kinds := [], alts := [], laidByText := true, laidKinds := [.data, .pinned], laidTests := true, laidLooks := .later }
def LsetTellsUptoCardSaid : Prop := Claim7.holds Tryd.pinned (.plain (OpenSpec.upto lsetTellsSpec)) lsetTellsUptoCard

/-- THE SECOND FORM's CARD OF 'klaxonlaw2.LsetWith'. -/
def lsetWithUptoCard : Claim7 := { stood := { row := lsetWithUptoRow, standIns := [], harness := (true, "3f9ee12b7e065ccea552f4d7dad995e1276f920eb5da6a5f4ff0bc6b0a8ebe49"), looks := false }, kinds := [], alts := [], laidByText := true, laidKinds := [.data, .pinned], laidTests := true, laidLooks := .later }
def LsetWithUptoCardSaid : Prop := Claim7.holds Tryd.pinned (.plain (OpenSpec.upto lsetWithSpec)) lsetWithUptoCard

/-- THE SECOND FORM's CARD OF 'klaxonlaw3.MatchMany'. -/
def matchManyUptoCard : Claim7 := { stood := { row := matchManyUptoRow, standIns := [], harness := (true, "3f9ee12b7e065ccea552f4d7dad995e1276f920eb5da6a5f4ff0bc6b0a8ebe49"), looks := false }, kinds := [], alts := [], laidByText := true, laidKinds := [.data, .pinned], laidTests := true, laidLooks := .later }
def MatchManyUptoCardSaid : Prop := Claim7.holds Tryd.pinned (.plain (OpenSpec.upto matchManySpec)) matchManyUptoCard
end Rows
end Go.Proofs.YtcdpgldecikejaaDoor
