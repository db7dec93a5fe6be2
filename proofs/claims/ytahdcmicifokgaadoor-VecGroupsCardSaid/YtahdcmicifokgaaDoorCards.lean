/-
  DERIVED. GIVEN WITH THE SEED: THE CARDS: each row of YtahdcmicifokgaaDoorRows.lean that lists a variable, with what it lists TIED to the program's text (the seventh form; the later family's looks); each row that meets fmt, with fmt's text TOLD by the authors' own Lean function (tested against real Go, not proved from fmt's source: count such statements apart). THE CARD IS WHAT COUNTS. Prove the row's statement (the work); the ties are given (YtahdcmicifokgaaDoorTie.lean); close each card by the builder's one call (the guide's Derived/Test/ToyasCard.lean, 'card_holds'). Laid BY PROGRAM, IN A SANDBOX (cutbox-door.mjs). By AI agents, Wed Nov 11 2026. No macro, syntax, notation, axiom, sorry.
-/
import Derived.Test.YtahdcmicifokgaaDoorRows
import GoSem.ClaimSeven
namespace Go.Proofs.YtahdcmicifokgaaDoor
namespace Rows

/-- THE TIED CARD OF 'klaxonlaw18.MuteOrder'. -/
def muteOrderCard : Claim7 := { stood := { row := muteOrderRow, standIns := [], harness := (true, "df3c8101d6b22ae2d139e69a10525c8fb80548a755a4032d0abd006a6361bcea"), looks := false }, kinds := [], alts := [], laidByText := true, laidKinds := [.data, .pinned], laidTests := true, laidLooks := .later }
def MuteOrderCardSaid : Prop := Claim7.holds Tryd.pinned (.plain (OpenSpec.ofChange muteOrderSpec)) muteOrderCard

/-- THE TIED CARD OF 'klaxonlaw9.VecGroups'. -/
def vecGroupsCard : Claim7 := { stood := { row := vecGroupsRow, standIns := [], harness := (true, "df3c8101d6b22ae2d139e69a10525c8fb80548a755a4032d0abd006a6361bcea"), looks := false }, kinds := [], alts := [], laidByText := true, laidKinds := [.data, .pinned], laidTests := true, laidLooks := .later }
def VecGroupsCardSaid : Prop := Claim7.holds Tryd.pinned (.plain (OpenSpec.ofChange vecGroupsSpec)) vecGroupsCard

/-- THE TIED CARD OF 'klaxonlaw9.VecMath'. -/
def vecMathCard : Claim7 := { stood := { row := vecMathRow, standIns := [], harness := (true, "df3c8101d6b22ae2d139e69a10525c8fb80548a755a4032d0abd006a6361bcea"), looks := false }, kinds := [], alts := [], laidByText := true, laidKinds := [.data, .pinned], laidTests := true, laidLooks := .later }
def VecMathCardSaid : Prop := Claim7.holds Tryd.pinned (.plain (OpenSpec.ofChange vecMathSpec)) vecMathCard

/-- THE TIED CARD OF 'klaxonlaw9.VecFilter'. -/
def vecFilterCard : Claim7 := { stood := { row := vecFilterRow, standIns := [], harness := (true, "df3c8101d6b22ae2d139e69a10525c8fb80548a755a4032d0abd006a6361bcea"), looks := false }, kinds := [], alts := [], laidByText := true, laidKinds := [.data, .pinned], laidTests := true, laidLooks := .later }
def VecFilterCardSaid : Prop := Claim7.holds Tryd.pinned (.plain (OpenSpec.ofChange vecFilterSpec)) vecFilterCard

/-- THE TIED CARD OF 'klaxonlaw9.VecLogic'. -/
def vecLogicCard : Claim7 := { stood := { row := vecLogicRow, standIns := [], harness := (true, "df3c8101d6b22ae2d139e69a10525c8fb80548a755a4032d0abd006a6361bcea"), looks := false }, kinds := [], alts := [], laidByText := true, laidKinds := [.data, .pinned], laidTests := true, laidLooks := .later }
def VecLogicCardSaid : Prop := Claim7.holds Tryd.pinned (.plain (OpenSpec.ofChange vecLogicSpec)) vecLogicCard

/-- THE SECOND FORM's CARD OF 'klaxonlaw18.MuteOrder'. -/
def muteOrderUptoCard : Claim7 := { stood := { row := muteOrderUptoRow, standIns := [], harness := (true, "df3c8101d6b22ae2d139e69a10525c8fb80548a755a4032d0abd006a6361bcea"), looks := false }, kinds := [], alts := [], laidByText := true, laidKinds := [.data, .pinned], laidTests := true, laidLooks := .later }
def MuteOrderUptoCardSaid : Prop := Claim7.holds Tryd.pinned (.plain (OpenSpec.upto muteOrderSpec)) muteOrderUptoCard

/-- THE SECOND FORM's CARD OF 'klaxonlaw9.VecGroups'. -/
def vecGroupsUptoCard : Claim7 := { stood := { row := vecGroupsUptoRow, standIns := [], harness := (true, "df3c8101d6b22ae2d139e69a10525c8fb80548a755a4032d0abd006a6361bcea"), looks := false }, kinds := [], alts := [], laidByText := true, laidKinds := [.data, .pinned], laidTests := true, laidLooks := .later }
def VecGroupsUptoCardSaid : Prop := Claim7.holds Tryd.pinned (.plain (OpenSpec.upto vecGroupsSpec)) vecGroupsUptoCard

/-- THE SECOND FORM's CARD OF 'klaxonlaw9.VecMath'. -/
def vecMathUptoCard : Claim7 := { stood := { row := vecMathUptoRow, standIns := [], harness := (true, "df3c8101d6b22ae2d139e69a10525c8fb80548a755a4032d0abd006a6361bcea"), looks := false }, kinds := [], alts := [], laidByText := true, laidKinds := [.data, .pinned], laidTests := true, laidLooks := .later }
def VecMathUptoCardSaid : Prop := Claim7.holds Tryd.pinned (.plain (OpenSpec.upto vecMathSpec)) vecMathUptoCard

/-- THE SECOND FORM's CARD OF 'klaxonlaw9.VecFilter'. -/
def vecFilterUptoCard : Claim7 := { stood := { row := vecFilterUptoRow, standIns := [], harness := (true, "df3c8101d6b22ae2d139e69a10525c8fb80548a755a4032d0abd006a6361bcea"), looks := false }, kinds := [], alts := [], laidByText := true, laidKinds := [.data, .pinned], laidTests := true, laidLooks := .later }
def VecFilterUptoCardSaid : Prop := Claim7.holds Tryd.pinned (.plain (OpenSpec.upto vecFilterSpec)) vecFilterUptoCard

/-- THE SECOND FORM's CARD OF 'klaxonlaw9.VecLogic'. -/
def vecLogicUptoCard : Claim7 := { stood := { row := vecLogicUptoRow, standIns := [], harness := (true, "df3c8101d6b22ae2d139e69a10525c8fb80548a755a4032d0abd006a6361bcea"), looks := false }, kinds := [], alts := [], laidByText := true, laidKinds := [.data, .pinned], laidTests := true, laidLooks := .later }
def VecLogicUptoCardSaid : Prop := Claim7.holds Tryd.pinned (.plain (OpenSpec.upto vecLogicSpec)) vecLogicUptoCard
end Rows
end Go.Proofs.YtahdcmicifokgaaDoor
