/-
  NARROWER THAN 'FOR EVERY INPUT', by the rows' own cells (each row's printed sentence says how): MuteOrder: laid · VecGroups: laid · VecMath: laid · VecFilter: laid · VecLogic: laid.
  DERIVED. THE GIVEN ROWS OF THIS SEAT. 5 by the template 'for every input the law returns true; each argument reads behind the call as it read before'; 0 by the template 'total and deterministic' (their statements: YtahdcmicifokgaaDoorTotals.lean).
  GIVEN WITH THE SEED: the statements are not yours to turn. If you find one false, say at which input.
  Laid BY PROGRAM, IN A SANDBOX (cutbox-rows.mjs): the forced cells as the released guide's own fill.sh prints them over the translation f6bdab3cbaf8c081… (all of the seat's roots in one cut). By AI agents, Wed Nov 11 2026. No macro, syntax, notation, axiom, sorry.
-/
import Derived.Test.YtahdcmicifokgaaDoorChecked
import GoSem.PinnedTables
import GoSem.Claim
import GoSem.ClaimJoined
import GoSem.ClaimMapViews
import Derived.JoinedTies
import Derived.KernelRfl
namespace Go.Proofs.YtahdcmicifokgaaDoor
/- THE CELL 'sum', in the pinned program and in every row, IS THE sha256 OF THE DUMP (.gsa) THAT YtahdcmicifokgaaDoorProg.lean LOADS. Nothing in Lean hashes anything: it is a label: what it is worth is what the hold of that sum in a sandbox is worth. -/
noncomputable def Tryd.pinned : Pinned := { name := "ytahdcmicifokgaadoor", sum := "f6bdab3cbaf8c081b20a3daf0cff3beaac062976730904b268d01cf216a2247e", checked := Tryd.checked }
namespace Rows
def none {H : Type} : Left H := { results := [], args := [] }

/- WHAT THE LISTED PACKAGE-LEVEL VARIABLES READ AS WHEN THE CALL BEGINS. Each datum BY PROGRAM (the guide's laid-datum.mjs) off the statement by which the dump's own 'gosem.cut.vars' lays the variable. In a bare row this is a premise. The card (YtahdcmicifokgaaDoorCards.lean) ties it to the program's text. -/
def laid_unicode_utf8_acceptRanges {H : Type} : DataW H := .agg [.agg [.lit (.int .u8 128), .lit (.int .u8 191)], .agg [.lit (.int .u8 160), .lit (.int .u8 191)], .agg [.lit (.int .u8 128), .lit (.int .u8 159)], .agg [.lit (.int .u8 144), .lit (.int .u8 191)], .agg [.lit (.int .u8 128), .lit (.int .u8 143)], .agg [.lit (.int .u8 0), .lit (.int .u8 0)], .agg [.lit (.int .u8 0), .lit (.int .u8 0)], .agg [.lit (.int .u8 0), .lit (.int .u8 0)], .agg [.lit (.int .u8 0), .lit (.int .u8 0)], .agg [.lit (.int .u8 0), .lit (.int .u8 0)], .agg [.lit (.int .u8 0), .lit (.int .u8 0)], .agg [.lit (.int .u8 0), .lit (.int .u8 0)], .agg [.lit (.int .u8 0), .lit (.int .u8 0)], .agg [.lit (.int .u8 0), .lit (.int .u8 0)], .agg [.lit (.int .u8 0), .lit (.int .u8 0)], .agg [.lit (.int .u8 0), .lit (.int .u8 0)]]
/-- One of Go's own tables, pinned by name: the form's constant. -/
def laid_unicode_utf8_first : DataW Unit := Go.Pinned.utf8First

/-- 'klaxonlaw18.MuteOrder': WHATEVER THE INPUT: true; the input reads as it did. -/
def muteOrderSpec : ChangeSpec := { name := "muteOrder", fn := fun _ => fun
  | [d1, d2, d3, d4] => { results := [.lit (.bool true)], args := [d1, d2, d3, d4] }
  | _ => none }
def muteOrderRow : OpenClaim := { program := "ytahdcmicifokgaadoor", sum := "f6bdab3cbaf8c081b20a3daf0cff3beaac062976730904b268d01cf216a2247e", func := "klaxon/klaxonlaw18.MuteOrder", spec := "muteOrder", inPlace := ["internal/bytealg.IndexByteString", "internal/bytealg.IndexString", "internal/abi.NoEscape", "internal/bytealg.MakeNoZero"], unfollowed := true, recurses := true, named := ["unicode/utf8.first", "unicode/utf8.acceptRanges", "internal/bytealg.MaxLen"], apart := false, laid := [("unicode/utf8.acceptRanges", laid_unicode_utf8_acceptRanges), ("unicode/utf8.first", laid_unicode_utf8_first)] }
def MuteOrderSaid : Prop := muteOrderRow.holds Tryd.pinned (OpenSpec.ofChange muteOrderSpec)

/-- ITS FALSE NEIGHBOUR: 'it returns false'. Refute it at one input. -/
def muteOrderWrong : ChangeSpec := { name := "muteOrder", fn := fun _ => fun
  | [d1, d2, d3, d4] => { results := [.lit (.bool false)], args := [d1, d2, d3, d4] }
  | _ => none }
def MuteOrderWrongFalsely : Prop := muteOrderRow.holds Tryd.pinned (OpenSpec.ofChange muteOrderWrong)

/-- 'klaxonlaw9.VecGroups': WHATEVER THE INPUT: true; the input reads as it did. -/
def vecGroupsSpec : ChangeSpec := { name := "vecGroups", fn := fun _ => fun
  | [d1, d2] => { results := [.lit (.bool true)], args := [d1, d2] }
  | _ => none }
def vecGroupsRow : OpenClaim := { program := "ytahdcmicifokgaadoor", sum := "f6bdab3cbaf8c081b20a3daf0cff3beaac062976730904b268d01cf216a2247e", func := "klaxon/klaxonlaw9.VecGroups", spec := "vecGroups", inPlace := ["internal/bytealg.IndexByteString", "internal/bytealg.IndexString", "internal/abi.NoEscape", "internal/bytealg.MakeNoZero", "internal/bytealg.abigen_runtime_cmpstring"], unfollowed := true, recurses := true, named := ["unicode/utf8.first", "unicode/utf8.acceptRanges", "internal/bytealg.MaxLen"], apart := false, laid := [("unicode/utf8.acceptRanges", laid_unicode_utf8_acceptRanges), ("unicode/utf8.first", laid_unicode_utf8_first)] }
def VecGroupsSaid : Prop := vecGroupsRow.holds Tryd.pinned (OpenSpec.ofChange vecGroupsSpec)

/-- ITS FALSE NEIGHBOUR: 'it returns false'. Refute it at one input. -/
def vecGroupsWrong : ChangeSpec := { name := "vecGroups", fn := fun _ => fun
  | [d1, d2] => { results := [.lit (.bool false)], args := [d1, d2] }
  | _ => none }
def VecGroupsWrongFalsely : Prop := vecGroupsRow.holds Tryd.pinned (OpenSpec.ofChange vecGroupsWrong)

/-- 'klaxonlaw9.VecMath': WHATEVER THE INPUT: true; the input reads as it did. -/
def vecMathSpec : ChangeSpec := { name := "vecMath", fn := fun _ => fun
  | [d1, d2, d3] => { results := [.lit (.bool true)], args := [d1, d2, d3] }
  | _ => none }
def vecMathRow : OpenClaim := { program := "ytahdcmicifokgaadoor", sum := "f6bdab3cbaf8c081b20a3daf0cff3beaac062976730904b268d01cf216a2247e", func := "klaxon/klaxonlaw9.VecMath", spec := "vecMath", inPlace := ["internal/bytealg.IndexByteString", "internal/bytealg.IndexString", "internal/abi.NoEscape", "internal/bytealg.MakeNoZero", "internal/bytealg.abigen_runtime_cmpstring"], unfollowed := true, recurses := true, named := ["unicode/utf8.first", "unicode/utf8.acceptRanges", "internal/bytealg.MaxLen"], apart := false, laid := [("unicode/utf8.acceptRanges", laid_unicode_utf8_acceptRanges), ("unicode/utf8.first", laid_unicode_utf8_first)] }
def VecMathSaid : Prop := vecMathRow.holds Tryd.pinned (OpenSpec.ofChange vecMathSpec)

/-- ITS FALSE NEIGHBOUR: 'it returns false'. Refute it at one input. -/
def vecMathWrong : ChangeSpec := { name := "vecMath", fn := fun _ => fun
  | [d1, d2, d3] => { results := [.lit (.bool false)], args := [d1, d2, d3] }
  | _ => none }
def VecMathWrongFalsely : Prop := vecMathRow.holds Tryd.pinned (OpenSpec.ofChange vecMathWrong)

/-- 'klaxonlaw9.VecFilter': WHATEVER THE INPUT: true; the input reads as it did. -/
def vecFilterSpec : ChangeSpec := { name := "vecFilter", fn := fun _ => fun
  | [d1, d2, d3] => { results := [.lit (.bool true)], args := [d1, d2, d3] }
  | _ => none }
def vecFilterRow : OpenClaim := { program := "ytahdcmicifokgaadoor", sum := "f6bdab3cbaf8c081b20a3daf0cff3beaac062976730904b268d01cf216a2247e", func := "klaxon/klaxonlaw9.VecFilter", spec := "vecFilter", inPlace := ["internal/bytealg.IndexByteString", "internal/bytealg.IndexString", "internal/abi.NoEscape", "internal/bytealg.MakeNoZero", "internal/bytealg.abigen_runtime_cmpstring"], unfollowed := true, recurses := true, named := ["unicode/utf8.first", "unicode/utf8.acceptRanges", "internal/bytealg.MaxLen"], apart := false, laid := [("unicode/utf8.acceptRanges", laid_unicode_utf8_acceptRanges), ("unicode/utf8.first", laid_unicode_utf8_first)] }
def VecFilterSaid : Prop := vecFilterRow.holds Tryd.pinned (OpenSpec.ofChange vecFilterSpec)

/-- ITS FALSE NEIGHBOUR: 'it returns false'. Refute it at one input. -/
def vecFilterWrong : ChangeSpec := { name := "vecFilter", fn := fun _ => fun
  | [d1, d2, d3] => { results := [.lit (.bool false)], args := [d1, d2, d3] }
  | _ => none }
def VecFilterWrongFalsely : Prop := vecFilterRow.holds Tryd.pinned (OpenSpec.ofChange vecFilterWrong)

/-- 'klaxonlaw9.VecLogic': WHATEVER THE INPUT: true; the input reads as it did. -/
def vecLogicSpec : ChangeSpec := { name := "vecLogic", fn := fun _ => fun
  | [d1, d2, d3] => { results := [.lit (.bool true)], args := [d1, d2, d3] }
  | _ => none }
def vecLogicRow : OpenClaim := { program := "ytahdcmicifokgaadoor", sum := "f6bdab3cbaf8c081b20a3daf0cff3beaac062976730904b268d01cf216a2247e", func := "klaxon/klaxonlaw9.VecLogic", spec := "vecLogic", inPlace := ["internal/bytealg.IndexByteString", "internal/bytealg.IndexString", "internal/abi.NoEscape", "internal/bytealg.MakeNoZero", "internal/bytealg.abigen_runtime_cmpstring"], unfollowed := true, recurses := true, named := ["unicode/utf8.first", "unicode/utf8.acceptRanges", "internal/bytealg.MaxLen"], apart := false, laid := [("unicode/utf8.acceptRanges", laid_unicode_utf8_acceptRanges), ("unicode/utf8.first", laid_unicode_utf8_first)] }
def VecLogicSaid : Prop := vecLogicRow.holds Tryd.pinned (OpenSpec.ofChange vecLogicSpec)

/-- ITS FALSE NEIGHBOUR: 'it returns false'. Refute it at one input. -/
def vecLogicWrong : ChangeSpec := { name := "vecLogic", fn := fun _ => fun
  | [d1, d2, d3] => { results := [.lit (.bool false)], args := [d1, d2, d3] }
  | _ => none }
def VecLogicWrongFalsely : Prop := vecLogicRow.holds Tryd.pinned (OpenSpec.ofChange vecLogicWrong)

/- THE SECOND FORM. 'bulk': how many values and letters a reading holds, each counted each time it is reached (what is shared counts as often as it is met; a slice's spare places count too). A statement '..UptoSaid' is the law's where the arguments, and the package variables that the reading takes, are together of bulk at most 1048576: NARROWER than '..Said'. Prove '..Said' where nothing that the law and all that it calls make is longer than what came in: it says more and counts as full. Else prove '..UptoSaid'. A law counts once. -/
mutual
def uptoBulk {H : Type} : DataW H → Nat
  | .lit (.string bytes) => bytes.length + 1
  | .lit _ => 1
  | .nil => 1
  | .ptr d => uptoBulk d + 1
  | .slice elems spare => uptoBulkAll elems + uptoBulkAll spare + 1
  | .agg parts => uptoBulkAll parts + 1
  | .iface _ d => uptoBulk d + 1
  | .map entries => uptoBulkEntries entries + 1
  | .held _ => 1
def uptoBulkAll {H : Type} : List (DataW H) → Nat
  | [] => 0
  | d :: r => uptoBulk d + uptoBulkAll r
def uptoBulkEntries {H : Type} : List (Lit × DataW H) → Nat
  | [] => 0
  | x :: r => uptoBulkEntry x + uptoBulkEntries r
def uptoBulkEntry {H : Type} : Lit × DataW H → Nat
  | (.string bytes, d) => bytes.length + uptoBulk d + 1
  | (_, d) => uptoBulk d + 1
 end
def uptoSmall : (H : Type) → List (DataW H) → Bool := fun _ ds => decide (uptoBulkAll ds ≤ 1048576)
def OpenSpec.upto (s : _root_.Go.ChangeSpec) : _root_.Go.OpenSpec := { _root_.Go.OpenSpec.ofChange s with cond := some uptoSmall }

/-- 'klaxonlaw18.MuteOrder', WHERE WHAT IT READS IS OF BULK AT MOST 1048576: true; the input reads as it did. -/
def muteOrderUptoRow : OpenClaim := { program := "ytahdcmicifokgaadoor", sum := "f6bdab3cbaf8c081b20a3daf0cff3beaac062976730904b268d01cf216a2247e", func := "klaxon/klaxonlaw18.MuteOrder", spec := "muteOrder", inPlace := ["internal/bytealg.IndexByteString", "internal/bytealg.IndexString", "internal/abi.NoEscape", "internal/bytealg.MakeNoZero"], unfollowed := true, recurses := true, named := ["unicode/utf8.first", "unicode/utf8.acceptRanges", "internal/bytealg.MaxLen"], apart := false, laid := [("unicode/utf8.acceptRanges", laid_unicode_utf8_acceptRanges), ("unicode/utf8.first", laid_unicode_utf8_first)], narrowed := true }
def MuteOrderUptoSaid : Prop := muteOrderUptoRow.holds Tryd.pinned (OpenSpec.upto muteOrderSpec)

/-- 'klaxonlaw9.VecGroups', WHERE WHAT IT READS IS OF BULK AT MOST 1048576: true; the input reads as it did. -/
def vecGroupsUptoRow : OpenClaim := { program := "ytahdcmicifokgaadoor", sum := "f6bdab3cbaf8c081b20a3daf0cff3beaac062976730904b268d01cf216a2247e", func := "klaxon/klaxonlaw9.VecGroups", spec := "vecGroups", inPlace := ["internal/bytealg.IndexByteString", "internal/bytealg.IndexString", "internal/abi.NoEscape", "internal/bytealg.MakeNoZero", "internal/bytealg.abigen_runtime_cmpstring"], unfollowed := true, recurses := true, named := ["unicode/utf8.first", "unicode/utf8.acceptRanges", "internal/bytealg.MaxLen"], apart := false, laid := [("unicode/utf8.acceptRanges", laid_unicode_utf8_acceptRanges), ("unicode/utf8.first", laid_unicode_utf8_first)], narrowed := true }
def VecGroupsUptoSaid : Prop := vecGroupsUptoRow.holds Tryd.pinned (OpenSpec.upto vecGroupsSpec)

/-- 'klaxonlaw9.VecMath', WHERE WHAT IT READS IS OF BULK AT MOST 1048576: true; the input reads as it did. -/
def vecMathUptoRow : OpenClaim := { program := "ytahdcmicifokgaadoor", sum := "f6bdab3cbaf8c081b20a3daf0cff3beaac062976730904b268d01cf216a2247e", func := "klaxon/klaxonlaw9.VecMath", spec := "vecMath", inPlace := ["internal/bytealg.IndexByteString", "internal/bytealg.IndexString", "internal/abi.NoEscape", "internal/bytealg.MakeNoZero", "internal/bytealg.abigen_runtime_cmpstring"], unfollowed := true, recurses := true, named := ["unicode/utf8.first", "unicode/utf8.acceptRanges", "internal/bytealg.MaxLen"], apart := false, laid := [("unicode/utf8.acceptRanges", laid_unicode_utf8_acceptRanges), ("unicode/utf8.first", laid_unicode_utf8_first)], narrowed := true }
def VecMathUptoSaid : Prop := vecMathUptoRow.holds Tryd.pinned (OpenSpec.upto vecMathSpec)

/-- 'klaxonlaw9.VecFilter', WHERE WHAT IT READS IS OF BULK AT MOST 1048576: true; the input reads as it did. -/
def vecFilterUptoRow : OpenClaim := { program := "ytahdcmicifokgaadoor", sum := "f6bdab3cbaf8c081b20a3daf0cff3beaac062976730904b268d01cf216a2247e", func := "klaxon/klaxonlaw9.VecFilter", spec := "vecFilter", inPlace := ["internal/bytealg.IndexByteString", "internal/bytealg.IndexString", "internal/abi.NoEscape", "internal/bytealg.MakeNoZero", "internal/bytealg.abigen_runtime_cmpstring"], unfollowed := true, recurses := true, named := ["unicode/utf8.first", "unicode/utf8.acceptRanges", "internal/bytealg.MaxLen"], apart := false, laid := [("unicode/utf8.acceptRanges", laid_unicode_utf8_acceptRanges), ("unicode/utf8.first", laid_unicode_utf8_first)], narrowed := true }
def VecFilterUptoSaid : Prop := vecFilterUptoRow.holds Tryd.pinned (OpenSpec.upto vecFilterSpec)

/-- 'klaxonlaw9.VecLogic', WHERE WHAT IT READS IS OF BULK AT MOST 1048576: true; the input reads as it did. -/
def vecLogicUptoRow : OpenClaim := { program := "ytahdcmicifokgaadoor", sum := "f6bdab3cbaf8c081b20a3daf0cff3beaac062976730904b268d01cf216a2247e", func := "klaxon/klaxonlaw9.VecLogic", spec := "vecLogic", inPlace := ["internal/bytealg.IndexByteString", "internal/bytealg.IndexString", "internal/abi.NoEscape", "internal/bytealg.MakeNoZero", "internal/bytealg.abigen_runtime_cmpstring"], unfollowed := true, recurses := true, named := ["unicode/utf8.first", "unicode/utf8.acceptRanges", "internal/bytealg.MaxLen"], apart := false, laid := [("unicode/utf8.acceptRanges", laid_unicode_utf8_acceptRanges), ("unicode/utf8.first", laid_unicode_utf8_first)], narrowed := true }
def VecLogicUptoSaid : Prop := vecLogicUptoRow.holds Tryd.pinned (OpenSpec.upto vecLogicSpec)

end Rows
end Go.Proofs.YtahdcmicifokgaaDoor
