/-
  NARROWER THAN 'FOR EVERY INPUT', by the rows' own cells (each row's printed sentence says how): MuteRuns: laid · MuteTells: laid · MuteMore: laid · MatchRuns: laid · MatchTells: laid · MatchOpposite: laid · MatchExact: laid.
  DERIVED. THE GIVEN ROWS OF THIS SEAT. 7 by the template 'for every input the law returns true; each argument reads behind the call as it read before'; 0 by the template 'total and deterministic' (their statements: YtghkbjflejgieaaDoorTotals.lean).
  GIVEN WITH THE SEED: the statements are not yours to turn. If you find one false, say at which input.
  Laid BY PROGRAM, IN A SANDBOX (cutbox-rows.mjs): the forced cells as the released guide's own fill.sh prints them over the translation 7c46757842420d96… (all of the seat's roots in one cut). By AI agents, Wed Nov 11 2026. No macro, syntax, notation, axiom, sorry.
-/
import Derived.Test.YtghkbjflejgieaaDoorChecked
import GoSem.PinnedTables
import GoSem.Claim
import GoSem.ClaimJoined
import GoSem.ClaimMapViews
import Derived.JoinedTies
import Derived.KernelRfl
namespace Go.Proofs.YtghkbjflejgieaaDoor
/- THE CELL 'sum', in the pinned program and in every row, IS THE sha256 OF THE DUMP (.gsa) THAT YtghkbjflejgieaaDoorProg.lean LOADS. Nothing in Lean hashes anything: it is a label: what it is worth is what the hold of that sum in a sandbox is worth. -/
noncomputable def Tryd.pinned : Pinned := { name := "ytghkbjflejgieaadoor", sum := "7c46757842420d96dd1535fb7a4658264ae5e1f37aedca1d9d5e4e9eeac52999", checked := Tryd.checked }
namespace Rows
def none {H : Type} : Left H := { results := [], args := [] }

/- WHAT THE LISTED PACKAGE-LEVEL VARIABLES READ AS WHEN THE CALL BEGINS. Each datum BY PROGRAM (the guide's laid-datum.mjs) off the statement by which the dump's own 'gosem.cut.vars' lays the variable. In a bare row this is a premise. The card (YtghkbjflejgieaaDoorCards.lean) ties it to the program's text. -/
def laid_unicode_utf8_acceptRanges {H : Type} : DataW H := .agg [.agg [.lit (.int .u8 128), .lit (.int .u8 191)], .agg [.lit (.int .u8 160), .lit (.int .u8 191)], .agg [.lit (.int .u8 128), .lit (.int .u8 159)], .agg [.lit (.int .u8 144), .lit (.int .u8 191)], .agg [.lit (.int .u8 128), .lit (.int .u8 143)], .agg [.lit (.int .u8 0), .lit (.int .u8 0)], .agg [.lit (.int .u8 0), .lit (.int .u8 0)], .agg [.lit (.int .u8 0), .lit (.int .u8 0)], .agg [.lit (.int .u8 0), .lit (.int .u8 0)], .agg [.lit (.int .u8 0), .lit (.int .u8 0)], .agg [.lit (.int .u8 0), .lit (.int .u8 0)], .agg [.lit (.int .u8 0), .lit (.int .u8 0)], .agg [.lit (.int .u8 0), .lit (.int .u8 0)], .agg [.lit (.int .u8 0), .lit (.int .u8 0)], .agg [.lit (.int .u8 0), .lit (.int .u8 0)], .agg [.lit (.int .u8 0), .lit (.int .u8 0)]]
/-- One of Go's own tables, pinned by name: the form's constant. -/
def laid_unicode_utf8_first : DataW Unit := Go.Pinned.utf8First

/-- 'klaxonlaw18.MuteRuns': WHATEVER THE INPUT: true; the input reads as it did. -/
def muteRunsSpec : ChangeSpec := { name := "muteRuns", fn := fun _ => fun
  | [] => { results := [.lit (.bool true)], args := [] }
  | _ => none }
def muteRunsRow : OpenClaim := { program := "ytghkbjflejgieaadoor", sum := "7c46757842420d96dd1535fb7a4658264ae5e1f37aedca1d9d5e4e9eeac52999", func := "klaxon/klaxonlaw18.MuteRuns", spec := "muteRuns", inPlace := ["internal/bytealg.IndexByteString", "internal/bytealg.IndexString"], unfollowed := true, recurses := true, named := ["unicode/utf8.first", "unicode/utf8.acceptRanges", "internal/bytealg.MaxLen"], apart := false, laid := [("unicode/utf8.acceptRanges", laid_unicode_utf8_acceptRanges), ("unicode/utf8.first", laid_unicode_utf8_first)] }
def MuteRunsSaid : Prop := muteRunsRow.holds Tryd.pinned (OpenSpec.ofChange muteRunsSpec)

/-- ITS FALSE NEIGHBOUR: 'it returns false'. Refute it at one input. -/
def muteRunsWrong : ChangeSpec := { name := "muteRuns", fn := fun _ => fun
  | [] => { results := [.lit (.bool false)], args := [] }
  | _ => none }
def MuteRunsWrongFalsely : Prop := muteRunsRow.holds Tryd.pinned (OpenSpec.ofChange muteRunsWrong)

/-- 'klaxonlaw18.MuteTells': WHATEVER THE INPUT: true; the input reads as it did. -/
def muteTellsSpec : ChangeSpec := { name := "muteTells", fn := fun _ => fun
  | [d1, d2, d3, d4, d5] => { results := [.lit (.bool true)], args := [d1, d2, d3, d4, d5] }
  | _ => none }
def muteTellsRow : OpenClaim := { program := "ytghkbjflejgieaadoor", sum := "7c46757842420d96dd1535fb7a4658264ae5e1f37aedca1d9d5e4e9eeac52999", func := "klaxon/klaxonlaw18.MuteTells", spec := "muteTells", inPlace := ["internal/bytealg.IndexByteString", "internal/bytealg.IndexString"], unfollowed := true, recurses := true, named := ["unicode/utf8.first", "unicode/utf8.acceptRanges", "internal/bytealg.MaxLen"], apart := false, laid := [("unicode/utf8.acceptRanges", laid_unicode_utf8_acceptRanges), ("unicode/utf8.first", laid_unicode_utf8_first)] }
def MuteTellsSaid : Prop := muteTellsRow.holds Tryd.pinned (OpenSpec.ofChange muteTellsSpec)

/-- ITS FALSE NEIGHBOUR: 'it returns false'. Refute it at one input. -/
def muteTellsWrong : ChangeSpec := { name := "muteTells", fn := fun _ => fun
  | [d1, d2, d3, d4, d5] => { results := [.lit (.bool false)], args := [d1, d2, d3, d4, d5] }
  | _ => none }
def MuteTellsWrongFalsely : Prop := muteTellsRow.holds Tryd.pinned (OpenSpec.ofChange muteTellsWrong)

/-- 'klaxonlaw18.MuteMore': WHATEVER THE INPUT: true; the input reads as it did. -/
def muteMoreSpec : ChangeSpec := { name := "muteMore", fn := fun _ => fun
  | [d1, d2, d3, d4, d5, d6] => { results := [.lit (.bool true)], args := [d1, d2, d3, d4, d5, d6] }
  | _ => none }
def muteMoreRow : OpenClaim := { program := "ytghkbjflejgieaadoor", sum := "7c46757842420d96dd1535fb7a4658264ae5e1f37aedca1d9d5e4e9eeac52999", func := "klaxon/klaxonlaw18.MuteMore", spec := "muteMore", inPlace := ["internal/bytealg.IndexByteString", "internal/bytealg.IndexString"], unfollowed := true, recurses := true, named := ["unicode/utf8.first", "unicode/utf8.acceptRanges", "internal/bytealg.MaxLen"], apart := false, laid := [("unicode/utf8.acceptRanges", laid_unicode_utf8_acceptRanges), ("unicode/utf8.first", laid_unicode_utf8_first)] }
def MuteMoreSaid : Prop := muteMoreRow.holds Tryd.pinned (OpenSpec.ofChange muteMoreSpec)

/-- ITS FALSE NEIGHBOUR: 'it returns false'. Refute it at one input. -/
def muteMoreWrong : ChangeSpec := { name := "muteMore", fn := fun _ => fun
  | [d1, d2, d3, d4, d5, d6] => { results := [.lit (.bool false)], args := [d1, d2, d3, d4, d5, d6] }
  | _ => none }
def MuteMoreWrongFalsely : Prop := muteMoreRow.holds Tryd.pinned (OpenSpec.ofChange muteMoreWrong)

/-- 'klaxonlaw3.MatchRuns': WHATEVER THE INPUT: true; the input reads as it did. -/
def matchRunsSpec : ChangeSpec := { name := "matchRuns", fn := fun _ => fun
  | [] => { results := [.lit (.bool true)], args := [] }
  | _ => none }
def matchRunsRow : OpenClaim := { program := "ytghkbjflejgieaadoor", sum := "7c46757842420d96dd1535fb7a4658264ae5e1f37aedca1d9d5e4e9eeac52999", func := "klaxon/klaxonlaw3.MatchRuns", spec := "matchRuns", inPlace := ["internal/bytealg.IndexByteString", "internal/bytealg.IndexString", "internal/abi.NoEscape", "internal/bytealg.MakeNoZero"], named := ["unicode/utf8.first", "unicode/utf8.acceptRanges", "internal/bytealg.MaxLen"], apart := false, laid := [("unicode/utf8.acceptRanges", laid_unicode_utf8_acceptRanges), ("unicode/utf8.first", laid_unicode_utf8_first)] }
def MatchRunsSaid : Prop := matchRunsRow.holds Tryd.pinned (OpenSpec.ofChange matchRunsSpec)

/-- ITS FALSE NEIGHBOUR: 'it returns false'. Refute it at one input. -/
def matchRunsWrong : ChangeSpec := { name := "matchRuns", fn := fun _ => fun
  | [] => { results := [.lit (.bool false)], args := [] }
  | _ => none }
def MatchRunsWrongFalsely : Prop := matchRunsRow.holds Tryd.pinned (OpenSpec.ofChange matchRunsWrong)

/-- 'klaxonlaw3.MatchTells': WHATEVER THE INPUT: true; the input reads as it did. -/
def matchTellsSpec : ChangeSpec := { name := "matchTells", fn := fun _ => fun
  | [d1, d2] => { results := [.lit (.bool true)], args := [d1, d2] }
  | _ => none }
def matchTellsRow : OpenClaim := { program := "ytghkbjflejgieaadoor", sum := "7c46757842420d96dd1535fb7a4658264ae5e1f37aedca1d9d5e4e9eeac52999", func := "klaxon/klaxonlaw3.MatchTells", spec := "matchTells", inPlace := ["internal/bytealg.IndexByteString", "internal/bytealg.IndexString", "internal/abi.NoEscape", "internal/bytealg.MakeNoZero"], named := ["unicode/utf8.first", "unicode/utf8.acceptRanges", "internal/bytealg.MaxLen"], apart := false, laid := [("unicode/utf8.acceptRanges", laid_unicode_utf8_acceptRanges), ("unicode/utf8.first", laid_unicode_utf8_first)] }
def MatchTellsSaid : Prop := matchTellsRow.holds Tryd.pinned (OpenSpec.ofChange matchTellsSpec)

/-- ITS FALSE NEIGHBOUR: 'it returns false'. Refute it at one input. -/
def matchTellsWrong : ChangeSpec := { name := "matchTells", fn := fun _ => fun
  | [d1, d2] => { results := [.lit (.bool false)], args := [d1, d2] }
  | _ => none }
def MatchTellsWrongFalsely : Prop := matchTellsRow.holds Tryd.pinned (OpenSpec.ofChange matchTellsWrong)

/-- 'klaxonlaw3.MatchOpposite': WHATEVER THE INPUT: true; the input reads as it did. -/
def matchOppositeSpec : ChangeSpec := { name := "matchOpposite", fn := fun _ => fun
  | [d1, d2, d3, d4, d5] => { results := [.lit (.bool true)], args := [d1, d2, d3, d4, d5] }
  | _ => none }
def matchOppositeRow : OpenClaim := { program := "ytghkbjflejgieaadoor", sum := "7c46757842420d96dd1535fb7a4658264ae5e1f37aedca1d9d5e4e9eeac52999", func := "klaxon/klaxonlaw3.MatchOpposite", spec := "matchOpposite", inPlace := ["internal/bytealg.IndexByteString", "internal/bytealg.IndexString", "internal/abi.NoEscape", "internal/bytealg.MakeNoZero"], named := ["unicode/utf8.first", "unicode/utf8.acceptRanges", "internal/bytealg.MaxLen"], apart := false, laid := [("unicode/utf8.acceptRanges", laid_unicode_utf8_acceptRanges), ("unicode/utf8.first", laid_unicode_utf8_first)] }
def MatchOppositeSaid : Prop := matchOppositeRow.holds Tryd.pinned (OpenSpec.ofChange matchOppositeSpec)

/-- ITS FALSE NEIGHBOUR: 'it returns false'. Refute it at one input. -/
def matchOppositeWrong : ChangeSpec := { name := "matchOpposite", fn := fun _ => fun
  | [d1, d2, d3, d4, d5] => { results := [.lit (.bool false)], args := [d1, d2, d3, d4, d5] }
  | _ => none }
def MatchOppositeWrongFalsely : Prop := matchOppositeRow.holds Tryd.pinned (OpenSpec.ofChange matchOppositeWrong)

/-- 'klaxonlaw3.MatchExact': WHATEVER THE INPUT: true; the input reads as it did. -/
def matchExactSpec : ChangeSpec := { name := "matchExact", fn := fun _ => fun
  | [d1, d2] => { results := [.lit (.bool true)], args := [d1, d2] }
  | _ => none }
def matchExactRow : OpenClaim := { program := "ytghkbjflejgieaadoor", sum := "7c46757842420d96dd1535fb7a4658264ae5e1f37aedca1d9d5e4e9eeac52999", func := "klaxon/klaxonlaw3.MatchExact", spec := "matchExact", inPlace := ["internal/bytealg.IndexByteString", "internal/bytealg.IndexString", "internal/abi.NoEscape", "internal/bytealg.MakeNoZero"], named := ["unicode/utf8.first", "unicode/utf8.acceptRanges", "internal/bytealg.MaxLen"], apart := false, laid := [("unicode/utf8.acceptRanges", laid_unicode_utf8_acceptRanges), ("unicode/utf8.first", laid_unicode_utf8_first)] }
def MatchExactSaid : Prop := matchExactRow.holds Tryd.pinned (OpenSpec.ofChange matchExactSpec)

/-- ITS FALSE NEIGHBOUR: 'it returns false'. Refute it at one input. -/
def matchExactWrong : ChangeSpec := { name := "matchExact", fn := fun _ => fun
  | [d1, d2] => { results := [.lit (.bool false)], args := [d1, d2] }
  | _ => none }
def MatchExactWrongFalsely : Prop := matchExactRow.holds Tryd.pinned (OpenSpec.ofChange matchExactWrong)

/- THE SECOND FORM. 'bulk': how many values and letters a reading holds, each counted each time it is reached (what is shared counts as often as it is met; a slice's spare places count too). A statement '..UptoSaid' is the law's where the arguments, and the package variables that the reading takes, are together of bulk at most 1048576: NARROWER than '..Said'. Prove '..Said' where nothing that the law and all that it calls make is longer than what came in: it says more and counts as full. Else prove '..UptoSaid'. A law counts once. -/
mutual
def uptoBulk {H : Type} : DataW H → Nat
  | .lit (.string bytes) => bytes.length + 1
  | .lit _ => 1
  | .nil => 1
  | .ptr d => uptoBulk d + 1
  | .slice elems spare => uptoBulkAll elems + uptoBulkAll spare + 1
  | .agg parts => uptoBulkAll parts + 1
  | .iface _ d => uptoBulk d + 1
  | .map entries => uptoBulkEntries entries + 1
  | .held _ => 1
def uptoBulkAll {H : Type} : List (DataW H) → Nat
  | [] => 0
  | d :: r => uptoBulk d + uptoBulkAll r
def uptoBulkEntries {H : Type} : List (Lit × DataW H) → Nat
  | [] => 0
  | x :: r => uptoBulkEntry x + uptoBulkEntries r
def uptoBulkEntry {H : Type} : Lit × DataW H → Nat
  | (.string bytes, d) => bytes.length + uptoBulk d + 1
  | (_, d) => uptoBulk d + 1
 end
def uptoSmall : (H : Type) → List (DataW H) → Bool := fun _ ds => decide (uptoBulkAll ds ≤ 1048576)
def OpenSpec.upto (s : _root_.Go.ChangeSpec) : _root_.Go.OpenSpec := { _root_.Go.OpenSpec.ofChange s with cond := some uptoSmall }

/-- 'klaxonlaw18.MuteRuns', WHERE WHAT IT READS IS OF BULK AT MOST 1048576: true; the input reads as it did. -/
def muteRunsUptoRow : OpenClaim := { program := "ytghkbjflejgieaadoor", sum := "7c46757842420d96dd1535fb7a4658264ae5e1f37aedca1d9d5e4e9eeac52999", func := "klaxon/klaxonlaw18.MuteRuns", spec := "muteRuns", inPlace := ["internal/bytealg.IndexByteString", "internal/bytealg.IndexString"], unfollowed := true, recurses := true, named := ["unicode/utf8.first", "unicode/utf8.acceptRanges", "internal/bytealg.MaxLen"], apart := false, laid := [("unicode/utf8.acceptRanges", laid_unicode_utf8_acceptRanges), ("unicode/utf8.first", laid_unicode_utf8_first)], narrowed := true }
def MuteRunsUptoSaid : Prop := muteRunsUptoRow.holds Tryd.pinned (OpenSpec.upto muteRunsSpec)

/-- 'klaxonlaw18.MuteTells', WHERE WHAT IT READS IS OF BULK AT MOST 1048576: true; the input reads as it did. -/
def muteTellsUptoRow : OpenClaim := { program := "ytghkbjflejgieaadoor", sum := "7c46757842420d96dd1535fb7a4658264ae5e1f37aedca1d9d5e4e9eeac52999", func := "klaxon/klaxonlaw18.MuteTells", spec := "muteTells", inPlace := ["internal/bytealg.IndexByteString", "internal/bytealg.IndexString"], unfollowed := true, recurses := true, named := ["unicode/utf8.first", "unicode/utf8.acceptRanges", "internal/bytealg.MaxLen"], apart := false, laid := [("unicode/utf8.acceptRanges", laid_unicode_utf8_acceptRanges), ("unicode/utf8.first", laid_unicode_utf8_first)], narrowed := true }
def MuteTellsUptoSaid : Prop := muteTellsUptoRow.holds Tryd.pinned (OpenSpec.upto muteTellsSpec)

/-- 'klaxonlaw18.MuteMore', WHERE WHAT IT READS IS OF BULK AT MOST 1048576: true; the input reads as it did. -/
def muteMoreUptoRow : OpenClaim := { program := "ytghkbjflejgieaadoor", sum := "7c46757842420d96dd1535fb7a4658264ae5e1f37aedca1d9d5e4e9eeac52999", func := "klaxon/klaxonlaw18.MuteMore", spec := "muteMore", inPlace := ["internal/bytealg.IndexByteString", "internal/bytealg.IndexString"], unfollowed := true, recurses := true, named := ["unicode/utf8.first", "unicode/utf8.acceptRanges", "internal/bytealg.MaxLen"], apart := false, laid := [("unicode/utf8.acceptRanges", laid_unicode_utf8_acceptRanges), ("unicode/utf8.first", laid_unicode_utf8_first)], narrowed := true }
def MuteMoreUptoSaid : Prop := muteMoreUptoRow.holds Tryd.pinned (OpenSpec.upto muteMoreSpec)

/-- 'klaxonlaw3.MatchRuns', WHERE WHAT IT READS IS OF BULK AT MOST 1048576: true; the input reads as it did. -/
def matchRunsUptoRow : OpenClaim := { program := "ytghkbjflejgieaadoor", sum := "7c46757842420d96dd1535fb7a4658264ae5e1f37aedca1d9d5e4e9eeac52999", func := "klaxon/klaxonlaw3.MatchRuns", spec := "matchRuns", inPlace := ["internal/bytealg.IndexByteString", "internal/bytealg.IndexString", "internal/abi.NoEscape", "internal/bytealg.MakeNoZero"], named := ["unicode/utf8.first", "unicode/utf8.acceptRanges", "internal/bytealg.MaxLen"], apart := false, laid := [("unicode/utf8.acceptRanges", laid_unicode_utf8_acceptRanges), ("unicode/utf8.first", laid_unicode_utf8_first)], narrowed := true }
def MatchRunsUptoSaid : Prop := matchRunsUptoRow.holds Tryd.pinned (OpenSpec.upto matchRunsSpec)

/-- 'klaxonlaw3.MatchTells', WHERE WHAT IT READS IS OF BULK AT MOST 1048576: true; the input reads as it did. -/
def matchTellsUptoRow : OpenClaim := { program := "ytghkbjflejgieaadoor", sum := "7c46757842420d96dd1535fb7a4658264ae5e1f37aedca1d9d5e4e9eeac52999", func := "klaxon/klaxonlaw3.MatchTells", spec := "matchTells", inPlace := ["internal/bytealg.IndexByteString", "internal/bytealg.IndexString", "internal/abi.NoEscape", "internal/bytealg.MakeNoZero"], named := ["unicode/utf8.first", "unicode/utf8.acceptRanges", "internal/bytealg.MaxLen"], apart := false, laid := [("unicode/utf8.acceptRanges", laid_unicode_utf8_acceptRanges), ("unicode/utf8.first", laid_unicode_utf8_first)], narrowed := true }
def MatchTellsUptoSaid : Prop := matchTellsUptoRow.holds Tryd.pinned (OpenSpec.upto matchTellsSpec)

/-- 'klaxonlaw3.MatchOpposite', WHERE WHAT IT READS IS OF BULK AT MOST 1048576: true; the input reads as it did. -/
def matchOppositeUptoRow : OpenClaim := { program := "ytghkbjflejgieaadoor", sum := "7c46757842420d96dd1535fb7a4658264ae5e1f37aedca1d9d5e4e9eeac52999", func := "klaxon/klaxonlaw3.MatchOpposite", spec := "matchOpposite", inPlace := ["internal/bytealg.IndexByteString", "internal/bytealg.IndexString", "internal/abi.NoEscape", "internal/bytealg.MakeNoZero"], named := ["unicode/utf8.first", "unicode/utf8.acceptRanges", "internal/bytealg.MaxLen"], apart := false, laid := [("unicode/utf8.acceptRanges", laid_unicode_utf8_acceptRanges), ("unicode/utf8.first", laid_unicode_utf8_first)], narrowed := true }
def MatchOppositeUptoSaid : Prop := matchOppositeUptoRow.holds Tryd.pinned (OpenSpec.upto matchOppositeSpec)

/-- 'klaxonlaw3.MatchExact', WHERE WHAT IT READS IS OF BULK AT MOST 1048576: true; the input reads as it did. -/
def matchExactUptoRow : OpenClaim := { program := "ytghkbjflejgieaadoor", sum := "7c46757842420d96dd1535fb7a4658264ae5e1f37aedca1d9d5e4e9eeac52999", func := "klaxon/klaxonlaw3.MatchExact", spec := "matchExact", inPlace := ["internal/bytealg.IndexByteString", "internal/bytealg.IndexString", "internal/abi.NoEscape", "internal/bytealg.MakeNoZero"], named := ["unicode/utf8.first", "unicode/utf8.acceptRanges", "internal/bytealg.MaxLen"], apart := false, laid := [("unicode/utf8.acceptRanges", laid_unicode_utf8_acceptRanges), ("unicode/utf8.first", laid_unicode_utf8_first)], narrowed := true }
def MatchExactUptoSaid : Prop := matchExactUptoRow.holds Tryd.pinned (OpenSpec.upto matchExactSpec)

end Rows
end Go.Proofs.YtghkbjflejgieaaDoor
