/-
  NARROWER THAN 'FOR EVERY INPUT', by the rows' own cells (each row's printed sentence says how): LsetQuote: laid · LsetBack: laid · LsetMerge: laid · LsetTells: laid · LsetWith: laid · MatchMany: laid.
  DERIVED. THE GIVEN ROWS OF THIS SEAT. 6 by the template 'for every input the law returns true; each argument reads behind the call as it read before'; 0 by the template 'total and deterministic' (their statements: YtcdpgldecikejaaDoorTotals.lean).
  GIVEN WITH THE SEED: the statements are not yours to turn. If you find one false, say at which input.
  Laid BY PROGRAM, IN A SANDBOX (cutbox-rows.mjs): the forced cells as the released guide's own fill.sh prints them over the translation d7ac30986ecd4856… (all of the seat's roots in one cut). By AI agents, Wed Nov 11 2026. No macro, syntax, notation, axiom, sorry.
-/
import Derived.Test.YtcdpgldecikejaaDoorChecked
import GoSem.PinnedTables
import GoSem.Claim
import GoSem.ClaimJoined
import GoSem.ClaimMapViews
import Derived.JoinedTies
import Derived.KernelRfl
namespace Go.Proofs.YtcdpgldecikejaaDoor
/- THE CELL 'sum', in the pinned program and in every row, IS THE sha256 OF THE DUMP (.gsa) THAT YtcdpgldecikejaaDoorProg.lean LOADS. Nothing in Lean hashes anything: it is a label: what it is worth is what the hold of that sum in a sandbox is worth. -/
noncomputable def Tryd.pinned : Pinned := { name := "ytcdpgldecikejaadoor", sum := "d7ac30986ecd4856e423d3f72ba01776c14ec56624756cdf30fd673818a197e9", checked := Tryd.checked }
namespace Rows
def none {H : Type} : Left H := { results := [], args := [] }

/- WHAT THE LISTED PACKAGE-LEVEL VARIABLES READ AS WHEN THE CALL BEGINS. Each datum BY PROGRAM (the guide's laid-datum.mjs) off the statement by which the dump's own 'gosem.cut.vars' lays the variable. In a bare row this is a premise. The card (YtcdpgldecikejaaDoorCards.lean) ties it to the program's text. -/
def laid_unicode_utf8_acceptRanges {H : Type} : DataW H := .agg [.agg [.lit (.int .u8 128), .lit (.int .u8 191)], .agg [.lit (.int .u8 160), .lit (.int .u8 191)], .agg [.lit (.int .u8 128), .lit (.int .u8 159)], .agg [.lit (.int .u8 144), .lit (.int .u8 191)], .agg [.lit (.int .u8 128), .lit (.int .u8 143)], .agg [.lit (.int .u8 0), .lit (.int .u8 0)], .agg [.lit (.int .u8 0), .lit (.int .u8 0)], .agg [.lit (.int .u8 0), .lit (.int .u8 0)], .agg [.lit (.int .u8 0), .lit (.int .u8 0)], .agg [.lit (.int .u8 0), .lit (.int .u8 0)], .agg [.lit (.int .u8 0), .lit (.int .u8 0)], .agg [.lit (.int .u8 0), .lit (.int .u8 0)], .agg [.lit (.int .u8 0), .lit (.int .u8 0)], .agg [.lit (.int .u8 0), .lit (.int .u8 0)], .agg [.lit (.int .u8 0), .lit (.int .u8 0)], .agg [.lit (.int .u8 0), .lit (.int .u8 0)]]
/-- One of Go's own tables, pinned by name: the form's constant. -/
def laid_unicode_utf8_first : DataW Unit := Go.Pinned.utf8First

/-- 'klaxonlaw2.LsetQuote': WHATEVER THE INPUT: true; the input reads as it did. -/
def lsetQuoteSpec : ChangeSpec := { name := "lsetQuote", fn := fun _ => fun
  | [d1, d2, d3] => { results := [.lit (.bool true)], args := [d1, d2, d3] }
  | _ => none }
def lsetQuoteRow : OpenClaim := { program := "ytcdpgldecikejaadoor", sum := "d7ac30986ecd4856e423d3f72ba01776c14ec56624756cdf30fd673818a197e9", func := "klaxon/klaxonlaw2.LsetQuote", spec := "lsetQuote", inPlace := ["internal/abi.NoEscape", "internal/bytealg.IndexByteString", "internal/bytealg.IndexString", "internal/bytealg.MakeNoZero", "slices.overlaps[klaxon/api.Label]"], unfollowed := true, recurses := true, named := ["unicode/utf8.first", "unicode/utf8.acceptRanges", "internal/bytealg.MaxLen"], apart := false, laid := [("unicode/utf8.acceptRanges", laid_unicode_utf8_acceptRanges), ("unicode/utf8.first", laid_unicode_utf8_first)] }
def LsetQuoteSaid : Prop := lsetQuoteRow.holds Tryd.pinned (OpenSpec.ofChange lsetQuoteSpec)

/-- ITS FALSE NEIGHBOUR: 'it returns false'. Refute it at one input. -/
def lsetQuoteWrong : ChangeSpec := { name := "lsetQuote", fn := fun _ => fun
  | [d1, d2, d3] => { results := [.lit (.bool false)], args := [d1, d2, d3] }
  | _ => none }
def LsetQuoteWrongFalsely : Prop := lsetQuoteRow.holds Tryd.pinned (OpenSpec.ofChange lsetQuoteWrong)

/-- 'klaxonlaw2.LsetBack': WHATEVER THE INPUT: true; the input reads as it did. -/
def lsetBackSpec : ChangeSpec := { name := "lsetBack", fn := fun _ => fun
  | [d1, d2, d3] => { results := [.lit (.bool true)], args := [d1, d2, d3] }
  | _ => none }
def lsetBackRow : OpenClaim := { program := "ytcdpgldecikejaadoor", sum := "d7ac30986ecd4856e423d3f72ba01776c14ec56624756cdf30fd673818a197e9", func := "klaxon/klaxonlaw2.LsetBack", spec := "lsetBack", inPlace := ["internal/bytealg.IndexByteString", "internal/bytealg.IndexString", "internal/abi.NoEscape", "internal/bytealg.MakeNoZero", "internal/bytealg.abigen_runtime_cmpstring", "slices.overlaps[klaxon/api.Label]"], unfollowed := true, recurses := true, named := ["unicode/utf8.first", "unicode/utf8.acceptRanges", "internal/bytealg.MaxLen"], apart := false, laid := [("unicode/utf8.acceptRanges", laid_unicode_utf8_acceptRanges), ("unicode/utf8.first", laid_unicode_utf8_first)] }
def LsetBackSaid : Prop := lsetBackRow.holds Tryd.pinned (OpenSpec.ofChange lsetBackSpec)

/-- ITS FALSE NEIGHBOUR: 'it returns false'. Refute it at one input. -/
def lsetBackWrong : ChangeSpec := { name := "lsetBack", fn := fun _ => fun
  | [d1, d2, d3] => { results := [.lit (.bool false)], args := [d1, d2, d3] }
  | _ => none }
def LsetBackWrongFalsely : Prop := lsetBackRow.holds Tryd.pinned (OpenSpec.ofChange lsetBackWrong)

/-- 'klaxonlaw2.LsetMerge': WHATEVER THE INPUT: true; the input reads as it did. -/
def lsetMergeSpec : ChangeSpec := { name := "lsetMerge", fn := fun _ => fun
  | [d1, d2, d3] => { results := [.lit (.bool true)], args := [d1, d2, d3] }
  | _ => none }
def lsetMergeRow : OpenClaim := { program := "ytcdpgldecikejaadoor", sum := "d7ac30986ecd4856e423d3f72ba01776c14ec56624756cdf30fd673818a197e9", func := "klaxon/klaxonlaw2.LsetMerge", spec := "lsetMerge", inPlace := ["slices.overlaps[klaxon/api.Label]", "internal/bytealg.IndexByteString", "internal/bytealg.IndexString", "internal/abi.NoEscape", "internal/bytealg.MakeNoZero", "internal/bytealg.abigen_runtime_cmpstring"], unfollowed := true, recurses := true, named := ["unicode/utf8.first", "unicode/utf8.acceptRanges", "internal/bytealg.MaxLen"], apart := false, laid := [("unicode/utf8.acceptRanges", laid_unicode_utf8_acceptRanges), ("unicode/utf8.first", laid_unicode_utf8_first)] }
def LsetMergeSaid : Prop := lsetMergeRow.holds Tryd.pinned (OpenSpec.ofChange lsetMergeSpec)

/-- ITS FALSE NEIGHBOUR: 'it returns false'. Refute it at one input. -/
def lsetMergeWrong : ChangeSpec := { name := "lsetMerge", fn := fun _ => fun
  | [d1, d2, d3] => { results := [.lit (.bool false)], args := [d1, d2, d3] }
  | _ => none }
def LsetMergeWrongFalsely : Prop := lsetMergeRow.holds Tryd.pinned (OpenSpec.ofChange lsetMergeWrong)

/-- 'klaxonlaw2.LsetTells': WHATEVER THE INPUT: true; the input reads as it did. -/
def lsetTellsSpec : ChangeSpec := { name := "lsetTells", fn := fun _ => fun
  | [d1, d2, d3] => { results := [.lit (.bool true)], args := [d1, d2, d3] }
  | _ => none }
def lsetTellsRow : OpenClaim := { program := "ytcdpgldecikejaadoor", sum := "d7ac30986ecd4856e423d3f72ba01776c14ec56624756cdf30fd673818a197e9", func := "klaxon/klaxonlaw2.LsetTells", spec := "lsetTells", inPlace := ["internal/bytealg.IndexByteString", "internal/bytealg.IndexString", "internal/abi.NoEscape", "internal/bytealg.MakeNoZero", "slices.overlaps[klaxon/api.Label]"], unfollowed := true, recurses := true, named := ["unicode/utf8.first", "unicode/utf8.acceptRanges", "internal/bytealg.MaxLen"], apart := false, laid := [("unicode/utf8.acceptRanges", laid_unicode_utf8_acceptRanges), ("unicode/utf8.first", laid_unicode_utf8_first)] }
def LsetTellsSaid : Prop := lsetTellsRow.holds Tryd.pinned (OpenSpec.ofChange lsetTellsSpec)

/-- ITS FALSE NEIGHBOUR: 'it returns false'. Refute it at one input. -/
def lsetTellsWrong : ChangeSpec := { name := "lsetTells", fn := fun _ => fun
  | [d1, d2, d3] => { results := [.lit (.bool false)], args := [d1, d2, d3] }
  | _ => none }
def LsetTellsWrongFalsely : Prop := lsetTellsRow.holds Tryd.pinned (OpenSpec.ofChange lsetTellsWrong)

/-- 'klaxonlaw2.LsetWith': WHATEVER THE INPUT: true; the input reads as it did. -/
def lsetWithSpec : ChangeSpec := { name := "lsetWith", fn := fun _ => fun
  | [d1, d2, d3, d4] => { results := [.lit (.bool true)], args := [d1, d2, d3, d4] }
  | _ => none }
def lsetWithRow : OpenClaim := { program := "ytcdpgldecikejaadoor", sum := "d7ac30986ecd4856e423d3f72ba01776c14ec56624756cdf30fd673818a197e9", func := "klaxon/klaxonlaw2.LsetWith", spec := "lsetWith", inPlace := ["slices.overlaps[klaxon/api.Label]", "internal/bytealg.IndexByteString", "internal/bytealg.IndexString", "internal/abi.NoEscape", "internal/bytealg.MakeNoZero"], unfollowed := true, recurses := true, named := ["unicode/utf8.first", "unicode/utf8.acceptRanges", "internal/bytealg.MaxLen"], apart := false, laid := [("unicode/utf8.acceptRanges", laid_unicode_utf8_acceptRanges), ("unicode/utf8.first", laid_unicode_utf8_first)] }
def LsetWithSaid : Prop := lsetWithRow.holds Tryd.pinned (OpenSpec.ofChange lsetWithSpec)

/-- ITS FALSE NEIGHBOUR: 'it returns false'. Refute it at one input. -/
def lsetWithWrong : ChangeSpec := { name := "lsetWith", fn := fun _ => fun
  | [d1, d2, d3, d4] => { results := [.lit (.bool false)], args := [d1, d2, d3, d4] }
  | _ => none }
def LsetWithWrongFalsely : Prop := lsetWithRow.holds Tryd.pinned (OpenSpec.ofChange lsetWithWrong)

/-- 'klaxonlaw3.MatchMany': WHATEVER THE INPUT: true; the input reads as it did. -/
def matchManySpec : ChangeSpec := { name := "matchMany", fn := fun _ => fun
  | [d1, d2, d3, d4, d5] => { results := [.lit (.bool true)], args := [d1, d2, d3, d4, d5] }
  | _ => none }
def matchManyRow : OpenClaim := { program := "ytcdpgldecikejaadoor", sum := "d7ac30986ecd4856e423d3f72ba01776c14ec56624756cdf30fd673818a197e9", func := "klaxon/klaxonlaw3.MatchMany", spec := "matchMany", inPlace := ["internal/bytealg.IndexByteString", "internal/bytealg.IndexString", "internal/abi.NoEscape", "internal/bytealg.MakeNoZero", "slices.overlaps[klaxon/api.Label]"], unfollowed := true, recurses := true, named := ["unicode/utf8.first", "unicode/utf8.acceptRanges", "internal/bytealg.MaxLen"], apart := false, laid := [("unicode/utf8.acceptRanges", laid_unicode_utf8_acceptRanges), ("unicode/utf8.first", laid_unicode_utf8_first)] }
def MatchManySaid : Prop := matchManyRow.holds Tryd.pinned (OpenSpec.ofChange matchManySpec)

/-- ITS FALSE NEIGHBOUR: 'it returns false'. Refute it at one input. -/
def matchManyWrong : ChangeSpec := { name := "matchMany", fn := fun _ => fun
  | [d1, d2, d3, d4, d5] => { results := [.lit (.bool false)], args := [d1, d2, d3, d4, d5] }
  | _ => none }
def MatchManyWrongFalsely : Prop := matchManyRow.holds Tryd.pinned (OpenSpec.ofChange matchManyWrong)

/- THE SECOND FORM. 'bulk': how many values and letters a reading holds, each counted each time it is reached (what is shared counts as often as it is met; a slice's spare places count too). A statement '..UptoSaid' is the law's where the arguments, and the package variables that the reading takes, are together of bulk at most 1048576: NARROWER than '..Said'. Prove '..Said' where nothing that the law and all that it calls make is longer than what came in: it says more and counts as full. Else prove '..UptoSaid'. A law counts once. -/
mutual
def uptoBulk {H : Type} : DataW H → Nat
  | .lit (.string bytes) => bytes.length + 1
  | .lit _ => 1
  | .nil => 1
  | .ptr d => uptoBulk d + 1
  | .slice elems spare => uptoBulkAll elems + uptoBulkAll spare + 1
  | .agg parts => uptoBulkAll parts + 1
  | .iface _ d => uptoBulk d + 1
  | .map entries => uptoBulkEntries entries + 1
  | .held _ => 1
def uptoBulkAll {H : Type} : List (DataW H) → Nat
  | [] => 0
  | d :: r => uptoBulk d + uptoBulkAll r
def uptoBulkEntries {H : Type} : List (Lit × DataW H) → Nat
  | [] => 0
  | x :: r => uptoBulkEntry x + uptoBulkEntries r
def uptoBulkEntry {H : Type} : Lit × DataW H → Nat
  | (.string bytes, d) => bytes.length + uptoBulk d + 1
  | (_, d) => uptoBulk d + 1
 end
def uptoSmall : (H : Type) → List (DataW H) → Bool := fun _ ds => decide (uptoBulkAll ds ≤ 1048576)
def OpenSpec.upto (s : _root_.Go.ChangeSpec) : _root_.Go.OpenSpec := { _root_.Go.OpenSpec.ofChange s with cond := some uptoSmall }

/-- 'klaxonlaw2.LsetQuote', WHERE WHAT IT READS IS OF BULK AT MOST 1048576: true; the input reads as it did. -/
def lsetQuoteUptoRow : OpenClaim := { program := "ytcdpgldecikejaadoor", sum := "d7ac30986ecd4856e423d3f72ba01776c14ec56624756cdf30fd673818a197e9", func := "klaxon/klaxonlaw2.LsetQuote", spec := "lsetQuote", inPlace := ["internal/abi.NoEscape", "internal/bytealg.IndexByteString", "internal/bytealg.IndexString", "internal/bytealg.MakeNoZero", "slices.overlaps[klaxon/api.Label]"], unfollowed := true, recurses := true, named := ["unicode/utf8.first", "unicode/utf8.acceptRanges", "internal/bytealg.MaxLen"], apart := false, laid := [("unicode/utf8.acceptRanges", laid_unicode_utf8_acceptRanges), ("unicode/utf8.first", laid_unicode_utf8_first)], narrowed := true }
def LsetQuoteUptoSaid : Prop := lsetQuoteUptoRow.holds Tryd.pinned (OpenSpec.upto lsetQuoteSpec)

/-- 'klaxonlaw2.LsetBack', WHERE WHAT IT READS IS OF BULK AT MOST 1048576: true; the input reads as it did. -/
def lsetBackUptoRow : OpenClaim := { program := "ytcdpgldecikejaadoor", sum := "d7ac30986ecd4856e423d3f72ba01776c14ec56624756cdf30fd673818a197e9", func := "klaxon/klaxonlaw2.LsetBack", spec := "lsetBack", inPlace := ["internal/bytealg.IndexByteString", "internal/bytealg.IndexString", "internal/abi.NoEscape", "internal/bytealg.MakeNoZero", "internal/bytealg.abigen_runtime_cmpstring", "slices.overlaps[klaxon/api.Label]"], unfollowed := true, recurses := true, named := ["unicode/utf8.first", "unicode/utf8.acceptRanges", "internal/bytealg.MaxLen"], apart := false, laid := [("unicode/utf8.acceptRanges", laid_unicode_utf8_acceptRanges), ("unicode/utf8.first", laid_unicode_utf8_first)], narrowed := true }
def LsetBackUptoSaid : Prop := lsetBackUptoRow.holds Tryd.pinned (OpenSpec.upto lsetBackSpec)

/-- 'klaxonlaw2.LsetMerge', WHERE WHAT IT READS IS OF BULK AT MOST 1048576: true; the input reads as it did. -/
def lsetMergeUptoRow : OpenClaim := { program := "ytcdpgldecikejaadoor", sum := "d7ac30986ecd4856e423d3f72ba01776c14ec56624756cdf30fd673818a197e9", func := "klaxon/klaxonlaw2.LsetMerge", spec := "lsetMerge", inPlace := ["slices.overlaps[klaxon/api.Label]", "internal/bytealg.IndexByteString", "internal/bytealg.IndexString", "internal/abi.NoEscape", "internal/bytealg.MakeNoZero", "internal/bytealg.abigen_runtime_cmpstring"], unfollowed := true, recurses := true, named := ["unicode/utf8.first", "unicode/utf8.acceptRanges", "internal/bytealg.MaxLen"], apart := false, laid := [("unicode/utf8.acceptRanges", laid_unicode_utf8_acceptRanges), ("unicode/utf8.first", laid_unicode_utf8_first)], narrowed := true }
def LsetMergeUptoSaid : Prop := lsetMergeUptoRow.holds Tryd.pinned (OpenSpec.upto lsetMergeSpec)

/-- 'klaxonlaw2.LsetTells', WHERE WHAT IT READS IS OF BULK AT MOST 1048576: true; the input reads as it did. -/
def lsetTellsUptoRow : OpenClaim := { program := "ytcdpgldecikejaadoor", sum := "d7ac30986ecd4856e423d3f72ba01776c14ec56624756cdf30fd673818a197e9", func := "klaxon/klaxonlaw2.LsetTells", spec := "lsetTells", inPlace := ["internal/bytealg.IndexByteString", "internal/bytealg.IndexString", "internal/abi.NoEscape", "internal/bytealg.MakeNoZero", "slices.overlaps[klaxon/api.Label]"], unfollowed := true, recurses := true, named := ["unicode/utf8.first", "unicode/utf8.acceptRanges", "internal/bytealg.MaxLen"], apart := false, laid := [("unicode/utf8.acceptRanges", laid_unicode_utf8_acceptRanges), ("unicode/utf8.first", laid_unicode_utf8_first)], narrowed := true }
def LsetTellsUptoSaid : Prop := lsetTellsUptoRow.holds Tryd.pinned (OpenSpec.upto lsetTellsSpec)

/-- 'klaxonlaw2.LsetWith', WHERE WHAT IT READS IS OF BULK AT MOST 1048576: true; the input reads as it did. -/
def lsetWithUptoRow : OpenClaim := { program := "ytcdpgldecikejaadoor", sum := "d7ac30986ecd4856e423d3f72ba01776c14ec56624756cdf30fd673818a197e9", func := "klaxon/klaxonlaw2.LsetWith", spec := "lsetWith", inPlace := ["slices.overlaps[klaxon/api.Label]", "internal/bytealg.IndexByteString", "internal/bytealg.IndexString", "internal/abi.NoEscape", "internal/bytealg.MakeNoZero"], unfollowed := true, recurses := true, named := ["unicode/utf8.first", "unicode/utf8.acceptRanges", "internal/bytealg.MaxLen"], apart := false, laid := [("unicode/utf8.acceptRanges", laid_unicode_utf8_acceptRanges), ("unicode/utf8.first", laid_unicode_utf8_first)], narrowed := true }
def LsetWithUptoSaid : Prop := lsetWithUptoRow.holds Tryd.pinned (OpenSpec.upto lsetWithSpec)

/-- 'klaxonlaw3.MatchMany', WHERE WHAT IT READS IS OF BULK AT MOST 1048576: true; the input reads as it did. -/
def matchManyUptoRow : OpenClaim := { program := "ytcdpgldecikejaadoor", sum := "d7ac30986ecd4856e423d3f72ba01776c14ec56624756cdf30fd673818a197e9", func := "klaxon/klaxonlaw3.MatchMany", spec := "matchMany", inPlace := ["internal/bytealg.IndexByteString", "internal/bytealg.IndexString", "internal/abi.NoEscape", "internal/bytealg.MakeNoZero", "slices.overlaps[klaxon/api.Label]"], unfollowed := true, recurses := true, named := ["unicode/utf8.first", "unicode/utf8.acceptRanges", "internal/bytealg.MaxLen"], apart := false, laid := [("unicode/utf8.acceptRanges", laid_unicode_utf8_acceptRanges), ("unicode/utf8.first", laid_unicode_utf8_first)], narrowed := true }
def MatchManyUptoSaid : Prop := matchManyUptoRow.holds Tryd.pinned (OpenSpec.upto matchManySpec)

end Rows
end Go.Proofs.YtcdpgldecikejaaDoor
