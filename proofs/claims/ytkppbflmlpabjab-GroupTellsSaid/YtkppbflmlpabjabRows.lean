/-
  No cell of these rows narrows 'for every input' (looked for: loops, veiled, ifaces, maps, wideKeys, modest, calm, conditions, laid).
  DERIVED. THE GIVEN ROWS OF THIS SEAT. 9 by the template 'for every input the law returns true; each argument reads behind the call as it read before'; 0 by the template 'total and deterministic' (their statements: YtkppbflmlpabjabTotals.lean).
  GIVEN WITH THE SEED: the statements are not yours to turn. If you find one false, say at which input.
  Laid BY PROGRAM, IN A SANDBOX (cutbox-rows.mjs): the forced cells as the released guide's own fill.sh prints them over the translation 0fa47972a4f91984… (all of the seat's roots in one cut). By AI agents, Wed Nov 11 2026. No macro, syntax, notation, axiom, sorry.
-/
import Derived.Test.YtkppbflmlpabjabChecked
import GoSem.Claim
import GoSem.ClaimJoined
import GoSem.ClaimMapViews
import Derived.JoinedTies
import Derived.KernelRfl
namespace Go.Proofs.Ytkppbflmlpabjab
/- THE CELL 'sum', in the pinned program and in every row, IS THE sha256 OF THE DUMP (.gsa) THAT YtkppbflmlpabjabProg.lean LOADS. Nothing in Lean hashes anything: it is a label: what it is worth is what the hold of that sum in a sandbox is worth. -/
noncomputable def Try.pinned : Pinned := { name := "ytkppbflmlpabjab", sum := "0fa47972a4f91984114557a7576b3bf7a2c2108e5a89443659e0f29390b1a10a", checked := Try.checked }
namespace Rows
def none {H : Type} : Left H := { results := [], args := [] }

/-- 'klaxonlaw20.GroupWaits': WHATEVER THE INPUT: true; the input reads as it did. -/
def groupWaitsSpec : ChangeSpec := { name := "groupWaits", fn := fun _ => fun
  | [d1, d2, d3, d4] => { results := [.lit (.bool true)], args := [d1, d2, d3, d4] }
  | _ => none }
def groupWaitsRow : OpenClaim := { program := "ytkppbflmlpabjab", sum := "0fa47972a4f91984114557a7576b3bf7a2c2108e5a89443659e0f29390b1a10a", func := "klaxon/klaxonlaw20.GroupWaits", spec := "groupWaits", apart := false }
def GroupWaitsSaid : Prop := groupWaitsRow.holds Try.pinned (OpenSpec.ofChange groupWaitsSpec)

/-- ITS FALSE NEIGHBOUR: 'it returns false'. Refute it at one input. -/
def groupWaitsWrong : ChangeSpec := { name := "groupWaits", fn := fun _ => fun
  | [d1, d2, d3, d4] => { results := [.lit (.bool false)], args := [d1, d2, d3, d4] }
  | _ => none }
def GroupWaitsWrongFalsely : Prop := groupWaitsRow.holds Try.pinned (OpenSpec.ofChange groupWaitsWrong)

/-- 'klaxonlaw20.GroupQuiet': WHATEVER THE INPUT: true; the input reads as it did. -/
def groupQuietSpec : ChangeSpec := { name := "groupQuiet", fn := fun _ => fun
  | [d1, d2, d3, d4] => { results := [.lit (.bool true)], args := [d1, d2, d3, d4] }
  | _ => none }
def groupQuietRow : OpenClaim := { program := "ytkppbflmlpabjab", sum := "0fa47972a4f91984114557a7576b3bf7a2c2108e5a89443659e0f29390b1a10a", func := "klaxon/klaxonlaw20.GroupQuiet", spec := "groupQuiet", apart := false }
def GroupQuietSaid : Prop := groupQuietRow.holds Try.pinned (OpenSpec.ofChange groupQuietSpec)

/-- ITS FALSE NEIGHBOUR: 'it returns false'. Refute it at one input. -/
def groupQuietWrong : ChangeSpec := { name := "groupQuiet", fn := fun _ => fun
  | [d1, d2, d3, d4] => { results := [.lit (.bool false)], args := [d1, d2, d3, d4] }
  | _ => none }
def GroupQuietWrongFalsely : Prop := groupQuietRow.holds Try.pinned (OpenSpec.ofChange groupQuietWrong)

/-- 'klaxonlaw20.GroupTells': WHATEVER THE INPUT: true; the input reads as it did. -/
def groupTellsSpec : ChangeSpec := { name := "groupTells", fn := fun _ => fun
  | [d1, d2, d3, d4, d5, d6, d7] => { results := [.lit (.bool true)], args := [d1, d2, d3, d4, d5, d6, d7] }
  | _ => none }
def groupTellsRow : OpenClaim := { program := "ytkppbflmlpabjab", sum := "0fa47972a4f91984114557a7576b3bf7a2c2108e5a89443659e0f29390b1a10a", func := "klaxon/klaxonlaw20.GroupTells", spec := "groupTells", apart := false }
def GroupTellsSaid : Prop := groupTellsRow.holds Try.pinned (OpenSpec.ofChange groupTellsSpec)

/-- ITS FALSE NEIGHBOUR: 'it returns false'. Refute it at one input. -/
def groupTellsWrong : ChangeSpec := { name := "groupTells", fn := fun _ => fun
  | [d1, d2, d3, d4, d5, d6, d7] => { results := [.lit (.bool false)], args := [d1, d2, d3, d4, d5, d6, d7] }
  | _ => none }
def GroupTellsWrongFalsely : Prop := groupTellsRow.holds Try.pinned (OpenSpec.ofChange groupTellsWrong)

/-- 'klaxonlaw20.GroupCopies': WHATEVER THE INPUT: true; the input reads as it did. -/
def groupCopiesSpec : ChangeSpec := { name := "groupCopies", fn := fun _ => fun
  | [d1, d2, d3, d4, d5] => { results := [.lit (.bool true)], args := [d1, d2, d3, d4, d5] }
  | _ => none }
def groupCopiesRow : OpenClaim := { program := "ytkppbflmlpabjab", sum := "0fa47972a4f91984114557a7576b3bf7a2c2108e5a89443659e0f29390b1a10a", func := "klaxon/klaxonlaw20.GroupCopies", spec := "groupCopies", apart := false }
def GroupCopiesSaid : Prop := groupCopiesRow.holds Try.pinned (OpenSpec.ofChange groupCopiesSpec)

/-- ITS FALSE NEIGHBOUR: 'it returns false'. Refute it at one input. -/
def groupCopiesWrong : ChangeSpec := { name := "groupCopies", fn := fun _ => fun
  | [d1, d2, d3, d4, d5] => { results := [.lit (.bool false)], args := [d1, d2, d3, d4, d5] }
  | _ => none }
def GroupCopiesWrongFalsely : Prop := groupCopiesRow.holds Try.pinned (OpenSpec.ofChange groupCopiesWrong)

/-- 'klaxonlaw4.SeriesRuns': WHATEVER THE INPUT: true; the input reads as it did. -/
def seriesRunsSpec : ChangeSpec := { name := "seriesRuns", fn := fun _ => fun
  | [] => { results := [.lit (.bool true)], args := [] }
  | _ => none }
def seriesRunsRow : OpenClaim := { program := "ytkppbflmlpabjab", sum := "0fa47972a4f91984114557a7576b3bf7a2c2108e5a89443659e0f29390b1a10a", func := "klaxon/klaxonlaw4.SeriesRuns", spec := "seriesRuns", unfollowed := true, recurses := true, apart := false }
def SeriesRunsSaid : Prop := seriesRunsRow.holds Try.pinned (OpenSpec.ofChange seriesRunsSpec)

/-- ITS FALSE NEIGHBOUR: 'it returns false'. Refute it at one input. -/
def seriesRunsWrong : ChangeSpec := { name := "seriesRuns", fn := fun _ => fun
  | [] => { results := [.lit (.bool false)], args := [] }
  | _ => none }
def SeriesRunsWrongFalsely : Prop := seriesRunsRow.holds Try.pinned (OpenSpec.ofChange seriesRunsWrong)

/-- 'klaxonlaw4.SeriesChanges': WHATEVER THE INPUT: true; the input reads as it did. -/
def seriesChangesSpec : ChangeSpec := { name := "seriesChanges", fn := fun _ => fun
  | [d1, d2, d3, d4] => { results := [.lit (.bool true)], args := [d1, d2, d3, d4] }
  | _ => none }
def seriesChangesRow : OpenClaim := { program := "ytkppbflmlpabjab", sum := "0fa47972a4f91984114557a7576b3bf7a2c2108e5a89443659e0f29390b1a10a", func := "klaxon/klaxonlaw4.SeriesChanges", spec := "seriesChanges", unfollowed := true, recurses := true, apart := false }
def SeriesChangesSaid : Prop := seriesChangesRow.holds Try.pinned (OpenSpec.ofChange seriesChangesSpec)

/-- ITS FALSE NEIGHBOUR: 'it returns false'. Refute it at one input. -/
def seriesChangesWrong : ChangeSpec := { name := "seriesChanges", fn := fun _ => fun
  | [d1, d2, d3, d4] => { results := [.lit (.bool false)], args := [d1, d2, d3, d4] }
  | _ => none }
def SeriesChangesWrongFalsely : Prop := seriesChangesRow.holds Try.pinned (OpenSpec.ofChange seriesChangesWrong)

/-- 'klaxonlaw4.SeriesLook': WHATEVER THE INPUT: true; the input reads as it did. -/
def seriesLookSpec : ChangeSpec := { name := "seriesLook", fn := fun _ => fun
  | [d1, d2, d3, d4] => { results := [.lit (.bool true)], args := [d1, d2, d3, d4] }
  | _ => none }
def seriesLookRow : OpenClaim := { program := "ytkppbflmlpabjab", sum := "0fa47972a4f91984114557a7576b3bf7a2c2108e5a89443659e0f29390b1a10a", func := "klaxon/klaxonlaw4.SeriesLook", spec := "seriesLook", unfollowed := true, recurses := true, apart := false }
def SeriesLookSaid : Prop := seriesLookRow.holds Try.pinned (OpenSpec.ofChange seriesLookSpec)

/-- ITS FALSE NEIGHBOUR: 'it returns false'. Refute it at one input. -/
def seriesLookWrong : ChangeSpec := { name := "seriesLook", fn := fun _ => fun
  | [d1, d2, d3, d4] => { results := [.lit (.bool false)], args := [d1, d2, d3, d4] }
  | _ => none }
def SeriesLookWrongFalsely : Prop := seriesLookRow.holds Try.pinned (OpenSpec.ofChange seriesLookWrong)

/-- 'klaxonlaw4.SeriesParts': WHATEVER THE INPUT: true; the input reads as it did. -/
def seriesPartsSpec : ChangeSpec := { name := "seriesParts", fn := fun _ => fun
  | [d1, d2, d3] => { results := [.lit (.bool true)], args := [d1, d2, d3] }
  | _ => none }
def seriesPartsRow : OpenClaim := { program := "ytkppbflmlpabjab", sum := "0fa47972a4f91984114557a7576b3bf7a2c2108e5a89443659e0f29390b1a10a", func := "klaxon/klaxonlaw4.SeriesParts", spec := "seriesParts", unfollowed := true, recurses := true, apart := false }
def SeriesPartsSaid : Prop := seriesPartsRow.holds Try.pinned (OpenSpec.ofChange seriesPartsSpec)

/-- ITS FALSE NEIGHBOUR: 'it returns false'. Refute it at one input. -/
def seriesPartsWrong : ChangeSpec := { name := "seriesParts", fn := fun _ => fun
  | [d1, d2, d3] => { results := [.lit (.bool false)], args := [d1, d2, d3] }
  | _ => none }
def SeriesPartsWrongFalsely : Prop := seriesPartsRow.holds Try.pinned (OpenSpec.ofChange seriesPartsWrong)

/-- 'klaxonlaw4.SeriesPlays': WHATEVER THE INPUT: true; the input reads as it did. -/
def seriesPlaysSpec : ChangeSpec := { name := "seriesPlays", fn := fun _ => fun
  | [d] => { results := [.lit (.bool true)], args := [d] }
  | _ => none }
def seriesPlaysRow : OpenClaim := { program := "ytkppbflmlpabjab", sum := "0fa47972a4f91984114557a7576b3bf7a2c2108e5a89443659e0f29390b1a10a", func := "klaxon/klaxonlaw4.SeriesPlays", spec := "seriesPlays", unfollowed := true, recurses := true, apart := false }
def SeriesPlaysSaid : Prop := seriesPlaysRow.holds Try.pinned (OpenSpec.ofChange seriesPlaysSpec)

/-- ITS FALSE NEIGHBOUR: 'it returns false'. Refute it at one input. -/
def seriesPlaysWrong : ChangeSpec := { name := "seriesPlays", fn := fun _ => fun
  | [d] => { results := [.lit (.bool false)], args := [d] }
  | _ => none }
def SeriesPlaysWrongFalsely : Prop := seriesPlaysRow.holds Try.pinned (OpenSpec.ofChange seriesPlaysWrong)

/- THE SECOND FORM. 'bulk': how many values and letters a reading holds, each counted each time it is reached (what is shared counts as often as it is met; a slice's spare places count too). A statement '..UptoSaid' is the law's where the arguments, and the package variables that the reading takes, are together of bulk at most 1048576: NARROWER than '..Said'. Prove '..Said' where nothing that the law and all that it calls make is longer than what came in: it says more and counts as full. Else prove '..UptoSaid'. A law counts once. -/
mutual
def uptoBulk {H : Type} : DataW H → Nat
  | .lit (.string bytes) => bytes.length + 1
  | .lit _ => 1
  | .nil => 1
  | .ptr d => uptoBulk d + 1
  | .slice elems spare => uptoBulkAll elems + uptoBulkAll spare + 1
  | .agg parts => uptoBulkAll parts + 1
  | .iface _ d => uptoBulk d + 1
  | .map entries => uptoBulkEntries entries + 1
  | .held _ => 1
def uptoBulkAll {H : Type} : List (DataW H) → Nat
  | [] => 0
  | d :: r => uptoBulk d + uptoBulkAll r
def uptoBulkEntries {H : Type} : List (Lit × DataW H) → Nat
  | [] => 0
  | x :: r => uptoBulkEntry x + uptoBulkEntries r
def uptoBulkEntry {H : Type} : Lit × DataW H → Nat
  | (.string bytes, d) => bytes.length + uptoBulk d + 1
  | (_, d) => uptoBulk d + 1
 end
def uptoSmall : (H : Type) → List (DataW H) → Bool := fun _ ds => decide (uptoBulkAll ds ≤ 1048576)
def OpenSpec.upto (s : _root_.Go.ChangeSpec) : _root_.Go.OpenSpec := { _root_.Go.OpenSpec.ofChange s with cond := some uptoSmall }

/-- 'klaxonlaw20.GroupWaits', WHERE WHAT IT READS IS OF BULK AT MOST 1048576: true; the input reads as it did. -/
def groupWaitsUptoRow : OpenClaim := { program := "ytkppbflmlpabjab", sum := "0fa47972a4f91984114557a7576b3bf7a2c2108e5a89443659e0f29390b1a10a", func := "klaxon/klaxonlaw20.GroupWaits", spec := "groupWaits", apart := false, narrowed := true }
def GroupWaitsUptoSaid : Prop := groupWaitsUptoRow.holds Try.pinned (OpenSpec.upto groupWaitsSpec)

/-- 'klaxonlaw20.GroupQuiet', WHERE WHAT IT READS IS OF BULK AT MOST 1048576: true; the input reads as it did. -/
def groupQuietUptoRow : OpenClaim := { program := "ytkppbflmlpabjab", sum := "0fa47972a4f91984114557a7576b3bf7a2c2108e5a89443659e0f29390b1a10a", func := "klaxon/klaxonlaw20.GroupQuiet", spec := "groupQuiet", apart := false, narrowed := true }
def GroupQuietUptoSaid : Prop := groupQuietUptoRow.holds Try.pinned (OpenSpec.upto groupQuietSpec)

/-- 'klaxonlaw20.GroupTells', WHERE WHAT IT READS IS OF BULK AT MOST 1048576: true; the input reads as it did. -/
def groupTellsUptoRow : OpenClaim := { program := "ytkppbflmlpabjab", sum := "0fa47972a4f91984114557a7576b3bf7a2c2108e5a89443659e0f29390b1a10a", func := "klaxon/klaxonlaw20.GroupTells", spec := "groupTells", apart := false, narrowed := true }
def GroupTellsUptoSaid : Prop := groupTellsUptoRow.holds Try.pinned (OpenSpec.upto groupTellsSpec)

/-- 'klaxonlaw20.GroupCopies', WHERE WHAT IT READS IS OF BULK AT MOST 1048576: true; the input reads as it did. -/
def groupCopiesUptoRow : OpenClaim := { program := "ytkppbflmlpabjab", sum := "0fa47972a4f91984114557a7576b3bf7a2c2108e5a89443659e0f29390b1a10a", func := "klaxon/klaxonlaw20.GroupCopies", spec := "groupCopies", apart := false, narrowed := true }
def GroupCopiesUptoSaid : Prop := groupCopiesUptoRow.holds Try.pinned (OpenSpec.upto groupCopiesSpec)

/-- 'klaxonlaw4.SeriesRuns', WHERE WHAT IT READS IS OF BULK AT MOST 1048576: true; the input reads as it did. -/
def seriesRunsUptoRow : OpenClaim := { program := "ytkppbflmlpabjab", sum := "0fa47972a4f91984114557a7576b3bf7a2c2108e5a89443659e0f29390b1a10a", func := "klaxon/klaxonlaw4.SeriesRuns", spec := "seriesRuns", unfollowed := true, recurses := true, apart := false, narrowed := true }
def SeriesRunsUptoSaid : Prop := seriesRunsUptoRow.holds Try.pinned (OpenSpec.upto seriesRunsSpec)

/-- 'klaxonlaw4.SeriesChanges', WHERE WHAT IT READS IS OF BULK AT MOST 1048576: true; the input reads as it did. -/
def seriesChangesUptoRow : OpenClaim := { program := "ytkppbflmlpabjab", sum := "0fa47972a4f91984114557a7576b3bf7a2c2108e5a89443659e0f29390b1a10a", func := "klaxon/klaxonlaw4.SeriesChanges", spec := "seriesChanges", unfollowed := true, recurses := true, apart := false, narrowed := true }
def SeriesChangesUptoSaid : Prop := seriesChangesUptoRow.holds Try.pinned (OpenSpec.upto seriesChangesSpec)

/-- 'klaxonlaw4.SeriesLook', WHERE WHAT IT READS IS OF BULK AT MOST 1048576: true; the input reads as it did. -/
def seriesLookUptoRow : OpenClaim := { program := "ytkppbflmlpabjab", sum := "0fa47972a4f91984114557a7576b3bf7a2c2108e5a89443659e0f29390b1a10a", func := "klaxon/klaxonlaw4.SeriesLook", spec := "seriesLook", unfollowed := true, recurses := true, apart := false, narrowed := true }
def SeriesLookUptoSaid : Prop := seriesLookUptoRow.holds Try.pinned (OpenSpec.upto seriesLookSpec)

/-- 'klaxonlaw4.SeriesParts', WHERE WHAT IT READS IS OF BULK AT MOST 1048576: true; the input reads as it did. -/
def seriesPartsUptoRow : OpenClaim := { program := "ytkppbflmlpabjab", sum := "0fa47972a4f91984114557a7576b3bf7a2c2108e5a89443659e0f29390b1a10a", func := "klaxon/klaxonlaw4.SeriesParts", spec := "seriesParts", unfollowed := true, recurses := true, apart := false, narrowed := true }
def SeriesPartsUptoSaid : Prop := seriesPartsUptoRow.holds Try.pinned (OpenSpec.upto seriesPartsSpec)

/-- 'klaxonlaw4.SeriesPlays', WHERE WHAT IT READS IS OF BULK AT MOST 1048576: true; the input reads as it did. -/
def seriesPlaysUptoRow : OpenClaim := { program := "ytkppbflmlpabjab", sum := "0fa47972a4f91984114557a7576b3bf7a2c2108e5a89443659e0f29390b1a10a", func := "klaxon/klaxonlaw4.SeriesPlays", spec := "seriesPlays", unfollowed := true, recurses := true, apart := false, narrowed := true }
def SeriesPlaysUptoSaid : Prop := seriesPlaysUptoRow.holds Try.pinned (OpenSpec.upto seriesPlaysSpec)

end Rows
end Go.Proofs.Ytkppbflmlpabjab
