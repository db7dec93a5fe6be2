/-
  No cell of these rows narrows 'for every input' (looked for: loops, veiled, ifaces, maps, wideKeys, modest, calm, conditions, laid).
  DERIVED. THE GIVEN ROWS OF THIS SEAT. 5 by the template 'for every input the law returns true; each argument reads behind the call as it read before'; 0 by the template 'total and deterministic' (their statements: YtghkbjflejgieaaTotals.lean).
  GIVEN WITH THE SEED: the statements are not yours to turn. If you find one false, say at which input.
  Laid BY PROGRAM, IN A SANDBOX (cutbox-rows.mjs): the forced cells as the released guide's own fill.sh prints them over the translation 5cd7ab4d77867f83… (all of the seat's roots in one cut). By AI agents, Wed Nov 11 2026. No macro, syntax, notation, axiom, sorry.
-/
import Derived.Test.YtghkbjflejgieaaChecked
import GoSem.Claim
import GoSem.ClaimJoined
import GoSem.ClaimMapViews
import Derived.JoinedTies
import Derived.KernelRfl
namespace Go.Proofs.Ytghkbjflejgieaa
/- THE CELL 'sum', in the pinned program and in every row, IS THE sha256 OF THE DUMP (.gsa) THAT YtghkbjflejgieaaProg.lean LOADS. Nothing in Lean hashes anything: it is a label: what it is worth is what the hold of that sum in a sandbox is worth. -/
noncomputable def Try.pinned : Pinned := { name := "ytghkbjflejgieaa", sum := "5cd7ab4d77867f83c817128296acb937c9007cfc299300a681c56b561644ed9e", checked := Try.checked }
namespace Rows
def none {H : Type} : Left H := { results := [], args := [] }

/-- 'klaxonlaw5.BlockRuns': WHATEVER THE INPUT: true; the input reads as it did. -/
def blockRunsSpec : ChangeSpec := { name := "blockRuns", fn := fun _ => fun
  | [] => { results := [.lit (.bool true)], args := [] }
  | _ => none }
def blockRunsRow : OpenClaim := { program := "ytghkbjflejgieaa", sum := "5cd7ab4d77867f83c817128296acb937c9007cfc299300a681c56b561644ed9e", func := "klaxon/klaxonlaw5.BlockRuns", spec := "blockRuns", apart := false }
def BlockRunsSaid : Prop := blockRunsRow.holds Try.pinned (OpenSpec.ofChange blockRunsSpec)

/-- ITS FALSE NEIGHBOUR: 'it returns false'. Refute it at one input. -/
def blockRunsWrong : ChangeSpec := { name := "blockRuns", fn := fun _ => fun
  | [] => { results := [.lit (.bool false)], args := [] }
  | _ => none }
def BlockRunsWrongFalsely : Prop := blockRunsRow.holds Try.pinned (OpenSpec.ofChange blockRunsWrong)

/-- 'klaxonlaw5.BlockTells': WHATEVER THE INPUT: true; the input reads as it did. -/
def blockTellsSpec : ChangeSpec := { name := "blockTells", fn := fun _ => fun
  | [d1, d2, d3, d4, d5] => { results := [.lit (.bool true)], args := [d1, d2, d3, d4, d5] }
  | _ => none }
def blockTellsRow : OpenClaim := { program := "ytghkbjflejgieaa", sum := "5cd7ab4d77867f83c817128296acb937c9007cfc299300a681c56b561644ed9e", func := "klaxon/klaxonlaw5.BlockTells", spec := "blockTells", apart := false }
def BlockTellsSaid : Prop := blockTellsRow.holds Try.pinned (OpenSpec.ofChange blockTellsSpec)

/-- ITS FALSE NEIGHBOUR: 'it returns false'. Refute it at one input. -/
def blockTellsWrong : ChangeSpec := { name := "blockTells", fn := fun _ => fun
  | [d1, d2, d3, d4, d5] => { results := [.lit (.bool false)], args := [d1, d2, d3, d4, d5] }
  | _ => none }
def BlockTellsWrongFalsely : Prop := blockTellsRow.holds Try.pinned (OpenSpec.ofChange blockTellsWrong)

/-- 'klaxonlaw5.BlockOnly': WHATEVER THE INPUT: true; the input reads as it did. -/
def blockOnlySpec : ChangeSpec := { name := "blockOnly", fn := fun _ => fun
  | [d1, d2, d3, d4, d5] => { results := [.lit (.bool true)], args := [d1, d2, d3, d4, d5] }
  | _ => none }
def blockOnlyRow : OpenClaim := { program := "ytghkbjflejgieaa", sum := "5cd7ab4d77867f83c817128296acb937c9007cfc299300a681c56b561644ed9e", func := "klaxon/klaxonlaw5.BlockOnly", spec := "blockOnly", apart := false }
def BlockOnlySaid : Prop := blockOnlyRow.holds Try.pinned (OpenSpec.ofChange blockOnlySpec)

/-- ITS FALSE NEIGHBOUR: 'it returns false'. Refute it at one input. -/
def blockOnlyWrong : ChangeSpec := { name := "blockOnly", fn := fun _ => fun
  | [d1, d2, d3, d4, d5] => { results := [.lit (.bool false)], args := [d1, d2, d3, d4, d5] }
  | _ => none }
def BlockOnlyWrongFalsely : Prop := blockOnlyRow.holds Try.pinned (OpenSpec.ofChange blockOnlyWrong)

/-- 'klaxonlaw5.BlockSmall': WHATEVER THE INPUT: true; the input reads as it did. -/
def blockSmallSpec : ChangeSpec := { name := "blockSmall", fn := fun _ => fun
  | [d1, d2, d3] => { results := [.lit (.bool true)], args := [d1, d2, d3] }
  | _ => none }
def blockSmallRow : OpenClaim := { program := "ytghkbjflejgieaa", sum := "5cd7ab4d77867f83c817128296acb937c9007cfc299300a681c56b561644ed9e", func := "klaxon/klaxonlaw5.BlockSmall", spec := "blockSmall", apart := false }
def BlockSmallSaid : Prop := blockSmallRow.holds Try.pinned (OpenSpec.ofChange blockSmallSpec)

/-- ITS FALSE NEIGHBOUR: 'it returns false'. Refute it at one input. -/
def blockSmallWrong : ChangeSpec := { name := "blockSmall", fn := fun _ => fun
  | [d1, d2, d3] => { results := [.lit (.bool false)], args := [d1, d2, d3] }
  | _ => none }
def BlockSmallWrongFalsely : Prop := blockSmallRow.holds Try.pinned (OpenSpec.ofChange blockSmallWrong)

/-- 'klaxonlaw5.BlockJoin': WHATEVER THE INPUT: true; the input reads as it did. -/
def blockJoinSpec : ChangeSpec := { name := "blockJoin", fn := fun _ => fun
  | [d1, d2, d3, d4, d5] => { results := [.lit (.bool true)], args := [d1, d2, d3, d4, d5] }
  | _ => none }
def blockJoinRow : OpenClaim := { program := "ytghkbjflejgieaa", sum := "5cd7ab4d77867f83c817128296acb937c9007cfc299300a681c56b561644ed9e", func := "klaxon/klaxonlaw5.BlockJoin", spec := "blockJoin", apart := false }
def BlockJoinSaid : Prop := blockJoinRow.holds Try.pinned (OpenSpec.ofChange blockJoinSpec)

/-- ITS FALSE NEIGHBOUR: 'it returns false'. Refute it at one input. -/
def blockJoinWrong : ChangeSpec := { name := "blockJoin", fn := fun _ => fun
  | [d1, d2, d3, d4, d5] => { results := [.lit (.bool false)], args := [d1, d2, d3, d4, d5] }
  | _ => none }
def BlockJoinWrongFalsely : Prop := blockJoinRow.holds Try.pinned (OpenSpec.ofChange blockJoinWrong)

/- THE SECOND FORM. 'bulk': how many values and letters a reading holds, each counted each time it is reached (what is shared counts as often as it is met; a slice's spare places count too). A statement '..UptoSaid' is the law's where the arguments, and the package variables that the reading takes, are together of bulk at most 1048576: NARROWER than '..Said'. Prove '..Said' where nothing that the law and all that it calls make is longer than what came in: it says more and counts as full. Else prove '..UptoSaid'. A law counts once. -/
mutual
def uptoBulk {H : Type} : DataW H → Nat
  | .lit (.string bytes) => bytes.length + 1
  | .lit _ => 1
  | .nil => 1
  | .ptr d => uptoBulk d + 1
  | .slice elems spare => uptoBulkAll elems + uptoBulkAll spare + 1
  | .agg parts => uptoBulkAll parts + 1
  | .iface _ d => uptoBulk d + 1
  | .map entries => uptoBulkEntries entries + 1
  | .held _ => 1
def uptoBulkAll {H : Type} : List (DataW H) → Nat
  | [] => 0
  | d :: r => uptoBulk d + uptoBulkAll r
def uptoBulkEntries {H : Type} : List (Lit × DataW H) → Nat
  | [] => 0
  | x :: r => uptoBulkEntry x + uptoBulkEntries r
def uptoBulkEntry {H : Type} : Lit × DataW H → Nat
  | (.string bytes, d) => bytes.length + uptoBulk d + 1
  | (_, d) => uptoBulk d + 1
 end
def uptoSmall : (H : Type) → List (DataW H) → Bool := fun _ ds => decide (uptoBulkAll ds ≤ 1048576)
def OpenSpec.upto (s : _root_.Go.ChangeSpec) : _root_.Go.OpenSpec := { _root_.Go.OpenSpec.ofChange s with cond := some uptoSmall }

/-- 'klaxonlaw5.BlockRuns', WHERE WHAT IT READS IS OF BULK AT MOST 1048576: true; the input reads as it did. -/
def blockRunsUptoRow : OpenClaim := { program := "ytghkbjflejgieaa", sum := "5cd7ab4d77867f83c817128296acb937c9007cfc299300a681c56b561644ed9e", func := "klaxon/klaxonlaw5.BlockRuns", spec := "blockRuns", apart := false, narrowed := true }
def BlockRunsUptoSaid : Prop := blockRunsUptoRow.holds Try.pinned (OpenSpec.upto blockRunsSpec)

/-- 'klaxonlaw5.BlockTells', WHERE WHAT IT READS IS OF BULK AT MOST 1048576: true; the input reads as it did. -/
def blockTellsUptoRow : OpenClaim := { program := "ytghkbjflejgieaa", sum := "5cd7ab4d77867f83c817128296acb937c9007cfc299300a681c56b561644ed9e", func := "klaxon/klaxonlaw5.BlockTells", spec := "blockTells", apart := false, narrowed := true }
def BlockTellsUptoSaid : Prop := blockTellsUptoRow.holds Try.pinned (OpenSpec.upto blockTellsSpec)

/-- 'klaxonlaw5.BlockOnly', WHERE WHAT IT READS IS OF BULK AT MOST 1048576: true; the input reads as it did. -/
def blockOnlyUptoRow : OpenClaim := { program := "ytghkbjflejgieaa", sum := "5cd7ab4d77867f83c817128296acb937c9007cfc299300a681c56b561644ed9e", func := "klaxon/klaxonlaw5.BlockOnly", spec := "blockOnly", apart := false, narrowed := true }
def BlockOnlyUptoSaid : Prop := blockOnlyUptoRow.holds Try.pinned (OpenSpec.upto blockOnlySpec)

/-- 'klaxonlaw5.BlockSmall', WHERE WHAT IT READS IS OF BULK AT MOST 1048576: true; the input reads as it did. -/
def blockSmallUptoRow : OpenClaim := { program := "ytghkbjflejgieaa", sum := "5cd7ab4d77867f83c817128296acb937c9007cfc299300a681c56b561644ed9e", func := "klaxon/klaxonlaw5.BlockSmall", spec := "blockSmall", apart := false, narrowed := true }
def BlockSmallUptoSaid : Prop := blockSmallUptoRow.holds Try.pinned (OpenSpec.upto blockSmallSpec)

/-- 'klaxonlaw5.BlockJoin', WHERE WHAT IT READS IS OF BULK AT MOST 1048576: true; the input reads as it did. -/
def blockJoinUptoRow : OpenClaim := { program := "ytghkbjflejgieaa", sum := "5cd7ab4d77867f83c817128296acb937c9007cfc299300a681c56b561644ed9e", func := "klaxon/klaxonlaw5.BlockJoin", spec := "blockJoin", apart := false, narrowed := true }
def BlockJoinUptoSaid : Prop := blockJoinUptoRow.holds Try.pinned (OpenSpec.upto blockJoinSpec)

end Rows
end Go.Proofs.Ytghkbjflejgieaa
