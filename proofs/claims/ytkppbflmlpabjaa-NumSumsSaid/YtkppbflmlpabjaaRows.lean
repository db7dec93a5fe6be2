/-
  No cell of these rows narrows 'for every input' (looked for: loops, veiled, ifaces, maps, wideKeys, modest, calm, conditions, laid).
  DERIVED. THE GIVEN ROWS OF THIS SEAT. 12 by the template 'for every input the law returns true; each argument reads behind the call as it read before'; 0 by the template 'total and deterministic' (their statements: YtkppbflmlpabjaaTotals.lean).
  GIVEN WITH THE SEED: the statements are not yours to turn. If you find one false, say at which input.
  Laid BY PROGRAM, IN A SANDBOX (cutbox-rows.mjs): the forced cells as the released guide's own fill.sh prints them over the translation ed661e7fa1418c07… (all of the seat's roots in one cut). By AI agents, Wed Nov 11 2026. No macro, syntax, notation, axiom, sorry.
-/
import Derived.Test.YtkppbflmlpabjaaChecked
import GoSem.Claim
import GoSem.ClaimJoined
import GoSem.ClaimMapViews
import Derived.JoinedTies
import Derived.KernelRfl
namespace Go.Proofs.Ytkppbflmlpabjaa
/- THE CELL 'sum', in the pinned program and in every row, IS THE sha256 OF THE DUMP (.gsa) THAT YtkppbflmlpabjaaProg.lean LOADS. Nothing in Lean hashes anything: it is a label: what it is worth is what the hold of that sum in a sandbox is worth. -/
noncomputable def Try.pinned : Pinned := { name := "ytkppbflmlpabjaa", sum := "ed661e7fa1418c0783c8c8d1e610bacca942641d80c40c6ff45903f1c89e30e3", checked := Try.checked }
namespace Rows
def none {H : Type} : Left H := { results := [], args := [] }

/-- 'klaxonlaw1.NumRuns': WHATEVER THE INPUT: true; the input reads as it did. -/
def numRunsSpec : ChangeSpec := { name := "numRuns", fn := fun _ => fun
  | [] => { results := [.lit (.bool true)], args := [] }
  | _ => none }
def numRunsRow : OpenClaim := { program := "ytkppbflmlpabjaa", sum := "ed661e7fa1418c0783c8c8d1e610bacca942641d80c40c6ff45903f1c89e30e3", func := "klaxon/klaxonlaw1.NumRuns", spec := "numRuns", apart := false }
def NumRunsSaid : Prop := numRunsRow.holds Try.pinned (OpenSpec.ofChange numRunsSpec)

/-- ITS FALSE NEIGHBOUR: 'it returns false'. Refute it at one input. -/
def numRunsWrong : ChangeSpec := { name := "numRuns", fn := fun _ => fun
  | [] => { results := [.lit (.bool false)], args := [] }
  | _ => none }
def NumRunsWrongFalsely : Prop := numRunsRow.holds Try.pinned (OpenSpec.ofChange numRunsWrong)

/-- 'klaxonlaw1.NumSums': WHATEVER THE INPUT: true; the input reads as it did. -/
def numSumsSpec : ChangeSpec := { name := "numSums", fn := fun _ => fun
  | [d1, d2, d3, d4] => { results := [.lit (.bool true)], args := [d1, d2, d3, d4] }
  | _ => none }
def numSumsRow : OpenClaim := { program := "ytkppbflmlpabjaa", sum := "ed661e7fa1418c0783c8c8d1e610bacca942641d80c40c6ff45903f1c89e30e3", func := "klaxon/klaxonlaw1.NumSums", spec := "numSums", apart := false }
def NumSumsSaid : Prop := numSumsRow.holds Try.pinned (OpenSpec.ofChange numSumsSpec)

/-- ITS FALSE NEIGHBOUR: 'it returns false'. Refute it at one input. -/
def numSumsWrong : ChangeSpec := { name := "numSums", fn := fun _ => fun
  | [d1, d2, d3, d4] => { results := [.lit (.bool false)], args := [d1, d2, d3, d4] }
  | _ => none }
def NumSumsWrongFalsely : Prop := numSumsRow.holds Try.pinned (OpenSpec.ofChange numSumsWrong)

/-- 'klaxonlaw12.LifeRuns': WHATEVER THE INPUT: true; the input reads as it did. -/
def lifeRunsSpec : ChangeSpec := { name := "lifeRuns", fn := fun _ => fun
  | [] => { results := [.lit (.bool true)], args := [] }
  | _ => none }
def lifeRunsRow : OpenClaim := { program := "ytkppbflmlpabjaa", sum := "ed661e7fa1418c0783c8c8d1e610bacca942641d80c40c6ff45903f1c89e30e3", func := "klaxon/klaxonlaw12.LifeRuns", spec := "lifeRuns", apart := false }
def LifeRunsSaid : Prop := lifeRunsRow.holds Try.pinned (OpenSpec.ofChange lifeRunsSpec)

/-- ITS FALSE NEIGHBOUR: 'it returns false'. Refute it at one input. -/
def lifeRunsWrong : ChangeSpec := { name := "lifeRuns", fn := fun _ => fun
  | [] => { results := [.lit (.bool false)], args := [] }
  | _ => none }
def LifeRunsWrongFalsely : Prop := lifeRunsRow.holds Try.pinned (OpenSpec.ofChange lifeRunsWrong)

/-- 'klaxonlaw12.LifeTells': WHATEVER THE INPUT: true; the input reads as it did. -/
def lifeTellsSpec : ChangeSpec := { name := "lifeTells", fn := fun _ => fun
  | [d1, d2, d3, d4] => { results := [.lit (.bool true)], args := [d1, d2, d3, d4] }
  | _ => none }
def lifeTellsRow : OpenClaim := { program := "ytkppbflmlpabjaa", sum := "ed661e7fa1418c0783c8c8d1e610bacca942641d80c40c6ff45903f1c89e30e3", func := "klaxon/klaxonlaw12.LifeTells", spec := "lifeTells", recurses := true, apart := false }
def LifeTellsSaid : Prop := lifeTellsRow.holds Try.pinned (OpenSpec.ofChange lifeTellsSpec)

/-- ITS FALSE NEIGHBOUR: 'it returns false'. Refute it at one input. -/
def lifeTellsWrong : ChangeSpec := { name := "lifeTells", fn := fun _ => fun
  | [d1, d2, d3, d4] => { results := [.lit (.bool false)], args := [d1, d2, d3, d4] }
  | _ => none }
def LifeTellsWrongFalsely : Prop := lifeTellsRow.holds Try.pinned (OpenSpec.ofChange lifeTellsWrong)

/-- 'klaxonlaw12.LifeMore': WHATEVER THE INPUT: true; the input reads as it did. -/
def lifeMoreSpec : ChangeSpec := { name := "lifeMore", fn := fun _ => fun
  | [d1, d2, d3, d4, d5] => { results := [.lit (.bool true)], args := [d1, d2, d3, d4, d5] }
  | _ => none }
def lifeMoreRow : OpenClaim := { program := "ytkppbflmlpabjaa", sum := "ed661e7fa1418c0783c8c8d1e610bacca942641d80c40c6ff45903f1c89e30e3", func := "klaxon/klaxonlaw12.LifeMore", spec := "lifeMore", apart := false }
def LifeMoreSaid : Prop := lifeMoreRow.holds Try.pinned (OpenSpec.ofChange lifeMoreSpec)

/-- ITS FALSE NEIGHBOUR: 'it returns false'. Refute it at one input. -/
def lifeMoreWrong : ChangeSpec := { name := "lifeMore", fn := fun _ => fun
  | [d1, d2, d3, d4, d5] => { results := [.lit (.bool false)], args := [d1, d2, d3, d4, d5] }
  | _ => none }
def LifeMoreWrongFalsely : Prop := lifeMoreRow.holds Try.pinned (OpenSpec.ofChange lifeMoreWrong)

/-- 'klaxonlaw12.LifeTurns': WHATEVER THE INPUT: true; the input reads as it did. -/
def lifeTurnsSpec : ChangeSpec := { name := "lifeTurns", fn := fun _ => fun
  | [d] => { results := [.lit (.bool true)], args := [d] }
  | _ => none }
def lifeTurnsRow : OpenClaim := { program := "ytkppbflmlpabjaa", sum := "ed661e7fa1418c0783c8c8d1e610bacca942641d80c40c6ff45903f1c89e30e3", func := "klaxon/klaxonlaw12.LifeTurns", spec := "lifeTurns", apart := false }
def LifeTurnsSaid : Prop := lifeTurnsRow.holds Try.pinned (OpenSpec.ofChange lifeTurnsSpec)

/-- ITS FALSE NEIGHBOUR: 'it returns false'. Refute it at one input. -/
def lifeTurnsWrong : ChangeSpec := { name := "lifeTurns", fn := fun _ => fun
  | [d] => { results := [.lit (.bool false)], args := [d] }
  | _ => none }
def LifeTurnsWrongFalsely : Prop := lifeTurnsRow.holds Try.pinned (OpenSpec.ofChange lifeTurnsWrong)

/-- 'klaxonlaw12.LifeParts': WHATEVER THE INPUT: true; the input reads as it did. -/
def lifePartsSpec : ChangeSpec := { name := "lifeParts", fn := fun _ => fun
  | [d1, d2, d3, d4, d5, d6] => { results := [.lit (.bool true)], args := [d1, d2, d3, d4, d5, d6] }
  | _ => none }
def lifePartsRow : OpenClaim := { program := "ytkppbflmlpabjaa", sum := "ed661e7fa1418c0783c8c8d1e610bacca942641d80c40c6ff45903f1c89e30e3", func := "klaxon/klaxonlaw12.LifeParts", spec := "lifeParts", apart := false }
def LifePartsSaid : Prop := lifePartsRow.holds Try.pinned (OpenSpec.ofChange lifePartsSpec)

/-- ITS FALSE NEIGHBOUR: 'it returns false'. Refute it at one input. -/
def lifePartsWrong : ChangeSpec := { name := "lifeParts", fn := fun _ => fun
  | [d1, d2, d3, d4, d5, d6] => { results := [.lit (.bool false)], args := [d1, d2, d3, d4, d5, d6] }
  | _ => none }
def LifePartsWrongFalsely : Prop := lifePartsRow.holds Try.pinned (OpenSpec.ofChange lifePartsWrong)

/-- 'klaxonlaw12.LifeScales': WHATEVER THE INPUT: true; the input reads as it did. -/
def lifeScalesSpec : ChangeSpec := { name := "lifeScales", fn := fun _ => fun
  | [d1, d2, d3, d4, d5] => { results := [.lit (.bool true)], args := [d1, d2, d3, d4, d5] }
  | _ => none }
def lifeScalesRow : OpenClaim := { program := "ytkppbflmlpabjaa", sum := "ed661e7fa1418c0783c8c8d1e610bacca942641d80c40c6ff45903f1c89e30e3", func := "klaxon/klaxonlaw12.LifeScales", spec := "lifeScales", apart := false }
def LifeScalesSaid : Prop := lifeScalesRow.holds Try.pinned (OpenSpec.ofChange lifeScalesSpec)

/-- ITS FALSE NEIGHBOUR: 'it returns false'. Refute it at one input. -/
def lifeScalesWrong : ChangeSpec := { name := "lifeScales", fn := fun _ => fun
  | [d1, d2, d3, d4, d5] => { results := [.lit (.bool false)], args := [d1, d2, d3, d4, d5] }
  | _ => none }
def LifeScalesWrongFalsely : Prop := lifeScalesRow.holds Try.pinned (OpenSpec.ofChange lifeScalesWrong)

/-- 'klaxonlaw1.NumTells': WHATEVER THE INPUT: true; the input reads as it did. -/
def numTellsSpec : ChangeSpec := { name := "numTells", fn := fun _ => fun
  | [d1, d2] => { results := [.lit (.bool true)], args := [d1, d2] }
  | _ => none }
def numTellsRow : OpenClaim := { program := "ytkppbflmlpabjaa", sum := "ed661e7fa1418c0783c8c8d1e610bacca942641d80c40c6ff45903f1c89e30e3", func := "klaxon/klaxonlaw1.NumTells", spec := "numTells", apart := false }
def NumTellsSaid : Prop := numTellsRow.holds Try.pinned (OpenSpec.ofChange numTellsSpec)

/-- ITS FALSE NEIGHBOUR: 'it returns false'. Refute it at one input. -/
def numTellsWrong : ChangeSpec := { name := "numTells", fn := fun _ => fun
  | [d1, d2] => { results := [.lit (.bool false)], args := [d1, d2] }
  | _ => none }
def NumTellsWrongFalsely : Prop := numTellsRow.holds Try.pinned (OpenSpec.ofChange numTellsWrong)

/-- 'klaxonlaw1.NumOrder': WHATEVER THE INPUT: true; the input reads as it did. -/
def numOrderSpec : ChangeSpec := { name := "numOrder", fn := fun _ => fun
  | [d1, d2, d3] => { results := [.lit (.bool true)], args := [d1, d2, d3] }
  | _ => none }
def numOrderRow : OpenClaim := { program := "ytkppbflmlpabjaa", sum := "ed661e7fa1418c0783c8c8d1e610bacca942641d80c40c6ff45903f1c89e30e3", func := "klaxon/klaxonlaw1.NumOrder", spec := "numOrder", apart := false }
def NumOrderSaid : Prop := numOrderRow.holds Try.pinned (OpenSpec.ofChange numOrderSpec)

/-- ITS FALSE NEIGHBOUR: 'it returns false'. Refute it at one input. -/
def numOrderWrong : ChangeSpec := { name := "numOrder", fn := fun _ => fun
  | [d1, d2, d3] => { results := [.lit (.bool false)], args := [d1, d2, d3] }
  | _ => none }
def NumOrderWrongFalsely : Prop := numOrderRow.holds Try.pinned (OpenSpec.ofChange numOrderWrong)

/-- 'klaxonlaw1.NumLaws': WHATEVER THE INPUT: true; the input reads as it did. -/
def numLawsSpec : ChangeSpec := { name := "numLaws", fn := fun _ => fun
  | [d1, d2, d3] => { results := [.lit (.bool true)], args := [d1, d2, d3] }
  | _ => none }
def numLawsRow : OpenClaim := { program := "ytkppbflmlpabjaa", sum := "ed661e7fa1418c0783c8c8d1e610bacca942641d80c40c6ff45903f1c89e30e3", func := "klaxon/klaxonlaw1.NumLaws", spec := "numLaws", apart := false }
def NumLawsSaid : Prop := numLawsRow.holds Try.pinned (OpenSpec.ofChange numLawsSpec)

/-- ITS FALSE NEIGHBOUR: 'it returns false'. Refute it at one input. -/
def numLawsWrong : ChangeSpec := { name := "numLaws", fn := fun _ => fun
  | [d1, d2, d3] => { results := [.lit (.bool false)], args := [d1, d2, d3] }
  | _ => none }
def NumLawsWrongFalsely : Prop := numLawsRow.holds Try.pinned (OpenSpec.ofChange numLawsWrong)

/-- 'klaxonlaw20.GroupRuns': WHATEVER THE INPUT: true; the input reads as it did. -/
def groupRunsSpec : ChangeSpec := { name := "groupRuns", fn := fun _ => fun
  | [] => { results := [.lit (.bool true)], args := [] }
  | _ => none }
def groupRunsRow : OpenClaim := { program := "ytkppbflmlpabjaa", sum := "ed661e7fa1418c0783c8c8d1e610bacca942641d80c40c6ff45903f1c89e30e3", func := "klaxon/klaxonlaw20.GroupRuns", spec := "groupRuns", apart := false }
def GroupRunsSaid : Prop := groupRunsRow.holds Try.pinned (OpenSpec.ofChange groupRunsSpec)

/-- ITS FALSE NEIGHBOUR: 'it returns false'. Refute it at one input. -/
def groupRunsWrong : ChangeSpec := { name := "groupRuns", fn := fun _ => fun
  | [] => { results := [.lit (.bool false)], args := [] }
  | _ => none }
def GroupRunsWrongFalsely : Prop := groupRunsRow.holds Try.pinned (OpenSpec.ofChange groupRunsWrong)

/- THE SECOND FORM. 'bulk': how many values and letters a reading holds, each counted each time it is reached (what is shared counts as often as it is met; a slice's spare places count too). A statement '..UptoSaid' is the law's where the arguments, and the package variables that the reading takes, are together of bulk at most 1048576: NARROWER than '..Said'. Prove '..Said' where nothing that the law and all that it calls make is longer than what came in: it says more and counts as full. Else prove '..UptoSaid'. A law counts once. -/
mutual
def uptoBulk {H : Type} : DataW H → Nat
  | .lit (.string bytes) => bytes.length + 1
  | .lit _ => 1
  | .nil => 1
  | .ptr d => uptoBulk d + 1
  | .slice elems spare => uptoBulkAll elems + uptoBulkAll spare + 1
  | .agg parts => uptoBulkAll parts + 1
  | .iface _ d => uptoBulk d + 1
  | .map entries => uptoBulkEntries entries + 1
  | .held _ => 1
def uptoBulkAll {H : Type} : List (DataW H) → Nat
  | [] => 0
  | d :: r => uptoBulk d + uptoBulkAll r
def uptoBulkEntries {H : Type} : List (Lit × DataW H) → Nat
  | [] => 0
  | x :: r => uptoBulkEntry x + uptoBulkEntries r
def uptoBulkEntry {H : Type} : Lit × DataW H → Nat
  | (.string bytes, d) => bytes.length + uptoBulk d + 1
  | (_, d) => uptoBulk d + 1
 end
def uptoSmall : (H : Type) → List (DataW H) → Bool := fun _ ds => decide (uptoBulkAll ds ≤ 1048576)
def OpenSpec.upto (s : _root_.Go.ChangeSpec) : _root_.Go.OpenSpec := { _root_.Go.OpenSpec.ofChange s with cond := some uptoSmall }

/-- 'klaxonlaw1.NumRuns', WHERE WHAT IT READS IS OF BULK AT MOST 1048576: true; the input reads as it did. -/
def numRunsUptoRow : OpenClaim := { program := "ytkppbflmlpabjaa", sum := "ed661e7fa1418c0783c8c8d1e610bacca942641d80c40c6ff45903f1c89e30e3", func := "klaxon/klaxonlaw1.NumRuns", spec := "numRuns", apart := false, narrowed := true }
def NumRunsUptoSaid : Prop := numRunsUptoRow.holds Try.pinned (OpenSpec.upto numRunsSpec)

/-- 'klaxonlaw1.NumSums', WHERE WHAT IT READS IS OF BULK AT MOST 1048576: true; the input reads as it did. -/
def numSumsUptoRow : OpenClaim := { program := "ytkppbflmlpabjaa", sum := "ed661e7fa1418c0783c8c8d1e610bacca942641d80c40c6ff45903f1c89e30e3", func := "klaxon/klaxonlaw1.NumSums", spec := "numSums", apart := false, narrowed := true }
def NumSumsUptoSaid : Prop := numSumsUptoRow.holds Try.pinned (OpenSpec.upto numSumsSpec)

/-- 'klaxonlaw12.LifeRuns', WHERE WHAT IT READS IS OF BULK AT MOST 1048576: true; the input reads as it did. -/
def lifeRunsUptoRow : OpenClaim := { program := "ytkppbflmlpabjaa", sum := "ed661e7fa1418c0783c8c8d1e610bacca942641d80c40c6ff45903f1c89e30e3", func := "klaxon/klaxonlaw12.LifeRuns", spec := "lifeRuns", apart := false, narrowed := true }
def LifeRunsUptoSaid : Prop := lifeRunsUptoRow.holds Try.pinned (OpenSpec.upto lifeRunsSpec)

/-- 'klaxonlaw12.LifeTells', WHERE WHAT IT READS IS OF BULK AT MOST 1048576: true; the input reads as it did. -/
def lifeTellsUptoRow : OpenClaim := { program := "ytkppbflmlpabjaa", sum := "ed661e7fa1418c0783c8c8d1e610bacca942641d80c40c6ff45903f1c89e30e3", func := "klaxon/klaxonlaw12.LifeTells", spec := "lifeTells", recurses := true, apart := false, narrowed := true }
def LifeTellsUptoSaid : Prop := lifeTellsUptoRow.holds Try.pinned (OpenSpec.upto lifeTellsSpec)

/-- 'klaxonlaw12.LifeMore', WHERE WHAT IT READS IS OF BULK AT MOST 1048576: true; the input reads as it did. -/
def lifeMoreUptoRow : OpenClaim := { program := "ytkppbflmlpabjaa", sum := "ed661e7fa1418c0783c8c8d1e610bacca942641d80c40c6ff45903f1c89e30e3", func := "klaxon/klaxonlaw12.LifeMore", spec := "lifeMore", apart := false, narrowed := true }
def LifeMoreUptoSaid : Prop := lifeMoreUptoRow.holds Try.pinned (OpenSpec.upto lifeMoreSpec)

/-- 'klaxonlaw12.LifeTurns', WHERE WHAT IT READS IS OF BULK AT MOST 1048576: true; the input reads as it did. -/
def lifeTurnsUptoRow : OpenClaim := { program := "ytkppbflmlpabjaa", sum := "ed661e7fa1418c0783c8c8d1e610bacca942641d80c40c6ff45903f1c89e30e3", func := "klaxon/klaxonlaw12.LifeTurns", spec := "lifeTurns", apart := false, narrowed := true }
def LifeTurnsUptoSaid : Prop := lifeTurnsUptoRow.holds Try.pinned (OpenSpec.upto lifeTurnsSpec)

/-- 'klaxonlaw12.LifeParts', WHERE WHAT IT READS IS OF BULK AT MOST 1048576: true; the input reads as it did. -/
def lifePartsUptoRow : OpenClaim := { program := "ytkppbflmlpabjaa", sum := "ed661e7fa1418c0783c8c8d1e610bacca942641d80c40c6ff45903f1c89e30e3", func := "klaxon/klaxonlaw12.LifeParts", spec := "lifeParts", apart := false, narrowed := true }
def LifePartsUptoSaid : Prop := lifePartsUptoRow.holds Try.pinned (OpenSpec.upto lifePartsSpec)

/-- 'klaxonlaw12.LifeScales', WHERE WHAT IT READS IS OF BULK AT MOST 1048576: true; the input reads as it did. -/
def lifeScalesUptoRow : OpenClaim := { program := "ytkppbflmlpabjaa", sum := "ed661e7fa1418c0783c8c8d1e610bacca942641d80c40c6ff45903f1c89e30e3", func := "klaxon/klaxonlaw12.LifeScales", spec := "lifeScales", apart := false, narrowed := true }
def LifeScalesUptoSaid : Prop := lifeScalesUptoRow.holds Try.pinned (OpenSpec.upto lifeScalesSpec)

/-- 'klaxonlaw1.NumTells', WHERE WHAT IT READS IS OF BULK AT MOST 1048576: true; the input reads as it did. -/
def numTellsUptoRow : OpenClaim := { program := "ytkppbflmlpabjaa", sum := "ed661e7fa1418c0783c8c8d1e610bacca942641d80c40c6ff45903f1c89e30e3", func := "klaxon/klaxonlaw1.NumTells", spec := "numTells", apart := false, narrowed := true }
def NumTellsUptoSaid : Prop := numTellsUptoRow.holds Try.pinned (OpenSpec.upto numTellsSpec)

/-- 'klaxonlaw1.NumOrder', WHERE WHAT IT READS IS OF BULK AT MOST 1048576: true; the input reads as it did. -/
def numOrderUptoRow : OpenClaim := { program := "ytkppbflmlpabjaa", sum := "ed661e7fa1418c0783c8c8d1e610bacca942641d80c40c6ff45903f1c89e30e3", func := "klaxon/klaxonlaw1.NumOrder", spec := "numOrder", apart := false, narrowed := true }
def NumOrderUptoSaid : Prop := numOrderUptoRow.holds Try.pinned (OpenSpec.upto numOrderSpec)

/-- 'klaxonlaw1.NumLaws', WHERE WHAT IT READS IS OF BULK AT MOST 1048576: true; the input reads as it did. -/
def numLawsUptoRow : OpenClaim := { program := "ytkppbflmlpabjaa", sum := "ed661e7fa1418c0783c8c8d1e610bacca942641d80c40c6ff45903f1c89e30e3", func := "klaxon/klaxonlaw1.NumLaws", spec := "numLaws", apart := false, narrowed := true }
def NumLawsUptoSaid : Prop := numLawsUptoRow.holds Try.pinned (OpenSpec.upto numLawsSpec)

/-- 'klaxonlaw20.GroupRuns', WHERE WHAT IT READS IS OF BULK AT MOST 1048576: true; the input reads as it did. -/
def groupRunsUptoRow : OpenClaim := { program := "ytkppbflmlpabjaa", sum := "ed661e7fa1418c0783c8c8d1e610bacca942641d80c40c6ff45903f1c89e30e3", func := "klaxon/klaxonlaw20.GroupRuns", spec := "groupRuns", apart := false, narrowed := true }
def GroupRunsUptoSaid : Prop := groupRunsUptoRow.holds Try.pinned (OpenSpec.upto groupRunsSpec)

end Rows
end Go.Proofs.Ytkppbflmlpabjaa
