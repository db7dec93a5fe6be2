/- MatchRuns, a closed sentence, reckoned: it returns true. Conditions: none. -/
import Derived.Test.YtmlmbjgnfobhcaaDoorLib
namespace Go.Proofs.YtmlmbjgnfobhcaaDoor.Ev
open Go.Ev
theorem runsMatchRuns : (evCall (fnsOf Tryd.prog kinds) S 300 4 [] []).run = some (.d (.bool true), []) := by kernel_rfl
theorem rowMatchRuns (W : World) : Calls Tryd.prog 4 #[] W fun e w' => e = .returned (.bool true) ∧ RowKit.Below W.heap.size W w' := closed_law mixed S_ok runsMatchRuns W ⟨trivial, fun _ h => h.elim⟩
end Go.Proofs.YtmlmbjgnfobhcaaDoor.Ev
