/- LsetRuns, a closed sentence, reckoned: it returns true. Conditions: none. -/
import Derived.Test.YtmlmbjgnfobhcaaDoorLib
namespace Go.Proofs.YtmlmbjgnfobhcaaDoor.Ev
open Go.Ev
theorem runsLsetRuns : (evCall (fnsOf Tryd.prog kinds) S 300 5 [] []).run = some (.d (.bool true), []) := by kernel_rfl
theorem rowLsetRuns (W : World) : Calls Tryd.prog 5 #[] W fun e w' => e = .returned (.bool true) ∧ RowKit.Below W.heap.size W w' := closed_law mixed S_ok runsLsetRuns W ⟨trivial, fun _ h => h.elim⟩
end Go.Proofs.YtmlmbjgnfobhcaaDoor.Ev
