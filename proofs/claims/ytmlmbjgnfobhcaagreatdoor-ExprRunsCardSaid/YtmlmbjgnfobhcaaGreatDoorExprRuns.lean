/- ExprRuns, a closed sentence, reckoned: it returns true. Conditions: none. -/
import Derived.Test.YtmlmbjgnfobhcaaGreatDoorMemoExprRuns
namespace Go.Proofs.YtmlmbjgnfobhcaaGreatDoor.EvS
open Go.Ev
theorem runsExprRuns : (evCall (fnsOf Tryz.prog kinds) ExprRuns.Sm 300 4 [] []).run = some (.d (.bool true), []) := by kernel_rfl
theorem rowExprRuns (W : World) (hI : StrconvInv Tryz.prog 4 5 W) : Calls Tryz.prog 4 #[] W fun e w' => e = .returned (.bool true) ∧ RowKit.Below W.heap.size W w' := closed_law mixed ExprRuns.Sm_ok runsExprRuns W ⟨hI, StrconvInv.lt gPow hI⟩
end Go.Proofs.YtmlmbjgnfobhcaaGreatDoor.EvS
