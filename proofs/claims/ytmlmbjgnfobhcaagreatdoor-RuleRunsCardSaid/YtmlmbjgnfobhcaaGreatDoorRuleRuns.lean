/- RuleRuns, a closed sentence, reckoned: it returns true. Conditions: none. -/
import Derived.Test.YtmlmbjgnfobhcaaGreatDoorMemoRuleRuns
namespace Go.Proofs.YtmlmbjgnfobhcaaGreatDoor.EvS
open Go.Ev
theorem runsRuleRuns : (evCall (fnsOf Tryz.prog kinds) RuleRuns.Sm 300 5 [] []).run = some (.d (.bool true), []) := by kernel_rfl
theorem rowRuleRuns (W : World) (hI : StrconvInv Tryz.prog 4 5 W) : Calls Tryz.prog 5 #[] W fun e w' => e = .returned (.bool true) ∧ RowKit.Below W.heap.size W w' := closed_law mixed RuleRuns.Sm_ok runsRuleRuns W ⟨hI, StrconvInv.lt gPow hI⟩
end Go.Proofs.YtmlmbjgnfobhcaaGreatDoor.EvS
