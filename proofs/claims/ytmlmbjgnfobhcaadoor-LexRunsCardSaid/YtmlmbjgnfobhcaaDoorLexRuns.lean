/- LexRuns, a closed sentence, reckoned: it returns true. Conditions: none. -/
import Derived.Test.YtmlmbjgnfobhcaaDoorLibS
namespace Go.Proofs.YtmlmbjgnfobhcaaDoor.EvS
open Go.Ev
theorem runsLexRuns : (evCall (fnsOf Tryd.prog kinds) S 300 7 [] []).run = some (.d (.bool true), []) := by kernel_rfl
theorem rowLexRuns (W : World) (hI : StrconvInv Tryd.prog 4 5 W) : Calls Tryd.prog 7 #[] W fun e w' => e = .returned (.bool true) ∧ RowKit.Below W.heap.size W w' := closed_law mixed S_ok runsLexRuns W ⟨hI, StrconvInv.lt gPow hI⟩
end Go.Proofs.YtmlmbjgnfobhcaaDoor.EvS
