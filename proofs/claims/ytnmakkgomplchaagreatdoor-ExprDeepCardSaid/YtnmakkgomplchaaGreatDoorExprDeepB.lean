/- What ExprDeep calls: Within at a number whose result is told, the closed sentence. Conditions: none. -/
import Derived.Test.YtnmakkgomplchaaGreatDoorMemoExprDeep
import Derived.Test.YtnmakkgomplchaaGreatDoorEvZm
import Derived.Test.YtnmakkgomplchaaGreatDoorEvZn
namespace Go.Proofs.YtnmakkgomplchaaGreatDoor.EvS.ExprDeep
open Go.Ev
set_option linter.unusedVariables false
set_option maxRecDepth 100000
theorem runs : Known Tryz.prog 11 [] (.d (.bool true)) := known mixed (kinds := kinds) (n := 300) Sm_ok (by kernel_rfl)
def trueG : List D → M AV
  | [] => .ret (.d (.bool true))
  | _ => .fail
theorem true_at : CallAt Tryz.prog 11 (plainV trueG) := by
  refine plainV_at fun ds r hr => ?_
  unfold trueG at hr
  split at hr
  · simp only [M.run, Option.some.injEq] at hr
    subst hr
    exact runs
  · simp [M.run] at hr
theorem within5 : CallAt Tryz.prog 5 withinS := within_at mixed (kinds := fun _ => (true, false)) (by kernel_rfl)
def Sd (n c : Int) : FuncId → Option (List AV → Boxes → M (AV × Boxes)) := fun f => if f = 5 then some (withinAt n 1 12 c) else if f = 11 then some (plainV trueG) else Sm f
theorem Sd_ok {n c : Int} (h : withinI n 1 12 = c) : ∀ f s, Sd n c f = some s → CallAt Tryz.prog f s := by
  intro f s hs
  unfold Sd at hs
  split at hs
  · rename_i e; subst e; cases hs; exact withinAt_at within5 h rfl
  · split at hs
    · rename_i e; subst e; cases hs; exact true_at
    · exact Sm_ok f s hs
end Go.Proofs.YtnmakkgomplchaaGreatDoor.EvS.ExprDeep
