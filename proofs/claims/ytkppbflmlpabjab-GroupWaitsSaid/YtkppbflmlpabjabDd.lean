/- GroupRuns, reckoned. -/
import Derived.Test.YtkppbflmlpabjabDc
import Derived.KernelRfl
namespace Go.Proofs.Ytkppbflmlpabjab.Dec
open Go.Ev
set_option linter.unusedVariables false
set_option linter.unusedSimpArgs false
set_option maxRecDepth 100000
theorem runs19 : Known Try.prog 19 [] (.d (.bool true)) := known mixed (kinds := kinds) (n := 300) S2_ok (by kernel_rfl)
def trueG : List D → M AV
  | [] => .ret (.d (.bool true))
  | _ => .fail
theorem true19 : CallAt Try.prog 19 (plainV trueG) := by
  refine plainV_at fun ds r hr => ?_
  unfold trueG at hr
  split at hr
  · simp only [M.run, Option.some.injEq] at hr
    subst hr
    exact runs19
  · simp [M.run] at hr

noncomputable def S5 : FuncId → Option (List AV → Boxes → M (AV × Boxes)) := fun f => if f = 19 then some (plainV trueG) else S4 f
set_option maxHeartbeats 20000000 in
theorem S5_ok : ∀ f s, S5 f = some s → CallAt Try.prog f s := by
  intro f s h
  unfold S5 at h
  split at h
  · rename_i e; subst e; cases h; exact true19
  · exact S4_ok f s h

end Go.Proofs.Ytkppbflmlpabjab.Dec
