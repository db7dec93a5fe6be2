/- SeriesRuns, reckoned. -/
import Derived.Test.YtkppbflmlpabjabEd
import Derived.KernelRfl
namespace Go.Proofs.Ytkppbflmlpabjab.Dec
open Go.Ev
set_option linter.unusedVariables false
set_option linter.unusedSimpArgs false
set_option maxRecDepth 100000
theorem clone45p : CallAt Try.prog 45 (plainS (cloneG (.pair (.int .i64) (.int .i64)) 16)) := clone_at mixed 49 49 55 (.pair (.int .i64) (.int .i64)) 16 Try.func45 (by kernel_rfl) (by kernel_rfl) (by kernel_rfl) (by kernel_rfl) (by kernel_rfl) (by kernel_rfl) (by kernel_rfl) (by kernel_rfl) (by kernel_rfl) (by kernel_rfl) (by kernel_rfl) (by kernel_rfl) (by kernel_rfl) (by kernel_rfl) (by kernel_rfl) (by kernel_rfl) (by kernel_rfl) (by kernel_rfl) (by kernel_rfl) 
def Sr : FuncId → Option (List AV → Boxes → M (AV × Boxes)) := fun f => if f = 45 then some (plainS (cloneG (.pair (.int .i64) (.int .i64)) 16)) else none
set_option maxHeartbeats 20000000 in
theorem Sr_ok : ∀ f s, Sr f = some s → CallAt Try.prog f s := by
  intro f s h
  unfold Sr at h
  split at h
  · rename_i e; subst e; cases h; exact clone45p
  · cases h
theorem runs7 : Known Try.prog 7 [] (.d (.bool true)) := known mixed (kinds := fun f => (true, f == 47)) (n := 300) Sr_ok (by kernel_rfl)
def trueG : List D → M AV
  | [] => .ret (.d (.bool true))
  | _ => .fail
theorem true7 : CallAt Try.prog 7 (plainV trueG) := by
  refine plainV_at fun ds r hr => ?_
  unfold trueG at hr
  split at hr
  · simp only [M.run, Option.some.injEq] at hr
    subst hr
    exact runs7
  · simp [M.run] at hr

noncomputable def S7 : FuncId → Option (List AV → Boxes → M (AV × Boxes)) := fun f => if f = 7 then some (plainV trueG) else S6 f
set_option maxHeartbeats 20000000 in
theorem S7_ok : ∀ f s, S7 f = some s → CallAt Try.prog f s := by
  intro f s h
  unfold S7 at h
  split at h
  · rename_i e; subst e; cases h; exact true7
  · exact S6_ok f s h

end Go.Proofs.Ytkppbflmlpabjab.Dec
