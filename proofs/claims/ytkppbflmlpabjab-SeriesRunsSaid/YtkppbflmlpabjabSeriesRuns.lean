/- SeriesRuns, a closed sentence, reckoned: it returns true. No condition. -/
import Derived.Test.YtkppbflmlpabjabProg
import Derived.Test.YtkppbflmlpabjabEvZc
import Derived.KernelRfl
namespace Go.Proofs.Ytkppbflmlpabjab.Series
open Go.Ev
theorem mixed : Try.prog.follows .mixedOrders = true := by kernel_rfl
theorem clone44 : CallAt Try.prog 44 (plainS (cloneG .str 16)) :=
  clone_at mixed 28 28 9 .str 16 Try.func44 (by kernel_rfl) (by kernel_rfl) (by kernel_rfl) (by kernel_rfl) (by kernel_rfl) (by kernel_rfl) (by kernel_rfl) (by kernel_rfl) (by kernel_rfl) (by kernel_rfl) (by kernel_rfl) (by kernel_rfl) (by kernel_rfl) (by kernel_rfl) (by kernel_rfl) (by kernel_rfl) (by kernel_rfl) (by kernel_rfl) (by kernel_rfl)
theorem clone45 : CallAt Try.prog 45 (plainS (cloneG (.pair (.int .i64) (.int .i64)) 16)) :=
  clone_at mixed 49 49 55 (.pair (.int .i64) (.int .i64)) 16 Try.func45 (by kernel_rfl) (by kernel_rfl) (by kernel_rfl) (by kernel_rfl) (by kernel_rfl) (by kernel_rfl) (by kernel_rfl) (by kernel_rfl) (by kernel_rfl) (by kernel_rfl) (by kernel_rfl) (by kernel_rfl) (by kernel_rfl) (by kernel_rfl) (by kernel_rfl) (by kernel_rfl) (by kernel_rfl) (by kernel_rfl) (by kernel_rfl)
def S : FuncId → Option (List AV → Boxes → M (AV × Boxes)) := fun f => if f = 44 then some (plainS (cloneG .str 16)) else if f = 45 then some (plainS (cloneG (.pair (.int .i64) (.int .i64)) 16)) else none
theorem S_ok : ∀ f s, S f = some s → CallAt Try.prog f s := by
  intro f s h
  unfold S at h
  split at h
  · rename_i e; subst e; cases h; exact clone44
  · split at h
    · rename_i e; subst e; cases h; exact clone45
    · cases h
def kinds : FuncId → Bool × Bool := fun f => (true, f == 47)
theorem runs : (evCall (fnsOf Try.prog kinds) S 300 7 [] []).run = some (.d (.bool true), []) := by kernel_rfl
theorem runs_row (W : World) : Calls Try.prog 7 #[] W fun e w' => e = .returned (.bool true) ∧ RowKit.Below W.heap.size W w' := closed_law mixed S_ok runs W
end Go.Proofs.Ytkppbflmlpabjab.Series
