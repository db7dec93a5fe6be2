/- BlockRuns, a closed sentence, reckoned: it returns true. No condition. -/
import Derived.Test.YtmlmbjgnfobhcaaProg
import Derived.Test.YtmlmbjgnfobhcaaEvZc
import Derived.KernelRfl
namespace Go.Proofs.Ytmlmbjgnfobhcaa.Block
open Go.Ev
theorem mixed : Try.prog.follows .mixedOrders = true := by kernel_rfl
theorem clone11 : CallAt Try.prog 11 (plainS (cloneG (.pair (.int .i64) (.int .i64)) 16)) :=
  clone_at mixed 26 26 25 (.pair (.int .i64) (.int .i64)) 16 Try.func11 (by kernel_rfl) (by kernel_rfl) (by kernel_rfl) (by kernel_rfl) (by kernel_rfl) (by kernel_rfl) (by kernel_rfl) (by kernel_rfl) (by kernel_rfl) (by kernel_rfl) (by kernel_rfl) (by kernel_rfl) (by kernel_rfl) (by kernel_rfl) (by kernel_rfl) (by kernel_rfl) (by kernel_rfl) (by kernel_rfl) (by kernel_rfl)
def S : FuncId → Option (List AV → Boxes → M (AV × Boxes)) := fun f => if f = 11 then some (plainS (cloneG (.pair (.int .i64) (.int .i64)) 16)) else none
theorem S_ok : ∀ f s, S f = some s → CallAt Try.prog f s := by
  intro f s h
  unfold S at h
  split at h
  · rename_i e; subst e; cases h; exact clone11
  · cases h
def kinds : FuncId → Bool × Bool := fun f => (!(f == 7), false)
theorem runs : (evCall (fnsOf Try.prog kinds) S 300 3 [] []).run = some (.d (.bool true), []) := by kernel_rfl
theorem runs_row (W : World) : Calls Try.prog 3 #[] W fun e w' => e = .returned (.bool true) ∧ RowKit.Below W.heap.size W w' := closed_law mixed S_ok runs W
end Go.Proofs.Ytmlmbjgnfobhcaa.Block
