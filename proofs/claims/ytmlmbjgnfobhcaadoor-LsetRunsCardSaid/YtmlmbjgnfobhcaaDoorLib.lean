/- What is known of Go's library at this program: summaries, each shown. Conditions: none. -/
import Derived.Test.YtmlmbjgnfobhcaaDoorProg
import Derived.Test.YtmlmbjgnfobhcaaDoorEvZe
import Derived.Test.YtmlmbjgnfobhcaaDoorEvZj
import Derived.Test.YtmlmbjgnfobhcaaDoorShelf
import Derived.KernelRfl
namespace Go.Proofs.YtmlmbjgnfobhcaaDoor.Ev
open Go.Ev
theorem mixed : Tryd.prog.follows .mixedOrders = true := by kernel_rfl
instance ctx : Ctx := ⟨fun t e => t = .int .u8 → e = 5, fun _ => False, fun _ => True, fun _ _ _ h => h⟩
instance tagOK : TagOK Tryd.prog := tagOK_of (u := 5) (fun _ _ => Iff.rfl) (by kernel_rfl)
def kinds : FuncId → Bool × Bool := fun f => (!(f == 42 || f == 45), f == 43 || f == 45 || f == 52 || f == 61 || f == 81 || f == 104 || f == 121 || f == 122 || f == 135 || f == 148)
theorem clone29 : CallAt Tryd.prog 29 (plainS (cloneG (.pair .str .str) 32)) :=
  clone_at mixed 24 24 23 (.pair .str .str) 32 Tryd.func29 (by kernel_rfl) (by kernel_rfl) (by kernel_rfl) (by kernel_rfl) (by kernel_rfl) (by kernel_rfl) (by kernel_rfl) (by kernel_rfl) (by kernel_rfl) (by kernel_rfl) (by kernel_rfl) (by kernel_rfl) (by kernel_rfl) (by kernel_rfl) (by kernel_rfl) (by kernel_rfl) (by kernel_rfl) (by kernel_rfl) (by kernel_rfl)
theorem clone80 : CallAt Tryd.prog 80 (plainS (cloneG (.pair (.sl (.pair .str .str)) (.int .i64)) 32)) :=
  clone_at mixed 50 50 55 (.pair (.sl (.pair .str .str)) (.int .i64)) 32 Tryd.func80 (by kernel_rfl) (by kernel_rfl) (by kernel_rfl) (by kernel_rfl) (by kernel_rfl) (by kernel_rfl) (by kernel_rfl) (by kernel_rfl) (by kernel_rfl) (by kernel_rfl) (by kernel_rfl) (by kernel_rfl) (by kernel_rfl) (by kernel_rfl) (by kernel_rfl) (by kernel_rfl) (by kernel_rfl) (by kernel_rfl) (by kernel_rfl)
theorem libstringsTrim : CallAt Tryd.prog 63 (plainV trimG) := trim_at Tryd.func63 (by kernel_rfl) (by kernel_rfl) Tryd.strings_Trim_set
theorem libstringsTrimLeft : CallAt Tryd.prog 124 (plainV trimLeftG) := trimLeft_at Tryd.func124 (by kernel_rfl) (by kernel_rfl) Tryd.strings_TrimLeft_set
theorem libstringsCompare : CallAt Tryd.prog 105 (plainV compareG) := compare_at Tryd.func105 (by kernel_rfl) (by kernel_rfl) Tryd.strings_Compare
theorem libstringsJoin : CallAt Tryd.prog 37 (plainV joinG) := join_at Tryd.func37 (by kernel_rfl) (by kernel_rfl) Tryd.strings_Join_none Tryd.strings_Join
theorem libCopyCheck : CallAt Tryd.prog 99 (copyCheckS 102) := copyCheck_at Tryd.func99 (by kernel_rfl) (by kernel_rfl) (fun b w h1 h2 h3 => Any.Builder_copyCheck_fresh Tryd.lays240 Tryd.Builder_X72_240 b w h1 h2 h3) (fun b w h => Any.Builder_copyCheck_used Tryd.lays240 Tryd.Builder_X72_240 b w h)
theorem libInsert : CallAt Tryd.prog 45 (insertG (fnsOf Tryd.prog kinds) 45) := insert_at (rot := 73) mixed kinds (by kernel_rfl)
noncomputable def S : FuncId → Option (List AV → Boxes → M (AV × Boxes)) := fun f => if f = 29 then some (plainS (cloneG (.pair .str .str) 32)) else if f = 80 then some (plainS (cloneG (.pair (.sl (.pair .str .str)) (.int .i64)) 32)) else if f = 63 then some (plainV trimG) else if f = 124 then some (plainV trimLeftG) else if f = 105 then some (plainV compareG) else if f = 37 then some (plainV joinG) else if f = 99 then some (copyCheckS 102) else if f = 45 then some (insertG (fnsOf Tryd.prog kinds) 45) else none
theorem S_ok : ∀ f s, S f = some s → CallAt Tryd.prog f s := by
  intro f s h
  unfold S at h
  split at h
  · rename_i e; subst e; cases h; exact clone29
  split at h
  · rename_i e; subst e; cases h; exact clone80
  split at h
  · rename_i e; subst e; cases h; exact libstringsTrim
  split at h
  · rename_i e; subst e; cases h; exact libstringsTrimLeft
  split at h
  · rename_i e; subst e; cases h; exact libstringsCompare
  split at h
  · rename_i e; subst e; cases h; exact libstringsJoin
  split at h
  · rename_i e; subst e; cases h; exact libCopyCheck
  split at h
  · rename_i e; subst e; cases h; exact libInsert
  cases h
end Go.Proofs.YtmlmbjgnfobhcaaDoor.Ev
