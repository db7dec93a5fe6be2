/- What is known of Go's library at this program: summaries, each shown. Conditions: none. -/
import Derived.Test.YtmlmbjgnfobhcaaGreatDoorProg
import Derived.Test.YtmlmbjgnfobhcaaGreatDoorEvZf
import Derived.Test.YtmlmbjgnfobhcaaGreatDoorShelf
import Derived.KernelRfl
namespace Go.Proofs.YtmlmbjgnfobhcaaGreatDoor.EvS
open Go.Ev
theorem mixed : Tryz.prog.follows .mixedOrders = true := by kernel_rfl
theorem gPow : Tryz.prog.globalNamed "internal/strconv.uint64pow10" = some 3 := by kernel_rfl
theorem gSyn : Tryz.prog.globalNamed "strconv.ErrSyntax" = some 4 := by kernel_rfl
theorem gRan : Tryz.prog.globalNamed "strconv.ErrRange" = some 5 := by kernel_rfl
instance ctx : Ctx := ⟨fun t e => t = .int .u8 → e = 5, fun c => c = 3 ∨ c = 4 ∨ c = 5, StrconvInv Tryz.prog 4 5, StrconvInv.stays gPow⟩
instance tagOK : TagOK Tryz.prog := tagOK_of (u := 5) (fun _ _ => Iff.rfl) (by kernel_rfl)
theorem clone37 : CallAt Tryz.prog 37 (plainS (cloneG (.int .u8) 1)) :=
  clone_at mixed 42 42 5 (.int .u8) 1 Tryz.func37 (by kernel_rfl) (by kernel_rfl) (by kernel_rfl) (by kernel_rfl) (by kernel_rfl) (by kernel_rfl) (by kernel_rfl) (by kernel_rfl) (by kernel_rfl) (by kernel_rfl) (by kernel_rfl) (by kernel_rfl) (by kernel_rfl) (by kernel_rfl) (by kernel_rfl) (by kernel_rfl) (by kernel_rfl) (by kernel_rfl) (by kernel_rfl)
theorem clone65 : CallAt Tryz.prog 65 (plainS (cloneG (.pair .str .str) 32)) :=
  clone_at mixed 30 30 29 (.pair .str .str) 32 Tryz.func65 (by kernel_rfl) (by kernel_rfl) (by kernel_rfl) (by kernel_rfl) (by kernel_rfl) (by kernel_rfl) (by kernel_rfl) (by kernel_rfl) (by kernel_rfl) (by kernel_rfl) (by kernel_rfl) (by kernel_rfl) (by kernel_rfl) (by kernel_rfl) (by kernel_rfl) (by kernel_rfl) (by kernel_rfl) (by kernel_rfl) (by kernel_rfl)
theorem clone76 : CallAt Tryz.prog 76 (plainS (cloneG (.pair (.int .i64) (.int .i64)) 16)) :=
  clone_at mixed 39 39 33 (.pair (.int .i64) (.int .i64)) 16 Tryz.func76 (by kernel_rfl) (by kernel_rfl) (by kernel_rfl) (by kernel_rfl) (by kernel_rfl) (by kernel_rfl) (by kernel_rfl) (by kernel_rfl) (by kernel_rfl) (by kernel_rfl) (by kernel_rfl) (by kernel_rfl) (by kernel_rfl) (by kernel_rfl) (by kernel_rfl) (by kernel_rfl) (by kernel_rfl) (by kernel_rfl) (by kernel_rfl)
theorem libstringsTrim : CallAt Tryz.prog 53 (plainV trimG) := trim_at Tryz.func53 (by kernel_rfl) (by kernel_rfl) Tryz.strings_Trim_set
theorem libstringsTrimLeft : CallAt Tryz.prog 168 (plainV trimLeftG) := trimLeft_at Tryz.func168 (by kernel_rfl) (by kernel_rfl) Tryz.strings_TrimLeft_set
theorem libstringsCompare : CallAt Tryz.prog 110 (plainV compareG) := compare_at Tryz.func110 (by kernel_rfl) (by kernel_rfl) Tryz.strings_Compare
theorem libstringsJoin : CallAt Tryz.prog 86 (plainV joinG) := join_at Tryz.func86 (by kernel_rfl) (by kernel_rfl) Tryz.strings_Join_none Tryz.strings_Join
theorem libCopyCheck : CallAt Tryz.prog 100 (copyCheckS 106) := copyCheck_at Tryz.func100 (by kernel_rfl) (by kernel_rfl) (fun b w h1 h2 h3 => Any.Builder_copyCheck_fresh Tryz.lays240 Tryz.Builder_X72_240 b w h1 h2 h3) (fun b w h => Any.Builder_copyCheck_used Tryz.lays240 Tryz.Builder_X72_240 b w h)
theorem libstrconvItoa : CallAt Tryz.prog 55 (plainV itoaG) := itoa_at Tryz.func55 (by kernel_rfl) (by kernel_rfl) (fun _ h => h.1) Tryz.strconv_Itoa
theorem libstrconvAtoi : CallAt Tryz.prog 145 (plainV (atoiG 225)) := atoi_at Tryz.func145 (by kernel_rfl) (by kernel_rfl) (fun _ h => h.2) Tryz.strconv_Atoi_ok Tryz.strconv_Atoi_syntax Tryz.strconv_Atoi_range
def S : FuncId → Option (List AV → Boxes → M (AV × Boxes)) := fun f => if f = 37 then some (plainS (cloneG (.int .u8) 1)) else if f = 65 then some (plainS (cloneG (.pair .str .str) 32)) else if f = 76 then some (plainS (cloneG (.pair (.int .i64) (.int .i64)) 16)) else if f = 53 then some (plainV trimG) else if f = 168 then some (plainV trimLeftG) else if f = 110 then some (plainV compareG) else if f = 86 then some (plainV joinG) else if f = 100 then some (copyCheckS 106) else if f = 55 then some (plainV itoaG) else if f = 145 then some (plainV (atoiG 225)) else none
theorem S_ok : ∀ f s, S f = some s → CallAt Tryz.prog f s := by
  intro f s h
  unfold S at h
  split at h
  · rename_i e; subst e; cases h; exact clone37
  split at h
  · rename_i e; subst e; cases h; exact clone65
  split at h
  · rename_i e; subst e; cases h; exact clone76
  split at h
  · rename_i e; subst e; cases h; exact libstringsTrim
  split at h
  · rename_i e; subst e; cases h; exact libstringsTrimLeft
  split at h
  · rename_i e; subst e; cases h; exact libstringsCompare
  split at h
  · rename_i e; subst e; cases h; exact libstringsJoin
  split at h
  · rename_i e; subst e; cases h; exact libCopyCheck
  split at h
  · rename_i e; subst e; cases h; exact libstrconvItoa
  split at h
  · rename_i e; subst e; cases h; exact libstrconvAtoi
  cases h
def kinds : FuncId → Bool × Bool := fun f => (!(f == 42), f == 66 || f == 131)
end Go.Proofs.YtmlmbjgnfobhcaaGreatDoor.EvS
