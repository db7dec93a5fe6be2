/- What is known of Go's library at this program: summaries, each shown. Conditions: none. -/
import Derived.Test.YtnmakkgomplchaaGreatDoorProg
import Derived.Test.YtnmakkgomplchaaGreatDoorEvZf
import Derived.Test.YtnmakkgomplchaaGreatDoorShelf
import Derived.KernelRfl
namespace Go.Proofs.YtnmakkgomplchaaGreatDoor.EvS
open Go.Ev
theorem mixed : Tryz.prog.follows .mixedOrders = true := by kernel_rfl
theorem gPow : Tryz.prog.globalNamed "internal/strconv.uint64pow10" = some 0 := by kernel_rfl
theorem gSyn : Tryz.prog.globalNamed "strconv.ErrSyntax" = some 4 := by kernel_rfl
theorem gRan : Tryz.prog.globalNamed "strconv.ErrRange" = some 5 := by kernel_rfl
instance ctx : Ctx := ⟨fun t e => t = .int .u8 → e = 5, fun c => c = 0 ∨ c = 4 ∨ c = 5, StrconvInv Tryz.prog 4 5, StrconvInv.stays gPow⟩
instance tagOK : TagOK Tryz.prog := tagOK_of (u := 5) (fun _ _ => Iff.rfl) (by kernel_rfl)
def kinds : FuncId → Bool × Bool := fun f => (true, f == 89)
theorem libstringsTrim : CallAt Tryz.prog 39 (plainV trimG) := trim_at Tryz.func39 (by kernel_rfl) (by kernel_rfl) Tryz.strings_Trim_set
theorem libstringsTrimLeft : CallAt Tryz.prog 92 (plainV trimLeftG) := trimLeft_at Tryz.func92 (by kernel_rfl) (by kernel_rfl) Tryz.strings_TrimLeft_set
theorem libstringsJoin : CallAt Tryz.prog 35 (plainV joinG) := join_at Tryz.func35 (by kernel_rfl) (by kernel_rfl) Tryz.strings_Join_none Tryz.strings_Join
theorem libCopyCheck : CallAt Tryz.prog 69 (copyCheckS 80) := copyCheck_at Tryz.func69 (by kernel_rfl) (by kernel_rfl) (fun b w h1 h2 h3 => Any.Builder_copyCheck_fresh Tryz.lays240 Tryz.Builder_X72_240 b w h1 h2 h3) (fun b w h => Any.Builder_copyCheck_used Tryz.lays240 Tryz.Builder_X72_240 b w h)
theorem libstrconvItoa : CallAt Tryz.prog 32 (plainV itoaG) := itoa_at Tryz.func32 (by kernel_rfl) (by kernel_rfl) (fun _ h => h.1) Tryz.strconv_Itoa
theorem libstrconvAtoi : CallAt Tryz.prog 72 (plainV (atoiG 135)) := atoi_at Tryz.func72 (by kernel_rfl) (by kernel_rfl) (fun _ h => h.2) Tryz.strconv_Atoi_ok Tryz.strconv_Atoi_syntax Tryz.strconv_Atoi_range
def S : FuncId → Option (List AV → Boxes → M (AV × Boxes)) := fun f => if f = 39 then some (plainV trimG) else if f = 92 then some (plainV trimLeftG) else if f = 35 then some (plainV joinG) else if f = 69 then some (copyCheckS 80) else if f = 32 then some (plainV itoaG) else if f = 72 then some (plainV (atoiG 135)) else none
theorem S_ok : ∀ f s, S f = some s → CallAt Tryz.prog f s := by
  intro f s h
  unfold S at h
  split at h
  · rename_i e; subst e; cases h; exact libstringsTrim
  split at h
  · rename_i e; subst e; cases h; exact libstringsTrimLeft
  split at h
  · rename_i e; subst e; cases h; exact libstringsJoin
  split at h
  · rename_i e; subst e; cases h; exact libCopyCheck
  split at h
  · rename_i e; subst e; cases h; exact libstrconvItoa
  split at h
  · rename_i e; subst e; cases h; exact libstrconvAtoi
  cases h
end Go.Proofs.YtnmakkgomplchaaGreatDoor.EvS
