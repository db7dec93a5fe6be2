/- Calls over plain data, joined. Conditions: none. -/
import Derived.Test.YtnmakkgomplchaaGreatDoorMemoExprDeepA
import Derived.Test.YtnmakkgomplchaaGreatDoorMemoExprDeepB
import Derived.Test.YtnmakkgomplchaaGreatDoorMemoExprDeepC
import Derived.Test.YtnmakkgomplchaaGreatDoorMemoExprDeepD
import Derived.Test.YtnmakkgomplchaaGreatDoorMemoExprDeepE
import Derived.Test.YtnmakkgomplchaaGreatDoorMemoExprDeepF
namespace Go.Proofs.YtnmakkgomplchaaGreatDoor.EvS.ExprDeep
open Go.Ev
set_option maxRecDepth 100000
def m1 : List (List D × AV) := mA01 ++ (mB01 ++ (mB11 ++ (mB21 ++ (mB31 ++ (mB41 ++ (mC01 ++ (mC11 ++ (mC21 ++ (mC31 ++ (mD01 ++ (mD11 ++ (mD21 ++ (mD31 ++ (mE01 ++ (mE11 ++ (mE21 ++ (mE31 ++ (mE41 ++ (mE51 ++ (mE61 ++ (mF01 ++ (mF11 ++ (mF21 ++ (mF31 ++ (mF41 ++ (mF51))))))))))))))))))))))))))
theorem m1_ok : ∀ p, p ∈ m1 → Known Tryz.prog 14 p.1 p.2 := by
  intro p hp
  rcases List.mem_append.1 hp with hp | hp
  · exact mA01_ok p hp
  rcases List.mem_append.1 hp with hp | hp
  · exact mB01_ok p hp
  rcases List.mem_append.1 hp with hp | hp
  · exact mB11_ok p hp
  rcases List.mem_append.1 hp with hp | hp
  · exact mB21_ok p hp
  rcases List.mem_append.1 hp with hp | hp
  · exact mB31_ok p hp
  rcases List.mem_append.1 hp with hp | hp
  · exact mB41_ok p hp
  rcases List.mem_append.1 hp with hp | hp
  · exact mC01_ok p hp
  rcases List.mem_append.1 hp with hp | hp
  · exact mC11_ok p hp
  rcases List.mem_append.1 hp with hp | hp
  · exact mC21_ok p hp
  rcases List.mem_append.1 hp with hp | hp
  · exact mC31_ok p hp
  rcases List.mem_append.1 hp with hp | hp
  · exact mD01_ok p hp
  rcases List.mem_append.1 hp with hp | hp
  · exact mD11_ok p hp
  rcases List.mem_append.1 hp with hp | hp
  · exact mD21_ok p hp
  rcases List.mem_append.1 hp with hp | hp
  · exact mD31_ok p hp
  rcases List.mem_append.1 hp with hp | hp
  · exact mE01_ok p hp
  rcases List.mem_append.1 hp with hp | hp
  · exact mE11_ok p hp
  rcases List.mem_append.1 hp with hp | hp
  · exact mE21_ok p hp
  rcases List.mem_append.1 hp with hp | hp
  · exact mE31_ok p hp
  rcases List.mem_append.1 hp with hp | hp
  · exact mE41_ok p hp
  rcases List.mem_append.1 hp with hp | hp
  · exact mE51_ok p hp
  rcases List.mem_append.1 hp with hp | hp
  · exact mE61_ok p hp
  rcases List.mem_append.1 hp with hp | hp
  · exact mF01_ok p hp
  rcases List.mem_append.1 hp with hp | hp
  · exact mF11_ok p hp
  rcases List.mem_append.1 hp with hp | hp
  · exact mF21_ok p hp
  rcases List.mem_append.1 hp with hp | hp
  · exact mF31_ok p hp
  rcases List.mem_append.1 hp with hp | hp
  · exact mF41_ok p hp
  exact mF51_ok p hp
def S1 : FuncId → Option (List AV → Boxes → M (AV × Boxes)) := fun f => if f = 14 then some (plainV (memoG m1)) else S f
theorem S1_ok : ∀ f s, S1 f = some s → CallAt Tryz.prog f s := by
  intro f s h
  unfold S1 at h
  split at h
  · rename_i e; subst e; cases h; exact memo_at m1_ok
  · exact S_ok f s h
def m2 : List (List D × AV) := mA02 ++ (mB02 ++ (mB12 ++ (mB22 ++ (mB32 ++ (mB42 ++ (mC02 ++ (mC12 ++ (mC22 ++ (mC32 ++ (mD02 ++ (mD12 ++ (mD22 ++ (mD32 ++ (mE02 ++ (mE12 ++ (mE22 ++ (mE32 ++ (mE42 ++ (mE52 ++ (mE62 ++ (mF02 ++ (mF12 ++ (mF22 ++ (mF32 ++ (mF42 ++ (mF52))))))))))))))))))))))))))
theorem m2_ok : ∀ p, p ∈ m2 → Known Tryz.prog 6 p.1 p.2 := by
  intro p hp
  rcases List.mem_append.1 hp with hp | hp
  · exact mA02_ok p hp
  rcases List.mem_append.1 hp with hp | hp
  · exact mB02_ok p hp
  rcases List.mem_append.1 hp with hp | hp
  · exact mB12_ok p hp
  rcases List.mem_append.1 hp with hp | hp
  · exact mB22_ok p hp
  rcases List.mem_append.1 hp with hp | hp
  · exact mB32_ok p hp
  rcases List.mem_append.1 hp with hp | hp
  · exact mB42_ok p hp
  rcases List.mem_append.1 hp with hp | hp
  · exact mC02_ok p hp
  rcases List.mem_append.1 hp with hp | hp
  · exact mC12_ok p hp
  rcases List.mem_append.1 hp with hp | hp
  · exact mC22_ok p hp
  rcases List.mem_append.1 hp with hp | hp
  · exact mC32_ok p hp
  rcases List.mem_append.1 hp with hp | hp
  · exact mD02_ok p hp
  rcases List.mem_append.1 hp with hp | hp
  · exact mD12_ok p hp
  rcases List.mem_append.1 hp with hp | hp
  · exact mD22_ok p hp
  rcases List.mem_append.1 hp with hp | hp
  · exact mD32_ok p hp
  rcases List.mem_append.1 hp with hp | hp
  · exact mE02_ok p hp
  rcases List.mem_append.1 hp with hp | hp
  · exact mE12_ok p hp
  rcases List.mem_append.1 hp with hp | hp
  · exact mE22_ok p hp
  rcases List.mem_append.1 hp with hp | hp
  · exact mE32_ok p hp
  rcases List.mem_append.1 hp with hp | hp
  · exact mE42_ok p hp
  rcases List.mem_append.1 hp with hp | hp
  · exact mE52_ok p hp
  rcases List.mem_append.1 hp with hp | hp
  · exact mE62_ok p hp
  rcases List.mem_append.1 hp with hp | hp
  · exact mF02_ok p hp
  rcases List.mem_append.1 hp with hp | hp
  · exact mF12_ok p hp
  rcases List.mem_append.1 hp with hp | hp
  · exact mF22_ok p hp
  rcases List.mem_append.1 hp with hp | hp
  · exact mF32_ok p hp
  rcases List.mem_append.1 hp with hp | hp
  · exact mF42_ok p hp
  exact mF52_ok p hp
def S2 : FuncId → Option (List AV → Boxes → M (AV × Boxes)) := fun f => if f = 6 then some (plainV (memoG m2)) else S1 f
theorem S2_ok : ∀ f s, S2 f = some s → CallAt Tryz.prog f s := by
  intro f s h
  unfold S2 at h
  split at h
  · rename_i e; subst e; cases h; exact memo_at m2_ok
  · exact S1_ok f s h
def Sm : FuncId → Option (List AV → Boxes → M (AV × Boxes)) := S2
theorem Sm_ok : ∀ f s, Sm f = some s → CallAt Tryz.prog f s := S2_ok
end Go.Proofs.YtnmakkgomplchaaGreatDoor.EvS.ExprDeep
