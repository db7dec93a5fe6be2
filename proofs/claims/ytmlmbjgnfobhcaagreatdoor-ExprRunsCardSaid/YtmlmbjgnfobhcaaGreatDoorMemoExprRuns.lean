/- Calls over plain data, each reckoned once. Conditions: none. -/
import Derived.Test.YtmlmbjgnfobhcaaGreatDoorLibS
import Derived.Test.YtmlmbjgnfobhcaaGreatDoorEvZg
namespace Go.Proofs.YtmlmbjgnfobhcaaGreatDoor.EvS.ExprRuns
open Go.Ev
set_option maxRecDepth 100000
def r0_0 : AV := (.tup [(.d (.sl (.pair (.int .i64) (.pair (.int .i64) (.pair (.int .i64) .str))) [((4 : Int), ((0 : Int), ((0 : Int), ([40] : List UInt8)))), ((2 : Int), ((0 : Int), ((1 : Int), ([115, 117, 109] : List UInt8)))), ((2 : Int), ((0 : Int), ((5 : Int), ([98, 121] : List UInt8)))), ((4 : Int), ((0 : Int), ((8 : Int), ([40] : List UInt8)))), ((2 : Int), ((0 : Int), ((9 : Int), ([97] : List UInt8)))), ((4 : Int), ((0 : Int), ((10 : Int), ([41] : List UInt8)))), ((4 : Int), ((0 : Int), ((12 : Int), ([40] : List UInt8)))), ((4 : Int), ((0 : Int), ((13 : Int), ([123] : List UInt8)))), ((2 : Int), ((0 : Int), ((14 : Int), ([110, 97, 109, 101] : List UInt8)))), ((4 : Int), ((0 : Int), ((18 : Int), ([61] : List UInt8)))), ((3 : Int), ((0 : Int), ((19 : Int), ([109] : List UInt8)))), ((4 : Int), ((0 : Int), ((22 : Int), ([125] : List UInt8)))), ((4 : Int), ((0 : Int), ((23 : Int), ([91] : List UInt8)))), ((1 : Int), ((10 : Int), ((24 : Int), ([] : List UInt8)))), ((4 : Int), ((0 : Int), ((26 : Int), ([93] : List UInt8)))), ((4 : Int), ((0 : Int), ((27 : Int), ([41] : List UInt8)))), ((4 : Int), ((0 : Int), ((29 : Int), ([62] : List UInt8)))), ((1 : Int), ((5 : Int), ((31 : Int), ([] : List UInt8)))), ((4 : Int), ((0 : Int), ((32 : Int), ([41] : List UInt8))))])), (.d (.int .i64 (0))), (.d (.int .i64 (0)))])
theorem k0_0 : Known Tryz.prog 44 [(.str [40, 115, 117, 109, 32, 98, 121, 32, 40, 97, 41, 32, 40, 123, 110, 97, 109, 101, 61, 34, 109, 34, 125, 91, 49, 48, 93, 41, 32, 62, 32, 53, 41])] r0_0 := known mixed (kinds := kinds) (n := 300) S_ok (by kernel_rfl)
def r0_1 : AV := (.tup [(.d (.sl (.pair (.int .i64) (.pair (.int .i64) (.pair (.int .i64) .str))) [((4 : Int), ((0 : Int), ((0 : Int), ([40] : List UInt8)))), ((1 : Int), ((1 : Int), ((1 : Int), ([] : List UInt8)))), ((4 : Int), ((0 : Int), ((3 : Int), ([43] : List UInt8)))), ((1 : Int), ((2 : Int), ((5 : Int), ([] : List UInt8)))), ((4 : Int), ((0 : Int), ((6 : Int), ([41] : List UInt8))))])), (.d (.int .i64 (0))), (.d (.int .i64 (0)))])
theorem k0_1 : Known Tryz.prog 44 [(.str [40, 49, 32, 43, 32, 50, 41])] r0_1 := known mixed (kinds := kinds) (n := 300) S_ok (by kernel_rfl)
def r0_2 : AV := (.tup [(.d (.sl (.pair (.int .i64) (.pair (.int .i64) (.pair (.int .i64) .str))) [((4 : Int), ((0 : Int), ((0 : Int), ([40] : List UInt8)))), ((1 : Int), ((1 : Int), ((1 : Int), ([] : List UInt8)))), ((4 : Int), ((0 : Int), ((3 : Int), ([62] : List UInt8)))), ((4 : Int), ((0 : Int), ((5 : Int), ([123] : List UInt8)))), ((4 : Int), ((0 : Int), ((6 : Int), ([125] : List UInt8)))), ((4 : Int), ((0 : Int), ((7 : Int), ([91] : List UInt8)))), ((1 : Int), ((5 : Int), ((8 : Int), ([] : List UInt8)))), ((4 : Int), ((0 : Int), ((9 : Int), ([93] : List UInt8)))), ((4 : Int), ((0 : Int), ((10 : Int), ([41] : List UInt8))))])), (.d (.int .i64 (0))), (.d (.int .i64 (0)))])
theorem k0_2 : Known Tryz.prog 44 [(.str [40, 49, 32, 62, 32, 123, 125, 91, 53, 93, 41])] r0_2 := known mixed (kinds := kinds) (n := 300) S_ok (by kernel_rfl)
def r0_3 : AV := (.tup [(.d (.sl (.pair (.int .i64) (.pair (.int .i64) (.pair (.int .i64) .str))) [((4 : Int), ((0 : Int), ((0 : Int), ([40] : List UInt8)))), ((1 : Int), ((1 : Int), ((1 : Int), ([] : List UInt8)))), ((4 : Int), ((0 : Int), ((3 : Int), ([43] : List UInt8))))])), (.d (.int .i64 (0))), (.d (.int .i64 (0)))])
theorem k0_3 : Known Tryz.prog 44 [(.str [40, 49, 32, 43, 32])] r0_3 := known mixed (kinds := kinds) (n := 300) S_ok (by kernel_rfl)
def m0 : List (List D × AV) := [([(.str [40, 115, 117, 109, 32, 98, 121, 32, 40, 97, 41, 32, 40, 123, 110, 97, 109, 101, 61, 34, 109, 34, 125, 91, 49, 48, 93, 41, 32, 62, 32, 53, 41])], r0_0), ([(.str [40, 49, 32, 43, 32, 50, 41])], r0_1), ([(.str [40, 49, 32, 62, 32, 123, 125, 91, 53, 93, 41])], r0_2), ([(.str [40, 49, 32, 43, 32])], r0_3)]
theorem m0_ok : ∀ p, p ∈ m0 → Known Tryz.prog 44 p.1 p.2 := by
  intro p hp
  simp only [m0, List.mem_cons, List.not_mem_nil, or_false] at hp
  rcases hp with rfl | rfl | rfl | rfl
  · exact k0_0
  · exact k0_1
  · exact k0_2
  · exact k0_3
def S0 : FuncId → Option (List AV → Boxes → M (AV × Boxes)) := fun f => if f = 44 then some (plainV (memoG m0)) else S f
theorem S0_ok : ∀ f s, S0 f = some s → CallAt Tryz.prog f s := by
  intro f s h
  unfold S0 at h
  split at h
  · rename_i e; subst e; cases h; exact memo_at m0_ok
  · exact S_ok f s h
def r1_0 : AV := (.tup [(.agg [(.d (.int .i64 (12))), (.d (.int .i64 (0))), (.d .nils), (.d .nils), (.d (.sl (.rose (.pair (.int .i64) (.pair (.int .i64) (.pair (.sl (.pair .str (.pair .str (.int .i64)))) (.sl .str))))) [(Rose.mk ((17 : Int), ((0 : Int), ([], [([97] : List UInt8)]))) [(Rose.mk ((2 : Int), ((10 : Int), ([(([110, 97, 109, 101] : List UInt8), (([109] : List UInt8), (1 : Int)))], []))) [])]), (Rose.mk ((1 : Int), ((5 : Int), ([], []))) [])]))]), (.d (.int .i64 (0))), (.d (.int .i64 (0)))])
theorem k1_0 : Known Tryz.prog 16 [(.str [40, 115, 117, 109, 32, 98, 121, 32, 40, 97, 41, 32, 40, 123, 110, 97, 109, 101, 61, 34, 109, 34, 125, 91, 49, 48, 93, 41, 32, 62, 32, 53, 41])] r1_0 := known mixed (kinds := kinds) (n := 300) S0_ok (by kernel_rfl)
def r1_1 : AV := (.tup [(.agg [(.d (.int .i64 (3))), (.d (.int .i64 (0))), (.d .nils), (.d .nils), (.d (.sl (.rose (.pair (.int .i64) (.pair (.int .i64) (.pair (.sl (.pair .str (.pair .str (.int .i64)))) (.sl .str))))) [(Rose.mk ((1 : Int), ((1 : Int), ([], []))) []), (Rose.mk ((1 : Int), ((2 : Int), ([], []))) [])]))]), (.d (.int .i64 (0))), (.d (.int .i64 (0)))])
theorem k1_1 : Known Tryz.prog 16 [(.str [40, 49, 32, 43, 32, 50, 41])] r1_1 := known mixed (kinds := kinds) (n := 300) S0_ok (by kernel_rfl)
def r1_2 : AV := (.tup [(.agg [(.d (.int .i64 (0))), (.d (.int .i64 (0))), (.d .nils), (.d .nils), (.d .nils)]), (.d (.int .i64 (0))), (.d (.int .i64 (1)))])
theorem k1_2 : Known Tryz.prog 16 [(.str [40, 49, 32, 62, 32, 123, 125, 91, 53, 93, 41])] r1_2 := known mixed (kinds := kinds) (n := 300) S0_ok (by kernel_rfl)
def r1_3 : AV := (.tup [(.agg [(.d (.int .i64 (0))), (.d (.int .i64 (0))), (.d .nils), (.d .nils), (.d .nils)]), (.d (.int .i64 (5))), (.d (.int .i64 (1)))])
theorem k1_3 : Known Tryz.prog 16 [(.str [40, 49, 32, 43, 32])] r1_3 := known mixed (kinds := kinds) (n := 300) S0_ok (by kernel_rfl)
def m1 : List (List D × AV) := [([(.str [40, 115, 117, 109, 32, 98, 121, 32, 40, 97, 41, 32, 40, 123, 110, 97, 109, 101, 61, 34, 109, 34, 125, 91, 49, 48, 93, 41, 32, 62, 32, 53, 41])], r1_0), ([(.str [40, 49, 32, 43, 32, 50, 41])], r1_1), ([(.str [40, 49, 32, 62, 32, 123, 125, 91, 53, 93, 41])], r1_2), ([(.str [40, 49, 32, 43, 32])], r1_3)]
theorem m1_ok : ∀ p, p ∈ m1 → Known Tryz.prog 16 p.1 p.2 := by
  intro p hp
  simp only [m1, List.mem_cons, List.not_mem_nil, or_false] at hp
  rcases hp with rfl | rfl | rfl | rfl
  · exact k1_0
  · exact k1_1
  · exact k1_2
  · exact k1_3
def S1 : FuncId → Option (List AV → Boxes → M (AV × Boxes)) := fun f => if f = 16 then some (plainV (memoG m1)) else S0 f
theorem S1_ok : ∀ f s, S1 f = some s → CallAt Tryz.prog f s := by
  intro f s h
  unfold S1 at h
  split at h
  · rename_i e; subst e; cases h; exact memo_at m1_ok
  · exact S0_ok f s h
def Sm : FuncId → Option (List AV → Boxes → M (AV × Boxes)) := S1
theorem Sm_ok : ∀ f s, Sm f = some s → CallAt Tryz.prog f s := S1_ok
end Go.Proofs.YtmlmbjgnfobhcaaGreatDoor.EvS.ExprRuns
