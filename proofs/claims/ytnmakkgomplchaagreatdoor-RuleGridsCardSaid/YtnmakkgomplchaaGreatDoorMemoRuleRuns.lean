/- Calls over plain data, each reckoned once. Conditions: none. -/
import Derived.Test.YtnmakkgomplchaaGreatDoorLibS
import Derived.Test.YtnmakkgomplchaaGreatDoorEvZg
namespace Go.Proofs.YtnmakkgomplchaaGreatDoor.EvS.RuleRuns
open Go.Ev
set_option maxRecDepth 100000
def r0x0 : AV := (.tup [(.d (.sl (.pair (.int .i64) (.pair (.int .i64) (.pair (.int .i64) .str))) [((2 : Int), ((0 : Int), ((0 : Int), ([97, 108, 101, 114, 116] : List UInt8)))), ((2 : Int), ((0 : Int), ((6 : Int), ([104, 105, 103, 104] : List UInt8)))), ((2 : Int), ((0 : Int), ((11 : Int), ([102, 111, 114] : List UInt8)))), ((1 : Int), ((60 : Int), ((15 : Int), ([] : List UInt8)))), ((2 : Int), ((0 : Int), ((18 : Int), ([107, 101, 101, 112] : List UInt8)))), ((1 : Int), ((0 : Int), ((23 : Int), ([] : List UInt8)))), ((2 : Int), ((0 : Int), ((25 : Int), ([105, 102] : List UInt8)))), ((4 : Int), ((0 : Int), ((28 : Int), ([40] : List UInt8)))), ((4 : Int), ((0 : Int), ((29 : Int), ([123] : List UInt8)))), ((2 : Int), ((0 : Int), ((30 : Int), ([110, 97, 109, 101] : List UInt8)))), ((4 : Int), ((0 : Int), ((34 : Int), ([61] : List UInt8)))), ((3 : Int), ((0 : Int), ((35 : Int), ([109] : List UInt8)))), ((4 : Int), ((0 : Int), ((38 : Int), ([125] : List UInt8)))), ((4 : Int), ((0 : Int), ((39 : Int), ([91] : List UInt8)))), ((1 : Int), ((30 : Int), ((40 : Int), ([] : List UInt8)))), ((4 : Int), ((0 : Int), ((42 : Int), ([93] : List UInt8)))), ((4 : Int), ((0 : Int), ((44 : Int), ([62] : List UInt8)))), ((1 : Int), ((5 : Int), ((46 : Int), ([] : List UInt8)))), ((4 : Int), ((0 : Int), ((47 : Int), ([41] : List UInt8))))])), (.d (.int .i64 (0))), (.d (.int .i64 (0)))])
theorem k0x0 : Known Tryz.prog 14 [(.str [97, 108, 101, 114, 116, 32, 104, 105, 103, 104, 32, 102, 111, 114, 32, 54, 48, 32, 107, 101, 101, 112, 32, 48, 32, 105, 102, 32, 40, 123, 110, 97, 109, 101, 61, 34, 109, 34, 125, 91, 51, 48, 93, 32, 62, 32, 53, 41])] r0x0 := known mixed (kinds := kinds) (n := 300) S_ok (by kernel_rfl)
def r0x1 : AV := (.tup [(.d (.sl (.pair (.int .i64) (.pair (.int .i64) (.pair (.int .i64) .str))) [((2 : Int), ((0 : Int), ((0 : Int), ([97, 108, 101, 114, 116] : List UInt8)))), ((2 : Int), ((0 : Int), ((6 : Int), ([120] : List UInt8))))])), (.d (.int .i64 (0))), (.d (.int .i64 (0)))])
theorem k0x1 : Known Tryz.prog 14 [(.str [97, 108, 101, 114, 116, 32, 120])] r0x1 := known mixed (kinds := kinds) (n := 300) S_ok (by kernel_rfl)
def m0 : List (List D × AV) := [([(.str [97, 108, 101, 114, 116, 32, 104, 105, 103, 104, 32, 102, 111, 114, 32, 54, 48, 32, 107, 101, 101, 112, 32, 48, 32, 105, 102, 32, 40, 123, 110, 97, 109, 101, 61, 34, 109, 34, 125, 91, 51, 48, 93, 32, 62, 32, 53, 41])], r0x0), ([(.str [97, 108, 101, 114, 116, 32, 120])], r0x1)]
theorem m0_ok : ∀ p, p ∈ m0 → Known Tryz.prog 14 p.1 p.2 := by
  intro p hp
  simp only [m0, List.mem_cons, List.not_mem_nil, or_false] at hp
  rcases hp with rfl | rfl
  · exact k0x0
  · exact k0x1
def S0 : FuncId → Option (List AV → Boxes → M (AV × Boxes)) := fun f => if f = 14 then some (plainV (memoG m0)) else S f
theorem S0_ok : ∀ f s, S0 f = some s → CallAt Tryz.prog f s := by
  intro f s h
  unfold S0 at h
  split at h
  · rename_i e; subst e; cases h; exact memo_at m0_ok
  · exact S_ok f s h
def r1x0 : AV := (.tup [(.agg [(.d (.str [104, 105, 103, 104])), (.d (.int .i64 (12))), (.d (.int .i64 (0))), (.d .nils), (.d .nils), (.d (.sl (.rose (.pair (.int .i64) (.pair (.int .i64) (.pair (.sl (.pair .str (.pair .str (.int .i64)))) (.sl .str))))) [(Rose.mk ((2 : Int), ((30 : Int), ([(([110, 97, 109, 101] : List UInt8), (([109] : List UInt8), (1 : Int)))], []))) []), (Rose.mk ((1 : Int), ((5 : Int), ([], []))) [])])), (.d (.int .i64 (60))), (.d (.int .i64 (0)))]), (.d (.int .i64 (0))), (.d (.int .i64 (0)))])
theorem k1x0 : Known Tryz.prog 21 [(.str [97, 108, 101, 114, 116, 32, 104, 105, 103, 104, 32, 102, 111, 114, 32, 54, 48, 32, 107, 101, 101, 112, 32, 48, 32, 105, 102, 32, 40, 123, 110, 97, 109, 101, 61, 34, 109, 34, 125, 91, 51, 48, 93, 32, 62, 32, 53, 41])] r1x0 := known mixed (kinds := kinds) (n := 300) S0_ok (by kernel_rfl)
def r1x1 : AV := (.tup [(.agg [(.d (.str [])), (.d (.int .i64 (0))), (.d (.int .i64 (0))), (.d .nils), (.d .nils), (.d .nils), (.d (.int .i64 (0))), (.d (.int .i64 (0)))]), (.d (.int .i64 (7))), (.d (.int .i64 (1)))])
theorem k1x1 : Known Tryz.prog 21 [(.str [97, 108, 101, 114, 116, 32, 120])] r1x1 := known mixed (kinds := kinds) (n := 300) S0_ok (by kernel_rfl)
def m1 : List (List D × AV) := [([(.str [97, 108, 101, 114, 116, 32, 104, 105, 103, 104, 32, 102, 111, 114, 32, 54, 48, 32, 107, 101, 101, 112, 32, 48, 32, 105, 102, 32, 40, 123, 110, 97, 109, 101, 61, 34, 109, 34, 125, 91, 51, 48, 93, 32, 62, 32, 53, 41])], r1x0), ([(.str [97, 108, 101, 114, 116, 32, 120])], r1x1)]
theorem m1_ok : ∀ p, p ∈ m1 → Known Tryz.prog 21 p.1 p.2 := by
  intro p hp
  simp only [m1, List.mem_cons, List.not_mem_nil, or_false] at hp
  rcases hp with rfl | rfl
  · exact k1x0
  · exact k1x1
def S1 : FuncId → Option (List AV → Boxes → M (AV × Boxes)) := fun f => if f = 21 then some (plainV (memoG m1)) else S0 f
theorem S1_ok : ∀ f s, S1 f = some s → CallAt Tryz.prog f s := by
  intro f s h
  unfold S1 at h
  split at h
  · rename_i e; subst e; cases h; exact memo_at m1_ok
  · exact S0_ok f s h
def r2x0 : AV := (.tup [(.d (.sl (.pair .str (.pair (.rose (.pair (.int .i64) (.pair (.int .i64) (.pair (.sl (.pair .str (.pair .str (.int .i64)))) (.sl .str))))) (.pair (.int .i64) (.int .i64)))) [(([104, 105, 103, 104] : List UInt8), ((Rose.mk ((12 : Int), ((0 : Int), ([], []))) [(Rose.mk ((2 : Int), ((30 : Int), ([(([110, 97, 109, 101] : List UInt8), (([109] : List UInt8), (1 : Int)))], []))) []), (Rose.mk ((1 : Int), ((5 : Int), ([], []))) [])]), ((60 : Int), (0 : Int))))])), (.d (.int .i64 (0))), (.d (.int .i64 (0)))])
theorem k2x0 : Known Tryz.prog 22 [(.str [10, 97, 108, 101, 114, 116, 32, 104, 105, 103, 104, 32, 102, 111, 114, 32, 54, 48, 32, 107, 101, 101, 112, 32, 48, 32, 105, 102, 32, 40, 123, 110, 97, 109, 101, 61, 34, 109, 34, 125, 91, 51, 48, 93, 32, 62, 32, 53, 41, 10, 32, 32, 10])] r2x0 := known mixed (kinds := kinds) (n := 300) S1_ok (by kernel_rfl)
def m2 : List (List D × AV) := [([(.str [10, 97, 108, 101, 114, 116, 32, 104, 105, 103, 104, 32, 102, 111, 114, 32, 54, 48, 32, 107, 101, 101, 112, 32, 48, 32, 105, 102, 32, 40, 123, 110, 97, 109, 101, 61, 34, 109, 34, 125, 91, 51, 48, 93, 32, 62, 32, 53, 41, 10, 32, 32, 10])], r2x0)]
theorem m2_ok : ∀ p, p ∈ m2 → Known Tryz.prog 22 p.1 p.2 := by
  intro p hp
  simp only [m2, List.mem_cons, List.not_mem_nil, or_false] at hp
  subst hp
  exact k2x0
def S2 : FuncId → Option (List AV → Boxes → M (AV × Boxes)) := fun f => if f = 22 then some (plainV (memoG m2)) else S1 f
theorem S2_ok : ∀ f s, S2 f = some s → CallAt Tryz.prog f s := by
  intro f s h
  unfold S2 at h
  split at h
  · rename_i e; subst e; cases h; exact memo_at m2_ok
  · exact S1_ok f s h
def Sm : FuncId → Option (List AV → Boxes → M (AV × Boxes)) := S2
theorem Sm_ok : ∀ f s, Sm f = some s → CallAt Tryz.prog f s := S2_ok
end Go.Proofs.YtnmakkgomplchaaGreatDoor.EvS.RuleRuns
