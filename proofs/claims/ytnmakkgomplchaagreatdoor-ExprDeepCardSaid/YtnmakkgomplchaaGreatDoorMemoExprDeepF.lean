/- Calls over plain data, each reckoned once. Conditions: none. -/
import Derived.Test.YtnmakkgomplchaaGreatDoorLibS
import Derived.Test.YtnmakkgomplchaaGreatDoorEvZg
namespace Go.Proofs.YtnmakkgomplchaaGreatDoor.EvS.ExprDeep
open Go.Ev
set_option maxRecDepth 100000
def sF0 : List UInt8 := [115, 117, 109, 32, 98, 121, 32, 40, 41, 32, 40, 115, 117, 109, 32, 98, 121, 32, 40, 41, 32, 40, 115, 117, 109, 32, 98, 121, 32, 40, 41, 32, 40, 115, 117, 109, 32, 98, 121, 32, 40, 41, 32, 40, 115, 117, 109, 32, 98, 121, 32, 40, 41, 32, 40, 115, 117, 109, 32, 98, 121, 32, 40, 41, 32, 40, 123, 125, 91, 53, 93, 41, 41, 41, 41, 41, 41]
def rF0 : AV := (.tup [(.agg [(.d (.int .i64 (2))), (.d (.int .i64 (0))), (.d (.int .i64 (0))), (.d (.str [115, 117, 109]))]), (.d (.int .i64 (3))), (.d (.bool true))])
theorem kF00x0 : Known Tryz.prog 25 [.str (sF0.drop 0)] rF0 := known mixed (kinds := kinds) (n := 300) S_ok (by kernel_rfl)
def rF1 : AV := (.tup [(.agg [(.d (.int .i64 (2))), (.d (.int .i64 (0))), (.d (.int .i64 (0))), (.d (.str [98, 121]))]), (.d (.int .i64 (2))), (.d (.bool true))])
theorem kF00x1 : Known Tryz.prog 25 [.str (sF0.drop 4)] rF1 := known mixed (kinds := kinds) (n := 300) S_ok (by kernel_rfl)
def rF2 : AV := (.tup [(.agg [(.d (.int .i64 (4))), (.d (.int .i64 (0))), (.d (.int .i64 (0))), (.d (.str [40]))]), (.d (.int .i64 (1))), (.d (.bool true))])
theorem kF00x2 : Known Tryz.prog 25 [.str (sF0.drop 7)] rF2 := known mixed (kinds := kinds) (n := 300) S_ok (by kernel_rfl)
def rF3 : AV := (.tup [(.agg [(.d (.int .i64 (4))), (.d (.int .i64 (0))), (.d (.int .i64 (0))), (.d (.str [41]))]), (.d (.int .i64 (1))), (.d (.bool true))])
theorem kF00x3 : Known Tryz.prog 25 [.str (sF0.drop 8)] rF3 := known mixed (kinds := kinds) (n := 300) S_ok (by kernel_rfl)
theorem kF00x4 : Known Tryz.prog 25 [.str (sF0.drop 10)] rF2 := known mixed (kinds := kinds) (n := 300) S_ok (by kernel_rfl)
theorem kF00x5 : Known Tryz.prog 25 [.str (sF0.drop 11)] rF0 := known mixed (kinds := kinds) (n := 300) S_ok (by kernel_rfl)
theorem kF00x6 : Known Tryz.prog 25 [.str (sF0.drop 15)] rF1 := known mixed (kinds := kinds) (n := 300) S_ok (by kernel_rfl)
theorem kF00x7 : Known Tryz.prog 25 [.str (sF0.drop 18)] rF2 := known mixed (kinds := kinds) (n := 300) S_ok (by kernel_rfl)
theorem kF00x8 : Known Tryz.prog 25 [.str (sF0.drop 19)] rF3 := known mixed (kinds := kinds) (n := 300) S_ok (by kernel_rfl)
theorem kF00x9 : Known Tryz.prog 25 [.str (sF0.drop 21)] rF2 := known mixed (kinds := kinds) (n := 300) S_ok (by kernel_rfl)
theorem kF00x10 : Known Tryz.prog 25 [.str (sF0.drop 22)] rF0 := known mixed (kinds := kinds) (n := 300) S_ok (by kernel_rfl)
theorem kF00x11 : Known Tryz.prog 25 [.str (sF0.drop 26)] rF1 := known mixed (kinds := kinds) (n := 300) S_ok (by kernel_rfl)
theorem kF00x12 : Known Tryz.prog 25 [.str (sF0.drop 29)] rF2 := known mixed (kinds := kinds) (n := 300) S_ok (by kernel_rfl)
theorem kF00x13 : Known Tryz.prog 25 [.str (sF0.drop 30)] rF3 := known mixed (kinds := kinds) (n := 300) S_ok (by kernel_rfl)
theorem kF00x14 : Known Tryz.prog 25 [.str (sF0.drop 32)] rF2 := known mixed (kinds := kinds) (n := 300) S_ok (by kernel_rfl)
theorem kF00x15 : Known Tryz.prog 25 [.str (sF0.drop 33)] rF0 := known mixed (kinds := kinds) (n := 300) S_ok (by kernel_rfl)
theorem kF00x16 : Known Tryz.prog 25 [.str (sF0.drop 37)] rF1 := known mixed (kinds := kinds) (n := 300) S_ok (by kernel_rfl)
theorem kF00x17 : Known Tryz.prog 25 [.str (sF0.drop 40)] rF2 := known mixed (kinds := kinds) (n := 300) S_ok (by kernel_rfl)
theorem kF00x18 : Known Tryz.prog 25 [.str (sF0.drop 41)] rF3 := known mixed (kinds := kinds) (n := 300) S_ok (by kernel_rfl)
theorem kF00x19 : Known Tryz.prog 25 [.str (sF0.drop 43)] rF2 := known mixed (kinds := kinds) (n := 300) S_ok (by kernel_rfl)
theorem kF00x20 : Known Tryz.prog 25 [.str (sF0.drop 44)] rF0 := known mixed (kinds := kinds) (n := 300) S_ok (by kernel_rfl)
theorem kF00x21 : Known Tryz.prog 25 [.str (sF0.drop 48)] rF1 := known mixed (kinds := kinds) (n := 300) S_ok (by kernel_rfl)
theorem kF00x22 : Known Tryz.prog 25 [.str (sF0.drop 51)] rF2 := known mixed (kinds := kinds) (n := 300) S_ok (by kernel_rfl)
theorem kF00x23 : Known Tryz.prog 25 [.str (sF0.drop 52)] rF3 := known mixed (kinds := kinds) (n := 300) S_ok (by kernel_rfl)
theorem kF00x24 : Known Tryz.prog 25 [.str (sF0.drop 54)] rF2 := known mixed (kinds := kinds) (n := 300) S_ok (by kernel_rfl)
theorem kF00x25 : Known Tryz.prog 25 [.str (sF0.drop 55)] rF0 := known mixed (kinds := kinds) (n := 300) S_ok (by kernel_rfl)
theorem kF00x26 : Known Tryz.prog 25 [.str (sF0.drop 59)] rF1 := known mixed (kinds := kinds) (n := 300) S_ok (by kernel_rfl)
theorem kF00x27 : Known Tryz.prog 25 [.str (sF0.drop 62)] rF2 := known mixed (kinds := kinds) (n := 300) S_ok (by kernel_rfl)
theorem kF00x28 : Known Tryz.prog 25 [.str (sF0.drop 63)] rF3 := known mixed (kinds := kinds) (n := 300) S_ok (by kernel_rfl)
theorem kF00x29 : Known Tryz.prog 25 [.str (sF0.drop 65)] rF2 := known mixed (kinds := kinds) (n := 300) S_ok (by kernel_rfl)
def rF4 : AV := (.tup [(.agg [(.d (.int .i64 (4))), (.d (.int .i64 (0))), (.d (.int .i64 (0))), (.d (.str [123]))]), (.d (.int .i64 (1))), (.d (.bool true))])
theorem kF00x30 : Known Tryz.prog 25 [.str (sF0.drop 66)] rF4 := known mixed (kinds := kinds) (n := 300) S_ok (by kernel_rfl)
def rF5 : AV := (.tup [(.agg [(.d (.int .i64 (4))), (.d (.int .i64 (0))), (.d (.int .i64 (0))), (.d (.str [125]))]), (.d (.int .i64 (1))), (.d (.bool true))])
theorem kF00x31 : Known Tryz.prog 25 [.str (sF0.drop 67)] rF5 := known mixed (kinds := kinds) (n := 300) S_ok (by kernel_rfl)
def rF6 : AV := (.tup [(.agg [(.d (.int .i64 (4))), (.d (.int .i64 (0))), (.d (.int .i64 (0))), (.d (.str [91]))]), (.d (.int .i64 (1))), (.d (.bool true))])
theorem kF00x32 : Known Tryz.prog 25 [.str (sF0.drop 68)] rF6 := known mixed (kinds := kinds) (n := 300) S_ok (by kernel_rfl)
def rF7 : AV := (.tup [(.agg [(.d (.int .i64 (1))), (.d (.int .i64 (5))), (.d (.int .i64 (0))), (.d (.str []))]), (.d (.int .i64 (1))), (.d (.bool true))])
theorem kF00x33 : Known Tryz.prog 25 [.str (sF0.drop 69)] rF7 := known mixed (kinds := kinds) (n := 300) S_ok (by kernel_rfl)
def rF8 : AV := (.tup [(.agg [(.d (.int .i64 (4))), (.d (.int .i64 (0))), (.d (.int .i64 (0))), (.d (.str [93]))]), (.d (.int .i64 (1))), (.d (.bool true))])
theorem kF00x34 : Known Tryz.prog 25 [.str (sF0.drop 70)] rF8 := known mixed (kinds := kinds) (n := 300) S_ok (by kernel_rfl)
theorem kF00x35 : Known Tryz.prog 25 [.str (sF0.drop 71)] rF3 := known mixed (kinds := kinds) (n := 300) S_ok (by kernel_rfl)
theorem kF00x36 : Known Tryz.prog 25 [.str (sF0.drop 72)] rF3 := known mixed (kinds := kinds) (n := 300) S_ok (by kernel_rfl)
theorem kF00x37 : Known Tryz.prog 25 [.str (sF0.drop 73)] rF3 := known mixed (kinds := kinds) (n := 300) S_ok (by kernel_rfl)
theorem kF00x38 : Known Tryz.prog 25 [.str (sF0.drop 74)] rF3 := known mixed (kinds := kinds) (n := 300) S_ok (by kernel_rfl)
theorem kF00x39 : Known Tryz.prog 25 [.str (sF0.drop 75)] rF3 := known mixed (kinds := kinds) (n := 300) S_ok (by kernel_rfl)
theorem kF00x40 : Known Tryz.prog 25 [.str (sF0.drop 76)] rF3 := known mixed (kinds := kinds) (n := 300) S_ok (by kernel_rfl)
def mF00 : List (List D × AV) := [([.str (sF0.drop 0)], rF0), ([.str (sF0.drop 4)], rF1), ([.str (sF0.drop 7)], rF2), ([.str (sF0.drop 8)], rF3), ([.str (sF0.drop 10)], rF2), ([.str (sF0.drop 11)], rF0), ([.str (sF0.drop 15)], rF1), ([.str (sF0.drop 18)], rF2), ([.str (sF0.drop 19)], rF3), ([.str (sF0.drop 21)], rF2), ([.str (sF0.drop 22)], rF0), ([.str (sF0.drop 26)], rF1), ([.str (sF0.drop 29)], rF2), ([.str (sF0.drop 30)], rF3), ([.str (sF0.drop 32)], rF2), ([.str (sF0.drop 33)], rF0), ([.str (sF0.drop 37)], rF1), ([.str (sF0.drop 40)], rF2), ([.str (sF0.drop 41)], rF3), ([.str (sF0.drop 43)], rF2), ([.str (sF0.drop 44)], rF0), ([.str (sF0.drop 48)], rF1), ([.str (sF0.drop 51)], rF2), ([.str (sF0.drop 52)], rF3), ([.str (sF0.drop 54)], rF2), ([.str (sF0.drop 55)], rF0), ([.str (sF0.drop 59)], rF1), ([.str (sF0.drop 62)], rF2), ([.str (sF0.drop 63)], rF3), ([.str (sF0.drop 65)], rF2), ([.str (sF0.drop 66)], rF4), ([.str (sF0.drop 67)], rF5), ([.str (sF0.drop 68)], rF6), ([.str (sF0.drop 69)], rF7), ([.str (sF0.drop 70)], rF8), ([.str (sF0.drop 71)], rF3), ([.str (sF0.drop 72)], rF3), ([.str (sF0.drop 73)], rF3), ([.str (sF0.drop 74)], rF3), ([.str (sF0.drop 75)], rF3), ([.str (sF0.drop 76)], rF3)]
theorem mF00_ok : ∀ p, p ∈ mF00 → Known Tryz.prog 25 p.1 p.2 := by
  intro p hp
  rcases List.mem_cons.1 hp with rfl | hp
  · exact kF00x0
  rcases List.mem_cons.1 hp with rfl | hp
  · exact kF00x1
  rcases List.mem_cons.1 hp with rfl | hp
  · exact kF00x2
  rcases List.mem_cons.1 hp with rfl | hp
  · exact kF00x3
  rcases List.mem_cons.1 hp with rfl | hp
  · exact kF00x4
  rcases List.mem_cons.1 hp with rfl | hp
  · exact kF00x5
  rcases List.mem_cons.1 hp with rfl | hp
  · exact kF00x6
  rcases List.mem_cons.1 hp with rfl | hp
  · exact kF00x7
  rcases List.mem_cons.1 hp with rfl | hp
  · exact kF00x8
  rcases List.mem_cons.1 hp with rfl | hp
  · exact kF00x9
  rcases List.mem_cons.1 hp with rfl | hp
  · exact kF00x10
  rcases List.mem_cons.1 hp with rfl | hp
  · exact kF00x11
  rcases List.mem_cons.1 hp with rfl | hp
  · exact kF00x12
  rcases List.mem_cons.1 hp with rfl | hp
  · exact kF00x13
  rcases List.mem_cons.1 hp with rfl | hp
  · exact kF00x14
  rcases List.mem_cons.1 hp with rfl | hp
  · exact kF00x15
  rcases List.mem_cons.1 hp with rfl | hp
  · exact kF00x16
  rcases List.mem_cons.1 hp with rfl | hp
  · exact kF00x17
  rcases List.mem_cons.1 hp with rfl | hp
  · exact kF00x18
  rcases List.mem_cons.1 hp with rfl | hp
  · exact kF00x19
  rcases List.mem_cons.1 hp with rfl | hp
  · exact kF00x20
  rcases List.mem_cons.1 hp with rfl | hp
  · exact kF00x21
  rcases List.mem_cons.1 hp with rfl | hp
  · exact kF00x22
  rcases List.mem_cons.1 hp with rfl | hp
  · exact kF00x23
  rcases List.mem_cons.1 hp with rfl | hp
  · exact kF00x24
  rcases List.mem_cons.1 hp with rfl | hp
  · exact kF00x25
  rcases List.mem_cons.1 hp with rfl | hp
  · exact kF00x26
  rcases List.mem_cons.1 hp with rfl | hp
  · exact kF00x27
  rcases List.mem_cons.1 hp with rfl | hp
  · exact kF00x28
  rcases List.mem_cons.1 hp with rfl | hp
  · exact kF00x29
  rcases List.mem_cons.1 hp with rfl | hp
  · exact kF00x30
  rcases List.mem_cons.1 hp with rfl | hp
  · exact kF00x31
  rcases List.mem_cons.1 hp with rfl | hp
  · exact kF00x32
  rcases List.mem_cons.1 hp with rfl | hp
  · exact kF00x33
  rcases List.mem_cons.1 hp with rfl | hp
  · exact kF00x34
  rcases List.mem_cons.1 hp with rfl | hp
  · exact kF00x35
  rcases List.mem_cons.1 hp with rfl | hp
  · exact kF00x36
  rcases List.mem_cons.1 hp with rfl | hp
  · exact kF00x37
  rcases List.mem_cons.1 hp with rfl | hp
  · exact kF00x38
  rcases List.mem_cons.1 hp with rfl | hp
  · exact kF00x39
  rcases List.mem_cons.1 hp with rfl | hp
  · exact kF00x40
  cases hp
def SF00 : FuncId → Option (List AV → Boxes → M (AV × Boxes)) := fun f => if f = 25 then some (plainV (memoG mF00)) else S f
theorem SF00_ok : ∀ f s, SF00 f = some s → CallAt Tryz.prog f s := by
  intro f s h
  unfold SF00 at h
  split at h
  · rename_i e; subst e; cases h; exact memo_at mF00_ok
  · exact S_ok f s h
def rF9 : AV := (.tup [(.d (.sl (.pair (.int .i64) (.pair (.int .i64) (.pair (.int .i64) .str))) [((2 : Int), ((0 : Int), ((0 : Int), ([115, 117, 109] : List UInt8)))), ((2 : Int), ((0 : Int), ((4 : Int), ([98, 121] : List UInt8)))), ((4 : Int), ((0 : Int), ((7 : Int), ([40] : List UInt8)))), ((4 : Int), ((0 : Int), ((8 : Int), ([41] : List UInt8)))), ((4 : Int), ((0 : Int), ((10 : Int), ([40] : List UInt8)))), ((2 : Int), ((0 : Int), ((11 : Int), ([115, 117, 109] : List UInt8)))), ((2 : Int), ((0 : Int), ((15 : Int), ([98, 121] : List UInt8)))), ((4 : Int), ((0 : Int), ((18 : Int), ([40] : List UInt8)))), ((4 : Int), ((0 : Int), ((19 : Int), ([41] : List UInt8)))), ((4 : Int), ((0 : Int), ((21 : Int), ([40] : List UInt8)))), ((2 : Int), ((0 : Int), ((22 : Int), ([115, 117, 109] : List UInt8)))), ((2 : Int), ((0 : Int), ((26 : Int), ([98, 121] : List UInt8)))), ((4 : Int), ((0 : Int), ((29 : Int), ([40] : List UInt8)))), ((4 : Int), ((0 : Int), ((30 : Int), ([41] : List UInt8)))), ((4 : Int), ((0 : Int), ((32 : Int), ([40] : List UInt8)))), ((2 : Int), ((0 : Int), ((33 : Int), ([115, 117, 109] : List UInt8)))), ((2 : Int), ((0 : Int), ((37 : Int), ([98, 121] : List UInt8)))), ((4 : Int), ((0 : Int), ((40 : Int), ([40] : List UInt8)))), ((4 : Int), ((0 : Int), ((41 : Int), ([41] : List UInt8)))), ((4 : Int), ((0 : Int), ((43 : Int), ([40] : List UInt8)))), ((2 : Int), ((0 : Int), ((44 : Int), ([115, 117, 109] : List UInt8)))), ((2 : Int), ((0 : Int), ((48 : Int), ([98, 121] : List UInt8)))), ((4 : Int), ((0 : Int), ((51 : Int), ([40] : List UInt8)))), ((4 : Int), ((0 : Int), ((52 : Int), ([41] : List UInt8)))), ((4 : Int), ((0 : Int), ((54 : Int), ([40] : List UInt8)))), ((2 : Int), ((0 : Int), ((55 : Int), ([115, 117, 109] : List UInt8)))), ((2 : Int), ((0 : Int), ((59 : Int), ([98, 121] : List UInt8)))), ((4 : Int), ((0 : Int), ((62 : Int), ([40] : List UInt8)))), ((4 : Int), ((0 : Int), ((63 : Int), ([41] : List UInt8)))), ((4 : Int), ((0 : Int), ((65 : Int), ([40] : List UInt8)))), ((4 : Int), ((0 : Int), ((66 : Int), ([123] : List UInt8)))), ((4 : Int), ((0 : Int), ((67 : Int), ([125] : List UInt8)))), ((4 : Int), ((0 : Int), ((68 : Int), ([91] : List UInt8)))), ((1 : Int), ((5 : Int), ((69 : Int), ([] : List UInt8)))), ((4 : Int), ((0 : Int), ((70 : Int), ([93] : List UInt8)))), ((4 : Int), ((0 : Int), ((71 : Int), ([41] : List UInt8)))), ((4 : Int), ((0 : Int), ((72 : Int), ([41] : List UInt8)))), ((4 : Int), ((0 : Int), ((73 : Int), ([41] : List UInt8)))), ((4 : Int), ((0 : Int), ((74 : Int), ([41] : List UInt8)))), ((4 : Int), ((0 : Int), ((75 : Int), ([41] : List UInt8)))), ((4 : Int), ((0 : Int), ((76 : Int), ([41] : List UInt8))))])), (.d (.int .i64 (0))), (.d (.int .i64 (0)))])
theorem kF01x0 : Known Tryz.prog 14 [.str sF0] rF9 := known mixed (kinds := kinds) (n := 300) SF00_ok (by kernel_rfl)
def mF01 : List (List D × AV) := [([.str sF0], rF9)]
theorem mF01_ok : ∀ p, p ∈ mF01 → Known Tryz.prog 14 p.1 p.2 := by
  intro p hp
  rcases List.mem_cons.1 hp with rfl | hp
  · exact kF01x0
  cases hp
def SF01 : FuncId → Option (List AV → Boxes → M (AV × Boxes)) := fun f => if f = 14 then some (plainV (memoG mF01)) else SF00 f
theorem SF01_ok : ∀ f s, SF01 f = some s → CallAt Tryz.prog f s := by
  intro f s h
  unfold SF01 at h
  split at h
  · rename_i e; subst e; cases h; exact memo_at mF01_ok
  · exact SF00_ok f s h
def rF10 : AV := (.tup [(.agg [(.d (.int .i64 (17))), (.d (.int .i64 (0))), (.d .nils), (.d .nils), (.d (.sl (.rose (.pair (.int .i64) (.pair (.int .i64) (.pair (.sl (.pair .str (.pair .str (.int .i64)))) (.sl .str))))) [(Rose.mk ((17 : Int), ((0 : Int), ([], []))) [(Rose.mk ((17 : Int), ((0 : Int), ([], []))) [(Rose.mk ((17 : Int), ((0 : Int), ([], []))) [(Rose.mk ((17 : Int), ((0 : Int), ([], []))) [(Rose.mk ((17 : Int), ((0 : Int), ([], []))) [(Rose.mk ((2 : Int), ((5 : Int), ([], []))) [])])])])])])]))]), (.d (.int .i64 (0))), (.d (.int .i64 (0)))])
theorem kF02x0 : Known Tryz.prog 6 [.str sF0] rF10 := known mixed (kinds := kinds) (n := 300) SF01_ok (by kernel_rfl)
def mF02 : List (List D × AV) := [([.str sF0], rF10)]
theorem mF02_ok : ∀ p, p ∈ mF02 → Known Tryz.prog 6 p.1 p.2 := by
  intro p hp
  rcases List.mem_cons.1 hp with rfl | hp
  · exact kF02x0
  cases hp
def sF1 : List UInt8 := [40, 49, 32, 43, 32, 40, 49, 32, 43, 32, 40, 49, 32, 43, 32, 40, 49, 32, 43, 32, 40, 49, 32, 43, 32, 40, 49, 32, 43, 32, 40, 49, 32, 43, 32, 40, 49, 32, 43, 32, 40, 49, 32, 43, 32, 40, 49, 32, 43, 32, 40, 49, 32, 43, 32, 123, 125, 91, 53, 93, 41, 41, 41, 41, 41, 41, 41, 41, 41, 41, 41]
theorem kF10x0 : Known Tryz.prog 25 [.str (sF1.drop 0)] rF2 := known mixed (kinds := kinds) (n := 300) S_ok (by kernel_rfl)
def rF11 : AV := (.tup [(.agg [(.d (.int .i64 (1))), (.d (.int .i64 (1))), (.d (.int .i64 (0))), (.d (.str []))]), (.d (.int .i64 (1))), (.d (.bool true))])
theorem kF10x1 : Known Tryz.prog 25 [.str (sF1.drop 1)] rF11 := known mixed (kinds := kinds) (n := 300) S_ok (by kernel_rfl)
def rF12 : AV := (.tup [(.agg [(.d (.int .i64 (4))), (.d (.int .i64 (0))), (.d (.int .i64 (0))), (.d (.str [43]))]), (.d (.int .i64 (1))), (.d (.bool true))])
theorem kF10x2 : Known Tryz.prog 25 [.str (sF1.drop 3)] rF12 := known mixed (kinds := kinds) (n := 300) S_ok (by kernel_rfl)
theorem kF10x3 : Known Tryz.prog 25 [.str (sF1.drop 5)] rF2 := known mixed (kinds := kinds) (n := 300) S_ok (by kernel_rfl)
theorem kF10x4 : Known Tryz.prog 25 [.str (sF1.drop 6)] rF11 := known mixed (kinds := kinds) (n := 300) S_ok (by kernel_rfl)
theorem kF10x5 : Known Tryz.prog 25 [.str (sF1.drop 8)] rF12 := known mixed (kinds := kinds) (n := 300) S_ok (by kernel_rfl)
theorem kF10x6 : Known Tryz.prog 25 [.str (sF1.drop 10)] rF2 := known mixed (kinds := kinds) (n := 300) S_ok (by kernel_rfl)
theorem kF10x7 : Known Tryz.prog 25 [.str (sF1.drop 11)] rF11 := known mixed (kinds := kinds) (n := 300) S_ok (by kernel_rfl)
theorem kF10x8 : Known Tryz.prog 25 [.str (sF1.drop 13)] rF12 := known mixed (kinds := kinds) (n := 300) S_ok (by kernel_rfl)
theorem kF10x9 : Known Tryz.prog 25 [.str (sF1.drop 15)] rF2 := known mixed (kinds := kinds) (n := 300) S_ok (by kernel_rfl)
theorem kF10x10 : Known Tryz.prog 25 [.str (sF1.drop 16)] rF11 := known mixed (kinds := kinds) (n := 300) S_ok (by kernel_rfl)
theorem kF10x11 : Known Tryz.prog 25 [.str (sF1.drop 18)] rF12 := known mixed (kinds := kinds) (n := 300) S_ok (by kernel_rfl)
theorem kF10x12 : Known Tryz.prog 25 [.str (sF1.drop 20)] rF2 := known mixed (kinds := kinds) (n := 300) S_ok (by kernel_rfl)
theorem kF10x13 : Known Tryz.prog 25 [.str (sF1.drop 21)] rF11 := known mixed (kinds := kinds) (n := 300) S_ok (by kernel_rfl)
theorem kF10x14 : Known Tryz.prog 25 [.str (sF1.drop 23)] rF12 := known mixed (kinds := kinds) (n := 300) S_ok (by kernel_rfl)
theorem kF10x15 : Known Tryz.prog 25 [.str (sF1.drop 25)] rF2 := known mixed (kinds := kinds) (n := 300) S_ok (by kernel_rfl)
theorem kF10x16 : Known Tryz.prog 25 [.str (sF1.drop 26)] rF11 := known mixed (kinds := kinds) (n := 300) S_ok (by kernel_rfl)
theorem kF10x17 : Known Tryz.prog 25 [.str (sF1.drop 28)] rF12 := known mixed (kinds := kinds) (n := 300) S_ok (by kernel_rfl)
theorem kF10x18 : Known Tryz.prog 25 [.str (sF1.drop 30)] rF2 := known mixed (kinds := kinds) (n := 300) S_ok (by kernel_rfl)
theorem kF10x19 : Known Tryz.prog 25 [.str (sF1.drop 31)] rF11 := known mixed (kinds := kinds) (n := 300) S_ok (by kernel_rfl)
theorem kF10x20 : Known Tryz.prog 25 [.str (sF1.drop 33)] rF12 := known mixed (kinds := kinds) (n := 300) S_ok (by kernel_rfl)
theorem kF10x21 : Known Tryz.prog 25 [.str (sF1.drop 35)] rF2 := known mixed (kinds := kinds) (n := 300) S_ok (by kernel_rfl)
theorem kF10x22 : Known Tryz.prog 25 [.str (sF1.drop 36)] rF11 := known mixed (kinds := kinds) (n := 300) S_ok (by kernel_rfl)
theorem kF10x23 : Known Tryz.prog 25 [.str (sF1.drop 38)] rF12 := known mixed (kinds := kinds) (n := 300) S_ok (by kernel_rfl)
theorem kF10x24 : Known Tryz.prog 25 [.str (sF1.drop 40)] rF2 := known mixed (kinds := kinds) (n := 300) S_ok (by kernel_rfl)
theorem kF10x25 : Known Tryz.prog 25 [.str (sF1.drop 41)] rF11 := known mixed (kinds := kinds) (n := 300) S_ok (by kernel_rfl)
theorem kF10x26 : Known Tryz.prog 25 [.str (sF1.drop 43)] rF12 := known mixed (kinds := kinds) (n := 300) S_ok (by kernel_rfl)
theorem kF10x27 : Known Tryz.prog 25 [.str (sF1.drop 45)] rF2 := known mixed (kinds := kinds) (n := 300) S_ok (by kernel_rfl)
theorem kF10x28 : Known Tryz.prog 25 [.str (sF1.drop 46)] rF11 := known mixed (kinds := kinds) (n := 300) S_ok (by kernel_rfl)
theorem kF10x29 : Known Tryz.prog 25 [.str (sF1.drop 48)] rF12 := known mixed (kinds := kinds) (n := 300) S_ok (by kernel_rfl)
theorem kF10x30 : Known Tryz.prog 25 [.str (sF1.drop 50)] rF2 := known mixed (kinds := kinds) (n := 300) S_ok (by kernel_rfl)
theorem kF10x31 : Known Tryz.prog 25 [.str (sF1.drop 51)] rF11 := known mixed (kinds := kinds) (n := 300) S_ok (by kernel_rfl)
theorem kF10x32 : Known Tryz.prog 25 [.str (sF1.drop 53)] rF12 := known mixed (kinds := kinds) (n := 300) S_ok (by kernel_rfl)
theorem kF10x33 : Known Tryz.prog 25 [.str (sF1.drop 55)] rF4 := known mixed (kinds := kinds) (n := 300) S_ok (by kernel_rfl)
theorem kF10x34 : Known Tryz.prog 25 [.str (sF1.drop 56)] rF5 := known mixed (kinds := kinds) (n := 300) S_ok (by kernel_rfl)
theorem kF10x35 : Known Tryz.prog 25 [.str (sF1.drop 57)] rF6 := known mixed (kinds := kinds) (n := 300) S_ok (by kernel_rfl)
theorem kF10x36 : Known Tryz.prog 25 [.str (sF1.drop 58)] rF7 := known mixed (kinds := kinds) (n := 300) S_ok (by kernel_rfl)
theorem kF10x37 : Known Tryz.prog 25 [.str (sF1.drop 59)] rF8 := known mixed (kinds := kinds) (n := 300) S_ok (by kernel_rfl)
theorem kF10x38 : Known Tryz.prog 25 [.str (sF1.drop 60)] rF3 := known mixed (kinds := kinds) (n := 300) S_ok (by kernel_rfl)
theorem kF10x39 : Known Tryz.prog 25 [.str (sF1.drop 61)] rF3 := known mixed (kinds := kinds) (n := 300) S_ok (by kernel_rfl)
theorem kF10x40 : Known Tryz.prog 25 [.str (sF1.drop 62)] rF3 := known mixed (kinds := kinds) (n := 300) S_ok (by kernel_rfl)
theorem kF10x41 : Known Tryz.prog 25 [.str (sF1.drop 63)] rF3 := known mixed (kinds := kinds) (n := 300) S_ok (by kernel_rfl)
theorem kF10x42 : Known Tryz.prog 25 [.str (sF1.drop 64)] rF3 := known mixed (kinds := kinds) (n := 300) S_ok (by kernel_rfl)
theorem kF10x43 : Known Tryz.prog 25 [.str (sF1.drop 65)] rF3 := known mixed (kinds := kinds) (n := 300) S_ok (by kernel_rfl)
theorem kF10x44 : Known Tryz.prog 25 [.str (sF1.drop 66)] rF3 := known mixed (kinds := kinds) (n := 300) S_ok (by kernel_rfl)
theorem kF10x45 : Known Tryz.prog 25 [.str (sF1.drop 67)] rF3 := known mixed (kinds := kinds) (n := 300) S_ok (by kernel_rfl)
theorem kF10x46 : Known Tryz.prog 25 [.str (sF1.drop 68)] rF3 := known mixed (kinds := kinds) (n := 300) S_ok (by kernel_rfl)
theorem kF10x47 : Known Tryz.prog 25 [.str (sF1.drop 69)] rF3 := known mixed (kinds := kinds) (n := 300) S_ok (by kernel_rfl)
theorem kF10x48 : Known Tryz.prog 25 [.str (sF1.drop 70)] rF3 := known mixed (kinds := kinds) (n := 300) S_ok (by kernel_rfl)
def mF10 : List (List D × AV) := [([.str (sF1.drop 0)], rF2), ([.str (sF1.drop 1)], rF11), ([.str (sF1.drop 3)], rF12), ([.str (sF1.drop 5)], rF2), ([.str (sF1.drop 6)], rF11), ([.str (sF1.drop 8)], rF12), ([.str (sF1.drop 10)], rF2), ([.str (sF1.drop 11)], rF11), ([.str (sF1.drop 13)], rF12), ([.str (sF1.drop 15)], rF2), ([.str (sF1.drop 16)], rF11), ([.str (sF1.drop 18)], rF12), ([.str (sF1.drop 20)], rF2), ([.str (sF1.drop 21)], rF11), ([.str (sF1.drop 23)], rF12), ([.str (sF1.drop 25)], rF2), ([.str (sF1.drop 26)], rF11), ([.str (sF1.drop 28)], rF12), ([.str (sF1.drop 30)], rF2), ([.str (sF1.drop 31)], rF11), ([.str (sF1.drop 33)], rF12), ([.str (sF1.drop 35)], rF2), ([.str (sF1.drop 36)], rF11), ([.str (sF1.drop 38)], rF12), ([.str (sF1.drop 40)], rF2), ([.str (sF1.drop 41)], rF11), ([.str (sF1.drop 43)], rF12), ([.str (sF1.drop 45)], rF2), ([.str (sF1.drop 46)], rF11), ([.str (sF1.drop 48)], rF12), ([.str (sF1.drop 50)], rF2), ([.str (sF1.drop 51)], rF11), ([.str (sF1.drop 53)], rF12), ([.str (sF1.drop 55)], rF4), ([.str (sF1.drop 56)], rF5), ([.str (sF1.drop 57)], rF6), ([.str (sF1.drop 58)], rF7), ([.str (sF1.drop 59)], rF8), ([.str (sF1.drop 60)], rF3), ([.str (sF1.drop 61)], rF3), ([.str (sF1.drop 62)], rF3), ([.str (sF1.drop 63)], rF3), ([.str (sF1.drop 64)], rF3), ([.str (sF1.drop 65)], rF3), ([.str (sF1.drop 66)], rF3), ([.str (sF1.drop 67)], rF3), ([.str (sF1.drop 68)], rF3), ([.str (sF1.drop 69)], rF3), ([.str (sF1.drop 70)], rF3)]
theorem mF10_ok : ∀ p, p ∈ mF10 → Known Tryz.prog 25 p.1 p.2 := by
  intro p hp
  rcases List.mem_cons.1 hp with rfl | hp
  · exact kF10x0
  rcases List.mem_cons.1 hp with rfl | hp
  · exact kF10x1
  rcases List.mem_cons.1 hp with rfl | hp
  · exact kF10x2
  rcases List.mem_cons.1 hp with rfl | hp
  · exact kF10x3
  rcases List.mem_cons.1 hp with rfl | hp
  · exact kF10x4
  rcases List.mem_cons.1 hp with rfl | hp
  · exact kF10x5
  rcases List.mem_cons.1 hp with rfl | hp
  · exact kF10x6
  rcases List.mem_cons.1 hp with rfl | hp
  · exact kF10x7
  rcases List.mem_cons.1 hp with rfl | hp
  · exact kF10x8
  rcases List.mem_cons.1 hp with rfl | hp
  · exact kF10x9
  rcases List.mem_cons.1 hp with rfl | hp
  · exact kF10x10
  rcases List.mem_cons.1 hp with rfl | hp
  · exact kF10x11
  rcases List.mem_cons.1 hp with rfl | hp
  · exact kF10x12
  rcases List.mem_cons.1 hp with rfl | hp
  · exact kF10x13
  rcases List.mem_cons.1 hp with rfl | hp
  · exact kF10x14
  rcases List.mem_cons.1 hp with rfl | hp
  · exact kF10x15
  rcases List.mem_cons.1 hp with rfl | hp
  · exact kF10x16
  rcases List.mem_cons.1 hp with rfl | hp
  · exact kF10x17
  rcases List.mem_cons.1 hp with rfl | hp
  · exact kF10x18
  rcases List.mem_cons.1 hp with rfl | hp
  · exact kF10x19
  rcases List.mem_cons.1 hp with rfl | hp
  · exact kF10x20
  rcases List.mem_cons.1 hp with rfl | hp
  · exact kF10x21
  rcases List.mem_cons.1 hp with rfl | hp
  · exact kF10x22
  rcases List.mem_cons.1 hp with rfl | hp
  · exact kF10x23
  rcases List.mem_cons.1 hp with rfl | hp
  · exact kF10x24
  rcases List.mem_cons.1 hp with rfl | hp
  · exact kF10x25
  rcases List.mem_cons.1 hp with rfl | hp
  · exact kF10x26
  rcases List.mem_cons.1 hp with rfl | hp
  · exact kF10x27
  rcases List.mem_cons.1 hp with rfl | hp
  · exact kF10x28
  rcases List.mem_cons.1 hp with rfl | hp
  · exact kF10x29
  rcases List.mem_cons.1 hp with rfl | hp
  · exact kF10x30
  rcases List.mem_cons.1 hp with rfl | hp
  · exact kF10x31
  rcases List.mem_cons.1 hp with rfl | hp
  · exact kF10x32
  rcases List.mem_cons.1 hp with rfl | hp
  · exact kF10x33
  rcases List.mem_cons.1 hp with rfl | hp
  · exact kF10x34
  rcases List.mem_cons.1 hp with rfl | hp
  · exact kF10x35
  rcases List.mem_cons.1 hp with rfl | hp
  · exact kF10x36
  rcases List.mem_cons.1 hp with rfl | hp
  · exact kF10x37
  rcases List.mem_cons.1 hp with rfl | hp
  · exact kF10x38
  rcases List.mem_cons.1 hp with rfl | hp
  · exact kF10x39
  rcases List.mem_cons.1 hp with rfl | hp
  · exact kF10x40
  rcases List.mem_cons.1 hp with rfl | hp
  · exact kF10x41
  rcases List.mem_cons.1 hp with rfl | hp
  · exact kF10x42
  rcases List.mem_cons.1 hp with rfl | hp
  · exact kF10x43
  rcases List.mem_cons.1 hp with rfl | hp
  · exact kF10x44
  rcases List.mem_cons.1 hp with rfl | hp
  · exact kF10x45
  rcases List.mem_cons.1 hp with rfl | hp
  · exact kF10x46
  rcases List.mem_cons.1 hp with rfl | hp
  · exact kF10x47
  rcases List.mem_cons.1 hp with rfl | hp
  · exact kF10x48
  cases hp
def SF10 : FuncId → Option (List AV → Boxes → M (AV × Boxes)) := fun f => if f = 25 then some (plainV (memoG mF10)) else S f
theorem SF10_ok : ∀ f s, SF10 f = some s → CallAt Tryz.prog f s := by
  intro f s h
  unfold SF10 at h
  split at h
  · rename_i e; subst e; cases h; exact memo_at mF10_ok
  · exact S_ok f s h
def rF13 : AV := (.tup [(.d (.sl (.pair (.int .i64) (.pair (.int .i64) (.pair (.int .i64) .str))) [((4 : Int), ((0 : Int), ((0 : Int), ([40] : List UInt8)))), ((1 : Int), ((1 : Int), ((1 : Int), ([] : List UInt8)))), ((4 : Int), ((0 : Int), ((3 : Int), ([43] : List UInt8)))), ((4 : Int), ((0 : Int), ((5 : Int), ([40] : List UInt8)))), ((1 : Int), ((1 : Int), ((6 : Int), ([] : List UInt8)))), ((4 : Int), ((0 : Int), ((8 : Int), ([43] : List UInt8)))), ((4 : Int), ((0 : Int), ((10 : Int), ([40] : List UInt8)))), ((1 : Int), ((1 : Int), ((11 : Int), ([] : List UInt8)))), ((4 : Int), ((0 : Int), ((13 : Int), ([43] : List UInt8)))), ((4 : Int), ((0 : Int), ((15 : Int), ([40] : List UInt8)))), ((1 : Int), ((1 : Int), ((16 : Int), ([] : List UInt8)))), ((4 : Int), ((0 : Int), ((18 : Int), ([43] : List UInt8)))), ((4 : Int), ((0 : Int), ((20 : Int), ([40] : List UInt8)))), ((1 : Int), ((1 : Int), ((21 : Int), ([] : List UInt8)))), ((4 : Int), ((0 : Int), ((23 : Int), ([43] : List UInt8)))), ((4 : Int), ((0 : Int), ((25 : Int), ([40] : List UInt8)))), ((1 : Int), ((1 : Int), ((26 : Int), ([] : List UInt8)))), ((4 : Int), ((0 : Int), ((28 : Int), ([43] : List UInt8)))), ((4 : Int), ((0 : Int), ((30 : Int), ([40] : List UInt8)))), ((1 : Int), ((1 : Int), ((31 : Int), ([] : List UInt8)))), ((4 : Int), ((0 : Int), ((33 : Int), ([43] : List UInt8)))), ((4 : Int), ((0 : Int), ((35 : Int), ([40] : List UInt8)))), ((1 : Int), ((1 : Int), ((36 : Int), ([] : List UInt8)))), ((4 : Int), ((0 : Int), ((38 : Int), ([43] : List UInt8)))), ((4 : Int), ((0 : Int), ((40 : Int), ([40] : List UInt8)))), ((1 : Int), ((1 : Int), ((41 : Int), ([] : List UInt8)))), ((4 : Int), ((0 : Int), ((43 : Int), ([43] : List UInt8)))), ((4 : Int), ((0 : Int), ((45 : Int), ([40] : List UInt8)))), ((1 : Int), ((1 : Int), ((46 : Int), ([] : List UInt8)))), ((4 : Int), ((0 : Int), ((48 : Int), ([43] : List UInt8)))), ((4 : Int), ((0 : Int), ((50 : Int), ([40] : List UInt8)))), ((1 : Int), ((1 : Int), ((51 : Int), ([] : List UInt8)))), ((4 : Int), ((0 : Int), ((53 : Int), ([43] : List UInt8)))), ((4 : Int), ((0 : Int), ((55 : Int), ([123] : List UInt8)))), ((4 : Int), ((0 : Int), ((56 : Int), ([125] : List UInt8)))), ((4 : Int), ((0 : Int), ((57 : Int), ([91] : List UInt8)))), ((1 : Int), ((5 : Int), ((58 : Int), ([] : List UInt8)))), ((4 : Int), ((0 : Int), ((59 : Int), ([93] : List UInt8)))), ((4 : Int), ((0 : Int), ((60 : Int), ([41] : List UInt8)))), ((4 : Int), ((0 : Int), ((61 : Int), ([41] : List UInt8)))), ((4 : Int), ((0 : Int), ((62 : Int), ([41] : List UInt8)))), ((4 : Int), ((0 : Int), ((63 : Int), ([41] : List UInt8)))), ((4 : Int), ((0 : Int), ((64 : Int), ([41] : List UInt8)))), ((4 : Int), ((0 : Int), ((65 : Int), ([41] : List UInt8)))), ((4 : Int), ((0 : Int), ((66 : Int), ([41] : List UInt8)))), ((4 : Int), ((0 : Int), ((67 : Int), ([41] : List UInt8)))), ((4 : Int), ((0 : Int), ((68 : Int), ([41] : List UInt8)))), ((4 : Int), ((0 : Int), ((69 : Int), ([41] : List UInt8)))), ((4 : Int), ((0 : Int), ((70 : Int), ([41] : List UInt8))))])), (.d (.int .i64 (0))), (.d (.int .i64 (0)))])
theorem kF11x0 : Known Tryz.prog 14 [.str sF1] rF13 := known mixed (kinds := kinds) (n := 300) SF10_ok (by kernel_rfl)
def mF11 : List (List D × AV) := [([.str sF1], rF13)]
theorem mF11_ok : ∀ p, p ∈ mF11 → Known Tryz.prog 14 p.1 p.2 := by
  intro p hp
  rcases List.mem_cons.1 hp with rfl | hp
  · exact kF11x0
  cases hp
def SF11 : FuncId → Option (List AV → Boxes → M (AV × Boxes)) := fun f => if f = 14 then some (plainV (memoG mF11)) else SF10 f
theorem SF11_ok : ∀ f s, SF11 f = some s → CallAt Tryz.prog f s := by
  intro f s h
  unfold SF11 at h
  split at h
  · rename_i e; subst e; cases h; exact memo_at mF11_ok
  · exact SF10_ok f s h
def rF14 : AV := (.tup [(.agg [(.d (.int .i64 (0))), (.d (.int .i64 (0))), (.d .nils), (.d .nils), (.d .nils)]), (.d (.int .i64 (36))), (.d (.int .i64 (6)))])
theorem kF12x0 : Known Tryz.prog 6 [.str sF1] rF14 := known mixed (kinds := kinds) (n := 300) SF11_ok (by kernel_rfl)
def mF12 : List (List D × AV) := [([.str sF1], rF14)]
theorem mF12_ok : ∀ p, p ∈ mF12 → Known Tryz.prog 6 p.1 p.2 := by
  intro p hp
  rcases List.mem_cons.1 hp with rfl | hp
  · exact kF12x0
  cases hp
def sF2 : List UInt8 := [40, 49, 32, 43, 32, 40, 49, 32, 43, 32, 40, 49, 32, 43, 32, 40, 49, 32, 43, 32, 40, 49, 32, 43, 32, 40, 49, 32, 43, 32, 40, 49, 32, 43, 32, 40, 49, 32, 43, 32, 40, 49, 32, 43, 32, 123, 125, 91, 53, 93, 41, 41, 41, 41, 41, 41, 41, 41, 41]
theorem kF20x0 : Known Tryz.prog 25 [.str (sF2.drop 0)] rF2 := known mixed (kinds := kinds) (n := 300) S_ok (by kernel_rfl)
theorem kF20x1 : Known Tryz.prog 25 [.str (sF2.drop 1)] rF11 := known mixed (kinds := kinds) (n := 300) S_ok (by kernel_rfl)
theorem kF20x2 : Known Tryz.prog 25 [.str (sF2.drop 3)] rF12 := known mixed (kinds := kinds) (n := 300) S_ok (by kernel_rfl)
theorem kF20x3 : Known Tryz.prog 25 [.str (sF2.drop 5)] rF2 := known mixed (kinds := kinds) (n := 300) S_ok (by kernel_rfl)
theorem kF20x4 : Known Tryz.prog 25 [.str (sF2.drop 6)] rF11 := known mixed (kinds := kinds) (n := 300) S_ok (by kernel_rfl)
theorem kF20x5 : Known Tryz.prog 25 [.str (sF2.drop 8)] rF12 := known mixed (kinds := kinds) (n := 300) S_ok (by kernel_rfl)
theorem kF20x6 : Known Tryz.prog 25 [.str (sF2.drop 10)] rF2 := known mixed (kinds := kinds) (n := 300) S_ok (by kernel_rfl)
theorem kF20x7 : Known Tryz.prog 25 [.str (sF2.drop 11)] rF11 := known mixed (kinds := kinds) (n := 300) S_ok (by kernel_rfl)
theorem kF20x8 : Known Tryz.prog 25 [.str (sF2.drop 13)] rF12 := known mixed (kinds := kinds) (n := 300) S_ok (by kernel_rfl)
theorem kF20x9 : Known Tryz.prog 25 [.str (sF2.drop 15)] rF2 := known mixed (kinds := kinds) (n := 300) S_ok (by kernel_rfl)
theorem kF20x10 : Known Tryz.prog 25 [.str (sF2.drop 16)] rF11 := known mixed (kinds := kinds) (n := 300) S_ok (by kernel_rfl)
theorem kF20x11 : Known Tryz.prog 25 [.str (sF2.drop 18)] rF12 := known mixed (kinds := kinds) (n := 300) S_ok (by kernel_rfl)
theorem kF20x12 : Known Tryz.prog 25 [.str (sF2.drop 20)] rF2 := known mixed (kinds := kinds) (n := 300) S_ok (by kernel_rfl)
theorem kF20x13 : Known Tryz.prog 25 [.str (sF2.drop 21)] rF11 := known mixed (kinds := kinds) (n := 300) S_ok (by kernel_rfl)
theorem kF20x14 : Known Tryz.prog 25 [.str (sF2.drop 23)] rF12 := known mixed (kinds := kinds) (n := 300) S_ok (by kernel_rfl)
theorem kF20x15 : Known Tryz.prog 25 [.str (sF2.drop 25)] rF2 := known mixed (kinds := kinds) (n := 300) S_ok (by kernel_rfl)
theorem kF20x16 : Known Tryz.prog 25 [.str (sF2.drop 26)] rF11 := known mixed (kinds := kinds) (n := 300) S_ok (by kernel_rfl)
theorem kF20x17 : Known Tryz.prog 25 [.str (sF2.drop 28)] rF12 := known mixed (kinds := kinds) (n := 300) S_ok (by kernel_rfl)
theorem kF20x18 : Known Tryz.prog 25 [.str (sF2.drop 30)] rF2 := known mixed (kinds := kinds) (n := 300) S_ok (by kernel_rfl)
theorem kF20x19 : Known Tryz.prog 25 [.str (sF2.drop 31)] rF11 := known mixed (kinds := kinds) (n := 300) S_ok (by kernel_rfl)
theorem kF20x20 : Known Tryz.prog 25 [.str (sF2.drop 33)] rF12 := known mixed (kinds := kinds) (n := 300) S_ok (by kernel_rfl)
theorem kF20x21 : Known Tryz.prog 25 [.str (sF2.drop 35)] rF2 := known mixed (kinds := kinds) (n := 300) S_ok (by kernel_rfl)
theorem kF20x22 : Known Tryz.prog 25 [.str (sF2.drop 36)] rF11 := known mixed (kinds := kinds) (n := 300) S_ok (by kernel_rfl)
theorem kF20x23 : Known Tryz.prog 25 [.str (sF2.drop 38)] rF12 := known mixed (kinds := kinds) (n := 300) S_ok (by kernel_rfl)
theorem kF20x24 : Known Tryz.prog 25 [.str (sF2.drop 40)] rF2 := known mixed (kinds := kinds) (n := 300) S_ok (by kernel_rfl)
theorem kF20x25 : Known Tryz.prog 25 [.str (sF2.drop 41)] rF11 := known mixed (kinds := kinds) (n := 300) S_ok (by kernel_rfl)
theorem kF20x26 : Known Tryz.prog 25 [.str (sF2.drop 43)] rF12 := known mixed (kinds := kinds) (n := 300) S_ok (by kernel_rfl)
theorem kF20x27 : Known Tryz.prog 25 [.str (sF2.drop 45)] rF4 := known mixed (kinds := kinds) (n := 300) S_ok (by kernel_rfl)
theorem kF20x28 : Known Tryz.prog 25 [.str (sF2.drop 46)] rF5 := known mixed (kinds := kinds) (n := 300) S_ok (by kernel_rfl)
theorem kF20x29 : Known Tryz.prog 25 [.str (sF2.drop 47)] rF6 := known mixed (kinds := kinds) (n := 300) S_ok (by kernel_rfl)
theorem kF20x30 : Known Tryz.prog 25 [.str (sF2.drop 48)] rF7 := known mixed (kinds := kinds) (n := 300) S_ok (by kernel_rfl)
theorem kF20x31 : Known Tryz.prog 25 [.str (sF2.drop 49)] rF8 := known mixed (kinds := kinds) (n := 300) S_ok (by kernel_rfl)
theorem kF20x32 : Known Tryz.prog 25 [.str (sF2.drop 50)] rF3 := known mixed (kinds := kinds) (n := 300) S_ok (by kernel_rfl)
theorem kF20x33 : Known Tryz.prog 25 [.str (sF2.drop 51)] rF3 := known mixed (kinds := kinds) (n := 300) S_ok (by kernel_rfl)
theorem kF20x34 : Known Tryz.prog 25 [.str (sF2.drop 52)] rF3 := known mixed (kinds := kinds) (n := 300) S_ok (by kernel_rfl)
theorem kF20x35 : Known Tryz.prog 25 [.str (sF2.drop 53)] rF3 := known mixed (kinds := kinds) (n := 300) S_ok (by kernel_rfl)
theorem kF20x36 : Known Tryz.prog 25 [.str (sF2.drop 54)] rF3 := known mixed (kinds := kinds) (n := 300) S_ok (by kernel_rfl)
theorem kF20x37 : Known Tryz.prog 25 [.str (sF2.drop 55)] rF3 := known mixed (kinds := kinds) (n := 300) S_ok (by kernel_rfl)
theorem kF20x38 : Known Tryz.prog 25 [.str (sF2.drop 56)] rF3 := known mixed (kinds := kinds) (n := 300) S_ok (by kernel_rfl)
theorem kF20x39 : Known Tryz.prog 25 [.str (sF2.drop 57)] rF3 := known mixed (kinds := kinds) (n := 300) S_ok (by kernel_rfl)
theorem kF20x40 : Known Tryz.prog 25 [.str (sF2.drop 58)] rF3 := known mixed (kinds := kinds) (n := 300) S_ok (by kernel_rfl)
def mF20 : List (List D × AV) := [([.str (sF2.drop 0)], rF2), ([.str (sF2.drop 1)], rF11), ([.str (sF2.drop 3)], rF12), ([.str (sF2.drop 5)], rF2), ([.str (sF2.drop 6)], rF11), ([.str (sF2.drop 8)], rF12), ([.str (sF2.drop 10)], rF2), ([.str (sF2.drop 11)], rF11), ([.str (sF2.drop 13)], rF12), ([.str (sF2.drop 15)], rF2), ([.str (sF2.drop 16)], rF11), ([.str (sF2.drop 18)], rF12), ([.str (sF2.drop 20)], rF2), ([.str (sF2.drop 21)], rF11), ([.str (sF2.drop 23)], rF12), ([.str (sF2.drop 25)], rF2), ([.str (sF2.drop 26)], rF11), ([.str (sF2.drop 28)], rF12), ([.str (sF2.drop 30)], rF2), ([.str (sF2.drop 31)], rF11), ([.str (sF2.drop 33)], rF12), ([.str (sF2.drop 35)], rF2), ([.str (sF2.drop 36)], rF11), ([.str (sF2.drop 38)], rF12), ([.str (sF2.drop 40)], rF2), ([.str (sF2.drop 41)], rF11), ([.str (sF2.drop 43)], rF12), ([.str (sF2.drop 45)], rF4), ([.str (sF2.drop 46)], rF5), ([.str (sF2.drop 47)], rF6), ([.str (sF2.drop 48)], rF7), ([.str (sF2.drop 49)], rF8), ([.str (sF2.drop 50)], rF3), ([.str (sF2.drop 51)], rF3), ([.str (sF2.drop 52)], rF3), ([.str (sF2.drop 53)], rF3), ([.str (sF2.drop 54)], rF3), ([.str (sF2.drop 55)], rF3), ([.str (sF2.drop 56)], rF3), ([.str (sF2.drop 57)], rF3), ([.str (sF2.drop 58)], rF3)]
theorem mF20_ok : ∀ p, p ∈ mF20 → Known Tryz.prog 25 p.1 p.2 := by
  intro p hp
  rcases List.mem_cons.1 hp with rfl | hp
  · exact kF20x0
  rcases List.mem_cons.1 hp with rfl | hp
  · exact kF20x1
  rcases List.mem_cons.1 hp with rfl | hp
  · exact kF20x2
  rcases List.mem_cons.1 hp with rfl | hp
  · exact kF20x3
  rcases List.mem_cons.1 hp with rfl | hp
  · exact kF20x4
  rcases List.mem_cons.1 hp with rfl | hp
  · exact kF20x5
  rcases List.mem_cons.1 hp with rfl | hp
  · exact kF20x6
  rcases List.mem_cons.1 hp with rfl | hp
  · exact kF20x7
  rcases List.mem_cons.1 hp with rfl | hp
  · exact kF20x8
  rcases List.mem_cons.1 hp with rfl | hp
  · exact kF20x9
  rcases List.mem_cons.1 hp with rfl | hp
  · exact kF20x10
  rcases List.mem_cons.1 hp with rfl | hp
  · exact kF20x11
  rcases List.mem_cons.1 hp with rfl | hp
  · exact kF20x12
  rcases List.mem_cons.1 hp with rfl | hp
  · exact kF20x13
  rcases List.mem_cons.1 hp with rfl | hp
  · exact kF20x14
  rcases List.mem_cons.1 hp with rfl | hp
  · exact kF20x15
  rcases List.mem_cons.1 hp with rfl | hp
  · exact kF20x16
  rcases List.mem_cons.1 hp with rfl | hp
  · exact kF20x17
  rcases List.mem_cons.1 hp with rfl | hp
  · exact kF20x18
  rcases List.mem_cons.1 hp with rfl | hp
  · exact kF20x19
  rcases List.mem_cons.1 hp with rfl | hp
  · exact kF20x20
  rcases List.mem_cons.1 hp with rfl | hp
  · exact kF20x21
  rcases List.mem_cons.1 hp with rfl | hp
  · exact kF20x22
  rcases List.mem_cons.1 hp with rfl | hp
  · exact kF20x23
  rcases List.mem_cons.1 hp with rfl | hp
  · exact kF20x24
  rcases List.mem_cons.1 hp with rfl | hp
  · exact kF20x25
  rcases List.mem_cons.1 hp with rfl | hp
  · exact kF20x26
  rcases List.mem_cons.1 hp with rfl | hp
  · exact kF20x27
  rcases List.mem_cons.1 hp with rfl | hp
  · exact kF20x28
  rcases List.mem_cons.1 hp with rfl | hp
  · exact kF20x29
  rcases List.mem_cons.1 hp with rfl | hp
  · exact kF20x30
  rcases List.mem_cons.1 hp with rfl | hp
  · exact kF20x31
  rcases List.mem_cons.1 hp with rfl | hp
  · exact kF20x32
  rcases List.mem_cons.1 hp with rfl | hp
  · exact kF20x33
  rcases List.mem_cons.1 hp with rfl | hp
  · exact kF20x34
  rcases List.mem_cons.1 hp with rfl | hp
  · exact kF20x35
  rcases List.mem_cons.1 hp with rfl | hp
  · exact kF20x36
  rcases List.mem_cons.1 hp with rfl | hp
  · exact kF20x37
  rcases List.mem_cons.1 hp with rfl | hp
  · exact kF20x38
  rcases List.mem_cons.1 hp with rfl | hp
  · exact kF20x39
  rcases List.mem_cons.1 hp with rfl | hp
  · exact kF20x40
  cases hp
def SF20 : FuncId → Option (List AV → Boxes → M (AV × Boxes)) := fun f => if f = 25 then some (plainV (memoG mF20)) else S f
theorem SF20_ok : ∀ f s, SF20 f = some s → CallAt Tryz.prog f s := by
  intro f s h
  unfold SF20 at h
  split at h
  · rename_i e; subst e; cases h; exact memo_at mF20_ok
  · exact S_ok f s h
def rF15 : AV := (.tup [(.d (.sl (.pair (.int .i64) (.pair (.int .i64) (.pair (.int .i64) .str))) [((4 : Int), ((0 : Int), ((0 : Int), ([40] : List UInt8)))), ((1 : Int), ((1 : Int), ((1 : Int), ([] : List UInt8)))), ((4 : Int), ((0 : Int), ((3 : Int), ([43] : List UInt8)))), ((4 : Int), ((0 : Int), ((5 : Int), ([40] : List UInt8)))), ((1 : Int), ((1 : Int), ((6 : Int), ([] : List UInt8)))), ((4 : Int), ((0 : Int), ((8 : Int), ([43] : List UInt8)))), ((4 : Int), ((0 : Int), ((10 : Int), ([40] : List UInt8)))), ((1 : Int), ((1 : Int), ((11 : Int), ([] : List UInt8)))), ((4 : Int), ((0 : Int), ((13 : Int), ([43] : List UInt8)))), ((4 : Int), ((0 : Int), ((15 : Int), ([40] : List UInt8)))), ((1 : Int), ((1 : Int), ((16 : Int), ([] : List UInt8)))), ((4 : Int), ((0 : Int), ((18 : Int), ([43] : List UInt8)))), ((4 : Int), ((0 : Int), ((20 : Int), ([40] : List UInt8)))), ((1 : Int), ((1 : Int), ((21 : Int), ([] : List UInt8)))), ((4 : Int), ((0 : Int), ((23 : Int), ([43] : List UInt8)))), ((4 : Int), ((0 : Int), ((25 : Int), ([40] : List UInt8)))), ((1 : Int), ((1 : Int), ((26 : Int), ([] : List UInt8)))), ((4 : Int), ((0 : Int), ((28 : Int), ([43] : List UInt8)))), ((4 : Int), ((0 : Int), ((30 : Int), ([40] : List UInt8)))), ((1 : Int), ((1 : Int), ((31 : Int), ([] : List UInt8)))), ((4 : Int), ((0 : Int), ((33 : Int), ([43] : List UInt8)))), ((4 : Int), ((0 : Int), ((35 : Int), ([40] : List UInt8)))), ((1 : Int), ((1 : Int), ((36 : Int), ([] : List UInt8)))), ((4 : Int), ((0 : Int), ((38 : Int), ([43] : List UInt8)))), ((4 : Int), ((0 : Int), ((40 : Int), ([40] : List UInt8)))), ((1 : Int), ((1 : Int), ((41 : Int), ([] : List UInt8)))), ((4 : Int), ((0 : Int), ((43 : Int), ([43] : List UInt8)))), ((4 : Int), ((0 : Int), ((45 : Int), ([123] : List UInt8)))), ((4 : Int), ((0 : Int), ((46 : Int), ([125] : List UInt8)))), ((4 : Int), ((0 : Int), ((47 : Int), ([91] : List UInt8)))), ((1 : Int), ((5 : Int), ((48 : Int), ([] : List UInt8)))), ((4 : Int), ((0 : Int), ((49 : Int), ([93] : List UInt8)))), ((4 : Int), ((0 : Int), ((50 : Int), ([41] : List UInt8)))), ((4 : Int), ((0 : Int), ((51 : Int), ([41] : List UInt8)))), ((4 : Int), ((0 : Int), ((52 : Int), ([41] : List UInt8)))), ((4 : Int), ((0 : Int), ((53 : Int), ([41] : List UInt8)))), ((4 : Int), ((0 : Int), ((54 : Int), ([41] : List UInt8)))), ((4 : Int), ((0 : Int), ((55 : Int), ([41] : List UInt8)))), ((4 : Int), ((0 : Int), ((56 : Int), ([41] : List UInt8)))), ((4 : Int), ((0 : Int), ((57 : Int), ([41] : List UInt8)))), ((4 : Int), ((0 : Int), ((58 : Int), ([41] : List UInt8))))])), (.d (.int .i64 (0))), (.d (.int .i64 (0)))])
theorem kF21x0 : Known Tryz.prog 14 [.str sF2] rF15 := known mixed (kinds := kinds) (n := 300) SF20_ok (by kernel_rfl)
def mF21 : List (List D × AV) := [([.str sF2], rF15)]
theorem mF21_ok : ∀ p, p ∈ mF21 → Known Tryz.prog 14 p.1 p.2 := by
  intro p hp
  rcases List.mem_cons.1 hp with rfl | hp
  · exact kF21x0
  cases hp
def SF21 : FuncId → Option (List AV → Boxes → M (AV × Boxes)) := fun f => if f = 14 then some (plainV (memoG mF21)) else SF20 f
theorem SF21_ok : ∀ f s, SF21 f = some s → CallAt Tryz.prog f s := by
  intro f s h
  unfold SF21 at h
  split at h
  · rename_i e; subst e; cases h; exact memo_at mF21_ok
  · exact SF20_ok f s h
theorem kF22x0 : Known Tryz.prog 6 [.str sF2] rF14 := known mixed (kinds := kinds) (n := 300) SF21_ok (by kernel_rfl)
def mF22 : List (List D × AV) := [([.str sF2], rF14)]
theorem mF22_ok : ∀ p, p ∈ mF22 → Known Tryz.prog 6 p.1 p.2 := by
  intro p hp
  rcases List.mem_cons.1 hp with rfl | hp
  · exact kF22x0
  cases hp
def sF3 : List UInt8 := [115, 117, 109, 32, 98, 121, 32, 40, 41, 32, 40, 115, 117, 109, 32, 98, 121, 32, 40, 41, 32, 40, 115, 117, 109, 32, 98, 121, 32, 40, 41, 32, 40, 123, 125, 91, 53, 93, 41, 41, 41]
theorem kF30x0 : Known Tryz.prog 25 [.str (sF3.drop 0)] rF0 := known mixed (kinds := kinds) (n := 300) S_ok (by kernel_rfl)
theorem kF30x1 : Known Tryz.prog 25 [.str (sF3.drop 4)] rF1 := known mixed (kinds := kinds) (n := 300) S_ok (by kernel_rfl)
theorem kF30x2 : Known Tryz.prog 25 [.str (sF3.drop 7)] rF2 := known mixed (kinds := kinds) (n := 300) S_ok (by kernel_rfl)
theorem kF30x3 : Known Tryz.prog 25 [.str (sF3.drop 8)] rF3 := known mixed (kinds := kinds) (n := 300) S_ok (by kernel_rfl)
theorem kF30x4 : Known Tryz.prog 25 [.str (sF3.drop 10)] rF2 := known mixed (kinds := kinds) (n := 300) S_ok (by kernel_rfl)
theorem kF30x5 : Known Tryz.prog 25 [.str (sF3.drop 11)] rF0 := known mixed (kinds := kinds) (n := 300) S_ok (by kernel_rfl)
theorem kF30x6 : Known Tryz.prog 25 [.str (sF3.drop 15)] rF1 := known mixed (kinds := kinds) (n := 300) S_ok (by kernel_rfl)
theorem kF30x7 : Known Tryz.prog 25 [.str (sF3.drop 18)] rF2 := known mixed (kinds := kinds) (n := 300) S_ok (by kernel_rfl)
theorem kF30x8 : Known Tryz.prog 25 [.str (sF3.drop 19)] rF3 := known mixed (kinds := kinds) (n := 300) S_ok (by kernel_rfl)
theorem kF30x9 : Known Tryz.prog 25 [.str (sF3.drop 21)] rF2 := known mixed (kinds := kinds) (n := 300) S_ok (by kernel_rfl)
theorem kF30x10 : Known Tryz.prog 25 [.str (sF3.drop 22)] rF0 := known mixed (kinds := kinds) (n := 300) S_ok (by kernel_rfl)
theorem kF30x11 : Known Tryz.prog 25 [.str (sF3.drop 26)] rF1 := known mixed (kinds := kinds) (n := 300) S_ok (by kernel_rfl)
theorem kF30x12 : Known Tryz.prog 25 [.str (sF3.drop 29)] rF2 := known mixed (kinds := kinds) (n := 300) S_ok (by kernel_rfl)
theorem kF30x13 : Known Tryz.prog 25 [.str (sF3.drop 30)] rF3 := known mixed (kinds := kinds) (n := 300) S_ok (by kernel_rfl)
theorem kF30x14 : Known Tryz.prog 25 [.str (sF3.drop 32)] rF2 := known mixed (kinds := kinds) (n := 300) S_ok (by kernel_rfl)
theorem kF30x15 : Known Tryz.prog 25 [.str (sF3.drop 33)] rF4 := known mixed (kinds := kinds) (n := 300) S_ok (by kernel_rfl)
theorem kF30x16 : Known Tryz.prog 25 [.str (sF3.drop 34)] rF5 := known mixed (kinds := kinds) (n := 300) S_ok (by kernel_rfl)
theorem kF30x17 : Known Tryz.prog 25 [.str (sF3.drop 35)] rF6 := known mixed (kinds := kinds) (n := 300) S_ok (by kernel_rfl)
theorem kF30x18 : Known Tryz.prog 25 [.str (sF3.drop 36)] rF7 := known mixed (kinds := kinds) (n := 300) S_ok (by kernel_rfl)
theorem kF30x19 : Known Tryz.prog 25 [.str (sF3.drop 37)] rF8 := known mixed (kinds := kinds) (n := 300) S_ok (by kernel_rfl)
theorem kF30x20 : Known Tryz.prog 25 [.str (sF3.drop 38)] rF3 := known mixed (kinds := kinds) (n := 300) S_ok (by kernel_rfl)
theorem kF30x21 : Known Tryz.prog 25 [.str (sF3.drop 39)] rF3 := known mixed (kinds := kinds) (n := 300) S_ok (by kernel_rfl)
theorem kF30x22 : Known Tryz.prog 25 [.str (sF3.drop 40)] rF3 := known mixed (kinds := kinds) (n := 300) S_ok (by kernel_rfl)
def mF30 : List (List D × AV) := [([.str (sF3.drop 0)], rF0), ([.str (sF3.drop 4)], rF1), ([.str (sF3.drop 7)], rF2), ([.str (sF3.drop 8)], rF3), ([.str (sF3.drop 10)], rF2), ([.str (sF3.drop 11)], rF0), ([.str (sF3.drop 15)], rF1), ([.str (sF3.drop 18)], rF2), ([.str (sF3.drop 19)], rF3), ([.str (sF3.drop 21)], rF2), ([.str (sF3.drop 22)], rF0), ([.str (sF3.drop 26)], rF1), ([.str (sF3.drop 29)], rF2), ([.str (sF3.drop 30)], rF3), ([.str (sF3.drop 32)], rF2), ([.str (sF3.drop 33)], rF4), ([.str (sF3.drop 34)], rF5), ([.str (sF3.drop 35)], rF6), ([.str (sF3.drop 36)], rF7), ([.str (sF3.drop 37)], rF8), ([.str (sF3.drop 38)], rF3), ([.str (sF3.drop 39)], rF3), ([.str (sF3.drop 40)], rF3)]
theorem mF30_ok : ∀ p, p ∈ mF30 → Known Tryz.prog 25 p.1 p.2 := by
  intro p hp
  rcases List.mem_cons.1 hp with rfl | hp
  · exact kF30x0
  rcases List.mem_cons.1 hp with rfl | hp
  · exact kF30x1
  rcases List.mem_cons.1 hp with rfl | hp
  · exact kF30x2
  rcases List.mem_cons.1 hp with rfl | hp
  · exact kF30x3
  rcases List.mem_cons.1 hp with rfl | hp
  · exact kF30x4
  rcases List.mem_cons.1 hp with rfl | hp
  · exact kF30x5
  rcases List.mem_cons.1 hp with rfl | hp
  · exact kF30x6
  rcases List.mem_cons.1 hp with rfl | hp
  · exact kF30x7
  rcases List.mem_cons.1 hp with rfl | hp
  · exact kF30x8
  rcases List.mem_cons.1 hp with rfl | hp
  · exact kF30x9
  rcases List.mem_cons.1 hp with rfl | hp
  · exact kF30x10
  rcases List.mem_cons.1 hp with rfl | hp
  · exact kF30x11
  rcases List.mem_cons.1 hp with rfl | hp
  · exact kF30x12
  rcases List.mem_cons.1 hp with rfl | hp
  · exact kF30x13
  rcases List.mem_cons.1 hp with rfl | hp
  · exact kF30x14
  rcases List.mem_cons.1 hp with rfl | hp
  · exact kF30x15
  rcases List.mem_cons.1 hp with rfl | hp
  · exact kF30x16
  rcases List.mem_cons.1 hp with rfl | hp
  · exact kF30x17
  rcases List.mem_cons.1 hp with rfl | hp
  · exact kF30x18
  rcases List.mem_cons.1 hp with rfl | hp
  · exact kF30x19
  rcases List.mem_cons.1 hp with rfl | hp
  · exact kF30x20
  rcases List.mem_cons.1 hp with rfl | hp
  · exact kF30x21
  rcases List.mem_cons.1 hp with rfl | hp
  · exact kF30x22
  cases hp
def SF30 : FuncId → Option (List AV → Boxes → M (AV × Boxes)) := fun f => if f = 25 then some (plainV (memoG mF30)) else S f
theorem SF30_ok : ∀ f s, SF30 f = some s → CallAt Tryz.prog f s := by
  intro f s h
  unfold SF30 at h
  split at h
  · rename_i e; subst e; cases h; exact memo_at mF30_ok
  · exact S_ok f s h
def rF16 : AV := (.tup [(.d (.sl (.pair (.int .i64) (.pair (.int .i64) (.pair (.int .i64) .str))) [((2 : Int), ((0 : Int), ((0 : Int), ([115, 117, 109] : List UInt8)))), ((2 : Int), ((0 : Int), ((4 : Int), ([98, 121] : List UInt8)))), ((4 : Int), ((0 : Int), ((7 : Int), ([40] : List UInt8)))), ((4 : Int), ((0 : Int), ((8 : Int), ([41] : List UInt8)))), ((4 : Int), ((0 : Int), ((10 : Int), ([40] : List UInt8)))), ((2 : Int), ((0 : Int), ((11 : Int), ([115, 117, 109] : List UInt8)))), ((2 : Int), ((0 : Int), ((15 : Int), ([98, 121] : List UInt8)))), ((4 : Int), ((0 : Int), ((18 : Int), ([40] : List UInt8)))), ((4 : Int), ((0 : Int), ((19 : Int), ([41] : List UInt8)))), ((4 : Int), ((0 : Int), ((21 : Int), ([40] : List UInt8)))), ((2 : Int), ((0 : Int), ((22 : Int), ([115, 117, 109] : List UInt8)))), ((2 : Int), ((0 : Int), ((26 : Int), ([98, 121] : List UInt8)))), ((4 : Int), ((0 : Int), ((29 : Int), ([40] : List UInt8)))), ((4 : Int), ((0 : Int), ((30 : Int), ([41] : List UInt8)))), ((4 : Int), ((0 : Int), ((32 : Int), ([40] : List UInt8)))), ((4 : Int), ((0 : Int), ((33 : Int), ([123] : List UInt8)))), ((4 : Int), ((0 : Int), ((34 : Int), ([125] : List UInt8)))), ((4 : Int), ((0 : Int), ((35 : Int), ([91] : List UInt8)))), ((1 : Int), ((5 : Int), ((36 : Int), ([] : List UInt8)))), ((4 : Int), ((0 : Int), ((37 : Int), ([93] : List UInt8)))), ((4 : Int), ((0 : Int), ((38 : Int), ([41] : List UInt8)))), ((4 : Int), ((0 : Int), ((39 : Int), ([41] : List UInt8)))), ((4 : Int), ((0 : Int), ((40 : Int), ([41] : List UInt8))))])), (.d (.int .i64 (0))), (.d (.int .i64 (0)))])
theorem kF31x0 : Known Tryz.prog 14 [.str sF3] rF16 := known mixed (kinds := kinds) (n := 300) SF30_ok (by kernel_rfl)
def mF31 : List (List D × AV) := [([.str sF3], rF16)]
theorem mF31_ok : ∀ p, p ∈ mF31 → Known Tryz.prog 14 p.1 p.2 := by
  intro p hp
  rcases List.mem_cons.1 hp with rfl | hp
  · exact kF31x0
  cases hp
def SF31 : FuncId → Option (List AV → Boxes → M (AV × Boxes)) := fun f => if f = 14 then some (plainV (memoG mF31)) else SF30 f
theorem SF31_ok : ∀ f s, SF31 f = some s → CallAt Tryz.prog f s := by
  intro f s h
  unfold SF31 at h
  split at h
  · rename_i e; subst e; cases h; exact memo_at mF31_ok
  · exact SF30_ok f s h
def rF17 : AV := (.tup [(.agg [(.d (.int .i64 (17))), (.d (.int .i64 (0))), (.d .nils), (.d .nils), (.d (.sl (.rose (.pair (.int .i64) (.pair (.int .i64) (.pair (.sl (.pair .str (.pair .str (.int .i64)))) (.sl .str))))) [(Rose.mk ((17 : Int), ((0 : Int), ([], []))) [(Rose.mk ((17 : Int), ((0 : Int), ([], []))) [(Rose.mk ((2 : Int), ((5 : Int), ([], []))) [])])])]))]), (.d (.int .i64 (0))), (.d (.int .i64 (0)))])
theorem kF32x0 : Known Tryz.prog 6 [.str sF3] rF17 := known mixed (kinds := kinds) (n := 300) SF31_ok (by kernel_rfl)
def mF32 : List (List D × AV) := [([.str sF3], rF17)]
theorem mF32_ok : ∀ p, p ∈ mF32 → Known Tryz.prog 6 p.1 p.2 := by
  intro p hp
  rcases List.mem_cons.1 hp with rfl | hp
  · exact kF32x0
  cases hp
def sF4 : List UInt8 := [115, 117, 109, 32, 98, 121, 32, 40, 41, 32, 40, 115, 117, 109, 32, 98, 121, 32, 40, 41, 32, 40, 123, 125, 91, 53, 93, 41, 41]
theorem kF40x0 : Known Tryz.prog 25 [.str (sF4.drop 0)] rF0 := known mixed (kinds := kinds) (n := 300) S_ok (by kernel_rfl)
theorem kF40x1 : Known Tryz.prog 25 [.str (sF4.drop 4)] rF1 := known mixed (kinds := kinds) (n := 300) S_ok (by kernel_rfl)
theorem kF40x2 : Known Tryz.prog 25 [.str (sF4.drop 7)] rF2 := known mixed (kinds := kinds) (n := 300) S_ok (by kernel_rfl)
theorem kF40x3 : Known Tryz.prog 25 [.str (sF4.drop 8)] rF3 := known mixed (kinds := kinds) (n := 300) S_ok (by kernel_rfl)
theorem kF40x4 : Known Tryz.prog 25 [.str (sF4.drop 10)] rF2 := known mixed (kinds := kinds) (n := 300) S_ok (by kernel_rfl)
theorem kF40x5 : Known Tryz.prog 25 [.str (sF4.drop 11)] rF0 := known mixed (kinds := kinds) (n := 300) S_ok (by kernel_rfl)
theorem kF40x6 : Known Tryz.prog 25 [.str (sF4.drop 15)] rF1 := known mixed (kinds := kinds) (n := 300) S_ok (by kernel_rfl)
theorem kF40x7 : Known Tryz.prog 25 [.str (sF4.drop 18)] rF2 := known mixed (kinds := kinds) (n := 300) S_ok (by kernel_rfl)
theorem kF40x8 : Known Tryz.prog 25 [.str (sF4.drop 19)] rF3 := known mixed (kinds := kinds) (n := 300) S_ok (by kernel_rfl)
theorem kF40x9 : Known Tryz.prog 25 [.str (sF4.drop 21)] rF2 := known mixed (kinds := kinds) (n := 300) S_ok (by kernel_rfl)
theorem kF40x10 : Known Tryz.prog 25 [.str (sF4.drop 22)] rF4 := known mixed (kinds := kinds) (n := 300) S_ok (by kernel_rfl)
theorem kF40x11 : Known Tryz.prog 25 [.str (sF4.drop 23)] rF5 := known mixed (kinds := kinds) (n := 300) S_ok (by kernel_rfl)
theorem kF40x12 : Known Tryz.prog 25 [.str (sF4.drop 24)] rF6 := known mixed (kinds := kinds) (n := 300) S_ok (by kernel_rfl)
theorem kF40x13 : Known Tryz.prog 25 [.str (sF4.drop 25)] rF7 := known mixed (kinds := kinds) (n := 300) S_ok (by kernel_rfl)
theorem kF40x14 : Known Tryz.prog 25 [.str (sF4.drop 26)] rF8 := known mixed (kinds := kinds) (n := 300) S_ok (by kernel_rfl)
theorem kF40x15 : Known Tryz.prog 25 [.str (sF4.drop 27)] rF3 := known mixed (kinds := kinds) (n := 300) S_ok (by kernel_rfl)
theorem kF40x16 : Known Tryz.prog 25 [.str (sF4.drop 28)] rF3 := known mixed (kinds := kinds) (n := 300) S_ok (by kernel_rfl)
def mF40 : List (List D × AV) := [([.str (sF4.drop 0)], rF0), ([.str (sF4.drop 4)], rF1), ([.str (sF4.drop 7)], rF2), ([.str (sF4.drop 8)], rF3), ([.str (sF4.drop 10)], rF2), ([.str (sF4.drop 11)], rF0), ([.str (sF4.drop 15)], rF1), ([.str (sF4.drop 18)], rF2), ([.str (sF4.drop 19)], rF3), ([.str (sF4.drop 21)], rF2), ([.str (sF4.drop 22)], rF4), ([.str (sF4.drop 23)], rF5), ([.str (sF4.drop 24)], rF6), ([.str (sF4.drop 25)], rF7), ([.str (sF4.drop 26)], rF8), ([.str (sF4.drop 27)], rF3), ([.str (sF4.drop 28)], rF3)]
theorem mF40_ok : ∀ p, p ∈ mF40 → Known Tryz.prog 25 p.1 p.2 := by
  intro p hp
  rcases List.mem_cons.1 hp with rfl | hp
  · exact kF40x0
  rcases List.mem_cons.1 hp with rfl | hp
  · exact kF40x1
  rcases List.mem_cons.1 hp with rfl | hp
  · exact kF40x2
  rcases List.mem_cons.1 hp with rfl | hp
  · exact kF40x3
  rcases List.mem_cons.1 hp with rfl | hp
  · exact kF40x4
  rcases List.mem_cons.1 hp with rfl | hp
  · exact kF40x5
  rcases List.mem_cons.1 hp with rfl | hp
  · exact kF40x6
  rcases List.mem_cons.1 hp with rfl | hp
  · exact kF40x7
  rcases List.mem_cons.1 hp with rfl | hp
  · exact kF40x8
  rcases List.mem_cons.1 hp with rfl | hp
  · exact kF40x9
  rcases List.mem_cons.1 hp with rfl | hp
  · exact kF40x10
  rcases List.mem_cons.1 hp with rfl | hp
  · exact kF40x11
  rcases List.mem_cons.1 hp with rfl | hp
  · exact kF40x12
  rcases List.mem_cons.1 hp with rfl | hp
  · exact kF40x13
  rcases List.mem_cons.1 hp with rfl | hp
  · exact kF40x14
  rcases List.mem_cons.1 hp with rfl | hp
  · exact kF40x15
  rcases List.mem_cons.1 hp with rfl | hp
  · exact kF40x16
  cases hp
def SF40 : FuncId → Option (List AV → Boxes → M (AV × Boxes)) := fun f => if f = 25 then some (plainV (memoG mF40)) else S f
theorem SF40_ok : ∀ f s, SF40 f = some s → CallAt Tryz.prog f s := by
  intro f s h
  unfold SF40 at h
  split at h
  · rename_i e; subst e; cases h; exact memo_at mF40_ok
  · exact S_ok f s h
def rF18 : AV := (.tup [(.d (.sl (.pair (.int .i64) (.pair (.int .i64) (.pair (.int .i64) .str))) [((2 : Int), ((0 : Int), ((0 : Int), ([115, 117, 109] : List UInt8)))), ((2 : Int), ((0 : Int), ((4 : Int), ([98, 121] : List UInt8)))), ((4 : Int), ((0 : Int), ((7 : Int), ([40] : List UInt8)))), ((4 : Int), ((0 : Int), ((8 : Int), ([41] : List UInt8)))), ((4 : Int), ((0 : Int), ((10 : Int), ([40] : List UInt8)))), ((2 : Int), ((0 : Int), ((11 : Int), ([115, 117, 109] : List UInt8)))), ((2 : Int), ((0 : Int), ((15 : Int), ([98, 121] : List UInt8)))), ((4 : Int), ((0 : Int), ((18 : Int), ([40] : List UInt8)))), ((4 : Int), ((0 : Int), ((19 : Int), ([41] : List UInt8)))), ((4 : Int), ((0 : Int), ((21 : Int), ([40] : List UInt8)))), ((4 : Int), ((0 : Int), ((22 : Int), ([123] : List UInt8)))), ((4 : Int), ((0 : Int), ((23 : Int), ([125] : List UInt8)))), ((4 : Int), ((0 : Int), ((24 : Int), ([91] : List UInt8)))), ((1 : Int), ((5 : Int), ((25 : Int), ([] : List UInt8)))), ((4 : Int), ((0 : Int), ((26 : Int), ([93] : List UInt8)))), ((4 : Int), ((0 : Int), ((27 : Int), ([41] : List UInt8)))), ((4 : Int), ((0 : Int), ((28 : Int), ([41] : List UInt8))))])), (.d (.int .i64 (0))), (.d (.int .i64 (0)))])
theorem kF41x0 : Known Tryz.prog 14 [.str sF4] rF18 := known mixed (kinds := kinds) (n := 300) SF40_ok (by kernel_rfl)
def mF41 : List (List D × AV) := [([.str sF4], rF18)]
theorem mF41_ok : ∀ p, p ∈ mF41 → Known Tryz.prog 14 p.1 p.2 := by
  intro p hp
  rcases List.mem_cons.1 hp with rfl | hp
  · exact kF41x0
  cases hp
def SF41 : FuncId → Option (List AV → Boxes → M (AV × Boxes)) := fun f => if f = 14 then some (plainV (memoG mF41)) else SF40 f
theorem SF41_ok : ∀ f s, SF41 f = some s → CallAt Tryz.prog f s := by
  intro f s h
  unfold SF41 at h
  split at h
  · rename_i e; subst e; cases h; exact memo_at mF41_ok
  · exact SF40_ok f s h
def rF19 : AV := (.tup [(.agg [(.d (.int .i64 (17))), (.d (.int .i64 (0))), (.d .nils), (.d .nils), (.d (.sl (.rose (.pair (.int .i64) (.pair (.int .i64) (.pair (.sl (.pair .str (.pair .str (.int .i64)))) (.sl .str))))) [(Rose.mk ((17 : Int), ((0 : Int), ([], []))) [(Rose.mk ((2 : Int), ((5 : Int), ([], []))) [])])]))]), (.d (.int .i64 (0))), (.d (.int .i64 (0)))])
theorem kF42x0 : Known Tryz.prog 6 [.str sF4] rF19 := known mixed (kinds := kinds) (n := 300) SF41_ok (by kernel_rfl)
def mF42 : List (List D × AV) := [([.str sF4], rF19)]
theorem mF42_ok : ∀ p, p ∈ mF42 → Known Tryz.prog 6 p.1 p.2 := by
  intro p hp
  rcases List.mem_cons.1 hp with rfl | hp
  · exact kF42x0
  cases hp
def sF5 : List UInt8 := [40, 49, 32, 43, 32, 123, 125, 91, 53, 93, 41]
theorem kF50x0 : Known Tryz.prog 25 [.str (sF5.drop 0)] rF2 := known mixed (kinds := kinds) (n := 300) S_ok (by kernel_rfl)
theorem kF50x1 : Known Tryz.prog 25 [.str (sF5.drop 1)] rF11 := known mixed (kinds := kinds) (n := 300) S_ok (by kernel_rfl)
theorem kF50x2 : Known Tryz.prog 25 [.str (sF5.drop 3)] rF12 := known mixed (kinds := kinds) (n := 300) S_ok (by kernel_rfl)
theorem kF50x3 : Known Tryz.prog 25 [.str (sF5.drop 5)] rF4 := known mixed (kinds := kinds) (n := 300) S_ok (by kernel_rfl)
theorem kF50x4 : Known Tryz.prog 25 [.str (sF5.drop 6)] rF5 := known mixed (kinds := kinds) (n := 300) S_ok (by kernel_rfl)
theorem kF50x5 : Known Tryz.prog 25 [.str (sF5.drop 7)] rF6 := known mixed (kinds := kinds) (n := 300) S_ok (by kernel_rfl)
theorem kF50x6 : Known Tryz.prog 25 [.str (sF5.drop 8)] rF7 := known mixed (kinds := kinds) (n := 300) S_ok (by kernel_rfl)
theorem kF50x7 : Known Tryz.prog 25 [.str (sF5.drop 9)] rF8 := known mixed (kinds := kinds) (n := 300) S_ok (by kernel_rfl)
theorem kF50x8 : Known Tryz.prog 25 [.str (sF5.drop 10)] rF3 := known mixed (kinds := kinds) (n := 300) S_ok (by kernel_rfl)
def mF50 : List (List D × AV) := [([.str (sF5.drop 0)], rF2), ([.str (sF5.drop 1)], rF11), ([.str (sF5.drop 3)], rF12), ([.str (sF5.drop 5)], rF4), ([.str (sF5.drop 6)], rF5), ([.str (sF5.drop 7)], rF6), ([.str (sF5.drop 8)], rF7), ([.str (sF5.drop 9)], rF8), ([.str (sF5.drop 10)], rF3)]
theorem mF50_ok : ∀ p, p ∈ mF50 → Known Tryz.prog 25 p.1 p.2 := by
  intro p hp
  rcases List.mem_cons.1 hp with rfl | hp
  · exact kF50x0
  rcases List.mem_cons.1 hp with rfl | hp
  · exact kF50x1
  rcases List.mem_cons.1 hp with rfl | hp
  · exact kF50x2
  rcases List.mem_cons.1 hp with rfl | hp
  · exact kF50x3
  rcases List.mem_cons.1 hp with rfl | hp
  · exact kF50x4
  rcases List.mem_cons.1 hp with rfl | hp
  · exact kF50x5
  rcases List.mem_cons.1 hp with rfl | hp
  · exact kF50x6
  rcases List.mem_cons.1 hp with rfl | hp
  · exact kF50x7
  rcases List.mem_cons.1 hp with rfl | hp
  · exact kF50x8
  cases hp
def SF50 : FuncId → Option (List AV → Boxes → M (AV × Boxes)) := fun f => if f = 25 then some (plainV (memoG mF50)) else S f
theorem SF50_ok : ∀ f s, SF50 f = some s → CallAt Tryz.prog f s := by
  intro f s h
  unfold SF50 at h
  split at h
  · rename_i e; subst e; cases h; exact memo_at mF50_ok
  · exact S_ok f s h
def rF20 : AV := (.tup [(.d (.sl (.pair (.int .i64) (.pair (.int .i64) (.pair (.int .i64) .str))) [((4 : Int), ((0 : Int), ((0 : Int), ([40] : List UInt8)))), ((1 : Int), ((1 : Int), ((1 : Int), ([] : List UInt8)))), ((4 : Int), ((0 : Int), ((3 : Int), ([43] : List UInt8)))), ((4 : Int), ((0 : Int), ((5 : Int), ([123] : List UInt8)))), ((4 : Int), ((0 : Int), ((6 : Int), ([125] : List UInt8)))), ((4 : Int), ((0 : Int), ((7 : Int), ([91] : List UInt8)))), ((1 : Int), ((5 : Int), ((8 : Int), ([] : List UInt8)))), ((4 : Int), ((0 : Int), ((9 : Int), ([93] : List UInt8)))), ((4 : Int), ((0 : Int), ((10 : Int), ([41] : List UInt8))))])), (.d (.int .i64 (0))), (.d (.int .i64 (0)))])
theorem kF51x0 : Known Tryz.prog 14 [.str sF5] rF20 := known mixed (kinds := kinds) (n := 300) SF50_ok (by kernel_rfl)
def mF51 : List (List D × AV) := [([.str sF5], rF20)]
theorem mF51_ok : ∀ p, p ∈ mF51 → Known Tryz.prog 14 p.1 p.2 := by
  intro p hp
  rcases List.mem_cons.1 hp with rfl | hp
  · exact kF51x0
  cases hp
def SF51 : FuncId → Option (List AV → Boxes → M (AV × Boxes)) := fun f => if f = 14 then some (plainV (memoG mF51)) else SF50 f
theorem SF51_ok : ∀ f s, SF51 f = some s → CallAt Tryz.prog f s := by
  intro f s h
  unfold SF51 at h
  split at h
  · rename_i e; subst e; cases h; exact memo_at mF51_ok
  · exact SF50_ok f s h
def rF21 : AV := (.tup [(.agg [(.d (.int .i64 (3))), (.d (.int .i64 (0))), (.d .nils), (.d .nils), (.d (.sl (.rose (.pair (.int .i64) (.pair (.int .i64) (.pair (.sl (.pair .str (.pair .str (.int .i64)))) (.sl .str))))) [(Rose.mk ((1 : Int), ((1 : Int), ([], []))) []), (Rose.mk ((2 : Int), ((5 : Int), ([], []))) [])]))]), (.d (.int .i64 (0))), (.d (.int .i64 (0)))])
theorem kF52x0 : Known Tryz.prog 6 [.str sF5] rF21 := known mixed (kinds := kinds) (n := 300) SF51_ok (by kernel_rfl)
def mF52 : List (List D × AV) := [([.str sF5], rF21)]
theorem mF52_ok : ∀ p, p ∈ mF52 → Known Tryz.prog 6 p.1 p.2 := by
  intro p hp
  rcases List.mem_cons.1 hp with rfl | hp
  · exact kF52x0
  cases hp
end Go.Proofs.YtnmakkgomplchaaGreatDoor.EvS.ExprDeep
