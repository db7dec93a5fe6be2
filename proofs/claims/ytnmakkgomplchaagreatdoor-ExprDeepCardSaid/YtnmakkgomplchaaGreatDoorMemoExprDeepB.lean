/- Calls over plain data, each reckoned once. Conditions: none. -/
import Derived.Test.YtnmakkgomplchaaGreatDoorLibS
import Derived.Test.YtnmakkgomplchaaGreatDoorEvZg
namespace Go.Proofs.YtnmakkgomplchaaGreatDoor.EvS.ExprDeep
open Go.Ev
set_option maxRecDepth 100000
def sB0 : List UInt8 := [115, 117, 109, 32, 98, 121, 32, 40, 41, 32, 40, 115, 117, 109, 32, 98, 121, 32, 40, 41, 32, 40, 115, 117, 109, 32, 98, 121, 32, 40, 41, 32, 40, 115, 117, 109, 32, 98, 121, 32, 40, 41, 32, 40, 115, 117, 109, 32, 98, 121, 32, 40, 41, 32, 40, 115, 117, 109, 32, 98, 121, 32, 40, 41, 32, 40, 115, 117, 109, 32, 98, 121, 32, 40, 41, 32, 40, 115, 117, 109, 32, 98, 121, 32, 40, 41, 32, 40, 115, 117, 109, 32, 98, 121, 32, 40, 41, 32, 40, 115, 117, 109, 32, 98, 121, 32, 40, 41, 32, 40, 123, 125, 91, 53, 93, 41, 41, 41, 41, 41, 41, 41, 41, 41, 41]
def rB0 : AV := (.tup [(.agg [(.d (.int .i64 (2))), (.d (.int .i64 (0))), (.d (.int .i64 (0))), (.d (.str [115, 117, 109]))]), (.d (.int .i64 (3))), (.d (.bool true))])
theorem kB00x0 : Known Tryz.prog 25 [.str (sB0.drop 0)] rB0 := known mixed (kinds := kinds) (n := 300) S_ok (by kernel_rfl)
def rB1 : AV := (.tup [(.agg [(.d (.int .i64 (2))), (.d (.int .i64 (0))), (.d (.int .i64 (0))), (.d (.str [98, 121]))]), (.d (.int .i64 (2))), (.d (.bool true))])
theorem kB00x1 : Known Tryz.prog 25 [.str (sB0.drop 4)] rB1 := known mixed (kinds := kinds) (n := 300) S_ok (by kernel_rfl)
def rB2 : AV := (.tup [(.agg [(.d (.int .i64 (4))), (.d (.int .i64 (0))), (.d (.int .i64 (0))), (.d (.str [40]))]), (.d (.int .i64 (1))), (.d (.bool true))])
theorem kB00x2 : Known Tryz.prog 25 [.str (sB0.drop 7)] rB2 := known mixed (kinds := kinds) (n := 300) S_ok (by kernel_rfl)
def rB3 : AV := (.tup [(.agg [(.d (.int .i64 (4))), (.d (.int .i64 (0))), (.d (.int .i64 (0))), (.d (.str [41]))]), (.d (.int .i64 (1))), (.d (.bool true))])
theorem kB00x3 : Known Tryz.prog 25 [.str (sB0.drop 8)] rB3 := known mixed (kinds := kinds) (n := 300) S_ok (by kernel_rfl)
theorem kB00x4 : Known Tryz.prog 25 [.str (sB0.drop 10)] rB2 := known mixed (kinds := kinds) (n := 300) S_ok (by kernel_rfl)
theorem kB00x5 : Known Tryz.prog 25 [.str (sB0.drop 11)] rB0 := known mixed (kinds := kinds) (n := 300) S_ok (by kernel_rfl)
theorem kB00x6 : Known Tryz.prog 25 [.str (sB0.drop 15)] rB1 := known mixed (kinds := kinds) (n := 300) S_ok (by kernel_rfl)
theorem kB00x7 : Known Tryz.prog 25 [.str (sB0.drop 18)] rB2 := known mixed (kinds := kinds) (n := 300) S_ok (by kernel_rfl)
theorem kB00x8 : Known Tryz.prog 25 [.str (sB0.drop 19)] rB3 := known mixed (kinds := kinds) (n := 300) S_ok (by kernel_rfl)
theorem kB00x9 : Known Tryz.prog 25 [.str (sB0.drop 21)] rB2 := known mixed (kinds := kinds) (n := 300) S_ok (by kernel_rfl)
theorem kB00x10 : Known Tryz.prog 25 [.str (sB0.drop 22)] rB0 := known mixed (kinds := kinds) (n := 300) S_ok (by kernel_rfl)
theorem kB00x11 : Known Tryz.prog 25 [.str (sB0.drop 26)] rB1 := known mixed (kinds := kinds) (n := 300) S_ok (by kernel_rfl)
theorem kB00x12 : Known Tryz.prog 25 [.str (sB0.drop 29)] rB2 := known mixed (kinds := kinds) (n := 300) S_ok (by kernel_rfl)
theorem kB00x13 : Known Tryz.prog 25 [.str (sB0.drop 30)] rB3 := known mixed (kinds := kinds) (n := 300) S_ok (by kernel_rfl)
theorem kB00x14 : Known Tryz.prog 25 [.str (sB0.drop 32)] rB2 := known mixed (kinds := kinds) (n := 300) S_ok (by kernel_rfl)
theorem kB00x15 : Known Tryz.prog 25 [.str (sB0.drop 33)] rB0 := known mixed (kinds := kinds) (n := 300) S_ok (by kernel_rfl)
theorem kB00x16 : Known Tryz.prog 25 [.str (sB0.drop 37)] rB1 := known mixed (kinds := kinds) (n := 300) S_ok (by kernel_rfl)
theorem kB00x17 : Known Tryz.prog 25 [.str (sB0.drop 40)] rB2 := known mixed (kinds := kinds) (n := 300) S_ok (by kernel_rfl)
theorem kB00x18 : Known Tryz.prog 25 [.str (sB0.drop 41)] rB3 := known mixed (kinds := kinds) (n := 300) S_ok (by kernel_rfl)
theorem kB00x19 : Known Tryz.prog 25 [.str (sB0.drop 43)] rB2 := known mixed (kinds := kinds) (n := 300) S_ok (by kernel_rfl)
theorem kB00x20 : Known Tryz.prog 25 [.str (sB0.drop 44)] rB0 := known mixed (kinds := kinds) (n := 300) S_ok (by kernel_rfl)
theorem kB00x21 : Known Tryz.prog 25 [.str (sB0.drop 48)] rB1 := known mixed (kinds := kinds) (n := 300) S_ok (by kernel_rfl)
theorem kB00x22 : Known Tryz.prog 25 [.str (sB0.drop 51)] rB2 := known mixed (kinds := kinds) (n := 300) S_ok (by kernel_rfl)
theorem kB00x23 : Known Tryz.prog 25 [.str (sB0.drop 52)] rB3 := known mixed (kinds := kinds) (n := 300) S_ok (by kernel_rfl)
theorem kB00x24 : Known Tryz.prog 25 [.str (sB0.drop 54)] rB2 := known mixed (kinds := kinds) (n := 300) S_ok (by kernel_rfl)
theorem kB00x25 : Known Tryz.prog 25 [.str (sB0.drop 55)] rB0 := known mixed (kinds := kinds) (n := 300) S_ok (by kernel_rfl)
theorem kB00x26 : Known Tryz.prog 25 [.str (sB0.drop 59)] rB1 := known mixed (kinds := kinds) (n := 300) S_ok (by kernel_rfl)
theorem kB00x27 : Known Tryz.prog 25 [.str (sB0.drop 62)] rB2 := known mixed (kinds := kinds) (n := 300) S_ok (by kernel_rfl)
theorem kB00x28 : Known Tryz.prog 25 [.str (sB0.drop 63)] rB3 := known mixed (kinds := kinds) (n := 300) S_ok (by kernel_rfl)
theorem kB00x29 : Known Tryz.prog 25 [.str (sB0.drop 65)] rB2 := known mixed (kinds := kinds) (n := 300) S_ok (by kernel_rfl)
theorem kB00x30 : Known Tryz.prog 25 [.str (sB0.drop 66)] rB0 := known mixed (kinds := kinds) (n := 300) S_ok (by kernel_rfl)
theorem kB00x31 : Known Tryz.prog 25 [.str (sB0.drop 70)] rB1 := known mixed (kinds := kinds) (n := 300) S_ok (by kernel_rfl)
theorem kB00x32 : Known Tryz.prog 25 [.str (sB0.drop 73)] rB2 := known mixed (kinds := kinds) (n := 300) S_ok (by kernel_rfl)
theorem kB00x33 : Known Tryz.prog 25 [.str (sB0.drop 74)] rB3 := known mixed (kinds := kinds) (n := 300) S_ok (by kernel_rfl)
theorem kB00x34 : Known Tryz.prog 25 [.str (sB0.drop 76)] rB2 := known mixed (kinds := kinds) (n := 300) S_ok (by kernel_rfl)
theorem kB00x35 : Known Tryz.prog 25 [.str (sB0.drop 77)] rB0 := known mixed (kinds := kinds) (n := 300) S_ok (by kernel_rfl)
theorem kB00x36 : Known Tryz.prog 25 [.str (sB0.drop 81)] rB1 := known mixed (kinds := kinds) (n := 300) S_ok (by kernel_rfl)
theorem kB00x37 : Known Tryz.prog 25 [.str (sB0.drop 84)] rB2 := known mixed (kinds := kinds) (n := 300) S_ok (by kernel_rfl)
theorem kB00x38 : Known Tryz.prog 25 [.str (sB0.drop 85)] rB3 := known mixed (kinds := kinds) (n := 300) S_ok (by kernel_rfl)
theorem kB00x39 : Known Tryz.prog 25 [.str (sB0.drop 87)] rB2 := known mixed (kinds := kinds) (n := 300) S_ok (by kernel_rfl)
theorem kB00x40 : Known Tryz.prog 25 [.str (sB0.drop 88)] rB0 := known mixed (kinds := kinds) (n := 300) S_ok (by kernel_rfl)
theorem kB00x41 : Known Tryz.prog 25 [.str (sB0.drop 92)] rB1 := known mixed (kinds := kinds) (n := 300) S_ok (by kernel_rfl)
theorem kB00x42 : Known Tryz.prog 25 [.str (sB0.drop 95)] rB2 := known mixed (kinds := kinds) (n := 300) S_ok (by kernel_rfl)
theorem kB00x43 : Known Tryz.prog 25 [.str (sB0.drop 96)] rB3 := known mixed (kinds := kinds) (n := 300) S_ok (by kernel_rfl)
theorem kB00x44 : Known Tryz.prog 25 [.str (sB0.drop 98)] rB2 := known mixed (kinds := kinds) (n := 300) S_ok (by kernel_rfl)
theorem kB00x45 : Known Tryz.prog 25 [.str (sB0.drop 99)] rB0 := known mixed (kinds := kinds) (n := 300) S_ok (by kernel_rfl)
theorem kB00x46 : Known Tryz.prog 25 [.str (sB0.drop 103)] rB1 := known mixed (kinds := kinds) (n := 300) S_ok (by kernel_rfl)
theorem kB00x47 : Known Tryz.prog 25 [.str (sB0.drop 106)] rB2 := known mixed (kinds := kinds) (n := 300) S_ok (by kernel_rfl)
theorem kB00x48 : Known Tryz.prog 25 [.str (sB0.drop 107)] rB3 := known mixed (kinds := kinds) (n := 300) S_ok (by kernel_rfl)
theorem kB00x49 : Known Tryz.prog 25 [.str (sB0.drop 109)] rB2 := known mixed (kinds := kinds) (n := 300) S_ok (by kernel_rfl)
def rB4 : AV := (.tup [(.agg [(.d (.int .i64 (4))), (.d (.int .i64 (0))), (.d (.int .i64 (0))), (.d (.str [123]))]), (.d (.int .i64 (1))), (.d (.bool true))])
theorem kB00x50 : Known Tryz.prog 25 [.str (sB0.drop 110)] rB4 := known mixed (kinds := kinds) (n := 300) S_ok (by kernel_rfl)
def rB5 : AV := (.tup [(.agg [(.d (.int .i64 (4))), (.d (.int .i64 (0))), (.d (.int .i64 (0))), (.d (.str [125]))]), (.d (.int .i64 (1))), (.d (.bool true))])
theorem kB00x51 : Known Tryz.prog 25 [.str (sB0.drop 111)] rB5 := known mixed (kinds := kinds) (n := 300) S_ok (by kernel_rfl)
def rB6 : AV := (.tup [(.agg [(.d (.int .i64 (4))), (.d (.int .i64 (0))), (.d (.int .i64 (0))), (.d (.str [91]))]), (.d (.int .i64 (1))), (.d (.bool true))])
theorem kB00x52 : Known Tryz.prog 25 [.str (sB0.drop 112)] rB6 := known mixed (kinds := kinds) (n := 300) S_ok (by kernel_rfl)
def rB7 : AV := (.tup [(.agg [(.d (.int .i64 (1))), (.d (.int .i64 (5))), (.d (.int .i64 (0))), (.d (.str []))]), (.d (.int .i64 (1))), (.d (.bool true))])
theorem kB00x53 : Known Tryz.prog 25 [.str (sB0.drop 113)] rB7 := known mixed (kinds := kinds) (n := 300) S_ok (by kernel_rfl)
def rB8 : AV := (.tup [(.agg [(.d (.int .i64 (4))), (.d (.int .i64 (0))), (.d (.int .i64 (0))), (.d (.str [93]))]), (.d (.int .i64 (1))), (.d (.bool true))])
theorem kB00x54 : Known Tryz.prog 25 [.str (sB0.drop 114)] rB8 := known mixed (kinds := kinds) (n := 300) S_ok (by kernel_rfl)
theorem kB00x55 : Known Tryz.prog 25 [.str (sB0.drop 115)] rB3 := known mixed (kinds := kinds) (n := 300) S_ok (by kernel_rfl)
theorem kB00x56 : Known Tryz.prog 25 [.str (sB0.drop 116)] rB3 := known mixed (kinds := kinds) (n := 300) S_ok (by kernel_rfl)
theorem kB00x57 : Known Tryz.prog 25 [.str (sB0.drop 117)] rB3 := known mixed (kinds := kinds) (n := 300) S_ok (by kernel_rfl)
theorem kB00x58 : Known Tryz.prog 25 [.str (sB0.drop 118)] rB3 := known mixed (kinds := kinds) (n := 300) S_ok (by kernel_rfl)
theorem kB00x59 : Known Tryz.prog 25 [.str (sB0.drop 119)] rB3 := known mixed (kinds := kinds) (n := 300) S_ok (by kernel_rfl)
theorem kB00x60 : Known Tryz.prog 25 [.str (sB0.drop 120)] rB3 := known mixed (kinds := kinds) (n := 300) S_ok (by kernel_rfl)
theorem kB00x61 : Known Tryz.prog 25 [.str (sB0.drop 121)] rB3 := known mixed (kinds := kinds) (n := 300) S_ok (by kernel_rfl)
theorem kB00x62 : Known Tryz.prog 25 [.str (sB0.drop 122)] rB3 := known mixed (kinds := kinds) (n := 300) S_ok (by kernel_rfl)
theorem kB00x63 : Known Tryz.prog 25 [.str (sB0.drop 123)] rB3 := known mixed (kinds := kinds) (n := 300) S_ok (by kernel_rfl)
theorem kB00x64 : Known Tryz.prog 25 [.str (sB0.drop 124)] rB3 := known mixed (kinds := kinds) (n := 300) S_ok (by kernel_rfl)
def mB00 : List (List D × AV) := [([.str (sB0.drop 0)], rB0), ([.str (sB0.drop 4)], rB1), ([.str (sB0.drop 7)], rB2), ([.str (sB0.drop 8)], rB3), ([.str (sB0.drop 10)], rB2), ([.str (sB0.drop 11)], rB0), ([.str (sB0.drop 15)], rB1), ([.str (sB0.drop 18)], rB2), ([.str (sB0.drop 19)], rB3), ([.str (sB0.drop 21)], rB2), ([.str (sB0.drop 22)], rB0), ([.str (sB0.drop 26)], rB1), ([.str (sB0.drop 29)], rB2), ([.str (sB0.drop 30)], rB3), ([.str (sB0.drop 32)], rB2), ([.str (sB0.drop 33)], rB0), ([.str (sB0.drop 37)], rB1), ([.str (sB0.drop 40)], rB2), ([.str (sB0.drop 41)], rB3), ([.str (sB0.drop 43)], rB2), ([.str (sB0.drop 44)], rB0), ([.str (sB0.drop 48)], rB1), ([.str (sB0.drop 51)], rB2), ([.str (sB0.drop 52)], rB3), ([.str (sB0.drop 54)], rB2), ([.str (sB0.drop 55)], rB0), ([.str (sB0.drop 59)], rB1), ([.str (sB0.drop 62)], rB2), ([.str (sB0.drop 63)], rB3), ([.str (sB0.drop 65)], rB2), ([.str (sB0.drop 66)], rB0), ([.str (sB0.drop 70)], rB1), ([.str (sB0.drop 73)], rB2), ([.str (sB0.drop 74)], rB3), ([.str (sB0.drop 76)], rB2), ([.str (sB0.drop 77)], rB0), ([.str (sB0.drop 81)], rB1), ([.str (sB0.drop 84)], rB2), ([.str (sB0.drop 85)], rB3), ([.str (sB0.drop 87)], rB2), ([.str (sB0.drop 88)], rB0), ([.str (sB0.drop 92)], rB1), ([.str (sB0.drop 95)], rB2), ([.str (sB0.drop 96)], rB3), ([.str (sB0.drop 98)], rB2), ([.str (sB0.drop 99)], rB0), ([.str (sB0.drop 103)], rB1), ([.str (sB0.drop 106)], rB2), ([.str (sB0.drop 107)], rB3), ([.str (sB0.drop 109)], rB2), ([.str (sB0.drop 110)], rB4), ([.str (sB0.drop 111)], rB5), ([.str (sB0.drop 112)], rB6), ([.str (sB0.drop 113)], rB7), ([.str (sB0.drop 114)], rB8), ([.str (sB0.drop 115)], rB3), ([.str (sB0.drop 116)], rB3), ([.str (sB0.drop 117)], rB3), ([.str (sB0.drop 118)], rB3), ([.str (sB0.drop 119)], rB3), ([.str (sB0.drop 120)], rB3), ([.str (sB0.drop 121)], rB3), ([.str (sB0.drop 122)], rB3), ([.str (sB0.drop 123)], rB3), ([.str (sB0.drop 124)], rB3)]
theorem mB00_ok : ∀ p, p ∈ mB00 → Known Tryz.prog 25 p.1 p.2 := by
  intro p hp
  rcases List.mem_cons.1 hp with rfl | hp
  · exact kB00x0
  rcases List.mem_cons.1 hp with rfl | hp
  · exact kB00x1
  rcases List.mem_cons.1 hp with rfl | hp
  · exact kB00x2
  rcases List.mem_cons.1 hp with rfl | hp
  · exact kB00x3
  rcases List.mem_cons.1 hp with rfl | hp
  · exact kB00x4
  rcases List.mem_cons.1 hp with rfl | hp
  · exact kB00x5
  rcases List.mem_cons.1 hp with rfl | hp
  · exact kB00x6
  rcases List.mem_cons.1 hp with rfl | hp
  · exact kB00x7
  rcases List.mem_cons.1 hp with rfl | hp
  · exact kB00x8
  rcases List.mem_cons.1 hp with rfl | hp
  · exact kB00x9
  rcases List.mem_cons.1 hp with rfl | hp
  · exact kB00x10
  rcases List.mem_cons.1 hp with rfl | hp
  · exact kB00x11
  rcases List.mem_cons.1 hp with rfl | hp
  · exact kB00x12
  rcases List.mem_cons.1 hp with rfl | hp
  · exact kB00x13
  rcases List.mem_cons.1 hp with rfl | hp
  · exact kB00x14
  rcases List.mem_cons.1 hp with rfl | hp
  · exact kB00x15
  rcases List.mem_cons.1 hp with rfl | hp
  · exact kB00x16
  rcases List.mem_cons.1 hp with rfl | hp
  · exact kB00x17
  rcases List.mem_cons.1 hp with rfl | hp
  · exact kB00x18
  rcases List.mem_cons.1 hp with rfl | hp
  · exact kB00x19
  rcases List.mem_cons.1 hp with rfl | hp
  · exact kB00x20
  rcases List.mem_cons.1 hp with rfl | hp
  · exact kB00x21
  rcases List.mem_cons.1 hp with rfl | hp
  · exact kB00x22
  rcases List.mem_cons.1 hp with rfl | hp
  · exact kB00x23
  rcases List.mem_cons.1 hp with rfl | hp
  · exact kB00x24
  rcases List.mem_cons.1 hp with rfl | hp
  · exact kB00x25
  rcases List.mem_cons.1 hp with rfl | hp
  · exact kB00x26
  rcases List.mem_cons.1 hp with rfl | hp
  · exact kB00x27
  rcases List.mem_cons.1 hp with rfl | hp
  · exact kB00x28
  rcases List.mem_cons.1 hp with rfl | hp
  · exact kB00x29
  rcases List.mem_cons.1 hp with rfl | hp
  · exact kB00x30
  rcases List.mem_cons.1 hp with rfl | hp
  · exact kB00x31
  rcases List.mem_cons.1 hp with rfl | hp
  · exact kB00x32
  rcases List.mem_cons.1 hp with rfl | hp
  · exact kB00x33
  rcases List.mem_cons.1 hp with rfl | hp
  · exact kB00x34
  rcases List.mem_cons.1 hp with rfl | hp
  · exact kB00x35
  rcases List.mem_cons.1 hp with rfl | hp
  · exact kB00x36
  rcases List.mem_cons.1 hp with rfl | hp
  · exact kB00x37
  rcases List.mem_cons.1 hp with rfl | hp
  · exact kB00x38
  rcases List.mem_cons.1 hp with rfl | hp
  · exact kB00x39
  rcases List.mem_cons.1 hp with rfl | hp
  · exact kB00x40
  rcases List.mem_cons.1 hp with rfl | hp
  · exact kB00x41
  rcases List.mem_cons.1 hp with rfl | hp
  · exact kB00x42
  rcases List.mem_cons.1 hp with rfl | hp
  · exact kB00x43
  rcases List.mem_cons.1 hp with rfl | hp
  · exact kB00x44
  rcases List.mem_cons.1 hp with rfl | hp
  · exact kB00x45
  rcases List.mem_cons.1 hp with rfl | hp
  · exact kB00x46
  rcases List.mem_cons.1 hp with rfl | hp
  · exact kB00x47
  rcases List.mem_cons.1 hp with rfl | hp
  · exact kB00x48
  rcases List.mem_cons.1 hp with rfl | hp
  · exact kB00x49
  rcases List.mem_cons.1 hp with rfl | hp
  · exact kB00x50
  rcases List.mem_cons.1 hp with rfl | hp
  · exact kB00x51
  rcases List.mem_cons.1 hp with rfl | hp
  · exact kB00x52
  rcases List.mem_cons.1 hp with rfl | hp
  · exact kB00x53
  rcases List.mem_cons.1 hp with rfl | hp
  · exact kB00x54
  rcases List.mem_cons.1 hp with rfl | hp
  · exact kB00x55
  rcases List.mem_cons.1 hp with rfl | hp
  · exact kB00x56
  rcases List.mem_cons.1 hp with rfl | hp
  · exact kB00x57
  rcases List.mem_cons.1 hp with rfl | hp
  · exact kB00x58
  rcases List.mem_cons.1 hp with rfl | hp
  · exact kB00x59
  rcases List.mem_cons.1 hp with rfl | hp
  · exact kB00x60
  rcases List.mem_cons.1 hp with rfl | hp
  · exact kB00x61
  rcases List.mem_cons.1 hp with rfl | hp
  · exact kB00x62
  rcases List.mem_cons.1 hp with rfl | hp
  · exact kB00x63
  rcases List.mem_cons.1 hp with rfl | hp
  · exact kB00x64
  cases hp
def SB00 : FuncId → Option (List AV → Boxes → M (AV × Boxes)) := fun f => if f = 25 then some (plainV (memoG mB00)) else S f
theorem SB00_ok : ∀ f s, SB00 f = some s → CallAt Tryz.prog f s := by
  intro f s h
  unfold SB00 at h
  split at h
  · rename_i e; subst e; cases h; exact memo_at mB00_ok
  · exact S_ok f s h
def rB9 : AV := (.tup [(.d (.sl (.pair (.int .i64) (.pair (.int .i64) (.pair (.int .i64) .str))) [((2 : Int), ((0 : Int), ((0 : Int), ([115, 117, 109] : List UInt8)))), ((2 : Int), ((0 : Int), ((4 : Int), ([98, 121] : List UInt8)))), ((4 : Int), ((0 : Int), ((7 : Int), ([40] : List UInt8)))), ((4 : Int), ((0 : Int), ((8 : Int), ([41] : List UInt8)))), ((4 : Int), ((0 : Int), ((10 : Int), ([40] : List UInt8)))), ((2 : Int), ((0 : Int), ((11 : Int), ([115, 117, 109] : List UInt8)))), ((2 : Int), ((0 : Int), ((15 : Int), ([98, 121] : List UInt8)))), ((4 : Int), ((0 : Int), ((18 : Int), ([40] : List UInt8)))), ((4 : Int), ((0 : Int), ((19 : Int), ([41] : List UInt8)))), ((4 : Int), ((0 : Int), ((21 : Int), ([40] : List UInt8)))), ((2 : Int), ((0 : Int), ((22 : Int), ([115, 117, 109] : List UInt8)))), ((2 : Int), ((0 : Int), ((26 : Int), ([98, 121] : List UInt8)))), ((4 : Int), ((0 : Int), ((29 : Int), ([40] : List UInt8)))), ((4 : Int), ((0 : Int), ((30 : Int), ([41] : List UInt8)))), ((4 : Int), ((0 : Int), ((32 : Int), ([40] : List UInt8)))), ((2 : Int), ((0 : Int), ((33 : Int), ([115, 117, 109] : List UInt8)))), ((2 : Int), ((0 : Int), ((37 : Int), ([98, 121] : List UInt8)))), ((4 : Int), ((0 : Int), ((40 : Int), ([40] : List UInt8)))), ((4 : Int), ((0 : Int), ((41 : Int), ([41] : List UInt8)))), ((4 : Int), ((0 : Int), ((43 : Int), ([40] : List UInt8)))), ((2 : Int), ((0 : Int), ((44 : Int), ([115, 117, 109] : List UInt8)))), ((2 : Int), ((0 : Int), ((48 : Int), ([98, 121] : List UInt8)))), ((4 : Int), ((0 : Int), ((51 : Int), ([40] : List UInt8)))), ((4 : Int), ((0 : Int), ((52 : Int), ([41] : List UInt8)))), ((4 : Int), ((0 : Int), ((54 : Int), ([40] : List UInt8)))), ((2 : Int), ((0 : Int), ((55 : Int), ([115, 117, 109] : List UInt8)))), ((2 : Int), ((0 : Int), ((59 : Int), ([98, 121] : List UInt8)))), ((4 : Int), ((0 : Int), ((62 : Int), ([40] : List UInt8)))), ((4 : Int), ((0 : Int), ((63 : Int), ([41] : List UInt8)))), ((4 : Int), ((0 : Int), ((65 : Int), ([40] : List UInt8)))), ((2 : Int), ((0 : Int), ((66 : Int), ([115, 117, 109] : List UInt8)))), ((2 : Int), ((0 : Int), ((70 : Int), ([98, 121] : List UInt8)))), ((4 : Int), ((0 : Int), ((73 : Int), ([40] : List UInt8)))), ((4 : Int), ((0 : Int), ((74 : Int), ([41] : List UInt8)))), ((4 : Int), ((0 : Int), ((76 : Int), ([40] : List UInt8)))), ((2 : Int), ((0 : Int), ((77 : Int), ([115, 117, 109] : List UInt8)))), ((2 : Int), ((0 : Int), ((81 : Int), ([98, 121] : List UInt8)))), ((4 : Int), ((0 : Int), ((84 : Int), ([40] : List UInt8)))), ((4 : Int), ((0 : Int), ((85 : Int), ([41] : List UInt8)))), ((4 : Int), ((0 : Int), ((87 : Int), ([40] : List UInt8)))), ((2 : Int), ((0 : Int), ((88 : Int), ([115, 117, 109] : List UInt8)))), ((2 : Int), ((0 : Int), ((92 : Int), ([98, 121] : List UInt8)))), ((4 : Int), ((0 : Int), ((95 : Int), ([40] : List UInt8)))), ((4 : Int), ((0 : Int), ((96 : Int), ([41] : List UInt8)))), ((4 : Int), ((0 : Int), ((98 : Int), ([40] : List UInt8)))), ((2 : Int), ((0 : Int), ((99 : Int), ([115, 117, 109] : List UInt8)))), ((2 : Int), ((0 : Int), ((103 : Int), ([98, 121] : List UInt8)))), ((4 : Int), ((0 : Int), ((106 : Int), ([40] : List UInt8)))), ((4 : Int), ((0 : Int), ((107 : Int), ([41] : List UInt8)))), ((4 : Int), ((0 : Int), ((109 : Int), ([40] : List UInt8)))), ((4 : Int), ((0 : Int), ((110 : Int), ([123] : List UInt8)))), ((4 : Int), ((0 : Int), ((111 : Int), ([125] : List UInt8)))), ((4 : Int), ((0 : Int), ((112 : Int), ([91] : List UInt8)))), ((1 : Int), ((5 : Int), ((113 : Int), ([] : List UInt8)))), ((4 : Int), ((0 : Int), ((114 : Int), ([93] : List UInt8)))), ((4 : Int), ((0 : Int), ((115 : Int), ([41] : List UInt8)))), ((4 : Int), ((0 : Int), ((116 : Int), ([41] : List UInt8)))), ((4 : Int), ((0 : Int), ((117 : Int), ([41] : List UInt8)))), ((4 : Int), ((0 : Int), ((118 : Int), ([41] : List UInt8)))), ((4 : Int), ((0 : Int), ((119 : Int), ([41] : List UInt8)))), ((4 : Int), ((0 : Int), ((120 : Int), ([41] : List UInt8)))), ((4 : Int), ((0 : Int), ((121 : Int), ([41] : List UInt8)))), ((4 : Int), ((0 : Int), ((122 : Int), ([41] : List UInt8)))), ((4 : Int), ((0 : Int), ((123 : Int), ([41] : List UInt8)))), ((4 : Int), ((0 : Int), ((124 : Int), ([41] : List UInt8))))])), (.d (.int .i64 (0))), (.d (.int .i64 (0)))])
theorem kB01x0 : Known Tryz.prog 14 [.str sB0] rB9 := known mixed (kinds := kinds) (n := 300) SB00_ok (by kernel_rfl)
def mB01 : List (List D × AV) := [([.str sB0], rB9)]
theorem mB01_ok : ∀ p, p ∈ mB01 → Known Tryz.prog 14 p.1 p.2 := by
  intro p hp
  rcases List.mem_cons.1 hp with rfl | hp
  · exact kB01x0
  cases hp
def SB01 : FuncId → Option (List AV → Boxes → M (AV × Boxes)) := fun f => if f = 14 then some (plainV (memoG mB01)) else SB00 f
theorem SB01_ok : ∀ f s, SB01 f = some s → CallAt Tryz.prog f s := by
  intro f s h
  unfold SB01 at h
  split at h
  · rename_i e; subst e; cases h; exact memo_at mB01_ok
  · exact SB00_ok f s h
def rB10 : AV := (.tup [(.agg [(.d (.int .i64 (0))), (.d (.int .i64 (0))), (.d .nils), (.d .nils), (.d .nils)]), (.d (.int .i64 (88))), (.d (.int .i64 (6)))])
theorem kB02x0 : Known Tryz.prog 6 [.str sB0] rB10 := known mixed (kinds := kinds) (n := 300) SB01_ok (by kernel_rfl)
def mB02 : List (List D × AV) := [([.str sB0], rB10)]
theorem mB02_ok : ∀ p, p ∈ mB02 → Known Tryz.prog 6 p.1 p.2 := by
  intro p hp
  rcases List.mem_cons.1 hp with rfl | hp
  · exact kB02x0
  cases hp
def sB1 : List UInt8 := [40, 49, 32, 43, 32, 40, 49, 32, 43, 32, 40, 49, 32, 43, 32, 40, 49, 32, 43, 32, 40, 49, 32, 43, 32, 123, 125, 91, 53, 93, 41, 41, 41, 41, 41]
theorem kB10x0 : Known Tryz.prog 25 [.str (sB1.drop 0)] rB2 := known mixed (kinds := kinds) (n := 300) S_ok (by kernel_rfl)
def rB11 : AV := (.tup [(.agg [(.d (.int .i64 (1))), (.d (.int .i64 (1))), (.d (.int .i64 (0))), (.d (.str []))]), (.d (.int .i64 (1))), (.d (.bool true))])
theorem kB10x1 : Known Tryz.prog 25 [.str (sB1.drop 1)] rB11 := known mixed (kinds := kinds) (n := 300) S_ok (by kernel_rfl)
def rB12 : AV := (.tup [(.agg [(.d (.int .i64 (4))), (.d (.int .i64 (0))), (.d (.int .i64 (0))), (.d (.str [43]))]), (.d (.int .i64 (1))), (.d (.bool true))])
theorem kB10x2 : Known Tryz.prog 25 [.str (sB1.drop 3)] rB12 := known mixed (kinds := kinds) (n := 300) S_ok (by kernel_rfl)
theorem kB10x3 : Known Tryz.prog 25 [.str (sB1.drop 5)] rB2 := known mixed (kinds := kinds) (n := 300) S_ok (by kernel_rfl)
theorem kB10x4 : Known Tryz.prog 25 [.str (sB1.drop 6)] rB11 := known mixed (kinds := kinds) (n := 300) S_ok (by kernel_rfl)
theorem kB10x5 : Known Tryz.prog 25 [.str (sB1.drop 8)] rB12 := known mixed (kinds := kinds) (n := 300) S_ok (by kernel_rfl)
theorem kB10x6 : Known Tryz.prog 25 [.str (sB1.drop 10)] rB2 := known mixed (kinds := kinds) (n := 300) S_ok (by kernel_rfl)
theorem kB10x7 : Known Tryz.prog 25 [.str (sB1.drop 11)] rB11 := known mixed (kinds := kinds) (n := 300) S_ok (by kernel_rfl)
theorem kB10x8 : Known Tryz.prog 25 [.str (sB1.drop 13)] rB12 := known mixed (kinds := kinds) (n := 300) S_ok (by kernel_rfl)
theorem kB10x9 : Known Tryz.prog 25 [.str (sB1.drop 15)] rB2 := known mixed (kinds := kinds) (n := 300) S_ok (by kernel_rfl)
theorem kB10x10 : Known Tryz.prog 25 [.str (sB1.drop 16)] rB11 := known mixed (kinds := kinds) (n := 300) S_ok (by kernel_rfl)
theorem kB10x11 : Known Tryz.prog 25 [.str (sB1.drop 18)] rB12 := known mixed (kinds := kinds) (n := 300) S_ok (by kernel_rfl)
theorem kB10x12 : Known Tryz.prog 25 [.str (sB1.drop 20)] rB2 := known mixed (kinds := kinds) (n := 300) S_ok (by kernel_rfl)
theorem kB10x13 : Known Tryz.prog 25 [.str (sB1.drop 21)] rB11 := known mixed (kinds := kinds) (n := 300) S_ok (by kernel_rfl)
theorem kB10x14 : Known Tryz.prog 25 [.str (sB1.drop 23)] rB12 := known mixed (kinds := kinds) (n := 300) S_ok (by kernel_rfl)
theorem kB10x15 : Known Tryz.prog 25 [.str (sB1.drop 25)] rB4 := known mixed (kinds := kinds) (n := 300) S_ok (by kernel_rfl)
theorem kB10x16 : Known Tryz.prog 25 [.str (sB1.drop 26)] rB5 := known mixed (kinds := kinds) (n := 300) S_ok (by kernel_rfl)
theorem kB10x17 : Known Tryz.prog 25 [.str (sB1.drop 27)] rB6 := known mixed (kinds := kinds) (n := 300) S_ok (by kernel_rfl)
theorem kB10x18 : Known Tryz.prog 25 [.str (sB1.drop 28)] rB7 := known mixed (kinds := kinds) (n := 300) S_ok (by kernel_rfl)
theorem kB10x19 : Known Tryz.prog 25 [.str (sB1.drop 29)] rB8 := known mixed (kinds := kinds) (n := 300) S_ok (by kernel_rfl)
theorem kB10x20 : Known Tryz.prog 25 [.str (sB1.drop 30)] rB3 := known mixed (kinds := kinds) (n := 300) S_ok (by kernel_rfl)
theorem kB10x21 : Known Tryz.prog 25 [.str (sB1.drop 31)] rB3 := known mixed (kinds := kinds) (n := 300) S_ok (by kernel_rfl)
theorem kB10x22 : Known Tryz.prog 25 [.str (sB1.drop 32)] rB3 := known mixed (kinds := kinds) (n := 300) S_ok (by kernel_rfl)
theorem kB10x23 : Known Tryz.prog 25 [.str (sB1.drop 33)] rB3 := known mixed (kinds := kinds) (n := 300) S_ok (by kernel_rfl)
theorem kB10x24 : Known Tryz.prog 25 [.str (sB1.drop 34)] rB3 := known mixed (kinds := kinds) (n := 300) S_ok (by kernel_rfl)
def mB10 : List (List D × AV) := [([.str (sB1.drop 0)], rB2), ([.str (sB1.drop 1)], rB11), ([.str (sB1.drop 3)], rB12), ([.str (sB1.drop 5)], rB2), ([.str (sB1.drop 6)], rB11), ([.str (sB1.drop 8)], rB12), ([.str (sB1.drop 10)], rB2), ([.str (sB1.drop 11)], rB11), ([.str (sB1.drop 13)], rB12), ([.str (sB1.drop 15)], rB2), ([.str (sB1.drop 16)], rB11), ([.str (sB1.drop 18)], rB12), ([.str (sB1.drop 20)], rB2), ([.str (sB1.drop 21)], rB11), ([.str (sB1.drop 23)], rB12), ([.str (sB1.drop 25)], rB4), ([.str (sB1.drop 26)], rB5), ([.str (sB1.drop 27)], rB6), ([.str (sB1.drop 28)], rB7), ([.str (sB1.drop 29)], rB8), ([.str (sB1.drop 30)], rB3), ([.str (sB1.drop 31)], rB3), ([.str (sB1.drop 32)], rB3), ([.str (sB1.drop 33)], rB3), ([.str (sB1.drop 34)], rB3)]
theorem mB10_ok : ∀ p, p ∈ mB10 → Known Tryz.prog 25 p.1 p.2 := by
  intro p hp
  rcases List.mem_cons.1 hp with rfl | hp
  · exact kB10x0
  rcases List.mem_cons.1 hp with rfl | hp
  · exact kB10x1
  rcases List.mem_cons.1 hp with rfl | hp
  · exact kB10x2
  rcases List.mem_cons.1 hp with rfl | hp
  · exact kB10x3
  rcases List.mem_cons.1 hp with rfl | hp
  · exact kB10x4
  rcases List.mem_cons.1 hp with rfl | hp
  · exact kB10x5
  rcases List.mem_cons.1 hp with rfl | hp
  · exact kB10x6
  rcases List.mem_cons.1 hp with rfl | hp
  · exact kB10x7
  rcases List.mem_cons.1 hp with rfl | hp
  · exact kB10x8
  rcases List.mem_cons.1 hp with rfl | hp
  · exact kB10x9
  rcases List.mem_cons.1 hp with rfl | hp
  · exact kB10x10
  rcases List.mem_cons.1 hp with rfl | hp
  · exact kB10x11
  rcases List.mem_cons.1 hp with rfl | hp
  · exact kB10x12
  rcases List.mem_cons.1 hp with rfl | hp
  · exact kB10x13
  rcases List.mem_cons.1 hp with rfl | hp
  · exact kB10x14
  rcases List.mem_cons.1 hp with rfl | hp
  · exact kB10x15
  rcases List.mem_cons.1 hp with rfl | hp
  · exact kB10x16
  rcases List.mem_cons.1 hp with rfl | hp
  · exact kB10x17
  rcases List.mem_cons.1 hp with rfl | hp
  · exact kB10x18
  rcases List.mem_cons.1 hp with rfl | hp
  · exact kB10x19
  rcases List.mem_cons.1 hp with rfl | hp
  · exact kB10x20
  rcases List.mem_cons.1 hp with rfl | hp
  · exact kB10x21
  rcases List.mem_cons.1 hp with rfl | hp
  · exact kB10x22
  rcases List.mem_cons.1 hp with rfl | hp
  · exact kB10x23
  rcases List.mem_cons.1 hp with rfl | hp
  · exact kB10x24
  cases hp
def SB10 : FuncId → Option (List AV → Boxes → M (AV × Boxes)) := fun f => if f = 25 then some (plainV (memoG mB10)) else S f
theorem SB10_ok : ∀ f s, SB10 f = some s → CallAt Tryz.prog f s := by
  intro f s h
  unfold SB10 at h
  split at h
  · rename_i e; subst e; cases h; exact memo_at mB10_ok
  · exact S_ok f s h
def rB13 : AV := (.tup [(.d (.sl (.pair (.int .i64) (.pair (.int .i64) (.pair (.int .i64) .str))) [((4 : Int), ((0 : Int), ((0 : Int), ([40] : List UInt8)))), ((1 : Int), ((1 : Int), ((1 : Int), ([] : List UInt8)))), ((4 : Int), ((0 : Int), ((3 : Int), ([43] : List UInt8)))), ((4 : Int), ((0 : Int), ((5 : Int), ([40] : List UInt8)))), ((1 : Int), ((1 : Int), ((6 : Int), ([] : List UInt8)))), ((4 : Int), ((0 : Int), ((8 : Int), ([43] : List UInt8)))), ((4 : Int), ((0 : Int), ((10 : Int), ([40] : List UInt8)))), ((1 : Int), ((1 : Int), ((11 : Int), ([] : List UInt8)))), ((4 : Int), ((0 : Int), ((13 : Int), ([43] : List UInt8)))), ((4 : Int), ((0 : Int), ((15 : Int), ([40] : List UInt8)))), ((1 : Int), ((1 : Int), ((16 : Int), ([] : List UInt8)))), ((4 : Int), ((0 : Int), ((18 : Int), ([43] : List UInt8)))), ((4 : Int), ((0 : Int), ((20 : Int), ([40] : List UInt8)))), ((1 : Int), ((1 : Int), ((21 : Int), ([] : List UInt8)))), ((4 : Int), ((0 : Int), ((23 : Int), ([43] : List UInt8)))), ((4 : Int), ((0 : Int), ((25 : Int), ([123] : List UInt8)))), ((4 : Int), ((0 : Int), ((26 : Int), ([125] : List UInt8)))), ((4 : Int), ((0 : Int), ((27 : Int), ([91] : List UInt8)))), ((1 : Int), ((5 : Int), ((28 : Int), ([] : List UInt8)))), ((4 : Int), ((0 : Int), ((29 : Int), ([93] : List UInt8)))), ((4 : Int), ((0 : Int), ((30 : Int), ([41] : List UInt8)))), ((4 : Int), ((0 : Int), ((31 : Int), ([41] : List UInt8)))), ((4 : Int), ((0 : Int), ((32 : Int), ([41] : List UInt8)))), ((4 : Int), ((0 : Int), ((33 : Int), ([41] : List UInt8)))), ((4 : Int), ((0 : Int), ((34 : Int), ([41] : List UInt8))))])), (.d (.int .i64 (0))), (.d (.int .i64 (0)))])
theorem kB11x0 : Known Tryz.prog 14 [.str sB1] rB13 := known mixed (kinds := kinds) (n := 300) SB10_ok (by kernel_rfl)
def mB11 : List (List D × AV) := [([.str sB1], rB13)]
theorem mB11_ok : ∀ p, p ∈ mB11 → Known Tryz.prog 14 p.1 p.2 := by
  intro p hp
  rcases List.mem_cons.1 hp with rfl | hp
  · exact kB11x0
  cases hp
def SB11 : FuncId → Option (List AV → Boxes → M (AV × Boxes)) := fun f => if f = 14 then some (plainV (memoG mB11)) else SB10 f
theorem SB11_ok : ∀ f s, SB11 f = some s → CallAt Tryz.prog f s := by
  intro f s h
  unfold SB11 at h
  split at h
  · rename_i e; subst e; cases h; exact memo_at mB11_ok
  · exact SB10_ok f s h
def rB14 : AV := (.tup [(.agg [(.d (.int .i64 (3))), (.d (.int .i64 (0))), (.d .nils), (.d .nils), (.d (.sl (.rose (.pair (.int .i64) (.pair (.int .i64) (.pair (.sl (.pair .str (.pair .str (.int .i64)))) (.sl .str))))) [(Rose.mk ((1 : Int), ((1 : Int), ([], []))) []), (Rose.mk ((3 : Int), ((0 : Int), ([], []))) [(Rose.mk ((1 : Int), ((1 : Int), ([], []))) []), (Rose.mk ((3 : Int), ((0 : Int), ([], []))) [(Rose.mk ((1 : Int), ((1 : Int), ([], []))) []), (Rose.mk ((3 : Int), ((0 : Int), ([], []))) [(Rose.mk ((1 : Int), ((1 : Int), ([], []))) []), (Rose.mk ((3 : Int), ((0 : Int), ([], []))) [(Rose.mk ((1 : Int), ((1 : Int), ([], []))) []), (Rose.mk ((2 : Int), ((5 : Int), ([], []))) [])])])])])]))]), (.d (.int .i64 (0))), (.d (.int .i64 (0)))])
theorem kB12x0 : Known Tryz.prog 6 [.str sB1] rB14 := known mixed (kinds := kinds) (n := 300) SB11_ok (by kernel_rfl)
def mB12 : List (List D × AV) := [([.str sB1], rB14)]
theorem mB12_ok : ∀ p, p ∈ mB12 → Known Tryz.prog 6 p.1 p.2 := by
  intro p hp
  rcases List.mem_cons.1 hp with rfl | hp
  · exact kB12x0
  cases hp
def sB2 : List UInt8 := [40, 49, 32, 43, 32, 40, 49, 32, 43, 32, 123, 125, 91, 53, 93, 41, 41]
theorem kB20x0 : Known Tryz.prog 25 [.str (sB2.drop 0)] rB2 := known mixed (kinds := kinds) (n := 300) S_ok (by kernel_rfl)
theorem kB20x1 : Known Tryz.prog 25 [.str (sB2.drop 1)] rB11 := known mixed (kinds := kinds) (n := 300) S_ok (by kernel_rfl)
theorem kB20x2 : Known Tryz.prog 25 [.str (sB2.drop 3)] rB12 := known mixed (kinds := kinds) (n := 300) S_ok (by kernel_rfl)
theorem kB20x3 : Known Tryz.prog 25 [.str (sB2.drop 5)] rB2 := known mixed (kinds := kinds) (n := 300) S_ok (by kernel_rfl)
theorem kB20x4 : Known Tryz.prog 25 [.str (sB2.drop 6)] rB11 := known mixed (kinds := kinds) (n := 300) S_ok (by kernel_rfl)
theorem kB20x5 : Known Tryz.prog 25 [.str (sB2.drop 8)] rB12 := known mixed (kinds := kinds) (n := 300) S_ok (by kernel_rfl)
theorem kB20x6 : Known Tryz.prog 25 [.str (sB2.drop 10)] rB4 := known mixed (kinds := kinds) (n := 300) S_ok (by kernel_rfl)
theorem kB20x7 : Known Tryz.prog 25 [.str (sB2.drop 11)] rB5 := known mixed (kinds := kinds) (n := 300) S_ok (by kernel_rfl)
theorem kB20x8 : Known Tryz.prog 25 [.str (sB2.drop 12)] rB6 := known mixed (kinds := kinds) (n := 300) S_ok (by kernel_rfl)
theorem kB20x9 : Known Tryz.prog 25 [.str (sB2.drop 13)] rB7 := known mixed (kinds := kinds) (n := 300) S_ok (by kernel_rfl)
theorem kB20x10 : Known Tryz.prog 25 [.str (sB2.drop 14)] rB8 := known mixed (kinds := kinds) (n := 300) S_ok (by kernel_rfl)
theorem kB20x11 : Known Tryz.prog 25 [.str (sB2.drop 15)] rB3 := known mixed (kinds := kinds) (n := 300) S_ok (by kernel_rfl)
theorem kB20x12 : Known Tryz.prog 25 [.str (sB2.drop 16)] rB3 := known mixed (kinds := kinds) (n := 300) S_ok (by kernel_rfl)
def mB20 : List (List D × AV) := [([.str (sB2.drop 0)], rB2), ([.str (sB2.drop 1)], rB11), ([.str (sB2.drop 3)], rB12), ([.str (sB2.drop 5)], rB2), ([.str (sB2.drop 6)], rB11), ([.str (sB2.drop 8)], rB12), ([.str (sB2.drop 10)], rB4), ([.str (sB2.drop 11)], rB5), ([.str (sB2.drop 12)], rB6), ([.str (sB2.drop 13)], rB7), ([.str (sB2.drop 14)], rB8), ([.str (sB2.drop 15)], rB3), ([.str (sB2.drop 16)], rB3)]
theorem mB20_ok : ∀ p, p ∈ mB20 → Known Tryz.prog 25 p.1 p.2 := by
  intro p hp
  rcases List.mem_cons.1 hp with rfl | hp
  · exact kB20x0
  rcases List.mem_cons.1 hp with rfl | hp
  · exact kB20x1
  rcases List.mem_cons.1 hp with rfl | hp
  · exact kB20x2
  rcases List.mem_cons.1 hp with rfl | hp
  · exact kB20x3
  rcases List.mem_cons.1 hp with rfl | hp
  · exact kB20x4
  rcases List.mem_cons.1 hp with rfl | hp
  · exact kB20x5
  rcases List.mem_cons.1 hp with rfl | hp
  · exact kB20x6
  rcases List.mem_cons.1 hp with rfl | hp
  · exact kB20x7
  rcases List.mem_cons.1 hp with rfl | hp
  · exact kB20x8
  rcases List.mem_cons.1 hp with rfl | hp
  · exact kB20x9
  rcases List.mem_cons.1 hp with rfl | hp
  · exact kB20x10
  rcases List.mem_cons.1 hp with rfl | hp
  · exact kB20x11
  rcases List.mem_cons.1 hp with rfl | hp
  · exact kB20x12
  cases hp
def SB20 : FuncId → Option (List AV → Boxes → M (AV × Boxes)) := fun f => if f = 25 then some (plainV (memoG mB20)) else S f
theorem SB20_ok : ∀ f s, SB20 f = some s → CallAt Tryz.prog f s := by
  intro f s h
  unfold SB20 at h
  split at h
  · rename_i e; subst e; cases h; exact memo_at mB20_ok
  · exact S_ok f s h
def rB15 : AV := (.tup [(.d (.sl (.pair (.int .i64) (.pair (.int .i64) (.pair (.int .i64) .str))) [((4 : Int), ((0 : Int), ((0 : Int), ([40] : List UInt8)))), ((1 : Int), ((1 : Int), ((1 : Int), ([] : List UInt8)))), ((4 : Int), ((0 : Int), ((3 : Int), ([43] : List UInt8)))), ((4 : Int), ((0 : Int), ((5 : Int), ([40] : List UInt8)))), ((1 : Int), ((1 : Int), ((6 : Int), ([] : List UInt8)))), ((4 : Int), ((0 : Int), ((8 : Int), ([43] : List UInt8)))), ((4 : Int), ((0 : Int), ((10 : Int), ([123] : List UInt8)))), ((4 : Int), ((0 : Int), ((11 : Int), ([125] : List UInt8)))), ((4 : Int), ((0 : Int), ((12 : Int), ([91] : List UInt8)))), ((1 : Int), ((5 : Int), ((13 : Int), ([] : List UInt8)))), ((4 : Int), ((0 : Int), ((14 : Int), ([93] : List UInt8)))), ((4 : Int), ((0 : Int), ((15 : Int), ([41] : List UInt8)))), ((4 : Int), ((0 : Int), ((16 : Int), ([41] : List UInt8))))])), (.d (.int .i64 (0))), (.d (.int .i64 (0)))])
theorem kB21x0 : Known Tryz.prog 14 [.str sB2] rB15 := known mixed (kinds := kinds) (n := 300) SB20_ok (by kernel_rfl)
def mB21 : List (List D × AV) := [([.str sB2], rB15)]
theorem mB21_ok : ∀ p, p ∈ mB21 → Known Tryz.prog 14 p.1 p.2 := by
  intro p hp
  rcases List.mem_cons.1 hp with rfl | hp
  · exact kB21x0
  cases hp
def SB21 : FuncId → Option (List AV → Boxes → M (AV × Boxes)) := fun f => if f = 14 then some (plainV (memoG mB21)) else SB20 f
theorem SB21_ok : ∀ f s, SB21 f = some s → CallAt Tryz.prog f s := by
  intro f s h
  unfold SB21 at h
  split at h
  · rename_i e; subst e; cases h; exact memo_at mB21_ok
  · exact SB20_ok f s h
def rB16 : AV := (.tup [(.agg [(.d (.int .i64 (3))), (.d (.int .i64 (0))), (.d .nils), (.d .nils), (.d (.sl (.rose (.pair (.int .i64) (.pair (.int .i64) (.pair (.sl (.pair .str (.pair .str (.int .i64)))) (.sl .str))))) [(Rose.mk ((1 : Int), ((1 : Int), ([], []))) []), (Rose.mk ((3 : Int), ((0 : Int), ([], []))) [(Rose.mk ((1 : Int), ((1 : Int), ([], []))) []), (Rose.mk ((2 : Int), ((5 : Int), ([], []))) [])])]))]), (.d (.int .i64 (0))), (.d (.int .i64 (0)))])
theorem kB22x0 : Known Tryz.prog 6 [.str sB2] rB16 := known mixed (kinds := kinds) (n := 300) SB21_ok (by kernel_rfl)
def mB22 : List (List D × AV) := [([.str sB2], rB16)]
theorem mB22_ok : ∀ p, p ∈ mB22 → Known Tryz.prog 6 p.1 p.2 := by
  intro p hp
  rcases List.mem_cons.1 hp with rfl | hp
  · exact kB22x0
  cases hp
def sB3 : List UInt8 := [40, 49, 32, 43, 32, 50, 41]
theorem kB30x0 : Known Tryz.prog 25 [.str (sB3.drop 0)] rB2 := known mixed (kinds := kinds) (n := 300) S_ok (by kernel_rfl)
theorem kB30x1 : Known Tryz.prog 25 [.str (sB3.drop 1)] rB11 := known mixed (kinds := kinds) (n := 300) S_ok (by kernel_rfl)
theorem kB30x2 : Known Tryz.prog 25 [.str (sB3.drop 3)] rB12 := known mixed (kinds := kinds) (n := 300) S_ok (by kernel_rfl)
def rB17 : AV := (.tup [(.agg [(.d (.int .i64 (1))), (.d (.int .i64 (2))), (.d (.int .i64 (0))), (.d (.str []))]), (.d (.int .i64 (1))), (.d (.bool true))])
theorem kB30x3 : Known Tryz.prog 25 [.str (sB3.drop 5)] rB17 := known mixed (kinds := kinds) (n := 300) S_ok (by kernel_rfl)
theorem kB30x4 : Known Tryz.prog 25 [.str (sB3.drop 6)] rB3 := known mixed (kinds := kinds) (n := 300) S_ok (by kernel_rfl)
def mB30 : List (List D × AV) := [([.str (sB3.drop 0)], rB2), ([.str (sB3.drop 1)], rB11), ([.str (sB3.drop 3)], rB12), ([.str (sB3.drop 5)], rB17), ([.str (sB3.drop 6)], rB3)]
theorem mB30_ok : ∀ p, p ∈ mB30 → Known Tryz.prog 25 p.1 p.2 := by
  intro p hp
  rcases List.mem_cons.1 hp with rfl | hp
  · exact kB30x0
  rcases List.mem_cons.1 hp with rfl | hp
  · exact kB30x1
  rcases List.mem_cons.1 hp with rfl | hp
  · exact kB30x2
  rcases List.mem_cons.1 hp with rfl | hp
  · exact kB30x3
  rcases List.mem_cons.1 hp with rfl | hp
  · exact kB30x4
  cases hp
def SB30 : FuncId → Option (List AV → Boxes → M (AV × Boxes)) := fun f => if f = 25 then some (plainV (memoG mB30)) else S f
theorem SB30_ok : ∀ f s, SB30 f = some s → CallAt Tryz.prog f s := by
  intro f s h
  unfold SB30 at h
  split at h
  · rename_i e; subst e; cases h; exact memo_at mB30_ok
  · exact S_ok f s h
def rB18 : AV := (.tup [(.d (.sl (.pair (.int .i64) (.pair (.int .i64) (.pair (.int .i64) .str))) [((4 : Int), ((0 : Int), ((0 : Int), ([40] : List UInt8)))), ((1 : Int), ((1 : Int), ((1 : Int), ([] : List UInt8)))), ((4 : Int), ((0 : Int), ((3 : Int), ([43] : List UInt8)))), ((1 : Int), ((2 : Int), ((5 : Int), ([] : List UInt8)))), ((4 : Int), ((0 : Int), ((6 : Int), ([41] : List UInt8))))])), (.d (.int .i64 (0))), (.d (.int .i64 (0)))])
theorem kB31x0 : Known Tryz.prog 14 [.str sB3] rB18 := known mixed (kinds := kinds) (n := 300) SB30_ok (by kernel_rfl)
def mB31 : List (List D × AV) := [([.str sB3], rB18)]
theorem mB31_ok : ∀ p, p ∈ mB31 → Known Tryz.prog 14 p.1 p.2 := by
  intro p hp
  rcases List.mem_cons.1 hp with rfl | hp
  · exact kB31x0
  cases hp
def SB31 : FuncId → Option (List AV → Boxes → M (AV × Boxes)) := fun f => if f = 14 then some (plainV (memoG mB31)) else SB30 f
theorem SB31_ok : ∀ f s, SB31 f = some s → CallAt Tryz.prog f s := by
  intro f s h
  unfold SB31 at h
  split at h
  · rename_i e; subst e; cases h; exact memo_at mB31_ok
  · exact SB30_ok f s h
def rB19 : AV := (.tup [(.agg [(.d (.int .i64 (3))), (.d (.int .i64 (0))), (.d .nils), (.d .nils), (.d (.sl (.rose (.pair (.int .i64) (.pair (.int .i64) (.pair (.sl (.pair .str (.pair .str (.int .i64)))) (.sl .str))))) [(Rose.mk ((1 : Int), ((1 : Int), ([], []))) []), (Rose.mk ((1 : Int), ((2 : Int), ([], []))) [])]))]), (.d (.int .i64 (0))), (.d (.int .i64 (0)))])
theorem kB32x0 : Known Tryz.prog 6 [.str sB3] rB19 := known mixed (kinds := kinds) (n := 300) SB31_ok (by kernel_rfl)
def mB32 : List (List D × AV) := [([.str sB3], rB19)]
theorem mB32_ok : ∀ p, p ∈ mB32 → Known Tryz.prog 6 p.1 p.2 := by
  intro p hp
  rcases List.mem_cons.1 hp with rfl | hp
  · exact kB32x0
  cases hp
def sB4 : List UInt8 := [40, 49, 32, 43, 32]
theorem kB40x0 : Known Tryz.prog 25 [.str (sB4.drop 0)] rB2 := known mixed (kinds := kinds) (n := 300) S_ok (by kernel_rfl)
theorem kB40x1 : Known Tryz.prog 25 [.str (sB4.drop 1)] rB11 := known mixed (kinds := kinds) (n := 300) S_ok (by kernel_rfl)
theorem kB40x2 : Known Tryz.prog 25 [.str (sB4.drop 3)] rB12 := known mixed (kinds := kinds) (n := 300) S_ok (by kernel_rfl)
def mB40 : List (List D × AV) := [([.str (sB4.drop 0)], rB2), ([.str (sB4.drop 1)], rB11), ([.str (sB4.drop 3)], rB12)]
theorem mB40_ok : ∀ p, p ∈ mB40 → Known Tryz.prog 25 p.1 p.2 := by
  intro p hp
  rcases List.mem_cons.1 hp with rfl | hp
  · exact kB40x0
  rcases List.mem_cons.1 hp with rfl | hp
  · exact kB40x1
  rcases List.mem_cons.1 hp with rfl | hp
  · exact kB40x2
  cases hp
def SB40 : FuncId → Option (List AV → Boxes → M (AV × Boxes)) := fun f => if f = 25 then some (plainV (memoG mB40)) else S f
theorem SB40_ok : ∀ f s, SB40 f = some s → CallAt Tryz.prog f s := by
  intro f s h
  unfold SB40 at h
  split at h
  · rename_i e; subst e; cases h; exact memo_at mB40_ok
  · exact S_ok f s h
def rB20 : AV := (.tup [(.d (.sl (.pair (.int .i64) (.pair (.int .i64) (.pair (.int .i64) .str))) [((4 : Int), ((0 : Int), ((0 : Int), ([40] : List UInt8)))), ((1 : Int), ((1 : Int), ((1 : Int), ([] : List UInt8)))), ((4 : Int), ((0 : Int), ((3 : Int), ([43] : List UInt8))))])), (.d (.int .i64 (0))), (.d (.int .i64 (0)))])
theorem kB41x0 : Known Tryz.prog 14 [.str sB4] rB20 := known mixed (kinds := kinds) (n := 300) SB40_ok (by kernel_rfl)
def mB41 : List (List D × AV) := [([.str sB4], rB20)]
theorem mB41_ok : ∀ p, p ∈ mB41 → Known Tryz.prog 14 p.1 p.2 := by
  intro p hp
  rcases List.mem_cons.1 hp with rfl | hp
  · exact kB41x0
  cases hp
def SB41 : FuncId → Option (List AV → Boxes → M (AV × Boxes)) := fun f => if f = 14 then some (plainV (memoG mB41)) else SB40 f
theorem SB41_ok : ∀ f s, SB41 f = some s → CallAt Tryz.prog f s := by
  intro f s h
  unfold SB41 at h
  split at h
  · rename_i e; subst e; cases h; exact memo_at mB41_ok
  · exact SB40_ok f s h
def rB21 : AV := (.tup [(.agg [(.d (.int .i64 (0))), (.d (.int .i64 (0))), (.d .nils), (.d .nils), (.d .nils)]), (.d (.int .i64 (5))), (.d (.int .i64 (1)))])
theorem kB42x0 : Known Tryz.prog 6 [.str sB4] rB21 := known mixed (kinds := kinds) (n := 300) SB41_ok (by kernel_rfl)
def mB42 : List (List D × AV) := [([.str sB4], rB21)]
theorem mB42_ok : ∀ p, p ∈ mB42 → Known Tryz.prog 6 p.1 p.2 := by
  intro p hp
  rcases List.mem_cons.1 hp with rfl | hp
  · exact kB42x0
  cases hp
end Go.Proofs.YtnmakkgomplchaaGreatDoor.EvS.ExprDeep
