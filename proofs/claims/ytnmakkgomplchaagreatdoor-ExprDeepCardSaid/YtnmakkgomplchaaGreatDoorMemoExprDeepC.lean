/- Calls over plain data, each reckoned once. Conditions: none. -/
import Derived.Test.YtnmakkgomplchaaGreatDoorLibS
import Derived.Test.YtnmakkgomplchaaGreatDoorEvZg
namespace Go.Proofs.YtnmakkgomplchaaGreatDoor.EvS.ExprDeep
open Go.Ev
set_option maxRecDepth 100000
def sC0 : List UInt8 := [115, 117, 109, 32, 98, 121, 32, 40, 41, 32, 40, 115, 117, 109, 32, 98, 121, 32, 40, 41, 32, 40, 115, 117, 109, 32, 98, 121, 32, 40, 41, 32, 40, 115, 117, 109, 32, 98, 121, 32, 40, 41, 32, 40, 115, 117, 109, 32, 98, 121, 32, 40, 41, 32, 40, 115, 117, 109, 32, 98, 121, 32, 40, 41, 32, 40, 115, 117, 109, 32, 98, 121, 32, 40, 41, 32, 40, 115, 117, 109, 32, 98, 121, 32, 40, 41, 32, 40, 115, 117, 109, 32, 98, 121, 32, 40, 41, 32, 40, 123, 125, 91, 53, 93, 41, 41, 41, 41, 41, 41, 41, 41, 41]
def rC0 : AV := (.tup [(.agg [(.d (.int .i64 (2))), (.d (.int .i64 (0))), (.d (.int .i64 (0))), (.d (.str [115, 117, 109]))]), (.d (.int .i64 (3))), (.d (.bool true))])
theorem kC00x0 : Known Tryz.prog 25 [.str (sC0.drop 0)] rC0 := known mixed (kinds := kinds) (n := 300) S_ok (by kernel_rfl)
def rC1 : AV := (.tup [(.agg [(.d (.int .i64 (2))), (.d (.int .i64 (0))), (.d (.int .i64 (0))), (.d (.str [98, 121]))]), (.d (.int .i64 (2))), (.d (.bool true))])
theorem kC00x1 : Known Tryz.prog 25 [.str (sC0.drop 4)] rC1 := known mixed (kinds := kinds) (n := 300) S_ok (by kernel_rfl)
def rC2 : AV := (.tup [(.agg [(.d (.int .i64 (4))), (.d (.int .i64 (0))), (.d (.int .i64 (0))), (.d (.str [40]))]), (.d (.int .i64 (1))), (.d (.bool true))])
theorem kC00x2 : Known Tryz.prog 25 [.str (sC0.drop 7)] rC2 := known mixed (kinds := kinds) (n := 300) S_ok (by kernel_rfl)
def rC3 : AV := (.tup [(.agg [(.d (.int .i64 (4))), (.d (.int .i64 (0))), (.d (.int .i64 (0))), (.d (.str [41]))]), (.d (.int .i64 (1))), (.d (.bool true))])
theorem kC00x3 : Known Tryz.prog 25 [.str (sC0.drop 8)] rC3 := known mixed (kinds := kinds) (n := 300) S_ok (by kernel_rfl)
theorem kC00x4 : Known Tryz.prog 25 [.str (sC0.drop 10)] rC2 := known mixed (kinds := kinds) (n := 300) S_ok (by kernel_rfl)
theorem kC00x5 : Known Tryz.prog 25 [.str (sC0.drop 11)] rC0 := known mixed (kinds := kinds) (n := 300) S_ok (by kernel_rfl)
theorem kC00x6 : Known Tryz.prog 25 [.str (sC0.drop 15)] rC1 := known mixed (kinds := kinds) (n := 300) S_ok (by kernel_rfl)
theorem kC00x7 : Known Tryz.prog 25 [.str (sC0.drop 18)] rC2 := known mixed (kinds := kinds) (n := 300) S_ok (by kernel_rfl)
theorem kC00x8 : Known Tryz.prog 25 [.str (sC0.drop 19)] rC3 := known mixed (kinds := kinds) (n := 300) S_ok (by kernel_rfl)
theorem kC00x9 : Known Tryz.prog 25 [.str (sC0.drop 21)] rC2 := known mixed (kinds := kinds) (n := 300) S_ok (by kernel_rfl)
theorem kC00x10 : Known Tryz.prog 25 [.str (sC0.drop 22)] rC0 := known mixed (kinds := kinds) (n := 300) S_ok (by kernel_rfl)
theorem kC00x11 : Known Tryz.prog 25 [.str (sC0.drop 26)] rC1 := known mixed (kinds := kinds) (n := 300) S_ok (by kernel_rfl)
theorem kC00x12 : Known Tryz.prog 25 [.str (sC0.drop 29)] rC2 := known mixed (kinds := kinds) (n := 300) S_ok (by kernel_rfl)
theorem kC00x13 : Known Tryz.prog 25 [.str (sC0.drop 30)] rC3 := known mixed (kinds := kinds) (n := 300) S_ok (by kernel_rfl)
theorem kC00x14 : Known Tryz.prog 25 [.str (sC0.drop 32)] rC2 := known mixed (kinds := kinds) (n := 300) S_ok (by kernel_rfl)
theorem kC00x15 : Known Tryz.prog 25 [.str (sC0.drop 33)] rC0 := known mixed (kinds := kinds) (n := 300) S_ok (by kernel_rfl)
theorem kC00x16 : Known Tryz.prog 25 [.str (sC0.drop 37)] rC1 := known mixed (kinds := kinds) (n := 300) S_ok (by kernel_rfl)
theorem kC00x17 : Known Tryz.prog 25 [.str (sC0.drop 40)] rC2 := known mixed (kinds := kinds) (n := 300) S_ok (by kernel_rfl)
theorem kC00x18 : Known Tryz.prog 25 [.str (sC0.drop 41)] rC3 := known mixed (kinds := kinds) (n := 300) S_ok (by kernel_rfl)
theorem kC00x19 : Known Tryz.prog 25 [.str (sC0.drop 43)] rC2 := known mixed (kinds := kinds) (n := 300) S_ok (by kernel_rfl)
theorem kC00x20 : Known Tryz.prog 25 [.str (sC0.drop 44)] rC0 := known mixed (kinds := kinds) (n := 300) S_ok (by kernel_rfl)
theorem kC00x21 : Known Tryz.prog 25 [.str (sC0.drop 48)] rC1 := known mixed (kinds := kinds) (n := 300) S_ok (by kernel_rfl)
theorem kC00x22 : Known Tryz.prog 25 [.str (sC0.drop 51)] rC2 := known mixed (kinds := kinds) (n := 300) S_ok (by kernel_rfl)
theorem kC00x23 : Known Tryz.prog 25 [.str (sC0.drop 52)] rC3 := known mixed (kinds := kinds) (n := 300) S_ok (by kernel_rfl)
theorem kC00x24 : Known Tryz.prog 25 [.str (sC0.drop 54)] rC2 := known mixed (kinds := kinds) (n := 300) S_ok (by kernel_rfl)
theorem kC00x25 : Known Tryz.prog 25 [.str (sC0.drop 55)] rC0 := known mixed (kinds := kinds) (n := 300) S_ok (by kernel_rfl)
theorem kC00x26 : Known Tryz.prog 25 [.str (sC0.drop 59)] rC1 := known mixed (kinds := kinds) (n := 300) S_ok (by kernel_rfl)
theorem kC00x27 : Known Tryz.prog 25 [.str (sC0.drop 62)] rC2 := known mixed (kinds := kinds) (n := 300) S_ok (by kernel_rfl)
theorem kC00x28 : Known Tryz.prog 25 [.str (sC0.drop 63)] rC3 := known mixed (kinds := kinds) (n := 300) S_ok (by kernel_rfl)
theorem kC00x29 : Known Tryz.prog 25 [.str (sC0.drop 65)] rC2 := known mixed (kinds := kinds) (n := 300) S_ok (by kernel_rfl)
theorem kC00x30 : Known Tryz.prog 25 [.str (sC0.drop 66)] rC0 := known mixed (kinds := kinds) (n := 300) S_ok (by kernel_rfl)
theorem kC00x31 : Known Tryz.prog 25 [.str (sC0.drop 70)] rC1 := known mixed (kinds := kinds) (n := 300) S_ok (by kernel_rfl)
theorem kC00x32 : Known Tryz.prog 25 [.str (sC0.drop 73)] rC2 := known mixed (kinds := kinds) (n := 300) S_ok (by kernel_rfl)
theorem kC00x33 : Known Tryz.prog 25 [.str (sC0.drop 74)] rC3 := known mixed (kinds := kinds) (n := 300) S_ok (by kernel_rfl)
theorem kC00x34 : Known Tryz.prog 25 [.str (sC0.drop 76)] rC2 := known mixed (kinds := kinds) (n := 300) S_ok (by kernel_rfl)
theorem kC00x35 : Known Tryz.prog 25 [.str (sC0.drop 77)] rC0 := known mixed (kinds := kinds) (n := 300) S_ok (by kernel_rfl)
theorem kC00x36 : Known Tryz.prog 25 [.str (sC0.drop 81)] rC1 := known mixed (kinds := kinds) (n := 300) S_ok (by kernel_rfl)
theorem kC00x37 : Known Tryz.prog 25 [.str (sC0.drop 84)] rC2 := known mixed (kinds := kinds) (n := 300) S_ok (by kernel_rfl)
theorem kC00x38 : Known Tryz.prog 25 [.str (sC0.drop 85)] rC3 := known mixed (kinds := kinds) (n := 300) S_ok (by kernel_rfl)
theorem kC00x39 : Known Tryz.prog 25 [.str (sC0.drop 87)] rC2 := known mixed (kinds := kinds) (n := 300) S_ok (by kernel_rfl)
theorem kC00x40 : Known Tryz.prog 25 [.str (sC0.drop 88)] rC0 := known mixed (kinds := kinds) (n := 300) S_ok (by kernel_rfl)
theorem kC00x41 : Known Tryz.prog 25 [.str (sC0.drop 92)] rC1 := known mixed (kinds := kinds) (n := 300) S_ok (by kernel_rfl)
theorem kC00x42 : Known Tryz.prog 25 [.str (sC0.drop 95)] rC2 := known mixed (kinds := kinds) (n := 300) S_ok (by kernel_rfl)
theorem kC00x43 : Known Tryz.prog 25 [.str (sC0.drop 96)] rC3 := known mixed (kinds := kinds) (n := 300) S_ok (by kernel_rfl)
theorem kC00x44 : Known Tryz.prog 25 [.str (sC0.drop 98)] rC2 := known mixed (kinds := kinds) (n := 300) S_ok (by kernel_rfl)
def rC4 : AV := (.tup [(.agg [(.d (.int .i64 (4))), (.d (.int .i64 (0))), (.d (.int .i64 (0))), (.d (.str [123]))]), (.d (.int .i64 (1))), (.d (.bool true))])
theorem kC00x45 : Known Tryz.prog 25 [.str (sC0.drop 99)] rC4 := known mixed (kinds := kinds) (n := 300) S_ok (by kernel_rfl)
def rC5 : AV := (.tup [(.agg [(.d (.int .i64 (4))), (.d (.int .i64 (0))), (.d (.int .i64 (0))), (.d (.str [125]))]), (.d (.int .i64 (1))), (.d (.bool true))])
theorem kC00x46 : Known Tryz.prog 25 [.str (sC0.drop 100)] rC5 := known mixed (kinds := kinds) (n := 300) S_ok (by kernel_rfl)
def rC6 : AV := (.tup [(.agg [(.d (.int .i64 (4))), (.d (.int .i64 (0))), (.d (.int .i64 (0))), (.d (.str [91]))]), (.d (.int .i64 (1))), (.d (.bool true))])
theorem kC00x47 : Known Tryz.prog 25 [.str (sC0.drop 101)] rC6 := known mixed (kinds := kinds) (n := 300) S_ok (by kernel_rfl)
def rC7 : AV := (.tup [(.agg [(.d (.int .i64 (1))), (.d (.int .i64 (5))), (.d (.int .i64 (0))), (.d (.str []))]), (.d (.int .i64 (1))), (.d (.bool true))])
theorem kC00x48 : Known Tryz.prog 25 [.str (sC0.drop 102)] rC7 := known mixed (kinds := kinds) (n := 300) S_ok (by kernel_rfl)
def rC8 : AV := (.tup [(.agg [(.d (.int .i64 (4))), (.d (.int .i64 (0))), (.d (.int .i64 (0))), (.d (.str [93]))]), (.d (.int .i64 (1))), (.d (.bool true))])
theorem kC00x49 : Known Tryz.prog 25 [.str (sC0.drop 103)] rC8 := known mixed (kinds := kinds) (n := 300) S_ok (by kernel_rfl)
theorem kC00x50 : Known Tryz.prog 25 [.str (sC0.drop 104)] rC3 := known mixed (kinds := kinds) (n := 300) S_ok (by kernel_rfl)
theorem kC00x51 : Known Tryz.prog 25 [.str (sC0.drop 105)] rC3 := known mixed (kinds := kinds) (n := 300) S_ok (by kernel_rfl)
theorem kC00x52 : Known Tryz.prog 25 [.str (sC0.drop 106)] rC3 := known mixed (kinds := kinds) (n := 300) S_ok (by kernel_rfl)
theorem kC00x53 : Known Tryz.prog 25 [.str (sC0.drop 107)] rC3 := known mixed (kinds := kinds) (n := 300) S_ok (by kernel_rfl)
theorem kC00x54 : Known Tryz.prog 25 [.str (sC0.drop 108)] rC3 := known mixed (kinds := kinds) (n := 300) S_ok (by kernel_rfl)
theorem kC00x55 : Known Tryz.prog 25 [.str (sC0.drop 109)] rC3 := known mixed (kinds := kinds) (n := 300) S_ok (by kernel_rfl)
theorem kC00x56 : Known Tryz.prog 25 [.str (sC0.drop 110)] rC3 := known mixed (kinds := kinds) (n := 300) S_ok (by kernel_rfl)
theorem kC00x57 : Known Tryz.prog 25 [.str (sC0.drop 111)] rC3 := known mixed (kinds := kinds) (n := 300) S_ok (by kernel_rfl)
theorem kC00x58 : Known Tryz.prog 25 [.str (sC0.drop 112)] rC3 := known mixed (kinds := kinds) (n := 300) S_ok (by kernel_rfl)
def mC00 : List (List D × AV) := [([.str (sC0.drop 0)], rC0), ([.str (sC0.drop 4)], rC1), ([.str (sC0.drop 7)], rC2), ([.str (sC0.drop 8)], rC3), ([.str (sC0.drop 10)], rC2), ([.str (sC0.drop 11)], rC0), ([.str (sC0.drop 15)], rC1), ([.str (sC0.drop 18)], rC2), ([.str (sC0.drop 19)], rC3), ([.str (sC0.drop 21)], rC2), ([.str (sC0.drop 22)], rC0), ([.str (sC0.drop 26)], rC1), ([.str (sC0.drop 29)], rC2), ([.str (sC0.drop 30)], rC3), ([.str (sC0.drop 32)], rC2), ([.str (sC0.drop 33)], rC0), ([.str (sC0.drop 37)], rC1), ([.str (sC0.drop 40)], rC2), ([.str (sC0.drop 41)], rC3), ([.str (sC0.drop 43)], rC2), ([.str (sC0.drop 44)], rC0), ([.str (sC0.drop 48)], rC1), ([.str (sC0.drop 51)], rC2), ([.str (sC0.drop 52)], rC3), ([.str (sC0.drop 54)], rC2), ([.str (sC0.drop 55)], rC0), ([.str (sC0.drop 59)], rC1), ([.str (sC0.drop 62)], rC2), ([.str (sC0.drop 63)], rC3), ([.str (sC0.drop 65)], rC2), ([.str (sC0.drop 66)], rC0), ([.str (sC0.drop 70)], rC1), ([.str (sC0.drop 73)], rC2), ([.str (sC0.drop 74)], rC3), ([.str (sC0.drop 76)], rC2), ([.str (sC0.drop 77)], rC0), ([.str (sC0.drop 81)], rC1), ([.str (sC0.drop 84)], rC2), ([.str (sC0.drop 85)], rC3), ([.str (sC0.drop 87)], rC2), ([.str (sC0.drop 88)], rC0), ([.str (sC0.drop 92)], rC1), ([.str (sC0.drop 95)], rC2), ([.str (sC0.drop 96)], rC3), ([.str (sC0.drop 98)], rC2), ([.str (sC0.drop 99)], rC4), ([.str (sC0.drop 100)], rC5), ([.str (sC0.drop 101)], rC6), ([.str (sC0.drop 102)], rC7), ([.str (sC0.drop 103)], rC8), ([.str (sC0.drop 104)], rC3), ([.str (sC0.drop 105)], rC3), ([.str (sC0.drop 106)], rC3), ([.str (sC0.drop 107)], rC3), ([.str (sC0.drop 108)], rC3), ([.str (sC0.drop 109)], rC3), ([.str (sC0.drop 110)], rC3), ([.str (sC0.drop 111)], rC3), ([.str (sC0.drop 112)], rC3)]
theorem mC00_ok : ∀ p, p ∈ mC00 → Known Tryz.prog 25 p.1 p.2 := by
  intro p hp
  rcases List.mem_cons.1 hp with rfl | hp
  · exact kC00x0
  rcases List.mem_cons.1 hp with rfl | hp
  · exact kC00x1
  rcases List.mem_cons.1 hp with rfl | hp
  · exact kC00x2
  rcases List.mem_cons.1 hp with rfl | hp
  · exact kC00x3
  rcases List.mem_cons.1 hp with rfl | hp
  · exact kC00x4
  rcases List.mem_cons.1 hp with rfl | hp
  · exact kC00x5
  rcases List.mem_cons.1 hp with rfl | hp
  · exact kC00x6
  rcases List.mem_cons.1 hp with rfl | hp
  · exact kC00x7
  rcases List.mem_cons.1 hp with rfl | hp
  · exact kC00x8
  rcases List.mem_cons.1 hp with rfl | hp
  · exact kC00x9
  rcases List.mem_cons.1 hp with rfl | hp
  · exact kC00x10
  rcases List.mem_cons.1 hp with rfl | hp
  · exact kC00x11
  rcases List.mem_cons.1 hp with rfl | hp
  · exact kC00x12
  rcases List.mem_cons.1 hp with rfl | hp
  · exact kC00x13
  rcases List.mem_cons.1 hp with rfl | hp
  · exact kC00x14
  rcases List.mem_cons.1 hp with rfl | hp
  · exact kC00x15
  rcases List.mem_cons.1 hp with rfl | hp
  · exact kC00x16
  rcases List.mem_cons.1 hp with rfl | hp
  · exact kC00x17
  rcases List.mem_cons.1 hp with rfl | hp
  · exact kC00x18
  rcases List.mem_cons.1 hp with rfl | hp
  · exact kC00x19
  rcases List.mem_cons.1 hp with rfl | hp
  · exact kC00x20
  rcases List.mem_cons.1 hp with rfl | hp
  · exact kC00x21
  rcases List.mem_cons.1 hp with rfl | hp
  · exact kC00x22
  rcases List.mem_cons.1 hp with rfl | hp
  · exact kC00x23
  rcases List.mem_cons.1 hp with rfl | hp
  · exact kC00x24
  rcases List.mem_cons.1 hp with rfl | hp
  · exact kC00x25
  rcases List.mem_cons.1 hp with rfl | hp
  · exact kC00x26
  rcases List.mem_cons.1 hp with rfl | hp
  · exact kC00x27
  rcases List.mem_cons.1 hp with rfl | hp
  · exact kC00x28
  rcases List.mem_cons.1 hp with rfl | hp
  · exact kC00x29
  rcases List.mem_cons.1 hp with rfl | hp
  · exact kC00x30
  rcases List.mem_cons.1 hp with rfl | hp
  · exact kC00x31
  rcases List.mem_cons.1 hp with rfl | hp
  · exact kC00x32
  rcases List.mem_cons.1 hp with rfl | hp
  · exact kC00x33
  rcases List.mem_cons.1 hp with rfl | hp
  · exact kC00x34
  rcases List.mem_cons.1 hp with rfl | hp
  · exact kC00x35
  rcases List.mem_cons.1 hp with rfl | hp
  · exact kC00x36
  rcases List.mem_cons.1 hp with rfl | hp
  · exact kC00x37
  rcases List.mem_cons.1 hp with rfl | hp
  · exact kC00x38
  rcases List.mem_cons.1 hp with rfl | hp
  · exact kC00x39
  rcases List.mem_cons.1 hp with rfl | hp
  · exact kC00x40
  rcases List.mem_cons.1 hp with rfl | hp
  · exact kC00x41
  rcases List.mem_cons.1 hp with rfl | hp
  · exact kC00x42
  rcases List.mem_cons.1 hp with rfl | hp
  · exact kC00x43
  rcases List.mem_cons.1 hp with rfl | hp
  · exact kC00x44
  rcases List.mem_cons.1 hp with rfl | hp
  · exact kC00x45
  rcases List.mem_cons.1 hp with rfl | hp
  · exact kC00x46
  rcases List.mem_cons.1 hp with rfl | hp
  · exact kC00x47
  rcases List.mem_cons.1 hp with rfl | hp
  · exact kC00x48
  rcases List.mem_cons.1 hp with rfl | hp
  · exact kC00x49
  rcases List.mem_cons.1 hp with rfl | hp
  · exact kC00x50
  rcases List.mem_cons.1 hp with rfl | hp
  · exact kC00x51
  rcases List.mem_cons.1 hp with rfl | hp
  · exact kC00x52
  rcases List.mem_cons.1 hp with rfl | hp
  · exact kC00x53
  rcases List.mem_cons.1 hp with rfl | hp
  · exact kC00x54
  rcases List.mem_cons.1 hp with rfl | hp
  · exact kC00x55
  rcases List.mem_cons.1 hp with rfl | hp
  · exact kC00x56
  rcases List.mem_cons.1 hp with rfl | hp
  · exact kC00x57
  rcases List.mem_cons.1 hp with rfl | hp
  · exact kC00x58
  cases hp
def SC00 : FuncId → Option (List AV → Boxes → M (AV × Boxes)) := fun f => if f = 25 then some (plainV (memoG mC00)) else S f
theorem SC00_ok : ∀ f s, SC00 f = some s → CallAt Tryz.prog f s := by
  intro f s h
  unfold SC00 at h
  split at h
  · rename_i e; subst e; cases h; exact memo_at mC00_ok
  · exact S_ok f s h
def rC9 : AV := (.tup [(.d (.sl (.pair (.int .i64) (.pair (.int .i64) (.pair (.int .i64) .str))) [((2 : Int), ((0 : Int), ((0 : Int), ([115, 117, 109] : List UInt8)))), ((2 : Int), ((0 : Int), ((4 : Int), ([98, 121] : List UInt8)))), ((4 : Int), ((0 : Int), ((7 : Int), ([40] : List UInt8)))), ((4 : Int), ((0 : Int), ((8 : Int), ([41] : List UInt8)))), ((4 : Int), ((0 : Int), ((10 : Int), ([40] : List UInt8)))), ((2 : Int), ((0 : Int), ((11 : Int), ([115, 117, 109] : List UInt8)))), ((2 : Int), ((0 : Int), ((15 : Int), ([98, 121] : List UInt8)))), ((4 : Int), ((0 : Int), ((18 : Int), ([40] : List UInt8)))), ((4 : Int), ((0 : Int), ((19 : Int), ([41] : List UInt8)))), ((4 : Int), ((0 : Int), ((21 : Int), ([40] : List UInt8)))), ((2 : Int), ((0 : Int), ((22 : Int), ([115, 117, 109] : List UInt8)))), ((2 : Int), ((0 : Int), ((26 : Int), ([98, 121] : List UInt8)))), ((4 : Int), ((0 : Int), ((29 : Int), ([40] : List UInt8)))), ((4 : Int), ((0 : Int), ((30 : Int), ([41] : List UInt8)))), ((4 : Int), ((0 : Int), ((32 : Int), ([40] : List UInt8)))), ((2 : Int), ((0 : Int), ((33 : Int), ([115, 117, 109] : List UInt8)))), ((2 : Int), ((0 : Int), ((37 : Int), ([98, 121] : List UInt8)))), ((4 : Int), ((0 : Int), ((40 : Int), ([40] : List UInt8)))), ((4 : Int), ((0 : Int), ((41 : Int), ([41] : List UInt8)))), ((4 : Int), ((0 : Int), ((43 : Int), ([40] : List UInt8)))), ((2 : Int), ((0 : Int), ((44 : Int), ([115, 117, 109] : List UInt8)))), ((2 : Int), ((0 : Int), ((48 : Int), ([98, 121] : List UInt8)))), ((4 : Int), ((0 : Int), ((51 : Int), ([40] : List UInt8)))), ((4 : Int), ((0 : Int), ((52 : Int), ([41] : List UInt8)))), ((4 : Int), ((0 : Int), ((54 : Int), ([40] : List UInt8)))), ((2 : Int), ((0 : Int), ((55 : Int), ([115, 117, 109] : List UInt8)))), ((2 : Int), ((0 : Int), ((59 : Int), ([98, 121] : List UInt8)))), ((4 : Int), ((0 : Int), ((62 : Int), ([40] : List UInt8)))), ((4 : Int), ((0 : Int), ((63 : Int), ([41] : List UInt8)))), ((4 : Int), ((0 : Int), ((65 : Int), ([40] : List UInt8)))), ((2 : Int), ((0 : Int), ((66 : Int), ([115, 117, 109] : List UInt8)))), ((2 : Int), ((0 : Int), ((70 : Int), ([98, 121] : List UInt8)))), ((4 : Int), ((0 : Int), ((73 : Int), ([40] : List UInt8)))), ((4 : Int), ((0 : Int), ((74 : Int), ([41] : List UInt8)))), ((4 : Int), ((0 : Int), ((76 : Int), ([40] : List UInt8)))), ((2 : Int), ((0 : Int), ((77 : Int), ([115, 117, 109] : List UInt8)))), ((2 : Int), ((0 : Int), ((81 : Int), ([98, 121] : List UInt8)))), ((4 : Int), ((0 : Int), ((84 : Int), ([40] : List UInt8)))), ((4 : Int), ((0 : Int), ((85 : Int), ([41] : List UInt8)))), ((4 : Int), ((0 : Int), ((87 : Int), ([40] : List UInt8)))), ((2 : Int), ((0 : Int), ((88 : Int), ([115, 117, 109] : List UInt8)))), ((2 : Int), ((0 : Int), ((92 : Int), ([98, 121] : List UInt8)))), ((4 : Int), ((0 : Int), ((95 : Int), ([40] : List UInt8)))), ((4 : Int), ((0 : Int), ((96 : Int), ([41] : List UInt8)))), ((4 : Int), ((0 : Int), ((98 : Int), ([40] : List UInt8)))), ((4 : Int), ((0 : Int), ((99 : Int), ([123] : List UInt8)))), ((4 : Int), ((0 : Int), ((100 : Int), ([125] : List UInt8)))), ((4 : Int), ((0 : Int), ((101 : Int), ([91] : List UInt8)))), ((1 : Int), ((5 : Int), ((102 : Int), ([] : List UInt8)))), ((4 : Int), ((0 : Int), ((103 : Int), ([93] : List UInt8)))), ((4 : Int), ((0 : Int), ((104 : Int), ([41] : List UInt8)))), ((4 : Int), ((0 : Int), ((105 : Int), ([41] : List UInt8)))), ((4 : Int), ((0 : Int), ((106 : Int), ([41] : List UInt8)))), ((4 : Int), ((0 : Int), ((107 : Int), ([41] : List UInt8)))), ((4 : Int), ((0 : Int), ((108 : Int), ([41] : List UInt8)))), ((4 : Int), ((0 : Int), ((109 : Int), ([41] : List UInt8)))), ((4 : Int), ((0 : Int), ((110 : Int), ([41] : List UInt8)))), ((4 : Int), ((0 : Int), ((111 : Int), ([41] : List UInt8)))), ((4 : Int), ((0 : Int), ((112 : Int), ([41] : List UInt8))))])), (.d (.int .i64 (0))), (.d (.int .i64 (0)))])
theorem kC01x0 : Known Tryz.prog 14 [.str sC0] rC9 := known mixed (kinds := kinds) (n := 300) SC00_ok (by kernel_rfl)
def mC01 : List (List D × AV) := [([.str sC0], rC9)]
theorem mC01_ok : ∀ p, p ∈ mC01 → Known Tryz.prog 14 p.1 p.2 := by
  intro p hp
  rcases List.mem_cons.1 hp with rfl | hp
  · exact kC01x0
  cases hp
def SC01 : FuncId → Option (List AV → Boxes → M (AV × Boxes)) := fun f => if f = 14 then some (plainV (memoG mC01)) else SC00 f
theorem SC01_ok : ∀ f s, SC01 f = some s → CallAt Tryz.prog f s := by
  intro f s h
  unfold SC01 at h
  split at h
  · rename_i e; subst e; cases h; exact memo_at mC01_ok
  · exact SC00_ok f s h
def rC10 : AV := (.tup [(.agg [(.d (.int .i64 (0))), (.d (.int .i64 (0))), (.d .nils), (.d .nils), (.d .nils)]), (.d (.int .i64 (88))), (.d (.int .i64 (6)))])
theorem kC02x0 : Known Tryz.prog 6 [.str sC0] rC10 := known mixed (kinds := kinds) (n := 300) SC01_ok (by kernel_rfl)
def mC02 : List (List D × AV) := [([.str sC0], rC10)]
theorem mC02_ok : ∀ p, p ∈ mC02 → Known Tryz.prog 6 p.1 p.2 := by
  intro p hp
  rcases List.mem_cons.1 hp with rfl | hp
  · exact kC02x0
  cases hp
def sC1 : List UInt8 := [40, 49, 32, 43, 32, 40, 49, 32, 43, 32, 40, 49, 32, 43, 32, 40, 49, 32, 43, 32, 40, 49, 32, 43, 32, 40, 49, 32, 43, 32, 40, 49, 32, 43, 32, 40, 49, 32, 43, 32, 123, 125, 91, 53, 93, 41, 41, 41, 41, 41, 41, 41, 41]
theorem kC10x0 : Known Tryz.prog 25 [.str (sC1.drop 0)] rC2 := known mixed (kinds := kinds) (n := 300) S_ok (by kernel_rfl)
def rC11 : AV := (.tup [(.agg [(.d (.int .i64 (1))), (.d (.int .i64 (1))), (.d (.int .i64 (0))), (.d (.str []))]), (.d (.int .i64 (1))), (.d (.bool true))])
theorem kC10x1 : Known Tryz.prog 25 [.str (sC1.drop 1)] rC11 := known mixed (kinds := kinds) (n := 300) S_ok (by kernel_rfl)
def rC12 : AV := (.tup [(.agg [(.d (.int .i64 (4))), (.d (.int .i64 (0))), (.d (.int .i64 (0))), (.d (.str [43]))]), (.d (.int .i64 (1))), (.d (.bool true))])
theorem kC10x2 : Known Tryz.prog 25 [.str (sC1.drop 3)] rC12 := known mixed (kinds := kinds) (n := 300) S_ok (by kernel_rfl)
theorem kC10x3 : Known Tryz.prog 25 [.str (sC1.drop 5)] rC2 := known mixed (kinds := kinds) (n := 300) S_ok (by kernel_rfl)
theorem kC10x4 : Known Tryz.prog 25 [.str (sC1.drop 6)] rC11 := known mixed (kinds := kinds) (n := 300) S_ok (by kernel_rfl)
theorem kC10x5 : Known Tryz.prog 25 [.str (sC1.drop 8)] rC12 := known mixed (kinds := kinds) (n := 300) S_ok (by kernel_rfl)
theorem kC10x6 : Known Tryz.prog 25 [.str (sC1.drop 10)] rC2 := known mixed (kinds := kinds) (n := 300) S_ok (by kernel_rfl)
theorem kC10x7 : Known Tryz.prog 25 [.str (sC1.drop 11)] rC11 := known mixed (kinds := kinds) (n := 300) S_ok (by kernel_rfl)
theorem kC10x8 : Known Tryz.prog 25 [.str (sC1.drop 13)] rC12 := known mixed (kinds := kinds) (n := 300) S_ok (by kernel_rfl)
theorem kC10x9 : Known Tryz.prog 25 [.str (sC1.drop 15)] rC2 := known mixed (kinds := kinds) (n := 300) S_ok (by kernel_rfl)
theorem kC10x10 : Known Tryz.prog 25 [.str (sC1.drop 16)] rC11 := known mixed (kinds := kinds) (n := 300) S_ok (by kernel_rfl)
theorem kC10x11 : Known Tryz.prog 25 [.str (sC1.drop 18)] rC12 := known mixed (kinds := kinds) (n := 300) S_ok (by kernel_rfl)
theorem kC10x12 : Known Tryz.prog 25 [.str (sC1.drop 20)] rC2 := known mixed (kinds := kinds) (n := 300) S_ok (by kernel_rfl)
theorem kC10x13 : Known Tryz.prog 25 [.str (sC1.drop 21)] rC11 := known mixed (kinds := kinds) (n := 300) S_ok (by kernel_rfl)
theorem kC10x14 : Known Tryz.prog 25 [.str (sC1.drop 23)] rC12 := known mixed (kinds := kinds) (n := 300) S_ok (by kernel_rfl)
theorem kC10x15 : Known Tryz.prog 25 [.str (sC1.drop 25)] rC2 := known mixed (kinds := kinds) (n := 300) S_ok (by kernel_rfl)
theorem kC10x16 : Known Tryz.prog 25 [.str (sC1.drop 26)] rC11 := known mixed (kinds := kinds) (n := 300) S_ok (by kernel_rfl)
theorem kC10x17 : Known Tryz.prog 25 [.str (sC1.drop 28)] rC12 := known mixed (kinds := kinds) (n := 300) S_ok (by kernel_rfl)
theorem kC10x18 : Known Tryz.prog 25 [.str (sC1.drop 30)] rC2 := known mixed (kinds := kinds) (n := 300) S_ok (by kernel_rfl)
theorem kC10x19 : Known Tryz.prog 25 [.str (sC1.drop 31)] rC11 := known mixed (kinds := kinds) (n := 300) S_ok (by kernel_rfl)
theorem kC10x20 : Known Tryz.prog 25 [.str (sC1.drop 33)] rC12 := known mixed (kinds := kinds) (n := 300) S_ok (by kernel_rfl)
theorem kC10x21 : Known Tryz.prog 25 [.str (sC1.drop 35)] rC2 := known mixed (kinds := kinds) (n := 300) S_ok (by kernel_rfl)
theorem kC10x22 : Known Tryz.prog 25 [.str (sC1.drop 36)] rC11 := known mixed (kinds := kinds) (n := 300) S_ok (by kernel_rfl)
theorem kC10x23 : Known Tryz.prog 25 [.str (sC1.drop 38)] rC12 := known mixed (kinds := kinds) (n := 300) S_ok (by kernel_rfl)
theorem kC10x24 : Known Tryz.prog 25 [.str (sC1.drop 40)] rC4 := known mixed (kinds := kinds) (n := 300) S_ok (by kernel_rfl)
theorem kC10x25 : Known Tryz.prog 25 [.str (sC1.drop 41)] rC5 := known mixed (kinds := kinds) (n := 300) S_ok (by kernel_rfl)
theorem kC10x26 : Known Tryz.prog 25 [.str (sC1.drop 42)] rC6 := known mixed (kinds := kinds) (n := 300) S_ok (by kernel_rfl)
theorem kC10x27 : Known Tryz.prog 25 [.str (sC1.drop 43)] rC7 := known mixed (kinds := kinds) (n := 300) S_ok (by kernel_rfl)
theorem kC10x28 : Known Tryz.prog 25 [.str (sC1.drop 44)] rC8 := known mixed (kinds := kinds) (n := 300) S_ok (by kernel_rfl)
theorem kC10x29 : Known Tryz.prog 25 [.str (sC1.drop 45)] rC3 := known mixed (kinds := kinds) (n := 300) S_ok (by kernel_rfl)
theorem kC10x30 : Known Tryz.prog 25 [.str (sC1.drop 46)] rC3 := known mixed (kinds := kinds) (n := 300) S_ok (by kernel_rfl)
theorem kC10x31 : Known Tryz.prog 25 [.str (sC1.drop 47)] rC3 := known mixed (kinds := kinds) (n := 300) S_ok (by kernel_rfl)
theorem kC10x32 : Known Tryz.prog 25 [.str (sC1.drop 48)] rC3 := known mixed (kinds := kinds) (n := 300) S_ok (by kernel_rfl)
theorem kC10x33 : Known Tryz.prog 25 [.str (sC1.drop 49)] rC3 := known mixed (kinds := kinds) (n := 300) S_ok (by kernel_rfl)
theorem kC10x34 : Known Tryz.prog 25 [.str (sC1.drop 50)] rC3 := known mixed (kinds := kinds) (n := 300) S_ok (by kernel_rfl)
theorem kC10x35 : Known Tryz.prog 25 [.str (sC1.drop 51)] rC3 := known mixed (kinds := kinds) (n := 300) S_ok (by kernel_rfl)
theorem kC10x36 : Known Tryz.prog 25 [.str (sC1.drop 52)] rC3 := known mixed (kinds := kinds) (n := 300) S_ok (by kernel_rfl)
def mC10 : List (List D × AV) := [([.str (sC1.drop 0)], rC2), ([.str (sC1.drop 1)], rC11), ([.str (sC1.drop 3)], rC12), ([.str (sC1.drop 5)], rC2), ([.str (sC1.drop 6)], rC11), ([.str (sC1.drop 8)], rC12), ([.str (sC1.drop 10)], rC2), ([.str (sC1.drop 11)], rC11), ([.str (sC1.drop 13)], rC12), ([.str (sC1.drop 15)], rC2), ([.str (sC1.drop 16)], rC11), ([.str (sC1.drop 18)], rC12), ([.str (sC1.drop 20)], rC2), ([.str (sC1.drop 21)], rC11), ([.str (sC1.drop 23)], rC12), ([.str (sC1.drop 25)], rC2), ([.str (sC1.drop 26)], rC11), ([.str (sC1.drop 28)], rC12), ([.str (sC1.drop 30)], rC2), ([.str (sC1.drop 31)], rC11), ([.str (sC1.drop 33)], rC12), ([.str (sC1.drop 35)], rC2), ([.str (sC1.drop 36)], rC11), ([.str (sC1.drop 38)], rC12), ([.str (sC1.drop 40)], rC4), ([.str (sC1.drop 41)], rC5), ([.str (sC1.drop 42)], rC6), ([.str (sC1.drop 43)], rC7), ([.str (sC1.drop 44)], rC8), ([.str (sC1.drop 45)], rC3), ([.str (sC1.drop 46)], rC3), ([.str (sC1.drop 47)], rC3), ([.str (sC1.drop 48)], rC3), ([.str (sC1.drop 49)], rC3), ([.str (sC1.drop 50)], rC3), ([.str (sC1.drop 51)], rC3), ([.str (sC1.drop 52)], rC3)]
theorem mC10_ok : ∀ p, p ∈ mC10 → Known Tryz.prog 25 p.1 p.2 := by
  intro p hp
  rcases List.mem_cons.1 hp with rfl | hp
  · exact kC10x0
  rcases List.mem_cons.1 hp with rfl | hp
  · exact kC10x1
  rcases List.mem_cons.1 hp with rfl | hp
  · exact kC10x2
  rcases List.mem_cons.1 hp with rfl | hp
  · exact kC10x3
  rcases List.mem_cons.1 hp with rfl | hp
  · exact kC10x4
  rcases List.mem_cons.1 hp with rfl | hp
  · exact kC10x5
  rcases List.mem_cons.1 hp with rfl | hp
  · exact kC10x6
  rcases List.mem_cons.1 hp with rfl | hp
  · exact kC10x7
  rcases List.mem_cons.1 hp with rfl | hp
  · exact kC10x8
  rcases List.mem_cons.1 hp with rfl | hp
  · exact kC10x9
  rcases List.mem_cons.1 hp with rfl | hp
  · exact kC10x10
  rcases List.mem_cons.1 hp with rfl | hp
  · exact kC10x11
  rcases List.mem_cons.1 hp with rfl | hp
  · exact kC10x12
  rcases List.mem_cons.1 hp with rfl | hp
  · exact kC10x13
  rcases List.mem_cons.1 hp with rfl | hp
  · exact kC10x14
  rcases List.mem_cons.1 hp with rfl | hp
  · exact kC10x15
  rcases List.mem_cons.1 hp with rfl | hp
  · exact kC10x16
  rcases List.mem_cons.1 hp with rfl | hp
  · exact kC10x17
  rcases List.mem_cons.1 hp with rfl | hp
  · exact kC10x18
  rcases List.mem_cons.1 hp with rfl | hp
  · exact kC10x19
  rcases List.mem_cons.1 hp with rfl | hp
  · exact kC10x20
  rcases List.mem_cons.1 hp with rfl | hp
  · exact kC10x21
  rcases List.mem_cons.1 hp with rfl | hp
  · exact kC10x22
  rcases List.mem_cons.1 hp with rfl | hp
  · exact kC10x23
  rcases List.mem_cons.1 hp with rfl | hp
  · exact kC10x24
  rcases List.mem_cons.1 hp with rfl | hp
  · exact kC10x25
  rcases List.mem_cons.1 hp with rfl | hp
  · exact kC10x26
  rcases List.mem_cons.1 hp with rfl | hp
  · exact kC10x27
  rcases List.mem_cons.1 hp with rfl | hp
  · exact kC10x28
  rcases List.mem_cons.1 hp with rfl | hp
  · exact kC10x29
  rcases List.mem_cons.1 hp with rfl | hp
  · exact kC10x30
  rcases List.mem_cons.1 hp with rfl | hp
  · exact kC10x31
  rcases List.mem_cons.1 hp with rfl | hp
  · exact kC10x32
  rcases List.mem_cons.1 hp with rfl | hp
  · exact kC10x33
  rcases List.mem_cons.1 hp with rfl | hp
  · exact kC10x34
  rcases List.mem_cons.1 hp with rfl | hp
  · exact kC10x35
  rcases List.mem_cons.1 hp with rfl | hp
  · exact kC10x36
  cases hp
def SC10 : FuncId → Option (List AV → Boxes → M (AV × Boxes)) := fun f => if f = 25 then some (plainV (memoG mC10)) else S f
theorem SC10_ok : ∀ f s, SC10 f = some s → CallAt Tryz.prog f s := by
  intro f s h
  unfold SC10 at h
  split at h
  · rename_i e; subst e; cases h; exact memo_at mC10_ok
  · exact S_ok f s h
def rC13 : AV := (.tup [(.d (.sl (.pair (.int .i64) (.pair (.int .i64) (.pair (.int .i64) .str))) [((4 : Int), ((0 : Int), ((0 : Int), ([40] : List UInt8)))), ((1 : Int), ((1 : Int), ((1 : Int), ([] : List UInt8)))), ((4 : Int), ((0 : Int), ((3 : Int), ([43] : List UInt8)))), ((4 : Int), ((0 : Int), ((5 : Int), ([40] : List UInt8)))), ((1 : Int), ((1 : Int), ((6 : Int), ([] : List UInt8)))), ((4 : Int), ((0 : Int), ((8 : Int), ([43] : List UInt8)))), ((4 : Int), ((0 : Int), ((10 : Int), ([40] : List UInt8)))), ((1 : Int), ((1 : Int), ((11 : Int), ([] : List UInt8)))), ((4 : Int), ((0 : Int), ((13 : Int), ([43] : List UInt8)))), ((4 : Int), ((0 : Int), ((15 : Int), ([40] : List UInt8)))), ((1 : Int), ((1 : Int), ((16 : Int), ([] : List UInt8)))), ((4 : Int), ((0 : Int), ((18 : Int), ([43] : List UInt8)))), ((4 : Int), ((0 : Int), ((20 : Int), ([40] : List UInt8)))), ((1 : Int), ((1 : Int), ((21 : Int), ([] : List UInt8)))), ((4 : Int), ((0 : Int), ((23 : Int), ([43] : List UInt8)))), ((4 : Int), ((0 : Int), ((25 : Int), ([40] : List UInt8)))), ((1 : Int), ((1 : Int), ((26 : Int), ([] : List UInt8)))), ((4 : Int), ((0 : Int), ((28 : Int), ([43] : List UInt8)))), ((4 : Int), ((0 : Int), ((30 : Int), ([40] : List UInt8)))), ((1 : Int), ((1 : Int), ((31 : Int), ([] : List UInt8)))), ((4 : Int), ((0 : Int), ((33 : Int), ([43] : List UInt8)))), ((4 : Int), ((0 : Int), ((35 : Int), ([40] : List UInt8)))), ((1 : Int), ((1 : Int), ((36 : Int), ([] : List UInt8)))), ((4 : Int), ((0 : Int), ((38 : Int), ([43] : List UInt8)))), ((4 : Int), ((0 : Int), ((40 : Int), ([123] : List UInt8)))), ((4 : Int), ((0 : Int), ((41 : Int), ([125] : List UInt8)))), ((4 : Int), ((0 : Int), ((42 : Int), ([91] : List UInt8)))), ((1 : Int), ((5 : Int), ((43 : Int), ([] : List UInt8)))), ((4 : Int), ((0 : Int), ((44 : Int), ([93] : List UInt8)))), ((4 : Int), ((0 : Int), ((45 : Int), ([41] : List UInt8)))), ((4 : Int), ((0 : Int), ((46 : Int), ([41] : List UInt8)))), ((4 : Int), ((0 : Int), ((47 : Int), ([41] : List UInt8)))), ((4 : Int), ((0 : Int), ((48 : Int), ([41] : List UInt8)))), ((4 : Int), ((0 : Int), ((49 : Int), ([41] : List UInt8)))), ((4 : Int), ((0 : Int), ((50 : Int), ([41] : List UInt8)))), ((4 : Int), ((0 : Int), ((51 : Int), ([41] : List UInt8)))), ((4 : Int), ((0 : Int), ((52 : Int), ([41] : List UInt8))))])), (.d (.int .i64 (0))), (.d (.int .i64 (0)))])
theorem kC11x0 : Known Tryz.prog 14 [.str sC1] rC13 := known mixed (kinds := kinds) (n := 300) SC10_ok (by kernel_rfl)
def mC11 : List (List D × AV) := [([.str sC1], rC13)]
theorem mC11_ok : ∀ p, p ∈ mC11 → Known Tryz.prog 14 p.1 p.2 := by
  intro p hp
  rcases List.mem_cons.1 hp with rfl | hp
  · exact kC11x0
  cases hp
def SC11 : FuncId → Option (List AV → Boxes → M (AV × Boxes)) := fun f => if f = 14 then some (plainV (memoG mC11)) else SC10 f
theorem SC11_ok : ∀ f s, SC11 f = some s → CallAt Tryz.prog f s := by
  intro f s h
  unfold SC11 at h
  split at h
  · rename_i e; subst e; cases h; exact memo_at mC11_ok
  · exact SC10_ok f s h
def rC14 : AV := (.tup [(.agg [(.d (.int .i64 (0))), (.d (.int .i64 (0))), (.d .nils), (.d .nils), (.d .nils)]), (.d (.int .i64 (36))), (.d (.int .i64 (6)))])
theorem kC12x0 : Known Tryz.prog 6 [.str sC1] rC14 := known mixed (kinds := kinds) (n := 300) SC11_ok (by kernel_rfl)
def mC12 : List (List D × AV) := [([.str sC1], rC14)]
theorem mC12_ok : ∀ p, p ∈ mC12 → Known Tryz.prog 6 p.1 p.2 := by
  intro p hp
  rcases List.mem_cons.1 hp with rfl | hp
  · exact kC12x0
  cases hp
def sC2 : List UInt8 := [40, 115, 117, 109, 32, 98, 121, 32, 40, 97, 41, 32, 40, 123, 110, 97, 109, 101, 61, 34, 109, 34, 125, 91, 49, 48, 93, 41, 32, 62, 32, 53, 41]
theorem kC20x0 : Known Tryz.prog 25 [.str (sC2.drop 0)] rC2 := known mixed (kinds := kinds) (n := 300) S_ok (by kernel_rfl)
theorem kC20x1 : Known Tryz.prog 25 [.str (sC2.drop 1)] rC0 := known mixed (kinds := kinds) (n := 300) S_ok (by kernel_rfl)
theorem kC20x2 : Known Tryz.prog 25 [.str (sC2.drop 5)] rC1 := known mixed (kinds := kinds) (n := 300) S_ok (by kernel_rfl)
theorem kC20x3 : Known Tryz.prog 25 [.str (sC2.drop 8)] rC2 := known mixed (kinds := kinds) (n := 300) S_ok (by kernel_rfl)
def rC15 : AV := (.tup [(.agg [(.d (.int .i64 (2))), (.d (.int .i64 (0))), (.d (.int .i64 (0))), (.d (.str [97]))]), (.d (.int .i64 (1))), (.d (.bool true))])
theorem kC20x4 : Known Tryz.prog 25 [.str (sC2.drop 9)] rC15 := known mixed (kinds := kinds) (n := 300) S_ok (by kernel_rfl)
theorem kC20x5 : Known Tryz.prog 25 [.str (sC2.drop 10)] rC3 := known mixed (kinds := kinds) (n := 300) S_ok (by kernel_rfl)
theorem kC20x6 : Known Tryz.prog 25 [.str (sC2.drop 12)] rC2 := known mixed (kinds := kinds) (n := 300) S_ok (by kernel_rfl)
theorem kC20x7 : Known Tryz.prog 25 [.str (sC2.drop 13)] rC4 := known mixed (kinds := kinds) (n := 300) S_ok (by kernel_rfl)
def rC16 : AV := (.tup [(.agg [(.d (.int .i64 (2))), (.d (.int .i64 (0))), (.d (.int .i64 (0))), (.d (.str [110, 97, 109, 101]))]), (.d (.int .i64 (4))), (.d (.bool true))])
theorem kC20x8 : Known Tryz.prog 25 [.str (sC2.drop 14)] rC16 := known mixed (kinds := kinds) (n := 300) S_ok (by kernel_rfl)
def rC17 : AV := (.tup [(.agg [(.d (.int .i64 (4))), (.d (.int .i64 (0))), (.d (.int .i64 (0))), (.d (.str [61]))]), (.d (.int .i64 (1))), (.d (.bool true))])
theorem kC20x9 : Known Tryz.prog 25 [.str (sC2.drop 18)] rC17 := known mixed (kinds := kinds) (n := 300) S_ok (by kernel_rfl)
def rC18 : AV := (.tup [(.agg [(.d (.int .i64 (3))), (.d (.int .i64 (0))), (.d (.int .i64 (0))), (.d (.str [109]))]), (.d (.int .i64 (3))), (.d (.bool true))])
theorem kC20x10 : Known Tryz.prog 25 [.str (sC2.drop 19)] rC18 := known mixed (kinds := kinds) (n := 300) S_ok (by kernel_rfl)
theorem kC20x11 : Known Tryz.prog 25 [.str (sC2.drop 22)] rC5 := known mixed (kinds := kinds) (n := 300) S_ok (by kernel_rfl)
theorem kC20x12 : Known Tryz.prog 25 [.str (sC2.drop 23)] rC6 := known mixed (kinds := kinds) (n := 300) S_ok (by kernel_rfl)
def rC19 : AV := (.tup [(.agg [(.d (.int .i64 (1))), (.d (.int .i64 (10))), (.d (.int .i64 (0))), (.d (.str []))]), (.d (.int .i64 (2))), (.d (.bool true))])
theorem kC20x13 : Known Tryz.prog 25 [.str (sC2.drop 24)] rC19 := known mixed (kinds := kinds) (n := 300) S_ok (by kernel_rfl)
theorem kC20x14 : Known Tryz.prog 25 [.str (sC2.drop 26)] rC8 := known mixed (kinds := kinds) (n := 300) S_ok (by kernel_rfl)
theorem kC20x15 : Known Tryz.prog 25 [.str (sC2.drop 27)] rC3 := known mixed (kinds := kinds) (n := 300) S_ok (by kernel_rfl)
def rC20 : AV := (.tup [(.agg [(.d (.int .i64 (4))), (.d (.int .i64 (0))), (.d (.int .i64 (0))), (.d (.str [62]))]), (.d (.int .i64 (1))), (.d (.bool true))])
theorem kC20x16 : Known Tryz.prog 25 [.str (sC2.drop 29)] rC20 := known mixed (kinds := kinds) (n := 300) S_ok (by kernel_rfl)
theorem kC20x17 : Known Tryz.prog 25 [.str (sC2.drop 31)] rC7 := known mixed (kinds := kinds) (n := 300) S_ok (by kernel_rfl)
theorem kC20x18 : Known Tryz.prog 25 [.str (sC2.drop 32)] rC3 := known mixed (kinds := kinds) (n := 300) S_ok (by kernel_rfl)
def mC20 : List (List D × AV) := [([.str (sC2.drop 0)], rC2), ([.str (sC2.drop 1)], rC0), ([.str (sC2.drop 5)], rC1), ([.str (sC2.drop 8)], rC2), ([.str (sC2.drop 9)], rC15), ([.str (sC2.drop 10)], rC3), ([.str (sC2.drop 12)], rC2), ([.str (sC2.drop 13)], rC4), ([.str (sC2.drop 14)], rC16), ([.str (sC2.drop 18)], rC17), ([.str (sC2.drop 19)], rC18), ([.str (sC2.drop 22)], rC5), ([.str (sC2.drop 23)], rC6), ([.str (sC2.drop 24)], rC19), ([.str (sC2.drop 26)], rC8), ([.str (sC2.drop 27)], rC3), ([.str (sC2.drop 29)], rC20), ([.str (sC2.drop 31)], rC7), ([.str (sC2.drop 32)], rC3)]
theorem mC20_ok : ∀ p, p ∈ mC20 → Known Tryz.prog 25 p.1 p.2 := by
  intro p hp
  rcases List.mem_cons.1 hp with rfl | hp
  · exact kC20x0
  rcases List.mem_cons.1 hp with rfl | hp
  · exact kC20x1
  rcases List.mem_cons.1 hp with rfl | hp
  · exact kC20x2
  rcases List.mem_cons.1 hp with rfl | hp
  · exact kC20x3
  rcases List.mem_cons.1 hp with rfl | hp
  · exact kC20x4
  rcases List.mem_cons.1 hp with rfl | hp
  · exact kC20x5
  rcases List.mem_cons.1 hp with rfl | hp
  · exact kC20x6
  rcases List.mem_cons.1 hp with rfl | hp
  · exact kC20x7
  rcases List.mem_cons.1 hp with rfl | hp
  · exact kC20x8
  rcases List.mem_cons.1 hp with rfl | hp
  · exact kC20x9
  rcases List.mem_cons.1 hp with rfl | hp
  · exact kC20x10
  rcases List.mem_cons.1 hp with rfl | hp
  · exact kC20x11
  rcases List.mem_cons.1 hp with rfl | hp
  · exact kC20x12
  rcases List.mem_cons.1 hp with rfl | hp
  · exact kC20x13
  rcases List.mem_cons.1 hp with rfl | hp
  · exact kC20x14
  rcases List.mem_cons.1 hp with rfl | hp
  · exact kC20x15
  rcases List.mem_cons.1 hp with rfl | hp
  · exact kC20x16
  rcases List.mem_cons.1 hp with rfl | hp
  · exact kC20x17
  rcases List.mem_cons.1 hp with rfl | hp
  · exact kC20x18
  cases hp
def SC20 : FuncId → Option (List AV → Boxes → M (AV × Boxes)) := fun f => if f = 25 then some (plainV (memoG mC20)) else S f
theorem SC20_ok : ∀ f s, SC20 f = some s → CallAt Tryz.prog f s := by
  intro f s h
  unfold SC20 at h
  split at h
  · rename_i e; subst e; cases h; exact memo_at mC20_ok
  · exact S_ok f s h
def rC21 : AV := (.tup [(.d (.sl (.pair (.int .i64) (.pair (.int .i64) (.pair (.int .i64) .str))) [((4 : Int), ((0 : Int), ((0 : Int), ([40] : List UInt8)))), ((2 : Int), ((0 : Int), ((1 : Int), ([115, 117, 109] : List UInt8)))), ((2 : Int), ((0 : Int), ((5 : Int), ([98, 121] : List UInt8)))), ((4 : Int), ((0 : Int), ((8 : Int), ([40] : List UInt8)))), ((2 : Int), ((0 : Int), ((9 : Int), ([97] : List UInt8)))), ((4 : Int), ((0 : Int), ((10 : Int), ([41] : List UInt8)))), ((4 : Int), ((0 : Int), ((12 : Int), ([40] : List UInt8)))), ((4 : Int), ((0 : Int), ((13 : Int), ([123] : List UInt8)))), ((2 : Int), ((0 : Int), ((14 : Int), ([110, 97, 109, 101] : List UInt8)))), ((4 : Int), ((0 : Int), ((18 : Int), ([61] : List UInt8)))), ((3 : Int), ((0 : Int), ((19 : Int), ([109] : List UInt8)))), ((4 : Int), ((0 : Int), ((22 : Int), ([125] : List UInt8)))), ((4 : Int), ((0 : Int), ((23 : Int), ([91] : List UInt8)))), ((1 : Int), ((10 : Int), ((24 : Int), ([] : List UInt8)))), ((4 : Int), ((0 : Int), ((26 : Int), ([93] : List UInt8)))), ((4 : Int), ((0 : Int), ((27 : Int), ([41] : List UInt8)))), ((4 : Int), ((0 : Int), ((29 : Int), ([62] : List UInt8)))), ((1 : Int), ((5 : Int), ((31 : Int), ([] : List UInt8)))), ((4 : Int), ((0 : Int), ((32 : Int), ([41] : List UInt8))))])), (.d (.int .i64 (0))), (.d (.int .i64 (0)))])
theorem kC21x0 : Known Tryz.prog 14 [.str sC2] rC21 := known mixed (kinds := kinds) (n := 300) SC20_ok (by kernel_rfl)
def mC21 : List (List D × AV) := [([.str sC2], rC21)]
theorem mC21_ok : ∀ p, p ∈ mC21 → Known Tryz.prog 14 p.1 p.2 := by
  intro p hp
  rcases List.mem_cons.1 hp with rfl | hp
  · exact kC21x0
  cases hp
def SC21 : FuncId → Option (List AV → Boxes → M (AV × Boxes)) := fun f => if f = 14 then some (plainV (memoG mC21)) else SC20 f
theorem SC21_ok : ∀ f s, SC21 f = some s → CallAt Tryz.prog f s := by
  intro f s h
  unfold SC21 at h
  split at h
  · rename_i e; subst e; cases h; exact memo_at mC21_ok
  · exact SC20_ok f s h
def rC22 : AV := (.tup [(.agg [(.d (.int .i64 (12))), (.d (.int .i64 (0))), (.d .nils), (.d .nils), (.d (.sl (.rose (.pair (.int .i64) (.pair (.int .i64) (.pair (.sl (.pair .str (.pair .str (.int .i64)))) (.sl .str))))) [(Rose.mk ((17 : Int), ((0 : Int), ([], [([97] : List UInt8)]))) [(Rose.mk ((2 : Int), ((10 : Int), ([(([110, 97, 109, 101] : List UInt8), (([109] : List UInt8), (1 : Int)))], []))) [])]), (Rose.mk ((1 : Int), ((5 : Int), ([], []))) [])]))]), (.d (.int .i64 (0))), (.d (.int .i64 (0)))])
theorem kC22x0 : Known Tryz.prog 6 [.str sC2] rC22 := known mixed (kinds := kinds) (n := 300) SC21_ok (by kernel_rfl)
def mC22 : List (List D × AV) := [([.str sC2], rC22)]
theorem mC22_ok : ∀ p, p ∈ mC22 → Known Tryz.prog 6 p.1 p.2 := by
  intro p hp
  rcases List.mem_cons.1 hp with rfl | hp
  · exact kC22x0
  cases hp
def sC3 : List UInt8 := [40, 49, 32, 43, 32, 40, 49, 32, 43, 32, 40, 49, 32, 43, 32, 123, 125, 91, 53, 93, 41, 41, 41]
theorem kC30x0 : Known Tryz.prog 25 [.str (sC3.drop 0)] rC2 := known mixed (kinds := kinds) (n := 300) S_ok (by kernel_rfl)
theorem kC30x1 : Known Tryz.prog 25 [.str (sC3.drop 1)] rC11 := known mixed (kinds := kinds) (n := 300) S_ok (by kernel_rfl)
theorem kC30x2 : Known Tryz.prog 25 [.str (sC3.drop 3)] rC12 := known mixed (kinds := kinds) (n := 300) S_ok (by kernel_rfl)
theorem kC30x3 : Known Tryz.prog 25 [.str (sC3.drop 5)] rC2 := known mixed (kinds := kinds) (n := 300) S_ok (by kernel_rfl)
theorem kC30x4 : Known Tryz.prog 25 [.str (sC3.drop 6)] rC11 := known mixed (kinds := kinds) (n := 300) S_ok (by kernel_rfl)
theorem kC30x5 : Known Tryz.prog 25 [.str (sC3.drop 8)] rC12 := known mixed (kinds := kinds) (n := 300) S_ok (by kernel_rfl)
theorem kC30x6 : Known Tryz.prog 25 [.str (sC3.drop 10)] rC2 := known mixed (kinds := kinds) (n := 300) S_ok (by kernel_rfl)
theorem kC30x7 : Known Tryz.prog 25 [.str (sC3.drop 11)] rC11 := known mixed (kinds := kinds) (n := 300) S_ok (by kernel_rfl)
theorem kC30x8 : Known Tryz.prog 25 [.str (sC3.drop 13)] rC12 := known mixed (kinds := kinds) (n := 300) S_ok (by kernel_rfl)
theorem kC30x9 : Known Tryz.prog 25 [.str (sC3.drop 15)] rC4 := known mixed (kinds := kinds) (n := 300) S_ok (by kernel_rfl)
theorem kC30x10 : Known Tryz.prog 25 [.str (sC3.drop 16)] rC5 := known mixed (kinds := kinds) (n := 300) S_ok (by kernel_rfl)
theorem kC30x11 : Known Tryz.prog 25 [.str (sC3.drop 17)] rC6 := known mixed (kinds := kinds) (n := 300) S_ok (by kernel_rfl)
theorem kC30x12 : Known Tryz.prog 25 [.str (sC3.drop 18)] rC7 := known mixed (kinds := kinds) (n := 300) S_ok (by kernel_rfl)
theorem kC30x13 : Known Tryz.prog 25 [.str (sC3.drop 19)] rC8 := known mixed (kinds := kinds) (n := 300) S_ok (by kernel_rfl)
theorem kC30x14 : Known Tryz.prog 25 [.str (sC3.drop 20)] rC3 := known mixed (kinds := kinds) (n := 300) S_ok (by kernel_rfl)
theorem kC30x15 : Known Tryz.prog 25 [.str (sC3.drop 21)] rC3 := known mixed (kinds := kinds) (n := 300) S_ok (by kernel_rfl)
theorem kC30x16 : Known Tryz.prog 25 [.str (sC3.drop 22)] rC3 := known mixed (kinds := kinds) (n := 300) S_ok (by kernel_rfl)
def mC30 : List (List D × AV) := [([.str (sC3.drop 0)], rC2), ([.str (sC3.drop 1)], rC11), ([.str (sC3.drop 3)], rC12), ([.str (sC3.drop 5)], rC2), ([.str (sC3.drop 6)], rC11), ([.str (sC3.drop 8)], rC12), ([.str (sC3.drop 10)], rC2), ([.str (sC3.drop 11)], rC11), ([.str (sC3.drop 13)], rC12), ([.str (sC3.drop 15)], rC4), ([.str (sC3.drop 16)], rC5), ([.str (sC3.drop 17)], rC6), ([.str (sC3.drop 18)], rC7), ([.str (sC3.drop 19)], rC8), ([.str (sC3.drop 20)], rC3), ([.str (sC3.drop 21)], rC3), ([.str (sC3.drop 22)], rC3)]
theorem mC30_ok : ∀ p, p ∈ mC30 → Known Tryz.prog 25 p.1 p.2 := by
  intro p hp
  rcases List.mem_cons.1 hp with rfl | hp
  · exact kC30x0
  rcases List.mem_cons.1 hp with rfl | hp
  · exact kC30x1
  rcases List.mem_cons.1 hp with rfl | hp
  · exact kC30x2
  rcases List.mem_cons.1 hp with rfl | hp
  · exact kC30x3
  rcases List.mem_cons.1 hp with rfl | hp
  · exact kC30x4
  rcases List.mem_cons.1 hp with rfl | hp
  · exact kC30x5
  rcases List.mem_cons.1 hp with rfl | hp
  · exact kC30x6
  rcases List.mem_cons.1 hp with rfl | hp
  · exact kC30x7
  rcases List.mem_cons.1 hp with rfl | hp
  · exact kC30x8
  rcases List.mem_cons.1 hp with rfl | hp
  · exact kC30x9
  rcases List.mem_cons.1 hp with rfl | hp
  · exact kC30x10
  rcases List.mem_cons.1 hp with rfl | hp
  · exact kC30x11
  rcases List.mem_cons.1 hp with rfl | hp
  · exact kC30x12
  rcases List.mem_cons.1 hp with rfl | hp
  · exact kC30x13
  rcases List.mem_cons.1 hp with rfl | hp
  · exact kC30x14
  rcases List.mem_cons.1 hp with rfl | hp
  · exact kC30x15
  rcases List.mem_cons.1 hp with rfl | hp
  · exact kC30x16
  cases hp
def SC30 : FuncId → Option (List AV → Boxes → M (AV × Boxes)) := fun f => if f = 25 then some (plainV (memoG mC30)) else S f
theorem SC30_ok : ∀ f s, SC30 f = some s → CallAt Tryz.prog f s := by
  intro f s h
  unfold SC30 at h
  split at h
  · rename_i e; subst e; cases h; exact memo_at mC30_ok
  · exact S_ok f s h
def rC23 : AV := (.tup [(.d (.sl (.pair (.int .i64) (.pair (.int .i64) (.pair (.int .i64) .str))) [((4 : Int), ((0 : Int), ((0 : Int), ([40] : List UInt8)))), ((1 : Int), ((1 : Int), ((1 : Int), ([] : List UInt8)))), ((4 : Int), ((0 : Int), ((3 : Int), ([43] : List UInt8)))), ((4 : Int), ((0 : Int), ((5 : Int), ([40] : List UInt8)))), ((1 : Int), ((1 : Int), ((6 : Int), ([] : List UInt8)))), ((4 : Int), ((0 : Int), ((8 : Int), ([43] : List UInt8)))), ((4 : Int), ((0 : Int), ((10 : Int), ([40] : List UInt8)))), ((1 : Int), ((1 : Int), ((11 : Int), ([] : List UInt8)))), ((4 : Int), ((0 : Int), ((13 : Int), ([43] : List UInt8)))), ((4 : Int), ((0 : Int), ((15 : Int), ([123] : List UInt8)))), ((4 : Int), ((0 : Int), ((16 : Int), ([125] : List UInt8)))), ((4 : Int), ((0 : Int), ((17 : Int), ([91] : List UInt8)))), ((1 : Int), ((5 : Int), ((18 : Int), ([] : List UInt8)))), ((4 : Int), ((0 : Int), ((19 : Int), ([93] : List UInt8)))), ((4 : Int), ((0 : Int), ((20 : Int), ([41] : List UInt8)))), ((4 : Int), ((0 : Int), ((21 : Int), ([41] : List UInt8)))), ((4 : Int), ((0 : Int), ((22 : Int), ([41] : List UInt8))))])), (.d (.int .i64 (0))), (.d (.int .i64 (0)))])
theorem kC31x0 : Known Tryz.prog 14 [.str sC3] rC23 := known mixed (kinds := kinds) (n := 300) SC30_ok (by kernel_rfl)
def mC31 : List (List D × AV) := [([.str sC3], rC23)]
theorem mC31_ok : ∀ p, p ∈ mC31 → Known Tryz.prog 14 p.1 p.2 := by
  intro p hp
  rcases List.mem_cons.1 hp with rfl | hp
  · exact kC31x0
  cases hp
def SC31 : FuncId → Option (List AV → Boxes → M (AV × Boxes)) := fun f => if f = 14 then some (plainV (memoG mC31)) else SC30 f
theorem SC31_ok : ∀ f s, SC31 f = some s → CallAt Tryz.prog f s := by
  intro f s h
  unfold SC31 at h
  split at h
  · rename_i e; subst e; cases h; exact memo_at mC31_ok
  · exact SC30_ok f s h
def rC24 : AV := (.tup [(.agg [(.d (.int .i64 (3))), (.d (.int .i64 (0))), (.d .nils), (.d .nils), (.d (.sl (.rose (.pair (.int .i64) (.pair (.int .i64) (.pair (.sl (.pair .str (.pair .str (.int .i64)))) (.sl .str))))) [(Rose.mk ((1 : Int), ((1 : Int), ([], []))) []), (Rose.mk ((3 : Int), ((0 : Int), ([], []))) [(Rose.mk ((1 : Int), ((1 : Int), ([], []))) []), (Rose.mk ((3 : Int), ((0 : Int), ([], []))) [(Rose.mk ((1 : Int), ((1 : Int), ([], []))) []), (Rose.mk ((2 : Int), ((5 : Int), ([], []))) [])])])]))]), (.d (.int .i64 (0))), (.d (.int .i64 (0)))])
theorem kC32x0 : Known Tryz.prog 6 [.str sC3] rC24 := known mixed (kinds := kinds) (n := 300) SC31_ok (by kernel_rfl)
def mC32 : List (List D × AV) := [([.str sC3], rC24)]
theorem mC32_ok : ∀ p, p ∈ mC32 → Known Tryz.prog 6 p.1 p.2 := by
  intro p hp
  rcases List.mem_cons.1 hp with rfl | hp
  · exact kC32x0
  cases hp
end Go.Proofs.YtnmakkgomplchaaGreatDoor.EvS.ExprDeep
