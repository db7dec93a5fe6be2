/- Calls over plain data, each reckoned once. Conditions: none. -/
import Derived.Test.YtnmakkgomplchaaGreatDoorLibS
import Derived.Test.YtnmakkgomplchaaGreatDoorEvZg
namespace Go.Proofs.YtnmakkgomplchaaGreatDoor.EvS.ExprDeep
open Go.Ev
set_option maxRecDepth 100000
def sD0 : List UInt8 := [115, 117, 109, 32, 98, 121, 32, 40, 41, 32, 40, 115, 117, 109, 32, 98, 121, 32, 40, 41, 32, 40, 115, 117, 109, 32, 98, 121, 32, 40, 41, 32, 40, 115, 117, 109, 32, 98, 121, 32, 40, 41, 32, 40, 115, 117, 109, 32, 98, 121, 32, 40, 41, 32, 40, 115, 117, 109, 32, 98, 121, 32, 40, 41, 32, 40, 115, 117, 109, 32, 98, 121, 32, 40, 41, 32, 40, 115, 117, 109, 32, 98, 121, 32, 40, 41, 32, 40, 123, 125, 91, 53, 93, 41, 41, 41, 41, 41, 41, 41, 41]
def rD0 : AV := (.tup [(.agg [(.d (.int .i64 (2))), (.d (.int .i64 (0))), (.d (.int .i64 (0))), (.d (.str [115, 117, 109]))]), (.d (.int .i64 (3))), (.d (.bool true))])
theorem kD00x0 : Known Tryz.prog 25 [.str (sD0.drop 0)] rD0 := known mixed (kinds := kinds) (n := 300) S_ok (by kernel_rfl)
def rD1 : AV := (.tup [(.agg [(.d (.int .i64 (2))), (.d (.int .i64 (0))), (.d (.int .i64 (0))), (.d (.str [98, 121]))]), (.d (.int .i64 (2))), (.d (.bool true))])
theorem kD00x1 : Known Tryz.prog 25 [.str (sD0.drop 4)] rD1 := known mixed (kinds := kinds) (n := 300) S_ok (by kernel_rfl)
def rD2 : AV := (.tup [(.agg [(.d (.int .i64 (4))), (.d (.int .i64 (0))), (.d (.int .i64 (0))), (.d (.str [40]))]), (.d (.int .i64 (1))), (.d (.bool true))])
theorem kD00x2 : Known Tryz.prog 25 [.str (sD0.drop 7)] rD2 := known mixed (kinds := kinds) (n := 300) S_ok (by kernel_rfl)
def rD3 : AV := (.tup [(.agg [(.d (.int .i64 (4))), (.d (.int .i64 (0))), (.d (.int .i64 (0))), (.d (.str [41]))]), (.d (.int .i64 (1))), (.d (.bool true))])
theorem kD00x3 : Known Tryz.prog 25 [.str (sD0.drop 8)] rD3 := known mixed (kinds := kinds) (n := 300) S_ok (by kernel_rfl)
theorem kD00x4 : Known Tryz.prog 25 [.str (sD0.drop 10)] rD2 := known mixed (kinds := kinds) (n := 300) S_ok (by kernel_rfl)
theorem kD00x5 : Known Tryz.prog 25 [.str (sD0.drop 11)] rD0 := known mixed (kinds := kinds) (n := 300) S_ok (by kernel_rfl)
theorem kD00x6 : Known Tryz.prog 25 [.str (sD0.drop 15)] rD1 := known mixed (kinds := kinds) (n := 300) S_ok (by kernel_rfl)
theorem kD00x7 : Known Tryz.prog 25 [.str (sD0.drop 18)] rD2 := known mixed (kinds := kinds) (n := 300) S_ok (by kernel_rfl)
theorem kD00x8 : Known Tryz.prog 25 [.str (sD0.drop 19)] rD3 := known mixed (kinds := kinds) (n := 300) S_ok (by kernel_rfl)
theorem kD00x9 : Known Tryz.prog 25 [.str (sD0.drop 21)] rD2 := known mixed (kinds := kinds) (n := 300) S_ok (by kernel_rfl)
theorem kD00x10 : Known Tryz.prog 25 [.str (sD0.drop 22)] rD0 := known mixed (kinds := kinds) (n := 300) S_ok (by kernel_rfl)
theorem kD00x11 : Known Tryz.prog 25 [.str (sD0.drop 26)] rD1 := known mixed (kinds := kinds) (n := 300) S_ok (by kernel_rfl)
theorem kD00x12 : Known Tryz.prog 25 [.str (sD0.drop 29)] rD2 := known mixed (kinds := kinds) (n := 300) S_ok (by kernel_rfl)
theorem kD00x13 : Known Tryz.prog 25 [.str (sD0.drop 30)] rD3 := known mixed (kinds := kinds) (n := 300) S_ok (by kernel_rfl)
theorem kD00x14 : Known Tryz.prog 25 [.str (sD0.drop 32)] rD2 := known mixed (kinds := kinds) (n := 300) S_ok (by kernel_rfl)
theorem kD00x15 : Known Tryz.prog 25 [.str (sD0.drop 33)] rD0 := known mixed (kinds := kinds) (n := 300) S_ok (by kernel_rfl)
theorem kD00x16 : Known Tryz.prog 25 [.str (sD0.drop 37)] rD1 := known mixed (kinds := kinds) (n := 300) S_ok (by kernel_rfl)
theorem kD00x17 : Known Tryz.prog 25 [.str (sD0.drop 40)] rD2 := known mixed (kinds := kinds) (n := 300) S_ok (by kernel_rfl)
theorem kD00x18 : Known Tryz.prog 25 [.str (sD0.drop 41)] rD3 := known mixed (kinds := kinds) (n := 300) S_ok (by kernel_rfl)
theorem kD00x19 : Known Tryz.prog 25 [.str (sD0.drop 43)] rD2 := known mixed (kinds := kinds) (n := 300) S_ok (by kernel_rfl)
theorem kD00x20 : Known Tryz.prog 25 [.str (sD0.drop 44)] rD0 := known mixed (kinds := kinds) (n := 300) S_ok (by kernel_rfl)
theorem kD00x21 : Known Tryz.prog 25 [.str (sD0.drop 48)] rD1 := known mixed (kinds := kinds) (n := 300) S_ok (by kernel_rfl)
theorem kD00x22 : Known Tryz.prog 25 [.str (sD0.drop 51)] rD2 := known mixed (kinds := kinds) (n := 300) S_ok (by kernel_rfl)
theorem kD00x23 : Known Tryz.prog 25 [.str (sD0.drop 52)] rD3 := known mixed (kinds := kinds) (n := 300) S_ok (by kernel_rfl)
theorem kD00x24 : Known Tryz.prog 25 [.str (sD0.drop 54)] rD2 := known mixed (kinds := kinds) (n := 300) S_ok (by kernel_rfl)
theorem kD00x25 : Known Tryz.prog 25 [.str (sD0.drop 55)] rD0 := known mixed (kinds := kinds) (n := 300) S_ok (by kernel_rfl)
theorem kD00x26 : Known Tryz.prog 25 [.str (sD0.drop 59)] rD1 := known mixed (kinds := kinds) (n := 300) S_ok (by kernel_rfl)
theorem kD00x27 : Known Tryz.prog 25 [.str (sD0.drop 62)] rD2 := known mixed (kinds := kinds) (n := 300) S_ok (by kernel_rfl)
theorem kD00x28 : Known Tryz.prog 25 [.str (sD0.drop 63)] rD3 := known mixed (kinds := kinds) (n := 300) S_ok (by kernel_rfl)
theorem kD00x29 : Known Tryz.prog 25 [.str (sD0.drop 65)] rD2 := known mixed (kinds := kinds) (n := 300) S_ok (by kernel_rfl)
theorem kD00x30 : Known Tryz.prog 25 [.str (sD0.drop 66)] rD0 := known mixed (kinds := kinds) (n := 300) S_ok (by kernel_rfl)
theorem kD00x31 : Known Tryz.prog 25 [.str (sD0.drop 70)] rD1 := known mixed (kinds := kinds) (n := 300) S_ok (by kernel_rfl)
theorem kD00x32 : Known Tryz.prog 25 [.str (sD0.drop 73)] rD2 := known mixed (kinds := kinds) (n := 300) S_ok (by kernel_rfl)
theorem kD00x33 : Known Tryz.prog 25 [.str (sD0.drop 74)] rD3 := known mixed (kinds := kinds) (n := 300) S_ok (by kernel_rfl)
theorem kD00x34 : Known Tryz.prog 25 [.str (sD0.drop 76)] rD2 := known mixed (kinds := kinds) (n := 300) S_ok (by kernel_rfl)
theorem kD00x35 : Known Tryz.prog 25 [.str (sD0.drop 77)] rD0 := known mixed (kinds := kinds) (n := 300) S_ok (by kernel_rfl)
theorem kD00x36 : Known Tryz.prog 25 [.str (sD0.drop 81)] rD1 := known mixed (kinds := kinds) (n := 300) S_ok (by kernel_rfl)
theorem kD00x37 : Known Tryz.prog 25 [.str (sD0.drop 84)] rD2 := known mixed (kinds := kinds) (n := 300) S_ok (by kernel_rfl)
theorem kD00x38 : Known Tryz.prog 25 [.str (sD0.drop 85)] rD3 := known mixed (kinds := kinds) (n := 300) S_ok (by kernel_rfl)
theorem kD00x39 : Known Tryz.prog 25 [.str (sD0.drop 87)] rD2 := known mixed (kinds := kinds) (n := 300) S_ok (by kernel_rfl)
def rD4 : AV := (.tup [(.agg [(.d (.int .i64 (4))), (.d (.int .i64 (0))), (.d (.int .i64 (0))), (.d (.str [123]))]), (.d (.int .i64 (1))), (.d (.bool true))])
theorem kD00x40 : Known Tryz.prog 25 [.str (sD0.drop 88)] rD4 := known mixed (kinds := kinds) (n := 300) S_ok (by kernel_rfl)
def rD5 : AV := (.tup [(.agg [(.d (.int .i64 (4))), (.d (.int .i64 (0))), (.d (.int .i64 (0))), (.d (.str [125]))]), (.d (.int .i64 (1))), (.d (.bool true))])
theorem kD00x41 : Known Tryz.prog 25 [.str (sD0.drop 89)] rD5 := known mixed (kinds := kinds) (n := 300) S_ok (by kernel_rfl)
def rD6 : AV := (.tup [(.agg [(.d (.int .i64 (4))), (.d (.int .i64 (0))), (.d (.int .i64 (0))), (.d (.str [91]))]), (.d (.int .i64 (1))), (.d (.bool true))])
theorem kD00x42 : Known Tryz.prog 25 [.str (sD0.drop 90)] rD6 := known mixed (kinds := kinds) (n := 300) S_ok (by kernel_rfl)
def rD7 : AV := (.tup [(.agg [(.d (.int .i64 (1))), (.d (.int .i64 (5))), (.d (.int .i64 (0))), (.d (.str []))]), (.d (.int .i64 (1))), (.d (.bool true))])
theorem kD00x43 : Known Tryz.prog 25 [.str (sD0.drop 91)] rD7 := known mixed (kinds := kinds) (n := 300) S_ok (by kernel_rfl)
def rD8 : AV := (.tup [(.agg [(.d (.int .i64 (4))), (.d (.int .i64 (0))), (.d (.int .i64 (0))), (.d (.str [93]))]), (.d (.int .i64 (1))), (.d (.bool true))])
theorem kD00x44 : Known Tryz.prog 25 [.str (sD0.drop 92)] rD8 := known mixed (kinds := kinds) (n := 300) S_ok (by kernel_rfl)
theorem kD00x45 : Known Tryz.prog 25 [.str (sD0.drop 93)] rD3 := known mixed (kinds := kinds) (n := 300) S_ok (by kernel_rfl)
theorem kD00x46 : Known Tryz.prog 25 [.str (sD0.drop 94)] rD3 := known mixed (kinds := kinds) (n := 300) S_ok (by kernel_rfl)
theorem kD00x47 : Known Tryz.prog 25 [.str (sD0.drop 95)] rD3 := known mixed (kinds := kinds) (n := 300) S_ok (by kernel_rfl)
theorem kD00x48 : Known Tryz.prog 25 [.str (sD0.drop 96)] rD3 := known mixed (kinds := kinds) (n := 300) S_ok (by kernel_rfl)
theorem kD00x49 : Known Tryz.prog 25 [.str (sD0.drop 97)] rD3 := known mixed (kinds := kinds) (n := 300) S_ok (by kernel_rfl)
theorem kD00x50 : Known Tryz.prog 25 [.str (sD0.drop 98)] rD3 := known mixed (kinds := kinds) (n := 300) S_ok (by kernel_rfl)
theorem kD00x51 : Known Tryz.prog 25 [.str (sD0.drop 99)] rD3 := known mixed (kinds := kinds) (n := 300) S_ok (by kernel_rfl)
theorem kD00x52 : Known Tryz.prog 25 [.str (sD0.drop 100)] rD3 := known mixed (kinds := kinds) (n := 300) S_ok (by kernel_rfl)
def mD00 : List (List D × AV) := [([.str (sD0.drop 0)], rD0), ([.str (sD0.drop 4)], rD1), ([.str (sD0.drop 7)], rD2), ([.str (sD0.drop 8)], rD3), ([.str (sD0.drop 10)], rD2), ([.str (sD0.drop 11)], rD0), ([.str (sD0.drop 15)], rD1), ([.str (sD0.drop 18)], rD2), ([.str (sD0.drop 19)], rD3), ([.str (sD0.drop 21)], rD2), ([.str (sD0.drop 22)], rD0), ([.str (sD0.drop 26)], rD1), ([.str (sD0.drop 29)], rD2), ([.str (sD0.drop 30)], rD3), ([.str (sD0.drop 32)], rD2), ([.str (sD0.drop 33)], rD0), ([.str (sD0.drop 37)], rD1), ([.str (sD0.drop 40)], rD2), ([.str (sD0.drop 41)], rD3), ([.str (sD0.drop 43)], rD2), ([.str (sD0.drop 44)], rD0), ([.str (sD0.drop 48)], rD1), ([.str (sD0.drop 51)], rD2), ([.str (sD0.drop 52)], rD3), ([.str (sD0.drop 54)], rD2), ([.str (sD0.drop 55)], rD0), ([.str (sD0.drop 59)], rD1), ([.str (sD0.drop 62)], rD2), ([.str (sD0.drop 63)], rD3), ([.str (sD0.drop 65)], rD2), ([.str (sD0.drop 66)], rD0), ([.str (sD0.drop 70)], rD1), ([.str (sD0.drop 73)], rD2), ([.str (sD0.drop 74)], rD3), ([.str (sD0.drop 76)], rD2), ([.str (sD0.drop 77)], rD0), ([.str (sD0.drop 81)], rD1), ([.str (sD0.drop 84)], rD2), ([.str (sD0.drop 85)], rD3), ([.str (sD0.drop 87)], rD2), ([.str (sD0.drop 88)], rD4), ([.str (sD0.drop 89)], rD5), ([.str (sD0.drop 90)], rD6), ([.str (sD0.drop 91)], rD7), ([.str (sD0.drop 92)], rD8), ([.str (sD0.drop 93)], rD3), ([.str (sD0.drop 94)], rD3), ([.str (sD0.drop 95)], rD3), ([.str (sD0.drop 96)], rD3), ([.str (sD0.drop 97)], rD3), ([.str (sD0.drop 98)], rD3), ([.str (sD0.drop 99)], rD3), ([.str (sD0.drop 100)], rD3)]
theorem mD00_ok : ∀ p, p ∈ mD00 → Known Tryz.prog 25 p.1 p.2 := by
  intro p hp
  rcases List.mem_cons.1 hp with rfl | hp
  · exact kD00x0
  rcases List.mem_cons.1 hp with rfl | hp
  · exact kD00x1
  rcases List.mem_cons.1 hp with rfl | hp
  · exact kD00x2
  rcases List.mem_cons.1 hp with rfl | hp
  · exact kD00x3
  rcases List.mem_cons.1 hp with rfl | hp
  · exact kD00x4
  rcases List.mem_cons.1 hp with rfl | hp
  · exact kD00x5
  rcases List.mem_cons.1 hp with rfl | hp
  · exact kD00x6
  rcases List.mem_cons.1 hp with rfl | hp
  · exact kD00x7
  rcases List.mem_cons.1 hp with rfl | hp
  · exact kD00x8
  rcases List.mem_cons.1 hp with rfl | hp
  · exact kD00x9
  rcases List.mem_cons.1 hp with rfl | hp
  · exact kD00x10
  rcases List.mem_cons.1 hp with rfl | hp
  · exact kD00x11
  rcases List.mem_cons.1 hp with rfl | hp
  · exact kD00x12
  rcases List.mem_cons.1 hp with rfl | hp
  · exact kD00x13
  rcases List.mem_cons.1 hp with rfl | hp
  · exact kD00x14
  rcases List.mem_cons.1 hp with rfl | hp
  · exact kD00x15
  rcases List.mem_cons.1 hp with rfl | hp
  · exact kD00x16
  rcases List.mem_cons.1 hp with rfl | hp
  · exact kD00x17
  rcases List.mem_cons.1 hp with rfl | hp
  · exact kD00x18
  rcases List.mem_cons.1 hp with rfl | hp
  · exact kD00x19
  rcases List.mem_cons.1 hp with rfl | hp
  · exact kD00x20
  rcases List.mem_cons.1 hp with rfl | hp
  · exact kD00x21
  rcases List.mem_cons.1 hp with rfl | hp
  · exact kD00x22
  rcases List.mem_cons.1 hp with rfl | hp
  · exact kD00x23
  rcases List.mem_cons.1 hp with rfl | hp
  · exact kD00x24
  rcases List.mem_cons.1 hp with rfl | hp
  · exact kD00x25
  rcases List.mem_cons.1 hp with rfl | hp
  · exact kD00x26
  rcases List.mem_cons.1 hp with rfl | hp
  · exact kD00x27
  rcases List.mem_cons.1 hp with rfl | hp
  · exact kD00x28
  rcases List.mem_cons.1 hp with rfl | hp
  · exact kD00x29
  rcases List.mem_cons.1 hp with rfl | hp
  · exact kD00x30
  rcases List.mem_cons.1 hp with rfl | hp
  · exact kD00x31
  rcases List.mem_cons.1 hp with rfl | hp
  · exact kD00x32
  rcases List.mem_cons.1 hp with rfl | hp
  · exact kD00x33
  rcases List.mem_cons.1 hp with rfl | hp
  · exact kD00x34
  rcases List.mem_cons.1 hp with rfl | hp
  · exact kD00x35
  rcases List.mem_cons.1 hp with rfl | hp
  · exact kD00x36
  rcases List.mem_cons.1 hp with rfl | hp
  · exact kD00x37
  rcases List.mem_cons.1 hp with rfl | hp
  · exact kD00x38
  rcases List.mem_cons.1 hp with rfl | hp
  · exact kD00x39
  rcases List.mem_cons.1 hp with rfl | hp
  · exact kD00x40
  rcases List.mem_cons.1 hp with rfl | hp
  · exact kD00x41
  rcases List.mem_cons.1 hp with rfl | hp
  · exact kD00x42
  rcases List.mem_cons.1 hp with rfl | hp
  · exact kD00x43
  rcases List.mem_cons.1 hp with rfl | hp
  · exact kD00x44
  rcases List.mem_cons.1 hp with rfl | hp
  · exact kD00x45
  rcases List.mem_cons.1 hp with rfl | hp
  · exact kD00x46
  rcases List.mem_cons.1 hp with rfl | hp
  · exact kD00x47
  rcases List.mem_cons.1 hp with rfl | hp
  · exact kD00x48
  rcases List.mem_cons.1 hp with rfl | hp
  · exact kD00x49
  rcases List.mem_cons.1 hp with rfl | hp
  · exact kD00x50
  rcases List.mem_cons.1 hp with rfl | hp
  · exact kD00x51
  rcases List.mem_cons.1 hp with rfl | hp
  · exact kD00x52
  cases hp
def SD00 : FuncId → Option (List AV → Boxes → M (AV × Boxes)) := fun f => if f = 25 then some (plainV (memoG mD00)) else S f
theorem SD00_ok : ∀ f s, SD00 f = some s → CallAt Tryz.prog f s := by
  intro f s h
  unfold SD00 at h
  split at h
  · rename_i e; subst e; cases h; exact memo_at mD00_ok
  · exact S_ok f s h
def rD9 : AV := (.tup [(.d (.sl (.pair (.int .i64) (.pair (.int .i64) (.pair (.int .i64) .str))) [((2 : Int), ((0 : Int), ((0 : Int), ([115, 117, 109] : List UInt8)))), ((2 : Int), ((0 : Int), ((4 : Int), ([98, 121] : List UInt8)))), ((4 : Int), ((0 : Int), ((7 : Int), ([40] : List UInt8)))), ((4 : Int), ((0 : Int), ((8 : Int), ([41] : List UInt8)))), ((4 : Int), ((0 : Int), ((10 : Int), ([40] : List UInt8)))), ((2 : Int), ((0 : Int), ((11 : Int), ([115, 117, 109] : List UInt8)))), ((2 : Int), ((0 : Int), ((15 : Int), ([98, 121] : List UInt8)))), ((4 : Int), ((0 : Int), ((18 : Int), ([40] : List UInt8)))), ((4 : Int), ((0 : Int), ((19 : Int), ([41] : List UInt8)))), ((4 : Int), ((0 : Int), ((21 : Int), ([40] : List UInt8)))), ((2 : Int), ((0 : Int), ((22 : Int), ([115, 117, 109] : List UInt8)))), ((2 : Int), ((0 : Int), ((26 : Int), ([98, 121] : List UInt8)))), ((4 : Int), ((0 : Int), ((29 : Int), ([40] : List UInt8)))), ((4 : Int), ((0 : Int), ((30 : Int), ([41] : List UInt8)))), ((4 : Int), ((0 : Int), ((32 : Int), ([40] : List UInt8)))), ((2 : Int), ((0 : Int), ((33 : Int), ([115, 117, 109] : List UInt8)))), ((2 : Int), ((0 : Int), ((37 : Int), ([98, 121] : List UInt8)))), ((4 : Int), ((0 : Int), ((40 : Int), ([40] : List UInt8)))), ((4 : Int), ((0 : Int), ((41 : Int), ([41] : List UInt8)))), ((4 : Int), ((0 : Int), ((43 : Int), ([40] : List UInt8)))), ((2 : Int), ((0 : Int), ((44 : Int), ([115, 117, 109] : List UInt8)))), ((2 : Int), ((0 : Int), ((48 : Int), ([98, 121] : List UInt8)))), ((4 : Int), ((0 : Int), ((51 : Int), ([40] : List UInt8)))), ((4 : Int), ((0 : Int), ((52 : Int), ([41] : List UInt8)))), ((4 : Int), ((0 : Int), ((54 : Int), ([40] : List UInt8)))), ((2 : Int), ((0 : Int), ((55 : Int), ([115, 117, 109] : List UInt8)))), ((2 : Int), ((0 : Int), ((59 : Int), ([98, 121] : List UInt8)))), ((4 : Int), ((0 : Int), ((62 : Int), ([40] : List UInt8)))), ((4 : Int), ((0 : Int), ((63 : Int), ([41] : List UInt8)))), ((4 : Int), ((0 : Int), ((65 : Int), ([40] : List UInt8)))), ((2 : Int), ((0 : Int), ((66 : Int), ([115, 117, 109] : List UInt8)))), ((2 : Int), ((0 : Int), ((70 : Int), ([98, 121] : List UInt8)))), ((4 : Int), ((0 : Int), ((73 : Int), ([40] : List UInt8)))), ((4 : Int), ((0 : Int), ((74 : Int), ([41] : List UInt8)))), ((4 : Int), ((0 : Int), ((76 : Int), ([40] : List UInt8)))), ((2 : Int), ((0 : Int), ((77 : Int), ([115, 117, 109] : List UInt8)))), ((2 : Int), ((0 : Int), ((81 : Int), ([98, 121] : List UInt8)))), ((4 : Int), ((0 : Int), ((84 : Int), ([40] : List UInt8)))), ((4 : Int), ((0 : Int), ((85 : Int), ([41] : List UInt8)))), ((4 : Int), ((0 : Int), ((87 : Int), ([40] : List UInt8)))), ((4 : Int), ((0 : Int), ((88 : Int), ([123] : List UInt8)))), ((4 : Int), ((0 : Int), ((89 : Int), ([125] : List UInt8)))), ((4 : Int), ((0 : Int), ((90 : Int), ([91] : List UInt8)))), ((1 : Int), ((5 : Int), ((91 : Int), ([] : List UInt8)))), ((4 : Int), ((0 : Int), ((92 : Int), ([93] : List UInt8)))), ((4 : Int), ((0 : Int), ((93 : Int), ([41] : List UInt8)))), ((4 : Int), ((0 : Int), ((94 : Int), ([41] : List UInt8)))), ((4 : Int), ((0 : Int), ((95 : Int), ([41] : List UInt8)))), ((4 : Int), ((0 : Int), ((96 : Int), ([41] : List UInt8)))), ((4 : Int), ((0 : Int), ((97 : Int), ([41] : List UInt8)))), ((4 : Int), ((0 : Int), ((98 : Int), ([41] : List UInt8)))), ((4 : Int), ((0 : Int), ((99 : Int), ([41] : List UInt8)))), ((4 : Int), ((0 : Int), ((100 : Int), ([41] : List UInt8))))])), (.d (.int .i64 (0))), (.d (.int .i64 (0)))])
theorem kD01x0 : Known Tryz.prog 14 [.str sD0] rD9 := known mixed (kinds := kinds) (n := 300) SD00_ok (by kernel_rfl)
def mD01 : List (List D × AV) := [([.str sD0], rD9)]
theorem mD01_ok : ∀ p, p ∈ mD01 → Known Tryz.prog 14 p.1 p.2 := by
  intro p hp
  rcases List.mem_cons.1 hp with rfl | hp
  · exact kD01x0
  cases hp
def SD01 : FuncId → Option (List AV → Boxes → M (AV × Boxes)) := fun f => if f = 14 then some (plainV (memoG mD01)) else SD00 f
theorem SD01_ok : ∀ f s, SD01 f = some s → CallAt Tryz.prog f s := by
  intro f s h
  unfold SD01 at h
  split at h
  · rename_i e; subst e; cases h; exact memo_at mD01_ok
  · exact SD00_ok f s h
def rD10 : AV := (.tup [(.agg [(.d (.int .i64 (0))), (.d (.int .i64 (0))), (.d .nils), (.d .nils), (.d .nils)]), (.d (.int .i64 (88))), (.d (.int .i64 (6)))])
theorem kD02x0 : Known Tryz.prog 6 [.str sD0] rD10 := known mixed (kinds := kinds) (n := 300) SD01_ok (by kernel_rfl)
def mD02 : List (List D × AV) := [([.str sD0], rD10)]
theorem mD02_ok : ∀ p, p ∈ mD02 → Known Tryz.prog 6 p.1 p.2 := by
  intro p hp
  rcases List.mem_cons.1 hp with rfl | hp
  · exact kD02x0
  cases hp
def sD1 : List UInt8 := [40, 49, 32, 43, 32, 40, 49, 32, 43, 32, 40, 49, 32, 43, 32, 40, 49, 32, 43, 32, 40, 49, 32, 43, 32, 40, 49, 32, 43, 32, 40, 49, 32, 43, 32, 40, 49, 32, 43, 32, 40, 49, 32, 43, 32, 40, 49, 32, 43, 32, 123, 125, 91, 53, 93, 41, 41, 41, 41, 41, 41, 41, 41, 41, 41]
theorem kD10x0 : Known Tryz.prog 25 [.str (sD1.drop 0)] rD2 := known mixed (kinds := kinds) (n := 300) S_ok (by kernel_rfl)
def rD11 : AV := (.tup [(.agg [(.d (.int .i64 (1))), (.d (.int .i64 (1))), (.d (.int .i64 (0))), (.d (.str []))]), (.d (.int .i64 (1))), (.d (.bool true))])
theorem kD10x1 : Known Tryz.prog 25 [.str (sD1.drop 1)] rD11 := known mixed (kinds := kinds) (n := 300) S_ok (by kernel_rfl)
def rD12 : AV := (.tup [(.agg [(.d (.int .i64 (4))), (.d (.int .i64 (0))), (.d (.int .i64 (0))), (.d (.str [43]))]), (.d (.int .i64 (1))), (.d (.bool true))])
theorem kD10x2 : Known Tryz.prog 25 [.str (sD1.drop 3)] rD12 := known mixed (kinds := kinds) (n := 300) S_ok (by kernel_rfl)
theorem kD10x3 : Known Tryz.prog 25 [.str (sD1.drop 5)] rD2 := known mixed (kinds := kinds) (n := 300) S_ok (by kernel_rfl)
theorem kD10x4 : Known Tryz.prog 25 [.str (sD1.drop 6)] rD11 := known mixed (kinds := kinds) (n := 300) S_ok (by kernel_rfl)
theorem kD10x5 : Known Tryz.prog 25 [.str (sD1.drop 8)] rD12 := known mixed (kinds := kinds) (n := 300) S_ok (by kernel_rfl)
theorem kD10x6 : Known Tryz.prog 25 [.str (sD1.drop 10)] rD2 := known mixed (kinds := kinds) (n := 300) S_ok (by kernel_rfl)
theorem kD10x7 : Known Tryz.prog 25 [.str (sD1.drop 11)] rD11 := known mixed (kinds := kinds) (n := 300) S_ok (by kernel_rfl)
theorem kD10x8 : Known Tryz.prog 25 [.str (sD1.drop 13)] rD12 := known mixed (kinds := kinds) (n := 300) S_ok (by kernel_rfl)
theorem kD10x9 : Known Tryz.prog 25 [.str (sD1.drop 15)] rD2 := known mixed (kinds := kinds) (n := 300) S_ok (by kernel_rfl)
theorem kD10x10 : Known Tryz.prog 25 [.str (sD1.drop 16)] rD11 := known mixed (kinds := kinds) (n := 300) S_ok (by kernel_rfl)
theorem kD10x11 : Known Tryz.prog 25 [.str (sD1.drop 18)] rD12 := known mixed (kinds := kinds) (n := 300) S_ok (by kernel_rfl)
theorem kD10x12 : Known Tryz.prog 25 [.str (sD1.drop 20)] rD2 := known mixed (kinds := kinds) (n := 300) S_ok (by kernel_rfl)
theorem kD10x13 : Known Tryz.prog 25 [.str (sD1.drop 21)] rD11 := known mixed (kinds := kinds) (n := 300) S_ok (by kernel_rfl)
theorem kD10x14 : Known Tryz.prog 25 [.str (sD1.drop 23)] rD12 := known mixed (kinds := kinds) (n := 300) S_ok (by kernel_rfl)
theorem kD10x15 : Known Tryz.prog 25 [.str (sD1.drop 25)] rD2 := known mixed (kinds := kinds) (n := 300) S_ok (by kernel_rfl)
theorem kD10x16 : Known Tryz.prog 25 [.str (sD1.drop 26)] rD11 := known mixed (kinds := kinds) (n := 300) S_ok (by kernel_rfl)
theorem kD10x17 : Known Tryz.prog 25 [.str (sD1.drop 28)] rD12 := known mixed (kinds := kinds) (n := 300) S_ok (by kernel_rfl)
theorem kD10x18 : Known Tryz.prog 25 [.str (sD1.drop 30)] rD2 := known mixed (kinds := kinds) (n := 300) S_ok (by kernel_rfl)
theorem kD10x19 : Known Tryz.prog 25 [.str (sD1.drop 31)] rD11 := known mixed (kinds := kinds) (n := 300) S_ok (by kernel_rfl)
theorem kD10x20 : Known Tryz.prog 25 [.str (sD1.drop 33)] rD12 := known mixed (kinds := kinds) (n := 300) S_ok (by kernel_rfl)
theorem kD10x21 : Known Tryz.prog 25 [.str (sD1.drop 35)] rD2 := known mixed (kinds := kinds) (n := 300) S_ok (by kernel_rfl)
theorem kD10x22 : Known Tryz.prog 25 [.str (sD1.drop 36)] rD11 := known mixed (kinds := kinds) (n := 300) S_ok (by kernel_rfl)
theorem kD10x23 : Known Tryz.prog 25 [.str (sD1.drop 38)] rD12 := known mixed (kinds := kinds) (n := 300) S_ok (by kernel_rfl)
theorem kD10x24 : Known Tryz.prog 25 [.str (sD1.drop 40)] rD2 := known mixed (kinds := kinds) (n := 300) S_ok (by kernel_rfl)
theorem kD10x25 : Known Tryz.prog 25 [.str (sD1.drop 41)] rD11 := known mixed (kinds := kinds) (n := 300) S_ok (by kernel_rfl)
theorem kD10x26 : Known Tryz.prog 25 [.str (sD1.drop 43)] rD12 := known mixed (kinds := kinds) (n := 300) S_ok (by kernel_rfl)
theorem kD10x27 : Known Tryz.prog 25 [.str (sD1.drop 45)] rD2 := known mixed (kinds := kinds) (n := 300) S_ok (by kernel_rfl)
theorem kD10x28 : Known Tryz.prog 25 [.str (sD1.drop 46)] rD11 := known mixed (kinds := kinds) (n := 300) S_ok (by kernel_rfl)
theorem kD10x29 : Known Tryz.prog 25 [.str (sD1.drop 48)] rD12 := known mixed (kinds := kinds) (n := 300) S_ok (by kernel_rfl)
theorem kD10x30 : Known Tryz.prog 25 [.str (sD1.drop 50)] rD4 := known mixed (kinds := kinds) (n := 300) S_ok (by kernel_rfl)
theorem kD10x31 : Known Tryz.prog 25 [.str (sD1.drop 51)] rD5 := known mixed (kinds := kinds) (n := 300) S_ok (by kernel_rfl)
theorem kD10x32 : Known Tryz.prog 25 [.str (sD1.drop 52)] rD6 := known mixed (kinds := kinds) (n := 300) S_ok (by kernel_rfl)
theorem kD10x33 : Known Tryz.prog 25 [.str (sD1.drop 53)] rD7 := known mixed (kinds := kinds) (n := 300) S_ok (by kernel_rfl)
theorem kD10x34 : Known Tryz.prog 25 [.str (sD1.drop 54)] rD8 := known mixed (kinds := kinds) (n := 300) S_ok (by kernel_rfl)
theorem kD10x35 : Known Tryz.prog 25 [.str (sD1.drop 55)] rD3 := known mixed (kinds := kinds) (n := 300) S_ok (by kernel_rfl)
theorem kD10x36 : Known Tryz.prog 25 [.str (sD1.drop 56)] rD3 := known mixed (kinds := kinds) (n := 300) S_ok (by kernel_rfl)
theorem kD10x37 : Known Tryz.prog 25 [.str (sD1.drop 57)] rD3 := known mixed (kinds := kinds) (n := 300) S_ok (by kernel_rfl)
theorem kD10x38 : Known Tryz.prog 25 [.str (sD1.drop 58)] rD3 := known mixed (kinds := kinds) (n := 300) S_ok (by kernel_rfl)
theorem kD10x39 : Known Tryz.prog 25 [.str (sD1.drop 59)] rD3 := known mixed (kinds := kinds) (n := 300) S_ok (by kernel_rfl)
theorem kD10x40 : Known Tryz.prog 25 [.str (sD1.drop 60)] rD3 := known mixed (kinds := kinds) (n := 300) S_ok (by kernel_rfl)
theorem kD10x41 : Known Tryz.prog 25 [.str (sD1.drop 61)] rD3 := known mixed (kinds := kinds) (n := 300) S_ok (by kernel_rfl)
theorem kD10x42 : Known Tryz.prog 25 [.str (sD1.drop 62)] rD3 := known mixed (kinds := kinds) (n := 300) S_ok (by kernel_rfl)
theorem kD10x43 : Known Tryz.prog 25 [.str (sD1.drop 63)] rD3 := known mixed (kinds := kinds) (n := 300) S_ok (by kernel_rfl)
theorem kD10x44 : Known Tryz.prog 25 [.str (sD1.drop 64)] rD3 := known mixed (kinds := kinds) (n := 300) S_ok (by kernel_rfl)
def mD10 : List (List D × AV) := [([.str (sD1.drop 0)], rD2), ([.str (sD1.drop 1)], rD11), ([.str (sD1.drop 3)], rD12), ([.str (sD1.drop 5)], rD2), ([.str (sD1.drop 6)], rD11), ([.str (sD1.drop 8)], rD12), ([.str (sD1.drop 10)], rD2), ([.str (sD1.drop 11)], rD11), ([.str (sD1.drop 13)], rD12), ([.str (sD1.drop 15)], rD2), ([.str (sD1.drop 16)], rD11), ([.str (sD1.drop 18)], rD12), ([.str (sD1.drop 20)], rD2), ([.str (sD1.drop 21)], rD11), ([.str (sD1.drop 23)], rD12), ([.str (sD1.drop 25)], rD2), ([.str (sD1.drop 26)], rD11), ([.str (sD1.drop 28)], rD12), ([.str (sD1.drop 30)], rD2), ([.str (sD1.drop 31)], rD11), ([.str (sD1.drop 33)], rD12), ([.str (sD1.drop 35)], rD2), ([.str (sD1.drop 36)], rD11), ([.str (sD1.drop 38)], rD12), ([.str (sD1.drop 40)], rD2), ([.str (sD1.drop 41)], rD11), ([.str (sD1.drop 43)], rD12), ([.str (sD1.drop 45)], rD2), ([.str (sD1.drop 46)], rD11), ([.str (sD1.drop 48)], rD12), ([.str (sD1.drop 50)], rD4), ([.str (sD1.drop 51)], rD5), ([.str (sD1.drop 52)], rD6), ([.str (sD1.drop 53)], rD7), ([.str (sD1.drop 54)], rD8), ([.str (sD1.drop 55)], rD3), ([.str (sD1.drop 56)], rD3), ([.str (sD1.drop 57)], rD3), ([.str (sD1.drop 58)], rD3), ([.str (sD1.drop 59)], rD3), ([.str (sD1.drop 60)], rD3), ([.str (sD1.drop 61)], rD3), ([.str (sD1.drop 62)], rD3), ([.str (sD1.drop 63)], rD3), ([.str (sD1.drop 64)], rD3)]
theorem mD10_ok : ∀ p, p ∈ mD10 → Known Tryz.prog 25 p.1 p.2 := by
  intro p hp
  rcases List.mem_cons.1 hp with rfl | hp
  · exact kD10x0
  rcases List.mem_cons.1 hp with rfl | hp
  · exact kD10x1
  rcases List.mem_cons.1 hp with rfl | hp
  · exact kD10x2
  rcases List.mem_cons.1 hp with rfl | hp
  · exact kD10x3
  rcases List.mem_cons.1 hp with rfl | hp
  · exact kD10x4
  rcases List.mem_cons.1 hp with rfl | hp
  · exact kD10x5
  rcases List.mem_cons.1 hp with rfl | hp
  · exact kD10x6
  rcases List.mem_cons.1 hp with rfl | hp
  · exact kD10x7
  rcases List.mem_cons.1 hp with rfl | hp
  · exact kD10x8
  rcases List.mem_cons.1 hp with rfl | hp
  · exact kD10x9
  rcases List.mem_cons.1 hp with rfl | hp
  · exact kD10x10
  rcases List.mem_cons.1 hp with rfl | hp
  · exact kD10x11
  rcases List.mem_cons.1 hp with rfl | hp
  · exact kD10x12
  rcases List.mem_cons.1 hp with rfl | hp
  · exact kD10x13
  rcases List.mem_cons.1 hp with rfl | hp
  · exact kD10x14
  rcases List.mem_cons.1 hp with rfl | hp
  · exact kD10x15
  rcases List.mem_cons.1 hp with rfl | hp
  · exact kD10x16
  rcases List.mem_cons.1 hp with rfl | hp
  · exact kD10x17
  rcases List.mem_cons.1 hp with rfl | hp
  · exact kD10x18
  rcases List.mem_cons.1 hp with rfl | hp
  · exact kD10x19
  rcases List.mem_cons.1 hp with rfl | hp
  · exact kD10x20
  rcases List.mem_cons.1 hp with rfl | hp
  · exact kD10x21
  rcases List.mem_cons.1 hp with rfl | hp
  · exact kD10x22
  rcases List.mem_cons.1 hp with rfl | hp
  · exact kD10x23
  rcases List.mem_cons.1 hp with rfl | hp
  · exact kD10x24
  rcases List.mem_cons.1 hp with rfl | hp
  · exact kD10x25
  rcases List.mem_cons.1 hp with rfl | hp
  · exact kD10x26
  rcases List.mem_cons.1 hp with rfl | hp
  · exact kD10x27
  rcases List.mem_cons.1 hp with rfl | hp
  · exact kD10x28
  rcases List.mem_cons.1 hp with rfl | hp
  · exact kD10x29
  rcases List.mem_cons.1 hp with rfl | hp
  · exact kD10x30
  rcases List.mem_cons.1 hp with rfl | hp
  · exact kD10x31
  rcases List.mem_cons.1 hp with rfl | hp
  · exact kD10x32
  rcases List.mem_cons.1 hp with rfl | hp
  · exact kD10x33
  rcases List.mem_cons.1 hp with rfl | hp
  · exact kD10x34
  rcases List.mem_cons.1 hp with rfl | hp
  · exact kD10x35
  rcases List.mem_cons.1 hp with rfl | hp
  · exact kD10x36
  rcases List.mem_cons.1 hp with rfl | hp
  · exact kD10x37
  rcases List.mem_cons.1 hp with rfl | hp
  · exact kD10x38
  rcases List.mem_cons.1 hp with rfl | hp
  · exact kD10x39
  rcases List.mem_cons.1 hp with rfl | hp
  · exact kD10x40
  rcases List.mem_cons.1 hp with rfl | hp
  · exact kD10x41
  rcases List.mem_cons.1 hp with rfl | hp
  · exact kD10x42
  rcases List.mem_cons.1 hp with rfl | hp
  · exact kD10x43
  rcases List.mem_cons.1 hp with rfl | hp
  · exact kD10x44
  cases hp
def SD10 : FuncId → Option (List AV → Boxes → M (AV × Boxes)) := fun f => if f = 25 then some (plainV (memoG mD10)) else S f
theorem SD10_ok : ∀ f s, SD10 f = some s → CallAt Tryz.prog f s := by
  intro f s h
  unfold SD10 at h
  split at h
  · rename_i e; subst e; cases h; exact memo_at mD10_ok
  · exact S_ok f s h
def rD13 : AV := (.tup [(.d (.sl (.pair (.int .i64) (.pair (.int .i64) (.pair (.int .i64) .str))) [((4 : Int), ((0 : Int), ((0 : Int), ([40] : List UInt8)))), ((1 : Int), ((1 : Int), ((1 : Int), ([] : List UInt8)))), ((4 : Int), ((0 : Int), ((3 : Int), ([43] : List UInt8)))), ((4 : Int), ((0 : Int), ((5 : Int), ([40] : List UInt8)))), ((1 : Int), ((1 : Int), ((6 : Int), ([] : List UInt8)))), ((4 : Int), ((0 : Int), ((8 : Int), ([43] : List UInt8)))), ((4 : Int), ((0 : Int), ((10 : Int), ([40] : List UInt8)))), ((1 : Int), ((1 : Int), ((11 : Int), ([] : List UInt8)))), ((4 : Int), ((0 : Int), ((13 : Int), ([43] : List UInt8)))), ((4 : Int), ((0 : Int), ((15 : Int), ([40] : List UInt8)))), ((1 : Int), ((1 : Int), ((16 : Int), ([] : List UInt8)))), ((4 : Int), ((0 : Int), ((18 : Int), ([43] : List UInt8)))), ((4 : Int), ((0 : Int), ((20 : Int), ([40] : List UInt8)))), ((1 : Int), ((1 : Int), ((21 : Int), ([] : List UInt8)))), ((4 : Int), ((0 : Int), ((23 : Int), ([43] : List UInt8)))), ((4 : Int), ((0 : Int), ((25 : Int), ([40] : List UInt8)))), ((1 : Int), ((1 : Int), ((26 : Int), ([] : List UInt8)))), ((4 : Int), ((0 : Int), ((28 : Int), ([43] : List UInt8)))), ((4 : Int), ((0 : Int), ((30 : Int), ([40] : List UInt8)))), ((1 : Int), ((1 : Int), ((31 : Int), ([] : List UInt8)))), ((4 : Int), ((0 : Int), ((33 : Int), ([43] : List UInt8)))), ((4 : Int), ((0 : Int), ((35 : Int), ([40] : List UInt8)))), ((1 : Int), ((1 : Int), ((36 : Int), ([] : List UInt8)))), ((4 : Int), ((0 : Int), ((38 : Int), ([43] : List UInt8)))), ((4 : Int), ((0 : Int), ((40 : Int), ([40] : List UInt8)))), ((1 : Int), ((1 : Int), ((41 : Int), ([] : List UInt8)))), ((4 : Int), ((0 : Int), ((43 : Int), ([43] : List UInt8)))), ((4 : Int), ((0 : Int), ((45 : Int), ([40] : List UInt8)))), ((1 : Int), ((1 : Int), ((46 : Int), ([] : List UInt8)))), ((4 : Int), ((0 : Int), ((48 : Int), ([43] : List UInt8)))), ((4 : Int), ((0 : Int), ((50 : Int), ([123] : List UInt8)))), ((4 : Int), ((0 : Int), ((51 : Int), ([125] : List UInt8)))), ((4 : Int), ((0 : Int), ((52 : Int), ([91] : List UInt8)))), ((1 : Int), ((5 : Int), ((53 : Int), ([] : List UInt8)))), ((4 : Int), ((0 : Int), ((54 : Int), ([93] : List UInt8)))), ((4 : Int), ((0 : Int), ((55 : Int), ([41] : List UInt8)))), ((4 : Int), ((0 : Int), ((56 : Int), ([41] : List UInt8)))), ((4 : Int), ((0 : Int), ((57 : Int), ([41] : List UInt8)))), ((4 : Int), ((0 : Int), ((58 : Int), ([41] : List UInt8)))), ((4 : Int), ((0 : Int), ((59 : Int), ([41] : List UInt8)))), ((4 : Int), ((0 : Int), ((60 : Int), ([41] : List UInt8)))), ((4 : Int), ((0 : Int), ((61 : Int), ([41] : List UInt8)))), ((4 : Int), ((0 : Int), ((62 : Int), ([41] : List UInt8)))), ((4 : Int), ((0 : Int), ((63 : Int), ([41] : List UInt8)))), ((4 : Int), ((0 : Int), ((64 : Int), ([41] : List UInt8))))])), (.d (.int .i64 (0))), (.d (.int .i64 (0)))])
theorem kD11x0 : Known Tryz.prog 14 [.str sD1] rD13 := known mixed (kinds := kinds) (n := 300) SD10_ok (by kernel_rfl)
def mD11 : List (List D × AV) := [([.str sD1], rD13)]
theorem mD11_ok : ∀ p, p ∈ mD11 → Known Tryz.prog 14 p.1 p.2 := by
  intro p hp
  rcases List.mem_cons.1 hp with rfl | hp
  · exact kD11x0
  cases hp
def SD11 : FuncId → Option (List AV → Boxes → M (AV × Boxes)) := fun f => if f = 14 then some (plainV (memoG mD11)) else SD10 f
theorem SD11_ok : ∀ f s, SD11 f = some s → CallAt Tryz.prog f s := by
  intro f s h
  unfold SD11 at h
  split at h
  · rename_i e; subst e; cases h; exact memo_at mD11_ok
  · exact SD10_ok f s h
def rD14 : AV := (.tup [(.agg [(.d (.int .i64 (0))), (.d (.int .i64 (0))), (.d .nils), (.d .nils), (.d .nils)]), (.d (.int .i64 (36))), (.d (.int .i64 (6)))])
theorem kD12x0 : Known Tryz.prog 6 [.str sD1] rD14 := known mixed (kinds := kinds) (n := 300) SD11_ok (by kernel_rfl)
def mD12 : List (List D × AV) := [([.str sD1], rD14)]
theorem mD12_ok : ∀ p, p ∈ mD12 → Known Tryz.prog 6 p.1 p.2 := by
  intro p hp
  rcases List.mem_cons.1 hp with rfl | hp
  · exact kD12x0
  cases hp
def sD2 : List UInt8 := [40, 49, 32, 43, 32, 40, 49, 32, 43, 32, 40, 49, 32, 43, 32, 40, 49, 32, 43, 32, 40, 49, 32, 43, 32, 40, 49, 32, 43, 32, 40, 49, 32, 43, 32, 123, 125, 91, 53, 93, 41, 41, 41, 41, 41, 41, 41]
theorem kD20x0 : Known Tryz.prog 25 [.str (sD2.drop 0)] rD2 := known mixed (kinds := kinds) (n := 300) S_ok (by kernel_rfl)
theorem kD20x1 : Known Tryz.prog 25 [.str (sD2.drop 1)] rD11 := known mixed (kinds := kinds) (n := 300) S_ok (by kernel_rfl)
theorem kD20x2 : Known Tryz.prog 25 [.str (sD2.drop 3)] rD12 := known mixed (kinds := kinds) (n := 300) S_ok (by kernel_rfl)
theorem kD20x3 : Known Tryz.prog 25 [.str (sD2.drop 5)] rD2 := known mixed (kinds := kinds) (n := 300) S_ok (by kernel_rfl)
theorem kD20x4 : Known Tryz.prog 25 [.str (sD2.drop 6)] rD11 := known mixed (kinds := kinds) (n := 300) S_ok (by kernel_rfl)
theorem kD20x5 : Known Tryz.prog 25 [.str (sD2.drop 8)] rD12 := known mixed (kinds := kinds) (n := 300) S_ok (by kernel_rfl)
theorem kD20x6 : Known Tryz.prog 25 [.str (sD2.drop 10)] rD2 := known mixed (kinds := kinds) (n := 300) S_ok (by kernel_rfl)
theorem kD20x7 : Known Tryz.prog 25 [.str (sD2.drop 11)] rD11 := known mixed (kinds := kinds) (n := 300) S_ok (by kernel_rfl)
theorem kD20x8 : Known Tryz.prog 25 [.str (sD2.drop 13)] rD12 := known mixed (kinds := kinds) (n := 300) S_ok (by kernel_rfl)
theorem kD20x9 : Known Tryz.prog 25 [.str (sD2.drop 15)] rD2 := known mixed (kinds := kinds) (n := 300) S_ok (by kernel_rfl)
theorem kD20x10 : Known Tryz.prog 25 [.str (sD2.drop 16)] rD11 := known mixed (kinds := kinds) (n := 300) S_ok (by kernel_rfl)
theorem kD20x11 : Known Tryz.prog 25 [.str (sD2.drop 18)] rD12 := known mixed (kinds := kinds) (n := 300) S_ok (by kernel_rfl)
theorem kD20x12 : Known Tryz.prog 25 [.str (sD2.drop 20)] rD2 := known mixed (kinds := kinds) (n := 300) S_ok (by kernel_rfl)
theorem kD20x13 : Known Tryz.prog 25 [.str (sD2.drop 21)] rD11 := known mixed (kinds := kinds) (n := 300) S_ok (by kernel_rfl)
theorem kD20x14 : Known Tryz.prog 25 [.str (sD2.drop 23)] rD12 := known mixed (kinds := kinds) (n := 300) S_ok (by kernel_rfl)
theorem kD20x15 : Known Tryz.prog 25 [.str (sD2.drop 25)] rD2 := known mixed (kinds := kinds) (n := 300) S_ok (by kernel_rfl)
theorem kD20x16 : Known Tryz.prog 25 [.str (sD2.drop 26)] rD11 := known mixed (kinds := kinds) (n := 300) S_ok (by kernel_rfl)
theorem kD20x17 : Known Tryz.prog 25 [.str (sD2.drop 28)] rD12 := known mixed (kinds := kinds) (n := 300) S_ok (by kernel_rfl)
theorem kD20x18 : Known Tryz.prog 25 [.str (sD2.drop 30)] rD2 := known mixed (kinds := kinds) (n := 300) S_ok (by kernel_rfl)
theorem kD20x19 : Known Tryz.prog 25 [.str (sD2.drop 31)] rD11 := known mixed (kinds := kinds) (n := 300) S_ok (by kernel_rfl)
theorem kD20x20 : Known Tryz.prog 25 [.str (sD2.drop 33)] rD12 := known mixed (kinds := kinds) (n := 300) S_ok (by kernel_rfl)
theorem kD20x21 : Known Tryz.prog 25 [.str (sD2.drop 35)] rD4 := known mixed (kinds := kinds) (n := 300) S_ok (by kernel_rfl)
theorem kD20x22 : Known Tryz.prog 25 [.str (sD2.drop 36)] rD5 := known mixed (kinds := kinds) (n := 300) S_ok (by kernel_rfl)
theorem kD20x23 : Known Tryz.prog 25 [.str (sD2.drop 37)] rD6 := known mixed (kinds := kinds) (n := 300) S_ok (by kernel_rfl)
theorem kD20x24 : Known Tryz.prog 25 [.str (sD2.drop 38)] rD7 := known mixed (kinds := kinds) (n := 300) S_ok (by kernel_rfl)
theorem kD20x25 : Known Tryz.prog 25 [.str (sD2.drop 39)] rD8 := known mixed (kinds := kinds) (n := 300) S_ok (by kernel_rfl)
theorem kD20x26 : Known Tryz.prog 25 [.str (sD2.drop 40)] rD3 := known mixed (kinds := kinds) (n := 300) S_ok (by kernel_rfl)
theorem kD20x27 : Known Tryz.prog 25 [.str (sD2.drop 41)] rD3 := known mixed (kinds := kinds) (n := 300) S_ok (by kernel_rfl)
theorem kD20x28 : Known Tryz.prog 25 [.str (sD2.drop 42)] rD3 := known mixed (kinds := kinds) (n := 300) S_ok (by kernel_rfl)
theorem kD20x29 : Known Tryz.prog 25 [.str (sD2.drop 43)] rD3 := known mixed (kinds := kinds) (n := 300) S_ok (by kernel_rfl)
theorem kD20x30 : Known Tryz.prog 25 [.str (sD2.drop 44)] rD3 := known mixed (kinds := kinds) (n := 300) S_ok (by kernel_rfl)
theorem kD20x31 : Known Tryz.prog 25 [.str (sD2.drop 45)] rD3 := known mixed (kinds := kinds) (n := 300) S_ok (by kernel_rfl)
theorem kD20x32 : Known Tryz.prog 25 [.str (sD2.drop 46)] rD3 := known mixed (kinds := kinds) (n := 300) S_ok (by kernel_rfl)
def mD20 : List (List D × AV) := [([.str (sD2.drop 0)], rD2), ([.str (sD2.drop 1)], rD11), ([.str (sD2.drop 3)], rD12), ([.str (sD2.drop 5)], rD2), ([.str (sD2.drop 6)], rD11), ([.str (sD2.drop 8)], rD12), ([.str (sD2.drop 10)], rD2), ([.str (sD2.drop 11)], rD11), ([.str (sD2.drop 13)], rD12), ([.str (sD2.drop 15)], rD2), ([.str (sD2.drop 16)], rD11), ([.str (sD2.drop 18)], rD12), ([.str (sD2.drop 20)], rD2), ([.str (sD2.drop 21)], rD11), ([.str (sD2.drop 23)], rD12), ([.str (sD2.drop 25)], rD2), ([.str (sD2.drop 26)], rD11), ([.str (sD2.drop 28)], rD12), ([.str (sD2.drop 30)], rD2), ([.str (sD2.drop 31)], rD11), ([.str (sD2.drop 33)], rD12), ([.str (sD2.drop 35)], rD4), ([.str (sD2.drop 36)], rD5), ([.str (sD2.drop 37)], rD6), ([.str (sD2.drop 38)], rD7), ([.str (sD2.drop 39)], rD8), ([.str (sD2.drop 40)], rD3), ([.str (sD2.drop 41)], rD3), ([.str (sD2.drop 42)], rD3), ([.str (sD2.drop 43)], rD3), ([.str (sD2.drop 44)], rD3), ([.str (sD2.drop 45)], rD3), ([.str (sD2.drop 46)], rD3)]
theorem mD20_ok : ∀ p, p ∈ mD20 → Known Tryz.prog 25 p.1 p.2 := by
  intro p hp
  rcases List.mem_cons.1 hp with rfl | hp
  · exact kD20x0
  rcases List.mem_cons.1 hp with rfl | hp
  · exact kD20x1
  rcases List.mem_cons.1 hp with rfl | hp
  · exact kD20x2
  rcases List.mem_cons.1 hp with rfl | hp
  · exact kD20x3
  rcases List.mem_cons.1 hp with rfl | hp
  · exact kD20x4
  rcases List.mem_cons.1 hp with rfl | hp
  · exact kD20x5
  rcases List.mem_cons.1 hp with rfl | hp
  · exact kD20x6
  rcases List.mem_cons.1 hp with rfl | hp
  · exact kD20x7
  rcases List.mem_cons.1 hp with rfl | hp
  · exact kD20x8
  rcases List.mem_cons.1 hp with rfl | hp
  · exact kD20x9
  rcases List.mem_cons.1 hp with rfl | hp
  · exact kD20x10
  rcases List.mem_cons.1 hp with rfl | hp
  · exact kD20x11
  rcases List.mem_cons.1 hp with rfl | hp
  · exact kD20x12
  rcases List.mem_cons.1 hp with rfl | hp
  · exact kD20x13
  rcases List.mem_cons.1 hp with rfl | hp
  · exact kD20x14
  rcases List.mem_cons.1 hp with rfl | hp
  · exact kD20x15
  rcases List.mem_cons.1 hp with rfl | hp
  · exact kD20x16
  rcases List.mem_cons.1 hp with rfl | hp
  · exact kD20x17
  rcases List.mem_cons.1 hp with rfl | hp
  · exact kD20x18
  rcases List.mem_cons.1 hp with rfl | hp
  · exact kD20x19
  rcases List.mem_cons.1 hp with rfl | hp
  · exact kD20x20
  rcases List.mem_cons.1 hp with rfl | hp
  · exact kD20x21
  rcases List.mem_cons.1 hp with rfl | hp
  · exact kD20x22
  rcases List.mem_cons.1 hp with rfl | hp
  · exact kD20x23
  rcases List.mem_cons.1 hp with rfl | hp
  · exact kD20x24
  rcases List.mem_cons.1 hp with rfl | hp
  · exact kD20x25
  rcases List.mem_cons.1 hp with rfl | hp
  · exact kD20x26
  rcases List.mem_cons.1 hp with rfl | hp
  · exact kD20x27
  rcases List.mem_cons.1 hp with rfl | hp
  · exact kD20x28
  rcases List.mem_cons.1 hp with rfl | hp
  · exact kD20x29
  rcases List.mem_cons.1 hp with rfl | hp
  · exact kD20x30
  rcases List.mem_cons.1 hp with rfl | hp
  · exact kD20x31
  rcases List.mem_cons.1 hp with rfl | hp
  · exact kD20x32
  cases hp
def SD20 : FuncId → Option (List AV → Boxes → M (AV × Boxes)) := fun f => if f = 25 then some (plainV (memoG mD20)) else S f
theorem SD20_ok : ∀ f s, SD20 f = some s → CallAt Tryz.prog f s := by
  intro f s h
  unfold SD20 at h
  split at h
  · rename_i e; subst e; cases h; exact memo_at mD20_ok
  · exact S_ok f s h
def rD15 : AV := (.tup [(.d (.sl (.pair (.int .i64) (.pair (.int .i64) (.pair (.int .i64) .str))) [((4 : Int), ((0 : Int), ((0 : Int), ([40] : List UInt8)))), ((1 : Int), ((1 : Int), ((1 : Int), ([] : List UInt8)))), ((4 : Int), ((0 : Int), ((3 : Int), ([43] : List UInt8)))), ((4 : Int), ((0 : Int), ((5 : Int), ([40] : List UInt8)))), ((1 : Int), ((1 : Int), ((6 : Int), ([] : List UInt8)))), ((4 : Int), ((0 : Int), ((8 : Int), ([43] : List UInt8)))), ((4 : Int), ((0 : Int), ((10 : Int), ([40] : List UInt8)))), ((1 : Int), ((1 : Int), ((11 : Int), ([] : List UInt8)))), ((4 : Int), ((0 : Int), ((13 : Int), ([43] : List UInt8)))), ((4 : Int), ((0 : Int), ((15 : Int), ([40] : List UInt8)))), ((1 : Int), ((1 : Int), ((16 : Int), ([] : List UInt8)))), ((4 : Int), ((0 : Int), ((18 : Int), ([43] : List UInt8)))), ((4 : Int), ((0 : Int), ((20 : Int), ([40] : List UInt8)))), ((1 : Int), ((1 : Int), ((21 : Int), ([] : List UInt8)))), ((4 : Int), ((0 : Int), ((23 : Int), ([43] : List UInt8)))), ((4 : Int), ((0 : Int), ((25 : Int), ([40] : List UInt8)))), ((1 : Int), ((1 : Int), ((26 : Int), ([] : List UInt8)))), ((4 : Int), ((0 : Int), ((28 : Int), ([43] : List UInt8)))), ((4 : Int), ((0 : Int), ((30 : Int), ([40] : List UInt8)))), ((1 : Int), ((1 : Int), ((31 : Int), ([] : List UInt8)))), ((4 : Int), ((0 : Int), ((33 : Int), ([43] : List UInt8)))), ((4 : Int), ((0 : Int), ((35 : Int), ([123] : List UInt8)))), ((4 : Int), ((0 : Int), ((36 : Int), ([125] : List UInt8)))), ((4 : Int), ((0 : Int), ((37 : Int), ([91] : List UInt8)))), ((1 : Int), ((5 : Int), ((38 : Int), ([] : List UInt8)))), ((4 : Int), ((0 : Int), ((39 : Int), ([93] : List UInt8)))), ((4 : Int), ((0 : Int), ((40 : Int), ([41] : List UInt8)))), ((4 : Int), ((0 : Int), ((41 : Int), ([41] : List UInt8)))), ((4 : Int), ((0 : Int), ((42 : Int), ([41] : List UInt8)))), ((4 : Int), ((0 : Int), ((43 : Int), ([41] : List UInt8)))), ((4 : Int), ((0 : Int), ((44 : Int), ([41] : List UInt8)))), ((4 : Int), ((0 : Int), ((45 : Int), ([41] : List UInt8)))), ((4 : Int), ((0 : Int), ((46 : Int), ([41] : List UInt8))))])), (.d (.int .i64 (0))), (.d (.int .i64 (0)))])
theorem kD21x0 : Known Tryz.prog 14 [.str sD2] rD15 := known mixed (kinds := kinds) (n := 300) SD20_ok (by kernel_rfl)
def mD21 : List (List D × AV) := [([.str sD2], rD15)]
theorem mD21_ok : ∀ p, p ∈ mD21 → Known Tryz.prog 14 p.1 p.2 := by
  intro p hp
  rcases List.mem_cons.1 hp with rfl | hp
  · exact kD21x0
  cases hp
def SD21 : FuncId → Option (List AV → Boxes → M (AV × Boxes)) := fun f => if f = 14 then some (plainV (memoG mD21)) else SD20 f
theorem SD21_ok : ∀ f s, SD21 f = some s → CallAt Tryz.prog f s := by
  intro f s h
  unfold SD21 at h
  split at h
  · rename_i e; subst e; cases h; exact memo_at mD21_ok
  · exact SD20_ok f s h
def rD16 : AV := (.tup [(.agg [(.d (.int .i64 (3))), (.d (.int .i64 (0))), (.d .nils), (.d .nils), (.d (.sl (.rose (.pair (.int .i64) (.pair (.int .i64) (.pair (.sl (.pair .str (.pair .str (.int .i64)))) (.sl .str))))) [(Rose.mk ((1 : Int), ((1 : Int), ([], []))) []), (Rose.mk ((3 : Int), ((0 : Int), ([], []))) [(Rose.mk ((1 : Int), ((1 : Int), ([], []))) []), (Rose.mk ((3 : Int), ((0 : Int), ([], []))) [(Rose.mk ((1 : Int), ((1 : Int), ([], []))) []), (Rose.mk ((3 : Int), ((0 : Int), ([], []))) [(Rose.mk ((1 : Int), ((1 : Int), ([], []))) []), (Rose.mk ((3 : Int), ((0 : Int), ([], []))) [(Rose.mk ((1 : Int), ((1 : Int), ([], []))) []), (Rose.mk ((3 : Int), ((0 : Int), ([], []))) [(Rose.mk ((1 : Int), ((1 : Int), ([], []))) []), (Rose.mk ((3 : Int), ((0 : Int), ([], []))) [(Rose.mk ((1 : Int), ((1 : Int), ([], []))) []), (Rose.mk ((2 : Int), ((5 : Int), ([], []))) [])])])])])])])]))]), (.d (.int .i64 (0))), (.d (.int .i64 (0)))])
theorem kD22x0 : Known Tryz.prog 6 [.str sD2] rD16 := known mixed (kinds := kinds) (n := 300) SD21_ok (by kernel_rfl)
def mD22 : List (List D × AV) := [([.str sD2], rD16)]
theorem mD22_ok : ∀ p, p ∈ mD22 → Known Tryz.prog 6 p.1 p.2 := by
  intro p hp
  rcases List.mem_cons.1 hp with rfl | hp
  · exact kD22x0
  cases hp
def sD3 : List UInt8 := [40, 49, 32, 43, 32, 40, 49, 32, 43, 32, 40, 49, 32, 43, 32, 40, 49, 32, 43, 32, 123, 125, 91, 53, 93, 41, 41, 41, 41]
theorem kD30x0 : Known Tryz.prog 25 [.str (sD3.drop 0)] rD2 := known mixed (kinds := kinds) (n := 300) S_ok (by kernel_rfl)
theorem kD30x1 : Known Tryz.prog 25 [.str (sD3.drop 1)] rD11 := known mixed (kinds := kinds) (n := 300) S_ok (by kernel_rfl)
theorem kD30x2 : Known Tryz.prog 25 [.str (sD3.drop 3)] rD12 := known mixed (kinds := kinds) (n := 300) S_ok (by kernel_rfl)
theorem kD30x3 : Known Tryz.prog 25 [.str (sD3.drop 5)] rD2 := known mixed (kinds := kinds) (n := 300) S_ok (by kernel_rfl)
theorem kD30x4 : Known Tryz.prog 25 [.str (sD3.drop 6)] rD11 := known mixed (kinds := kinds) (n := 300) S_ok (by kernel_rfl)
theorem kD30x5 : Known Tryz.prog 25 [.str (sD3.drop 8)] rD12 := known mixed (kinds := kinds) (n := 300) S_ok (by kernel_rfl)
theorem kD30x6 : Known Tryz.prog 25 [.str (sD3.drop 10)] rD2 := known mixed (kinds := kinds) (n := 300) S_ok (by kernel_rfl)
theorem kD30x7 : Known Tryz.prog 25 [.str (sD3.drop 11)] rD11 := known mixed (kinds := kinds) (n := 300) S_ok (by kernel_rfl)
theorem kD30x8 : Known Tryz.prog 25 [.str (sD3.drop 13)] rD12 := known mixed (kinds := kinds) (n := 300) S_ok (by kernel_rfl)
theorem kD30x9 : Known Tryz.prog 25 [.str (sD3.drop 15)] rD2 := known mixed (kinds := kinds) (n := 300) S_ok (by kernel_rfl)
theorem kD30x10 : Known Tryz.prog 25 [.str (sD3.drop 16)] rD11 := known mixed (kinds := kinds) (n := 300) S_ok (by kernel_rfl)
theorem kD30x11 : Known Tryz.prog 25 [.str (sD3.drop 18)] rD12 := known mixed (kinds := kinds) (n := 300) S_ok (by kernel_rfl)
theorem kD30x12 : Known Tryz.prog 25 [.str (sD3.drop 20)] rD4 := known mixed (kinds := kinds) (n := 300) S_ok (by kernel_rfl)
theorem kD30x13 : Known Tryz.prog 25 [.str (sD3.drop 21)] rD5 := known mixed (kinds := kinds) (n := 300) S_ok (by kernel_rfl)
theorem kD30x14 : Known Tryz.prog 25 [.str (sD3.drop 22)] rD6 := known mixed (kinds := kinds) (n := 300) S_ok (by kernel_rfl)
theorem kD30x15 : Known Tryz.prog 25 [.str (sD3.drop 23)] rD7 := known mixed (kinds := kinds) (n := 300) S_ok (by kernel_rfl)
theorem kD30x16 : Known Tryz.prog 25 [.str (sD3.drop 24)] rD8 := known mixed (kinds := kinds) (n := 300) S_ok (by kernel_rfl)
theorem kD30x17 : Known Tryz.prog 25 [.str (sD3.drop 25)] rD3 := known mixed (kinds := kinds) (n := 300) S_ok (by kernel_rfl)
theorem kD30x18 : Known Tryz.prog 25 [.str (sD3.drop 26)] rD3 := known mixed (kinds := kinds) (n := 300) S_ok (by kernel_rfl)
theorem kD30x19 : Known Tryz.prog 25 [.str (sD3.drop 27)] rD3 := known mixed (kinds := kinds) (n := 300) S_ok (by kernel_rfl)
theorem kD30x20 : Known Tryz.prog 25 [.str (sD3.drop 28)] rD3 := known mixed (kinds := kinds) (n := 300) S_ok (by kernel_rfl)
def mD30 : List (List D × AV) := [([.str (sD3.drop 0)], rD2), ([.str (sD3.drop 1)], rD11), ([.str (sD3.drop 3)], rD12), ([.str (sD3.drop 5)], rD2), ([.str (sD3.drop 6)], rD11), ([.str (sD3.drop 8)], rD12), ([.str (sD3.drop 10)], rD2), ([.str (sD3.drop 11)], rD11), ([.str (sD3.drop 13)], rD12), ([.str (sD3.drop 15)], rD2), ([.str (sD3.drop 16)], rD11), ([.str (sD3.drop 18)], rD12), ([.str (sD3.drop 20)], rD4), ([.str (sD3.drop 21)], rD5), ([.str (sD3.drop 22)], rD6), ([.str (sD3.drop 23)], rD7), ([.str (sD3.drop 24)], rD8), ([.str (sD3.drop 25)], rD3), ([.str (sD3.drop 26)], rD3), ([.str (sD3.drop 27)], rD3), ([.str (sD3.drop 28)], rD3)]
theorem mD30_ok : ∀ p, p ∈ mD30 → Known Tryz.prog 25 p.1 p.2 := by
  intro p hp
  rcases List.mem_cons.1 hp with rfl | hp
  · exact kD30x0
  rcases List.mem_cons.1 hp with rfl | hp
  · exact kD30x1
  rcases List.mem_cons.1 hp with rfl | hp
  · exact kD30x2
  rcases List.mem_cons.1 hp with rfl | hp
  · exact kD30x3
  rcases List.mem_cons.1 hp with rfl | hp
  · exact kD30x4
  rcases List.mem_cons.1 hp with rfl | hp
  · exact kD30x5
  rcases List.mem_cons.1 hp with rfl | hp
  · exact kD30x6
  rcases List.mem_cons.1 hp with rfl | hp
  · exact kD30x7
  rcases List.mem_cons.1 hp with rfl | hp
  · exact kD30x8
  rcases List.mem_cons.1 hp with rfl | hp
  · exact kD30x9
  rcases List.mem_cons.1 hp with rfl | hp
  · exact kD30x10
  rcases List.mem_cons.1 hp with rfl | hp
  · exact kD30x11
  rcases List.mem_cons.1 hp with rfl | hp
  · exact kD30x12
  rcases List.mem_cons.1 hp with rfl | hp
  · exact kD30x13
  rcases List.mem_cons.1 hp with rfl | hp
  · exact kD30x14
  rcases List.mem_cons.1 hp with rfl | hp
  · exact kD30x15
  rcases List.mem_cons.1 hp with rfl | hp
  · exact kD30x16
  rcases List.mem_cons.1 hp with rfl | hp
  · exact kD30x17
  rcases List.mem_cons.1 hp with rfl | hp
  · exact kD30x18
  rcases List.mem_cons.1 hp with rfl | hp
  · exact kD30x19
  rcases List.mem_cons.1 hp with rfl | hp
  · exact kD30x20
  cases hp
def SD30 : FuncId → Option (List AV → Boxes → M (AV × Boxes)) := fun f => if f = 25 then some (plainV (memoG mD30)) else S f
theorem SD30_ok : ∀ f s, SD30 f = some s → CallAt Tryz.prog f s := by
  intro f s h
  unfold SD30 at h
  split at h
  · rename_i e; subst e; cases h; exact memo_at mD30_ok
  · exact S_ok f s h
def rD17 : AV := (.tup [(.d (.sl (.pair (.int .i64) (.pair (.int .i64) (.pair (.int .i64) .str))) [((4 : Int), ((0 : Int), ((0 : Int), ([40] : List UInt8)))), ((1 : Int), ((1 : Int), ((1 : Int), ([] : List UInt8)))), ((4 : Int), ((0 : Int), ((3 : Int), ([43] : List UInt8)))), ((4 : Int), ((0 : Int), ((5 : Int), ([40] : List UInt8)))), ((1 : Int), ((1 : Int), ((6 : Int), ([] : List UInt8)))), ((4 : Int), ((0 : Int), ((8 : Int), ([43] : List UInt8)))), ((4 : Int), ((0 : Int), ((10 : Int), ([40] : List UInt8)))), ((1 : Int), ((1 : Int), ((11 : Int), ([] : List UInt8)))), ((4 : Int), ((0 : Int), ((13 : Int), ([43] : List UInt8)))), ((4 : Int), ((0 : Int), ((15 : Int), ([40] : List UInt8)))), ((1 : Int), ((1 : Int), ((16 : Int), ([] : List UInt8)))), ((4 : Int), ((0 : Int), ((18 : Int), ([43] : List UInt8)))), ((4 : Int), ((0 : Int), ((20 : Int), ([123] : List UInt8)))), ((4 : Int), ((0 : Int), ((21 : Int), ([125] : List UInt8)))), ((4 : Int), ((0 : Int), ((22 : Int), ([91] : List UInt8)))), ((1 : Int), ((5 : Int), ((23 : Int), ([] : List UInt8)))), ((4 : Int), ((0 : Int), ((24 : Int), ([93] : List UInt8)))), ((4 : Int), ((0 : Int), ((25 : Int), ([41] : List UInt8)))), ((4 : Int), ((0 : Int), ((26 : Int), ([41] : List UInt8)))), ((4 : Int), ((0 : Int), ((27 : Int), ([41] : List UInt8)))), ((4 : Int), ((0 : Int), ((28 : Int), ([41] : List UInt8))))])), (.d (.int .i64 (0))), (.d (.int .i64 (0)))])
theorem kD31x0 : Known Tryz.prog 14 [.str sD3] rD17 := known mixed (kinds := kinds) (n := 300) SD30_ok (by kernel_rfl)
def mD31 : List (List D × AV) := [([.str sD3], rD17)]
theorem mD31_ok : ∀ p, p ∈ mD31 → Known Tryz.prog 14 p.1 p.2 := by
  intro p hp
  rcases List.mem_cons.1 hp with rfl | hp
  · exact kD31x0
  cases hp
def SD31 : FuncId → Option (List AV → Boxes → M (AV × Boxes)) := fun f => if f = 14 then some (plainV (memoG mD31)) else SD30 f
theorem SD31_ok : ∀ f s, SD31 f = some s → CallAt Tryz.prog f s := by
  intro f s h
  unfold SD31 at h
  split at h
  · rename_i e; subst e; cases h; exact memo_at mD31_ok
  · exact SD30_ok f s h
def rD18 : AV := (.tup [(.agg [(.d (.int .i64 (3))), (.d (.int .i64 (0))), (.d .nils), (.d .nils), (.d (.sl (.rose (.pair (.int .i64) (.pair (.int .i64) (.pair (.sl (.pair .str (.pair .str (.int .i64)))) (.sl .str))))) [(Rose.mk ((1 : Int), ((1 : Int), ([], []))) []), (Rose.mk ((3 : Int), ((0 : Int), ([], []))) [(Rose.mk ((1 : Int), ((1 : Int), ([], []))) []), (Rose.mk ((3 : Int), ((0 : Int), ([], []))) [(Rose.mk ((1 : Int), ((1 : Int), ([], []))) []), (Rose.mk ((3 : Int), ((0 : Int), ([], []))) [(Rose.mk ((1 : Int), ((1 : Int), ([], []))) []), (Rose.mk ((2 : Int), ((5 : Int), ([], []))) [])])])])]))]), (.d (.int .i64 (0))), (.d (.int .i64 (0)))])
theorem kD32x0 : Known Tryz.prog 6 [.str sD3] rD18 := known mixed (kinds := kinds) (n := 300) SD31_ok (by kernel_rfl)
def mD32 : List (List D × AV) := [([.str sD3], rD18)]
theorem mD32_ok : ∀ p, p ∈ mD32 → Known Tryz.prog 6 p.1 p.2 := by
  intro p hp
  rcases List.mem_cons.1 hp with rfl | hp
  · exact kD32x0
  cases hp
end Go.Proofs.YtnmakkgomplchaaGreatDoor.EvS.ExprDeep
