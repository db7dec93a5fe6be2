/- Calls over plain data, each reckoned once. Conditions: none. -/
import Derived.Test.YtnmakkgomplchaaGreatDoorLibS
import Derived.Test.YtnmakkgomplchaaGreatDoorEvZg
namespace Go.Proofs.YtnmakkgomplchaaGreatDoor.EvS.ExprDeep
open Go.Ev
set_option maxRecDepth 100000
def sA0 : List UInt8 := [115, 117, 109, 32, 98, 121, 32, 40, 41, 32, 40, 115, 117, 109, 32, 98, 121, 32, 40, 41, 32, 40, 115, 117, 109, 32, 98, 121, 32, 40, 41, 32, 40, 115, 117, 109, 32, 98, 121, 32, 40, 41, 32, 40, 115, 117, 109, 32, 98, 121, 32, 40, 41, 32, 40, 115, 117, 109, 32, 98, 121, 32, 40, 41, 32, 40, 115, 117, 109, 32, 98, 121, 32, 40, 41, 32, 40, 115, 117, 109, 32, 98, 121, 32, 40, 41, 32, 40, 115, 117, 109, 32, 98, 121, 32, 40, 41, 32, 40, 115, 117, 109, 32, 98, 121, 32, 40, 41, 32, 40, 115, 117, 109, 32, 98, 121, 32, 40, 41, 32, 40, 123, 125, 91, 53, 93, 41, 41, 41, 41, 41, 41, 41, 41, 41, 41, 41]
def rA0 : AV := (.tup [(.agg [(.d (.int .i64 (2))), (.d (.int .i64 (0))), (.d (.int .i64 (0))), (.d (.str [115, 117, 109]))]), (.d (.int .i64 (3))), (.d (.bool true))])
theorem kA00x0 : Known Tryz.prog 25 [.str (sA0.drop 0)] rA0 := known mixed (kinds := kinds) (n := 300) S_ok (by kernel_rfl)
def rA1 : AV := (.tup [(.agg [(.d (.int .i64 (2))), (.d (.int .i64 (0))), (.d (.int .i64 (0))), (.d (.str [98, 121]))]), (.d (.int .i64 (2))), (.d (.bool true))])
theorem kA00x1 : Known Tryz.prog 25 [.str (sA0.drop 4)] rA1 := known mixed (kinds := kinds) (n := 300) S_ok (by kernel_rfl)
def rA2 : AV := (.tup [(.agg [(.d (.int .i64 (4))), (.d (.int .i64 (0))), (.d (.int .i64 (0))), (.d (.str [40]))]), (.d (.int .i64 (1))), (.d (.bool true))])
theorem kA00x2 : Known Tryz.prog 25 [.str (sA0.drop 7)] rA2 := known mixed (kinds := kinds) (n := 300) S_ok (by kernel_rfl)
def rA3 : AV := (.tup [(.agg [(.d (.int .i64 (4))), (.d (.int .i64 (0))), (.d (.int .i64 (0))), (.d (.str [41]))]), (.d (.int .i64 (1))), (.d (.bool true))])
theorem kA00x3 : Known Tryz.prog 25 [.str (sA0.drop 8)] rA3 := known mixed (kinds := kinds) (n := 300) S_ok (by kernel_rfl)
theorem kA00x4 : Known Tryz.prog 25 [.str (sA0.drop 10)] rA2 := known mixed (kinds := kinds) (n := 300) S_ok (by kernel_rfl)
theorem kA00x5 : Known Tryz.prog 25 [.str (sA0.drop 11)] rA0 := known mixed (kinds := kinds) (n := 300) S_ok (by kernel_rfl)
theorem kA00x6 : Known Tryz.prog 25 [.str (sA0.drop 15)] rA1 := known mixed (kinds := kinds) (n := 300) S_ok (by kernel_rfl)
theorem kA00x7 : Known Tryz.prog 25 [.str (sA0.drop 18)] rA2 := known mixed (kinds := kinds) (n := 300) S_ok (by kernel_rfl)
theorem kA00x8 : Known Tryz.prog 25 [.str (sA0.drop 19)] rA3 := known mixed (kinds := kinds) (n := 300) S_ok (by kernel_rfl)
theorem kA00x9 : Known Tryz.prog 25 [.str (sA0.drop 21)] rA2 := known mixed (kinds := kinds) (n := 300) S_ok (by kernel_rfl)
theorem kA00x10 : Known Tryz.prog 25 [.str (sA0.drop 22)] rA0 := known mixed (kinds := kinds) (n := 300) S_ok (by kernel_rfl)
theorem kA00x11 : Known Tryz.prog 25 [.str (sA0.drop 26)] rA1 := known mixed (kinds := kinds) (n := 300) S_ok (by kernel_rfl)
theorem kA00x12 : Known Tryz.prog 25 [.str (sA0.drop 29)] rA2 := known mixed (kinds := kinds) (n := 300) S_ok (by kernel_rfl)
theorem kA00x13 : Known Tryz.prog 25 [.str (sA0.drop 30)] rA3 := known mixed (kinds := kinds) (n := 300) S_ok (by kernel_rfl)
theorem kA00x14 : Known Tryz.prog 25 [.str (sA0.drop 32)] rA2 := known mixed (kinds := kinds) (n := 300) S_ok (by kernel_rfl)
theorem kA00x15 : Known Tryz.prog 25 [.str (sA0.drop 33)] rA0 := known mixed (kinds := kinds) (n := 300) S_ok (by kernel_rfl)
theorem kA00x16 : Known Tryz.prog 25 [.str (sA0.drop 37)] rA1 := known mixed (kinds := kinds) (n := 300) S_ok (by kernel_rfl)
theorem kA00x17 : Known Tryz.prog 25 [.str (sA0.drop 40)] rA2 := known mixed (kinds := kinds) (n := 300) S_ok (by kernel_rfl)
theorem kA00x18 : Known Tryz.prog 25 [.str (sA0.drop 41)] rA3 := known mixed (kinds := kinds) (n := 300) S_ok (by kernel_rfl)
theorem kA00x19 : Known Tryz.prog 25 [.str (sA0.drop 43)] rA2 := known mixed (kinds := kinds) (n := 300) S_ok (by kernel_rfl)
theorem kA00x20 : Known Tryz.prog 25 [.str (sA0.drop 44)] rA0 := known mixed (kinds := kinds) (n := 300) S_ok (by kernel_rfl)
theorem kA00x21 : Known Tryz.prog 25 [.str (sA0.drop 48)] rA1 := known mixed (kinds := kinds) (n := 300) S_ok (by kernel_rfl)
theorem kA00x22 : Known Tryz.prog 25 [.str (sA0.drop 51)] rA2 := known mixed (kinds := kinds) (n := 300) S_ok (by kernel_rfl)
theorem kA00x23 : Known Tryz.prog 25 [.str (sA0.drop 52)] rA3 := known mixed (kinds := kinds) (n := 300) S_ok (by kernel_rfl)
theorem kA00x24 : Known Tryz.prog 25 [.str (sA0.drop 54)] rA2 := known mixed (kinds := kinds) (n := 300) S_ok (by kernel_rfl)
theorem kA00x25 : Known Tryz.prog 25 [.str (sA0.drop 55)] rA0 := known mixed (kinds := kinds) (n := 300) S_ok (by kernel_rfl)
theorem kA00x26 : Known Tryz.prog 25 [.str (sA0.drop 59)] rA1 := known mixed (kinds := kinds) (n := 300) S_ok (by kernel_rfl)
theorem kA00x27 : Known Tryz.prog 25 [.str (sA0.drop 62)] rA2 := known mixed (kinds := kinds) (n := 300) S_ok (by kernel_rfl)
theorem kA00x28 : Known Tryz.prog 25 [.str (sA0.drop 63)] rA3 := known mixed (kinds := kinds) (n := 300) S_ok (by kernel_rfl)
theorem kA00x29 : Known Tryz.prog 25 [.str (sA0.drop 65)] rA2 := known mixed (kinds := kinds) (n := 300) S_ok (by kernel_rfl)
theorem kA00x30 : Known Tryz.prog 25 [.str (sA0.drop 66)] rA0 := known mixed (kinds := kinds) (n := 300) S_ok (by kernel_rfl)
theorem kA00x31 : Known Tryz.prog 25 [.str (sA0.drop 70)] rA1 := known mixed (kinds := kinds) (n := 300) S_ok (by kernel_rfl)
theorem kA00x32 : Known Tryz.prog 25 [.str (sA0.drop 73)] rA2 := known mixed (kinds := kinds) (n := 300) S_ok (by kernel_rfl)
theorem kA00x33 : Known Tryz.prog 25 [.str (sA0.drop 74)] rA3 := known mixed (kinds := kinds) (n := 300) S_ok (by kernel_rfl)
theorem kA00x34 : Known Tryz.prog 25 [.str (sA0.drop 76)] rA2 := known mixed (kinds := kinds) (n := 300) S_ok (by kernel_rfl)
theorem kA00x35 : Known Tryz.prog 25 [.str (sA0.drop 77)] rA0 := known mixed (kinds := kinds) (n := 300) S_ok (by kernel_rfl)
theorem kA00x36 : Known Tryz.prog 25 [.str (sA0.drop 81)] rA1 := known mixed (kinds := kinds) (n := 300) S_ok (by kernel_rfl)
theorem kA00x37 : Known Tryz.prog 25 [.str (sA0.drop 84)] rA2 := known mixed (kinds := kinds) (n := 300) S_ok (by kernel_rfl)
theorem kA00x38 : Known Tryz.prog 25 [.str (sA0.drop 85)] rA3 := known mixed (kinds := kinds) (n := 300) S_ok (by kernel_rfl)
theorem kA00x39 : Known Tryz.prog 25 [.str (sA0.drop 87)] rA2 := known mixed (kinds := kinds) (n := 300) S_ok (by kernel_rfl)
theorem kA00x40 : Known Tryz.prog 25 [.str (sA0.drop 88)] rA0 := known mixed (kinds := kinds) (n := 300) S_ok (by kernel_rfl)
theorem kA00x41 : Known Tryz.prog 25 [.str (sA0.drop 92)] rA1 := known mixed (kinds := kinds) (n := 300) S_ok (by kernel_rfl)
theorem kA00x42 : Known Tryz.prog 25 [.str (sA0.drop 95)] rA2 := known mixed (kinds := kinds) (n := 300) S_ok (by kernel_rfl)
theorem kA00x43 : Known Tryz.prog 25 [.str (sA0.drop 96)] rA3 := known mixed (kinds := kinds) (n := 300) S_ok (by kernel_rfl)
theorem kA00x44 : Known Tryz.prog 25 [.str (sA0.drop 98)] rA2 := known mixed (kinds := kinds) (n := 300) S_ok (by kernel_rfl)
theorem kA00x45 : Known Tryz.prog 25 [.str (sA0.drop 99)] rA0 := known mixed (kinds := kinds) (n := 300) S_ok (by kernel_rfl)
theorem kA00x46 : Known Tryz.prog 25 [.str (sA0.drop 103)] rA1 := known mixed (kinds := kinds) (n := 300) S_ok (by kernel_rfl)
theorem kA00x47 : Known Tryz.prog 25 [.str (sA0.drop 106)] rA2 := known mixed (kinds := kinds) (n := 300) S_ok (by kernel_rfl)
theorem kA00x48 : Known Tryz.prog 25 [.str (sA0.drop 107)] rA3 := known mixed (kinds := kinds) (n := 300) S_ok (by kernel_rfl)
theorem kA00x49 : Known Tryz.prog 25 [.str (sA0.drop 109)] rA2 := known mixed (kinds := kinds) (n := 300) S_ok (by kernel_rfl)
theorem kA00x50 : Known Tryz.prog 25 [.str (sA0.drop 110)] rA0 := known mixed (kinds := kinds) (n := 300) S_ok (by kernel_rfl)
theorem kA00x51 : Known Tryz.prog 25 [.str (sA0.drop 114)] rA1 := known mixed (kinds := kinds) (n := 300) S_ok (by kernel_rfl)
theorem kA00x52 : Known Tryz.prog 25 [.str (sA0.drop 117)] rA2 := known mixed (kinds := kinds) (n := 300) S_ok (by kernel_rfl)
theorem kA00x53 : Known Tryz.prog 25 [.str (sA0.drop 118)] rA3 := known mixed (kinds := kinds) (n := 300) S_ok (by kernel_rfl)
theorem kA00x54 : Known Tryz.prog 25 [.str (sA0.drop 120)] rA2 := known mixed (kinds := kinds) (n := 300) S_ok (by kernel_rfl)
def rA4 : AV := (.tup [(.agg [(.d (.int .i64 (4))), (.d (.int .i64 (0))), (.d (.int .i64 (0))), (.d (.str [123]))]), (.d (.int .i64 (1))), (.d (.bool true))])
theorem kA00x55 : Known Tryz.prog 25 [.str (sA0.drop 121)] rA4 := known mixed (kinds := kinds) (n := 300) S_ok (by kernel_rfl)
def rA5 : AV := (.tup [(.agg [(.d (.int .i64 (4))), (.d (.int .i64 (0))), (.d (.int .i64 (0))), (.d (.str [125]))]), (.d (.int .i64 (1))), (.d (.bool true))])
theorem kA00x56 : Known Tryz.prog 25 [.str (sA0.drop 122)] rA5 := known mixed (kinds := kinds) (n := 300) S_ok (by kernel_rfl)
def rA6 : AV := (.tup [(.agg [(.d (.int .i64 (4))), (.d (.int .i64 (0))), (.d (.int .i64 (0))), (.d (.str [91]))]), (.d (.int .i64 (1))), (.d (.bool true))])
theorem kA00x57 : Known Tryz.prog 25 [.str (sA0.drop 123)] rA6 := known mixed (kinds := kinds) (n := 300) S_ok (by kernel_rfl)
def rA7 : AV := (.tup [(.agg [(.d (.int .i64 (1))), (.d (.int .i64 (5))), (.d (.int .i64 (0))), (.d (.str []))]), (.d (.int .i64 (1))), (.d (.bool true))])
theorem kA00x58 : Known Tryz.prog 25 [.str (sA0.drop 124)] rA7 := known mixed (kinds := kinds) (n := 300) S_ok (by kernel_rfl)
def rA8 : AV := (.tup [(.agg [(.d (.int .i64 (4))), (.d (.int .i64 (0))), (.d (.int .i64 (0))), (.d (.str [93]))]), (.d (.int .i64 (1))), (.d (.bool true))])
theorem kA00x59 : Known Tryz.prog 25 [.str (sA0.drop 125)] rA8 := known mixed (kinds := kinds) (n := 300) S_ok (by kernel_rfl)
theorem kA00x60 : Known Tryz.prog 25 [.str (sA0.drop 126)] rA3 := known mixed (kinds := kinds) (n := 300) S_ok (by kernel_rfl)
theorem kA00x61 : Known Tryz.prog 25 [.str (sA0.drop 127)] rA3 := known mixed (kinds := kinds) (n := 300) S_ok (by kernel_rfl)
theorem kA00x62 : Known Tryz.prog 25 [.str (sA0.drop 128)] rA3 := known mixed (kinds := kinds) (n := 300) S_ok (by kernel_rfl)
theorem kA00x63 : Known Tryz.prog 25 [.str (sA0.drop 129)] rA3 := known mixed (kinds := kinds) (n := 300) S_ok (by kernel_rfl)
theorem kA00x64 : Known Tryz.prog 25 [.str (sA0.drop 130)] rA3 := known mixed (kinds := kinds) (n := 300) S_ok (by kernel_rfl)
theorem kA00x65 : Known Tryz.prog 25 [.str (sA0.drop 131)] rA3 := known mixed (kinds := kinds) (n := 300) S_ok (by kernel_rfl)
theorem kA00x66 : Known Tryz.prog 25 [.str (sA0.drop 132)] rA3 := known mixed (kinds := kinds) (n := 300) S_ok (by kernel_rfl)
theorem kA00x67 : Known Tryz.prog 25 [.str (sA0.drop 133)] rA3 := known mixed (kinds := kinds) (n := 300) S_ok (by kernel_rfl)
theorem kA00x68 : Known Tryz.prog 25 [.str (sA0.drop 134)] rA3 := known mixed (kinds := kinds) (n := 300) S_ok (by kernel_rfl)
theorem kA00x69 : Known Tryz.prog 25 [.str (sA0.drop 135)] rA3 := known mixed (kinds := kinds) (n := 300) S_ok (by kernel_rfl)
theorem kA00x70 : Known Tryz.prog 25 [.str (sA0.drop 136)] rA3 := known mixed (kinds := kinds) (n := 300) S_ok (by kernel_rfl)
def mA00 : List (List D × AV) := [([.str (sA0.drop 0)], rA0), ([.str (sA0.drop 4)], rA1), ([.str (sA0.drop 7)], rA2), ([.str (sA0.drop 8)], rA3), ([.str (sA0.drop 10)], rA2), ([.str (sA0.drop 11)], rA0), ([.str (sA0.drop 15)], rA1), ([.str (sA0.drop 18)], rA2), ([.str (sA0.drop 19)], rA3), ([.str (sA0.drop 21)], rA2), ([.str (sA0.drop 22)], rA0), ([.str (sA0.drop 26)], rA1), ([.str (sA0.drop 29)], rA2), ([.str (sA0.drop 30)], rA3), ([.str (sA0.drop 32)], rA2), ([.str (sA0.drop 33)], rA0), ([.str (sA0.drop 37)], rA1), ([.str (sA0.drop 40)], rA2), ([.str (sA0.drop 41)], rA3), ([.str (sA0.drop 43)], rA2), ([.str (sA0.drop 44)], rA0), ([.str (sA0.drop 48)], rA1), ([.str (sA0.drop 51)], rA2), ([.str (sA0.drop 52)], rA3), ([.str (sA0.drop 54)], rA2), ([.str (sA0.drop 55)], rA0), ([.str (sA0.drop 59)], rA1), ([.str (sA0.drop 62)], rA2), ([.str (sA0.drop 63)], rA3), ([.str (sA0.drop 65)], rA2), ([.str (sA0.drop 66)], rA0), ([.str (sA0.drop 70)], rA1), ([.str (sA0.drop 73)], rA2), ([.str (sA0.drop 74)], rA3), ([.str (sA0.drop 76)], rA2), ([.str (sA0.drop 77)], rA0), ([.str (sA0.drop 81)], rA1), ([.str (sA0.drop 84)], rA2), ([.str (sA0.drop 85)], rA3), ([.str (sA0.drop 87)], rA2), ([.str (sA0.drop 88)], rA0), ([.str (sA0.drop 92)], rA1), ([.str (sA0.drop 95)], rA2), ([.str (sA0.drop 96)], rA3), ([.str (sA0.drop 98)], rA2), ([.str (sA0.drop 99)], rA0), ([.str (sA0.drop 103)], rA1), ([.str (sA0.drop 106)], rA2), ([.str (sA0.drop 107)], rA3), ([.str (sA0.drop 109)], rA2), ([.str (sA0.drop 110)], rA0), ([.str (sA0.drop 114)], rA1), ([.str (sA0.drop 117)], rA2), ([.str (sA0.drop 118)], rA3), ([.str (sA0.drop 120)], rA2), ([.str (sA0.drop 121)], rA4), ([.str (sA0.drop 122)], rA5), ([.str (sA0.drop 123)], rA6), ([.str (sA0.drop 124)], rA7), ([.str (sA0.drop 125)], rA8), ([.str (sA0.drop 126)], rA3), ([.str (sA0.drop 127)], rA3), ([.str (sA0.drop 128)], rA3), ([.str (sA0.drop 129)], rA3), ([.str (sA0.drop 130)], rA3), ([.str (sA0.drop 131)], rA3), ([.str (sA0.drop 132)], rA3), ([.str (sA0.drop 133)], rA3), ([.str (sA0.drop 134)], rA3), ([.str (sA0.drop 135)], rA3), ([.str (sA0.drop 136)], rA3)]
theorem mA00_ok : ∀ p, p ∈ mA00 → Known Tryz.prog 25 p.1 p.2 := by
  intro p hp
  rcases List.mem_cons.1 hp with rfl | hp
  · exact kA00x0
  rcases List.mem_cons.1 hp with rfl | hp
  · exact kA00x1
  rcases List.mem_cons.1 hp with rfl | hp
  · exact kA00x2
  rcases List.mem_cons.1 hp with rfl | hp
  · exact kA00x3
  rcases List.mem_cons.1 hp with rfl | hp
  · exact kA00x4
  rcases List.mem_cons.1 hp with rfl | hp
  · exact kA00x5
  rcases List.mem_cons.1 hp with rfl | hp
  · exact kA00x6
  rcases List.mem_cons.1 hp with rfl | hp
  · exact kA00x7
  rcases List.mem_cons.1 hp with rfl | hp
  · exact kA00x8
  rcases List.mem_cons.1 hp with rfl | hp
  · exact kA00x9
  rcases List.mem_cons.1 hp with rfl | hp
  · exact kA00x10
  rcases List.mem_cons.1 hp with rfl | hp
  · exact kA00x11
  rcases List.mem_cons.1 hp with rfl | hp
  · exact kA00x12
  rcases List.mem_cons.1 hp with rfl | hp
  · exact kA00x13
  rcases List.mem_cons.1 hp with rfl | hp
  · exact kA00x14
  rcases List.mem_cons.1 hp with rfl | hp
  · exact kA00x15
  rcases List.mem_cons.1 hp with rfl | hp
  · exact kA00x16
  rcases List.mem_cons.1 hp with rfl | hp
  · exact kA00x17
  rcases List.mem_cons.1 hp with rfl | hp
  · exact kA00x18
  rcases List.mem_cons.1 hp with rfl | hp
  · exact kA00x19
  rcases List.mem_cons.1 hp with rfl | hp
  · exact kA00x20
  rcases List.mem_cons.1 hp with rfl | hp
  · exact kA00x21
  rcases List.mem_cons.1 hp with rfl | hp
  · exact kA00x22
  rcases List.mem_cons.1 hp with rfl | hp
  · exact kA00x23
  rcases List.mem_cons.1 hp with rfl | hp
  · exact kA00x24
  rcases List.mem_cons.1 hp with rfl | hp
  · exact kA00x25
  rcases List.mem_cons.1 hp with rfl | hp
  · exact kA00x26
  rcases List.mem_cons.1 hp with rfl | hp
  · exact kA00x27
  rcases List.mem_cons.1 hp with rfl | hp
  · exact kA00x28
  rcases List.mem_cons.1 hp with rfl | hp
  · exact kA00x29
  rcases List.mem_cons.1 hp with rfl | hp
  · exact kA00x30
  rcases List.mem_cons.1 hp with rfl | hp
  · exact kA00x31
  rcases List.mem_cons.1 hp with rfl | hp
  · exact kA00x32
  rcases List.mem_cons.1 hp with rfl | hp
  · exact kA00x33
  rcases List.mem_cons.1 hp with rfl | hp
  · exact kA00x34
  rcases List.mem_cons.1 hp with rfl | hp
  · exact kA00x35
  rcases List.mem_cons.1 hp with rfl | hp
  · exact kA00x36
  rcases List.mem_cons.1 hp with rfl | hp
  · exact kA00x37
  rcases List.mem_cons.1 hp with rfl | hp
  · exact kA00x38
  rcases List.mem_cons.1 hp with rfl | hp
  · exact kA00x39
  rcases List.mem_cons.1 hp with rfl | hp
  · exact kA00x40
  rcases List.mem_cons.1 hp with rfl | hp
  · exact kA00x41
  rcases List.mem_cons.1 hp with rfl | hp
  · exact kA00x42
  rcases List.mem_cons.1 hp with rfl | hp
  · exact kA00x43
  rcases List.mem_cons.1 hp with rfl | hp
  · exact kA00x44
  rcases List.mem_cons.1 hp with rfl | hp
  · exact kA00x45
  rcases List.mem_cons.1 hp with rfl | hp
  · exact kA00x46
  rcases List.mem_cons.1 hp with rfl | hp
  · exact kA00x47
  rcases List.mem_cons.1 hp with rfl | hp
  · exact kA00x48
  rcases List.mem_cons.1 hp with rfl | hp
  · exact kA00x49
  rcases List.mem_cons.1 hp with rfl | hp
  · exact kA00x50
  rcases List.mem_cons.1 hp with rfl | hp
  · exact kA00x51
  rcases List.mem_cons.1 hp with rfl | hp
  · exact kA00x52
  rcases List.mem_cons.1 hp with rfl | hp
  · exact kA00x53
  rcases List.mem_cons.1 hp with rfl | hp
  · exact kA00x54
  rcases List.mem_cons.1 hp with rfl | hp
  · exact kA00x55
  rcases List.mem_cons.1 hp with rfl | hp
  · exact kA00x56
  rcases List.mem_cons.1 hp with rfl | hp
  · exact kA00x57
  rcases List.mem_cons.1 hp with rfl | hp
  · exact kA00x58
  rcases List.mem_cons.1 hp with rfl | hp
  · exact kA00x59
  rcases List.mem_cons.1 hp with rfl | hp
  · exact kA00x60
  rcases List.mem_cons.1 hp with rfl | hp
  · exact kA00x61
  rcases List.mem_cons.1 hp with rfl | hp
  · exact kA00x62
  rcases List.mem_cons.1 hp with rfl | hp
  · exact kA00x63
  rcases List.mem_cons.1 hp with rfl | hp
  · exact kA00x64
  rcases List.mem_cons.1 hp with rfl | hp
  · exact kA00x65
  rcases List.mem_cons.1 hp with rfl | hp
  · exact kA00x66
  rcases List.mem_cons.1 hp with rfl | hp
  · exact kA00x67
  rcases List.mem_cons.1 hp with rfl | hp
  · exact kA00x68
  rcases List.mem_cons.1 hp with rfl | hp
  · exact kA00x69
  rcases List.mem_cons.1 hp with rfl | hp
  · exact kA00x70
  cases hp
def SA00 : FuncId → Option (List AV → Boxes → M (AV × Boxes)) := fun f => if f = 25 then some (plainV (memoG mA00)) else S f
theorem SA00_ok : ∀ f s, SA00 f = some s → CallAt Tryz.prog f s := by
  intro f s h
  unfold SA00 at h
  split at h
  · rename_i e; subst e; cases h; exact memo_at mA00_ok
  · exact S_ok f s h
def rA9 : AV := (.tup [(.d (.sl (.pair (.int .i64) (.pair (.int .i64) (.pair (.int .i64) .str))) [((2 : Int), ((0 : Int), ((0 : Int), ([115, 117, 109] : List UInt8)))), ((2 : Int), ((0 : Int), ((4 : Int), ([98, 121] : List UInt8)))), ((4 : Int), ((0 : Int), ((7 : Int), ([40] : List UInt8)))), ((4 : Int), ((0 : Int), ((8 : Int), ([41] : List UInt8)))), ((4 : Int), ((0 : Int), ((10 : Int), ([40] : List UInt8)))), ((2 : Int), ((0 : Int), ((11 : Int), ([115, 117, 109] : List UInt8)))), ((2 : Int), ((0 : Int), ((15 : Int), ([98, 121] : List UInt8)))), ((4 : Int), ((0 : Int), ((18 : Int), ([40] : List UInt8)))), ((4 : Int), ((0 : Int), ((19 : Int), ([41] : List UInt8)))), ((4 : Int), ((0 : Int), ((21 : Int), ([40] : List UInt8)))), ((2 : Int), ((0 : Int), ((22 : Int), ([115, 117, 109] : List UInt8)))), ((2 : Int), ((0 : Int), ((26 : Int), ([98, 121] : List UInt8)))), ((4 : Int), ((0 : Int), ((29 : Int), ([40] : List UInt8)))), ((4 : Int), ((0 : Int), ((30 : Int), ([41] : List UInt8)))), ((4 : Int), ((0 : Int), ((32 : Int), ([40] : List UInt8)))), ((2 : Int), ((0 : Int), ((33 : Int), ([115, 117, 109] : List UInt8)))), ((2 : Int), ((0 : Int), ((37 : Int), ([98, 121] : List UInt8)))), ((4 : Int), ((0 : Int), ((40 : Int), ([40] : List UInt8)))), ((4 : Int), ((0 : Int), ((41 : Int), ([41] : List UInt8)))), ((4 : Int), ((0 : Int), ((43 : Int), ([40] : List UInt8)))), ((2 : Int), ((0 : Int), ((44 : Int), ([115, 117, 109] : List UInt8)))), ((2 : Int), ((0 : Int), ((48 : Int), ([98, 121] : List UInt8)))), ((4 : Int), ((0 : Int), ((51 : Int), ([40] : List UInt8)))), ((4 : Int), ((0 : Int), ((52 : Int), ([41] : List UInt8)))), ((4 : Int), ((0 : Int), ((54 : Int), ([40] : List UInt8)))), ((2 : Int), ((0 : Int), ((55 : Int), ([115, 117, 109] : List UInt8)))), ((2 : Int), ((0 : Int), ((59 : Int), ([98, 121] : List UInt8)))), ((4 : Int), ((0 : Int), ((62 : Int), ([40] : List UInt8)))), ((4 : Int), ((0 : Int), ((63 : Int), ([41] : List UInt8)))), ((4 : Int), ((0 : Int), ((65 : Int), ([40] : List UInt8)))), ((2 : Int), ((0 : Int), ((66 : Int), ([115, 117, 109] : List UInt8)))), ((2 : Int), ((0 : Int), ((70 : Int), ([98, 121] : List UInt8)))), ((4 : Int), ((0 : Int), ((73 : Int), ([40] : List UInt8)))), ((4 : Int), ((0 : Int), ((74 : Int), ([41] : List UInt8)))), ((4 : Int), ((0 : Int), ((76 : Int), ([40] : List UInt8)))), ((2 : Int), ((0 : Int), ((77 : Int), ([115, 117, 109] : List UInt8)))), ((2 : Int), ((0 : Int), ((81 : Int), ([98, 121] : List UInt8)))), ((4 : Int), ((0 : Int), ((84 : Int), ([40] : List UInt8)))), ((4 : Int), ((0 : Int), ((85 : Int), ([41] : List UInt8)))), ((4 : Int), ((0 : Int), ((87 : Int), ([40] : List UInt8)))), ((2 : Int), ((0 : Int), ((88 : Int), ([115, 117, 109] : List UInt8)))), ((2 : Int), ((0 : Int), ((92 : Int), ([98, 121] : List UInt8)))), ((4 : Int), ((0 : Int), ((95 : Int), ([40] : List UInt8)))), ((4 : Int), ((0 : Int), ((96 : Int), ([41] : List UInt8)))), ((4 : Int), ((0 : Int), ((98 : Int), ([40] : List UInt8)))), ((2 : Int), ((0 : Int), ((99 : Int), ([115, 117, 109] : List UInt8)))), ((2 : Int), ((0 : Int), ((103 : Int), ([98, 121] : List UInt8)))), ((4 : Int), ((0 : Int), ((106 : Int), ([40] : List UInt8)))), ((4 : Int), ((0 : Int), ((107 : Int), ([41] : List UInt8)))), ((4 : Int), ((0 : Int), ((109 : Int), ([40] : List UInt8)))), ((2 : Int), ((0 : Int), ((110 : Int), ([115, 117, 109] : List UInt8)))), ((2 : Int), ((0 : Int), ((114 : Int), ([98, 121] : List UInt8)))), ((4 : Int), ((0 : Int), ((117 : Int), ([40] : List UInt8)))), ((4 : Int), ((0 : Int), ((118 : Int), ([41] : List UInt8)))), ((4 : Int), ((0 : Int), ((120 : Int), ([40] : List UInt8)))), ((4 : Int), ((0 : Int), ((121 : Int), ([123] : List UInt8)))), ((4 : Int), ((0 : Int), ((122 : Int), ([125] : List UInt8)))), ((4 : Int), ((0 : Int), ((123 : Int), ([91] : List UInt8)))), ((1 : Int), ((5 : Int), ((124 : Int), ([] : List UInt8)))), ((4 : Int), ((0 : Int), ((125 : Int), ([93] : List UInt8)))), ((4 : Int), ((0 : Int), ((126 : Int), ([41] : List UInt8)))), ((4 : Int), ((0 : Int), ((127 : Int), ([41] : List UInt8)))), ((4 : Int), ((0 : Int), ((128 : Int), ([41] : List UInt8)))), ((4 : Int), ((0 : Int), ((129 : Int), ([41] : List UInt8)))), ((4 : Int), ((0 : Int), ((130 : Int), ([41] : List UInt8)))), ((4 : Int), ((0 : Int), ((131 : Int), ([41] : List UInt8)))), ((4 : Int), ((0 : Int), ((132 : Int), ([41] : List UInt8)))), ((4 : Int), ((0 : Int), ((133 : Int), ([41] : List UInt8)))), ((4 : Int), ((0 : Int), ((134 : Int), ([41] : List UInt8)))), ((4 : Int), ((0 : Int), ((135 : Int), ([41] : List UInt8)))), ((4 : Int), ((0 : Int), ((136 : Int), ([41] : List UInt8))))])), (.d (.int .i64 (0))), (.d (.int .i64 (0)))])
theorem kA01x0 : Known Tryz.prog 14 [.str sA0] rA9 := known mixed (kinds := kinds) (n := 300) SA00_ok (by kernel_rfl)
def mA01 : List (List D × AV) := [([.str sA0], rA9)]
theorem mA01_ok : ∀ p, p ∈ mA01 → Known Tryz.prog 14 p.1 p.2 := by
  intro p hp
  rcases List.mem_cons.1 hp with rfl | hp
  · exact kA01x0
  cases hp
def SA01 : FuncId → Option (List AV → Boxes → M (AV × Boxes)) := fun f => if f = 14 then some (plainV (memoG mA01)) else SA00 f
theorem SA01_ok : ∀ f s, SA01 f = some s → CallAt Tryz.prog f s := by
  intro f s h
  unfold SA01 at h
  split at h
  · rename_i e; subst e; cases h; exact memo_at mA01_ok
  · exact SA00_ok f s h
def rA10 : AV := (.tup [(.agg [(.d (.int .i64 (0))), (.d (.int .i64 (0))), (.d .nils), (.d .nils), (.d .nils)]), (.d (.int .i64 (88))), (.d (.int .i64 (6)))])
theorem kA02x0 : Known Tryz.prog 6 [.str sA0] rA10 := known mixed (kinds := kinds) (n := 300) SA01_ok (by kernel_rfl)
def mA02 : List (List D × AV) := [([.str sA0], rA10)]
theorem mA02_ok : ∀ p, p ∈ mA02 → Known Tryz.prog 6 p.1 p.2 := by
  intro p hp
  rcases List.mem_cons.1 hp with rfl | hp
  · exact kA02x0
  cases hp
end Go.Proofs.YtnmakkgomplchaaGreatDoor.EvS.ExprDeep
