/- Calls over plain data, each reckoned once. Conditions: none. -/
import Derived.Test.YtnmakkgomplchaaGreatDoorLibS
import Derived.Test.YtnmakkgomplchaaGreatDoorEvZg
namespace Go.Proofs.YtnmakkgomplchaaGreatDoor.EvS.ExprDeep
open Go.Ev
set_option maxRecDepth 100000
def sE0 : List UInt8 := [115, 117, 109, 32, 98, 121, 32, 40, 41, 32, 40, 115, 117, 109, 32, 98, 121, 32, 40, 41, 32, 40, 115, 117, 109, 32, 98, 121, 32, 40, 41, 32, 40, 115, 117, 109, 32, 98, 121, 32, 40, 41, 32, 40, 115, 117, 109, 32, 98, 121, 32, 40, 41, 32, 40, 115, 117, 109, 32, 98, 121, 32, 40, 41, 32, 40, 115, 117, 109, 32, 98, 121, 32, 40, 41, 32, 40, 123, 125, 91, 53, 93, 41, 41, 41, 41, 41, 41, 41]
def rE0 : AV := (.tup [(.agg [(.d (.int .i64 (2))), (.d (.int .i64 (0))), (.d (.int .i64 (0))), (.d (.str [115, 117, 109]))]), (.d (.int .i64 (3))), (.d (.bool true))])
theorem kE00x0 : Known Tryz.prog 25 [.str (sE0.drop 0)] rE0 := known mixed (kinds := kinds) (n := 300) S_ok (by kernel_rfl)
def rE1 : AV := (.tup [(.agg [(.d (.int .i64 (2))), (.d (.int .i64 (0))), (.d (.int .i64 (0))), (.d (.str [98, 121]))]), (.d (.int .i64 (2))), (.d (.bool true))])
theorem kE00x1 : Known Tryz.prog 25 [.str (sE0.drop 4)] rE1 := known mixed (kinds := kinds) (n := 300) S_ok (by kernel_rfl)
def rE2 : AV := (.tup [(.agg [(.d (.int .i64 (4))), (.d (.int .i64 (0))), (.d (.int .i64 (0))), (.d (.str [40]))]), (.d (.int .i64 (1))), (.d (.bool true))])
theorem kE00x2 : Known Tryz.prog 25 [.str (sE0.drop 7)] rE2 := known mixed (kinds := kinds) (n := 300) S_ok (by kernel_rfl)
def rE3 : AV := (.tup [(.agg [(.d (.int .i64 (4))), (.d (.int .i64 (0))), (.d (.int .i64 (0))), (.d (.str [41]))]), (.d (.int .i64 (1))), (.d (.bool true))])
theorem kE00x3 : Known Tryz.prog 25 [.str (sE0.drop 8)] rE3 := known mixed (kinds := kinds) (n := 300) S_ok (by kernel_rfl)
theorem kE00x4 : Known Tryz.prog 25 [.str (sE0.drop 10)] rE2 := known mixed (kinds := kinds) (n := 300) S_ok (by kernel_rfl)
theorem kE00x5 : Known Tryz.prog 25 [.str (sE0.drop 11)] rE0 := known mixed (kinds := kinds) (n := 300) S_ok (by kernel_rfl)
theorem kE00x6 : Known Tryz.prog 25 [.str (sE0.drop 15)] rE1 := known mixed (kinds := kinds) (n := 300) S_ok (by kernel_rfl)
theorem kE00x7 : Known Tryz.prog 25 [.str (sE0.drop 18)] rE2 := known mixed (kinds := kinds) (n := 300) S_ok (by kernel_rfl)
theorem kE00x8 : Known Tryz.prog 25 [.str (sE0.drop 19)] rE3 := known mixed (kinds := kinds) (n := 300) S_ok (by kernel_rfl)
theorem kE00x9 : Known Tryz.prog 25 [.str (sE0.drop 21)] rE2 := known mixed (kinds := kinds) (n := 300) S_ok (by kernel_rfl)
theorem kE00x10 : Known Tryz.prog 25 [.str (sE0.drop 22)] rE0 := known mixed (kinds := kinds) (n := 300) S_ok (by kernel_rfl)
theorem kE00x11 : Known Tryz.prog 25 [.str (sE0.drop 26)] rE1 := known mixed (kinds := kinds) (n := 300) S_ok (by kernel_rfl)
theorem kE00x12 : Known Tryz.prog 25 [.str (sE0.drop 29)] rE2 := known mixed (kinds := kinds) (n := 300) S_ok (by kernel_rfl)
theorem kE00x13 : Known Tryz.prog 25 [.str (sE0.drop 30)] rE3 := known mixed (kinds := kinds) (n := 300) S_ok (by kernel_rfl)
theorem kE00x14 : Known Tryz.prog 25 [.str (sE0.drop 32)] rE2 := known mixed (kinds := kinds) (n := 300) S_ok (by kernel_rfl)
theorem kE00x15 : Known Tryz.prog 25 [.str (sE0.drop 33)] rE0 := known mixed (kinds := kinds) (n := 300) S_ok (by kernel_rfl)
theorem kE00x16 : Known Tryz.prog 25 [.str (sE0.drop 37)] rE1 := known mixed (kinds := kinds) (n := 300) S_ok (by kernel_rfl)
theorem kE00x17 : Known Tryz.prog 25 [.str (sE0.drop 40)] rE2 := known mixed (kinds := kinds) (n := 300) S_ok (by kernel_rfl)
theorem kE00x18 : Known Tryz.prog 25 [.str (sE0.drop 41)] rE3 := known mixed (kinds := kinds) (n := 300) S_ok (by kernel_rfl)
theorem kE00x19 : Known Tryz.prog 25 [.str (sE0.drop 43)] rE2 := known mixed (kinds := kinds) (n := 300) S_ok (by kernel_rfl)
theorem kE00x20 : Known Tryz.prog 25 [.str (sE0.drop 44)] rE0 := known mixed (kinds := kinds) (n := 300) S_ok (by kernel_rfl)
theorem kE00x21 : Known Tryz.prog 25 [.str (sE0.drop 48)] rE1 := known mixed (kinds := kinds) (n := 300) S_ok (by kernel_rfl)
theorem kE00x22 : Known Tryz.prog 25 [.str (sE0.drop 51)] rE2 := known mixed (kinds := kinds) (n := 300) S_ok (by kernel_rfl)
theorem kE00x23 : Known Tryz.prog 25 [.str (sE0.drop 52)] rE3 := known mixed (kinds := kinds) (n := 300) S_ok (by kernel_rfl)
theorem kE00x24 : Known Tryz.prog 25 [.str (sE0.drop 54)] rE2 := known mixed (kinds := kinds) (n := 300) S_ok (by kernel_rfl)
theorem kE00x25 : Known Tryz.prog 25 [.str (sE0.drop 55)] rE0 := known mixed (kinds := kinds) (n := 300) S_ok (by kernel_rfl)
theorem kE00x26 : Known Tryz.prog 25 [.str (sE0.drop 59)] rE1 := known mixed (kinds := kinds) (n := 300) S_ok (by kernel_rfl)
theorem kE00x27 : Known Tryz.prog 25 [.str (sE0.drop 62)] rE2 := known mixed (kinds := kinds) (n := 300) S_ok (by kernel_rfl)
theorem kE00x28 : Known Tryz.prog 25 [.str (sE0.drop 63)] rE3 := known mixed (kinds := kinds) (n := 300) S_ok (by kernel_rfl)
theorem kE00x29 : Known Tryz.prog 25 [.str (sE0.drop 65)] rE2 := known mixed (kinds := kinds) (n := 300) S_ok (by kernel_rfl)
theorem kE00x30 : Known Tryz.prog 25 [.str (sE0.drop 66)] rE0 := known mixed (kinds := kinds) (n := 300) S_ok (by kernel_rfl)
theorem kE00x31 : Known Tryz.prog 25 [.str (sE0.drop 70)] rE1 := known mixed (kinds := kinds) (n := 300) S_ok (by kernel_rfl)
theorem kE00x32 : Known Tryz.prog 25 [.str (sE0.drop 73)] rE2 := known mixed (kinds := kinds) (n := 300) S_ok (by kernel_rfl)
theorem kE00x33 : Known Tryz.prog 25 [.str (sE0.drop 74)] rE3 := known mixed (kinds := kinds) (n := 300) S_ok (by kernel_rfl)
theorem kE00x34 : Known Tryz.prog 25 [.str (sE0.drop 76)] rE2 := known mixed (kinds := kinds) (n := 300) S_ok (by kernel_rfl)
def rE4 : AV := (.tup [(.agg [(.d (.int .i64 (4))), (.d (.int .i64 (0))), (.d (.int .i64 (0))), (.d (.str [123]))]), (.d (.int .i64 (1))), (.d (.bool true))])
theorem kE00x35 : Known Tryz.prog 25 [.str (sE0.drop 77)] rE4 := known mixed (kinds := kinds) (n := 300) S_ok (by kernel_rfl)
def rE5 : AV := (.tup [(.agg [(.d (.int .i64 (4))), (.d (.int .i64 (0))), (.d (.int .i64 (0))), (.d (.str [125]))]), (.d (.int .i64 (1))), (.d (.bool true))])
theorem kE00x36 : Known Tryz.prog 25 [.str (sE0.drop 78)] rE5 := known mixed (kinds := kinds) (n := 300) S_ok (by kernel_rfl)
def rE6 : AV := (.tup [(.agg [(.d (.int .i64 (4))), (.d (.int .i64 (0))), (.d (.int .i64 (0))), (.d (.str [91]))]), (.d (.int .i64 (1))), (.d (.bool true))])
theorem kE00x37 : Known Tryz.prog 25 [.str (sE0.drop 79)] rE6 := known mixed (kinds := kinds) (n := 300) S_ok (by kernel_rfl)
def rE7 : AV := (.tup [(.agg [(.d (.int .i64 (1))), (.d (.int .i64 (5))), (.d (.int .i64 (0))), (.d (.str []))]), (.d (.int .i64 (1))), (.d (.bool true))])
theorem kE00x38 : Known Tryz.prog 25 [.str (sE0.drop 80)] rE7 := known mixed (kinds := kinds) (n := 300) S_ok (by kernel_rfl)
def rE8 : AV := (.tup [(.agg [(.d (.int .i64 (4))), (.d (.int .i64 (0))), (.d (.int .i64 (0))), (.d (.str [93]))]), (.d (.int .i64 (1))), (.d (.bool true))])
theorem kE00x39 : Known Tryz.prog 25 [.str (sE0.drop 81)] rE8 := known mixed (kinds := kinds) (n := 300) S_ok (by kernel_rfl)
theorem kE00x40 : Known Tryz.prog 25 [.str (sE0.drop 82)] rE3 := known mixed (kinds := kinds) (n := 300) S_ok (by kernel_rfl)
theorem kE00x41 : Known Tryz.prog 25 [.str (sE0.drop 83)] rE3 := known mixed (kinds := kinds) (n := 300) S_ok (by kernel_rfl)
theorem kE00x42 : Known Tryz.prog 25 [.str (sE0.drop 84)] rE3 := known mixed (kinds := kinds) (n := 300) S_ok (by kernel_rfl)
theorem kE00x43 : Known Tryz.prog 25 [.str (sE0.drop 85)] rE3 := known mixed (kinds := kinds) (n := 300) S_ok (by kernel_rfl)
theorem kE00x44 : Known Tryz.prog 25 [.str (sE0.drop 86)] rE3 := known mixed (kinds := kinds) (n := 300) S_ok (by kernel_rfl)
theorem kE00x45 : Known Tryz.prog 25 [.str (sE0.drop 87)] rE3 := known mixed (kinds := kinds) (n := 300) S_ok (by kernel_rfl)
theorem kE00x46 : Known Tryz.prog 25 [.str (sE0.drop 88)] rE3 := known mixed (kinds := kinds) (n := 300) S_ok (by kernel_rfl)
def mE00 : List (List D × AV) := [([.str (sE0.drop 0)], rE0), ([.str (sE0.drop 4)], rE1), ([.str (sE0.drop 7)], rE2), ([.str (sE0.drop 8)], rE3), ([.str (sE0.drop 10)], rE2), ([.str (sE0.drop 11)], rE0), ([.str (sE0.drop 15)], rE1), ([.str (sE0.drop 18)], rE2), ([.str (sE0.drop 19)], rE3), ([.str (sE0.drop 21)], rE2), ([.str (sE0.drop 22)], rE0), ([.str (sE0.drop 26)], rE1), ([.str (sE0.drop 29)], rE2), ([.str (sE0.drop 30)], rE3), ([.str (sE0.drop 32)], rE2), ([.str (sE0.drop 33)], rE0), ([.str (sE0.drop 37)], rE1), ([.str (sE0.drop 40)], rE2), ([.str (sE0.drop 41)], rE3), ([.str (sE0.drop 43)], rE2), ([.str (sE0.drop 44)], rE0), ([.str (sE0.drop 48)], rE1), ([.str (sE0.drop 51)], rE2), ([.str (sE0.drop 52)], rE3), ([.str (sE0.drop 54)], rE2), ([.str (sE0.drop 55)], rE0), ([.str (sE0.drop 59)], rE1), ([.str (sE0.drop 62)], rE2), ([.str (sE0.drop 63)], rE3), ([.str (sE0.drop 65)], rE2), ([.str (sE0.drop 66)], rE0), ([.str (sE0.drop 70)], rE1), ([.str (sE0.drop 73)], rE2), ([.str (sE0.drop 74)], rE3), ([.str (sE0.drop 76)], rE2), ([.str (sE0.drop 77)], rE4), ([.str (sE0.drop 78)], rE5), ([.str (sE0.drop 79)], rE6), ([.str (sE0.drop 80)], rE7), ([.str (sE0.drop 81)], rE8), ([.str (sE0.drop 82)], rE3), ([.str (sE0.drop 83)], rE3), ([.str (sE0.drop 84)], rE3), ([.str (sE0.drop 85)], rE3), ([.str (sE0.drop 86)], rE3), ([.str (sE0.drop 87)], rE3), ([.str (sE0.drop 88)], rE3)]
theorem mE00_ok : ∀ p, p ∈ mE00 → Known Tryz.prog 25 p.1 p.2 := by
  intro p hp
  rcases List.mem_cons.1 hp with rfl | hp
  · exact kE00x0
  rcases List.mem_cons.1 hp with rfl | hp
  · exact kE00x1
  rcases List.mem_cons.1 hp with rfl | hp
  · exact kE00x2
  rcases List.mem_cons.1 hp with rfl | hp
  · exact kE00x3
  rcases List.mem_cons.1 hp with rfl | hp
  · exact kE00x4
  rcases List.mem_cons.1 hp with rfl | hp
  · exact kE00x5
  rcases List.mem_cons.1 hp with rfl | hp
  · exact kE00x6
  rcases List.mem_cons.1 hp with rfl | hp
  · exact kE00x7
  rcases List.mem_cons.1 hp with rfl | hp
  · exact kE00x8
  rcases List.mem_cons.1 hp with rfl | hp
  · exact kE00x9
  rcases List.mem_cons.1 hp with rfl | hp
  · exact kE00x10
  rcases List.mem_cons.1 hp with rfl | hp
  · exact kE00x11
  rcases List.mem_cons.1 hp with rfl | hp
  · exact kE00x12
  rcases List.mem_cons.1 hp with rfl | hp
  · exact kE00x13
  rcases List.mem_cons.1 hp with rfl | hp
  · exact kE00x14
  rcases List.mem_cons.1 hp with rfl | hp
  · exact kE00x15
  rcases List.mem_cons.1 hp with rfl | hp
  · exact kE00x16
  rcases List.mem_cons.1 hp with rfl | hp
  · exact kE00x17
  rcases List.mem_cons.1 hp with rfl | hp
  · exact kE00x18
  rcases List.mem_cons.1 hp with rfl | hp
  · exact kE00x19
  rcases List.mem_cons.1 hp with rfl | hp
  · exact kE00x20
  rcases List.mem_cons.1 hp with rfl | hp
  · exact kE00x21
  rcases List.mem_cons.1 hp with rfl | hp
  · exact kE00x22
  rcases List.mem_cons.1 hp with rfl | hp
  · exact kE00x23
  rcases List.mem_cons.1 hp with rfl | hp
  · exact kE00x24
  rcases List.mem_cons.1 hp with rfl | hp
  · exact kE00x25
  rcases List.mem_cons.1 hp with rfl | hp
  · exact kE00x26
  rcases List.mem_cons.1 hp with rfl | hp
  · exact kE00x27
  rcases List.mem_cons.1 hp with rfl | hp
  · exact kE00x28
  rcases List.mem_cons.1 hp with rfl | hp
  · exact kE00x29
  rcases List.mem_cons.1 hp with rfl | hp
  · exact kE00x30
  rcases List.mem_cons.1 hp with rfl | hp
  · exact kE00x31
  rcases List.mem_cons.1 hp with rfl | hp
  · exact kE00x32
  rcases List.mem_cons.1 hp with rfl | hp
  · exact kE00x33
  rcases List.mem_cons.1 hp with rfl | hp
  · exact kE00x34
  rcases List.mem_cons.1 hp with rfl | hp
  · exact kE00x35
  rcases List.mem_cons.1 hp with rfl | hp
  · exact kE00x36
  rcases List.mem_cons.1 hp with rfl | hp
  · exact kE00x37
  rcases List.mem_cons.1 hp with rfl | hp
  · exact kE00x38
  rcases List.mem_cons.1 hp with rfl | hp
  · exact kE00x39
  rcases List.mem_cons.1 hp with rfl | hp
  · exact kE00x40
  rcases List.mem_cons.1 hp with rfl | hp
  · exact kE00x41
  rcases List.mem_cons.1 hp with rfl | hp
  · exact kE00x42
  rcases List.mem_cons.1 hp with rfl | hp
  · exact kE00x43
  rcases List.mem_cons.1 hp with rfl | hp
  · exact kE00x44
  rcases List.mem_cons.1 hp with rfl | hp
  · exact kE00x45
  rcases List.mem_cons.1 hp with rfl | hp
  · exact kE00x46
  cases hp
def SE00 : FuncId → Option (List AV → Boxes → M (AV × Boxes)) := fun f => if f = 25 then some (plainV (memoG mE00)) else S f
theorem SE00_ok : ∀ f s, SE00 f = some s → CallAt Tryz.prog f s := by
  intro f s h
  unfold SE00 at h
  split at h
  · rename_i e; subst e; cases h; exact memo_at mE00_ok
  · exact S_ok f s h
def rE9 : AV := (.tup [(.d (.sl (.pair (.int .i64) (.pair (.int .i64) (.pair (.int .i64) .str))) [((2 : Int), ((0 : Int), ((0 : Int), ([115, 117, 109] : List UInt8)))), ((2 : Int), ((0 : Int), ((4 : Int), ([98, 121] : List UInt8)))), ((4 : Int), ((0 : Int), ((7 : Int), ([40] : List UInt8)))), ((4 : Int), ((0 : Int), ((8 : Int), ([41] : List UInt8)))), ((4 : Int), ((0 : Int), ((10 : Int), ([40] : List UInt8)))), ((2 : Int), ((0 : Int), ((11 : Int), ([115, 117, 109] : List UInt8)))), ((2 : Int), ((0 : Int), ((15 : Int), ([98, 121] : List UInt8)))), ((4 : Int), ((0 : Int), ((18 : Int), ([40] : List UInt8)))), ((4 : Int), ((0 : Int), ((19 : Int), ([41] : List UInt8)))), ((4 : Int), ((0 : Int), ((21 : Int), ([40] : List UInt8)))), ((2 : Int), ((0 : Int), ((22 : Int), ([115, 117, 109] : List UInt8)))), ((2 : Int), ((0 : Int), ((26 : Int), ([98, 121] : List UInt8)))), ((4 : Int), ((0 : Int), ((29 : Int), ([40] : List UInt8)))), ((4 : Int), ((0 : Int), ((30 : Int), ([41] : List UInt8)))), ((4 : Int), ((0 : Int), ((32 : Int), ([40] : List UInt8)))), ((2 : Int), ((0 : Int), ((33 : Int), ([115, 117, 109] : List UInt8)))), ((2 : Int), ((0 : Int), ((37 : Int), ([98, 121] : List UInt8)))), ((4 : Int), ((0 : Int), ((40 : Int), ([40] : List UInt8)))), ((4 : Int), ((0 : Int), ((41 : Int), ([41] : List UInt8)))), ((4 : Int), ((0 : Int), ((43 : Int), ([40] : List UInt8)))), ((2 : Int), ((0 : Int), ((44 : Int), ([115, 117, 109] : List UInt8)))), ((2 : Int), ((0 : Int), ((48 : Int), ([98, 121] : List UInt8)))), ((4 : Int), ((0 : Int), ((51 : Int), ([40] : List UInt8)))), ((4 : Int), ((0 : Int), ((52 : Int), ([41] : List UInt8)))), ((4 : Int), ((0 : Int), ((54 : Int), ([40] : List UInt8)))), ((2 : Int), ((0 : Int), ((55 : Int), ([115, 117, 109] : List UInt8)))), ((2 : Int), ((0 : Int), ((59 : Int), ([98, 121] : List UInt8)))), ((4 : Int), ((0 : Int), ((62 : Int), ([40] : List UInt8)))), ((4 : Int), ((0 : Int), ((63 : Int), ([41] : List UInt8)))), ((4 : Int), ((0 : Int), ((65 : Int), ([40] : List UInt8)))), ((2 : Int), ((0 : Int), ((66 : Int), ([115, 117, 109] : List UInt8)))), ((2 : Int), ((0 : Int), ((70 : Int), ([98, 121] : List UInt8)))), ((4 : Int), ((0 : Int), ((73 : Int), ([40] : List UInt8)))), ((4 : Int), ((0 : Int), ((74 : Int), ([41] : List UInt8)))), ((4 : Int), ((0 : Int), ((76 : Int), ([40] : List UInt8)))), ((4 : Int), ((0 : Int), ((77 : Int), ([123] : List UInt8)))), ((4 : Int), ((0 : Int), ((78 : Int), ([125] : List UInt8)))), ((4 : Int), ((0 : Int), ((79 : Int), ([91] : List UInt8)))), ((1 : Int), ((5 : Int), ((80 : Int), ([] : List UInt8)))), ((4 : Int), ((0 : Int), ((81 : Int), ([93] : List UInt8)))), ((4 : Int), ((0 : Int), ((82 : Int), ([41] : List UInt8)))), ((4 : Int), ((0 : Int), ((83 : Int), ([41] : List UInt8)))), ((4 : Int), ((0 : Int), ((84 : Int), ([41] : List UInt8)))), ((4 : Int), ((0 : Int), ((85 : Int), ([41] : List UInt8)))), ((4 : Int), ((0 : Int), ((86 : Int), ([41] : List UInt8)))), ((4 : Int), ((0 : Int), ((87 : Int), ([41] : List UInt8)))), ((4 : Int), ((0 : Int), ((88 : Int), ([41] : List UInt8))))])), (.d (.int .i64 (0))), (.d (.int .i64 (0)))])
theorem kE01x0 : Known Tryz.prog 14 [.str sE0] rE9 := known mixed (kinds := kinds) (n := 300) SE00_ok (by kernel_rfl)
def mE01 : List (List D × AV) := [([.str sE0], rE9)]
theorem mE01_ok : ∀ p, p ∈ mE01 → Known Tryz.prog 14 p.1 p.2 := by
  intro p hp
  rcases List.mem_cons.1 hp with rfl | hp
  · exact kE01x0
  cases hp
def SE01 : FuncId → Option (List AV → Boxes → M (AV × Boxes)) := fun f => if f = 14 then some (plainV (memoG mE01)) else SE00 f
theorem SE01_ok : ∀ f s, SE01 f = some s → CallAt Tryz.prog f s := by
  intro f s h
  unfold SE01 at h
  split at h
  · rename_i e; subst e; cases h; exact memo_at mE01_ok
  · exact SE00_ok f s h
def rE10 : AV := (.tup [(.agg [(.d (.int .i64 (17))), (.d (.int .i64 (0))), (.d .nils), (.d .nils), (.d (.sl (.rose (.pair (.int .i64) (.pair (.int .i64) (.pair (.sl (.pair .str (.pair .str (.int .i64)))) (.sl .str))))) [(Rose.mk ((17 : Int), ((0 : Int), ([], []))) [(Rose.mk ((17 : Int), ((0 : Int), ([], []))) [(Rose.mk ((17 : Int), ((0 : Int), ([], []))) [(Rose.mk ((17 : Int), ((0 : Int), ([], []))) [(Rose.mk ((17 : Int), ((0 : Int), ([], []))) [(Rose.mk ((17 : Int), ((0 : Int), ([], []))) [(Rose.mk ((2 : Int), ((5 : Int), ([], []))) [])])])])])])])]))]), (.d (.int .i64 (0))), (.d (.int .i64 (0)))])
theorem kE02x0 : Known Tryz.prog 6 [.str sE0] rE10 := known mixed (kinds := kinds) (n := 300) SE01_ok (by kernel_rfl)
def mE02 : List (List D × AV) := [([.str sE0], rE10)]
theorem mE02_ok : ∀ p, p ∈ mE02 → Known Tryz.prog 6 p.1 p.2 := by
  intro p hp
  rcases List.mem_cons.1 hp with rfl | hp
  · exact kE02x0
  cases hp
def sE1 : List UInt8 := [115, 117, 109, 32, 98, 121, 32, 40, 41, 32, 40, 115, 117, 109, 32, 98, 121, 32, 40, 41, 32, 40, 115, 117, 109, 32, 98, 121, 32, 40, 41, 32, 40, 115, 117, 109, 32, 98, 121, 32, 40, 41, 32, 40, 115, 117, 109, 32, 98, 121, 32, 40, 41, 32, 40, 123, 125, 91, 53, 93, 41, 41, 41, 41, 41]
theorem kE10x0 : Known Tryz.prog 25 [.str (sE1.drop 0)] rE0 := known mixed (kinds := kinds) (n := 300) S_ok (by kernel_rfl)
theorem kE10x1 : Known Tryz.prog 25 [.str (sE1.drop 4)] rE1 := known mixed (kinds := kinds) (n := 300) S_ok (by kernel_rfl)
theorem kE10x2 : Known Tryz.prog 25 [.str (sE1.drop 7)] rE2 := known mixed (kinds := kinds) (n := 300) S_ok (by kernel_rfl)
theorem kE10x3 : Known Tryz.prog 25 [.str (sE1.drop 8)] rE3 := known mixed (kinds := kinds) (n := 300) S_ok (by kernel_rfl)
theorem kE10x4 : Known Tryz.prog 25 [.str (sE1.drop 10)] rE2 := known mixed (kinds := kinds) (n := 300) S_ok (by kernel_rfl)
theorem kE10x5 : Known Tryz.prog 25 [.str (sE1.drop 11)] rE0 := known mixed (kinds := kinds) (n := 300) S_ok (by kernel_rfl)
theorem kE10x6 : Known Tryz.prog 25 [.str (sE1.drop 15)] rE1 := known mixed (kinds := kinds) (n := 300) S_ok (by kernel_rfl)
theorem kE10x7 : Known Tryz.prog 25 [.str (sE1.drop 18)] rE2 := known mixed (kinds := kinds) (n := 300) S_ok (by kernel_rfl)
theorem kE10x8 : Known Tryz.prog 25 [.str (sE1.drop 19)] rE3 := known mixed (kinds := kinds) (n := 300) S_ok (by kernel_rfl)
theorem kE10x9 : Known Tryz.prog 25 [.str (sE1.drop 21)] rE2 := known mixed (kinds := kinds) (n := 300) S_ok (by kernel_rfl)
theorem kE10x10 : Known Tryz.prog 25 [.str (sE1.drop 22)] rE0 := known mixed (kinds := kinds) (n := 300) S_ok (by kernel_rfl)
theorem kE10x11 : Known Tryz.prog 25 [.str (sE1.drop 26)] rE1 := known mixed (kinds := kinds) (n := 300) S_ok (by kernel_rfl)
theorem kE10x12 : Known Tryz.prog 25 [.str (sE1.drop 29)] rE2 := known mixed (kinds := kinds) (n := 300) S_ok (by kernel_rfl)
theorem kE10x13 : Known Tryz.prog 25 [.str (sE1.drop 30)] rE3 := known mixed (kinds := kinds) (n := 300) S_ok (by kernel_rfl)
theorem kE10x14 : Known Tryz.prog 25 [.str (sE1.drop 32)] rE2 := known mixed (kinds := kinds) (n := 300) S_ok (by kernel_rfl)
theorem kE10x15 : Known Tryz.prog 25 [.str (sE1.drop 33)] rE0 := known mixed (kinds := kinds) (n := 300) S_ok (by kernel_rfl)
theorem kE10x16 : Known Tryz.prog 25 [.str (sE1.drop 37)] rE1 := known mixed (kinds := kinds) (n := 300) S_ok (by kernel_rfl)
theorem kE10x17 : Known Tryz.prog 25 [.str (sE1.drop 40)] rE2 := known mixed (kinds := kinds) (n := 300) S_ok (by kernel_rfl)
theorem kE10x18 : Known Tryz.prog 25 [.str (sE1.drop 41)] rE3 := known mixed (kinds := kinds) (n := 300) S_ok (by kernel_rfl)
theorem kE10x19 : Known Tryz.prog 25 [.str (sE1.drop 43)] rE2 := known mixed (kinds := kinds) (n := 300) S_ok (by kernel_rfl)
theorem kE10x20 : Known Tryz.prog 25 [.str (sE1.drop 44)] rE0 := known mixed (kinds := kinds) (n := 300) S_ok (by kernel_rfl)
theorem kE10x21 : Known Tryz.prog 25 [.str (sE1.drop 48)] rE1 := known mixed (kinds := kinds) (n := 300) S_ok (by kernel_rfl)
theorem kE10x22 : Known Tryz.prog 25 [.str (sE1.drop 51)] rE2 := known mixed (kinds := kinds) (n := 300) S_ok (by kernel_rfl)
theorem kE10x23 : Known Tryz.prog 25 [.str (sE1.drop 52)] rE3 := known mixed (kinds := kinds) (n := 300) S_ok (by kernel_rfl)
theorem kE10x24 : Known Tryz.prog 25 [.str (sE1.drop 54)] rE2 := known mixed (kinds := kinds) (n := 300) S_ok (by kernel_rfl)
theorem kE10x25 : Known Tryz.prog 25 [.str (sE1.drop 55)] rE4 := known mixed (kinds := kinds) (n := 300) S_ok (by kernel_rfl)
theorem kE10x26 : Known Tryz.prog 25 [.str (sE1.drop 56)] rE5 := known mixed (kinds := kinds) (n := 300) S_ok (by kernel_rfl)
theorem kE10x27 : Known Tryz.prog 25 [.str (sE1.drop 57)] rE6 := known mixed (kinds := kinds) (n := 300) S_ok (by kernel_rfl)
theorem kE10x28 : Known Tryz.prog 25 [.str (sE1.drop 58)] rE7 := known mixed (kinds := kinds) (n := 300) S_ok (by kernel_rfl)
theorem kE10x29 : Known Tryz.prog 25 [.str (sE1.drop 59)] rE8 := known mixed (kinds := kinds) (n := 300) S_ok (by kernel_rfl)
theorem kE10x30 : Known Tryz.prog 25 [.str (sE1.drop 60)] rE3 := known mixed (kinds := kinds) (n := 300) S_ok (by kernel_rfl)
theorem kE10x31 : Known Tryz.prog 25 [.str (sE1.drop 61)] rE3 := known mixed (kinds := kinds) (n := 300) S_ok (by kernel_rfl)
theorem kE10x32 : Known Tryz.prog 25 [.str (sE1.drop 62)] rE3 := known mixed (kinds := kinds) (n := 300) S_ok (by kernel_rfl)
theorem kE10x33 : Known Tryz.prog 25 [.str (sE1.drop 63)] rE3 := known mixed (kinds := kinds) (n := 300) S_ok (by kernel_rfl)
theorem kE10x34 : Known Tryz.prog 25 [.str (sE1.drop 64)] rE3 := known mixed (kinds := kinds) (n := 300) S_ok (by kernel_rfl)
def mE10 : List (List D × AV) := [([.str (sE1.drop 0)], rE0), ([.str (sE1.drop 4)], rE1), ([.str (sE1.drop 7)], rE2), ([.str (sE1.drop 8)], rE3), ([.str (sE1.drop 10)], rE2), ([.str (sE1.drop 11)], rE0), ([.str (sE1.drop 15)], rE1), ([.str (sE1.drop 18)], rE2), ([.str (sE1.drop 19)], rE3), ([.str (sE1.drop 21)], rE2), ([.str (sE1.drop 22)], rE0), ([.str (sE1.drop 26)], rE1), ([.str (sE1.drop 29)], rE2), ([.str (sE1.drop 30)], rE3), ([.str (sE1.drop 32)], rE2), ([.str (sE1.drop 33)], rE0), ([.str (sE1.drop 37)], rE1), ([.str (sE1.drop 40)], rE2), ([.str (sE1.drop 41)], rE3), ([.str (sE1.drop 43)], rE2), ([.str (sE1.drop 44)], rE0), ([.str (sE1.drop 48)], rE1), ([.str (sE1.drop 51)], rE2), ([.str (sE1.drop 52)], rE3), ([.str (sE1.drop 54)], rE2), ([.str (sE1.drop 55)], rE4), ([.str (sE1.drop 56)], rE5), ([.str (sE1.drop 57)], rE6), ([.str (sE1.drop 58)], rE7), ([.str (sE1.drop 59)], rE8), ([.str (sE1.drop 60)], rE3), ([.str (sE1.drop 61)], rE3), ([.str (sE1.drop 62)], rE3), ([.str (sE1.drop 63)], rE3), ([.str (sE1.drop 64)], rE3)]
theorem mE10_ok : ∀ p, p ∈ mE10 → Known Tryz.prog 25 p.1 p.2 := by
  intro p hp
  rcases List.mem_cons.1 hp with rfl | hp
  · exact kE10x0
  rcases List.mem_cons.1 hp with rfl | hp
  · exact kE10x1
  rcases List.mem_cons.1 hp with rfl | hp
  · exact kE10x2
  rcases List.mem_cons.1 hp with rfl | hp
  · exact kE10x3
  rcases List.mem_cons.1 hp with rfl | hp
  · exact kE10x4
  rcases List.mem_cons.1 hp with rfl | hp
  · exact kE10x5
  rcases List.mem_cons.1 hp with rfl | hp
  · exact kE10x6
  rcases List.mem_cons.1 hp with rfl | hp
  · exact kE10x7
  rcases List.mem_cons.1 hp with rfl | hp
  · exact kE10x8
  rcases List.mem_cons.1 hp with rfl | hp
  · exact kE10x9
  rcases List.mem_cons.1 hp with rfl | hp
  · exact kE10x10
  rcases List.mem_cons.1 hp with rfl | hp
  · exact kE10x11
  rcases List.mem_cons.1 hp with rfl | hp
  · exact kE10x12
  rcases List.mem_cons.1 hp with rfl | hp
  · exact kE10x13
  rcases List.mem_cons.1 hp with rfl | hp
  · exact kE10x14
  rcases List.mem_cons.1 hp with rfl | hp
  · exact kE10x15
  rcases List.mem_cons.1 hp with rfl | hp
  · exact kE10x16
  rcases List.mem_cons.1 hp with rfl | hp
  · exact kE10x17
  rcases List.mem_cons.1 hp with rfl | hp
  · exact kE10x18
  rcases List.mem_cons.1 hp with rfl | hp
  · exact kE10x19
  rcases List.mem_cons.1 hp with rfl | hp
  · exact kE10x20
  rcases List.mem_cons.1 hp with rfl | hp
  · exact kE10x21
  rcases List.mem_cons.1 hp with rfl | hp
  · exact kE10x22
  rcases List.mem_cons.1 hp with rfl | hp
  · exact kE10x23
  rcases List.mem_cons.1 hp with rfl | hp
  · exact kE10x24
  rcases List.mem_cons.1 hp with rfl | hp
  · exact kE10x25
  rcases List.mem_cons.1 hp with rfl | hp
  · exact kE10x26
  rcases List.mem_cons.1 hp with rfl | hp
  · exact kE10x27
  rcases List.mem_cons.1 hp with rfl | hp
  · exact kE10x28
  rcases List.mem_cons.1 hp with rfl | hp
  · exact kE10x29
  rcases List.mem_cons.1 hp with rfl | hp
  · exact kE10x30
  rcases List.mem_cons.1 hp with rfl | hp
  · exact kE10x31
  rcases List.mem_cons.1 hp with rfl | hp
  · exact kE10x32
  rcases List.mem_cons.1 hp with rfl | hp
  · exact kE10x33
  rcases List.mem_cons.1 hp with rfl | hp
  · exact kE10x34
  cases hp
def SE10 : FuncId → Option (List AV → Boxes → M (AV × Boxes)) := fun f => if f = 25 then some (plainV (memoG mE10)) else S f
theorem SE10_ok : ∀ f s, SE10 f = some s → CallAt Tryz.prog f s := by
  intro f s h
  unfold SE10 at h
  split at h
  · rename_i e; subst e; cases h; exact memo_at mE10_ok
  · exact S_ok f s h
def rE11 : AV := (.tup [(.d (.sl (.pair (.int .i64) (.pair (.int .i64) (.pair (.int .i64) .str))) [((2 : Int), ((0 : Int), ((0 : Int), ([115, 117, 109] : List UInt8)))), ((2 : Int), ((0 : Int), ((4 : Int), ([98, 121] : List UInt8)))), ((4 : Int), ((0 : Int), ((7 : Int), ([40] : List UInt8)))), ((4 : Int), ((0 : Int), ((8 : Int), ([41] : List UInt8)))), ((4 : Int), ((0 : Int), ((10 : Int), ([40] : List UInt8)))), ((2 : Int), ((0 : Int), ((11 : Int), ([115, 117, 109] : List UInt8)))), ((2 : Int), ((0 : Int), ((15 : Int), ([98, 121] : List UInt8)))), ((4 : Int), ((0 : Int), ((18 : Int), ([40] : List UInt8)))), ((4 : Int), ((0 : Int), ((19 : Int), ([41] : List UInt8)))), ((4 : Int), ((0 : Int), ((21 : Int), ([40] : List UInt8)))), ((2 : Int), ((0 : Int), ((22 : Int), ([115, 117, 109] : List UInt8)))), ((2 : Int), ((0 : Int), ((26 : Int), ([98, 121] : List UInt8)))), ((4 : Int), ((0 : Int), ((29 : Int), ([40] : List UInt8)))), ((4 : Int), ((0 : Int), ((30 : Int), ([41] : List UInt8)))), ((4 : Int), ((0 : Int), ((32 : Int), ([40] : List UInt8)))), ((2 : Int), ((0 : Int), ((33 : Int), ([115, 117, 109] : List UInt8)))), ((2 : Int), ((0 : Int), ((37 : Int), ([98, 121] : List UInt8)))), ((4 : Int), ((0 : Int), ((40 : Int), ([40] : List UInt8)))), ((4 : Int), ((0 : Int), ((41 : Int), ([41] : List UInt8)))), ((4 : Int), ((0 : Int), ((43 : Int), ([40] : List UInt8)))), ((2 : Int), ((0 : Int), ((44 : Int), ([115, 117, 109] : List UInt8)))), ((2 : Int), ((0 : Int), ((48 : Int), ([98, 121] : List UInt8)))), ((4 : Int), ((0 : Int), ((51 : Int), ([40] : List UInt8)))), ((4 : Int), ((0 : Int), ((52 : Int), ([41] : List UInt8)))), ((4 : Int), ((0 : Int), ((54 : Int), ([40] : List UInt8)))), ((4 : Int), ((0 : Int), ((55 : Int), ([123] : List UInt8)))), ((4 : Int), ((0 : Int), ((56 : Int), ([125] : List UInt8)))), ((4 : Int), ((0 : Int), ((57 : Int), ([91] : List UInt8)))), ((1 : Int), ((5 : Int), ((58 : Int), ([] : List UInt8)))), ((4 : Int), ((0 : Int), ((59 : Int), ([93] : List UInt8)))), ((4 : Int), ((0 : Int), ((60 : Int), ([41] : List UInt8)))), ((4 : Int), ((0 : Int), ((61 : Int), ([41] : List UInt8)))), ((4 : Int), ((0 : Int), ((62 : Int), ([41] : List UInt8)))), ((4 : Int), ((0 : Int), ((63 : Int), ([41] : List UInt8)))), ((4 : Int), ((0 : Int), ((64 : Int), ([41] : List UInt8))))])), (.d (.int .i64 (0))), (.d (.int .i64 (0)))])
theorem kE11x0 : Known Tryz.prog 14 [.str sE1] rE11 := known mixed (kinds := kinds) (n := 300) SE10_ok (by kernel_rfl)
def mE11 : List (List D × AV) := [([.str sE1], rE11)]
theorem mE11_ok : ∀ p, p ∈ mE11 → Known Tryz.prog 14 p.1 p.2 := by
  intro p hp
  rcases List.mem_cons.1 hp with rfl | hp
  · exact kE11x0
  cases hp
def SE11 : FuncId → Option (List AV → Boxes → M (AV × Boxes)) := fun f => if f = 14 then some (plainV (memoG mE11)) else SE10 f
theorem SE11_ok : ∀ f s, SE11 f = some s → CallAt Tryz.prog f s := by
  intro f s h
  unfold SE11 at h
  split at h
  · rename_i e; subst e; cases h; exact memo_at mE11_ok
  · exact SE10_ok f s h
def rE12 : AV := (.tup [(.agg [(.d (.int .i64 (17))), (.d (.int .i64 (0))), (.d .nils), (.d .nils), (.d (.sl (.rose (.pair (.int .i64) (.pair (.int .i64) (.pair (.sl (.pair .str (.pair .str (.int .i64)))) (.sl .str))))) [(Rose.mk ((17 : Int), ((0 : Int), ([], []))) [(Rose.mk ((17 : Int), ((0 : Int), ([], []))) [(Rose.mk ((17 : Int), ((0 : Int), ([], []))) [(Rose.mk ((17 : Int), ((0 : Int), ([], []))) [(Rose.mk ((2 : Int), ((5 : Int), ([], []))) [])])])])])]))]), (.d (.int .i64 (0))), (.d (.int .i64 (0)))])
theorem kE12x0 : Known Tryz.prog 6 [.str sE1] rE12 := known mixed (kinds := kinds) (n := 300) SE11_ok (by kernel_rfl)
def mE12 : List (List D × AV) := [([.str sE1], rE12)]
theorem mE12_ok : ∀ p, p ∈ mE12 → Known Tryz.prog 6 p.1 p.2 := by
  intro p hp
  rcases List.mem_cons.1 hp with rfl | hp
  · exact kE12x0
  cases hp
def sE2 : List UInt8 := [115, 117, 109, 32, 98, 121, 32, 40, 41, 32, 40, 115, 117, 109, 32, 98, 121, 32, 40, 41, 32, 40, 115, 117, 109, 32, 98, 121, 32, 40, 41, 32, 40, 115, 117, 109, 32, 98, 121, 32, 40, 41, 32, 40, 123, 125, 91, 53, 93, 41, 41, 41, 41]
theorem kE20x0 : Known Tryz.prog 25 [.str (sE2.drop 0)] rE0 := known mixed (kinds := kinds) (n := 300) S_ok (by kernel_rfl)
theorem kE20x1 : Known Tryz.prog 25 [.str (sE2.drop 4)] rE1 := known mixed (kinds := kinds) (n := 300) S_ok (by kernel_rfl)
theorem kE20x2 : Known Tryz.prog 25 [.str (sE2.drop 7)] rE2 := known mixed (kinds := kinds) (n := 300) S_ok (by kernel_rfl)
theorem kE20x3 : Known Tryz.prog 25 [.str (sE2.drop 8)] rE3 := known mixed (kinds := kinds) (n := 300) S_ok (by kernel_rfl)
theorem kE20x4 : Known Tryz.prog 25 [.str (sE2.drop 10)] rE2 := known mixed (kinds := kinds) (n := 300) S_ok (by kernel_rfl)
theorem kE20x5 : Known Tryz.prog 25 [.str (sE2.drop 11)] rE0 := known mixed (kinds := kinds) (n := 300) S_ok (by kernel_rfl)
theorem kE20x6 : Known Tryz.prog 25 [.str (sE2.drop 15)] rE1 := known mixed (kinds := kinds) (n := 300) S_ok (by kernel_rfl)
theorem kE20x7 : Known Tryz.prog 25 [.str (sE2.drop 18)] rE2 := known mixed (kinds := kinds) (n := 300) S_ok (by kernel_rfl)
theorem kE20x8 : Known Tryz.prog 25 [.str (sE2.drop 19)] rE3 := known mixed (kinds := kinds) (n := 300) S_ok (by kernel_rfl)
theorem kE20x9 : Known Tryz.prog 25 [.str (sE2.drop 21)] rE2 := known mixed (kinds := kinds) (n := 300) S_ok (by kernel_rfl)
theorem kE20x10 : Known Tryz.prog 25 [.str (sE2.drop 22)] rE0 := known mixed (kinds := kinds) (n := 300) S_ok (by kernel_rfl)
theorem kE20x11 : Known Tryz.prog 25 [.str (sE2.drop 26)] rE1 := known mixed (kinds := kinds) (n := 300) S_ok (by kernel_rfl)
theorem kE20x12 : Known Tryz.prog 25 [.str (sE2.drop 29)] rE2 := known mixed (kinds := kinds) (n := 300) S_ok (by kernel_rfl)
theorem kE20x13 : Known Tryz.prog 25 [.str (sE2.drop 30)] rE3 := known mixed (kinds := kinds) (n := 300) S_ok (by kernel_rfl)
theorem kE20x14 : Known Tryz.prog 25 [.str (sE2.drop 32)] rE2 := known mixed (kinds := kinds) (n := 300) S_ok (by kernel_rfl)
theorem kE20x15 : Known Tryz.prog 25 [.str (sE2.drop 33)] rE0 := known mixed (kinds := kinds) (n := 300) S_ok (by kernel_rfl)
theorem kE20x16 : Known Tryz.prog 25 [.str (sE2.drop 37)] rE1 := known mixed (kinds := kinds) (n := 300) S_ok (by kernel_rfl)
theorem kE20x17 : Known Tryz.prog 25 [.str (sE2.drop 40)] rE2 := known mixed (kinds := kinds) (n := 300) S_ok (by kernel_rfl)
theorem kE20x18 : Known Tryz.prog 25 [.str (sE2.drop 41)] rE3 := known mixed (kinds := kinds) (n := 300) S_ok (by kernel_rfl)
theorem kE20x19 : Known Tryz.prog 25 [.str (sE2.drop 43)] rE2 := known mixed (kinds := kinds) (n := 300) S_ok (by kernel_rfl)
theorem kE20x20 : Known Tryz.prog 25 [.str (sE2.drop 44)] rE4 := known mixed (kinds := kinds) (n := 300) S_ok (by kernel_rfl)
theorem kE20x21 : Known Tryz.prog 25 [.str (sE2.drop 45)] rE5 := known mixed (kinds := kinds) (n := 300) S_ok (by kernel_rfl)
theorem kE20x22 : Known Tryz.prog 25 [.str (sE2.drop 46)] rE6 := known mixed (kinds := kinds) (n := 300) S_ok (by kernel_rfl)
theorem kE20x23 : Known Tryz.prog 25 [.str (sE2.drop 47)] rE7 := known mixed (kinds := kinds) (n := 300) S_ok (by kernel_rfl)
theorem kE20x24 : Known Tryz.prog 25 [.str (sE2.drop 48)] rE8 := known mixed (kinds := kinds) (n := 300) S_ok (by kernel_rfl)
theorem kE20x25 : Known Tryz.prog 25 [.str (sE2.drop 49)] rE3 := known mixed (kinds := kinds) (n := 300) S_ok (by kernel_rfl)
theorem kE20x26 : Known Tryz.prog 25 [.str (sE2.drop 50)] rE3 := known mixed (kinds := kinds) (n := 300) S_ok (by kernel_rfl)
theorem kE20x27 : Known Tryz.prog 25 [.str (sE2.drop 51)] rE3 := known mixed (kinds := kinds) (n := 300) S_ok (by kernel_rfl)
theorem kE20x28 : Known Tryz.prog 25 [.str (sE2.drop 52)] rE3 := known mixed (kinds := kinds) (n := 300) S_ok (by kernel_rfl)
def mE20 : List (List D × AV) := [([.str (sE2.drop 0)], rE0), ([.str (sE2.drop 4)], rE1), ([.str (sE2.drop 7)], rE2), ([.str (sE2.drop 8)], rE3), ([.str (sE2.drop 10)], rE2), ([.str (sE2.drop 11)], rE0), ([.str (sE2.drop 15)], rE1), ([.str (sE2.drop 18)], rE2), ([.str (sE2.drop 19)], rE3), ([.str (sE2.drop 21)], rE2), ([.str (sE2.drop 22)], rE0), ([.str (sE2.drop 26)], rE1), ([.str (sE2.drop 29)], rE2), ([.str (sE2.drop 30)], rE3), ([.str (sE2.drop 32)], rE2), ([.str (sE2.drop 33)], rE0), ([.str (sE2.drop 37)], rE1), ([.str (sE2.drop 40)], rE2), ([.str (sE2.drop 41)], rE3), ([.str (sE2.drop 43)], rE2), ([.str (sE2.drop 44)], rE4), ([.str (sE2.drop 45)], rE5), ([.str (sE2.drop 46)], rE6), ([.str (sE2.drop 47)], rE7), ([.str (sE2.drop 48)], rE8), ([.str (sE2.drop 49)], rE3), ([.str (sE2.drop 50)], rE3), ([.str (sE2.drop 51)], rE3), ([.str (sE2.drop 52)], rE3)]
theorem mE20_ok : ∀ p, p ∈ mE20 → Known Tryz.prog 25 p.1 p.2 := by
  intro p hp
  rcases List.mem_cons.1 hp with rfl | hp
  · exact kE20x0
  rcases List.mem_cons.1 hp with rfl | hp
  · exact kE20x1
  rcases List.mem_cons.1 hp with rfl | hp
  · exact kE20x2
  rcases List.mem_cons.1 hp with rfl | hp
  · exact kE20x3
  rcases List.mem_cons.1 hp with rfl | hp
  · exact kE20x4
  rcases List.mem_cons.1 hp with rfl | hp
  · exact kE20x5
  rcases List.mem_cons.1 hp with rfl | hp
  · exact kE20x6
  rcases List.mem_cons.1 hp with rfl | hp
  · exact kE20x7
  rcases List.mem_cons.1 hp with rfl | hp
  · exact kE20x8
  rcases List.mem_cons.1 hp with rfl | hp
  · exact kE20x9
  rcases List.mem_cons.1 hp with rfl | hp
  · exact kE20x10
  rcases List.mem_cons.1 hp with rfl | hp
  · exact kE20x11
  rcases List.mem_cons.1 hp with rfl | hp
  · exact kE20x12
  rcases List.mem_cons.1 hp with rfl | hp
  · exact kE20x13
  rcases List.mem_cons.1 hp with rfl | hp
  · exact kE20x14
  rcases List.mem_cons.1 hp with rfl | hp
  · exact kE20x15
  rcases List.mem_cons.1 hp with rfl | hp
  · exact kE20x16
  rcases List.mem_cons.1 hp with rfl | hp
  · exact kE20x17
  rcases List.mem_cons.1 hp with rfl | hp
  · exact kE20x18
  rcases List.mem_cons.1 hp with rfl | hp
  · exact kE20x19
  rcases List.mem_cons.1 hp with rfl | hp
  · exact kE20x20
  rcases List.mem_cons.1 hp with rfl | hp
  · exact kE20x21
  rcases List.mem_cons.1 hp with rfl | hp
  · exact kE20x22
  rcases List.mem_cons.1 hp with rfl | hp
  · exact kE20x23
  rcases List.mem_cons.1 hp with rfl | hp
  · exact kE20x24
  rcases List.mem_cons.1 hp with rfl | hp
  · exact kE20x25
  rcases List.mem_cons.1 hp with rfl | hp
  · exact kE20x26
  rcases List.mem_cons.1 hp with rfl | hp
  · exact kE20x27
  rcases List.mem_cons.1 hp with rfl | hp
  · exact kE20x28
  cases hp
def SE20 : FuncId → Option (List AV → Boxes → M (AV × Boxes)) := fun f => if f = 25 then some (plainV (memoG mE20)) else S f
theorem SE20_ok : ∀ f s, SE20 f = some s → CallAt Tryz.prog f s := by
  intro f s h
  unfold SE20 at h
  split at h
  · rename_i e; subst e; cases h; exact memo_at mE20_ok
  · exact S_ok f s h
def rE13 : AV := (.tup [(.d (.sl (.pair (.int .i64) (.pair (.int .i64) (.pair (.int .i64) .str))) [((2 : Int), ((0 : Int), ((0 : Int), ([115, 117, 109] : List UInt8)))), ((2 : Int), ((0 : Int), ((4 : Int), ([98, 121] : List UInt8)))), ((4 : Int), ((0 : Int), ((7 : Int), ([40] : List UInt8)))), ((4 : Int), ((0 : Int), ((8 : Int), ([41] : List UInt8)))), ((4 : Int), ((0 : Int), ((10 : Int), ([40] : List UInt8)))), ((2 : Int), ((0 : Int), ((11 : Int), ([115, 117, 109] : List UInt8)))), ((2 : Int), ((0 : Int), ((15 : Int), ([98, 121] : List UInt8)))), ((4 : Int), ((0 : Int), ((18 : Int), ([40] : List UInt8)))), ((4 : Int), ((0 : Int), ((19 : Int), ([41] : List UInt8)))), ((4 : Int), ((0 : Int), ((21 : Int), ([40] : List UInt8)))), ((2 : Int), ((0 : Int), ((22 : Int), ([115, 117, 109] : List UInt8)))), ((2 : Int), ((0 : Int), ((26 : Int), ([98, 121] : List UInt8)))), ((4 : Int), ((0 : Int), ((29 : Int), ([40] : List UInt8)))), ((4 : Int), ((0 : Int), ((30 : Int), ([41] : List UInt8)))), ((4 : Int), ((0 : Int), ((32 : Int), ([40] : List UInt8)))), ((2 : Int), ((0 : Int), ((33 : Int), ([115, 117, 109] : List UInt8)))), ((2 : Int), ((0 : Int), ((37 : Int), ([98, 121] : List UInt8)))), ((4 : Int), ((0 : Int), ((40 : Int), ([40] : List UInt8)))), ((4 : Int), ((0 : Int), ((41 : Int), ([41] : List UInt8)))), ((4 : Int), ((0 : Int), ((43 : Int), ([40] : List UInt8)))), ((4 : Int), ((0 : Int), ((44 : Int), ([123] : List UInt8)))), ((4 : Int), ((0 : Int), ((45 : Int), ([125] : List UInt8)))), ((4 : Int), ((0 : Int), ((46 : Int), ([91] : List UInt8)))), ((1 : Int), ((5 : Int), ((47 : Int), ([] : List UInt8)))), ((4 : Int), ((0 : Int), ((48 : Int), ([93] : List UInt8)))), ((4 : Int), ((0 : Int), ((49 : Int), ([41] : List UInt8)))), ((4 : Int), ((0 : Int), ((50 : Int), ([41] : List UInt8)))), ((4 : Int), ((0 : Int), ((51 : Int), ([41] : List UInt8)))), ((4 : Int), ((0 : Int), ((52 : Int), ([41] : List UInt8))))])), (.d (.int .i64 (0))), (.d (.int .i64 (0)))])
theorem kE21x0 : Known Tryz.prog 14 [.str sE2] rE13 := known mixed (kinds := kinds) (n := 300) SE20_ok (by kernel_rfl)
def mE21 : List (List D × AV) := [([.str sE2], rE13)]
theorem mE21_ok : ∀ p, p ∈ mE21 → Known Tryz.prog 14 p.1 p.2 := by
  intro p hp
  rcases List.mem_cons.1 hp with rfl | hp
  · exact kE21x0
  cases hp
def SE21 : FuncId → Option (List AV → Boxes → M (AV × Boxes)) := fun f => if f = 14 then some (plainV (memoG mE21)) else SE20 f
theorem SE21_ok : ∀ f s, SE21 f = some s → CallAt Tryz.prog f s := by
  intro f s h
  unfold SE21 at h
  split at h
  · rename_i e; subst e; cases h; exact memo_at mE21_ok
  · exact SE20_ok f s h
def rE14 : AV := (.tup [(.agg [(.d (.int .i64 (17))), (.d (.int .i64 (0))), (.d .nils), (.d .nils), (.d (.sl (.rose (.pair (.int .i64) (.pair (.int .i64) (.pair (.sl (.pair .str (.pair .str (.int .i64)))) (.sl .str))))) [(Rose.mk ((17 : Int), ((0 : Int), ([], []))) [(Rose.mk ((17 : Int), ((0 : Int), ([], []))) [(Rose.mk ((17 : Int), ((0 : Int), ([], []))) [(Rose.mk ((2 : Int), ((5 : Int), ([], []))) [])])])])]))]), (.d (.int .i64 (0))), (.d (.int .i64 (0)))])
theorem kE22x0 : Known Tryz.prog 6 [.str sE2] rE14 := known mixed (kinds := kinds) (n := 300) SE21_ok (by kernel_rfl)
def mE22 : List (List D × AV) := [([.str sE2], rE14)]
theorem mE22_ok : ∀ p, p ∈ mE22 → Known Tryz.prog 6 p.1 p.2 := by
  intro p hp
  rcases List.mem_cons.1 hp with rfl | hp
  · exact kE22x0
  cases hp
def sE3 : List UInt8 := [40, 49, 32, 43, 32, 40, 49, 32, 43, 32, 40, 49, 32, 43, 32, 40, 49, 32, 43, 32, 40, 49, 32, 43, 32, 40, 49, 32, 43, 32, 123, 125, 91, 53, 93, 41, 41, 41, 41, 41, 41]
theorem kE30x0 : Known Tryz.prog 25 [.str (sE3.drop 0)] rE2 := known mixed (kinds := kinds) (n := 300) S_ok (by kernel_rfl)
def rE15 : AV := (.tup [(.agg [(.d (.int .i64 (1))), (.d (.int .i64 (1))), (.d (.int .i64 (0))), (.d (.str []))]), (.d (.int .i64 (1))), (.d (.bool true))])
theorem kE30x1 : Known Tryz.prog 25 [.str (sE3.drop 1)] rE15 := known mixed (kinds := kinds) (n := 300) S_ok (by kernel_rfl)
def rE16 : AV := (.tup [(.agg [(.d (.int .i64 (4))), (.d (.int .i64 (0))), (.d (.int .i64 (0))), (.d (.str [43]))]), (.d (.int .i64 (1))), (.d (.bool true))])
theorem kE30x2 : Known Tryz.prog 25 [.str (sE3.drop 3)] rE16 := known mixed (kinds := kinds) (n := 300) S_ok (by kernel_rfl)
theorem kE30x3 : Known Tryz.prog 25 [.str (sE3.drop 5)] rE2 := known mixed (kinds := kinds) (n := 300) S_ok (by kernel_rfl)
theorem kE30x4 : Known Tryz.prog 25 [.str (sE3.drop 6)] rE15 := known mixed (kinds := kinds) (n := 300) S_ok (by kernel_rfl)
theorem kE30x5 : Known Tryz.prog 25 [.str (sE3.drop 8)] rE16 := known mixed (kinds := kinds) (n := 300) S_ok (by kernel_rfl)
theorem kE30x6 : Known Tryz.prog 25 [.str (sE3.drop 10)] rE2 := known mixed (kinds := kinds) (n := 300) S_ok (by kernel_rfl)
theorem kE30x7 : Known Tryz.prog 25 [.str (sE3.drop 11)] rE15 := known mixed (kinds := kinds) (n := 300) S_ok (by kernel_rfl)
theorem kE30x8 : Known Tryz.prog 25 [.str (sE3.drop 13)] rE16 := known mixed (kinds := kinds) (n := 300) S_ok (by kernel_rfl)
theorem kE30x9 : Known Tryz.prog 25 [.str (sE3.drop 15)] rE2 := known mixed (kinds := kinds) (n := 300) S_ok (by kernel_rfl)
theorem kE30x10 : Known Tryz.prog 25 [.str (sE3.drop 16)] rE15 := known mixed (kinds := kinds) (n := 300) S_ok (by kernel_rfl)
theorem kE30x11 : Known Tryz.prog 25 [.str (sE3.drop 18)] rE16 := known mixed (kinds := kinds) (n := 300) S_ok (by kernel_rfl)
theorem kE30x12 : Known Tryz.prog 25 [.str (sE3.drop 20)] rE2 := known mixed (kinds := kinds) (n := 300) S_ok (by kernel_rfl)
theorem kE30x13 : Known Tryz.prog 25 [.str (sE3.drop 21)] rE15 := known mixed (kinds := kinds) (n := 300) S_ok (by kernel_rfl)
theorem kE30x14 : Known Tryz.prog 25 [.str (sE3.drop 23)] rE16 := known mixed (kinds := kinds) (n := 300) S_ok (by kernel_rfl)
theorem kE30x15 : Known Tryz.prog 25 [.str (sE3.drop 25)] rE2 := known mixed (kinds := kinds) (n := 300) S_ok (by kernel_rfl)
theorem kE30x16 : Known Tryz.prog 25 [.str (sE3.drop 26)] rE15 := known mixed (kinds := kinds) (n := 300) S_ok (by kernel_rfl)
theorem kE30x17 : Known Tryz.prog 25 [.str (sE3.drop 28)] rE16 := known mixed (kinds := kinds) (n := 300) S_ok (by kernel_rfl)
theorem kE30x18 : Known Tryz.prog 25 [.str (sE3.drop 30)] rE4 := known mixed (kinds := kinds) (n := 300) S_ok (by kernel_rfl)
theorem kE30x19 : Known Tryz.prog 25 [.str (sE3.drop 31)] rE5 := known mixed (kinds := kinds) (n := 300) S_ok (by kernel_rfl)
theorem kE30x20 : Known Tryz.prog 25 [.str (sE3.drop 32)] rE6 := known mixed (kinds := kinds) (n := 300) S_ok (by kernel_rfl)
theorem kE30x21 : Known Tryz.prog 25 [.str (sE3.drop 33)] rE7 := known mixed (kinds := kinds) (n := 300) S_ok (by kernel_rfl)
theorem kE30x22 : Known Tryz.prog 25 [.str (sE3.drop 34)] rE8 := known mixed (kinds := kinds) (n := 300) S_ok (by kernel_rfl)
theorem kE30x23 : Known Tryz.prog 25 [.str (sE3.drop 35)] rE3 := known mixed (kinds := kinds) (n := 300) S_ok (by kernel_rfl)
theorem kE30x24 : Known Tryz.prog 25 [.str (sE3.drop 36)] rE3 := known mixed (kinds := kinds) (n := 300) S_ok (by kernel_rfl)
theorem kE30x25 : Known Tryz.prog 25 [.str (sE3.drop 37)] rE3 := known mixed (kinds := kinds) (n := 300) S_ok (by kernel_rfl)
theorem kE30x26 : Known Tryz.prog 25 [.str (sE3.drop 38)] rE3 := known mixed (kinds := kinds) (n := 300) S_ok (by kernel_rfl)
theorem kE30x27 : Known Tryz.prog 25 [.str (sE3.drop 39)] rE3 := known mixed (kinds := kinds) (n := 300) S_ok (by kernel_rfl)
theorem kE30x28 : Known Tryz.prog 25 [.str (sE3.drop 40)] rE3 := known mixed (kinds := kinds) (n := 300) S_ok (by kernel_rfl)
def mE30 : List (List D × AV) := [([.str (sE3.drop 0)], rE2), ([.str (sE3.drop 1)], rE15), ([.str (sE3.drop 3)], rE16), ([.str (sE3.drop 5)], rE2), ([.str (sE3.drop 6)], rE15), ([.str (sE3.drop 8)], rE16), ([.str (sE3.drop 10)], rE2), ([.str (sE3.drop 11)], rE15), ([.str (sE3.drop 13)], rE16), ([.str (sE3.drop 15)], rE2), ([.str (sE3.drop 16)], rE15), ([.str (sE3.drop 18)], rE16), ([.str (sE3.drop 20)], rE2), ([.str (sE3.drop 21)], rE15), ([.str (sE3.drop 23)], rE16), ([.str (sE3.drop 25)], rE2), ([.str (sE3.drop 26)], rE15), ([.str (sE3.drop 28)], rE16), ([.str (sE3.drop 30)], rE4), ([.str (sE3.drop 31)], rE5), ([.str (sE3.drop 32)], rE6), ([.str (sE3.drop 33)], rE7), ([.str (sE3.drop 34)], rE8), ([.str (sE3.drop 35)], rE3), ([.str (sE3.drop 36)], rE3), ([.str (sE3.drop 37)], rE3), ([.str (sE3.drop 38)], rE3), ([.str (sE3.drop 39)], rE3), ([.str (sE3.drop 40)], rE3)]
theorem mE30_ok : ∀ p, p ∈ mE30 → Known Tryz.prog 25 p.1 p.2 := by
  intro p hp
  rcases List.mem_cons.1 hp with rfl | hp
  · exact kE30x0
  rcases List.mem_cons.1 hp with rfl | hp
  · exact kE30x1
  rcases List.mem_cons.1 hp with rfl | hp
  · exact kE30x2
  rcases List.mem_cons.1 hp with rfl | hp
  · exact kE30x3
  rcases List.mem_cons.1 hp with rfl | hp
  · exact kE30x4
  rcases List.mem_cons.1 hp with rfl | hp
  · exact kE30x5
  rcases List.mem_cons.1 hp with rfl | hp
  · exact kE30x6
  rcases List.mem_cons.1 hp with rfl | hp
  · exact kE30x7
  rcases List.mem_cons.1 hp with rfl | hp
  · exact kE30x8
  rcases List.mem_cons.1 hp with rfl | hp
  · exact kE30x9
  rcases List.mem_cons.1 hp with rfl | hp
  · exact kE30x10
  rcases List.mem_cons.1 hp with rfl | hp
  · exact kE30x11
  rcases List.mem_cons.1 hp with rfl | hp
  · exact kE30x12
  rcases List.mem_cons.1 hp with rfl | hp
  · exact kE30x13
  rcases List.mem_cons.1 hp with rfl | hp
  · exact kE30x14
  rcases List.mem_cons.1 hp with rfl | hp
  · exact kE30x15
  rcases List.mem_cons.1 hp with rfl | hp
  · exact kE30x16
  rcases List.mem_cons.1 hp with rfl | hp
  · exact kE30x17
  rcases List.mem_cons.1 hp with rfl | hp
  · exact kE30x18
  rcases List.mem_cons.1 hp with rfl | hp
  · exact kE30x19
  rcases List.mem_cons.1 hp with rfl | hp
  · exact kE30x20
  rcases List.mem_cons.1 hp with rfl | hp
  · exact kE30x21
  rcases List.mem_cons.1 hp with rfl | hp
  · exact kE30x22
  rcases List.mem_cons.1 hp with rfl | hp
  · exact kE30x23
  rcases List.mem_cons.1 hp with rfl | hp
  · exact kE30x24
  rcases List.mem_cons.1 hp with rfl | hp
  · exact kE30x25
  rcases List.mem_cons.1 hp with rfl | hp
  · exact kE30x26
  rcases List.mem_cons.1 hp with rfl | hp
  · exact kE30x27
  rcases List.mem_cons.1 hp with rfl | hp
  · exact kE30x28
  cases hp
def SE30 : FuncId → Option (List AV → Boxes → M (AV × Boxes)) := fun f => if f = 25 then some (plainV (memoG mE30)) else S f
theorem SE30_ok : ∀ f s, SE30 f = some s → CallAt Tryz.prog f s := by
  intro f s h
  unfold SE30 at h
  split at h
  · rename_i e; subst e; cases h; exact memo_at mE30_ok
  · exact S_ok f s h
def rE17 : AV := (.tup [(.d (.sl (.pair (.int .i64) (.pair (.int .i64) (.pair (.int .i64) .str))) [((4 : Int), ((0 : Int), ((0 : Int), ([40] : List UInt8)))), ((1 : Int), ((1 : Int), ((1 : Int), ([] : List UInt8)))), ((4 : Int), ((0 : Int), ((3 : Int), ([43] : List UInt8)))), ((4 : Int), ((0 : Int), ((5 : Int), ([40] : List UInt8)))), ((1 : Int), ((1 : Int), ((6 : Int), ([] : List UInt8)))), ((4 : Int), ((0 : Int), ((8 : Int), ([43] : List UInt8)))), ((4 : Int), ((0 : Int), ((10 : Int), ([40] : List UInt8)))), ((1 : Int), ((1 : Int), ((11 : Int), ([] : List UInt8)))), ((4 : Int), ((0 : Int), ((13 : Int), ([43] : List UInt8)))), ((4 : Int), ((0 : Int), ((15 : Int), ([40] : List UInt8)))), ((1 : Int), ((1 : Int), ((16 : Int), ([] : List UInt8)))), ((4 : Int), ((0 : Int), ((18 : Int), ([43] : List UInt8)))), ((4 : Int), ((0 : Int), ((20 : Int), ([40] : List UInt8)))), ((1 : Int), ((1 : Int), ((21 : Int), ([] : List UInt8)))), ((4 : Int), ((0 : Int), ((23 : Int), ([43] : List UInt8)))), ((4 : Int), ((0 : Int), ((25 : Int), ([40] : List UInt8)))), ((1 : Int), ((1 : Int), ((26 : Int), ([] : List UInt8)))), ((4 : Int), ((0 : Int), ((28 : Int), ([43] : List UInt8)))), ((4 : Int), ((0 : Int), ((30 : Int), ([123] : List UInt8)))), ((4 : Int), ((0 : Int), ((31 : Int), ([125] : List UInt8)))), ((4 : Int), ((0 : Int), ((32 : Int), ([91] : List UInt8)))), ((1 : Int), ((5 : Int), ((33 : Int), ([] : List UInt8)))), ((4 : Int), ((0 : Int), ((34 : Int), ([93] : List UInt8)))), ((4 : Int), ((0 : Int), ((35 : Int), ([41] : List UInt8)))), ((4 : Int), ((0 : Int), ((36 : Int), ([41] : List UInt8)))), ((4 : Int), ((0 : Int), ((37 : Int), ([41] : List UInt8)))), ((4 : Int), ((0 : Int), ((38 : Int), ([41] : List UInt8)))), ((4 : Int), ((0 : Int), ((39 : Int), ([41] : List UInt8)))), ((4 : Int), ((0 : Int), ((40 : Int), ([41] : List UInt8))))])), (.d (.int .i64 (0))), (.d (.int .i64 (0)))])
theorem kE31x0 : Known Tryz.prog 14 [.str sE3] rE17 := known mixed (kinds := kinds) (n := 300) SE30_ok (by kernel_rfl)
def mE31 : List (List D × AV) := [([.str sE3], rE17)]
theorem mE31_ok : ∀ p, p ∈ mE31 → Known Tryz.prog 14 p.1 p.2 := by
  intro p hp
  rcases List.mem_cons.1 hp with rfl | hp
  · exact kE31x0
  cases hp
def SE31 : FuncId → Option (List AV → Boxes → M (AV × Boxes)) := fun f => if f = 14 then some (plainV (memoG mE31)) else SE30 f
theorem SE31_ok : ∀ f s, SE31 f = some s → CallAt Tryz.prog f s := by
  intro f s h
  unfold SE31 at h
  split at h
  · rename_i e; subst e; cases h; exact memo_at mE31_ok
  · exact SE30_ok f s h
def rE18 : AV := (.tup [(.agg [(.d (.int .i64 (3))), (.d (.int .i64 (0))), (.d .nils), (.d .nils), (.d (.sl (.rose (.pair (.int .i64) (.pair (.int .i64) (.pair (.sl (.pair .str (.pair .str (.int .i64)))) (.sl .str))))) [(Rose.mk ((1 : Int), ((1 : Int), ([], []))) []), (Rose.mk ((3 : Int), ((0 : Int), ([], []))) [(Rose.mk ((1 : Int), ((1 : Int), ([], []))) []), (Rose.mk ((3 : Int), ((0 : Int), ([], []))) [(Rose.mk ((1 : Int), ((1 : Int), ([], []))) []), (Rose.mk ((3 : Int), ((0 : Int), ([], []))) [(Rose.mk ((1 : Int), ((1 : Int), ([], []))) []), (Rose.mk ((3 : Int), ((0 : Int), ([], []))) [(Rose.mk ((1 : Int), ((1 : Int), ([], []))) []), (Rose.mk ((3 : Int), ((0 : Int), ([], []))) [(Rose.mk ((1 : Int), ((1 : Int), ([], []))) []), (Rose.mk ((2 : Int), ((5 : Int), ([], []))) [])])])])])])]))]), (.d (.int .i64 (0))), (.d (.int .i64 (0)))])
theorem kE32x0 : Known Tryz.prog 6 [.str sE3] rE18 := known mixed (kinds := kinds) (n := 300) SE31_ok (by kernel_rfl)
def mE32 : List (List D × AV) := [([.str sE3], rE18)]
theorem mE32_ok : ∀ p, p ∈ mE32 → Known Tryz.prog 6 p.1 p.2 := by
  intro p hp
  rcases List.mem_cons.1 hp with rfl | hp
  · exact kE32x0
  cases hp
def sE4 : List UInt8 := [115, 117, 109, 32, 98, 121, 32, 40, 41, 32, 40, 123, 125, 91, 53, 93, 41]
theorem kE40x0 : Known Tryz.prog 25 [.str (sE4.drop 0)] rE0 := known mixed (kinds := kinds) (n := 300) S_ok (by kernel_rfl)
theorem kE40x1 : Known Tryz.prog 25 [.str (sE4.drop 4)] rE1 := known mixed (kinds := kinds) (n := 300) S_ok (by kernel_rfl)
theorem kE40x2 : Known Tryz.prog 25 [.str (sE4.drop 7)] rE2 := known mixed (kinds := kinds) (n := 300) S_ok (by kernel_rfl)
theorem kE40x3 : Known Tryz.prog 25 [.str (sE4.drop 8)] rE3 := known mixed (kinds := kinds) (n := 300) S_ok (by kernel_rfl)
theorem kE40x4 : Known Tryz.prog 25 [.str (sE4.drop 10)] rE2 := known mixed (kinds := kinds) (n := 300) S_ok (by kernel_rfl)
theorem kE40x5 : Known Tryz.prog 25 [.str (sE4.drop 11)] rE4 := known mixed (kinds := kinds) (n := 300) S_ok (by kernel_rfl)
theorem kE40x6 : Known Tryz.prog 25 [.str (sE4.drop 12)] rE5 := known mixed (kinds := kinds) (n := 300) S_ok (by kernel_rfl)
theorem kE40x7 : Known Tryz.prog 25 [.str (sE4.drop 13)] rE6 := known mixed (kinds := kinds) (n := 300) S_ok (by kernel_rfl)
theorem kE40x8 : Known Tryz.prog 25 [.str (sE4.drop 14)] rE7 := known mixed (kinds := kinds) (n := 300) S_ok (by kernel_rfl)
theorem kE40x9 : Known Tryz.prog 25 [.str (sE4.drop 15)] rE8 := known mixed (kinds := kinds) (n := 300) S_ok (by kernel_rfl)
theorem kE40x10 : Known Tryz.prog 25 [.str (sE4.drop 16)] rE3 := known mixed (kinds := kinds) (n := 300) S_ok (by kernel_rfl)
def mE40 : List (List D × AV) := [([.str (sE4.drop 0)], rE0), ([.str (sE4.drop 4)], rE1), ([.str (sE4.drop 7)], rE2), ([.str (sE4.drop 8)], rE3), ([.str (sE4.drop 10)], rE2), ([.str (sE4.drop 11)], rE4), ([.str (sE4.drop 12)], rE5), ([.str (sE4.drop 13)], rE6), ([.str (sE4.drop 14)], rE7), ([.str (sE4.drop 15)], rE8), ([.str (sE4.drop 16)], rE3)]
theorem mE40_ok : ∀ p, p ∈ mE40 → Known Tryz.prog 25 p.1 p.2 := by
  intro p hp
  rcases List.mem_cons.1 hp with rfl | hp
  · exact kE40x0
  rcases List.mem_cons.1 hp with rfl | hp
  · exact kE40x1
  rcases List.mem_cons.1 hp with rfl | hp
  · exact kE40x2
  rcases List.mem_cons.1 hp with rfl | hp
  · exact kE40x3
  rcases List.mem_cons.1 hp with rfl | hp
  · exact kE40x4
  rcases List.mem_cons.1 hp with rfl | hp
  · exact kE40x5
  rcases List.mem_cons.1 hp with rfl | hp
  · exact kE40x6
  rcases List.mem_cons.1 hp with rfl | hp
  · exact kE40x7
  rcases List.mem_cons.1 hp with rfl | hp
  · exact kE40x8
  rcases List.mem_cons.1 hp with rfl | hp
  · exact kE40x9
  rcases List.mem_cons.1 hp with rfl | hp
  · exact kE40x10
  cases hp
def SE40 : FuncId → Option (List AV → Boxes → M (AV × Boxes)) := fun f => if f = 25 then some (plainV (memoG mE40)) else S f
theorem SE40_ok : ∀ f s, SE40 f = some s → CallAt Tryz.prog f s := by
  intro f s h
  unfold SE40 at h
  split at h
  · rename_i e; subst e; cases h; exact memo_at mE40_ok
  · exact S_ok f s h
def rE19 : AV := (.tup [(.d (.sl (.pair (.int .i64) (.pair (.int .i64) (.pair (.int .i64) .str))) [((2 : Int), ((0 : Int), ((0 : Int), ([115, 117, 109] : List UInt8)))), ((2 : Int), ((0 : Int), ((4 : Int), ([98, 121] : List UInt8)))), ((4 : Int), ((0 : Int), ((7 : Int), ([40] : List UInt8)))), ((4 : Int), ((0 : Int), ((8 : Int), ([41] : List UInt8)))), ((4 : Int), ((0 : Int), ((10 : Int), ([40] : List UInt8)))), ((4 : Int), ((0 : Int), ((11 : Int), ([123] : List UInt8)))), ((4 : Int), ((0 : Int), ((12 : Int), ([125] : List UInt8)))), ((4 : Int), ((0 : Int), ((13 : Int), ([91] : List UInt8)))), ((1 : Int), ((5 : Int), ((14 : Int), ([] : List UInt8)))), ((4 : Int), ((0 : Int), ((15 : Int), ([93] : List UInt8)))), ((4 : Int), ((0 : Int), ((16 : Int), ([41] : List UInt8))))])), (.d (.int .i64 (0))), (.d (.int .i64 (0)))])
theorem kE41x0 : Known Tryz.prog 14 [.str sE4] rE19 := known mixed (kinds := kinds) (n := 300) SE40_ok (by kernel_rfl)
def mE41 : List (List D × AV) := [([.str sE4], rE19)]
theorem mE41_ok : ∀ p, p ∈ mE41 → Known Tryz.prog 14 p.1 p.2 := by
  intro p hp
  rcases List.mem_cons.1 hp with rfl | hp
  · exact kE41x0
  cases hp
def SE41 : FuncId → Option (List AV → Boxes → M (AV × Boxes)) := fun f => if f = 14 then some (plainV (memoG mE41)) else SE40 f
theorem SE41_ok : ∀ f s, SE41 f = some s → CallAt Tryz.prog f s := by
  intro f s h
  unfold SE41 at h
  split at h
  · rename_i e; subst e; cases h; exact memo_at mE41_ok
  · exact SE40_ok f s h
def rE20 : AV := (.tup [(.agg [(.d (.int .i64 (17))), (.d (.int .i64 (0))), (.d .nils), (.d .nils), (.d (.sl (.rose (.pair (.int .i64) (.pair (.int .i64) (.pair (.sl (.pair .str (.pair .str (.int .i64)))) (.sl .str))))) [(Rose.mk ((2 : Int), ((5 : Int), ([], []))) [])]))]), (.d (.int .i64 (0))), (.d (.int .i64 (0)))])
theorem kE42x0 : Known Tryz.prog 6 [.str sE4] rE20 := known mixed (kinds := kinds) (n := 300) SE41_ok (by kernel_rfl)
def mE42 : List (List D × AV) := [([.str sE4], rE20)]
theorem mE42_ok : ∀ p, p ∈ mE42 → Known Tryz.prog 6 p.1 p.2 := by
  intro p hp
  rcases List.mem_cons.1 hp with rfl | hp
  · exact kE42x0
  cases hp
def sE5 : List UInt8 := [40, 49, 32, 62, 32, 123, 125, 91, 53, 93, 41]
theorem kE50x0 : Known Tryz.prog 25 [.str (sE5.drop 0)] rE2 := known mixed (kinds := kinds) (n := 300) S_ok (by kernel_rfl)
theorem kE50x1 : Known Tryz.prog 25 [.str (sE5.drop 1)] rE15 := known mixed (kinds := kinds) (n := 300) S_ok (by kernel_rfl)
def rE21 : AV := (.tup [(.agg [(.d (.int .i64 (4))), (.d (.int .i64 (0))), (.d (.int .i64 (0))), (.d (.str [62]))]), (.d (.int .i64 (1))), (.d (.bool true))])
theorem kE50x2 : Known Tryz.prog 25 [.str (sE5.drop 3)] rE21 := known mixed (kinds := kinds) (n := 300) S_ok (by kernel_rfl)
theorem kE50x3 : Known Tryz.prog 25 [.str (sE5.drop 5)] rE4 := known mixed (kinds := kinds) (n := 300) S_ok (by kernel_rfl)
theorem kE50x4 : Known Tryz.prog 25 [.str (sE5.drop 6)] rE5 := known mixed (kinds := kinds) (n := 300) S_ok (by kernel_rfl)
theorem kE50x5 : Known Tryz.prog 25 [.str (sE5.drop 7)] rE6 := known mixed (kinds := kinds) (n := 300) S_ok (by kernel_rfl)
theorem kE50x6 : Known Tryz.prog 25 [.str (sE5.drop 8)] rE7 := known mixed (kinds := kinds) (n := 300) S_ok (by kernel_rfl)
theorem kE50x7 : Known Tryz.prog 25 [.str (sE5.drop 9)] rE8 := known mixed (kinds := kinds) (n := 300) S_ok (by kernel_rfl)
theorem kE50x8 : Known Tryz.prog 25 [.str (sE5.drop 10)] rE3 := known mixed (kinds := kinds) (n := 300) S_ok (by kernel_rfl)
def mE50 : List (List D × AV) := [([.str (sE5.drop 0)], rE2), ([.str (sE5.drop 1)], rE15), ([.str (sE5.drop 3)], rE21), ([.str (sE5.drop 5)], rE4), ([.str (sE5.drop 6)], rE5), ([.str (sE5.drop 7)], rE6), ([.str (sE5.drop 8)], rE7), ([.str (sE5.drop 9)], rE8), ([.str (sE5.drop 10)], rE3)]
theorem mE50_ok : ∀ p, p ∈ mE50 → Known Tryz.prog 25 p.1 p.2 := by
  intro p hp
  rcases List.mem_cons.1 hp with rfl | hp
  · exact kE50x0
  rcases List.mem_cons.1 hp with rfl | hp
  · exact kE50x1
  rcases List.mem_cons.1 hp with rfl | hp
  · exact kE50x2
  rcases List.mem_cons.1 hp with rfl | hp
  · exact kE50x3
  rcases List.mem_cons.1 hp with rfl | hp
  · exact kE50x4
  rcases List.mem_cons.1 hp with rfl | hp
  · exact kE50x5
  rcases List.mem_cons.1 hp with rfl | hp
  · exact kE50x6
  rcases List.mem_cons.1 hp with rfl | hp
  · exact kE50x7
  rcases List.mem_cons.1 hp with rfl | hp
  · exact kE50x8
  cases hp
def SE50 : FuncId → Option (List AV → Boxes → M (AV × Boxes)) := fun f => if f = 25 then some (plainV (memoG mE50)) else S f
theorem SE50_ok : ∀ f s, SE50 f = some s → CallAt Tryz.prog f s := by
  intro f s h
  unfold SE50 at h
  split at h
  · rename_i e; subst e; cases h; exact memo_at mE50_ok
  · exact S_ok f s h
def rE22 : AV := (.tup [(.d (.sl (.pair (.int .i64) (.pair (.int .i64) (.pair (.int .i64) .str))) [((4 : Int), ((0 : Int), ((0 : Int), ([40] : List UInt8)))), ((1 : Int), ((1 : Int), ((1 : Int), ([] : List UInt8)))), ((4 : Int), ((0 : Int), ((3 : Int), ([62] : List UInt8)))), ((4 : Int), ((0 : Int), ((5 : Int), ([123] : List UInt8)))), ((4 : Int), ((0 : Int), ((6 : Int), ([125] : List UInt8)))), ((4 : Int), ((0 : Int), ((7 : Int), ([91] : List UInt8)))), ((1 : Int), ((5 : Int), ((8 : Int), ([] : List UInt8)))), ((4 : Int), ((0 : Int), ((9 : Int), ([93] : List UInt8)))), ((4 : Int), ((0 : Int), ((10 : Int), ([41] : List UInt8))))])), (.d (.int .i64 (0))), (.d (.int .i64 (0)))])
theorem kE51x0 : Known Tryz.prog 14 [.str sE5] rE22 := known mixed (kinds := kinds) (n := 300) SE50_ok (by kernel_rfl)
def mE51 : List (List D × AV) := [([.str sE5], rE22)]
theorem mE51_ok : ∀ p, p ∈ mE51 → Known Tryz.prog 14 p.1 p.2 := by
  intro p hp
  rcases List.mem_cons.1 hp with rfl | hp
  · exact kE51x0
  cases hp
def SE51 : FuncId → Option (List AV → Boxes → M (AV × Boxes)) := fun f => if f = 14 then some (plainV (memoG mE51)) else SE50 f
theorem SE51_ok : ∀ f s, SE51 f = some s → CallAt Tryz.prog f s := by
  intro f s h
  unfold SE51 at h
  split at h
  · rename_i e; subst e; cases h; exact memo_at mE51_ok
  · exact SE50_ok f s h
def rE23 : AV := (.tup [(.agg [(.d (.int .i64 (0))), (.d (.int .i64 (0))), (.d .nils), (.d .nils), (.d .nils)]), (.d (.int .i64 (0))), (.d (.int .i64 (1)))])
theorem kE52x0 : Known Tryz.prog 6 [.str sE5] rE23 := known mixed (kinds := kinds) (n := 300) SE51_ok (by kernel_rfl)
def mE52 : List (List D × AV) := [([.str sE5], rE23)]
theorem mE52_ok : ∀ p, p ∈ mE52 → Known Tryz.prog 6 p.1 p.2 := by
  intro p hp
  rcases List.mem_cons.1 hp with rfl | hp
  · exact kE52x0
  cases hp
def sE6 : List UInt8 := [123, 125, 91, 53, 93]
theorem kE60x0 : Known Tryz.prog 25 [.str (sE6.drop 0)] rE4 := known mixed (kinds := kinds) (n := 300) S_ok (by kernel_rfl)
theorem kE60x1 : Known Tryz.prog 25 [.str (sE6.drop 1)] rE5 := known mixed (kinds := kinds) (n := 300) S_ok (by kernel_rfl)
theorem kE60x2 : Known Tryz.prog 25 [.str (sE6.drop 2)] rE6 := known mixed (kinds := kinds) (n := 300) S_ok (by kernel_rfl)
theorem kE60x3 : Known Tryz.prog 25 [.str (sE6.drop 3)] rE7 := known mixed (kinds := kinds) (n := 300) S_ok (by kernel_rfl)
theorem kE60x4 : Known Tryz.prog 25 [.str (sE6.drop 4)] rE8 := known mixed (kinds := kinds) (n := 300) S_ok (by kernel_rfl)
def mE60 : List (List D × AV) := [([.str (sE6.drop 0)], rE4), ([.str (sE6.drop 1)], rE5), ([.str (sE6.drop 2)], rE6), ([.str (sE6.drop 3)], rE7), ([.str (sE6.drop 4)], rE8)]
theorem mE60_ok : ∀ p, p ∈ mE60 → Known Tryz.prog 25 p.1 p.2 := by
  intro p hp
  rcases List.mem_cons.1 hp with rfl | hp
  · exact kE60x0
  rcases List.mem_cons.1 hp with rfl | hp
  · exact kE60x1
  rcases List.mem_cons.1 hp with rfl | hp
  · exact kE60x2
  rcases List.mem_cons.1 hp with rfl | hp
  · exact kE60x3
  rcases List.mem_cons.1 hp with rfl | hp
  · exact kE60x4
  cases hp
def SE60 : FuncId → Option (List AV → Boxes → M (AV × Boxes)) := fun f => if f = 25 then some (plainV (memoG mE60)) else S f
theorem SE60_ok : ∀ f s, SE60 f = some s → CallAt Tryz.prog f s := by
  intro f s h
  unfold SE60 at h
  split at h
  · rename_i e; subst e; cases h; exact memo_at mE60_ok
  · exact S_ok f s h
def rE24 : AV := (.tup [(.d (.sl (.pair (.int .i64) (.pair (.int .i64) (.pair (.int .i64) .str))) [((4 : Int), ((0 : Int), ((0 : Int), ([123] : List UInt8)))), ((4 : Int), ((0 : Int), ((1 : Int), ([125] : List UInt8)))), ((4 : Int), ((0 : Int), ((2 : Int), ([91] : List UInt8)))), ((1 : Int), ((5 : Int), ((3 : Int), ([] : List UInt8)))), ((4 : Int), ((0 : Int), ((4 : Int), ([93] : List UInt8))))])), (.d (.int .i64 (0))), (.d (.int .i64 (0)))])
theorem kE61x0 : Known Tryz.prog 14 [.str sE6] rE24 := known mixed (kinds := kinds) (n := 300) SE60_ok (by kernel_rfl)
def mE61 : List (List D × AV) := [([.str sE6], rE24)]
theorem mE61_ok : ∀ p, p ∈ mE61 → Known Tryz.prog 14 p.1 p.2 := by
  intro p hp
  rcases List.mem_cons.1 hp with rfl | hp
  · exact kE61x0
  cases hp
def SE61 : FuncId → Option (List AV → Boxes → M (AV × Boxes)) := fun f => if f = 14 then some (plainV (memoG mE61)) else SE60 f
theorem SE61_ok : ∀ f s, SE61 f = some s → CallAt Tryz.prog f s := by
  intro f s h
  unfold SE61 at h
  split at h
  · rename_i e; subst e; cases h; exact memo_at mE61_ok
  · exact SE60_ok f s h
def rE25 : AV := (.tup [(.agg [(.d (.int .i64 (2))), (.d (.int .i64 (5))), (.d .nils), (.d .nils), (.d .nils)]), (.d (.int .i64 (0))), (.d (.int .i64 (0)))])
theorem kE62x0 : Known Tryz.prog 6 [.str sE6] rE25 := known mixed (kinds := kinds) (n := 300) SE61_ok (by kernel_rfl)
def mE62 : List (List D × AV) := [([.str sE6], rE25)]
theorem mE62_ok : ∀ p, p ∈ mE62 → Known Tryz.prog 6 p.1 p.2 := by
  intro p hp
  rcases List.mem_cons.1 hp with rfl | hp
  · exact kE62x0
  cases hp
end Go.Proofs.YtnmakkgomplchaaGreatDoor.EvS.ExprDeep
