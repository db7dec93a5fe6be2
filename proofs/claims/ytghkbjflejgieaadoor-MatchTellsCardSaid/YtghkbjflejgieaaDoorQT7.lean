/- Right matchers. Quote. match.Print. The document's own Get, All. Same of matchers. -/
import Derived.Test.YtghkbjflejgieaaDoorQT6
import Derived.KernelRfl
namespace Go.Proofs.YtghkbjflejgieaaDoor.Dec
open Go.Ev
set_option linter.unusedVariables false
set_option linter.unusedSimpArgs false
set_option maxRecDepth 100000
noncomputable def fn26 : AFn := (F 26).getD ⟨0, [], .bad, false, false, noHd⟩
noncomputable def body26 : AC := fn26.body
def l26_0 (m : Nat) : Nat → List ((List UInt8) × (List UInt8) × Int) → Int → Int → Option (Nat × Int)
  | 0, _, _, _ => none
  | n + 1, x0, s6, s7 => if decide (s7 < s6) = true then
      if decide (0 ≤ s7) = true then
        if decide (s7 < (((List.length x0) : Nat) : Int)) = true then
          if decide (List.length (List.getD x0 (Int.toNat s7) (([] : List UInt8), (([] : List UInt8), 0))).1 ≤ 9223372036854775807) = true then
            if (wordG (List.getD x0 (Int.toNat s7) (([] : List UInt8), (([] : List UInt8), 0))).1) = true then
              if decide ((((List.length (List.getD x0 (Int.toNat s7) (([] : List UInt8), (([] : List UInt8), 0))).2.1) : Nat) : Int) > 24) = true then
                some (1, s7)
              else
                if ((List.getD x0 (Int.toNat s7) (([] : List UInt8), (([] : List UInt8), 0))).2.2 == (1)) = true then
                  if (([61] : List UInt8) == ([] : List UInt8)) = true then
                    some (2, s7)
                  else
                    l26_0 m n x0 s6 ((IntKind.wrap .i64 (s7 + (1))))
                else
                  if ((List.getD x0 (Int.toNat s7) (([] : List UInt8), (([] : List UInt8), 0))).2.2 == (2)) = true then
                    if (([33, 61] : List UInt8) == ([] : List UInt8)) = true then
                      some (3, s7)
                    else
                      l26_0 m n x0 s6 ((IntKind.wrap .i64 (s7 + (1))))
                  else
                    if ((List.getD x0 (Int.toNat s7) (([] : List UInt8), (([] : List UInt8), 0))).2.2 == (3)) = true then
                      if (([94, 61] : List UInt8) == ([] : List UInt8)) = true then
                        some (4, s7)
                      else
                        l26_0 m n x0 s6 ((IntKind.wrap .i64 (s7 + (1))))
                    else
                      if ((List.getD x0 (Int.toNat s7) (([] : List UInt8), (([] : List UInt8), 0))).2.2 == (4)) = true then
                        if (([33, 94] : List UInt8) == ([] : List UInt8)) = true then
                          some (5, s7)
                        else
                          l26_0 m n x0 s6 ((IntKind.wrap .i64 (s7 + (1))))
                      else
                        if (([] : List UInt8) == ([] : List UInt8)) = true then
                          some (6, s7)
                        else
                          l26_0 m n x0 s6 ((IntKind.wrap .i64 (s7 + (1))))
            else
              some (0, s7)
          else
            none
        else
          none
      else
        none
    else
      some (7, s7)
def l26_0D : Nat × Int := (0, 0)
@[reducible] def l26_0R (m n : Nat) (x0 : List ((List UInt8) × (List UInt8) × Int)) (s6 : Int) (s7 : Int) : Nat × Int := Option.getD (l26_0 m n x0 s6 s7) l26_0D
def l26_0H (x0 : List ((List UInt8) × (List UInt8) × Int)) (s6 : Int) (s7 : Int) : Env := [(.d (.sl (.pair .str (.pair .str (.int .i64))) x0)), .top, .top, .top, .top, (.d (.sl (.pair .str (.pair .str (.int .i64))) x0)), (.d (.int .i64 s6)), (.d (.int .i64 s7)), .top, .top, .top, .top, .top, .top, .top, .top, .top, .top, .top, .top, .top, .top, .top, .top, .top, .top, .top, .top, .top, .top, .top]
def l26_0B (x0 : List ((List UInt8) × (List UInt8) × Int)) (s6 : Int) (s7 : Int) : Boxes := []
def l26_0E (x0 : List ((List UInt8) × (List UInt8) × Int)) (s6 : Int) (s7 : Int) : Nat → AEx × Env × Boxes
  | 0 => (.ret, [(.d (.sl (.pair .str (.pair .str (.int .i64))) x0)), .top, (.d (.bool false)), .top, (.ptr 0 0), (.d (.sl (.pair .str (.pair .str (.int .i64))) x0)), (.d (.int .i64 s6)), (.d (.int .i64 s7)), (.d (.bool (decide (s7 < s6)))), (.cptr [(.str (List.getD x0 (Int.toNat s7) (([] : List UInt8), (([] : List UInt8), 0))).1), (.str (List.getD x0 (Int.toNat s7) (([] : List UInt8), (([] : List UInt8), 0))).2.1), (.int .i64 (List.getD x0 (Int.toNat s7) (([] : List UInt8), (([] : List UInt8), 0))).2.2)] 0), (.agg [(.d (.str (List.getD x0 (Int.toNat s7) (([] : List UInt8), (([] : List UInt8), 0))).1)), (.d (.str (List.getD x0 (Int.toNat s7) (([] : List UInt8), (([] : List UInt8), 0))).2.1)), (.d (.int .i64 (List.getD x0 (Int.toNat s7) (([] : List UInt8), (([] : List UInt8), 0))).2.2))]), (.ptr 0 0), (.d (.str (List.getD x0 (Int.toNat s7) (([] : List UInt8), (([] : List UInt8), 0))).1)), (.d (.bool (wordG (List.getD x0 (Int.toNat s7) (([] : List UInt8), (([] : List UInt8), 0))).1))), (.d (.bool (!(wordG (List.getD x0 (Int.toNat s7) (([] : List UInt8), (([] : List UInt8), 0))).1)))), (.d (.bool (!(wordG (List.getD x0 (Int.toNat s7) (([] : List UInt8), (([] : List UInt8), 0))).1)))), (.tup []), (.tup []), (.tup []), (.tup []), (.d (.bool true)), (.d (.bool true)), (.tup []), (.tup []), (.tup []), (.tup []), (.d (.bool true)), .top, .top, .top, .top], [(.cells [(.d (.str (List.getD x0 (Int.toNat s7) (([] : List UInt8), (([] : List UInt8), 0))).1)), (.d (.str (List.getD x0 (Int.toNat s7) (([] : List UInt8), (([] : List UInt8), 0))).2.1)), (.d (.int .i64 (List.getD x0 (Int.toNat s7) (([] : List UInt8), (([] : List UInt8), 0))).2.2))])])
  | 1 => (.ret, [(.d (.sl (.pair .str (.pair .str (.int .i64))) x0)), .top, (.d (.bool false)), .top, (.ptr 0 0), (.d (.sl (.pair .str (.pair .str (.int .i64))) x0)), (.d (.int .i64 s6)), (.d (.int .i64 s7)), (.d (.bool (decide (s7 < s6)))), (.cptr [(.str (List.getD x0 (Int.toNat s7) (([] : List UInt8), (([] : List UInt8), 0))).1), (.str (List.getD x0 (Int.toNat s7) (([] : List UInt8), (([] : List UInt8), 0))).2.1), (.int .i64 (List.getD x0 (Int.toNat s7) (([] : List UInt8), (([] : List UInt8), 0))).2.2)] 0), (.agg [(.d (.str (List.getD x0 (Int.toNat s7) (([] : List UInt8), (([] : List UInt8), 0))).1)), (.d (.str (List.getD x0 (Int.toNat s7) (([] : List UInt8), (([] : List UInt8), 0))).2.1)), (.d (.int .i64 (List.getD x0 (Int.toNat s7) (([] : List UInt8), (([] : List UInt8), 0))).2.2))]), (.ptr 0 0), (.d (.str (List.getD x0 (Int.toNat s7) (([] : List UInt8), (([] : List UInt8), 0))).1)), (.d (.bool (wordG (List.getD x0 (Int.toNat s7) (([] : List UInt8), (([] : List UInt8), 0))).1))), (.d (.bool (!(wordG (List.getD x0 (Int.toNat s7) (([] : List UInt8), (([] : List UInt8), 0))).1)))), (.d (.bool (!(wordG (List.getD x0 (Int.toNat s7) (([] : List UInt8), (([] : List UInt8), 0))).1)))), (.ptr 0 1), (.d (.str (List.getD x0 (Int.toNat s7) (([] : List UInt8), (([] : List UInt8), 0))).2.1)), (.d (.int .i64 (((List.length (List.getD x0 (Int.toNat s7) (([] : List UInt8), (([] : List UInt8), 0))).2.1) : Nat) : Int))), (.d (.bool (decide ((((List.length (List.getD x0 (Int.toNat s7) (([] : List UInt8), (([] : List UInt8), 0))).2.1) : Nat) : Int) > 24)))), (.d (.bool (decide ((((List.length (List.getD x0 (Int.toNat s7) (([] : List UInt8), (([] : List UInt8), 0))).2.1) : Nat) : Int) > 24)))), (.d (.bool (decide ((((List.length (List.getD x0 (Int.toNat s7) (([] : List UInt8), (([] : List UInt8), 0))).2.1) : Nat) : Int) > 24)))), (.tup []), (.tup []), (.tup []), (.tup []), (.d (.bool true)), .top, .top, .top, .top], [(.cells [(.d (.str (List.getD x0 (Int.toNat s7) (([] : List UInt8), (([] : List UInt8), 0))).1)), (.d (.str (List.getD x0 (Int.toNat s7) (([] : List UInt8), (([] : List UInt8), 0))).2.1)), (.d (.int .i64 (List.getD x0 (Int.toNat s7) (([] : List UInt8), (([] : List UInt8), 0))).2.2))])])
  | 2 => (.ret, [(.d (.sl (.pair .str (.pair .str (.int .i64))) x0)), .top, (.d (.bool false)), .top, (.ptr 0 0), (.d (.sl (.pair .str (.pair .str (.int .i64))) x0)), (.d (.int .i64 s6)), (.d (.int .i64 s7)), (.d (.bool (decide (s7 < s6)))), (.cptr [(.str (List.getD x0 (Int.toNat s7) (([] : List UInt8), (([] : List UInt8), 0))).1), (.str (List.getD x0 (Int.toNat s7) (([] : List UInt8), (([] : List UInt8), 0))).2.1), (.int .i64 (List.getD x0 (Int.toNat s7) (([] : List UInt8), (([] : List UInt8), 0))).2.2)] 0), (.agg [(.d (.str (List.getD x0 (Int.toNat s7) (([] : List UInt8), (([] : List UInt8), 0))).1)), (.d (.str (List.getD x0 (Int.toNat s7) (([] : List UInt8), (([] : List UInt8), 0))).2.1)), (.d (.int .i64 (List.getD x0 (Int.toNat s7) (([] : List UInt8), (([] : List UInt8), 0))).2.2))]), (.ptr 0 0), (.d (.str (List.getD x0 (Int.toNat s7) (([] : List UInt8), (([] : List UInt8), 0))).1)), (.d (.bool (wordG (List.getD x0 (Int.toNat s7) (([] : List UInt8), (([] : List UInt8), 0))).1))), (.d (.bool (!(wordG (List.getD x0 (Int.toNat s7) (([] : List UInt8), (([] : List UInt8), 0))).1)))), (.d (.bool (!(wordG (List.getD x0 (Int.toNat s7) (([] : List UInt8), (([] : List UInt8), 0))).1)))), (.ptr 0 1), (.d (.str (List.getD x0 (Int.toNat s7) (([] : List UInt8), (([] : List UInt8), 0))).2.1)), (.d (.int .i64 (((List.length (List.getD x0 (Int.toNat s7) (([] : List UInt8), (([] : List UInt8), 0))).2.1) : Nat) : Int))), (.d (.bool (decide ((((List.length (List.getD x0 (Int.toNat s7) (([] : List UInt8), (([] : List UInt8), 0))).2.1) : Nat) : Int) > 24)))), (.d (.bool (decide ((((List.length (List.getD x0 (Int.toNat s7) (([] : List UInt8), (([] : List UInt8), 0))).2.1) : Nat) : Int) > 24)))), (.d (.bool (decide ((((List.length (List.getD x0 (Int.toNat s7) (([] : List UInt8), (([] : List UInt8), 0))).2.1) : Nat) : Int) > 24)))), (.ptr 0 2), (.d (.int .i64 (List.getD x0 (Int.toNat s7) (([] : List UInt8), (([] : List UInt8), 0))).2.2)), (.d (.str ([61] : List UInt8))), (.d (.bool (([61] : List UInt8) == ([] : List UInt8)))), (.d (.bool (([61] : List UInt8) == ([] : List UInt8)))), .top, .top, .top, .top], [(.cells [(.d (.str (List.getD x0 (Int.toNat s7) (([] : List UInt8), (([] : List UInt8), 0))).1)), (.d (.str (List.getD x0 (Int.toNat s7) (([] : List UInt8), (([] : List UInt8), 0))).2.1)), (.d (.int .i64 (List.getD x0 (Int.toNat s7) (([] : List UInt8), (([] : List UInt8), 0))).2.2))])])
  | 3 => (.ret, [(.d (.sl (.pair .str (.pair .str (.int .i64))) x0)), .top, (.d (.bool false)), .top, (.ptr 0 0), (.d (.sl (.pair .str (.pair .str (.int .i64))) x0)), (.d (.int .i64 s6)), (.d (.int .i64 s7)), (.d (.bool (decide (s7 < s6)))), (.cptr [(.str (List.getD x0 (Int.toNat s7) (([] : List UInt8), (([] : List UInt8), 0))).1), (.str (List.getD x0 (Int.toNat s7) (([] : List UInt8), (([] : List UInt8), 0))).2.1), (.int .i64 (List.getD x0 (Int.toNat s7) (([] : List UInt8), (([] : List UInt8), 0))).2.2)] 0), (.agg [(.d (.str (List.getD x0 (Int.toNat s7) (([] : List UInt8), (([] : List UInt8), 0))).1)), (.d (.str (List.getD x0 (Int.toNat s7) (([] : List UInt8), (([] : List UInt8), 0))).2.1)), (.d (.int .i64 (List.getD x0 (Int.toNat s7) (([] : List UInt8), (([] : List UInt8), 0))).2.2))]), (.ptr 0 0), (.d (.str (List.getD x0 (Int.toNat s7) (([] : List UInt8), (([] : List UInt8), 0))).1)), (.d (.bool (wordG (List.getD x0 (Int.toNat s7) (([] : List UInt8), (([] : List UInt8), 0))).1))), (.d (.bool (!(wordG (List.getD x0 (Int.toNat s7) (([] : List UInt8), (([] : List UInt8), 0))).1)))), (.d (.bool (!(wordG (List.getD x0 (Int.toNat s7) (([] : List UInt8), (([] : List UInt8), 0))).1)))), (.ptr 0 1), (.d (.str (List.getD x0 (Int.toNat s7) (([] : List UInt8), (([] : List UInt8), 0))).2.1)), (.d (.int .i64 (((List.length (List.getD x0 (Int.toNat s7) (([] : List UInt8), (([] : List UInt8), 0))).2.1) : Nat) : Int))), (.d (.bool (decide ((((List.length (List.getD x0 (Int.toNat s7) (([] : List UInt8), (([] : List UInt8), 0))).2.1) : Nat) : Int) > 24)))), (.d (.bool (decide ((((List.length (List.getD x0 (Int.toNat s7) (([] : List UInt8), (([] : List UInt8), 0))).2.1) : Nat) : Int) > 24)))), (.d (.bool (decide ((((List.length (List.getD x0 (Int.toNat s7) (([] : List UInt8), (([] : List UInt8), 0))).2.1) : Nat) : Int) > 24)))), (.ptr 0 2), (.d (.int .i64 (List.getD x0 (Int.toNat s7) (([] : List UInt8), (([] : List UInt8), 0))).2.2)), (.d (.str ([33, 61] : List UInt8))), (.d (.bool (([33, 61] : List UInt8) == ([] : List UInt8)))), (.d (.bool (([33, 61] : List UInt8) == ([] : List UInt8)))), .top, .top, .top, .top], [(.cells [(.d (.str (List.getD x0 (Int.toNat s7) (([] : List UInt8), (([] : List UInt8), 0))).1)), (.d (.str (List.getD x0 (Int.toNat s7) (([] : List UInt8), (([] : List UInt8), 0))).2.1)), (.d (.int .i64 (List.getD x0 (Int.toNat s7) (([] : List UInt8), (([] : List UInt8), 0))).2.2))])])
  | 4 => (.ret, [(.d (.sl (.pair .str (.pair .str (.int .i64))) x0)), .top, (.d (.bool false)), .top, (.ptr 0 0), (.d (.sl (.pair .str (.pair .str (.int .i64))) x0)), (.d (.int .i64 s6)), (.d (.int .i64 s7)), (.d (.bool (decide (s7 < s6)))), (.cptr [(.str (List.getD x0 (Int.toNat s7) (([] : List UInt8), (([] : List UInt8), 0))).1), (.str (List.getD x0 (Int.toNat s7) (([] : List UInt8), (([] : List UInt8), 0))).2.1), (.int .i64 (List.getD x0 (Int.toNat s7) (([] : List UInt8), (([] : List UInt8), 0))).2.2)] 0), (.agg [(.d (.str (List.getD x0 (Int.toNat s7) (([] : List UInt8), (([] : List UInt8), 0))).1)), (.d (.str (List.getD x0 (Int.toNat s7) (([] : List UInt8), (([] : List UInt8), 0))).2.1)), (.d (.int .i64 (List.getD x0 (Int.toNat s7) (([] : List UInt8), (([] : List UInt8), 0))).2.2))]), (.ptr 0 0), (.d (.str (List.getD x0 (Int.toNat s7) (([] : List UInt8), (([] : List UInt8), 0))).1)), (.d (.bool (wordG (List.getD x0 (Int.toNat s7) (([] : List UInt8), (([] : List UInt8), 0))).1))), (.d (.bool (!(wordG (List.getD x0 (Int.toNat s7) (([] : List UInt8), (([] : List UInt8), 0))).1)))), (.d (.bool (!(wordG (List.getD x0 (Int.toNat s7) (([] : List UInt8), (([] : List UInt8), 0))).1)))), (.ptr 0 1), (.d (.str (List.getD x0 (Int.toNat s7) (([] : List UInt8), (([] : List UInt8), 0))).2.1)), (.d (.int .i64 (((List.length (List.getD x0 (Int.toNat s7) (([] : List UInt8), (([] : List UInt8), 0))).2.1) : Nat) : Int))), (.d (.bool (decide ((((List.length (List.getD x0 (Int.toNat s7) (([] : List UInt8), (([] : List UInt8), 0))).2.1) : Nat) : Int) > 24)))), (.d (.bool (decide ((((List.length (List.getD x0 (Int.toNat s7) (([] : List UInt8), (([] : List UInt8), 0))).2.1) : Nat) : Int) > 24)))), (.d (.bool (decide ((((List.length (List.getD x0 (Int.toNat s7) (([] : List UInt8), (([] : List UInt8), 0))).2.1) : Nat) : Int) > 24)))), (.ptr 0 2), (.d (.int .i64 (List.getD x0 (Int.toNat s7) (([] : List UInt8), (([] : List UInt8), 0))).2.2)), (.d (.str ([94, 61] : List UInt8))), (.d (.bool (([94, 61] : List UInt8) == ([] : List UInt8)))), (.d (.bool (([94, 61] : List UInt8) == ([] : List UInt8)))), .top, .top, .top, .top], [(.cells [(.d (.str (List.getD x0 (Int.toNat s7) (([] : List UInt8), (([] : List UInt8), 0))).1)), (.d (.str (List.getD x0 (Int.toNat s7) (([] : List UInt8), (([] : List UInt8), 0))).2.1)), (.d (.int .i64 (List.getD x0 (Int.toNat s7) (([] : List UInt8), (([] : List UInt8), 0))).2.2))])])
  | 5 => (.ret, [(.d (.sl (.pair .str (.pair .str (.int .i64))) x0)), .top, (.d (.bool false)), .top, (.ptr 0 0), (.d (.sl (.pair .str (.pair .str (.int .i64))) x0)), (.d (.int .i64 s6)), (.d (.int .i64 s7)), (.d (.bool (decide (s7 < s6)))), (.cptr [(.str (List.getD x0 (Int.toNat s7) (([] : List UInt8), (([] : List UInt8), 0))).1), (.str (List.getD x0 (Int.toNat s7) (([] : List UInt8), (([] : List UInt8), 0))).2.1), (.int .i64 (List.getD x0 (Int.toNat s7) (([] : List UInt8), (([] : List UInt8), 0))).2.2)] 0), (.agg [(.d (.str (List.getD x0 (Int.toNat s7) (([] : List UInt8), (([] : List UInt8), 0))).1)), (.d (.str (List.getD x0 (Int.toNat s7) (([] : List UInt8), (([] : List UInt8), 0))).2.1)), (.d (.int .i64 (List.getD x0 (Int.toNat s7) (([] : List UInt8), (([] : List UInt8), 0))).2.2))]), (.ptr 0 0), (.d (.str (List.getD x0 (Int.toNat s7) (([] : List UInt8), (([] : List UInt8), 0))).1)), (.d (.bool (wordG (List.getD x0 (Int.toNat s7) (([] : List UInt8), (([] : List UInt8), 0))).1))), (.d (.bool (!(wordG (List.getD x0 (Int.toNat s7) (([] : List UInt8), (([] : List UInt8), 0))).1)))), (.d (.bool (!(wordG (List.getD x0 (Int.toNat s7) (([] : List UInt8), (([] : List UInt8), 0))).1)))), (.ptr 0 1), (.d (.str (List.getD x0 (Int.toNat s7) (([] : List UInt8), (([] : List UInt8), 0))).2.1)), (.d (.int .i64 (((List.length (List.getD x0 (Int.toNat s7) (([] : List UInt8), (([] : List UInt8), 0))).2.1) : Nat) : Int))), (.d (.bool (decide ((((List.length (List.getD x0 (Int.toNat s7) (([] : List UInt8), (([] : List UInt8), 0))).2.1) : Nat) : Int) > 24)))), (.d (.bool (decide ((((List.length (List.getD x0 (Int.toNat s7) (([] : List UInt8), (([] : List UInt8), 0))).2.1) : Nat) : Int) > 24)))), (.d (.bool (decide ((((List.length (List.getD x0 (Int.toNat s7) (([] : List UInt8), (([] : List UInt8), 0))).2.1) : Nat) : Int) > 24)))), (.ptr 0 2), (.d (.int .i64 (List.getD x0 (Int.toNat s7) (([] : List UInt8), (([] : List UInt8), 0))).2.2)), (.d (.str ([33, 94] : List UInt8))), (.d (.bool (([33, 94] : List UInt8) == ([] : List UInt8)))), (.d (.bool (([33, 94] : List UInt8) == ([] : List UInt8)))), .top, .top, .top, .top], [(.cells [(.d (.str (List.getD x0 (Int.toNat s7) (([] : List UInt8), (([] : List UInt8), 0))).1)), (.d (.str (List.getD x0 (Int.toNat s7) (([] : List UInt8), (([] : List UInt8), 0))).2.1)), (.d (.int .i64 (List.getD x0 (Int.toNat s7) (([] : List UInt8), (([] : List UInt8), 0))).2.2))])])
  | 6 => (.ret, [(.d (.sl (.pair .str (.pair .str (.int .i64))) x0)), .top, (.d (.bool false)), .top, (.ptr 0 0), (.d (.sl (.pair .str (.pair .str (.int .i64))) x0)), (.d (.int .i64 s6)), (.d (.int .i64 s7)), (.d (.bool (decide (s7 < s6)))), (.cptr [(.str (List.getD x0 (Int.toNat s7) (([] : List UInt8), (([] : List UInt8), 0))).1), (.str (List.getD x0 (Int.toNat s7) (([] : List UInt8), (([] : List UInt8), 0))).2.1), (.int .i64 (List.getD x0 (Int.toNat s7) (([] : List UInt8), (([] : List UInt8), 0))).2.2)] 0), (.agg [(.d (.str (List.getD x0 (Int.toNat s7) (([] : List UInt8), (([] : List UInt8), 0))).1)), (.d (.str (List.getD x0 (Int.toNat s7) (([] : List UInt8), (([] : List UInt8), 0))).2.1)), (.d (.int .i64 (List.getD x0 (Int.toNat s7) (([] : List UInt8), (([] : List UInt8), 0))).2.2))]), (.ptr 0 0), (.d (.str (List.getD x0 (Int.toNat s7) (([] : List UInt8), (([] : List UInt8), 0))).1)), (.d (.bool (wordG (List.getD x0 (Int.toNat s7) (([] : List UInt8), (([] : List UInt8), 0))).1))), (.d (.bool (!(wordG (List.getD x0 (Int.toNat s7) (([] : List UInt8), (([] : List UInt8), 0))).1)))), (.d (.bool (!(wordG (List.getD x0 (Int.toNat s7) (([] : List UInt8), (([] : List UInt8), 0))).1)))), (.ptr 0 1), (.d (.str (List.getD x0 (Int.toNat s7) (([] : List UInt8), (([] : List UInt8), 0))).2.1)), (.d (.int .i64 (((List.length (List.getD x0 (Int.toNat s7) (([] : List UInt8), (([] : List UInt8), 0))).2.1) : Nat) : Int))), (.d (.bool (decide ((((List.length (List.getD x0 (Int.toNat s7) (([] : List UInt8), (([] : List UInt8), 0))).2.1) : Nat) : Int) > 24)))), (.d (.bool (decide ((((List.length (List.getD x0 (Int.toNat s7) (([] : List UInt8), (([] : List UInt8), 0))).2.1) : Nat) : Int) > 24)))), (.d (.bool (decide ((((List.length (List.getD x0 (Int.toNat s7) (([] : List UInt8), (([] : List UInt8), 0))).2.1) : Nat) : Int) > 24)))), (.ptr 0 2), (.d (.int .i64 (List.getD x0 (Int.toNat s7) (([] : List UInt8), (([] : List UInt8), 0))).2.2)), (.d (.str ([] : List UInt8))), (.d (.bool (([] : List UInt8) == ([] : List UInt8)))), (.d (.bool (([] : List UInt8) == ([] : List UInt8)))), .top, .top, .top, .top], [(.cells [(.d (.str (List.getD x0 (Int.toNat s7) (([] : List UInt8), (([] : List UInt8), 0))).1)), (.d (.str (List.getD x0 (Int.toNat s7) (([] : List UInt8), (([] : List UInt8), 0))).2.1)), (.d (.int .i64 (List.getD x0 (Int.toNat s7) (([] : List UInt8), (([] : List UInt8), 0))).2.2))])])
  | _ => (.exit 0, [(.d (.sl (.pair .str (.pair .str (.int .i64))) x0)), .top, .top, .top, .top, (.d (.sl (.pair .str (.pair .str (.int .i64))) x0)), (.d (.int .i64 s6)), (.d (.int .i64 s7)), (.d (.bool (decide (s7 < s6)))), .top, .top, .top, .top, .top, .top, .top, .top, .top, .top, .top, .top, .top, .top, .top, .top, .top, .top, .top, .top, .top, .top], [])
noncomputable def lbl26_0 : AC := loopBody 225 body26

set_option maxHeartbeats 20000000 in
theorem l26_0_w0 (m n : Nat) (x0 : List ((List UInt8) × (List UInt8) × Int)) (s6 : Int) (s7 : Int) (c0 : decide (s7 < s6) = true) (c1 : decide (0 ≤ s7) = true) (c2 : decide (s7 < (((List.length x0) : Nat) : Int)) = true) (c3 : decide (List.length (List.getD x0 (Int.toNat s7) (([] : List UInt8), (([] : List UInt8), 0))).1 ≤ 9223372036854775807) = true) (c4 : (wordG (List.getD x0 (Int.toNat s7) (([] : List UInt8), (([] : List UInt8), 0))).1) = true) (c9 : decide ((((List.length (List.getD x0 (Int.toNat s7) (([] : List UInt8), (([] : List UInt8), 0))).2.1) : Nat) : Int) > 24) = true) : (turns (hds 26 225) 0 225 (evC byref (evCall F S12 (m + 24)) (m + 24) 0 (hds 26) lbl26_0) (n + 1) (l26_0H x0 s6 s7) (l26_0B x0 s6 s7)).run = some (let r1 := (wordG (List.getD x0 (Int.toNat s7) (([] : List UInt8), (([] : List UInt8), 0))).1); (.ret, [(.d (.sl (.pair .str (.pair .str (.int .i64))) x0)), .top, (.d (.bool false)), .top, (.ptr 0 0), (.d (.sl (.pair .str (.pair .str (.int .i64))) x0)), (.d (.int .i64 s6)), (.d (.int .i64 s7)), (.d (.bool (decide (s7 < s6)))), (.cptr [(.str (List.getD x0 (Int.toNat s7) (([] : List UInt8), (([] : List UInt8), 0))).1), (.str (List.getD x0 (Int.toNat s7) (([] : List UInt8), (([] : List UInt8), 0))).2.1), (.int .i64 (List.getD x0 (Int.toNat s7) (([] : List UInt8), (([] : List UInt8), 0))).2.2)] 0), (.agg [(.d (.str (List.getD x0 (Int.toNat s7) (([] : List UInt8), (([] : List UInt8), 0))).1)), (.d (.str (List.getD x0 (Int.toNat s7) (([] : List UInt8), (([] : List UInt8), 0))).2.1)), (.d (.int .i64 (List.getD x0 (Int.toNat s7) (([] : List UInt8), (([] : List UInt8), 0))).2.2))]), (.ptr 0 0), (.d (.str (List.getD x0 (Int.toNat s7) (([] : List UInt8), (([] : List UInt8), 0))).1)), (.d (.bool r1)), (.d (.bool (!r1))), (.d (.bool (!r1))), (.ptr 0 1), (.d (.str (List.getD x0 (Int.toNat s7) (([] : List UInt8), (([] : List UInt8), 0))).2.1)), (.d (.int .i64 (((List.length (List.getD x0 (Int.toNat s7) (([] : List UInt8), (([] : List UInt8), 0))).2.1) : Nat) : Int))), (.d (.bool (decide ((((List.length (List.getD x0 (Int.toNat s7) (([] : List UInt8), (([] : List UInt8), 0))).2.1) : Nat) : Int) > 24)))), (.d (.bool (decide ((((List.length (List.getD x0 (Int.toNat s7) (([] : List UInt8), (([] : List UInt8), 0))).2.1) : Nat) : Int) > 24)))), (.d (.bool (decide ((((List.length (List.getD x0 (Int.toNat s7) (([] : List UInt8), (([] : List UInt8), 0))).2.1) : Nat) : Int) > 24)))), (.tup []), (.tup []), (.tup []), (.tup []), (.d (.bool true)), .top, .top, .top, .top], [(.cells [(.d (.str (List.getD x0 (Int.toNat s7) (([] : List UInt8), (([] : List UInt8), 0))).1)), (.d (.str (List.getD x0 (Int.toNat s7) (([] : List UInt8), (([] : List UInt8), 0))).2.1)), (.d (.int .i64 (List.getD x0 (Int.toNat s7) (([] : List UInt8), (([] : List UInt8), 0))).2.2))])])) := by
  exact turns_last (by simp) (M.run_of_path _ [true, true, true, true, false, false, false, false, false, true, true, true, true, true, true] _ _ (by kernel_rfl) (all_t c0 (all_t c1 (all_t c2 (all_t c3 (all_nt c4 (all_nt c4 (all_nt c4 (all_nt c4 (all_nt c4 (all_t c9 (all_t c9 (all_t c9 (all_t c9 (all_t c9 (all_t rfl all_nil)))))))))))))))) 
set_option maxHeartbeats 20000000 in
theorem l26_0_w1 (m n : Nat) (x0 : List ((List UInt8) × (List UInt8) × Int)) (s6 : Int) (s7 : Int) (c0 : decide (s7 < s6) = true) (c1 : decide (0 ≤ s7) = true) (c2 : decide (s7 < (((List.length x0) : Nat) : Int)) = true) (c3 : decide (List.length (List.getD x0 (Int.toNat s7) (([] : List UInt8), (([] : List UInt8), 0))).1 ≤ 9223372036854775807) = true) (c4 : (wordG (List.getD x0 (Int.toNat s7) (([] : List UInt8), (([] : List UInt8), 0))).1) = true) (c9 : ¬ decide ((((List.length (List.getD x0 (Int.toNat s7) (([] : List UInt8), (([] : List UInt8), 0))).2.1) : Nat) : Int) > 24) = true) (c12 : ((List.getD x0 (Int.toNat s7) (([] : List UInt8), (([] : List UInt8), 0))).2.2 == (1)) = true) (c15 : (([61] : List UInt8) == ([] : List UInt8)) = true) : (turns (hds 26 225) 0 225 (evC byref (evCall F S12 (m + 24)) (m + 24) 0 (hds 26) lbl26_0) (n + 1) (l26_0H x0 s6 s7) (l26_0B x0 s6 s7)).run = some (let r1 := (wordG (List.getD x0 (Int.toNat s7) (([] : List UInt8), (([] : List UInt8), 0))).1); (.ret, [(.d (.sl (.pair .str (.pair .str (.int .i64))) x0)), .top, (.d (.bool false)), .top, (.ptr 0 0), (.d (.sl (.pair .str (.pair .str (.int .i64))) x0)), (.d (.int .i64 s6)), (.d (.int .i64 s7)), (.d (.bool (decide (s7 < s6)))), (.cptr [(.str (List.getD x0 (Int.toNat s7) (([] : List UInt8), (([] : List UInt8), 0))).1), (.str (List.getD x0 (Int.toNat s7) (([] : List UInt8), (([] : List UInt8), 0))).2.1), (.int .i64 (List.getD x0 (Int.toNat s7) (([] : List UInt8), (([] : List UInt8), 0))).2.2)] 0), (.agg [(.d (.str (List.getD x0 (Int.toNat s7) (([] : List UInt8), (([] : List UInt8), 0))).1)), (.d (.str (List.getD x0 (Int.toNat s7) (([] : List UInt8), (([] : List UInt8), 0))).2.1)), (.d (.int .i64 (List.getD x0 (Int.toNat s7) (([] : List UInt8), (([] : List UInt8), 0))).2.2))]), (.ptr 0 0), (.d (.str (List.getD x0 (Int.toNat s7) (([] : List UInt8), (([] : List UInt8), 0))).1)), (.d (.bool r1)), (.d (.bool (!r1))), (.d (.bool (!r1))), (.ptr 0 1), (.d (.str (List.getD x0 (Int.toNat s7) (([] : List UInt8), (([] : List UInt8), 0))).2.1)), (.d (.int .i64 (((List.length (List.getD x0 (Int.toNat s7) (([] : List UInt8), (([] : List UInt8), 0))).2.1) : Nat) : Int))), (.d (.bool (decide ((((List.length (List.getD x0 (Int.toNat s7) (([] : List UInt8), (([] : List UInt8), 0))).2.1) : Nat) : Int) > 24)))), (.d (.bool (decide ((((List.length (List.getD x0 (Int.toNat s7) (([] : List UInt8), (([] : List UInt8), 0))).2.1) : Nat) : Int) > 24)))), (.d (.bool (decide ((((List.length (List.getD x0 (Int.toNat s7) (([] : List UInt8), (([] : List UInt8), 0))).2.1) : Nat) : Int) > 24)))), (.ptr 0 2), (.d (.int .i64 (List.getD x0 (Int.toNat s7) (([] : List UInt8), (([] : List UInt8), 0))).2.2)), (.d (.str ([61] : List UInt8))), (.d (.bool (([61] : List UInt8) == ([] : List UInt8)))), (.d (.bool (([61] : List UInt8) == ([] : List UInt8)))), .top, .top, .top, .top], [(.cells [(.d (.str (List.getD x0 (Int.toNat s7) (([] : List UInt8), (([] : List UInt8), 0))).1)), (.d (.str (List.getD x0 (Int.toNat s7) (([] : List UInt8), (([] : List UInt8), 0))).2.1)), (.d (.int .i64 (List.getD x0 (Int.toNat s7) (([] : List UInt8), (([] : List UInt8), 0))).2.2))])])) := by
  exact turns_last (by simp) (M.run_of_path _ [true, true, true, true, false, false, false, false, false, false, false, false, true, false, false, true] _ _ (by kernel_rfl) (all_t c0 (all_t c1 (all_t c2 (all_t c3 (all_nt c4 (all_nt c4 (all_nt c4 (all_nt c4 (all_nt c4 (all_f c9 (all_f c9 (all_f c9 (all_t c12 (all_f c9 (all_f c9 (all_t c15 all_nil))))))))))))))))) 
set_option maxHeartbeats 20000000 in
theorem l26_0_w2 (m n : Nat) (x0 : List ((List UInt8) × (List UInt8) × Int)) (s6 : Int) (s7 : Int) (r : AEx × Env × Boxes) (c0 : decide (s7 < s6) = true) (c1 : decide (0 ≤ s7) = true) (c2 : decide (s7 < (((List.length x0) : Nat) : Int)) = true) (c3 : decide (List.length (List.getD x0 (Int.toNat s7) (([] : List UInt8), (([] : List UInt8), 0))).1 ≤ 9223372036854775807) = true) (c4 : (wordG (List.getD x0 (Int.toNat s7) (([] : List UInt8), (([] : List UInt8), 0))).1) = true) (c9 : ¬ decide ((((List.length (List.getD x0 (Int.toNat s7) (([] : List UInt8), (([] : List UInt8), 0))).2.1) : Nat) : Int) > 24) = true) (c12 : ((List.getD x0 (Int.toNat s7) (([] : List UInt8), (([] : List UInt8), 0))).2.2 == (1)) = true) (c15 : ¬ (([61] : List UInt8) == ([] : List UInt8)) = true) (ih : (turns (hds 26 225) 0 225 (evC byref (evCall F S12 (m + 24)) (m + 24) 0 (hds 26) lbl26_0) n (l26_0H x0 s6 ((IntKind.wrap .i64 (s7 + (1))))) (l26_0B x0 s6 ((IntKind.wrap .i64 (s7 + (1)))))).run = some r) : (turns (hds 26 225) 0 225 (evC byref (evCall F S12 (m + 24)) (m + 24) 0 (hds 26) lbl26_0) (n + 1) (l26_0H x0 s6 s7) (l26_0B x0 s6 s7)).run = some r := by
  exact turns_step (M.run_of_path _ [true, true, true, true, false, false, false, false, false, false, false, false, true, false, false, false] _ _ (by kernel_rfl) (all_t c0 (all_t c1 (all_t c2 (all_t c3 (all_nt c4 (all_nt c4 (all_nt c4 (all_nt c4 (all_nt c4 (all_f c9 (all_f c9 (all_f c9 (all_t c12 (all_f c9 (all_f c9 (all_f c15 all_nil))))))))))))))))) ih
set_option maxHeartbeats 20000000 in
theorem l26_0_w3 (m n : Nat) (x0 : List ((List UInt8) × (List UInt8) × Int)) (s6 : Int) (s7 : Int) (c0 : decide (s7 < s6) = true) (c1 : decide (0 ≤ s7) = true) (c2 : decide (s7 < (((List.length x0) : Nat) : Int)) = true) (c3 : decide (List.length (List.getD x0 (Int.toNat s7) (([] : List UInt8), (([] : List UInt8), 0))).1 ≤ 9223372036854775807) = true) (c4 : (wordG (List.getD x0 (Int.toNat s7) (([] : List UInt8), (([] : List UInt8), 0))).1) = true) (c9 : ¬ decide ((((List.length (List.getD x0 (Int.toNat s7) (([] : List UInt8), (([] : List UInt8), 0))).2.1) : Nat) : Int) > 24) = true) (c12 : ¬ ((List.getD x0 (Int.toNat s7) (([] : List UInt8), (([] : List UInt8), 0))).2.2 == (1)) = true) (c13 : ((List.getD x0 (Int.toNat s7) (([] : List UInt8), (([] : List UInt8), 0))).2.2 == (2)) = true) (c16 : (([33, 61] : List UInt8) == ([] : List UInt8)) = true) : (turns (hds 26 225) 0 225 (evC byref (evCall F S12 (m + 24)) (m + 24) 0 (hds 26) lbl26_0) (n + 1) (l26_0H x0 s6 s7) (l26_0B x0 s6 s7)).run = some (let r1 := (wordG (List.getD x0 (Int.toNat s7) (([] : List UInt8), (([] : List UInt8), 0))).1); (.ret, [(.d (.sl (.pair .str (.pair .str (.int .i64))) x0)), .top, (.d (.bool false)), .top, (.ptr 0 0), (.d (.sl (.pair .str (.pair .str (.int .i64))) x0)), (.d (.int .i64 s6)), (.d (.int .i64 s7)), (.d (.bool (decide (s7 < s6)))), (.cptr [(.str (List.getD x0 (Int.toNat s7) (([] : List UInt8), (([] : List UInt8), 0))).1), (.str (List.getD x0 (Int.toNat s7) (([] : List UInt8), (([] : List UInt8), 0))).2.1), (.int .i64 (List.getD x0 (Int.toNat s7) (([] : List UInt8), (([] : List UInt8), 0))).2.2)] 0), (.agg [(.d (.str (List.getD x0 (Int.toNat s7) (([] : List UInt8), (([] : List UInt8), 0))).1)), (.d (.str (List.getD x0 (Int.toNat s7) (([] : List UInt8), (([] : List UInt8), 0))).2.1)), (.d (.int .i64 (List.getD x0 (Int.toNat s7) (([] : List UInt8), (([] : List UInt8), 0))).2.2))]), (.ptr 0 0), (.d (.str (List.getD x0 (Int.toNat s7) (([] : List UInt8), (([] : List UInt8), 0))).1)), (.d (.bool r1)), (.d (.bool (!r1))), (.d (.bool (!r1))), (.ptr 0 1), (.d (.str (List.getD x0 (Int.toNat s7) (([] : List UInt8), (([] : List UInt8), 0))).2.1)), (.d (.int .i64 (((List.length (List.getD x0 (Int.toNat s7) (([] : List UInt8), (([] : List UInt8), 0))).2.1) : Nat) : Int))), (.d (.bool (decide ((((List.length (List.getD x0 (Int.toNat s7) (([] : List UInt8), (([] : List UInt8), 0))).2.1) : Nat) : Int) > 24)))), (.d (.bool (decide ((((List.length (List.getD x0 (Int.toNat s7) (([] : List UInt8), (([] : List UInt8), 0))).2.1) : Nat) : Int) > 24)))), (.d (.bool (decide ((((List.length (List.getD x0 (Int.toNat s7) (([] : List UInt8), (([] : List UInt8), 0))).2.1) : Nat) : Int) > 24)))), (.ptr 0 2), (.d (.int .i64 (List.getD x0 (Int.toNat s7) (([] : List UInt8), (([] : List UInt8), 0))).2.2)), (.d (.str ([33, 61] : List UInt8))), (.d (.bool (([33, 61] : List UInt8) == ([] : List UInt8)))), (.d (.bool (([33, 61] : List UInt8) == ([] : List UInt8)))), .top, .top, .top, .top], [(.cells [(.d (.str (List.getD x0 (Int.toNat s7) (([] : List UInt8), (([] : List UInt8), 0))).1)), (.d (.str (List.getD x0 (Int.toNat s7) (([] : List UInt8), (([] : List UInt8), 0))).2.1)), (.d (.int .i64 (List.getD x0 (Int.toNat s7) (([] : List UInt8), (([] : List UInt8), 0))).2.2))])])) := by
  exact turns_last (by simp) (M.run_of_path _ [true, true, true, true, false, false, false, false, false, false, false, false, false, true, false, false, true] _ _ (by kernel_rfl) (all_t c0 (all_t c1 (all_t c2 (all_t c3 (all_nt c4 (all_nt c4 (all_nt c4 (all_nt c4 (all_nt c4 (all_f c9 (all_f c9 (all_f c9 (all_f c12 (all_t c13 (all_f c9 (all_f c9 (all_t c16 all_nil)))))))))))))))))) 
set_option maxHeartbeats 20000000 in
theorem l26_0_w4 (m n : Nat) (x0 : List ((List UInt8) × (List UInt8) × Int)) (s6 : Int) (s7 : Int) (r : AEx × Env × Boxes) (c0 : decide (s7 < s6) = true) (c1 : decide (0 ≤ s7) = true) (c2 : decide (s7 < (((List.length x0) : Nat) : Int)) = true) (c3 : decide (List.length (List.getD x0 (Int.toNat s7) (([] : List UInt8), (([] : List UInt8), 0))).1 ≤ 9223372036854775807) = true) (c4 : (wordG (List.getD x0 (Int.toNat s7) (([] : List UInt8), (([] : List UInt8), 0))).1) = true) (c9 : ¬ decide ((((List.length (List.getD x0 (Int.toNat s7) (([] : List UInt8), (([] : List UInt8), 0))).2.1) : Nat) : Int) > 24) = true) (c12 : ¬ ((List.getD x0 (Int.toNat s7) (([] : List UInt8), (([] : List UInt8), 0))).2.2 == (1)) = true) (c13 : ((List.getD x0 (Int.toNat s7) (([] : List UInt8), (([] : List UInt8), 0))).2.2 == (2)) = true) (c16 : ¬ (([33, 61] : List UInt8) == ([] : List UInt8)) = true) (ih : (turns (hds 26 225) 0 225 (evC byref (evCall F S12 (m + 24)) (m + 24) 0 (hds 26) lbl26_0) n (l26_0H x0 s6 ((IntKind.wrap .i64 (s7 + (1))))) (l26_0B x0 s6 ((IntKind.wrap .i64 (s7 + (1)))))).run = some r) : (turns (hds 26 225) 0 225 (evC byref (evCall F S12 (m + 24)) (m + 24) 0 (hds 26) lbl26_0) (n + 1) (l26_0H x0 s6 s7) (l26_0B x0 s6 s7)).run = some r := by
  exact turns_step (M.run_of_path _ [true, true, true, true, false, false, false, false, false, false, false, false, false, true, false, false, false] _ _ (by kernel_rfl) (all_t c0 (all_t c1 (all_t c2 (all_t c3 (all_nt c4 (all_nt c4 (all_nt c4 (all_nt c4 (all_nt c4 (all_f c9 (all_f c9 (all_f c9 (all_f c12 (all_t c13 (all_f c9 (all_f c9 (all_f c16 all_nil)))))))))))))))))) ih
set_option maxHeartbeats 20000000 in
theorem l26_0_w5 (m n : Nat) (x0 : List ((List UInt8) × (List UInt8) × Int)) (s6 : Int) (s7 : Int) (c0 : decide (s7 < s6) = true) (c1 : decide (0 ≤ s7) = true) (c2 : decide (s7 < (((List.length x0) : Nat) : Int)) = true) (c3 : decide (List.length (List.getD x0 (Int.toNat s7) (([] : List UInt8), (([] : List UInt8), 0))).1 ≤ 9223372036854775807) = true) (c4 : (wordG (List.getD x0 (Int.toNat s7) (([] : List UInt8), (([] : List UInt8), 0))).1) = true) (c9 : ¬ decide ((((List.length (List.getD x0 (Int.toNat s7) (([] : List UInt8), (([] : List UInt8), 0))).2.1) : Nat) : Int) > 24) = true) (c12 : ¬ ((List.getD x0 (Int.toNat s7) (([] : List UInt8), (([] : List UInt8), 0))).2.2 == (1)) = true) (c13 : ¬ ((List.getD x0 (Int.toNat s7) (([] : List UInt8), (([] : List UInt8), 0))).2.2 == (2)) = true) (c14 : ((List.getD x0 (Int.toNat s7) (([] : List UInt8), (([] : List UInt8), 0))).2.2 == (3)) = true) (c17 : (([94, 61] : List UInt8) == ([] : List UInt8)) = true) : (turns (hds 26 225) 0 225 (evC byref (evCall F S12 (m + 24)) (m + 24) 0 (hds 26) lbl26_0) (n + 1) (l26_0H x0 s6 s7) (l26_0B x0 s6 s7)).run = some (let r1 := (wordG (List.getD x0 (Int.toNat s7) (([] : List UInt8), (([] : List UInt8), 0))).1); (.ret, [(.d (.sl (.pair .str (.pair .str (.int .i64))) x0)), .top, (.d (.bool false)), .top, (.ptr 0 0), (.d (.sl (.pair .str (.pair .str (.int .i64))) x0)), (.d (.int .i64 s6)), (.d (.int .i64 s7)), (.d (.bool (decide (s7 < s6)))), (.cptr [(.str (List.getD x0 (Int.toNat s7) (([] : List UInt8), (([] : List UInt8), 0))).1), (.str (List.getD x0 (Int.toNat s7) (([] : List UInt8), (([] : List UInt8), 0))).2.1), (.int .i64 (List.getD x0 (Int.toNat s7) (([] : List UInt8), (([] : List UInt8), 0))).2.2)] 0), (.agg [(.d (.str (List.getD x0 (Int.toNat s7) (([] : List UInt8), (([] : List UInt8), 0))).1)), (.d (.str (List.getD x0 (Int.toNat s7) (([] : List UInt8), (([] : List UInt8), 0))).2.1)), (.d (.int .i64 (List.getD x0 (Int.toNat s7) (([] : List UInt8), (([] : List UInt8), 0))).2.2))]), (.ptr 0 0), (.d (.str (List.getD x0 (Int.toNat s7) (([] : List UInt8), (([] : List UInt8), 0))).1)), (.d (.bool r1)), (.d (.bool (!r1))), (.d (.bool (!r1))), (.ptr 0 1), (.d (.str (List.getD x0 (Int.toNat s7) (([] : List UInt8), (([] : List UInt8), 0))).2.1)), (.d (.int .i64 (((List.length (List.getD x0 (Int.toNat s7) (([] : List UInt8), (([] : List UInt8), 0))).2.1) : Nat) : Int))), (.d (.bool (decide ((((List.length (List.getD x0 (Int.toNat s7) (([] : List UInt8), (([] : List UInt8), 0))).2.1) : Nat) : Int) > 24)))), (.d (.bool (decide ((((List.length (List.getD x0 (Int.toNat s7) (([] : List UInt8), (([] : List UInt8), 0))).2.1) : Nat) : Int) > 24)))), (.d (.bool (decide ((((List.length (List.getD x0 (Int.toNat s7) (([] : List UInt8), (([] : List UInt8), 0))).2.1) : Nat) : Int) > 24)))), (.ptr 0 2), (.d (.int .i64 (List.getD x0 (Int.toNat s7) (([] : List UInt8), (([] : List UInt8), 0))).2.2)), (.d (.str ([94, 61] : List UInt8))), (.d (.bool (([94, 61] : List UInt8) == ([] : List UInt8)))), (.d (.bool (([94, 61] : List UInt8) == ([] : List UInt8)))), .top, .top, .top, .top], [(.cells [(.d (.str (List.getD x0 (Int.toNat s7) (([] : List UInt8), (([] : List UInt8), 0))).1)), (.d (.str (List.getD x0 (Int.toNat s7) (([] : List UInt8), (([] : List UInt8), 0))).2.1)), (.d (.int .i64 (List.getD x0 (Int.toNat s7) (([] : List UInt8), (([] : List UInt8), 0))).2.2))])])) := by
  exact turns_last (by simp) (M.run_of_path _ [true, true, true, true, false, false, false, false, false, false, false, false, false, false, true, false, false, true] _ _ (by kernel_rfl) (all_t c0 (all_t c1 (all_t c2 (all_t c3 (all_nt c4 (all_nt c4 (all_nt c4 (all_nt c4 (all_nt c4 (all_f c9 (all_f c9 (all_f c9 (all_f c12 (all_f c13 (all_t c14 (all_f c9 (all_f c9 (all_t c17 all_nil))))))))))))))))))) 
set_option maxHeartbeats 20000000 in
theorem l26_0_w6 (m n : Nat) (x0 : List ((List UInt8) × (List UInt8) × Int)) (s6 : Int) (s7 : Int) (r : AEx × Env × Boxes) (c0 : decide (s7 < s6) = true) (c1 : decide (0 ≤ s7) = true) (c2 : decide (s7 < (((List.length x0) : Nat) : Int)) = true) (c3 : decide (List.length (List.getD x0 (Int.toNat s7) (([] : List UInt8), (([] : List UInt8), 0))).1 ≤ 9223372036854775807) = true) (c4 : (wordG (List.getD x0 (Int.toNat s7) (([] : List UInt8), (([] : List UInt8), 0))).1) = true) (c9 : ¬ decide ((((List.length (List.getD x0 (Int.toNat s7) (([] : List UInt8), (([] : List UInt8), 0))).2.1) : Nat) : Int) > 24) = true) (c12 : ¬ ((List.getD x0 (Int.toNat s7) (([] : List UInt8), (([] : List UInt8), 0))).2.2 == (1)) = true) (c13 : ¬ ((List.getD x0 (Int.toNat s7) (([] : List UInt8), (([] : List UInt8), 0))).2.2 == (2)) = true) (c14 : ((List.getD x0 (Int.toNat s7) (([] : List UInt8), (([] : List UInt8), 0))).2.2 == (3)) = true) (c17 : ¬ (([94, 61] : List UInt8) == ([] : List UInt8)) = true) (ih : (turns (hds 26 225) 0 225 (evC byref (evCall F S12 (m + 24)) (m + 24) 0 (hds 26) lbl26_0) n (l26_0H x0 s6 ((IntKind.wrap .i64 (s7 + (1))))) (l26_0B x0 s6 ((IntKind.wrap .i64 (s7 + (1)))))).run = some r) : (turns (hds 26 225) 0 225 (evC byref (evCall F S12 (m + 24)) (m + 24) 0 (hds 26) lbl26_0) (n + 1) (l26_0H x0 s6 s7) (l26_0B x0 s6 s7)).run = some r := by
  exact turns_step (M.run_of_path _ [true, true, true, true, false, false, false, false, false, false, false, false, false, false, true, false, false, false] _ _ (by kernel_rfl) (all_t c0 (all_t c1 (all_t c2 (all_t c3 (all_nt c4 (all_nt c4 (all_nt c4 (all_nt c4 (all_nt c4 (all_f c9 (all_f c9 (all_f c9 (all_f c12 (all_f c13 (all_t c14 (all_f c9 (all_f c9 (all_f c17 all_nil))))))))))))))))))) ih
set_option maxHeartbeats 20000000 in
theorem l26_0_w7 (m n : Nat) (x0 : List ((List UInt8) × (List UInt8) × Int)) (s6 : Int) (s7 : Int) (c0 : decide (s7 < s6) = true) (c1 : decide (0 ≤ s7) = true) (c2 : decide (s7 < (((List.length x0) : Nat) : Int)) = true) (c3 : decide (List.length (List.getD x0 (Int.toNat s7) (([] : List UInt8), (([] : List UInt8), 0))).1 ≤ 9223372036854775807) = true) (c4 : (wordG (List.getD x0 (Int.toNat s7) (([] : List UInt8), (([] : List UInt8), 0))).1) = true) (c9 : ¬ decide ((((List.length (List.getD x0 (Int.toNat s7) (([] : List UInt8), (([] : List UInt8), 0))).2.1) : Nat) : Int) > 24) = true) (c12 : ¬ ((List.getD x0 (Int.toNat s7) (([] : List UInt8), (([] : List UInt8), 0))).2.2 == (1)) = true) (c13 : ¬ ((List.getD x0 (Int.toNat s7) (([] : List UInt8), (([] : List UInt8), 0))).2.2 == (2)) = true) (c14 : ¬ ((List.getD x0 (Int.toNat s7) (([] : List UInt8), (([] : List UInt8), 0))).2.2 == (3)) = true) (c15 : ((List.getD x0 (Int.toNat s7) (([] : List UInt8), (([] : List UInt8), 0))).2.2 == (4)) = true) (c18 : (([33, 94] : List UInt8) == ([] : List UInt8)) = true) : (turns (hds 26 225) 0 225 (evC byref (evCall F S12 (m + 24)) (m + 24) 0 (hds 26) lbl26_0) (n + 1) (l26_0H x0 s6 s7) (l26_0B x0 s6 s7)).run = some (let r1 := (wordG (List.getD x0 (Int.toNat s7) (([] : List UInt8), (([] : List UInt8), 0))).1); (.ret, [(.d (.sl (.pair .str (.pair .str (.int .i64))) x0)), .top, (.d (.bool false)), .top, (.ptr 0 0), (.d (.sl (.pair .str (.pair .str (.int .i64))) x0)), (.d (.int .i64 s6)), (.d (.int .i64 s7)), (.d (.bool (decide (s7 < s6)))), (.cptr [(.str (List.getD x0 (Int.toNat s7) (([] : List UInt8), (([] : List UInt8), 0))).1), (.str (List.getD x0 (Int.toNat s7) (([] : List UInt8), (([] : List UInt8), 0))).2.1), (.int .i64 (List.getD x0 (Int.toNat s7) (([] : List UInt8), (([] : List UInt8), 0))).2.2)] 0), (.agg [(.d (.str (List.getD x0 (Int.toNat s7) (([] : List UInt8), (([] : List UInt8), 0))).1)), (.d (.str (List.getD x0 (Int.toNat s7) (([] : List UInt8), (([] : List UInt8), 0))).2.1)), (.d (.int .i64 (List.getD x0 (Int.toNat s7) (([] : List UInt8), (([] : List UInt8), 0))).2.2))]), (.ptr 0 0), (.d (.str (List.getD x0 (Int.toNat s7) (([] : List UInt8), (([] : List UInt8), 0))).1)), (.d (.bool r1)), (.d (.bool (!r1))), (.d (.bool (!r1))), (.ptr 0 1), (.d (.str (List.getD x0 (Int.toNat s7) (([] : List UInt8), (([] : List UInt8), 0))).2.1)), (.d (.int .i64 (((List.length (List.getD x0 (Int.toNat s7) (([] : List UInt8), (([] : List UInt8), 0))).2.1) : Nat) : Int))), (.d (.bool (decide ((((List.length (List.getD x0 (Int.toNat s7) (([] : List UInt8), (([] : List UInt8), 0))).2.1) : Nat) : Int) > 24)))), (.d (.bool (decide ((((List.length (List.getD x0 (Int.toNat s7) (([] : List UInt8), (([] : List UInt8), 0))).2.1) : Nat) : Int) > 24)))), (.d (.bool (decide ((((List.length (List.getD x0 (Int.toNat s7) (([] : List UInt8), (([] : List UInt8), 0))).2.1) : Nat) : Int) > 24)))), (.ptr 0 2), (.d (.int .i64 (List.getD x0 (Int.toNat s7) (([] : List UInt8), (([] : List UInt8), 0))).2.2)), (.d (.str ([33, 94] : List UInt8))), (.d (.bool (([33, 94] : List UInt8) == ([] : List UInt8)))), (.d (.bool (([33, 94] : List UInt8) == ([] : List UInt8)))), .top, .top, .top, .top], [(.cells [(.d (.str (List.getD x0 (Int.toNat s7) (([] : List UInt8), (([] : List UInt8), 0))).1)), (.d (.str (List.getD x0 (Int.toNat s7) (([] : List UInt8), (([] : List UInt8), 0))).2.1)), (.d (.int .i64 (List.getD x0 (Int.toNat s7) (([] : List UInt8), (([] : List UInt8), 0))).2.2))])])) := by
  exact turns_last (by simp) (M.run_of_path _ [true, true, true, true, false, false, false, false, false, false, false, false, false, false, false, true, false, false, true] _ _ (by kernel_rfl) (all_t c0 (all_t c1 (all_t c2 (all_t c3 (all_nt c4 (all_nt c4 (all_nt c4 (all_nt c4 (all_nt c4 (all_f c9 (all_f c9 (all_f c9 (all_f c12 (all_f c13 (all_f c14 (all_t c15 (all_f c9 (all_f c9 (all_t c18 all_nil)))))))))))))))))))) 
set_option maxHeartbeats 20000000 in
theorem l26_0_w8 (m n : Nat) (x0 : List ((List UInt8) × (List UInt8) × Int)) (s6 : Int) (s7 : Int) (r : AEx × Env × Boxes) (c0 : decide (s7 < s6) = true) (c1 : decide (0 ≤ s7) = true) (c2 : decide (s7 < (((List.length x0) : Nat) : Int)) = true) (c3 : decide (List.length (List.getD x0 (Int.toNat s7) (([] : List UInt8), (([] : List UInt8), 0))).1 ≤ 9223372036854775807) = true) (c4 : (wordG (List.getD x0 (Int.toNat s7) (([] : List UInt8), (([] : List UInt8), 0))).1) = true) (c9 : ¬ decide ((((List.length (List.getD x0 (Int.toNat s7) (([] : List UInt8), (([] : List UInt8), 0))).2.1) : Nat) : Int) > 24) = true) (c12 : ¬ ((List.getD x0 (Int.toNat s7) (([] : List UInt8), (([] : List UInt8), 0))).2.2 == (1)) = true) (c13 : ¬ ((List.getD x0 (Int.toNat s7) (([] : List UInt8), (([] : List UInt8), 0))).2.2 == (2)) = true) (c14 : ¬ ((List.getD x0 (Int.toNat s7) (([] : List UInt8), (([] : List UInt8), 0))).2.2 == (3)) = true) (c15 : ((List.getD x0 (Int.toNat s7) (([] : List UInt8), (([] : List UInt8), 0))).2.2 == (4)) = true) (c18 : ¬ (([33, 94] : List UInt8) == ([] : List UInt8)) = true) (ih : (turns (hds 26 225) 0 225 (evC byref (evCall F S12 (m + 24)) (m + 24) 0 (hds 26) lbl26_0) n (l26_0H x0 s6 ((IntKind.wrap .i64 (s7 + (1))))) (l26_0B x0 s6 ((IntKind.wrap .i64 (s7 + (1)))))).run = some r) : (turns (hds 26 225) 0 225 (evC byref (evCall F S12 (m + 24)) (m + 24) 0 (hds 26) lbl26_0) (n + 1) (l26_0H x0 s6 s7) (l26_0B x0 s6 s7)).run = some r := by
  exact turns_step (M.run_of_path _ [true, true, true, true, false, false, false, false, false, false, false, false, false, false, false, true, false, false, false] _ _ (by kernel_rfl) (all_t c0 (all_t c1 (all_t c2 (all_t c3 (all_nt c4 (all_nt c4 (all_nt c4 (all_nt c4 (all_nt c4 (all_f c9 (all_f c9 (all_f c9 (all_f c12 (all_f c13 (all_f c14 (all_t c15 (all_f c9 (all_f c9 (all_f c18 all_nil)))))))))))))))))))) ih
set_option maxHeartbeats 20000000 in
theorem l26_0_w9 (m n : Nat) (x0 : List ((List UInt8) × (List UInt8) × Int)) (s6 : Int) (s7 : Int) (c0 : decide (s7 < s6) = true) (c1 : decide (0 ≤ s7) = true) (c2 : decide (s7 < (((List.length x0) : Nat) : Int)) = true) (c3 : decide (List.length (List.getD x0 (Int.toNat s7) (([] : List UInt8), (([] : List UInt8), 0))).1 ≤ 9223372036854775807) = true) (c4 : (wordG (List.getD x0 (Int.toNat s7) (([] : List UInt8), (([] : List UInt8), 0))).1) = true) (c9 : ¬ decide ((((List.length (List.getD x0 (Int.toNat s7) (([] : List UInt8), (([] : List UInt8), 0))).2.1) : Nat) : Int) > 24) = true) (c12 : ¬ ((List.getD x0 (Int.toNat s7) (([] : List UInt8), (([] : List UInt8), 0))).2.2 == (1)) = true) (c13 : ¬ ((List.getD x0 (Int.toNat s7) (([] : List UInt8), (([] : List UInt8), 0))).2.2 == (2)) = true) (c14 : ¬ ((List.getD x0 (Int.toNat s7) (([] : List UInt8), (([] : List UInt8), 0))).2.2 == (3)) = true) (c15 : ¬ ((List.getD x0 (Int.toNat s7) (([] : List UInt8), (([] : List UInt8), 0))).2.2 == (4)) = true) (c18 : (([] : List UInt8) == ([] : List UInt8)) = true) : (turns (hds 26 225) 0 225 (evC byref (evCall F S12 (m + 24)) (m + 24) 0 (hds 26) lbl26_0) (n + 1) (l26_0H x0 s6 s7) (l26_0B x0 s6 s7)).run = some (let r1 := (wordG (List.getD x0 (Int.toNat s7) (([] : List UInt8), (([] : List UInt8), 0))).1); (.ret, [(.d (.sl (.pair .str (.pair .str (.int .i64))) x0)), .top, (.d (.bool false)), .top, (.ptr 0 0), (.d (.sl (.pair .str (.pair .str (.int .i64))) x0)), (.d (.int .i64 s6)), (.d (.int .i64 s7)), (.d (.bool (decide (s7 < s6)))), (.cptr [(.str (List.getD x0 (Int.toNat s7) (([] : List UInt8), (([] : List UInt8), 0))).1), (.str (List.getD x0 (Int.toNat s7) (([] : List UInt8), (([] : List UInt8), 0))).2.1), (.int .i64 (List.getD x0 (Int.toNat s7) (([] : List UInt8), (([] : List UInt8), 0))).2.2)] 0), (.agg [(.d (.str (List.getD x0 (Int.toNat s7) (([] : List UInt8), (([] : List UInt8), 0))).1)), (.d (.str (List.getD x0 (Int.toNat s7) (([] : List UInt8), (([] : List UInt8), 0))).2.1)), (.d (.int .i64 (List.getD x0 (Int.toNat s7) (([] : List UInt8), (([] : List UInt8), 0))).2.2))]), (.ptr 0 0), (.d (.str (List.getD x0 (Int.toNat s7) (([] : List UInt8), (([] : List UInt8), 0))).1)), (.d (.bool r1)), (.d (.bool (!r1))), (.d (.bool (!r1))), (.ptr 0 1), (.d (.str (List.getD x0 (Int.toNat s7) (([] : List UInt8), (([] : List UInt8), 0))).2.1)), (.d (.int .i64 (((List.length (List.getD x0 (Int.toNat s7) (([] : List UInt8), (([] : List UInt8), 0))).2.1) : Nat) : Int))), (.d (.bool (decide ((((List.length (List.getD x0 (Int.toNat s7) (([] : List UInt8), (([] : List UInt8), 0))).2.1) : Nat) : Int) > 24)))), (.d (.bool (decide ((((List.length (List.getD x0 (Int.toNat s7) (([] : List UInt8), (([] : List UInt8), 0))).2.1) : Nat) : Int) > 24)))), (.d (.bool (decide ((((List.length (List.getD x0 (Int.toNat s7) (([] : List UInt8), (([] : List UInt8), 0))).2.1) : Nat) : Int) > 24)))), (.ptr 0 2), (.d (.int .i64 (List.getD x0 (Int.toNat s7) (([] : List UInt8), (([] : List UInt8), 0))).2.2)), (.d (.str ([] : List UInt8))), (.d (.bool (([] : List UInt8) == ([] : List UInt8)))), (.d (.bool (([] : List UInt8) == ([] : List UInt8)))), .top, .top, .top, .top], [(.cells [(.d (.str (List.getD x0 (Int.toNat s7) (([] : List UInt8), (([] : List UInt8), 0))).1)), (.d (.str (List.getD x0 (Int.toNat s7) (([] : List UInt8), (([] : List UInt8), 0))).2.1)), (.d (.int .i64 (List.getD x0 (Int.toNat s7) (([] : List UInt8), (([] : List UInt8), 0))).2.2))])])) := by
  exact turns_last (by simp) (M.run_of_path _ [true, true, true, true, false, false, false, false, false, false, false, false, false, false, false, false, false, false, true] _ _ (by kernel_rfl) (all_t c0 (all_t c1 (all_t c2 (all_t c3 (all_nt c4 (all_nt c4 (all_nt c4 (all_nt c4 (all_nt c4 (all_f c9 (all_f c9 (all_f c9 (all_f c12 (all_f c13 (all_f c14 (all_f c15 (all_f c9 (all_f c9 (all_t c18 all_nil)))))))))))))))))))) 
set_option maxHeartbeats 20000000 in
theorem l26_0_w10 (m n : Nat) (x0 : List ((List UInt8) × (List UInt8) × Int)) (s6 : Int) (s7 : Int) (r : AEx × Env × Boxes) (c0 : decide (s7 < s6) = true) (c1 : decide (0 ≤ s7) = true) (c2 : decide (s7 < (((List.length x0) : Nat) : Int)) = true) (c3 : decide (List.length (List.getD x0 (Int.toNat s7) (([] : List UInt8), (([] : List UInt8), 0))).1 ≤ 9223372036854775807) = true) (c4 : (wordG (List.getD x0 (Int.toNat s7) (([] : List UInt8), (([] : List UInt8), 0))).1) = true) (c9 : ¬ decide ((((List.length (List.getD x0 (Int.toNat s7) (([] : List UInt8), (([] : List UInt8), 0))).2.1) : Nat) : Int) > 24) = true) (c12 : ¬ ((List.getD x0 (Int.toNat s7) (([] : List UInt8), (([] : List UInt8), 0))).2.2 == (1)) = true) (c13 : ¬ ((List.getD x0 (Int.toNat s7) (([] : List UInt8), (([] : List UInt8), 0))).2.2 == (2)) = true) (c14 : ¬ ((List.getD x0 (Int.toNat s7) (([] : List UInt8), (([] : List UInt8), 0))).2.2 == (3)) = true) (c15 : ¬ ((List.getD x0 (Int.toNat s7) (([] : List UInt8), (([] : List UInt8), 0))).2.2 == (4)) = true) (c18 : ¬ (([] : List UInt8) == ([] : List UInt8)) = true) (ih : (turns (hds 26 225) 0 225 (evC byref (evCall F S12 (m + 24)) (m + 24) 0 (hds 26) lbl26_0) n (l26_0H x0 s6 ((IntKind.wrap .i64 (s7 + (1))))) (l26_0B x0 s6 ((IntKind.wrap .i64 (s7 + (1)))))).run = some r) : (turns (hds 26 225) 0 225 (evC byref (evCall F S12 (m + 24)) (m + 24) 0 (hds 26) lbl26_0) (n + 1) (l26_0H x0 s6 s7) (l26_0B x0 s6 s7)).run = some r := by
  exact turns_step (M.run_of_path _ [true, true, true, true, false, false, false, false, false, false, false, false, false, false, false, false, false, false, false] _ _ (by kernel_rfl) (all_t c0 (all_t c1 (all_t c2 (all_t c3 (all_nt c4 (all_nt c4 (all_nt c4 (all_nt c4 (all_nt c4 (all_f c9 (all_f c9 (all_f c9 (all_f c12 (all_f c13 (all_f c14 (all_f c15 (all_f c9 (all_f c9 (all_f c18 all_nil)))))))))))))))))))) ih
set_option maxHeartbeats 20000000 in
theorem l26_0_w11 (m n : Nat) (x0 : List ((List UInt8) × (List UInt8) × Int)) (s6 : Int) (s7 : Int) (c0 : decide (s7 < s6) = true) (c1 : decide (0 ≤ s7) = true) (c2 : decide (s7 < (((List.length x0) : Nat) : Int)) = true) (c3 : decide (List.length (List.getD x0 (Int.toNat s7) (([] : List UInt8), (([] : List UInt8), 0))).1 ≤ 9223372036854775807) = true) (c4 : ¬ (wordG (List.getD x0 (Int.toNat s7) (([] : List UInt8), (([] : List UInt8), 0))).1) = true) : (turns (hds 26 225) 0 225 (evC byref (evCall F S12 (m + 24)) (m + 24) 0 (hds 26) lbl26_0) (n + 1) (l26_0H x0 s6 s7) (l26_0B x0 s6 s7)).run = some (let r1 := (wordG (List.getD x0 (Int.toNat s7) (([] : List UInt8), (([] : List UInt8), 0))).1); (.ret, [(.d (.sl (.pair .str (.pair .str (.int .i64))) x0)), .top, (.d (.bool false)), .top, (.ptr 0 0), (.d (.sl (.pair .str (.pair .str (.int .i64))) x0)), (.d (.int .i64 s6)), (.d (.int .i64 s7)), (.d (.bool (decide (s7 < s6)))), (.cptr [(.str (List.getD x0 (Int.toNat s7) (([] : List UInt8), (([] : List UInt8), 0))).1), (.str (List.getD x0 (Int.toNat s7) (([] : List UInt8), (([] : List UInt8), 0))).2.1), (.int .i64 (List.getD x0 (Int.toNat s7) (([] : List UInt8), (([] : List UInt8), 0))).2.2)] 0), (.agg [(.d (.str (List.getD x0 (Int.toNat s7) (([] : List UInt8), (([] : List UInt8), 0))).1)), (.d (.str (List.getD x0 (Int.toNat s7) (([] : List UInt8), (([] : List UInt8), 0))).2.1)), (.d (.int .i64 (List.getD x0 (Int.toNat s7) (([] : List UInt8), (([] : List UInt8), 0))).2.2))]), (.ptr 0 0), (.d (.str (List.getD x0 (Int.toNat s7) (([] : List UInt8), (([] : List UInt8), 0))).1)), (.d (.bool r1)), (.d (.bool (!r1))), (.d (.bool (!r1))), (.tup []), (.tup []), (.tup []), (.tup []), (.d (.bool true)), (.d (.bool true)), (.tup []), (.tup []), (.tup []), (.tup []), (.d (.bool true)), .top, .top, .top, .top], [(.cells [(.d (.str (List.getD x0 (Int.toNat s7) (([] : List UInt8), (([] : List UInt8), 0))).1)), (.d (.str (List.getD x0 (Int.toNat s7) (([] : List UInt8), (([] : List UInt8), 0))).2.1)), (.d (.int .i64 (List.getD x0 (Int.toNat s7) (([] : List UInt8), (([] : List UInt8), 0))).2.2))])])) := by
  exact turns_last (by simp) (M.run_of_path _ [true, true, true, true, true, true, true, true, true, true, true, true, true, true, true] _ _ (by kernel_rfl) (all_t c0 (all_t c1 (all_t c2 (all_t c3 (all_nf c4 (all_nf c4 (all_nf c4 (all_nf c4 (all_nf c4 (all_t rfl (all_t rfl (all_t rfl (all_t rfl (all_t rfl (all_t rfl all_nil)))))))))))))))) 
set_option maxHeartbeats 20000000 in
theorem l26_0_w12 (m n : Nat) (x0 : List ((List UInt8) × (List UInt8) × Int)) (s6 : Int) (s7 : Int) (c0 : ¬ decide (s7 < s6) = true) : (turns (hds 26 225) 0 225 (evC byref (evCall F S12 (m + 24)) (m + 24) 0 (hds 26) lbl26_0) (n + 1) (l26_0H x0 s6 s7) (l26_0B x0 s6 s7)).run = some (.exit 0, [(.d (.sl (.pair .str (.pair .str (.int .i64))) x0)), .top, .top, .top, .top, (.d (.sl (.pair .str (.pair .str (.int .i64))) x0)), (.d (.int .i64 s6)), (.d (.int .i64 s7)), (.d (.bool (decide (s7 < s6)))), .top, .top, .top, .top, .top, .top, .top, .top, .top, .top, .top, .top, .top, .top, .top, .top, .top, .top, .top, .top, .top, .top], []) := by
  exact turns_last (by simp) (M.run_of_path _ [false] _ _ (by kernel_rfl) (all_f c0 all_nil)) 

set_option maxHeartbeats 20000000 in
theorem l26_0_step (m n : Nat) (ih : ∀ (x0 : List ((List UInt8) × (List UInt8) × Int)) (s6 : Int) (s7 : Int) (q : Nat × Int), l26_0 m n x0 s6 s7 = some q → (turns (hds 26 225) 0 225 (evC byref (evCall F S12 (m + 24)) (m + 24) 0 (hds 26) lbl26_0) n (l26_0H x0 s6 s7) (l26_0B x0 s6 s7)).run = some (l26_0E (x0) (s6) (q.2) q.1)) (x0 : List ((List UInt8) × (List UInt8) × Int)) (s6 : Int) (s7 : Int) (q : Nat × Int) (h : l26_0 m (n + 1) x0 s6 s7 = some q) : (turns (hds 26 225) 0 225 (evC byref (evCall F S12 (m + 24)) (m + 24) 0 (hds 26) lbl26_0) (n + 1) (l26_0H x0 s6 s7) (l26_0B x0 s6 s7)).run = some (l26_0E (x0) (s6) (q.2) q.1) := by
  rw [l26_0] at h
  refine ite_cases h (fun c0 h => ?_) (fun c0 h => ?_)
  · skip
    refine ite_cases h (fun c1 h => ?_) (fun c1 h => ?_)
    · skip
      refine ite_cases h (fun c2 h => ?_) (fun c2 h => ?_)
      · skip
        refine ite_cases h (fun c3 h => ?_) (fun c3 h => ?_)
        · skip
          refine ite_cases h (fun c4 h => ?_) (fun c4 h => ?_)
          · skip
            refine ite_cases h (fun c9 h => ?_) (fun c9 h => ?_)
            · skip
              cases h
              exact l26_0_w0 m n x0 s6 s7 c0 c1 c2 c3 c4 c9
            · skip
              refine ite_cases h (fun c12 h => ?_) (fun c12 h => ?_)
              · skip
                refine ite_cases h (fun c15 h => ?_) (fun c15 h => ?_)
                · skip
                  cases h
                  exact l26_0_w1 m n x0 s6 s7 c0 c1 c2 c3 c4 c9 c12 c15
                · skip
                  exact l26_0_w2 m n x0 s6 s7 _ c0 c1 c2 c3 c4 c9 c12 c15 (ih _ _ _ q h)
              · skip
                refine ite_cases h (fun c13 h => ?_) (fun c13 h => ?_)
                · skip
                  refine ite_cases h (fun c16 h => ?_) (fun c16 h => ?_)
                  · skip
                    cases h
                    exact l26_0_w3 m n x0 s6 s7 c0 c1 c2 c3 c4 c9 c12 c13 c16
                  · skip
                    exact l26_0_w4 m n x0 s6 s7 _ c0 c1 c2 c3 c4 c9 c12 c13 c16 (ih _ _ _ q h)
                · skip
                  refine ite_cases h (fun c14 h => ?_) (fun c14 h => ?_)
                  · skip
                    refine ite_cases h (fun c17 h => ?_) (fun c17 h => ?_)
                    · skip
                      cases h
                      exact l26_0_w5 m n x0 s6 s7 c0 c1 c2 c3 c4 c9 c12 c13 c14 c17
                    · skip
                      exact l26_0_w6 m n x0 s6 s7 _ c0 c1 c2 c3 c4 c9 c12 c13 c14 c17 (ih _ _ _ q h)
                  · skip
                    refine ite_cases h (fun c15 h => ?_) (fun c15 h => ?_)
                    · skip
                      refine ite_cases h (fun c18 h => ?_) (fun c18 h => ?_)
                      · skip
                        cases h
                        exact l26_0_w7 m n x0 s6 s7 c0 c1 c2 c3 c4 c9 c12 c13 c14 c15 c18
                      · skip
                        exact l26_0_w8 m n x0 s6 s7 _ c0 c1 c2 c3 c4 c9 c12 c13 c14 c15 c18 (ih _ _ _ q h)
                    · skip
                      refine ite_cases h (fun c18 h => ?_) (fun c18 h => ?_)
                      · skip
                        cases h
                        exact l26_0_w9 m n x0 s6 s7 c0 c1 c2 c3 c4 c9 c12 c13 c14 c15 c18
                      · skip
                        exact l26_0_w10 m n x0 s6 s7 _ c0 c1 c2 c3 c4 c9 c12 c13 c14 c15 c18 (ih _ _ _ q h)
          · skip
            cases h
            exact l26_0_w11 m n x0 s6 s7 c0 c1 c2 c3 c4
        · skip
          cases h
      · skip
        cases h
    · skip
      cases h
  · skip
    cases h
    exact l26_0_w12 m n x0 s6 s7 c0
set_option maxHeartbeats 20000000 in
theorem l26_0_ok (m : Nat) : ∀ (n : Nat) (x0 : List ((List UInt8) × (List UInt8) × Int)) (s6 : Int) (s7 : Int) (q : Nat × Int), l26_0 m n x0 s6 s7 = some q → (turns (hds 26 225) 0 225 (evC byref (evCall F S12 (m + 24)) (m + 24) 0 (hds 26) lbl26_0) n (l26_0H x0 s6 s7) (l26_0B x0 s6 s7)).run = some (l26_0E (x0) (s6) (q.2) q.1)
  | 0, x0, s6, s7, q, h => by cases h
  | n + 1, x0, s6, s7, q, h => l26_0_step m n (l26_0_ok m n) x0 s6 s7 q h

def p26 (m : Nat) (x0 : List ((List UInt8) × (List UInt8) × Int)) : Option (Bool) :=
  if (Option.isSome (l26_0 m (m + 24) x0 ((((List.length x0) : Nat) : Int)) 0)) = true then
    if ((l26_0R m (m + 24) x0 ((((List.length x0) : Nat) : Int)) 0).1 == 0) = true then
      some (false)
    else
      if ((l26_0R m (m + 24) x0 ((((List.length x0) : Nat) : Int)) 0).1 == 1) = true then
        some (false)
      else
        if ((l26_0R m (m + 24) x0 ((((List.length x0) : Nat) : Int)) 0).1 == 2) = true then
          some (false)
        else
          if ((l26_0R m (m + 24) x0 ((((List.length x0) : Nat) : Int)) 0).1 == 3) = true then
            some (false)
          else
            if ((l26_0R m (m + 24) x0 ((((List.length x0) : Nat) : Int)) 0).1 == 4) = true then
              some (false)
            else
              if ((l26_0R m (m + 24) x0 ((((List.length x0) : Nat) : Int)) 0).1 == 5) = true then
                some (false)
              else
                if ((l26_0R m (m + 24) x0 ((((List.length x0) : Nat) : Int)) 0).1 == 6) = true then
                  some (false)
                else
                  if ((l26_0R m (m + 24) x0 ((((List.length x0) : Nat) : Int)) 0).1 == 7) = true then
                    some (decide ((((List.length x0) : Nat) : Int) ≤ 6))
                  else
                    none
  else
    none
set_option maxHeartbeats 20000000 in
theorem p26_ok (m : Nat) (x0 : List ((List UInt8) × (List UInt8) × Int)) (q : Bool) (h : p26 m x0 = some q) : ∃ r B1, (evCall F S12 (m + 25) 26 [(.d (.sl (.pair .str (.pair .str (.int .i64))) x0))] []).run = some (r, B1) ∧ 0 ≤ B1.length ∧ wkR B1 [] r (.d (.bool (q))) ∧ wkBs B1 [] 0 [] := by
  unfold p26 at h
  refine ite_cases h (fun c0 h => ?_) (fun c0 h => ?_)
  · skip
    refine ite_cases h (fun c1 h => ?_) (fun c1 h => ?_)
    · skip
      cases h
      refine ⟨(.d (.bool false)), [], runT_ok (LS := (fun k => if k = 225 then some (l26_0E x0 (((((List.length x0) : Nat) : Int))) ((l26_0R m (m + 24) x0 ((((List.length x0) : Nat) : Int)) 0).2) 0) else none)) (fn := fn26) (vis := [(225, l26_0H x0 ((((List.length x0) : Nat) : Int)) 0, l26_0B x0 ((((List.length x0) : Nat) : Int)) 0)]) (by kernel_rfl) rfl (by kernel_rfl) (M.run_of_path _ [] _ _ (by kernel_rfl) all_nil) ?_, by simp, (wkR.one (wkV.one (wk1.eq rfl))), trivial⟩
      intro p hp p2 hq
      rcases List.mem_cons.1 hp with rfl | hp
      · skip
        have h3 := l26_0_ok m (m + 24) x0 ((((List.length x0) : Nat) : Int)) 0 _ (some_getD (d := l26_0D) c0)
        rw [eq_of_beq c1] at h3
        exact Eq.trans (Eq.mp (by kernel_rfl) h3) hq
      cases hp
    · skip
      refine ite_cases h (fun c2 h => ?_) (fun c2 h => ?_)
      · skip
        cases h
        refine ⟨(.d (.bool false)), [], runT_ok (LS := (fun k => if k = 225 then some (l26_0E x0 (((((List.length x0) : Nat) : Int))) ((l26_0R m (m + 24) x0 ((((List.length x0) : Nat) : Int)) 0).2) 1) else none)) (fn := fn26) (vis := [(225, l26_0H x0 ((((List.length x0) : Nat) : Int)) 0, l26_0B x0 ((((List.length x0) : Nat) : Int)) 0)]) (by kernel_rfl) rfl (by kernel_rfl) (M.run_of_path _ [] _ _ (by kernel_rfl) all_nil) ?_, by simp, (wkR.one (wkV.one (wk1.eq rfl))), trivial⟩
        intro p hp p2 hq
        rcases List.mem_cons.1 hp with rfl | hp
        · skip
          have h3 := l26_0_ok m (m + 24) x0 ((((List.length x0) : Nat) : Int)) 0 _ (some_getD (d := l26_0D) c0)
          rw [eq_of_beq c2] at h3
          exact Eq.trans (Eq.mp (by kernel_rfl) h3) hq
        cases hp
      · skip
        refine ite_cases h (fun c3 h => ?_) (fun c3 h => ?_)
        · skip
          cases h
          refine ⟨(.d (.bool false)), [], runT_ok (LS := (fun k => if k = 225 then some (l26_0E x0 (((((List.length x0) : Nat) : Int))) ((l26_0R m (m + 24) x0 ((((List.length x0) : Nat) : Int)) 0).2) 2) else none)) (fn := fn26) (vis := [(225, l26_0H x0 ((((List.length x0) : Nat) : Int)) 0, l26_0B x0 ((((List.length x0) : Nat) : Int)) 0)]) (by kernel_rfl) rfl (by kernel_rfl) (M.run_of_path _ [] _ _ (by kernel_rfl) all_nil) ?_, by simp, (wkR.one (wkV.one (wk1.eq rfl))), trivial⟩
          intro p hp p2 hq
          rcases List.mem_cons.1 hp with rfl | hp
          · skip
            have h3 := l26_0_ok m (m + 24) x0 ((((List.length x0) : Nat) : Int)) 0 _ (some_getD (d := l26_0D) c0)
            rw [eq_of_beq c3] at h3
            exact Eq.trans (Eq.mp (by kernel_rfl) h3) hq
          cases hp
        · skip
          refine ite_cases h (fun c4 h => ?_) (fun c4 h => ?_)
          · skip
            cases h
            refine ⟨(.d (.bool false)), [], runT_ok (LS := (fun k => if k = 225 then some (l26_0E x0 (((((List.length x0) : Nat) : Int))) ((l26_0R m (m + 24) x0 ((((List.length x0) : Nat) : Int)) 0).2) 3) else none)) (fn := fn26) (vis := [(225, l26_0H x0 ((((List.length x0) : Nat) : Int)) 0, l26_0B x0 ((((List.length x0) : Nat) : Int)) 0)]) (by kernel_rfl) rfl (by kernel_rfl) (M.run_of_path _ [] _ _ (by kernel_rfl) all_nil) ?_, by simp, (wkR.one (wkV.one (wk1.eq rfl))), trivial⟩
            intro p hp p2 hq
            rcases List.mem_cons.1 hp with rfl | hp
            · skip
              have h3 := l26_0_ok m (m + 24) x0 ((((List.length x0) : Nat) : Int)) 0 _ (some_getD (d := l26_0D) c0)
              rw [eq_of_beq c4] at h3
              exact Eq.trans (Eq.mp (by kernel_rfl) h3) hq
            cases hp
          · skip
            refine ite_cases h (fun c5 h => ?_) (fun c5 h => ?_)
            · skip
              cases h
              refine ⟨(.d (.bool false)), [], runT_ok (LS := (fun k => if k = 225 then some (l26_0E x0 (((((List.length x0) : Nat) : Int))) ((l26_0R m (m + 24) x0 ((((List.length x0) : Nat) : Int)) 0).2) 4) else none)) (fn := fn26) (vis := [(225, l26_0H x0 ((((List.length x0) : Nat) : Int)) 0, l26_0B x0 ((((List.length x0) : Nat) : Int)) 0)]) (by kernel_rfl) rfl (by kernel_rfl) (M.run_of_path _ [] _ _ (by kernel_rfl) all_nil) ?_, by simp, (wkR.one (wkV.one (wk1.eq rfl))), trivial⟩
              intro p hp p2 hq
              rcases List.mem_cons.1 hp with rfl | hp
              · skip
                have h3 := l26_0_ok m (m + 24) x0 ((((List.length x0) : Nat) : Int)) 0 _ (some_getD (d := l26_0D) c0)
                rw [eq_of_beq c5] at h3
                exact Eq.trans (Eq.mp (by kernel_rfl) h3) hq
              cases hp
            · skip
              refine ite_cases h (fun c6 h => ?_) (fun c6 h => ?_)
              · skip
                cases h
                refine ⟨(.d (.bool false)), [], runT_ok (LS := (fun k => if k = 225 then some (l26_0E x0 (((((List.length x0) : Nat) : Int))) ((l26_0R m (m + 24) x0 ((((List.length x0) : Nat) : Int)) 0).2) 5) else none)) (fn := fn26) (vis := [(225, l26_0H x0 ((((List.length x0) : Nat) : Int)) 0, l26_0B x0 ((((List.length x0) : Nat) : Int)) 0)]) (by kernel_rfl) rfl (by kernel_rfl) (M.run_of_path _ [] _ _ (by kernel_rfl) all_nil) ?_, by simp, (wkR.one (wkV.one (wk1.eq rfl))), trivial⟩
                intro p hp p2 hq
                rcases List.mem_cons.1 hp with rfl | hp
                · skip
                  have h3 := l26_0_ok m (m + 24) x0 ((((List.length x0) : Nat) : Int)) 0 _ (some_getD (d := l26_0D) c0)
                  rw [eq_of_beq c6] at h3
                  exact Eq.trans (Eq.mp (by kernel_rfl) h3) hq
                cases hp
              · skip
                refine ite_cases h (fun c7 h => ?_) (fun c7 h => ?_)
                · skip
                  cases h
                  refine ⟨(.d (.bool false)), [], runT_ok (LS := (fun k => if k = 225 then some (l26_0E x0 (((((List.length x0) : Nat) : Int))) ((l26_0R m (m + 24) x0 ((((List.length x0) : Nat) : Int)) 0).2) 6) else none)) (fn := fn26) (vis := [(225, l26_0H x0 ((((List.length x0) : Nat) : Int)) 0, l26_0B x0 ((((List.length x0) : Nat) : Int)) 0)]) (by kernel_rfl) rfl (by kernel_rfl) (M.run_of_path _ [] _ _ (by kernel_rfl) all_nil) ?_, by simp, (wkR.one (wkV.one (wk1.eq rfl))), trivial⟩
                  intro p hp p2 hq
                  rcases List.mem_cons.1 hp with rfl | hp
                  · skip
                    have h3 := l26_0_ok m (m + 24) x0 ((((List.length x0) : Nat) : Int)) 0 _ (some_getD (d := l26_0D) c0)
                    rw [eq_of_beq c7] at h3
                    exact Eq.trans (Eq.mp (by kernel_rfl) h3) hq
                  cases hp
                · skip
                  refine ite_cases h (fun c8 h => ?_) (fun c8 h => ?_)
                  · skip
                    cases h
                    refine ⟨(.d (.bool (decide ((((List.length x0) : Nat) : Int) ≤ 6)))), [], runT_ok (LS := (fun k => if k = 225 then some (l26_0E x0 (((((List.length x0) : Nat) : Int))) ((l26_0R m (m + 24) x0 ((((List.length x0) : Nat) : Int)) 0).2) 7) else none)) (fn := fn26) (vis := [(225, l26_0H x0 ((((List.length x0) : Nat) : Int)) 0, l26_0B x0 ((((List.length x0) : Nat) : Int)) 0)]) (by kernel_rfl) rfl (by kernel_rfl) (M.run_of_path _ [] _ _ (by kernel_rfl) all_nil) ?_, by simp, (wkR.one (wkV.one (wk1.eq rfl))), trivial⟩
                    intro p hp p2 hq
                    rcases List.mem_cons.1 hp with rfl | hp
                    · skip
                      have h3 := l26_0_ok m (m + 24) x0 ((((List.length x0) : Nat) : Int)) 0 _ (some_getD (d := l26_0D) c0)
                      rw [eq_of_beq c8] at h3
                      exact Eq.trans (Eq.mp (by kernel_rfl) h3) hq
                    cases hp
                  · skip
                    cases h
  · skip
    cases h

/-- May a matcher be? -/
def okM (m : MT) : Bool := wordG m.1 && decide (m.2.1.length ≤ 24) && decide (1 ≤ m.2.2) && decide (m.2.2 ≤ 4)
def rightG (ms : List MT) : Bool := ms.all okM && decide (ms.length ≤ 6)
def okPre (m : MT) : Bool := decide (m.1.length ≤ 9223372036854775807)
def rightPre (ms : List MT) : Bool := decide (ms.length ≤ 1000000 ∧ ∀ m ∈ ms, m.1.length ≤ 9223372036854775807)
theorem right_loop (m : Nat) (ms : List MT) (h1 : ms.length ≤ 1000000) (h2 : ∀ x ∈ ms, x.1.length ≤ 9223372036854775807) : ∀ (n k : Nat), k ≤ ms.length → ms.length - k < n → ∃ e j, l26_0 m n ms (ms.length : Nat) (k : Nat) = some (e, j) ∧ ((e = 7 ∧ (ms.drop k).all okM = true) ∨ ((e = 0 ∨ e = 1 ∨ e = 2 ∨ e = 3 ∨ e = 4 ∨ e = 5 ∨ e = 6) ∧ (ms.drop k).all okM = false))
  | 0, k, _, h => by omega
  | n + 1, k, g1, g2 => by
    rw [l26_0]
    by_cases hk : k < ms.length
    · have e1 : decide (((k : Nat) : Int) < (((List.length ms) : Nat) : Int)) = true := decide_eq_true (by omega)
      have e2 : decide ((0 : Int) ≤ ((k : Nat) : Int)) = true := decide_eq_true (by omega)
      have e7 : IntKind.wrap .i64 (((k : Nat) : Int) + (1)) = ((k + 1 : Nat) : Int) := by rw [wrap_id (by omega) (by omega)]; rfl
      have hq := h2 _ (getD_mem ms k (([] : List UInt8), (([] : List UInt8), 0)) hk)
      have go := right_loop m ms h1 h2 n (k + 1) (by omega) (by omega)
      rw [drop_getD ms k (([] : List UInt8), (([] : List UInt8), 0)) hk]
      simp only [show Int.toNat ((k : Nat) : Int) = k from rfl, e1, e2, e7, List.all_cons, ↓reduceIte]
      generalize ms.getD k (([] : List UInt8), (([] : List UInt8), 0)) = q at *
      have e3 : decide (List.length q.1 ≤ 9223372036854775807) = true := decide_eq_true hq
      have n1 : (([61] : List UInt8) == ([] : List UInt8)) = false := rfl
      have n2 : (([33, 61] : List UInt8) == ([] : List UInt8)) = false := rfl
      have n3 : (([94, 61] : List UInt8) == ([] : List UInt8)) = false := rfl
      have n4 : (([33, 94] : List UInt8) == ([] : List UInt8)) = false := rfl
      have n5 : (([] : List UInt8) == ([] : List UInt8)) = true := rfl
      have hok : okM q = (wordG q.1 && decide (q.2.1.length ≤ 24) && decide (1 ≤ q.2.2) && decide (q.2.2 ≤ 4)) := rfl
      simp only [e3, n1, n2, n3, n4, n5, ↓reduceIte, Bool.false_eq_true]
      cases c1 : wordG q.1 with
      | false =>
        rw [c1] at hok
        simp only [↓reduceIte, Bool.false_eq_true]
        exact ⟨0, _, rfl, .inr ⟨by simp, by rw [hok]; rfl⟩⟩
      | true =>
        rw [c1] at hok
        by_cases c2 : q.2.1.length ≤ 24
        · have f1 : decide ((((List.length q.2.1) : Nat) : Int) > 24) = false := decide_eq_false (by omega)
          rw [show decide (q.2.1.length ≤ 24) = true from decide_eq_true c2] at hok
          simp only [f1, ↓reduceIte, Bool.false_eq_true]
          have yes : 1 ≤ q.2.2 → q.2.2 ≤ 4 → okM q = true := fun a b => by rw [hok, decide_eq_true a, decide_eq_true b]; rfl
          by_cases k1 : q.2.2 = 1
          · rw [if_pos (by simp [k1]), yes (by omega) (by omega), Bool.true_and]; exact go
          · rw [if_neg (by simpa using k1)]
            by_cases k2 : q.2.2 = 2
            · rw [if_pos (by simp [k2]), yes (by omega) (by omega), Bool.true_and]; exact go
            · rw [if_neg (by simpa using k2)]
              by_cases k3 : q.2.2 = 3
              · rw [if_pos (by simp [k3]), yes (by omega) (by omega), Bool.true_and]; exact go
              · rw [if_neg (by simpa using k3)]
                by_cases k4 : q.2.2 = 4
                · rw [if_pos (by simp [k4]), yes (by omega) (by omega), Bool.true_and]; exact go
                · rw [if_neg (by simpa using k4)]
                  refine ⟨6, _, rfl, .inr ⟨by simp, ?_⟩⟩
                  have : okM q = false := by
                    rw [hok]
                    by_cases c : 1 ≤ q.2.2
                    · rw [show decide (q.2.2 ≤ 4) = false from decide_eq_false (by omega)]; simp
                    · rw [show decide (1 ≤ q.2.2) = false from decide_eq_false c]; simp
                  rw [this]; rfl
        · have f1 : decide ((((List.length q.2.1) : Nat) : Int) > 24) = true := decide_eq_true (by omega)
          rw [show decide (q.2.1.length ≤ 24) = false from decide_eq_false c2] at hok
          simp only [f1, ↓reduceIte]
          exact ⟨1, _, rfl, .inr ⟨by simp, by rw [hok]; rfl⟩⟩
    · have e1 : decide (((k : Nat) : Int) < (((List.length ms) : Nat) : Int)) = false := decide_eq_false (by omega)
      rw [e1, if_neg (by simp), List.drop_eq_nil_of_le (by omega)]
      exact ⟨7, _, rfl, .inl ⟨rfl, rfl⟩⟩
theorem right26 (ms : List MT) (h : rightPre ms = true) : ∃ m, p26 m ms = some (rightG ms) := by
  have ⟨h1, h2⟩ := of_decide_eq_true h
  refine ⟨ms.length, ?_⟩
  obtain ⟨e, j, hr, hc⟩ := right_loop ms.length ms h1 h2 (ms.length + 24) 0 (by omega) (by omega)
  simp only [Int.natCast_zero, List.drop_zero] at hr hc
  have q2 : decide ((((List.length ms) : Nat) : Int) ≤ 6) = decide (ms.length ≤ 6) := by rw [decide_eq_decide]; omega
  unfold p26 rightG
  simp only [l26_0R, hr, q2, Option.isSome_some, Option.getD_some, ↓reduceIte]
  rcases hc with ⟨rfl, hc⟩ | ⟨rfl | rfl | rfl | rfl | rfl | rfl | rfl, hc⟩ <;> rw [hc] <;> first | rfl | simp
def s26 : List AV → Boxes → M (AV × Boxes) := normS [.val (.sl (.pair .str (.pair .str (.int .i64))))] [] fun xs B => match xs, B with
  | [(.d (.sl (.pair .str (.pair .str (.int .i64))) c1))], [] => .chk (rightPre c1) (.ret ((.d (.bool (rightG c1))), []))
  | _, _ => .fail
theorem s26_at : CallAt Tryd.prog 26 s26 := by
  refine CallAt.norm (CallAt.weakE (g := fun n => evCall F S12 n 26) (fun n => evCall_atH mixed kinds hds S12 S12_ok n 26) fun xs B r' B' hr => ?_) _ _
  split at hr
  · rename_i c1
    obtain ⟨hp, hr⟩ := (M.run_chk _ _ _).1 hr
    simp only [M.run, Option.some.injEq, Prod.mk.injEq] at hr
    obtain ⟨rfl, rfl⟩ := hr
    obtain ⟨m, hm⟩ := right26 c1 hp
    obtain ⟨r, B1, h1, h2, h3, h4⟩ := p26_ok m c1 _ hm
    exact ⟨m + 25, r, B1, h1, by simp, h2, h3, h4⟩
  · simp [M.run] at hr
noncomputable def S13 : FuncId → Option (List AV → Boxes → M (AV × Boxes)) := fun f => if f = 26 then some s26 else S12 f
set_option maxHeartbeats 20000000 in
theorem S13_ok : ∀ f s, S13 f = some s → CallAt Tryd.prog f s := by
  intro f s h
  unfold S13 at h
  split at h
  · rename_i e; subst e; cases h; exact s26_at
  · exact S12_ok f s h

noncomputable def fn25 : AFn := (F 25).getD ⟨0, [], .bad, false, false, noHd⟩
noncomputable def body25 : AC := fn25.body
def p25 (m : Nat) (x0 : (List UInt8) × (List UInt8) × Int) : Option (Bool) :=
  if decide (List.length x0.1 ≤ 9223372036854775807) = true then
    if (wordG x0.1) = true then
      if decide ((((List.length x0.2.1) : Nat) : Int) ≤ 24) = true then
        if decide (x0.2.2 ≥ 1) = true then
          some (decide (x0.2.2 ≤ 4))
        else
          some (false)
      else
        some (false)
    else
      some (false)
  else
    none
set_option maxHeartbeats 20000000 in
theorem p25_ok (m : Nat) (x0 : (List UInt8) × (List UInt8) × Int) (q : Bool) (h : p25 m x0 = some q) : ∃ r B1, (evCall F S13 (m + 25) 25 [(.agg [(.d (.str x0.1)), (.d (.str x0.2.1)), (.d (.int .i64 x0.2.2))])] []).run = some (r, B1) ∧ 0 ≤ B1.length ∧ wkR B1 [] r (.d (.bool (q))) ∧ wkBs B1 [] 0 [] := by
  unfold p25 at h
  refine ite_cases h (fun c0 h => ?_) (fun c0 h => ?_)
  · skip
    refine ite_cases h (fun c1 h => ?_) (fun c1 h => ?_)
    · skip
      refine ite_cases h (fun c6 h => ?_) (fun c6 h => ?_)
      · skip
        refine ite_cases h (fun c10 h => ?_) (fun c10 h => ?_)
        · skip
          cases h
          refine ⟨(.d (.bool (decide (x0.2.2 ≤ 4)))), [], runT_ok (LS := (fun k => none)) (fn := fn25) (vis := []) (by kernel_rfl) rfl (by kernel_rfl) (M.run_of_path _ [true, true, true, true, true, true, true, true, true, true, true, true, true, true] _ _ (by kernel_rfl) (all_t c0 (all_t c1 (all_t c1 (all_t c1 (all_t c1 (all_t c1 (all_t c6 (all_t c6 (all_t c6 (all_t c6 (all_t c10 (all_t c10 (all_t c10 (all_t c10 all_nil))))))))))))))) ?_, by simp, (wkR.one (wkV.one (wk1.eq rfl))), trivial⟩
          intro p hp; cases hp
        · skip
          cases h
          refine ⟨(.d (.bool false)), [], runT_ok (LS := (fun k => none)) (fn := fn25) (vis := []) (by kernel_rfl) rfl (by kernel_rfl) (M.run_of_path _ [true, true, true, true, true, true, true, true, true, true, false, false, false, false] _ _ (by kernel_rfl) (all_t c0 (all_t c1 (all_t c1 (all_t c1 (all_t c1 (all_t c1 (all_t c6 (all_t c6 (all_t c6 (all_t c6 (all_f c10 (all_f c10 (all_f c10 (all_f c10 all_nil))))))))))))))) ?_, by simp, (wkR.one (wkV.one (wk1.eq rfl))), trivial⟩
          intro p hp; cases hp
      · skip
        cases h
        refine ⟨(.d (.bool false)), [], runT_ok (LS := (fun k => none)) (fn := fn25) (vis := []) (by kernel_rfl) rfl (by kernel_rfl) (M.run_of_path _ [true, true, true, true, true, true, false, false, false, false, false, false, false, false] _ _ (by kernel_rfl) (all_t c0 (all_t c1 (all_t c1 (all_t c1 (all_t c1 (all_t c1 (all_f c6 (all_f c6 (all_f c6 (all_f c6 (all_f Bool.false_ne_true (all_f Bool.false_ne_true (all_f Bool.false_ne_true (all_f Bool.false_ne_true all_nil))))))))))))))) ?_, by simp, (wkR.one (wkV.one (wk1.eq rfl))), trivial⟩
        intro p hp; cases hp
    · skip
      cases h
      refine ⟨(.d (.bool false)), [], runT_ok (LS := (fun k => none)) (fn := fn25) (vis := []) (by kernel_rfl) rfl (by kernel_rfl) (M.run_of_path _ [true, false, false, false, false, false, false, false, false, false, false, false, false, false] _ _ (by kernel_rfl) (all_t c0 (all_f c1 (all_f c1 (all_f c1 (all_f c1 (all_f c1 (all_f Bool.false_ne_true (all_f Bool.false_ne_true (all_f Bool.false_ne_true (all_f Bool.false_ne_true (all_f Bool.false_ne_true (all_f Bool.false_ne_true (all_f Bool.false_ne_true (all_f Bool.false_ne_true all_nil))))))))))))))) ?_, by simp, (wkR.one (wkV.one (wk1.eq rfl))), trivial⟩
      intro p hp; cases hp
  · skip
    cases h

theorem rmat25 (x : MT) (h : okPre x = true) : ∃ m, p25 m x = some (okM x) := by
  refine ⟨0, ?_⟩
  unfold p25 okM
  have e3 : decide (List.length x.1 ≤ 9223372036854775807) = true := h
  have q1 : decide ((((List.length x.2.1) : Nat) : Int) ≤ 24) = decide (x.2.1.length ≤ 24) := by rw [decide_eq_decide]; omega
  have q2 : decide (x.2.2 ≥ 1) = decide (1 ≤ x.2.2) := rfl
  rw [if_pos e3, q1, q2]
  cases wordG x.1 <;> cases decide (x.2.1.length ≤ 24) <;> cases decide (1 ≤ x.2.2) <;> cases decide (x.2.2 ≤ 4) <;> rfl
def s25 : List AV → Boxes → M (AV × Boxes) := normS [.val (.pair .str (.pair .str (.int .i64)))] [] fun xs B => match xs, B with
  | [(.agg [(.d (.str c1)), (.d (.str c2)), (.d (.int .i64 c3))])], [] => .chk (okPre ((c1, (c2, c3)))) (.ret ((.d (.bool (okM ((c1, (c2, c3)))))), []))
  | _, _ => .fail
theorem s25_at : CallAt Tryd.prog 25 s25 := by
  refine CallAt.norm (CallAt.weakE (g := fun n => evCall F S13 n 25) (fun n => evCall_atH mixed kinds hds S13 S13_ok n 25) fun xs B r' B' hr => ?_) _ _
  split at hr
  · rename_i c1 c2 c3
    obtain ⟨hp, hr⟩ := (M.run_chk _ _ _).1 hr
    simp only [M.run, Option.some.injEq, Prod.mk.injEq] at hr
    obtain ⟨rfl, rfl⟩ := hr
    obtain ⟨m, hm⟩ := rmat25 ((c1, (c2, c3))) hp
    obtain ⟨r, B1, h1, h2, h3, h4⟩ := p25_ok m ((c1, (c2, c3))) _ hm
    exact ⟨m + 25, r, B1, h1, by simp, h2, h3, h4⟩
  · simp [M.run] at hr
noncomputable def S14 : FuncId → Option (List AV → Boxes → M (AV × Boxes)) := fun f => if f = 25 then some s25 else S13 f
set_option maxHeartbeats 20000000 in
theorem S14_ok : ∀ f s, S14 f = some s → CallAt Tryd.prog f s := by
  intro f s h
  unfold S14 at h
  split at h
  · rename_i e; subst e; cases h; exact s25_at
  · exact S13_ok f s h

end Go.Proofs.YtghkbjflejgieaaDoor.Dec
namespace Go.Proofs.YtghkbjflejgieaaDoor.Dec
open Go.Ev
set_option linter.unusedVariables false
set_option linter.unusedSimpArgs false
set_option maxRecDepth 100000
noncomputable def fn45 : AFn := (F 45).getD ⟨0, [], .bad, false, false, noHd⟩
noncomputable def body45 : AC := fn45.body
def l45_0 (m : Nat) : Nat → List UInt8 → Int → Int → List Int → Option (Nat × Int × (List Int))
  | 0, _, _, _, _ => none
  | n + 1, x0, s7, s8, b1 => if decide (s8 < s7) = true then
      if decide (0 ≤ s8) = true then
        if decide (s8 < (((List.length x0) : Nat) : Int)) = true then
          if (((UInt8.toNat (List.getD x0 (Int.toNat s8) 0) : Nat) : Int) == (34)) = true then
            if decide ((((List.length b1) + 1) * 1) ≤ 70368744177664) = true then
              if decide (((((List.length b1) + 1) + 1) * 1) ≤ 70368744177664) = true then
                if decide (((List.length b1) + 1) = (List.length (b1 ++ [(92)]))) = true then
                  l45_0 m n x0 s7 ((IntKind.wrap .i64 (s8 + (1)))) (((b1 ++ [(92)]) ++ [((UInt8.toNat (List.getD x0 (Int.toNat s8) 0) : Nat) : Int)]))
                else
                  none
              else
                none
            else
              none
          else
            if (((UInt8.toNat (List.getD x0 (Int.toNat s8) 0) : Nat) : Int) == (92)) = true then
              if decide ((((List.length b1) + 1) * 1) ≤ 70368744177664) = true then
                if decide (((((List.length b1) + 1) + 1) * 1) ≤ 70368744177664) = true then
                  if decide (((List.length b1) + 1) = (List.length (b1 ++ [(92)]))) = true then
                    l45_0 m n x0 s7 ((IntKind.wrap .i64 (s8 + (1)))) (((b1 ++ [(92)]) ++ [((UInt8.toNat (List.getD x0 (Int.toNat s8) 0) : Nat) : Int)]))
                  else
                    none
                else
                  none
              else
                none
            else
              if decide ((((List.length b1) + 1) * 1) ≤ 70368744177664) = true then
                l45_0 m n x0 s7 ((IntKind.wrap .i64 (s8 + (1)))) ((b1 ++ [((UInt8.toNat (List.getD x0 (Int.toNat s8) 0) : Nat) : Int)]))
              else
                none
        else
          none
      else
        none
    else
      some (0, s8, b1)
def l45_0D : Nat × Int × (List Int) := (0, 0, [])
@[reducible] def l45_0R (m n : Nat) (x0 : List UInt8) (s7 : Int) (s8 : Int) (b1 : List Int) : Nat × Int × (List Int) := Option.getD (l45_0 m n x0 s7 s8 b1) l45_0D
def l45_0H (x0 : List UInt8) (s7 : Int) (s8 : Int) (b1 : List Int) : Env := [(.d (.str x0)), .top, .top, (.ptr 0 0), .top, .top, .top, (.d (.int .i64 s7)), (.d (.int .i64 s8)), .top, .top, .top, .top, .top, .top, .top, .top, .top, .top, .top, .top, .top, .top, .top, .top, .top, .top, .top, .top]
def l45_0B (x0 : List UInt8) (s7 : Int) (s8 : Int) (b1 : List Int) : Boxes := [(.cells [(.ptr 0 0), (.sr 1 0 (List.length b1) 1 none)]), (.arr (.int .u8) b1 true)]
def l45_0E (x0 : List UInt8) (s7 : Int) (s8 : Int) (b1 : List Int) : Nat → AEx × Env × Boxes
  | _ => (.exit 0, [(.d (.str x0)), .top, .top, (.ptr 0 0), .top, .top, .top, (.d (.int .i64 s7)), (.d (.int .i64 s8)), (.d (.bool (decide (s8 < s7)))), .top, .top, .top, .top, .top, .top, .top, .top, .top, .top, .top, .top, .top, .top, .top, .top, .top, .top, .top], [(.cells [(.ptr 0 0), (.sr 1 0 (List.length b1) 1 none)]), (.arr (.int .u8) b1 true)])
noncomputable def lbl45_0 : AC := loopBody 393 body45

set_option maxHeartbeats 20000000 in
theorem l45_0_w0 (m n : Nat) (x0 : List UInt8) (s7 : Int) (s8 : Int) (b1 : List Int) (r : AEx × Env × Boxes) (c0 : decide (s8 < s7) = true) (c1 : decide (0 ≤ s8) = true) (c2 : decide (s8 < (((List.length x0) : Nat) : Int)) = true) (c3 : (((UInt8.toNat (List.getD x0 (Int.toNat s8) 0) : Nat) : Int) == (34)) = true) (c10 : decide ((((List.length b1) + 1) * 1) ≤ 70368744177664) = true) (c15 : decide (((((List.length b1) + 1) + 1) * 1) ≤ 70368744177664) = true) (c16 : decide (((List.length b1) + 1) = (List.length (b1 ++ [(92)]))) = true) (ih : (turns (hds 45 393) 0 393 (evC byref (evCall F S14 (m + 24)) (m + 24) 0 (hds 45) lbl45_0) n (l45_0H x0 s7 ((IntKind.wrap .i64 (s8 + (1)))) (((b1 ++ [(92)]) ++ [((UInt8.toNat (List.getD x0 (Int.toNat s8) 0) : Nat) : Int)]))) (l45_0B x0 s7 ((IntKind.wrap .i64 (s8 + (1)))) (((b1 ++ [(92)]) ++ [((UInt8.toNat (List.getD x0 (Int.toNat s8) 0) : Nat) : Int)])))).run = some r) : (turns (hds 45 393) 0 393 (evC byref (evCall F S14 (m + 24)) (m + 24) 0 (hds 45) lbl45_0) (n + 1) (l45_0H x0 s7 s8 b1) (l45_0B x0 s7 s8 b1)).run = some r := by
  have ht : (turn (hds 45 393) 0 393 (evC byref (evCall F S14 (m + 24)) (m + 24) 0 (hds 45) lbl45_0) (l45_0H x0 s7 s8 b1) (l45_0B x0 s7 s8 b1)).run = some (.normal, [(.d (.str x0)), .top, .top, (.ptr 0 0), .top, .top, .top, (.d (.int .i64 s7)), (.d (.int .i64 (IntKind.wrap .i64 (s8 + (1))))), .top, .top, .top, .top, .top, .top, .top, .top, .top, .top, .top, .top, .top, .top, .top, .top, .top, .top, .top, .top], [(.cells [(.ptr 0 0), (.sr 1 0 (((List.length b1) + 1) + 1) 1 none)]), (.arr (.int .u8) ((b1 ++ [(92)]) ++ [((UInt8.toNat (List.getD x0 (Int.toNat s8) 0) : Nat) : Int)]) true)]) := M.run_of_path _ [true, true, true, true, true, true, true, true, true, true, true, true, true, true, true, true, true] _ _ (by kernel_rfl) (all_t c0 (all_t c1 (all_t c2 (all_t c3 (all_t c3 (all_t c3 (all_t c3 (all_t c3 (all_t rfl (all_t rfl (all_t c10 (all_t (show decide ((List.length b1) = (List.length b1)) = true from decide_eq_true rfl) (all_t c1 (all_t c2 (all_t rfl (all_t c15 (all_t c16 all_nil)))))))))))))))))
  refine turns_step ht (turns_eq ?_ ?_ ih)
  · unfold l45_0H
    first | (simp; done) | (simp [Nat.add_assoc]; done)
  · unfold l45_0B
    simp
set_option maxHeartbeats 20000000 in
theorem l45_0_w1 (m n : Nat) (x0 : List UInt8) (s7 : Int) (s8 : Int) (b1 : List Int) (r : AEx × Env × Boxes) (c0 : decide (s8 < s7) = true) (c1 : decide (0 ≤ s8) = true) (c2 : decide (s8 < (((List.length x0) : Nat) : Int)) = true) (c3 : ¬ (((UInt8.toNat (List.getD x0 (Int.toNat s8) 0) : Nat) : Int) == (34)) = true) (c10 : (((UInt8.toNat (List.getD x0 (Int.toNat s8) 0) : Nat) : Int) == (92)) = true) (c12 : decide ((((List.length b1) + 1) * 1) ≤ 70368744177664) = true) (c17 : decide (((((List.length b1) + 1) + 1) * 1) ≤ 70368744177664) = true) (c18 : decide (((List.length b1) + 1) = (List.length (b1 ++ [(92)]))) = true) (ih : (turns (hds 45 393) 0 393 (evC byref (evCall F S14 (m + 24)) (m + 24) 0 (hds 45) lbl45_0) n (l45_0H x0 s7 ((IntKind.wrap .i64 (s8 + (1)))) (((b1 ++ [(92)]) ++ [((UInt8.toNat (List.getD x0 (Int.toNat s8) 0) : Nat) : Int)]))) (l45_0B x0 s7 ((IntKind.wrap .i64 (s8 + (1)))) (((b1 ++ [(92)]) ++ [((UInt8.toNat (List.getD x0 (Int.toNat s8) 0) : Nat) : Int)])))).run = some r) : (turns (hds 45 393) 0 393 (evC byref (evCall F S14 (m + 24)) (m + 24) 0 (hds 45) lbl45_0) (n + 1) (l45_0H x0 s7 s8 b1) (l45_0B x0 s7 s8 b1)).run = some r := by
  have ht : (turn (hds 45 393) 0 393 (evC byref (evCall F S14 (m + 24)) (m + 24) 0 (hds 45) lbl45_0) (l45_0H x0 s7 s8 b1) (l45_0B x0 s7 s8 b1)).run = some (.normal, [(.d (.str x0)), .top, .top, (.ptr 0 0), .top, .top, .top, (.d (.int .i64 s7)), (.d (.int .i64 (IntKind.wrap .i64 (s8 + (1))))), .top, .top, .top, .top, .top, .top, .top, .top, .top, .top, .top, .top, .top, .top, .top, .top, .top, .top, .top, .top], [(.cells [(.ptr 0 0), (.sr 1 0 (((List.length b1) + 1) + 1) 1 none)]), (.arr (.int .u8) ((b1 ++ [(92)]) ++ [((UInt8.toNat (List.getD x0 (Int.toNat s8) 0) : Nat) : Int)]) true)]) := M.run_of_path _ [true, true, true, false, false, false, true, true, false, false, true, true, true, true, true, true, true, true, true] _ _ (by kernel_rfl) (all_t c0 (all_t c1 (all_t c2 (all_f c3 (all_f c3 (all_f c3 (all_t c1 (all_t c2 (all_f c3 (all_f c3 (all_t c10 (all_t rfl (all_t c12 (all_t (show decide ((List.length b1) = (List.length b1)) = true from decide_eq_true rfl) (all_t c1 (all_t c2 (all_t rfl (all_t c17 (all_t c18 all_nil)))))))))))))))))))
  refine turns_step ht (turns_eq ?_ ?_ ih)
  · unfold l45_0H
    first | (simp; done) | (simp [Nat.add_assoc]; done)
  · unfold l45_0B
    simp
set_option maxHeartbeats 20000000 in
theorem l45_0_w2 (m n : Nat) (x0 : List UInt8) (s7 : Int) (s8 : Int) (b1 : List Int) (r : AEx × Env × Boxes) (c0 : decide (s8 < s7) = true) (c1 : decide (0 ≤ s8) = true) (c2 : decide (s8 < (((List.length x0) : Nat) : Int)) = true) (c3 : ¬ (((UInt8.toNat (List.getD x0 (Int.toNat s8) 0) : Nat) : Int) == (34)) = true) (c10 : ¬ (((UInt8.toNat (List.getD x0 (Int.toNat s8) 0) : Nat) : Int) == (92)) = true) (c14 : decide ((((List.length b1) + 1) * 1) ≤ 70368744177664) = true) (ih : (turns (hds 45 393) 0 393 (evC byref (evCall F S14 (m + 24)) (m + 24) 0 (hds 45) lbl45_0) n (l45_0H x0 s7 ((IntKind.wrap .i64 (s8 + (1)))) ((b1 ++ [((UInt8.toNat (List.getD x0 (Int.toNat s8) 0) : Nat) : Int)]))) (l45_0B x0 s7 ((IntKind.wrap .i64 (s8 + (1)))) ((b1 ++ [((UInt8.toNat (List.getD x0 (Int.toNat s8) 0) : Nat) : Int)])))).run = some r) : (turns (hds 45 393) 0 393 (evC byref (evCall F S14 (m + 24)) (m + 24) 0 (hds 45) lbl45_0) (n + 1) (l45_0H x0 s7 s8 b1) (l45_0B x0 s7 s8 b1)).run = some r := by
  have ht : (turn (hds 45 393) 0 393 (evC byref (evCall F S14 (m + 24)) (m + 24) 0 (hds 45) lbl45_0) (l45_0H x0 s7 s8 b1) (l45_0B x0 s7 s8 b1)).run = some (.normal, [(.d (.str x0)), .top, .top, (.ptr 0 0), .top, .top, .top, (.d (.int .i64 s7)), (.d (.int .i64 (IntKind.wrap .i64 (s8 + (1))))), .top, .top, .top, .top, .top, .top, .top, .top, .top, .top, .top, .top, .top, .top, .top, .top, .top, .top, .top, .top], [(.cells [(.ptr 0 0), (.sr 1 0 ((List.length b1) + 1) 1 none)]), (.arr (.int .u8) (b1 ++ [((UInt8.toNat (List.getD x0 (Int.toNat s8) 0) : Nat) : Int)]) true)]) := M.run_of_path _ [true, true, true, false, false, false, true, true, false, false, false, true, true, true, true, true] _ _ (by kernel_rfl) (all_t c0 (all_t c1 (all_t c2 (all_f c3 (all_f c3 (all_f c3 (all_t c1 (all_t c2 (all_f c3 (all_f c3 (all_f c10 (all_t c1 (all_t c2 (all_t rfl (all_t c14 (all_t (show decide ((List.length b1) = (List.length b1)) = true from decide_eq_true rfl) all_nil))))))))))))))))
  refine turns_step ht (turns_eq ?_ ?_ ih)
  · unfold l45_0H
    first | (simp; done) | (simp [Nat.add_assoc]; done)
  · unfold l45_0B
    simp
set_option maxHeartbeats 20000000 in
theorem l45_0_w3 (m n : Nat) (x0 : List UInt8) (s7 : Int) (s8 : Int) (b1 : List Int) (c0 : ¬ decide (s8 < s7) = true) : (turns (hds 45 393) 0 393 (evC byref (evCall F S14 (m + 24)) (m + 24) 0 (hds 45) lbl45_0) (n + 1) (l45_0H x0 s7 s8 b1) (l45_0B x0 s7 s8 b1)).run = some (.exit 0, [(.d (.str x0)), .top, .top, (.ptr 0 0), .top, .top, .top, (.d (.int .i64 s7)), (.d (.int .i64 s8)), (.d (.bool (decide (s8 < s7)))), .top, .top, .top, .top, .top, .top, .top, .top, .top, .top, .top, .top, .top, .top, .top, .top, .top, .top, .top], [(.cells [(.ptr 0 0), (.sr 1 0 (List.length b1) 1 none)]), (.arr (.int .u8) b1 true)]) := by
  exact turns_last (by simp) (M.run_of_path _ [false] _ _ (by kernel_rfl) (all_f c0 all_nil)) 

set_option maxHeartbeats 20000000 in
theorem l45_0_step (m n : Nat) (ih : ∀ (x0 : List UInt8) (s7 : Int) (s8 : Int) (b1 : List Int) (q : Nat × Int × (List Int)), l45_0 m n x0 s7 s8 b1 = some q → (turns (hds 45 393) 0 393 (evC byref (evCall F S14 (m + 24)) (m + 24) 0 (hds 45) lbl45_0) n (l45_0H x0 s7 s8 b1) (l45_0B x0 s7 s8 b1)).run = some (l45_0E (x0) (s7) (q.2.1) (q.2.2) q.1)) (x0 : List UInt8) (s7 : Int) (s8 : Int) (b1 : List Int) (q : Nat × Int × (List Int)) (h : l45_0 m (n + 1) x0 s7 s8 b1 = some q) : (turns (hds 45 393) 0 393 (evC byref (evCall F S14 (m + 24)) (m + 24) 0 (hds 45) lbl45_0) (n + 1) (l45_0H x0 s7 s8 b1) (l45_0B x0 s7 s8 b1)).run = some (l45_0E (x0) (s7) (q.2.1) (q.2.2) q.1) := by
  rw [l45_0] at h
  refine ite_cases h (fun c0 h => ?_) (fun c0 h => ?_)
  · skip
    refine ite_cases h (fun c1 h => ?_) (fun c1 h => ?_)
    · skip
      refine ite_cases h (fun c2 h => ?_) (fun c2 h => ?_)
      · skip
        refine ite_cases h (fun c3 h => ?_) (fun c3 h => ?_)
        · skip
          refine ite_cases h (fun c10 h => ?_) (fun c10 h => ?_)
          · skip
            refine ite_cases h (fun c15 h => ?_) (fun c15 h => ?_)
            · skip
              refine ite_cases h (fun c16 h => ?_) (fun c16 h => ?_)
              · skip
                exact l45_0_w0 m n x0 s7 s8 b1 _ c0 c1 c2 c3 c10 c15 c16 (ih _ _ _ _ q h)
              · skip
                cases h
            · skip
              cases h
          · skip
            cases h
        · skip
          refine ite_cases h (fun c10 h => ?_) (fun c10 h => ?_)
          · skip
            refine ite_cases h (fun c12 h => ?_) (fun c12 h => ?_)
            · skip
              refine ite_cases h (fun c17 h => ?_) (fun c17 h => ?_)
              · skip
                refine ite_cases h (fun c18 h => ?_) (fun c18 h => ?_)
                · skip
                  exact l45_0_w1 m n x0 s7 s8 b1 _ c0 c1 c2 c3 c10 c12 c17 c18 (ih _ _ _ _ q h)
                · skip
                  cases h
              · skip
                cases h
            · skip
              cases h
          · skip
            refine ite_cases h (fun c14 h => ?_) (fun c14 h => ?_)
            · skip
              exact l45_0_w2 m n x0 s7 s8 b1 _ c0 c1 c2 c3 c10 c14 (ih _ _ _ _ q h)
            · skip
              cases h
      · skip
        cases h
    · skip
      cases h
  · skip
    cases h
    exact l45_0_w3 m n x0 s7 s8 b1 c0
set_option maxHeartbeats 20000000 in
theorem l45_0_ok (m : Nat) : ∀ (n : Nat) (x0 : List UInt8) (s7 : Int) (s8 : Int) (b1 : List Int) (q : Nat × Int × (List Int)), l45_0 m n x0 s7 s8 b1 = some q → (turns (hds 45 393) 0 393 (evC byref (evCall F S14 (m + 24)) (m + 24) 0 (hds 45) lbl45_0) n (l45_0H x0 s7 s8 b1) (l45_0B x0 s7 s8 b1)).run = some (l45_0E (x0) (s7) (q.2.1) (q.2.2) q.1)
  | 0, x0, s7, s8, b1, q, h => by cases h
  | n + 1, x0, s7, s8, b1, q, h => l45_0_step m n (l45_0_ok m n) x0 s7 s8 b1 q h

def p45 (m : Nat) (x0 : List UInt8) : Option ((List UInt8)) :=
  if (Option.isSome (l45_0 m (m + 24) x0 ((((List.length x0) : Nat) : Int)) 0 ([(34)]))) = true then
    if decide ((((List.length (l45_0R m (m + 24) x0 ((((List.length x0) : Nat) : Int)) 0 ([(34)])).2.2) + 1) * 1) ≤ 70368744177664) = true then
      if decide (((List.length (l45_0R m (m + 24) x0 ((((List.length x0) : Nat) : Int)) 0 ([(34)])).2.2) + 1) = 0) = true then
        none
      else
        if (((decide (((((List.length (l45_0R m (m + 24) x0 ((((List.length x0) : Nat) : Int)) 0 ([(34)])).2.2) + 1) : Nat) : Int) = (((List.length ((l45_0R m (m + 24) x0 ((((List.length x0) : Nat) : Int)) 0 ([(34)])).2.2 ++ [(34)])) : Nat) : Int)) && (!List.isEmpty ((l45_0R m (m + 24) x0 ((((List.length x0) : Nat) : Int)) 0 ([(34)])).2.2 ++ [(34)]))) && decide ((List.length ((l45_0R m (m + 24) x0 ((((List.length x0) : Nat) : Int)) 0 ([(34)])).2.2 ++ [(34)])) ≤ 9223372036854775807)) && List.all ((l45_0R m (m + 24) x0 ((((List.length x0) : Nat) : Int)) 0 ([(34)])).2.2 ++ [(34)]) (fun n => decide (0 ≤ n) && decide (n < 256))) = true then
          some ((List.map (fun (n : Int) => UInt8.ofNat n.toNat) ((l45_0R m (m + 24) x0 ((((List.length x0) : Nat) : Int)) 0 ([(34)])).2.2 ++ [(34)])))
        else
          none
    else
      none
  else
    none
set_option maxHeartbeats 20000000 in
theorem p45_ok (m : Nat) (x0 : List UInt8) (q : (List UInt8)) (h : p45 m x0 = some q) : ∃ r B1, (evCall F S14 (m + 25) 45 [(.d (.str x0))] []).run = some (r, B1) ∧ 0 ≤ B1.length ∧ wkR B1 [] r (.d (.str q)) ∧ wkBs B1 [] 0 [] := by
  unfold p45 at h
  refine ite_cases h (fun c3 h => ?_) (fun c3 h => ?_)
  · skip
    refine ite_cases h (fun c5 h => ?_) (fun c5 h => ?_)
    · skip
      refine ite_cases h (fun c7 h => ?_) (fun c7 h => ?_)
      · skip
        cases h
      · skip
        refine ite_cases h (fun c8 h => ?_) (fun c8 h => ?_)
        · skip
          cases h
          refine ⟨(.d (.str (List.map (fun (n : Int) => UInt8.ofNat n.toNat) ((l45_0R m (m + 24) x0 ((((List.length x0) : Nat) : Int)) 0 ([(34)])).2.2 ++ [(34)])))), [], runT_ok (LS := (fun k => if k = 393 then some (l45_0E x0 (((((List.length x0) : Nat) : Int))) ((l45_0R m (m + 24) x0 ((((List.length x0) : Nat) : Int)) 0 ([(34)])).2.1) ((l45_0R m (m + 24) x0 ((((List.length x0) : Nat) : Int)) 0 ([(34)])).2.2) 0) else none)) (fn := fn45) (vis := [(393, l45_0H x0 ((((List.length x0) : Nat) : Int)) 0 ([(34)]), l45_0B x0 ((((List.length x0) : Nat) : Int)) 0 ([(34)]))]) (by kernel_rfl) rfl (by kernel_rfl) (M.run_of_path _ [true, false, true, true, true, true, true, true] _ _ (by kernel_rfl) (all_t rfl (all_f Bool.false_ne_true (all_t rfl (all_t rfl (all_t c5 (all_t (show decide ((List.length (l45_0R m (m + 24) x0 ((((List.length x0) : Nat) : Int)) 0 ([(34)])).2.2) = (List.length (l45_0R m (m + 24) x0 ((((List.length x0) : Nat) : Int)) 0 ([(34)])).2.2)) = true from decide_eq_true rfl) (all_nf c7 (all_t c8 all_nil))))))))) ?_, by simp, (wkR.one (wkV.one (wk1.eq rfl))), trivial⟩
          intro p hp p2 hq
          rcases List.mem_cons.1 hp with rfl | hp
          · skip
            have h3 := l45_0_ok m (m + 24) x0 ((((List.length x0) : Nat) : Int)) 0 ([(34)]) _ (some_getD (d := l45_0D) c3)
            exact Eq.trans (Eq.mp (by kernel_rfl) h3) hq
          cases hp
        · skip
          cases h
    · skip
      cases h
  · skip
    cases h

def escI (c : UInt8) : List Int := if UInt8.toNat c = 34 ∨ UInt8.toNat c = 92 then [92, ((UInt8.toNat c : Nat) : Int)] else [((UInt8.toNat c : Nat) : Int)]
def escB (c : UInt8) : List UInt8 := if UInt8.toNat c = 34 ∨ UInt8.toNat c = 92 then [92, c] else [c]
/-- A quoted text. -/
def quoteG (s : List UInt8) : List UInt8 := 34 :: (s.flatMap escB ++ [34])
theorem escB_le (c : UInt8) : (escB c).length ≤ 2 := by unfold escB; split <;> simp
theorem escI_le (c : UInt8) : (escI c).length ≤ 2 := by unfold escI; split <;> simp
theorem esc_map (c : UInt8) : (escI c).map (fun (n : Int) => UInt8.ofNat n.toNat) = escB c := by
  unfold escI escB
  split
  · rw [List.map_cons, List.map_cons, List.map_nil, Int.toNat_natCast, UInt8.ofNat_toNat]; rfl
  · rw [List.map_cons, List.map_nil, Int.toNat_natCast, UInt8.ofNat_toNat]
theorem escI_in (c : UInt8) : ∀ n ∈ escI c, 0 ≤ n ∧ n < 256 := by
  intro n hn
  have := UInt8.toNat_lt c
  unfold escI at hn
  split at hn
  · simp only [List.mem_cons, List.not_mem_nil, or_false] at hn
    omega
  · simp only [List.mem_cons, List.not_mem_nil, or_false] at hn
    omega
theorem flat_le {f : UInt8 → List Int} (hf : ∀ c, (f c).length ≤ 2) : ∀ (s : List UInt8), (s.flatMap f).length ≤ 2 * s.length
  | [] => Nat.le_refl _
  | c :: s => by rw [List.flatMap_cons, List.length_append, List.length_cons]; have := hf c; have := flat_le hf s; omega
theorem flatB_le {f : UInt8 → List UInt8} (hf : ∀ c, (f c).length ≤ 2) : ∀ (s : List UInt8), (s.flatMap f).length ≤ 2 * s.length
  | [] => Nat.le_refl _
  | c :: s => by rw [List.flatMap_cons, List.length_append, List.length_cons]; have := hf c; have := flatB_le hf s; omega
theorem quote_le (s : List UInt8) : (quoteG s).length ≤ 2 * s.length + 2 := by
  unfold quoteG
  rw [List.length_cons, List.length_append]
  have := flatB_le escB_le s
  simp only [List.length_cons, List.length_nil]
  omega
theorem flat_map (s : List UInt8) : (s.flatMap escI).map (fun (n : Int) => UInt8.ofNat n.toNat) = s.flatMap escB := by
  rw [List.map_flatMap]
  congr 1
  funext c
  exact esc_map c
theorem quote_loop (m : Nat) (s : List UInt8) (hs : s.length ≤ 1000000) : ∀ (n k : Nat) (b : List Int), k ≤ s.length → s.length - k < n → b.length + 2 * (s.length - k) ≤ 3000000 → l45_0 m n s (s.length : Nat) (k : Nat) b = some (0, ((s.length : Nat) : Int), b ++ (s.drop k).flatMap escI)
  | 0, k, _, _, h, _ => by omega
  | n + 1, k, b, h1, h2, h3 => by
    rw [l45_0]
    by_cases hk : k < s.length
    · have e1 : decide (((k : Nat) : Int) < (((List.length s) : Nat) : Int)) = true := decide_eq_true (by omega)
      have e2 : decide ((0 : Int) ≤ ((k : Nat) : Int)) = true := decide_eq_true (by omega)
      have e7 : IntKind.wrap .i64 (((k : Nat) : Int) + (1)) = ((k + 1 : Nat) : Int) := by rw [wrap_id (by omega) (by omega)]; rfl
      have go := fun b' (hb : b'.length ≤ b.length + 2) => quote_loop m s hs n (k + 1) b' (by omega) (by omega) (by omega)
      rw [drop_getD s k 0 hk, List.flatMap_cons]
      simp only [show Int.toNat ((k : Nat) : Int) = k from rfl, e1, e2, e7, ↓reduceIte]
      generalize s.getD k 0 = c at *
      have a1 : decide (((List.length b) + 1) * 1 ≤ 70368744177664) = true := decide_eq_true (by omega)
      have a2 : decide ((((List.length b) + 1) + 1) * 1 ≤ 70368744177664) = true := decide_eq_true (by omega)
      have a3 : decide (((List.length b) + 1) = (List.length (b ++ [(92)]))) = true := decide_eq_true (by simp)
      have yes : (UInt8.toNat c = 34 ∨ UInt8.toNat c = 92) → l45_0 m n s (s.length : Nat) ((k + 1 : Nat) : Int) ((b ++ [(92)]) ++ [((UInt8.toNat c : Nat) : Int)]) = some (0, ((s.length : Nat) : Int), b ++ (escI c ++ (s.drop (k + 1)).flatMap escI)) := by
        intro h
        rw [go _ (by simp)]
        unfold escI
        rw [if_pos h]
        simp
      have no : ¬ (UInt8.toNat c = 34 ∨ UInt8.toNat c = 92) → l45_0 m n s (s.length : Nat) ((k + 1 : Nat) : Int) (b ++ [((UInt8.toNat c : Nat) : Int)]) = some (0, ((s.length : Nat) : Int), b ++ (escI c ++ (s.drop (k + 1)).flatMap escI)) := by
        intro h
        rw [go _ (by simp)]
        unfold escI
        rw [if_neg h]
        simp
      simp only [a1, a2, a3, ↓reduceIte]
      by_cases c1 : UInt8.toNat c = 34
      · rw [if_pos (by rw [c1]; rfl)]; exact yes (.inl c1)
      · rw [if_neg (by simp; omega)]
        by_cases c2 : UInt8.toNat c = 92
        · rw [if_pos (by rw [c2]; rfl)]; exact yes (.inr c2)
        · rw [if_neg (by simp; omega)]; exact no (by simp [c1, c2])
    · have e1 : decide (((k : Nat) : Int) < (((List.length s) : Nat) : Int)) = false := decide_eq_false (by omega)
      have e0 : k = s.length := by omega
      subst e0
      rw [e1, if_neg (by simp), List.drop_length]
      simp
theorem quote45 (s : List UInt8) (h : decide (s.length ≤ 1000000) = true) : ∃ m, p45 m s = some (quoteG s) := by
  have h := of_decide_eq_true h
  refine ⟨s.length, ?_⟩
  have hr := quote_loop s.length s h (s.length + 24) 0 [(34)] (by omega) (by omega) (by simp; omega)
  simp only [Int.natCast_zero, List.drop_zero] at hr
  have hl := flat_le escI_le s
  have hin : ∀ n ∈ s.flatMap escI, 0 ≤ n ∧ n < 256 := by
    intro n hn
    obtain ⟨c, _, hc⟩ := List.mem_flatMap.1 hn
    exact escI_in c n hc
  have hm := flat_map s
  unfold p45 quoteG
  simp only [l45_0R, hr, Option.isSome_some, Option.getD_some, ↓reduceIte]
  generalize s.flatMap escI = t at *
  have l1 : List.length ([(34)] ++ t : List Int) = t.length + 1 := by simp
  have l2 : List.length ([(34)] ++ t ++ [(34)] : List Int) = t.length + 2 := by simp
  rw [l1, l2, if_pos (decide_eq_true (by omega)), if_neg (by simp)]
  rw [if_pos]
  · rw [List.map_append, List.map_append, hm]; rfl
  · rw [Bool.and_eq_true, Bool.and_eq_true, Bool.and_eq_true]
    refine ⟨⟨⟨decide_eq_true rfl, by simp⟩, decide_eq_true (by omega)⟩, ?_⟩
    rw [List.all_eq_true]
    intro n hn
    rw [Bool.and_eq_true, decide_eq_true_eq, decide_eq_true_eq]
    simp only [List.mem_append, List.mem_cons, List.not_mem_nil, or_false] at hn
    rcases hn with (rfl | hn) | rfl
    · omega
    · exact hin n hn
    · omega
def s45 : List AV → Boxes → M (AV × Boxes) := normS [.val .str] [] fun xs B => match xs, B with
  | [(.d (.str c1))], [] => .chk (decide (List.length c1 ≤ 1000000)) (.ret ((.d (.str (quoteG c1))), []))
  | _, _ => .fail
theorem s45_at : CallAt Tryd.prog 45 s45 := by
  refine CallAt.norm (CallAt.weakE (g := fun n => evCall F S14 n 45) (fun n => evCall_atH mixed kinds hds S14 S14_ok n 45) fun xs B r' B' hr => ?_) _ _
  split at hr
  · rename_i c1
    obtain ⟨hp, hr⟩ := (M.run_chk _ _ _).1 hr
    simp only [M.run, Option.some.injEq, Prod.mk.injEq] at hr
    obtain ⟨rfl, rfl⟩ := hr
    obtain ⟨m, hm⟩ := quote45 c1 hp
    obtain ⟨r, B1, h1, h2, h3, h4⟩ := p45_ok m c1 _ hm
    exact ⟨m + 25, r, B1, h1, by simp, h2, h3, h4⟩
  · simp [M.run] at hr
noncomputable def S15 : FuncId → Option (List AV → Boxes → M (AV × Boxes)) := fun f => if f = 45 then some s45 else S14 f
set_option maxHeartbeats 20000000 in
theorem S15_ok : ∀ f s, S15 f = some s → CallAt Tryd.prog f s := by
  intro f s h
  unfold S15 at h
  split at h
  · rename_i e; subst e; cases h; exact s45_at
  · exact S14_ok f s h

end Go.Proofs.YtghkbjflejgieaaDoor.Dec
namespace Go.Proofs.YtghkbjflejgieaaDoor.Dec
open Go.Ev
set_option linter.unusedVariables false
set_option linter.unusedSimpArgs false
set_option maxRecDepth 100000
noncomputable def fn22 : AFn := (F 22).getD ⟨0, [], .bad, false, false, noHd⟩
noncomputable def body22 : AC := fn22.body
def l22_0 (m : Nat) : Nat → List ((List UInt8) × (List UInt8) × Int) → Int → Int → List (List UInt8) → Option (Nat × Int × (List (List UInt8)))
  | 0, _, _, _, _ => none
  | n + 1, x0, s10, s11, b0 => if decide (s11 < s10) = true then
      if decide (0 ≤ s11) = true then
        if decide (s11 < (((List.length x0) : Nat) : Int)) = true then
          if ((List.getD x0 (Int.toNat s11) (([] : List UInt8), (([] : List UInt8), 0))).2.2 == (1)) = true then
            if decide (List.length (List.getD x0 (Int.toNat s11) (([] : List UInt8), (([] : List UInt8), 0))).1 + List.length ([61] : List UInt8) ≤ 4611686018427387904) = true then
              if decide (List.length (List.getD x0 (Int.toNat s11) (([] : List UInt8), (([] : List UInt8), 0))).2.1 ≤ 1000000) = true then
                if decide (List.length ((List.getD x0 (Int.toNat s11) (([] : List UInt8), (([] : List UInt8), 0))).1 ++ ([61] : List UInt8)) + List.length (quoteG (List.getD x0 (Int.toNat s11) (([] : List UInt8), (([] : List UInt8), 0))).2.1) ≤ 4611686018427387904) = true then
                  if decide ((((List.length b0) + 1) * 16) ≤ 70368744177664) = true then
                    l22_0 m n x0 s10 ((IntKind.wrap .i64 (s11 + (1)))) ((b0 ++ [(((List.getD x0 (Int.toNat s11) (([] : List UInt8), (([] : List UInt8), 0))).1 ++ ([61] : List UInt8)) ++ (quoteG (List.getD x0 (Int.toNat s11) (([] : List UInt8), (([] : List UInt8), 0))).2.1))]))
                  else
                    none
                else
                  none
              else
                none
            else
              none
          else
            if ((List.getD x0 (Int.toNat s11) (([] : List UInt8), (([] : List UInt8), 0))).2.2 == (2)) = true then
              if decide (List.length (List.getD x0 (Int.toNat s11) (([] : List UInt8), (([] : List UInt8), 0))).1 + List.length ([33, 61] : List UInt8) ≤ 4611686018427387904) = true then
                if decide (List.length (List.getD x0 (Int.toNat s11) (([] : List UInt8), (([] : List UInt8), 0))).2.1 ≤ 1000000) = true then
                  if decide (List.length ((List.getD x0 (Int.toNat s11) (([] : List UInt8), (([] : List UInt8), 0))).1 ++ ([33, 61] : List UInt8)) + List.length (quoteG (List.getD x0 (Int.toNat s11) (([] : List UInt8), (([] : List UInt8), 0))).2.1) ≤ 4611686018427387904) = true then
                    if decide ((((List.length b0) + 1) * 16) ≤ 70368744177664) = true then
                      l22_0 m n x0 s10 ((IntKind.wrap .i64 (s11 + (1)))) ((b0 ++ [(((List.getD x0 (Int.toNat s11) (([] : List UInt8), (([] : List UInt8), 0))).1 ++ ([33, 61] : List UInt8)) ++ (quoteG (List.getD x0 (Int.toNat s11) (([] : List UInt8), (([] : List UInt8), 0))).2.1))]))
                    else
                      none
                  else
                    none
                else
                  none
              else
                none
            else
              if ((List.getD x0 (Int.toNat s11) (([] : List UInt8), (([] : List UInt8), 0))).2.2 == (3)) = true then
                if decide (List.length (List.getD x0 (Int.toNat s11) (([] : List UInt8), (([] : List UInt8), 0))).1 + List.length ([94, 61] : List UInt8) ≤ 4611686018427387904) = true then
                  if decide (List.length (List.getD x0 (Int.toNat s11) (([] : List UInt8), (([] : List UInt8), 0))).2.1 ≤ 1000000) = true then
                    if decide (List.length ((List.getD x0 (Int.toNat s11) (([] : List UInt8), (([] : List UInt8), 0))).1 ++ ([94, 61] : List UInt8)) + List.length (quoteG (List.getD x0 (Int.toNat s11) (([] : List UInt8), (([] : List UInt8), 0))).2.1) ≤ 4611686018427387904) = true then
                      if decide ((((List.length b0) + 1) * 16) ≤ 70368744177664) = true then
                        l22_0 m n x0 s10 ((IntKind.wrap .i64 (s11 + (1)))) ((b0 ++ [(((List.getD x0 (Int.toNat s11) (([] : List UInt8), (([] : List UInt8), 0))).1 ++ ([94, 61] : List UInt8)) ++ (quoteG (List.getD x0 (Int.toNat s11) (([] : List UInt8), (([] : List UInt8), 0))).2.1))]))
                      else
                        none
                    else
                      none
                  else
                    none
                else
                  none
              else
                if ((List.getD x0 (Int.toNat s11) (([] : List UInt8), (([] : List UInt8), 0))).2.2 == (4)) = true then
                  if decide (List.length (List.getD x0 (Int.toNat s11) (([] : List UInt8), (([] : List UInt8), 0))).1 + List.length ([33, 94] : List UInt8) ≤ 4611686018427387904) = true then
                    if decide (List.length (List.getD x0 (Int.toNat s11) (([] : List UInt8), (([] : List UInt8), 0))).2.1 ≤ 1000000) = true then
                      if decide (List.length ((List.getD x0 (Int.toNat s11) (([] : List UInt8), (([] : List UInt8), 0))).1 ++ ([33, 94] : List UInt8)) + List.length (quoteG (List.getD x0 (Int.toNat s11) (([] : List UInt8), (([] : List UInt8), 0))).2.1) ≤ 4611686018427387904) = true then
                        if decide ((((List.length b0) + 1) * 16) ≤ 70368744177664) = true then
                          l22_0 m n x0 s10 ((IntKind.wrap .i64 (s11 + (1)))) ((b0 ++ [(((List.getD x0 (Int.toNat s11) (([] : List UInt8), (([] : List UInt8), 0))).1 ++ ([33, 94] : List UInt8)) ++ (quoteG (List.getD x0 (Int.toNat s11) (([] : List UInt8), (([] : List UInt8), 0))).2.1))]))
                        else
                          none
                      else
                        none
                    else
                      none
                  else
                    none
                else
                  if decide (List.length (List.getD x0 (Int.toNat s11) (([] : List UInt8), (([] : List UInt8), 0))).1 + List.length ([] : List UInt8) ≤ 4611686018427387904) = true then
                    if decide (List.length (List.getD x0 (Int.toNat s11) (([] : List UInt8), (([] : List UInt8), 0))).2.1 ≤ 1000000) = true then
                      if decide (List.length ((List.getD x0 (Int.toNat s11) (([] : List UInt8), (([] : List UInt8), 0))).1 ++ ([] : List UInt8)) + List.length (quoteG (List.getD x0 (Int.toNat s11) (([] : List UInt8), (([] : List UInt8), 0))).2.1) ≤ 4611686018427387904) = true then
                        if decide ((((List.length b0) + 1) * 16) ≤ 70368744177664) = true then
                          l22_0 m n x0 s10 ((IntKind.wrap .i64 (s11 + (1)))) ((b0 ++ [(((List.getD x0 (Int.toNat s11) (([] : List UInt8), (([] : List UInt8), 0))).1 ++ ([] : List UInt8)) ++ (quoteG (List.getD x0 (Int.toNat s11) (([] : List UInt8), (([] : List UInt8), 0))).2.1))]))
                        else
                          none
                      else
                        none
                    else
                      none
                  else
                    none
        else
          none
      else
        none
    else
      some (0, s11, b0)
def l22_0D : Nat × Int × (List (List UInt8)) := (0, 0, [])
@[reducible] def l22_0R (m n : Nat) (x0 : List ((List UInt8) × (List UInt8) × Int)) (s10 : Int) (s11 : Int) (b0 : List (List UInt8)) : Nat × Int × (List (List UInt8)) := Option.getD (l22_0 m n x0 s10 s11 b0) l22_0D
def l22_0H (x0 : List ((List UInt8) × (List UInt8) × Int)) (s10 : Int) (s11 : Int) (b0 : List (List UInt8)) : Env := [.top, .top, .top, (.sr 0 0 (List.length b0) 1 none), .top, .top, .top, .top, .top, (.d (.sl (.pair .str (.pair .str (.int .i64))) x0)), (.d (.int .i64 s10)), (.d (.int .i64 s11)), .top, .top, .top, .top, .top, .top, .top, .top, .top, .top, .top, .top, .top, .top, .top, .top, .top, .top, .top, .top, .top]
def l22_0B (x0 : List ((List UInt8) × (List UInt8) × Int)) (s10 : Int) (s11 : Int) (b0 : List (List UInt8)) : Boxes := [(.arr .str b0 true)]
def l22_0E (x0 : List ((List UInt8) × (List UInt8) × Int)) (s10 : Int) (s11 : Int) (b0 : List (List UInt8)) : Nat → AEx × Env × Boxes
  | _ => (.exit 0, [.top, .top, .top, (.sr 0 0 (List.length b0) 1 none), .top, .top, .top, .top, .top, (.d (.sl (.pair .str (.pair .str (.int .i64))) x0)), (.d (.int .i64 s10)), (.d (.int .i64 s11)), (.d (.bool (decide (s11 < s10)))), .top, .top, .top, .top, .top, .top, .top, .top, .top, .top, .top, .top, .top, .top, .top, .top, .top, .top, .top, .top], [(.arr .str b0 true)])
noncomputable def lbl22_0 : AC := loopBody 3592 body22

set_option maxHeartbeats 20000000 in
theorem l22_0_w0 (m n : Nat) (x0 : List ((List UInt8) × (List UInt8) × Int)) (s10 : Int) (s11 : Int) (b0 : List (List UInt8)) (r : AEx × Env × Boxes) (c0 : decide (s11 < s10) = true) (c1 : decide (0 ≤ s11) = true) (c2 : decide (s11 < (((List.length x0) : Nat) : Int)) = true) (c3 : ((List.getD x0 (Int.toNat s11) (([] : List UInt8), (([] : List UInt8), 0))).2.2 == (1)) = true) (c4 : decide (List.length (List.getD x0 (Int.toNat s11) (([] : List UInt8), (([] : List UInt8), 0))).1 + List.length ([61] : List UInt8) ≤ 4611686018427387904) = true) (c5 : decide (List.length (List.getD x0 (Int.toNat s11) (([] : List UInt8), (([] : List UInt8), 0))).2.1 ≤ 1000000) = true) (c6 : decide (List.length ((List.getD x0 (Int.toNat s11) (([] : List UInt8), (([] : List UInt8), 0))).1 ++ ([61] : List UInt8)) + List.length (quoteG (List.getD x0 (Int.toNat s11) (([] : List UInt8), (([] : List UInt8), 0))).2.1) ≤ 4611686018427387904) = true) (c8 : decide ((((List.length b0) + 1) * 16) ≤ 70368744177664) = true) (ih : (turns (hds 22 3592) 0 3592 (evC byref (evCall F S15 (m + 24)) (m + 24) 0 (hds 22) lbl22_0) n (l22_0H x0 s10 ((IntKind.wrap .i64 (s11 + (1)))) ((b0 ++ [(((List.getD x0 (Int.toNat s11) (([] : List UInt8), (([] : List UInt8), 0))).1 ++ ([61] : List UInt8)) ++ (quoteG (List.getD x0 (Int.toNat s11) (([] : List UInt8), (([] : List UInt8), 0))).2.1))]))) (l22_0B x0 s10 ((IntKind.wrap .i64 (s11 + (1)))) ((b0 ++ [(((List.getD x0 (Int.toNat s11) (([] : List UInt8), (([] : List UInt8), 0))).1 ++ ([61] : List UInt8)) ++ (quoteG (List.getD x0 (Int.toNat s11) (([] : List UInt8), (([] : List UInt8), 0))).2.1))])))).run = some r) : (turns (hds 22 3592) 0 3592 (evC byref (evCall F S15 (m + 24)) (m + 24) 0 (hds 22) lbl22_0) (n + 1) (l22_0H x0 s10 s11 b0) (l22_0B x0 s10 s11 b0)).run = some r := by
  have ht : (turn (hds 22 3592) 0 3592 (evC byref (evCall F S15 (m + 24)) (m + 24) 0 (hds 22) lbl22_0) (l22_0H x0 s10 s11 b0) (l22_0B x0 s10 s11 b0)).run = some (.normal, [.top, .top, .top, (.sr 0 0 ((List.length b0) + 1) 1 none), .top, .top, .top, .top, .top, (.d (.sl (.pair .str (.pair .str (.int .i64))) x0)), (.d (.int .i64 s10)), (.d (.int .i64 (IntKind.wrap .i64 (s11 + (1))))), .top, .top, .top, .top, .top, .top, .top, .top, .top, .top, .top, .top, .top, .top, .top, .top, .top, .top, .top, .top, .top], [(.arr .str (b0 ++ [(((List.getD x0 (Int.toNat s11) (([] : List UInt8), (([] : List UInt8), 0))).1 ++ ([61] : List UInt8)) ++ (quoteG (List.getD x0 (Int.toNat s11) (([] : List UInt8), (([] : List UInt8), 0))).2.1))]) true)]) := M.run_of_path _ [true, true, true, true, true, true, true, true, true, true] _ _ (by kernel_rfl) (all_t c0 (all_t c1 (all_t c2 (all_t c3 (all_t c4 (all_t c5 (all_t c6 (all_t rfl (all_t c8 (all_t (show decide ((List.length b0) = (List.length b0)) = true from decide_eq_true rfl) all_nil))))))))))
  refine turns_step ht (turns_eq ?_ ?_ ih)
  · unfold l22_0H
    first | (simp; done) | (simp [Nat.add_assoc]; done)
  · unfold l22_0B
    simp
set_option maxHeartbeats 20000000 in
theorem l22_0_w1 (m n : Nat) (x0 : List ((List UInt8) × (List UInt8) × Int)) (s10 : Int) (s11 : Int) (b0 : List (List UInt8)) (r : AEx × Env × Boxes) (c0 : decide (s11 < s10) = true) (c1 : decide (0 ≤ s11) = true) (c2 : decide (s11 < (((List.length x0) : Nat) : Int)) = true) (c3 : ¬ ((List.getD x0 (Int.toNat s11) (([] : List UInt8), (([] : List UInt8), 0))).2.2 == (1)) = true) (c4 : ((List.getD x0 (Int.toNat s11) (([] : List UInt8), (([] : List UInt8), 0))).2.2 == (2)) = true) (c5 : decide (List.length (List.getD x0 (Int.toNat s11) (([] : List UInt8), (([] : List UInt8), 0))).1 + List.length ([33, 61] : List UInt8) ≤ 4611686018427387904) = true) (c6 : decide (List.length (List.getD x0 (Int.toNat s11) (([] : List UInt8), (([] : List UInt8), 0))).2.1 ≤ 1000000) = true) (c7 : decide (List.length ((List.getD x0 (Int.toNat s11) (([] : List UInt8), (([] : List UInt8), 0))).1 ++ ([33, 61] : List UInt8)) + List.length (quoteG (List.getD x0 (Int.toNat s11) (([] : List UInt8), (([] : List UInt8), 0))).2.1) ≤ 4611686018427387904) = true) (c9 : decide ((((List.length b0) + 1) * 16) ≤ 70368744177664) = true) (ih : (turns (hds 22 3592) 0 3592 (evC byref (evCall F S15 (m + 24)) (m + 24) 0 (hds 22) lbl22_0) n (l22_0H x0 s10 ((IntKind.wrap .i64 (s11 + (1)))) ((b0 ++ [(((List.getD x0 (Int.toNat s11) (([] : List UInt8), (([] : List UInt8), 0))).1 ++ ([33, 61] : List UInt8)) ++ (quoteG (List.getD x0 (Int.toNat s11) (([] : List UInt8), (([] : List UInt8), 0))).2.1))]))) (l22_0B x0 s10 ((IntKind.wrap .i64 (s11 + (1)))) ((b0 ++ [(((List.getD x0 (Int.toNat s11) (([] : List UInt8), (([] : List UInt8), 0))).1 ++ ([33, 61] : List UInt8)) ++ (quoteG (List.getD x0 (Int.toNat s11) (([] : List UInt8), (([] : List UInt8), 0))).2.1))])))).run = some r) : (turns (hds 22 3592) 0 3592 (evC byref (evCall F S15 (m + 24)) (m + 24) 0 (hds 22) lbl22_0) (n + 1) (l22_0H x0 s10 s11 b0) (l22_0B x0 s10 s11 b0)).run = some r := by
  have ht : (turn (hds 22 3592) 0 3592 (evC byref (evCall F S15 (m + 24)) (m + 24) 0 (hds 22) lbl22_0) (l22_0H x0 s10 s11 b0) (l22_0B x0 s10 s11 b0)).run = some (.normal, [.top, .top, .top, (.sr 0 0 ((List.length b0) + 1) 1 none), .top, .top, .top, .top, .top, (.d (.sl (.pair .str (.pair .str (.int .i64))) x0)), (.d (.int .i64 s10)), (.d (.int .i64 (IntKind.wrap .i64 (s11 + (1))))), .top, .top, .top, .top, .top, .top, .top, .top, .top, .top, .top, .top, .top, .top, .top, .top, .top, .top, .top, .top, .top], [(.arr .str (b0 ++ [(((List.getD x0 (Int.toNat s11) (([] : List UInt8), (([] : List UInt8), 0))).1 ++ ([33, 61] : List UInt8)) ++ (quoteG (List.getD x0 (Int.toNat s11) (([] : List UInt8), (([] : List UInt8), 0))).2.1))]) true)]) := M.run_of_path _ [true, true, true, false, true, true, true, true, true, true, true] _ _ (by kernel_rfl) (all_t c0 (all_t c1 (all_t c2 (all_f c3 (all_t c4 (all_t c5 (all_t c6 (all_t c7 (all_t rfl (all_t c9 (all_t (show decide ((List.length b0) = (List.length b0)) = true from decide_eq_true rfl) all_nil)))))))))))
  refine turns_step ht (turns_eq ?_ ?_ ih)
  · unfold l22_0H
    first | (simp; done) | (simp [Nat.add_assoc]; done)
  · unfold l22_0B
    simp
set_option maxHeartbeats 20000000 in
theorem l22_0_w2 (m n : Nat) (x0 : List ((List UInt8) × (List UInt8) × Int)) (s10 : Int) (s11 : Int) (b0 : List (List UInt8)) (r : AEx × Env × Boxes) (c0 : decide (s11 < s10) = true) (c1 : decide (0 ≤ s11) = true) (c2 : decide (s11 < (((List.length x0) : Nat) : Int)) = true) (c3 : ¬ ((List.getD x0 (Int.toNat s11) (([] : List UInt8), (([] : List UInt8), 0))).2.2 == (1)) = true) (c4 : ¬ ((List.getD x0 (Int.toNat s11) (([] : List UInt8), (([] : List UInt8), 0))).2.2 == (2)) = true) (c5 : ((List.getD x0 (Int.toNat s11) (([] : List UInt8), (([] : List UInt8), 0))).2.2 == (3)) = true) (c6 : decide (List.length (List.getD x0 (Int.toNat s11) (([] : List UInt8), (([] : List UInt8), 0))).1 + List.length ([94, 61] : List UInt8) ≤ 4611686018427387904) = true) (c7 : decide (List.length (List.getD x0 (Int.toNat s11) (([] : List UInt8), (([] : List UInt8), 0))).2.1 ≤ 1000000) = true) (c8 : decide (List.length ((List.getD x0 (Int.toNat s11) (([] : List UInt8), (([] : List UInt8), 0))).1 ++ ([94, 61] : List UInt8)) + List.length (quoteG (List.getD x0 (Int.toNat s11) (([] : List UInt8), (([] : List UInt8), 0))).2.1) ≤ 4611686018427387904) = true) (c10 : decide ((((List.length b0) + 1) * 16) ≤ 70368744177664) = true) (ih : (turns (hds 22 3592) 0 3592 (evC byref (evCall F S15 (m + 24)) (m + 24) 0 (hds 22) lbl22_0) n (l22_0H x0 s10 ((IntKind.wrap .i64 (s11 + (1)))) ((b0 ++ [(((List.getD x0 (Int.toNat s11) (([] : List UInt8), (([] : List UInt8), 0))).1 ++ ([94, 61] : List UInt8)) ++ (quoteG (List.getD x0 (Int.toNat s11) (([] : List UInt8), (([] : List UInt8), 0))).2.1))]))) (l22_0B x0 s10 ((IntKind.wrap .i64 (s11 + (1)))) ((b0 ++ [(((List.getD x0 (Int.toNat s11) (([] : List UInt8), (([] : List UInt8), 0))).1 ++ ([94, 61] : List UInt8)) ++ (quoteG (List.getD x0 (Int.toNat s11) (([] : List UInt8), (([] : List UInt8), 0))).2.1))])))).run = some r) : (turns (hds 22 3592) 0 3592 (evC byref (evCall F S15 (m + 24)) (m + 24) 0 (hds 22) lbl22_0) (n + 1) (l22_0H x0 s10 s11 b0) (l22_0B x0 s10 s11 b0)).run = some r := by
  have ht : (turn (hds 22 3592) 0 3592 (evC byref (evCall F S15 (m + 24)) (m + 24) 0 (hds 22) lbl22_0) (l22_0H x0 s10 s11 b0) (l22_0B x0 s10 s11 b0)).run = some (.normal, [.top, .top, .top, (.sr 0 0 ((List.length b0) + 1) 1 none), .top, .top, .top, .top, .top, (.d (.sl (.pair .str (.pair .str (.int .i64))) x0)), (.d (.int .i64 s10)), (.d (.int .i64 (IntKind.wrap .i64 (s11 + (1))))), .top, .top, .top, .top, .top, .top, .top, .top, .top, .top, .top, .top, .top, .top, .top, .top, .top, .top, .top, .top, .top], [(.arr .str (b0 ++ [(((List.getD x0 (Int.toNat s11) (([] : List UInt8), (([] : List UInt8), 0))).1 ++ ([94, 61] : List UInt8)) ++ (quoteG (List.getD x0 (Int.toNat s11) (([] : List UInt8), (([] : List UInt8), 0))).2.1))]) true)]) := M.run_of_path _ [true, true, true, false, false, true, true, true, true, true, true, true] _ _ (by kernel_rfl) (all_t c0 (all_t c1 (all_t c2 (all_f c3 (all_f c4 (all_t c5 (all_t c6 (all_t c7 (all_t c8 (all_t rfl (all_t c10 (all_t (show decide ((List.length b0) = (List.length b0)) = true from decide_eq_true rfl) all_nil))))))))))))
  refine turns_step ht (turns_eq ?_ ?_ ih)
  · unfold l22_0H
    first | (simp; done) | (simp [Nat.add_assoc]; done)
  · unfold l22_0B
    simp
set_option maxHeartbeats 20000000 in
theorem l22_0_w3 (m n : Nat) (x0 : List ((List UInt8) × (List UInt8) × Int)) (s10 : Int) (s11 : Int) (b0 : List (List UInt8)) (r : AEx × Env × Boxes) (c0 : decide (s11 < s10) = true) (c1 : decide (0 ≤ s11) = true) (c2 : decide (s11 < (((List.length x0) : Nat) : Int)) = true) (c3 : ¬ ((List.getD x0 (Int.toNat s11) (([] : List UInt8), (([] : List UInt8), 0))).2.2 == (1)) = true) (c4 : ¬ ((List.getD x0 (Int.toNat s11) (([] : List UInt8), (([] : List UInt8), 0))).2.2 == (2)) = true) (c5 : ¬ ((List.getD x0 (Int.toNat s11) (([] : List UInt8), (([] : List UInt8), 0))).2.2 == (3)) = true) (c6 : ((List.getD x0 (Int.toNat s11) (([] : List UInt8), (([] : List UInt8), 0))).2.2 == (4)) = true) (c7 : decide (List.length (List.getD x0 (Int.toNat s11) (([] : List UInt8), (([] : List UInt8), 0))).1 + List.length ([33, 94] : List UInt8) ≤ 4611686018427387904) = true) (c8 : decide (List.length (List.getD x0 (Int.toNat s11) (([] : List UInt8), (([] : List UInt8), 0))).2.1 ≤ 1000000) = true) (c9 : decide (List.length ((List.getD x0 (Int.toNat s11) (([] : List UInt8), (([] : List UInt8), 0))).1 ++ ([33, 94] : List UInt8)) + List.length (quoteG (List.getD x0 (Int.toNat s11) (([] : List UInt8), (([] : List UInt8), 0))).2.1) ≤ 4611686018427387904) = true) (c11 : decide ((((List.length b0) + 1) * 16) ≤ 70368744177664) = true) (ih : (turns (hds 22 3592) 0 3592 (evC byref (evCall F S15 (m + 24)) (m + 24) 0 (hds 22) lbl22_0) n (l22_0H x0 s10 ((IntKind.wrap .i64 (s11 + (1)))) ((b0 ++ [(((List.getD x0 (Int.toNat s11) (([] : List UInt8), (([] : List UInt8), 0))).1 ++ ([33, 94] : List UInt8)) ++ (quoteG (List.getD x0 (Int.toNat s11) (([] : List UInt8), (([] : List UInt8), 0))).2.1))]))) (l22_0B x0 s10 ((IntKind.wrap .i64 (s11 + (1)))) ((b0 ++ [(((List.getD x0 (Int.toNat s11) (([] : List UInt8), (([] : List UInt8), 0))).1 ++ ([33, 94] : List UInt8)) ++ (quoteG (List.getD x0 (Int.toNat s11) (([] : List UInt8), (([] : List UInt8), 0))).2.1))])))).run = some r) : (turns (hds 22 3592) 0 3592 (evC byref (evCall F S15 (m + 24)) (m + 24) 0 (hds 22) lbl22_0) (n + 1) (l22_0H x0 s10 s11 b0) (l22_0B x0 s10 s11 b0)).run = some r := by
  have ht : (turn (hds 22 3592) 0 3592 (evC byref (evCall F S15 (m + 24)) (m + 24) 0 (hds 22) lbl22_0) (l22_0H x0 s10 s11 b0) (l22_0B x0 s10 s11 b0)).run = some (.normal, [.top, .top, .top, (.sr 0 0 ((List.length b0) + 1) 1 none), .top, .top, .top, .top, .top, (.d (.sl (.pair .str (.pair .str (.int .i64))) x0)), (.d (.int .i64 s10)), (.d (.int .i64 (IntKind.wrap .i64 (s11 + (1))))), .top, .top, .top, .top, .top, .top, .top, .top, .top, .top, .top, .top, .top, .top, .top, .top, .top, .top, .top, .top, .top], [(.arr .str (b0 ++ [(((List.getD x0 (Int.toNat s11) (([] : List UInt8), (([] : List UInt8), 0))).1 ++ ([33, 94] : List UInt8)) ++ (quoteG (List.getD x0 (Int.toNat s11) (([] : List UInt8), (([] : List UInt8), 0))).2.1))]) true)]) := M.run_of_path _ [true, true, true, false, false, false, true, true, true, true, true, true, true] _ _ (by kernel_rfl) (all_t c0 (all_t c1 (all_t c2 (all_f c3 (all_f c4 (all_f c5 (all_t c6 (all_t c7 (all_t c8 (all_t c9 (all_t rfl (all_t c11 (all_t (show decide ((List.length b0) = (List.length b0)) = true from decide_eq_true rfl) all_nil)))))))))))))
  refine turns_step ht (turns_eq ?_ ?_ ih)
  · unfold l22_0H
    first | (simp; done) | (simp [Nat.add_assoc]; done)
  · unfold l22_0B
    simp
set_option maxHeartbeats 20000000 in
theorem l22_0_w4 (m n : Nat) (x0 : List ((List UInt8) × (List UInt8) × Int)) (s10 : Int) (s11 : Int) (b0 : List (List UInt8)) (r : AEx × Env × Boxes) (c0 : decide (s11 < s10) = true) (c1 : decide (0 ≤ s11) = true) (c2 : decide (s11 < (((List.length x0) : Nat) : Int)) = true) (c3 : ¬ ((List.getD x0 (Int.toNat s11) (([] : List UInt8), (([] : List UInt8), 0))).2.2 == (1)) = true) (c4 : ¬ ((List.getD x0 (Int.toNat s11) (([] : List UInt8), (([] : List UInt8), 0))).2.2 == (2)) = true) (c5 : ¬ ((List.getD x0 (Int.toNat s11) (([] : List UInt8), (([] : List UInt8), 0))).2.2 == (3)) = true) (c6 : ¬ ((List.getD x0 (Int.toNat s11) (([] : List UInt8), (([] : List UInt8), 0))).2.2 == (4)) = true) (c7 : decide (List.length (List.getD x0 (Int.toNat s11) (([] : List UInt8), (([] : List UInt8), 0))).1 + List.length ([] : List UInt8) ≤ 4611686018427387904) = true) (c8 : decide (List.length (List.getD x0 (Int.toNat s11) (([] : List UInt8), (([] : List UInt8), 0))).2.1 ≤ 1000000) = true) (c9 : decide (List.length ((List.getD x0 (Int.toNat s11) (([] : List UInt8), (([] : List UInt8), 0))).1 ++ ([] : List UInt8)) + List.length (quoteG (List.getD x0 (Int.toNat s11) (([] : List UInt8), (([] : List UInt8), 0))).2.1) ≤ 4611686018427387904) = true) (c11 : decide ((((List.length b0) + 1) * 16) ≤ 70368744177664) = true) (ih : (turns (hds 22 3592) 0 3592 (evC byref (evCall F S15 (m + 24)) (m + 24) 0 (hds 22) lbl22_0) n (l22_0H x0 s10 ((IntKind.wrap .i64 (s11 + (1)))) ((b0 ++ [(((List.getD x0 (Int.toNat s11) (([] : List UInt8), (([] : List UInt8), 0))).1 ++ ([] : List UInt8)) ++ (quoteG (List.getD x0 (Int.toNat s11) (([] : List UInt8), (([] : List UInt8), 0))).2.1))]))) (l22_0B x0 s10 ((IntKind.wrap .i64 (s11 + (1)))) ((b0 ++ [(((List.getD x0 (Int.toNat s11) (([] : List UInt8), (([] : List UInt8), 0))).1 ++ ([] : List UInt8)) ++ (quoteG (List.getD x0 (Int.toNat s11) (([] : List UInt8), (([] : List UInt8), 0))).2.1))])))).run = some r) : (turns (hds 22 3592) 0 3592 (evC byref (evCall F S15 (m + 24)) (m + 24) 0 (hds 22) lbl22_0) (n + 1) (l22_0H x0 s10 s11 b0) (l22_0B x0 s10 s11 b0)).run = some r := by
  have ht : (turn (hds 22 3592) 0 3592 (evC byref (evCall F S15 (m + 24)) (m + 24) 0 (hds 22) lbl22_0) (l22_0H x0 s10 s11 b0) (l22_0B x0 s10 s11 b0)).run = some (.normal, [.top, .top, .top, (.sr 0 0 ((List.length b0) + 1) 1 none), .top, .top, .top, .top, .top, (.d (.sl (.pair .str (.pair .str (.int .i64))) x0)), (.d (.int .i64 s10)), (.d (.int .i64 (IntKind.wrap .i64 (s11 + (1))))), .top, .top, .top, .top, .top, .top, .top, .top, .top, .top, .top, .top, .top, .top, .top, .top, .top, .top, .top, .top, .top], [(.arr .str (b0 ++ [(((List.getD x0 (Int.toNat s11) (([] : List UInt8), (([] : List UInt8), 0))).1 ++ ([] : List UInt8)) ++ (quoteG (List.getD x0 (Int.toNat s11) (([] : List UInt8), (([] : List UInt8), 0))).2.1))]) true)]) := M.run_of_path _ [true, true, true, false, false, false, false, true, true, true, true, true, true] _ _ (by kernel_rfl) (all_t c0 (all_t c1 (all_t c2 (all_f c3 (all_f c4 (all_f c5 (all_f c6 (all_t c7 (all_t c8 (all_t c9 (all_t rfl (all_t c11 (all_t (show decide ((List.length b0) = (List.length b0)) = true from decide_eq_true rfl) all_nil)))))))))))))
  refine turns_step ht (turns_eq ?_ ?_ ih)
  · unfold l22_0H
    first | (simp; done) | (simp [Nat.add_assoc]; done)
  · unfold l22_0B
    simp
set_option maxHeartbeats 20000000 in
theorem l22_0_w5 (m n : Nat) (x0 : List ((List UInt8) × (List UInt8) × Int)) (s10 : Int) (s11 : Int) (b0 : List (List UInt8)) (c0 : ¬ decide (s11 < s10) = true) : (turns (hds 22 3592) 0 3592 (evC byref (evCall F S15 (m + 24)) (m + 24) 0 (hds 22) lbl22_0) (n + 1) (l22_0H x0 s10 s11 b0) (l22_0B x0 s10 s11 b0)).run = some (.exit 0, [.top, .top, .top, (.sr 0 0 (List.length b0) 1 none), .top, .top, .top, .top, .top, (.d (.sl (.pair .str (.pair .str (.int .i64))) x0)), (.d (.int .i64 s10)), (.d (.int .i64 s11)), (.d (.bool (decide (s11 < s10)))), .top, .top, .top, .top, .top, .top, .top, .top, .top, .top, .top, .top, .top, .top, .top, .top, .top, .top, .top, .top], [(.arr .str b0 true)]) := by
  exact turns_last (by simp) (M.run_of_path _ [false] _ _ (by kernel_rfl) (all_f c0 all_nil)) 

set_option maxHeartbeats 20000000 in
theorem l22_0_step (m n : Nat) (ih : ∀ (x0 : List ((List UInt8) × (List UInt8) × Int)) (s10 : Int) (s11 : Int) (b0 : List (List UInt8)) (q : Nat × Int × (List (List UInt8))), l22_0 m n x0 s10 s11 b0 = some q → (turns (hds 22 3592) 0 3592 (evC byref (evCall F S15 (m + 24)) (m + 24) 0 (hds 22) lbl22_0) n (l22_0H x0 s10 s11 b0) (l22_0B x0 s10 s11 b0)).run = some (l22_0E (x0) (s10) (q.2.1) (q.2.2) q.1)) (x0 : List ((List UInt8) × (List UInt8) × Int)) (s10 : Int) (s11 : Int) (b0 : List (List UInt8)) (q : Nat × Int × (List (List UInt8))) (h : l22_0 m (n + 1) x0 s10 s11 b0 = some q) : (turns (hds 22 3592) 0 3592 (evC byref (evCall F S15 (m + 24)) (m + 24) 0 (hds 22) lbl22_0) (n + 1) (l22_0H x0 s10 s11 b0) (l22_0B x0 s10 s11 b0)).run = some (l22_0E (x0) (s10) (q.2.1) (q.2.2) q.1) := by
  rw [l22_0] at h
  refine ite_cases h (fun c0 h => ?_) (fun c0 h => ?_)
  · skip
    refine ite_cases h (fun c1 h => ?_) (fun c1 h => ?_)
    · skip
      refine ite_cases h (fun c2 h => ?_) (fun c2 h => ?_)
      · skip
        refine ite_cases h (fun c3 h => ?_) (fun c3 h => ?_)
        · skip
          refine ite_cases h (fun c4 h => ?_) (fun c4 h => ?_)
          · skip
            refine ite_cases h (fun c5 h => ?_) (fun c5 h => ?_)
            · skip
              refine ite_cases h (fun c6 h => ?_) (fun c6 h => ?_)
              · skip
                refine ite_cases h (fun c8 h => ?_) (fun c8 h => ?_)
                · skip
                  exact l22_0_w0 m n x0 s10 s11 b0 _ c0 c1 c2 c3 c4 c5 c6 c8 (ih _ _ _ _ q h)
                · skip
                  cases h
              · skip
                cases h
            · skip
              cases h
          · skip
            cases h
        · skip
          refine ite_cases h (fun c4 h => ?_) (fun c4 h => ?_)
          · skip
            refine ite_cases h (fun c5 h => ?_) (fun c5 h => ?_)
            · skip
              refine ite_cases h (fun c6 h => ?_) (fun c6 h => ?_)
              · skip
                refine ite_cases h (fun c7 h => ?_) (fun c7 h => ?_)
                · skip
                  refine ite_cases h (fun c9 h => ?_) (fun c9 h => ?_)
                  · skip
                    exact l22_0_w1 m n x0 s10 s11 b0 _ c0 c1 c2 c3 c4 c5 c6 c7 c9 (ih _ _ _ _ q h)
                  · skip
                    cases h
                · skip
                  cases h
              · skip
                cases h
            · skip
              cases h
          · skip
            refine ite_cases h (fun c5 h => ?_) (fun c5 h => ?_)
            · skip
              refine ite_cases h (fun c6 h => ?_) (fun c6 h => ?_)
              · skip
                refine ite_cases h (fun c7 h => ?_) (fun c7 h => ?_)
                · skip
                  refine ite_cases h (fun c8 h => ?_) (fun c8 h => ?_)
                  · skip
                    refine ite_cases h (fun c10 h => ?_) (fun c10 h => ?_)
                    · skip
                      exact l22_0_w2 m n x0 s10 s11 b0 _ c0 c1 c2 c3 c4 c5 c6 c7 c8 c10 (ih _ _ _ _ q h)
                    · skip
                      cases h
                  · skip
                    cases h
                · skip
                  cases h
              · skip
                cases h
            · skip
              refine ite_cases h (fun c6 h => ?_) (fun c6 h => ?_)
              · skip
                refine ite_cases h (fun c7 h => ?_) (fun c7 h => ?_)
                · skip
                  refine ite_cases h (fun c8 h => ?_) (fun c8 h => ?_)
                  · skip
                    refine ite_cases h (fun c9 h => ?_) (fun c9 h => ?_)
                    · skip
                      refine ite_cases h (fun c11 h => ?_) (fun c11 h => ?_)
                      · skip
                        exact l22_0_w3 m n x0 s10 s11 b0 _ c0 c1 c2 c3 c4 c5 c6 c7 c8 c9 c11 (ih _ _ _ _ q h)
                      · skip
                        cases h
                    · skip
                      cases h
                  · skip
                    cases h
                · skip
                  cases h
              · skip
                refine ite_cases h (fun c7 h => ?_) (fun c7 h => ?_)
                · skip
                  refine ite_cases h (fun c8 h => ?_) (fun c8 h => ?_)
                  · skip
                    refine ite_cases h (fun c9 h => ?_) (fun c9 h => ?_)
                    · skip
                      refine ite_cases h (fun c11 h => ?_) (fun c11 h => ?_)
                      · skip
                        exact l22_0_w4 m n x0 s10 s11 b0 _ c0 c1 c2 c3 c4 c5 c6 c7 c8 c9 c11 (ih _ _ _ _ q h)
                      · skip
                        cases h
                    · skip
                      cases h
                  · skip
                    cases h
                · skip
                  cases h
      · skip
        cases h
    · skip
      cases h
  · skip
    cases h
    exact l22_0_w5 m n x0 s10 s11 b0 c0
set_option maxHeartbeats 20000000 in
theorem l22_0_ok (m : Nat) : ∀ (n : Nat) (x0 : List ((List UInt8) × (List UInt8) × Int)) (s10 : Int) (s11 : Int) (b0 : List (List UInt8)) (q : Nat × Int × (List (List UInt8))), l22_0 m n x0 s10 s11 b0 = some q → (turns (hds 22 3592) 0 3592 (evC byref (evCall F S15 (m + 24)) (m + 24) 0 (hds 22) lbl22_0) n (l22_0H x0 s10 s11 b0) (l22_0B x0 s10 s11 b0)).run = some (l22_0E (x0) (s10) (q.2.1) (q.2.2) q.1)
  | 0, x0, s10, s11, b0, q, h => by cases h
  | n + 1, x0, s10, s11, b0, q, h => l22_0_step m n (l22_0_ok m n) x0 s10 s11 b0 q h

def p22 (m : Nat) (x0 : List ((List UInt8) × (List UInt8) × Int)) : Option ((List UInt8)) :=
  if rightPre x0 = true then
    if (rightG x0) = true then
      if (Option.isSome (l22_0 m (m + 24) x0 ((((List.length x0) : Nat) : Int)) 0 (([] : List (List UInt8))))) = true then
        if (decide (List.length (List.take (List.length (l22_0R m (m + 24) x0 ((((List.length x0) : Nat) : Int)) 0 (([] : List (List UInt8)))).2.2) (List.drop 0 (l22_0R m (m + 24) x0 ((((List.length x0) : Nat) : Int)) 0 (([] : List (List UInt8)))).2.2)) ≤ 140737488355328) && decide (List.length (Lib.join (List.take (List.length (l22_0R m (m + 24) x0 ((((List.length x0) : Nat) : Int)) 0 (([] : List (List UInt8)))).2.2) (List.drop 0 (l22_0R m (m + 24) x0 ((((List.length x0) : Nat) : Int)) 0 (([] : List (List UInt8)))).2.2)) ([44] : List UInt8)) ≤ 140737488355328)) = true then
          if decide (List.length ([123] : List UInt8) + List.length (Lib.join (List.take (List.length (l22_0R m (m + 24) x0 ((((List.length x0) : Nat) : Int)) 0 (([] : List (List UInt8)))).2.2) (List.drop 0 (l22_0R m (m + 24) x0 ((((List.length x0) : Nat) : Int)) 0 (([] : List (List UInt8)))).2.2)) ([44] : List UInt8)) ≤ 4611686018427387904) = true then
            if decide (List.length (([123] : List UInt8) ++ (Lib.join (List.take (List.length (l22_0R m (m + 24) x0 ((((List.length x0) : Nat) : Int)) 0 (([] : List (List UInt8)))).2.2) (List.drop 0 (l22_0R m (m + 24) x0 ((((List.length x0) : Nat) : Int)) 0 (([] : List (List UInt8)))).2.2)) ([44] : List UInt8))) + List.length ([125] : List UInt8) ≤ 4611686018427387904) = true then
              some (((([123] : List UInt8) ++ (Lib.join (List.take (List.length (l22_0R m (m + 24) x0 ((((List.length x0) : Nat) : Int)) 0 (([] : List (List UInt8)))).2.2) (List.drop 0 (l22_0R m (m + 24) x0 ((((List.length x0) : Nat) : Int)) 0 (([] : List (List UInt8)))).2.2)) ([44] : List UInt8))) ++ ([125] : List UInt8)))
            else
              none
          else
            none
        else
          none
      else
        none
    else
      some (([] : List UInt8))
  else
    none
set_option maxHeartbeats 20000000 in
theorem p22_ok (m : Nat) (x0 : List ((List UInt8) × (List UInt8) × Int)) (q : (List UInt8)) (h : p22 m x0 = some q) : ∃ r B1, (evCall F S15 (m + 25) 22 [(.d (.sl (.pair .str (.pair .str (.int .i64))) x0))] []).run = some (r, B1) ∧ 0 ≤ B1.length ∧ wkR B1 [] r (.d (.str q)) ∧ wkBs B1 [] 0 [] := by
  unfold p22 at h
  refine ite_cases h (fun c0 h => ?_) (fun c0 h => ?_)
  · skip
    refine ite_cases h (fun c1 h => ?_) (fun c1 h => ?_)
    · skip
      refine ite_cases h (fun c2 h => ?_) (fun c2 h => ?_)
      · skip
        refine ite_cases h (fun c4 h => ?_) (fun c4 h => ?_)
        · skip
          refine ite_cases h (fun c5 h => ?_) (fun c5 h => ?_)
          · skip
            refine ite_cases h (fun c6 h => ?_) (fun c6 h => ?_)
            · skip
              cases h
              refine ⟨(.d (.str ((([123] : List UInt8) ++ (Lib.join (List.take (List.length (l22_0R m (m + 24) x0 ((((List.length x0) : Nat) : Int)) 0 (([] : List (List UInt8)))).2.2) (List.drop 0 (l22_0R m (m + 24) x0 ((((List.length x0) : Nat) : Int)) 0 (([] : List (List UInt8)))).2.2)) ([44] : List UInt8))) ++ ([125] : List UInt8)))), [], runT_ok (LS := (fun k => if k = 3592 then some (l22_0E x0 (((((List.length x0) : Nat) : Int))) ((l22_0R m (m + 24) x0 ((((List.length x0) : Nat) : Int)) 0 (([] : List (List UInt8)))).2.1) ((l22_0R m (m + 24) x0 ((((List.length x0) : Nat) : Int)) 0 (([] : List (List UInt8)))).2.2) 0) else none)) (fn := fn22) (vis := [(3592, l22_0H x0 ((((List.length x0) : Nat) : Int)) 0 (([] : List (List UInt8))), l22_0B x0 ((((List.length x0) : Nat) : Int)) 0 (([] : List (List UInt8))))]) (by kernel_rfl) rfl (by kernel_rfl) (M.run_of_path _ [true, false, true, true, true, true] _ _ (by kernel_rfl) (all_t c0 (all_nt c1 (all_t (show decide ((0 + (List.length (l22_0R m (m + 24) x0 ((((List.length x0) : Nat) : Int)) 0 (([] : List (List UInt8)))).2.2)) ≤ (List.length (l22_0R m (m + 24) x0 ((((List.length x0) : Nat) : Int)) 0 (([] : List (List UInt8)))).2.2)) = true from decide_eq_true (Nat.le_of_eq (Nat.zero_add _))) (all_t c4 (all_t c5 (all_t c6 all_nil))))))) ?_, by simp, (wkR.one (wkV.one (wk1.eq rfl))), trivial⟩
              intro p hp p2 hq
              rcases List.mem_cons.1 hp with rfl | hp
              · skip
                have h3 := l22_0_ok m (m + 24) x0 ((((List.length x0) : Nat) : Int)) 0 (([] : List (List UInt8))) _ (some_getD (d := l22_0D) c2)
                exact Eq.trans (Eq.mp (by kernel_rfl) h3) hq
              cases hp
            · skip
              cases h
          · skip
            cases h
        · skip
          cases h
      · skip
        cases h
    · skip
      cases h
      refine ⟨(.d (.str ([] : List UInt8))), [], runT_ok (LS := (fun k => none)) (fn := fn22) (vis := []) (by kernel_rfl) rfl (by kernel_rfl) (M.run_of_path _ [true, true] _ _ (by kernel_rfl) (all_t c0 (all_nf c1 all_nil))) ?_, by simp, (wkR.one (wkV.one (wk1.eq rfl))), trivial⟩
      intro p hp; cases hp
  · skip
    cases h

def signB (k : Int) : List UInt8 := if k = 1 then [61] else if k = 2 then [33, 61] else if k = 3 then [94, 61] else if k = 4 then [33, 94] else []
def itemG (m : MT) : List UInt8 := (m.1 ++ signB m.2.2) ++ quoteG m.2.1
/-- Printed matchers. -/
def printG (ms : List MT) : List UInt8 := if rightG ms = true then ([123] ++ Lib.join (ms.map itemG) [44]) ++ [125] else []
theorem sign_le (k : Int) : (signB k).length ≤ 2 := by
  unfold signB
  split
  · simp
  · split
    · simp
    · split
      · simp
      · split <;> simp
theorem right_all {ms : List MT} (h : rightG ms = true) : ms.length ≤ 6 ∧ ∀ x ∈ ms, x.1.length ≤ 24 ∧ x.2.1.length ≤ 24 := by
  unfold rightG at h
  rw [Bool.and_eq_true, decide_eq_true_eq] at h
  refine ⟨h.2, fun x hx => ?_⟩
  have := List.all_eq_true.1 h.1 x hx
  unfold okM wordG at this
  simp only [Bool.and_eq_true, decide_eq_true_eq] at this
  omega
theorem inter_le (sep : List UInt8) (B : Nat) : ∀ (l : List (List UInt8)), (∀ x ∈ l, x.length ≤ B) → (Lib.join l sep).length ≤ l.length * (B + sep.length)
  | [], _ => Nat.zero_le _
  | [a], h => by
    have := h a (List.mem_cons_self ..)
    have e : Lib.join [a] sep = a := by unfold Lib.join; simp [List.intercalate]
    rw [e]
    simp only [List.length_cons, List.length_nil]
    omega
  | a :: b :: l, h => by
    have e : Lib.join (a :: b :: l) sep = a ++ (sep ++ Lib.join (b :: l) sep) := by unfold Lib.join; simp [List.intercalate]
    rw [e, List.length_append, List.length_append]
    have h1 := h a (List.mem_cons_self ..)
    have h2 := inter_le sep B (b :: l) (fun x hx => h x (List.mem_cons_of_mem _ hx))
    have : (a :: b :: l).length * (B + sep.length) = (b :: l).length * (B + sep.length) + (B + sep.length) := by
      rw [List.length_cons, Nat.succ_mul]
    omega
theorem item_le {x : MT} (h : x.1.length ≤ 24 ∧ x.2.1.length ≤ 24) : (itemG x).length ≤ 100 := by
  unfold itemG
  rw [List.length_append, List.length_append]
  have := sign_le x.2.2
  have := quote_le x.2.1
  omega
theorem print_loop (m : Nat) (ms : List MT) (h1 : ms.length ≤ 6) (h2 : ∀ x ∈ ms, x.1.length ≤ 24 ∧ x.2.1.length ≤ 24) : ∀ (n k : Nat) (b : List (List UInt8)), k ≤ ms.length → ms.length - k < n → b.length ≤ k → l22_0 m n ms (ms.length : Nat) (k : Nat) b = some (0, ((ms.length : Nat) : Int), b ++ (ms.drop k).map itemG)
  | 0, k, _, _, h, _ => by omega
  | n + 1, k, b, g1, g2, g3 => by
    rw [l22_0]
    by_cases hk : k < ms.length
    · have e1 : decide (((k : Nat) : Int) < (((List.length ms) : Nat) : Int)) = true := decide_eq_true (by omega)
      have e2 : decide ((0 : Int) ≤ ((k : Nat) : Int)) = true := decide_eq_true (by omega)
      have e7 : IntKind.wrap .i64 (((k : Nat) : Int) + (1)) = ((k + 1 : Nat) : Int) := by rw [wrap_id (by omega) (by omega)]; rfl
      have hq := h2 _ (getD_mem ms k (([] : List UInt8), (([] : List UInt8), 0)) hk)
      have go := fun x => print_loop m ms h1 h2 n (k + 1) (b ++ [x]) (by omega) (by omega) (by simp; omega)
      rw [drop_getD ms k (([] : List UInt8), (([] : List UInt8), 0)) hk]
      simp only [show Int.toNat ((k : Nat) : Int) = k from rfl, e1, e2, e7, ↓reduceIte]
      generalize ms.getD k (([] : List UInt8), (([] : List UInt8), 0)) = q at *
      have hi : itemG q = (q.1 ++ signB q.2.2) ++ quoteG q.2.1 := rfl
      have hs : signB q.2.2 = if q.2.2 = 1 then [61] else if q.2.2 = 2 then [33, 61] else if q.2.2 = 3 then [94, 61] else if q.2.2 = 4 then [33, 94] else [] := rfl
      have hql := quote_le q.2.1
      have b0 : decide (List.length q.2.1 ≤ 1000000) = true := decide_eq_true (by omega)
      have b1 : decide (((List.length b) + 1) * 16 ≤ 70368744177664) = true := decide_eq_true (by omega)
      have b2 : ∀ sg : List UInt8, sg.length ≤ 2 → decide (List.length q.1 + List.length sg ≤ 4611686018427387904) = true := fun sg h => decide_eq_true (by omega)
      have b3 : ∀ sg : List UInt8, sg.length ≤ 2 → decide (List.length (q.1 ++ sg) + List.length (quoteG q.2.1) ≤ 4611686018427387904) = true := fun sg h => decide_eq_true (by rw [List.length_append]; omega)
      have fin : ∀ sg, signB q.2.2 = sg → l22_0 m n ms (ms.length : Nat) ((k + 1 : Nat) : Int) (b ++ [(q.1 ++ sg) ++ quoteG q.2.1]) = some (0, ((ms.length : Nat) : Int), b ++ (q :: ms.drop (k + 1)).map itemG) := by
        intro sg hsg
        rw [go, List.map_cons, hi, hsg]
        simp
      have t1 := b2 [61] (by simp)
      have t2 := b2 [33, 61] (by simp)
      have t3 := b2 [94, 61] (by simp)
      have t4 := b2 [33, 94] (by simp)
      have t5 := b2 [] (by simp)
      have u1 := b3 [61] (by simp)
      have u2 := b3 [33, 61] (by simp)
      have u3 := b3 [94, 61] (by simp)
      have u4 := b3 [33, 94] (by simp)
      have u5 := b3 [] (by simp)
      simp only [b0, b1, t1, t2, t3, t4, t5, u1, u2, u3, u4, u5, ↓reduceIte]
      generalize q.2.2 = kd at *
      by_cases k1 : kd = 1
      · rw [if_pos (by simp [k1])]; exact fin _ (by rw [hs, if_pos k1])
      · rw [if_neg (by simpa using k1)]; rw [if_neg k1] at hs
        by_cases k2 : kd = 2
        · rw [if_pos (by simp [k2])]; exact fin _ (by rw [hs, if_pos k2])
        · rw [if_neg (by simpa using k2)]; rw [if_neg k2] at hs
          by_cases k3 : kd = 3
          · rw [if_pos (by simp [k3])]; exact fin _ (by rw [hs, if_pos k3])
          · rw [if_neg (by simpa using k3)]; rw [if_neg k3] at hs
            by_cases k4 : kd = 4
            · rw [if_pos (by simp [k4])]; exact fin _ (by rw [hs, if_pos k4])
            · rw [if_neg (by simpa using k4)]; rw [if_neg k4] at hs
              exact fin _ hs
    · have e1 : decide (((k : Nat) : Int) < (((List.length ms) : Nat) : Int)) = false := decide_eq_false (by omega)
      have e0 : k = ms.length := by omega
      subst e0
      rw [e1, if_neg (by simp), List.drop_length]
      simp
theorem print22 (ms : List MT) (h : rightPre ms = true) : ∃ m, p22 m ms = some (printG ms) := by
  refine ⟨ms.length, ?_⟩
  unfold p22 printG
  rw [if_pos h]
  by_cases hr : rightG ms = true
  · obtain ⟨h1, h2⟩ := right_all hr
    rw [if_pos hr, if_pos hr]
    have hl := print_loop ms.length ms h1 h2 (ms.length + 24) 0 [] (by omega) (by omega) (by simp)
    simp only [Int.natCast_zero, List.drop_zero, List.nil_append] at hl
    simp only [l22_0R, hl, Option.isSome_some, Option.getD_some, ↓reduceIte, List.drop_zero, List.take_length]
    have hj := inter_le [44] 100 (ms.map itemG) (by
      intro x hx
      obtain ⟨y, hy, rfl⟩ := List.mem_map.1 hx
      exact item_le (h2 y hy))
    have hm : (ms.map itemG).length = ms.length := by simp
    rw [hm] at hj
    generalize hJ : Lib.join (ms.map itemG) [44] = J at *
    have : ms.length * (100 + ([44] : List UInt8).length) ≤ 606 := by
      simp only [List.length_cons, List.length_nil]; omega
    rw [if_pos, if_pos, if_pos]
    · exact decide_eq_true (by simp; omega)
    · exact decide_eq_true (by simp; omega)
    · rw [Bool.and_eq_true]
      exact ⟨decide_eq_true (by rw [hm]; omega), decide_eq_true (by omega)⟩
  · rw [if_neg hr, if_neg hr]
def s22 : List AV → Boxes → M (AV × Boxes) := normS [.val (.sl (.pair .str (.pair .str (.int .i64))))] [] fun xs B => match xs, B with
  | [(.d (.sl (.pair .str (.pair .str (.int .i64))) c1))], [] => .chk (rightPre c1) (.ret ((.d (.str (printG c1))), []))
  | _, _ => .fail
theorem s22_at : CallAt Tryd.prog 22 s22 := by
  refine CallAt.norm (CallAt.weakE (g := fun n => evCall F S15 n 22) (fun n => evCall_atH mixed kinds hds S15 S15_ok n 22) fun xs B r' B' hr => ?_) _ _
  split at hr
  · rename_i c1
    obtain ⟨hp, hr⟩ := (M.run_chk _ _ _).1 hr
    simp only [M.run, Option.some.injEq, Prod.mk.injEq] at hr
    obtain ⟨rfl, rfl⟩ := hr
    obtain ⟨m, hm⟩ := print22 c1 hp
    obtain ⟨r, B1, h1, h2, h3, h4⟩ := p22_ok m c1 _ hm
    exact ⟨m + 25, r, B1, h1, by simp, h2, h3, h4⟩
  · simp [M.run] at hr
noncomputable def S16 : FuncId → Option (List AV → Boxes → M (AV × Boxes)) := fun f => if f = 22 then some s22 else S15 f
set_option maxHeartbeats 20000000 in
theorem S16_ok : ∀ f s, S16 f = some s → CallAt Tryd.prog f s := by
  intro f s h
  unfold S16 at h
  split at h
  · rename_i e; subst e; cases h; exact s22_at
  · exact S15_ok f s h

end Go.Proofs.YtghkbjflejgieaaDoor.Dec
namespace Go.Proofs.YtghkbjflejgieaaDoor.Dec
open Go.Ev
set_option linter.unusedVariables false
set_option linter.unusedSimpArgs false
set_option maxRecDepth 100000
noncomputable def fn42 : AFn := (F 42).getD ⟨0, [], .bad, false, false, noHd⟩
noncomputable def body42 : AC := fn42.body
def l42_0 (m : Nat) : Nat → List ((List UInt8) × (List UInt8)) → List UInt8 → Int → Int → Option (Nat × Int)
  | 0, _, _, _, _ => none
  | n + 1, x0, x1, s8, s9 => if decide (s9 < s8) = true then
      if decide (0 ≤ s9) = true then
        if decide (s9 < (((List.length x0) : Nat) : Int)) = true then
          if ((List.getD x0 (Int.toNat s9) (([] : List UInt8), ([] : List UInt8))).1 == x1) = true then
            some (0, s9)
          else
            l42_0 m n x0 x1 s8 ((IntKind.wrap .i64 (s9 + (1))))
        else
          none
      else
        none
    else
      some (1, s9)
def l42_0D : Nat × Int := (0, 0)
@[reducible] def l42_0R (m n : Nat) (x0 : List ((List UInt8) × (List UInt8))) (x1 : List UInt8) (s8 : Int) (s9 : Int) : Nat × Int := Option.getD (l42_0 m n x0 x1 s8 s9) l42_0D
def l42_0H (x0 : List ((List UInt8) × (List UInt8))) (x1 : List UInt8) (s8 : Int) (s9 : Int) : Env := [.top, (.d (.str x1)), .top, .top, .top, .top, .top, (.d (.sl (.pair .str .str) x0)), (.d (.int .i64 s8)), (.d (.int .i64 s9)), .top, .top, .top, .top, .top, .top, .top, .top, .top, .top]
def l42_0B (x0 : List ((List UInt8) × (List UInt8))) (x1 : List UInt8) (s8 : Int) (s9 : Int) : Boxes := []
def l42_0E (x0 : List ((List UInt8) × (List UInt8))) (x1 : List UInt8) (s8 : Int) (s9 : Int) : Nat → AEx × Env × Boxes
  | 0 => (.ret, [.top, (.d (.str x1)), .top, .top, (.d (.str (List.getD x0 (Int.toNat s9) (([] : List UInt8), ([] : List UInt8))).2)), .top, (.ptr 0 0), (.d (.sl (.pair .str .str) x0)), (.d (.int .i64 s8)), (.d (.int .i64 s9)), (.d (.bool (decide (s9 < s8)))), (.cptr [(.str (List.getD x0 (Int.toNat s9) (([] : List UInt8), ([] : List UInt8))).1), (.str (List.getD x0 (Int.toNat s9) (([] : List UInt8), ([] : List UInt8))).2)] 0), (.agg [(.d (.str (List.getD x0 (Int.toNat s9) (([] : List UInt8), ([] : List UInt8))).1)), (.d (.str (List.getD x0 (Int.toNat s9) (([] : List UInt8), ([] : List UInt8))).2))]), (.ptr 0 0), (.d (.str (List.getD x0 (Int.toNat s9) (([] : List UInt8), ([] : List UInt8))).1)), (.d (.str x1)), (.d (.bool ((List.getD x0 (Int.toNat s9) (([] : List UInt8), ([] : List UInt8))).1 == x1))), (.ptr 0 1), (.d (.str (List.getD x0 (Int.toNat s9) (([] : List UInt8), ([] : List UInt8))).2)), .top], [(.cells [(.d (.str (List.getD x0 (Int.toNat s9) (([] : List UInt8), ([] : List UInt8))).1)), (.d (.str (List.getD x0 (Int.toNat s9) (([] : List UInt8), ([] : List UInt8))).2))])])
  | _ => (.exit 0, [.top, (.d (.str x1)), .top, .top, .top, .top, .top, (.d (.sl (.pair .str .str) x0)), (.d (.int .i64 s8)), (.d (.int .i64 s9)), (.d (.bool (decide (s9 < s8)))), .top, .top, .top, .top, .top, .top, .top, .top, .top], [])
noncomputable def lbl42_0 : AC := loopBody 898 body42

set_option maxHeartbeats 20000000 in
theorem l42_0_w0 (m n : Nat) (x0 : List ((List UInt8) × (List UInt8))) (x1 : List UInt8) (s8 : Int) (s9 : Int) (c0 : decide (s9 < s8) = true) (c1 : decide (0 ≤ s9) = true) (c2 : decide (s9 < (((List.length x0) : Nat) : Int)) = true) (c3 : ((List.getD x0 (Int.toNat s9) (([] : List UInt8), ([] : List UInt8))).1 == x1) = true) : (turns (hds 42 898) 0 898 (evC byref (evCall F S16 (m + 24)) (m + 24) 0 (hds 42) lbl42_0) (n + 1) (l42_0H x0 x1 s8 s9) (l42_0B x0 x1 s8 s9)).run = some (.ret, [.top, (.d (.str x1)), .top, .top, (.d (.str (List.getD x0 (Int.toNat s9) (([] : List UInt8), ([] : List UInt8))).2)), .top, (.ptr 0 0), (.d (.sl (.pair .str .str) x0)), (.d (.int .i64 s8)), (.d (.int .i64 s9)), (.d (.bool (decide (s9 < s8)))), (.cptr [(.str (List.getD x0 (Int.toNat s9) (([] : List UInt8), ([] : List UInt8))).1), (.str (List.getD x0 (Int.toNat s9) (([] : List UInt8), ([] : List UInt8))).2)] 0), (.agg [(.d (.str (List.getD x0 (Int.toNat s9) (([] : List UInt8), ([] : List UInt8))).1)), (.d (.str (List.getD x0 (Int.toNat s9) (([] : List UInt8), ([] : List UInt8))).2))]), (.ptr 0 0), (.d (.str (List.getD x0 (Int.toNat s9) (([] : List UInt8), ([] : List UInt8))).1)), (.d (.str x1)), (.d (.bool ((List.getD x0 (Int.toNat s9) (([] : List UInt8), ([] : List UInt8))).1 == x1))), (.ptr 0 1), (.d (.str (List.getD x0 (Int.toNat s9) (([] : List UInt8), ([] : List UInt8))).2)), .top], [(.cells [(.d (.str (List.getD x0 (Int.toNat s9) (([] : List UInt8), ([] : List UInt8))).1)), (.d (.str (List.getD x0 (Int.toNat s9) (([] : List UInt8), ([] : List UInt8))).2))])]) := by
  exact turns_last (by simp) (M.run_of_path _ [true, true, true, true] _ _ (by kernel_rfl) (all_t c0 (all_t c1 (all_t c2 (all_t c3 all_nil))))) 
set_option maxHeartbeats 20000000 in
theorem l42_0_w1 (m n : Nat) (x0 : List ((List UInt8) × (List UInt8))) (x1 : List UInt8) (s8 : Int) (s9 : Int) (r : AEx × Env × Boxes) (c0 : decide (s9 < s8) = true) (c1 : decide (0 ≤ s9) = true) (c2 : decide (s9 < (((List.length x0) : Nat) : Int)) = true) (c3 : ¬ ((List.getD x0 (Int.toNat s9) (([] : List UInt8), ([] : List UInt8))).1 == x1) = true) (ih : (turns (hds 42 898) 0 898 (evC byref (evCall F S16 (m + 24)) (m + 24) 0 (hds 42) lbl42_0) n (l42_0H x0 x1 s8 ((IntKind.wrap .i64 (s9 + (1))))) (l42_0B x0 x1 s8 ((IntKind.wrap .i64 (s9 + (1)))))).run = some r) : (turns (hds 42 898) 0 898 (evC byref (evCall F S16 (m + 24)) (m + 24) 0 (hds 42) lbl42_0) (n + 1) (l42_0H x0 x1 s8 s9) (l42_0B x0 x1 s8 s9)).run = some r := by
  exact turns_step (M.run_of_path _ [true, true, true, false] _ _ (by kernel_rfl) (all_t c0 (all_t c1 (all_t c2 (all_f c3 all_nil))))) ih
set_option maxHeartbeats 20000000 in
theorem l42_0_w2 (m n : Nat) (x0 : List ((List UInt8) × (List UInt8))) (x1 : List UInt8) (s8 : Int) (s9 : Int) (c0 : ¬ decide (s9 < s8) = true) : (turns (hds 42 898) 0 898 (evC byref (evCall F S16 (m + 24)) (m + 24) 0 (hds 42) lbl42_0) (n + 1) (l42_0H x0 x1 s8 s9) (l42_0B x0 x1 s8 s9)).run = some (.exit 0, [.top, (.d (.str x1)), .top, .top, .top, .top, .top, (.d (.sl (.pair .str .str) x0)), (.d (.int .i64 s8)), (.d (.int .i64 s9)), (.d (.bool (decide (s9 < s8)))), .top, .top, .top, .top, .top, .top, .top, .top, .top], []) := by
  exact turns_last (by simp) (M.run_of_path _ [false] _ _ (by kernel_rfl) (all_f c0 all_nil)) 

set_option maxHeartbeats 20000000 in
theorem l42_0_step (m n : Nat) (ih : ∀ (x0 : List ((List UInt8) × (List UInt8))) (x1 : List UInt8) (s8 : Int) (s9 : Int) (q : Nat × Int), l42_0 m n x0 x1 s8 s9 = some q → (turns (hds 42 898) 0 898 (evC byref (evCall F S16 (m + 24)) (m + 24) 0 (hds 42) lbl42_0) n (l42_0H x0 x1 s8 s9) (l42_0B x0 x1 s8 s9)).run = some (l42_0E (x0) (x1) (s8) (q.2) q.1)) (x0 : List ((List UInt8) × (List UInt8))) (x1 : List UInt8) (s8 : Int) (s9 : Int) (q : Nat × Int) (h : l42_0 m (n + 1) x0 x1 s8 s9 = some q) : (turns (hds 42 898) 0 898 (evC byref (evCall F S16 (m + 24)) (m + 24) 0 (hds 42) lbl42_0) (n + 1) (l42_0H x0 x1 s8 s9) (l42_0B x0 x1 s8 s9)).run = some (l42_0E (x0) (x1) (s8) (q.2) q.1) := by
  rw [l42_0] at h
  refine ite_cases h (fun c0 h => ?_) (fun c0 h => ?_)
  · skip
    refine ite_cases h (fun c1 h => ?_) (fun c1 h => ?_)
    · skip
      refine ite_cases h (fun c2 h => ?_) (fun c2 h => ?_)
      · skip
        refine ite_cases h (fun c3 h => ?_) (fun c3 h => ?_)
        · skip
          cases h
          exact l42_0_w0 m n x0 x1 s8 s9 c0 c1 c2 c3
        · skip
          exact l42_0_w1 m n x0 x1 s8 s9 _ c0 c1 c2 c3 (ih _ _ _ _ q h)
      · skip
        cases h
    · skip
      cases h
  · skip
    cases h
    exact l42_0_w2 m n x0 x1 s8 s9 c0
set_option maxHeartbeats 20000000 in
theorem l42_0_ok (m : Nat) : ∀ (n : Nat) (x0 : List ((List UInt8) × (List UInt8))) (x1 : List UInt8) (s8 : Int) (s9 : Int) (q : Nat × Int), l42_0 m n x0 x1 s8 s9 = some q → (turns (hds 42 898) 0 898 (evC byref (evCall F S16 (m + 24)) (m + 24) 0 (hds 42) lbl42_0) n (l42_0H x0 x1 s8 s9) (l42_0B x0 x1 s8 s9)).run = some (l42_0E (x0) (x1) (s8) (q.2) q.1)
  | 0, x0, x1, s8, s9, q, h => by cases h
  | n + 1, x0, x1, s8, s9, q, h => l42_0_step m n (l42_0_ok m n) x0 x1 s8 s9 q h

def p42 (m : Nat) (x0 : List ((List UInt8) × (List UInt8))) (x1 : List UInt8) : Option ((List UInt8)) :=
  if (Option.isSome (l42_0 m (m + 24) x0 x1 ((((List.length x0) : Nat) : Int)) 0)) = true then
    if ((l42_0R m (m + 24) x0 x1 ((((List.length x0) : Nat) : Int)) 0).1 == 0) = true then
      some ((List.getD x0 (Int.toNat (l42_0R m (m + 24) x0 x1 ((((List.length x0) : Nat) : Int)) 0).2) (([] : List UInt8), ([] : List UInt8))).2)
    else
      if ((l42_0R m (m + 24) x0 x1 ((((List.length x0) : Nat) : Int)) 0).1 == 1) = true then
        some (([] : List UInt8))
      else
        none
  else
    none
set_option maxHeartbeats 20000000 in
theorem p42_ok (m : Nat) (x0 : List ((List UInt8) × (List UInt8))) (x1 : List UInt8) (q : (List UInt8)) (h : p42 m x0 x1 = some q) : ∃ r B1, (evCall F S16 (m + 25) 42 [(.d (.sl (.pair .str .str) x0)), (.d (.str x1))] []).run = some (r, B1) ∧ 0 ≤ B1.length ∧ wkR B1 [] r (.d (.str q)) ∧ wkBs B1 [] 0 [] := by
  unfold p42 at h
  refine ite_cases h (fun c0 h => ?_) (fun c0 h => ?_)
  · skip
    refine ite_cases h (fun c1 h => ?_) (fun c1 h => ?_)
    · skip
      cases h
      refine ⟨(.d (.str (List.getD x0 (Int.toNat (l42_0R m (m + 24) x0 x1 ((((List.length x0) : Nat) : Int)) 0).2) (([] : List UInt8), ([] : List UInt8))).2)), [], runT_ok (LS := (fun k => if k = 898 then some (l42_0E x0 x1 (((((List.length x0) : Nat) : Int))) ((l42_0R m (m + 24) x0 x1 ((((List.length x0) : Nat) : Int)) 0).2) 0) else none)) (fn := fn42) (vis := [(898, l42_0H x0 x1 ((((List.length x0) : Nat) : Int)) 0, l42_0B x0 x1 ((((List.length x0) : Nat) : Int)) 0)]) (by kernel_rfl) rfl (by kernel_rfl) (M.run_of_path _ [] _ _ (by kernel_rfl) all_nil) ?_, by simp, (wkR.one (wkV.one (wk1.eq rfl))), trivial⟩
      intro p hp p2 hq
      rcases List.mem_cons.1 hp with rfl | hp
      · skip
        have h3 := l42_0_ok m (m + 24) x0 x1 ((((List.length x0) : Nat) : Int)) 0 _ (some_getD (d := l42_0D) c0)
        rw [eq_of_beq c1] at h3
        exact Eq.trans (Eq.mp (by kernel_rfl) h3) hq
      cases hp
    · skip
      refine ite_cases h (fun c2 h => ?_) (fun c2 h => ?_)
      · skip
        cases h
        refine ⟨(.d (.str ([] : List UInt8))), [], runT_ok (LS := (fun k => if k = 898 then some (l42_0E x0 x1 (((((List.length x0) : Nat) : Int))) ((l42_0R m (m + 24) x0 x1 ((((List.length x0) : Nat) : Int)) 0).2) 1) else none)) (fn := fn42) (vis := [(898, l42_0H x0 x1 ((((List.length x0) : Nat) : Int)) 0, l42_0B x0 x1 ((((List.length x0) : Nat) : Int)) 0)]) (by kernel_rfl) rfl (by kernel_rfl) (M.run_of_path _ [] _ _ (by kernel_rfl) all_nil) ?_, by simp, (wkR.one (wkV.one (wk1.eq rfl))), trivial⟩
        intro p hp p2 hq
        rcases List.mem_cons.1 hp with rfl | hp
        · skip
          have h3 := l42_0_ok m (m + 24) x0 x1 ((((List.length x0) : Nat) : Int)) 0 _ (some_getD (d := l42_0D) c0)
          rw [eq_of_beq c2] at h3
          exact Eq.trans (Eq.mp (by kernel_rfl) h3) hq
        cases hp
      · skip
        cases h
  · skip
    cases h

theorem rget_loop (m : Nat) (l : LB) (nm : List UInt8) (hb : l.length ≤ 1000000) : ∀ (n k : Nat), k ≤ l.length → l.length - k < n → (∃ j, l42_0 m n l nm (l.length : Nat) (k : Nat) = some (0, ((j : Nat) : Int)) ∧ getG (l.drop k) nm = (l.getD j (([] : List UInt8), ([] : List UInt8))).2) ∨ (∃ j, l42_0 m n l nm (l.length : Nat) (k : Nat) = some (1, j) ∧ getG (l.drop k) nm = [])
  | 0, k, _, h => by omega
  | n + 1, k, h1, h2 => by
    rw [l42_0]
    by_cases hk : k < l.length
    · have e1 : decide (((k : Nat) : Int) < (((List.length l) : Nat) : Int)) = true := decide_eq_true (by omega)
      have e2 : decide ((0 : Int) ≤ ((k : Nat) : Int)) = true := decide_eq_true (by omega)
      have e7 : IntKind.wrap .i64 (((k : Nat) : Int) + (1)) = ((k + 1 : Nat) : Int) := by rw [wrap_id (by omega) (by omega)]; rfl
      rw [drop_getD l k (([] : List UInt8), ([] : List UInt8)) hk, show Int.toNat ((k : Nat) : Int) = k from rfl, e7, if_pos e1, if_pos e2, if_pos e1, getG]
      by_cases hc : ((l.getD k (([] : List UInt8), ([] : List UInt8))).1 == nm) = true
      · rw [if_pos hc, if_pos hc]
        exact .inl ⟨k, rfl, rfl⟩
      · rw [if_neg hc, if_neg hc]
        exact rget_loop m l nm hb n (k + 1) (by omega) (by omega)
    · have e1 : decide (((k : Nat) : Int) < (((List.length l) : Nat) : Int)) = false := decide_eq_false (by omega)
      rw [e1, if_neg (by simp), List.drop_eq_nil_of_le (by omega)]
      exact .inr ⟨_, rfl, rfl⟩
theorem rget42 (l : LB) (nm : List UInt8) (h : decide (List.length l ≤ 1000000) = true) : ∃ m, p42 m l nm = some (getG l nm) := by
  have h := of_decide_eq_true h
  refine ⟨l.length, ?_⟩
  unfold p42 l42_0R
  rcases rget_loop l.length l nm h (l.length + 24) 0 (by omega) (by omega) with ⟨j, h1, h2⟩ | ⟨j, h1, h2⟩
  · simp only [Int.natCast_zero, List.drop_zero] at h1 h2
    rw [h1, h2]
    simp
  · simp only [Int.natCast_zero, List.drop_zero] at h1 h2
    rw [h1, h2]
    simp
def s42 : List AV → Boxes → M (AV × Boxes) := normS [.val (.sl (.pair .str .str)), .val .str] [] fun xs B => match xs, B with
  | [(.d (.sl (.pair .str .str) c1)), (.d (.str c2))], [] => .chk (decide (List.length c1 ≤ 1000000)) (.ret ((.d (.str (getG c1 c2))), []))
  | _, _ => .fail
theorem s42_at : CallAt Tryd.prog 42 s42 := by
  refine CallAt.norm (CallAt.weakE (g := fun n => evCall F S16 n 42) (fun n => evCall_atH mixed kinds hds S16 S16_ok n 42) fun xs B r' B' hr => ?_) _ _
  split at hr
  · rename_i c1 c2
    obtain ⟨hp, hr⟩ := (M.run_chk _ _ _).1 hr
    simp only [M.run, Option.some.injEq, Prod.mk.injEq] at hr
    obtain ⟨rfl, rfl⟩ := hr
    obtain ⟨m, hm⟩ := rget42 c1 c2 hp
    obtain ⟨r, B1, h1, h2, h3, h4⟩ := p42_ok m c1 c2 _ hm
    exact ⟨m + 25, r, B1, h1, by simp, h2, h3, h4⟩
  · simp [M.run] at hr
noncomputable def S17 : FuncId → Option (List AV → Boxes → M (AV × Boxes)) := fun f => if f = 42 then some s42 else S16 f
set_option maxHeartbeats 20000000 in
theorem S17_ok : ∀ f s, S17 f = some s → CallAt Tryd.prog f s := by
  intro f s h
  unfold S17 at h
  split at h
  · rename_i e; subst e; cases h; exact s42_at
  · exact S16_ok f s h

noncomputable def fn27 : AFn := (F 27).getD ⟨0, [], .bad, false, false, noHd⟩
noncomputable def body27 : AC := fn27.body
def l27_0 (m : Nat) : Nat → List ((List UInt8) × (List UInt8) × Int) → List ((List UInt8) × (List UInt8)) → Int → Int → Option (Nat × Int)
  | 0, _, _, _, _ => none
  | n + 1, x0, x1, s8, s9 => if decide (s9 < s8) = true then
      if decide (0 ≤ s9) = true then
        if decide (s9 < (((List.length x0) : Nat) : Int)) = true then
          if decide (List.length x1 ≤ 1000000) = true then
            if decide ((((List.length (getG x1 (List.getD x0 (Int.toNat s9) (([] : List UInt8), (([] : List UInt8), 0))).1)) : Nat) : Int) ≥ (((List.length (List.getD x0 (Int.toNat s9) (([] : List UInt8), (([] : List UInt8), 0))).2.1) : Nat) : Int)) = true then
              if (decide (0 ≤ (((List.length (List.getD x0 (Int.toNat s9) (([] : List UInt8), (([] : List UInt8), 0))).2.1) : Nat) : Int)) && decide ((((List.length (List.getD x0 (Int.toNat s9) (([] : List UInt8), (([] : List UInt8), 0))).2.1) : Nat) : Int) ≤ (((List.length (getG x1 (List.getD x0 (Int.toNat s9) (([] : List UInt8), (([] : List UInt8), 0))).1)) : Nat) : Int))) = true then
                if ((List.getD x0 (Int.toNat s9) (([] : List UInt8), (([] : List UInt8), 0))).2.2 == (1)) = true then
                  if ((getG x1 (List.getD x0 (Int.toNat s9) (([] : List UInt8), (([] : List UInt8), 0))).1) == (List.getD x0 (Int.toNat s9) (([] : List UInt8), (([] : List UInt8), 0))).2.1) = true then
                    l27_0 m n x0 x1 s8 ((IntKind.wrap .i64 (s9 + (1))))
                  else
                    some (0, s9)
                else
                  if ((List.getD x0 (Int.toNat s9) (([] : List UInt8), (([] : List UInt8), 0))).2.2 == (2)) = true then
                    if ((getG x1 (List.getD x0 (Int.toNat s9) (([] : List UInt8), (([] : List UInt8), 0))).1) == (List.getD x0 (Int.toNat s9) (([] : List UInt8), (([] : List UInt8), 0))).2.1) = true then
                      some (1, s9)
                    else
                      l27_0 m n x0 x1 s8 ((IntKind.wrap .i64 (s9 + (1))))
                  else
                    if ((List.getD x0 (Int.toNat s9) (([] : List UInt8), (([] : List UInt8), 0))).2.2 == (3)) = true then
                      if ((List.drop 0 (List.take (Int.toNat (((List.length (List.getD x0 (Int.toNat s9) (([] : List UInt8), (([] : List UInt8), 0))).2.1) : Nat) : Int)) (getG x1 (List.getD x0 (Int.toNat s9) (([] : List UInt8), (([] : List UInt8), 0))).1))) == (List.getD x0 (Int.toNat s9) (([] : List UInt8), (([] : List UInt8), 0))).2.1) = true then
                        l27_0 m n x0 x1 s8 ((IntKind.wrap .i64 (s9 + (1))))
                      else
                        some (2, s9)
                    else
                      if ((List.getD x0 (Int.toNat s9) (([] : List UInt8), (([] : List UInt8), 0))).2.2 == (4)) = true then
                        if ((List.drop 0 (List.take (Int.toNat (((List.length (List.getD x0 (Int.toNat s9) (([] : List UInt8), (([] : List UInt8), 0))).2.1) : Nat) : Int)) (getG x1 (List.getD x0 (Int.toNat s9) (([] : List UInt8), (([] : List UInt8), 0))).1))) == (List.getD x0 (Int.toNat s9) (([] : List UInt8), (([] : List UInt8), 0))).2.1) = true then
                          some (3, s9)
                        else
                          l27_0 m n x0 x1 s8 ((IntKind.wrap .i64 (s9 + (1))))
                      else
                        some (4, s9)
              else
                none
            else
              if ((List.getD x0 (Int.toNat s9) (([] : List UInt8), (([] : List UInt8), 0))).2.2 == (1)) = true then
                if ((getG x1 (List.getD x0 (Int.toNat s9) (([] : List UInt8), (([] : List UInt8), 0))).1) == (List.getD x0 (Int.toNat s9) (([] : List UInt8), (([] : List UInt8), 0))).2.1) = true then
                  l27_0 m n x0 x1 s8 ((IntKind.wrap .i64 (s9 + (1))))
                else
                  some (5, s9)
              else
                if ((List.getD x0 (Int.toNat s9) (([] : List UInt8), (([] : List UInt8), 0))).2.2 == (2)) = true then
                  if ((getG x1 (List.getD x0 (Int.toNat s9) (([] : List UInt8), (([] : List UInt8), 0))).1) == (List.getD x0 (Int.toNat s9) (([] : List UInt8), (([] : List UInt8), 0))).2.1) = true then
                    some (6, s9)
                  else
                    l27_0 m n x0 x1 s8 ((IntKind.wrap .i64 (s9 + (1))))
                else
                  if ((List.getD x0 (Int.toNat s9) (([] : List UInt8), (([] : List UInt8), 0))).2.2 == (3)) = true then
                    some (7, s9)
                  else
                    if ((List.getD x0 (Int.toNat s9) (([] : List UInt8), (([] : List UInt8), 0))).2.2 == (4)) = true then
                      l27_0 m n x0 x1 s8 ((IntKind.wrap .i64 (s9 + (1))))
                    else
                      some (8, s9)
          else
            none
        else
          none
      else
        none
    else
      some (9, s9)
def l27_0D : Nat × Int := (0, 0)
@[reducible] def l27_0R (m n : Nat) (x0 : List ((List UInt8) × (List UInt8) × Int)) (x1 : List ((List UInt8) × (List UInt8))) (s8 : Int) (s9 : Int) : Nat × Int := Option.getD (l27_0 m n x0 x1 s8 s9) l27_0D
def l27_0H (x0 : List ((List UInt8) × (List UInt8) × Int)) (x1 : List ((List UInt8) × (List UInt8))) (s8 : Int) (s9 : Int) : Env := [.top, (.d (.sl (.pair .str .str) x1)), .top, .top, .top, .top, .top, (.d (.sl (.pair .str (.pair .str (.int .i64))) x0)), (.d (.int .i64 s8)), (.d (.int .i64 s9)), .top, .top, .top, .top, .top, .top, .top, .top]
def l27_0B (x0 : List ((List UInt8) × (List UInt8) × Int)) (x1 : List ((List UInt8) × (List UInt8))) (s8 : Int) (s9 : Int) : Boxes := []
def l27_0E (x0 : List ((List UInt8) × (List UInt8) × Int)) (x1 : List ((List UInt8) × (List UInt8))) (s8 : Int) (s9 : Int) : Nat → AEx × Env × Boxes
  | 0 => (.ret, [.top, (.d (.sl (.pair .str .str) x1)), .top, .top, (.d (.bool false)), .top, (.ptr 0 0), (.d (.sl (.pair .str (.pair .str (.int .i64))) x0)), (.d (.int .i64 s8)), (.d (.int .i64 s9)), (.d (.bool (decide (s9 < s8)))), (.cptr [(.str (List.getD x0 (Int.toNat s9) (([] : List UInt8), (([] : List UInt8), 0))).1), (.str (List.getD x0 (Int.toNat s9) (([] : List UInt8), (([] : List UInt8), 0))).2.1), (.int .i64 (List.getD x0 (Int.toNat s9) (([] : List UInt8), (([] : List UInt8), 0))).2.2)] 0), (.agg [(.d (.str (List.getD x0 (Int.toNat s9) (([] : List UInt8), (([] : List UInt8), 0))).1)), (.d (.str (List.getD x0 (Int.toNat s9) (([] : List UInt8), (([] : List UInt8), 0))).2.1)), (.d (.int .i64 (List.getD x0 (Int.toNat s9) (([] : List UInt8), (([] : List UInt8), 0))).2.2))]), (.agg [(.d (.str (List.getD x0 (Int.toNat s9) (([] : List UInt8), (([] : List UInt8), 0))).1)), (.d (.str (List.getD x0 (Int.toNat s9) (([] : List UInt8), (([] : List UInt8), 0))).2.1)), (.d (.int .i64 (List.getD x0 (Int.toNat s9) (([] : List UInt8), (([] : List UInt8), 0))).2.2))]), (.d (.sl (.pair .str .str) x1)), (.d (.bool ((getG x1 (List.getD x0 (Int.toNat s9) (([] : List UInt8), (([] : List UInt8), 0))).1) == (List.getD x0 (Int.toNat s9) (([] : List UInt8), (([] : List UInt8), 0))).2.1))), (.d (.bool (!((getG x1 (List.getD x0 (Int.toNat s9) (([] : List UInt8), (([] : List UInt8), 0))).1) == (List.getD x0 (Int.toNat s9) (([] : List UInt8), (([] : List UInt8), 0))).2.1)))), .top], [(.cells [(.d (.str (List.getD x0 (Int.toNat s9) (([] : List UInt8), (([] : List UInt8), 0))).1)), (.d (.str (List.getD x0 (Int.toNat s9) (([] : List UInt8), (([] : List UInt8), 0))).2.1)), (.d (.int .i64 (List.getD x0 (Int.toNat s9) (([] : List UInt8), (([] : List UInt8), 0))).2.2))])])
  | 1 => (.ret, [.top, (.d (.sl (.pair .str .str) x1)), .top, .top, (.d (.bool false)), .top, (.ptr 0 0), (.d (.sl (.pair .str (.pair .str (.int .i64))) x0)), (.d (.int .i64 s8)), (.d (.int .i64 s9)), (.d (.bool (decide (s9 < s8)))), (.cptr [(.str (List.getD x0 (Int.toNat s9) (([] : List UInt8), (([] : List UInt8), 0))).1), (.str (List.getD x0 (Int.toNat s9) (([] : List UInt8), (([] : List UInt8), 0))).2.1), (.int .i64 (List.getD x0 (Int.toNat s9) (([] : List UInt8), (([] : List UInt8), 0))).2.2)] 0), (.agg [(.d (.str (List.getD x0 (Int.toNat s9) (([] : List UInt8), (([] : List UInt8), 0))).1)), (.d (.str (List.getD x0 (Int.toNat s9) (([] : List UInt8), (([] : List UInt8), 0))).2.1)), (.d (.int .i64 (List.getD x0 (Int.toNat s9) (([] : List UInt8), (([] : List UInt8), 0))).2.2))]), (.agg [(.d (.str (List.getD x0 (Int.toNat s9) (([] : List UInt8), (([] : List UInt8), 0))).1)), (.d (.str (List.getD x0 (Int.toNat s9) (([] : List UInt8), (([] : List UInt8), 0))).2.1)), (.d (.int .i64 (List.getD x0 (Int.toNat s9) (([] : List UInt8), (([] : List UInt8), 0))).2.2))]), (.d (.sl (.pair .str .str) x1)), (.d (.bool (!((getG x1 (List.getD x0 (Int.toNat s9) (([] : List UInt8), (([] : List UInt8), 0))).1) == (List.getD x0 (Int.toNat s9) (([] : List UInt8), (([] : List UInt8), 0))).2.1)))), (.d (.bool (!(!((getG x1 (List.getD x0 (Int.toNat s9) (([] : List UInt8), (([] : List UInt8), 0))).1) == (List.getD x0 (Int.toNat s9) (([] : List UInt8), (([] : List UInt8), 0))).2.1))))), .top], [(.cells [(.d (.str (List.getD x0 (Int.toNat s9) (([] : List UInt8), (([] : List UInt8), 0))).1)), (.d (.str (List.getD x0 (Int.toNat s9) (([] : List UInt8), (([] : List UInt8), 0))).2.1)), (.d (.int .i64 (List.getD x0 (Int.toNat s9) (([] : List UInt8), (([] : List UInt8), 0))).2.2))])])
  | 2 => (.ret, [.top, (.d (.sl (.pair .str .str) x1)), .top, .top, (.d (.bool false)), .top, (.ptr 0 0), (.d (.sl (.pair .str (.pair .str (.int .i64))) x0)), (.d (.int .i64 s8)), (.d (.int .i64 s9)), (.d (.bool (decide (s9 < s8)))), (.cptr [(.str (List.getD x0 (Int.toNat s9) (([] : List UInt8), (([] : List UInt8), 0))).1), (.str (List.getD x0 (Int.toNat s9) (([] : List UInt8), (([] : List UInt8), 0))).2.1), (.int .i64 (List.getD x0 (Int.toNat s9) (([] : List UInt8), (([] : List UInt8), 0))).2.2)] 0), (.agg [(.d (.str (List.getD x0 (Int.toNat s9) (([] : List UInt8), (([] : List UInt8), 0))).1)), (.d (.str (List.getD x0 (Int.toNat s9) (([] : List UInt8), (([] : List UInt8), 0))).2.1)), (.d (.int .i64 (List.getD x0 (Int.toNat s9) (([] : List UInt8), (([] : List UInt8), 0))).2.2))]), (.agg [(.d (.str (List.getD x0 (Int.toNat s9) (([] : List UInt8), (([] : List UInt8), 0))).1)), (.d (.str (List.getD x0 (Int.toNat s9) (([] : List UInt8), (([] : List UInt8), 0))).2.1)), (.d (.int .i64 (List.getD x0 (Int.toNat s9) (([] : List UInt8), (([] : List UInt8), 0))).2.2))]), (.d (.sl (.pair .str .str) x1)), (.d (.bool ((List.drop 0 (List.take (Int.toNat (((List.length (List.getD x0 (Int.toNat s9) (([] : List UInt8), (([] : List UInt8), 0))).2.1) : Nat) : Int)) (getG x1 (List.getD x0 (Int.toNat s9) (([] : List UInt8), (([] : List UInt8), 0))).1))) == (List.getD x0 (Int.toNat s9) (([] : List UInt8), (([] : List UInt8), 0))).2.1))), (.d (.bool (!((List.drop 0 (List.take (Int.toNat (((List.length (List.getD x0 (Int.toNat s9) (([] : List UInt8), (([] : List UInt8), 0))).2.1) : Nat) : Int)) (getG x1 (List.getD x0 (Int.toNat s9) (([] : List UInt8), (([] : List UInt8), 0))).1))) == (List.getD x0 (Int.toNat s9) (([] : List UInt8), (([] : List UInt8), 0))).2.1)))), .top], [(.cells [(.d (.str (List.getD x0 (Int.toNat s9) (([] : List UInt8), (([] : List UInt8), 0))).1)), (.d (.str (List.getD x0 (Int.toNat s9) (([] : List UInt8), (([] : List UInt8), 0))).2.1)), (.d (.int .i64 (List.getD x0 (Int.toNat s9) (([] : List UInt8), (([] : List UInt8), 0))).2.2))])])
  | 3 => (.ret, [.top, (.d (.sl (.pair .str .str) x1)), .top, .top, (.d (.bool false)), .top, (.ptr 0 0), (.d (.sl (.pair .str (.pair .str (.int .i64))) x0)), (.d (.int .i64 s8)), (.d (.int .i64 s9)), (.d (.bool (decide (s9 < s8)))), (.cptr [(.str (List.getD x0 (Int.toNat s9) (([] : List UInt8), (([] : List UInt8), 0))).1), (.str (List.getD x0 (Int.toNat s9) (([] : List UInt8), (([] : List UInt8), 0))).2.1), (.int .i64 (List.getD x0 (Int.toNat s9) (([] : List UInt8), (([] : List UInt8), 0))).2.2)] 0), (.agg [(.d (.str (List.getD x0 (Int.toNat s9) (([] : List UInt8), (([] : List UInt8), 0))).1)), (.d (.str (List.getD x0 (Int.toNat s9) (([] : List UInt8), (([] : List UInt8), 0))).2.1)), (.d (.int .i64 (List.getD x0 (Int.toNat s9) (([] : List UInt8), (([] : List UInt8), 0))).2.2))]), (.agg [(.d (.str (List.getD x0 (Int.toNat s9) (([] : List UInt8), (([] : List UInt8), 0))).1)), (.d (.str (List.getD x0 (Int.toNat s9) (([] : List UInt8), (([] : List UInt8), 0))).2.1)), (.d (.int .i64 (List.getD x0 (Int.toNat s9) (([] : List UInt8), (([] : List UInt8), 0))).2.2))]), (.d (.sl (.pair .str .str) x1)), (.d (.bool (!((List.drop 0 (List.take (Int.toNat (((List.length (List.getD x0 (Int.toNat s9) (([] : List UInt8), (([] : List UInt8), 0))).2.1) : Nat) : Int)) (getG x1 (List.getD x0 (Int.toNat s9) (([] : List UInt8), (([] : List UInt8), 0))).1))) == (List.getD x0 (Int.toNat s9) (([] : List UInt8), (([] : List UInt8), 0))).2.1)))), (.d (.bool (!(!((List.drop 0 (List.take (Int.toNat (((List.length (List.getD x0 (Int.toNat s9) (([] : List UInt8), (([] : List UInt8), 0))).2.1) : Nat) : Int)) (getG x1 (List.getD x0 (Int.toNat s9) (([] : List UInt8), (([] : List UInt8), 0))).1))) == (List.getD x0 (Int.toNat s9) (([] : List UInt8), (([] : List UInt8), 0))).2.1))))), .top], [(.cells [(.d (.str (List.getD x0 (Int.toNat s9) (([] : List UInt8), (([] : List UInt8), 0))).1)), (.d (.str (List.getD x0 (Int.toNat s9) (([] : List UInt8), (([] : List UInt8), 0))).2.1)), (.d (.int .i64 (List.getD x0 (Int.toNat s9) (([] : List UInt8), (([] : List UInt8), 0))).2.2))])])
  | 4 => (.ret, [.top, (.d (.sl (.pair .str .str) x1)), .top, .top, (.d (.bool false)), .top, (.ptr 0 0), (.d (.sl (.pair .str (.pair .str (.int .i64))) x0)), (.d (.int .i64 s8)), (.d (.int .i64 s9)), (.d (.bool (decide (s9 < s8)))), (.cptr [(.str (List.getD x0 (Int.toNat s9) (([] : List UInt8), (([] : List UInt8), 0))).1), (.str (List.getD x0 (Int.toNat s9) (([] : List UInt8), (([] : List UInt8), 0))).2.1), (.int .i64 (List.getD x0 (Int.toNat s9) (([] : List UInt8), (([] : List UInt8), 0))).2.2)] 0), (.agg [(.d (.str (List.getD x0 (Int.toNat s9) (([] : List UInt8), (([] : List UInt8), 0))).1)), (.d (.str (List.getD x0 (Int.toNat s9) (([] : List UInt8), (([] : List UInt8), 0))).2.1)), (.d (.int .i64 (List.getD x0 (Int.toNat s9) (([] : List UInt8), (([] : List UInt8), 0))).2.2))]), (.agg [(.d (.str (List.getD x0 (Int.toNat s9) (([] : List UInt8), (([] : List UInt8), 0))).1)), (.d (.str (List.getD x0 (Int.toNat s9) (([] : List UInt8), (([] : List UInt8), 0))).2.1)), (.d (.int .i64 (List.getD x0 (Int.toNat s9) (([] : List UInt8), (([] : List UInt8), 0))).2.2))]), (.d (.sl (.pair .str .str) x1)), (.d (.bool false)), (.d (.bool true)), .top], [(.cells [(.d (.str (List.getD x0 (Int.toNat s9) (([] : List UInt8), (([] : List UInt8), 0))).1)), (.d (.str (List.getD x0 (Int.toNat s9) (([] : List UInt8), (([] : List UInt8), 0))).2.1)), (.d (.int .i64 (List.getD x0 (Int.toNat s9) (([] : List UInt8), (([] : List UInt8), 0))).2.2))])])
  | 5 => (.ret, [.top, (.d (.sl (.pair .str .str) x1)), .top, .top, (.d (.bool false)), .top, (.ptr 0 0), (.d (.sl (.pair .str (.pair .str (.int .i64))) x0)), (.d (.int .i64 s8)), (.d (.int .i64 s9)), (.d (.bool (decide (s9 < s8)))), (.cptr [(.str (List.getD x0 (Int.toNat s9) (([] : List UInt8), (([] : List UInt8), 0))).1), (.str (List.getD x0 (Int.toNat s9) (([] : List UInt8), (([] : List UInt8), 0))).2.1), (.int .i64 (List.getD x0 (Int.toNat s9) (([] : List UInt8), (([] : List UInt8), 0))).2.2)] 0), (.agg [(.d (.str (List.getD x0 (Int.toNat s9) (([] : List UInt8), (([] : List UInt8), 0))).1)), (.d (.str (List.getD x0 (Int.toNat s9) (([] : List UInt8), (([] : List UInt8), 0))).2.1)), (.d (.int .i64 (List.getD x0 (Int.toNat s9) (([] : List UInt8), (([] : List UInt8), 0))).2.2))]), (.agg [(.d (.str (List.getD x0 (Int.toNat s9) (([] : List UInt8), (([] : List UInt8), 0))).1)), (.d (.str (List.getD x0 (Int.toNat s9) (([] : List UInt8), (([] : List UInt8), 0))).2.1)), (.d (.int .i64 (List.getD x0 (Int.toNat s9) (([] : List UInt8), (([] : List UInt8), 0))).2.2))]), (.d (.sl (.pair .str .str) x1)), (.d (.bool ((getG x1 (List.getD x0 (Int.toNat s9) (([] : List UInt8), (([] : List UInt8), 0))).1) == (List.getD x0 (Int.toNat s9) (([] : List UInt8), (([] : List UInt8), 0))).2.1))), (.d (.bool (!((getG x1 (List.getD x0 (Int.toNat s9) (([] : List UInt8), (([] : List UInt8), 0))).1) == (List.getD x0 (Int.toNat s9) (([] : List UInt8), (([] : List UInt8), 0))).2.1)))), .top], [(.cells [(.d (.str (List.getD x0 (Int.toNat s9) (([] : List UInt8), (([] : List UInt8), 0))).1)), (.d (.str (List.getD x0 (Int.toNat s9) (([] : List UInt8), (([] : List UInt8), 0))).2.1)), (.d (.int .i64 (List.getD x0 (Int.toNat s9) (([] : List UInt8), (([] : List UInt8), 0))).2.2))])])
  | 6 => (.ret, [.top, (.d (.sl (.pair .str .str) x1)), .top, .top, (.d (.bool false)), .top, (.ptr 0 0), (.d (.sl (.pair .str (.pair .str (.int .i64))) x0)), (.d (.int .i64 s8)), (.d (.int .i64 s9)), (.d (.bool (decide (s9 < s8)))), (.cptr [(.str (List.getD x0 (Int.toNat s9) (([] : List UInt8), (([] : List UInt8), 0))).1), (.str (List.getD x0 (Int.toNat s9) (([] : List UInt8), (([] : List UInt8), 0))).2.1), (.int .i64 (List.getD x0 (Int.toNat s9) (([] : List UInt8), (([] : List UInt8), 0))).2.2)] 0), (.agg [(.d (.str (List.getD x0 (Int.toNat s9) (([] : List UInt8), (([] : List UInt8), 0))).1)), (.d (.str (List.getD x0 (Int.toNat s9) (([] : List UInt8), (([] : List UInt8), 0))).2.1)), (.d (.int .i64 (List.getD x0 (Int.toNat s9) (([] : List UInt8), (([] : List UInt8), 0))).2.2))]), (.agg [(.d (.str (List.getD x0 (Int.toNat s9) (([] : List UInt8), (([] : List UInt8), 0))).1)), (.d (.str (List.getD x0 (Int.toNat s9) (([] : List UInt8), (([] : List UInt8), 0))).2.1)), (.d (.int .i64 (List.getD x0 (Int.toNat s9) (([] : List UInt8), (([] : List UInt8), 0))).2.2))]), (.d (.sl (.pair .str .str) x1)), (.d (.bool (!((getG x1 (List.getD x0 (Int.toNat s9) (([] : List UInt8), (([] : List UInt8), 0))).1) == (List.getD x0 (Int.toNat s9) (([] : List UInt8), (([] : List UInt8), 0))).2.1)))), (.d (.bool (!(!((getG x1 (List.getD x0 (Int.toNat s9) (([] : List UInt8), (([] : List UInt8), 0))).1) == (List.getD x0 (Int.toNat s9) (([] : List UInt8), (([] : List UInt8), 0))).2.1))))), .top], [(.cells [(.d (.str (List.getD x0 (Int.toNat s9) (([] : List UInt8), (([] : List UInt8), 0))).1)), (.d (.str (List.getD x0 (Int.toNat s9) (([] : List UInt8), (([] : List UInt8), 0))).2.1)), (.d (.int .i64 (List.getD x0 (Int.toNat s9) (([] : List UInt8), (([] : List UInt8), 0))).2.2))])])
  | 7 => (.ret, [.top, (.d (.sl (.pair .str .str) x1)), .top, .top, (.d (.bool false)), .top, (.ptr 0 0), (.d (.sl (.pair .str (.pair .str (.int .i64))) x0)), (.d (.int .i64 s8)), (.d (.int .i64 s9)), (.d (.bool (decide (s9 < s8)))), (.cptr [(.str (List.getD x0 (Int.toNat s9) (([] : List UInt8), (([] : List UInt8), 0))).1), (.str (List.getD x0 (Int.toNat s9) (([] : List UInt8), (([] : List UInt8), 0))).2.1), (.int .i64 (List.getD x0 (Int.toNat s9) (([] : List UInt8), (([] : List UInt8), 0))).2.2)] 0), (.agg [(.d (.str (List.getD x0 (Int.toNat s9) (([] : List UInt8), (([] : List UInt8), 0))).1)), (.d (.str (List.getD x0 (Int.toNat s9) (([] : List UInt8), (([] : List UInt8), 0))).2.1)), (.d (.int .i64 (List.getD x0 (Int.toNat s9) (([] : List UInt8), (([] : List UInt8), 0))).2.2))]), (.agg [(.d (.str (List.getD x0 (Int.toNat s9) (([] : List UInt8), (([] : List UInt8), 0))).1)), (.d (.str (List.getD x0 (Int.toNat s9) (([] : List UInt8), (([] : List UInt8), 0))).2.1)), (.d (.int .i64 (List.getD x0 (Int.toNat s9) (([] : List UInt8), (([] : List UInt8), 0))).2.2))]), (.d (.sl (.pair .str .str) x1)), (.d (.bool false)), (.d (.bool true)), .top], [(.cells [(.d (.str (List.getD x0 (Int.toNat s9) (([] : List UInt8), (([] : List UInt8), 0))).1)), (.d (.str (List.getD x0 (Int.toNat s9) (([] : List UInt8), (([] : List UInt8), 0))).2.1)), (.d (.int .i64 (List.getD x0 (Int.toNat s9) (([] : List UInt8), (([] : List UInt8), 0))).2.2))])])
  | 8 => (.ret, [.top, (.d (.sl (.pair .str .str) x1)), .top, .top, (.d (.bool false)), .top, (.ptr 0 0), (.d (.sl (.pair .str (.pair .str (.int .i64))) x0)), (.d (.int .i64 s8)), (.d (.int .i64 s9)), (.d (.bool (decide (s9 < s8)))), (.cptr [(.str (List.getD x0 (Int.toNat s9) (([] : List UInt8), (([] : List UInt8), 0))).1), (.str (List.getD x0 (Int.toNat s9) (([] : List UInt8), (([] : List UInt8), 0))).2.1), (.int .i64 (List.getD x0 (Int.toNat s9) (([] : List UInt8), (([] : List UInt8), 0))).2.2)] 0), (.agg [(.d (.str (List.getD x0 (Int.toNat s9) (([] : List UInt8), (([] : List UInt8), 0))).1)), (.d (.str (List.getD x0 (Int.toNat s9) (([] : List UInt8), (([] : List UInt8), 0))).2.1)), (.d (.int .i64 (List.getD x0 (Int.toNat s9) (([] : List UInt8), (([] : List UInt8), 0))).2.2))]), (.agg [(.d (.str (List.getD x0 (Int.toNat s9) (([] : List UInt8), (([] : List UInt8), 0))).1)), (.d (.str (List.getD x0 (Int.toNat s9) (([] : List UInt8), (([] : List UInt8), 0))).2.1)), (.d (.int .i64 (List.getD x0 (Int.toNat s9) (([] : List UInt8), (([] : List UInt8), 0))).2.2))]), (.d (.sl (.pair .str .str) x1)), (.d (.bool false)), (.d (.bool true)), .top], [(.cells [(.d (.str (List.getD x0 (Int.toNat s9) (([] : List UInt8), (([] : List UInt8), 0))).1)), (.d (.str (List.getD x0 (Int.toNat s9) (([] : List UInt8), (([] : List UInt8), 0))).2.1)), (.d (.int .i64 (List.getD x0 (Int.toNat s9) (([] : List UInt8), (([] : List UInt8), 0))).2.2))])])
  | _ => (.exit 0, [.top, (.d (.sl (.pair .str .str) x1)), .top, .top, .top, .top, .top, (.d (.sl (.pair .str (.pair .str (.int .i64))) x0)), (.d (.int .i64 s8)), (.d (.int .i64 s9)), (.d (.bool (decide (s9 < s8)))), .top, .top, .top, .top, .top, .top, .top], [])
noncomputable def lbl27_0 : AC := loopBody 898 body27

set_option maxHeartbeats 20000000 in
theorem l27_0_w0 (m n : Nat) (x0 : List ((List UInt8) × (List UInt8) × Int)) (x1 : List ((List UInt8) × (List UInt8))) (s8 : Int) (s9 : Int) (r : AEx × Env × Boxes) (c0 : decide (s9 < s8) = true) (c1 : decide (0 ≤ s9) = true) (c2 : decide (s9 < (((List.length x0) : Nat) : Int)) = true) (c3 : decide (List.length x1 ≤ 1000000) = true) (c4 : decide ((((List.length (getG x1 (List.getD x0 (Int.toNat s9) (([] : List UInt8), (([] : List UInt8), 0))).1)) : Nat) : Int) ≥ (((List.length (List.getD x0 (Int.toNat s9) (([] : List UInt8), (([] : List UInt8), 0))).2.1) : Nat) : Int)) = true) (c9 : (decide (0 ≤ (((List.length (List.getD x0 (Int.toNat s9) (([] : List UInt8), (([] : List UInt8), 0))).2.1) : Nat) : Int)) && decide ((((List.length (List.getD x0 (Int.toNat s9) (([] : List UInt8), (([] : List UInt8), 0))).2.1) : Nat) : Int) ≤ (((List.length (getG x1 (List.getD x0 (Int.toNat s9) (([] : List UInt8), (([] : List UInt8), 0))).1)) : Nat) : Int))) = true) (c14 : ((List.getD x0 (Int.toNat s9) (([] : List UInt8), (([] : List UInt8), 0))).2.2 == (1)) = true) (c15 : ((getG x1 (List.getD x0 (Int.toNat s9) (([] : List UInt8), (([] : List UInt8), 0))).1) == (List.getD x0 (Int.toNat s9) (([] : List UInt8), (([] : List UInt8), 0))).2.1) = true) (ih : (turns (hds 27 898) 0 898 (evC byref (evCall F S17 (m + 24)) (m + 24) 0 (hds 27) lbl27_0) n (l27_0H x0 x1 s8 ((IntKind.wrap .i64 (s9 + (1))))) (l27_0B x0 x1 s8 ((IntKind.wrap .i64 (s9 + (1)))))).run = some r) : (turns (hds 27 898) 0 898 (evC byref (evCall F S17 (m + 24)) (m + 24) 0 (hds 27) lbl27_0) (n + 1) (l27_0H x0 x1 s8 s9) (l27_0B x0 x1 s8 s9)).run = some r := by
  exact turns_step (M.run_of_path _ [true, true, true, true, true, true, true, true, true, true, true, true, true, true, true, false] _ _ (by kernel_rfl) (all_t c0 (all_t c1 (all_t c2 (all_t c3 (all_t c4 (all_t c4 (all_t c4 (all_t c4 (all_t c4 (all_t c9 (all_t c4 (all_t c4 (all_t c4 (all_t c4 (all_t c14 (all_nt c15 all_nil))))))))))))))))) ih
set_option maxHeartbeats 20000000 in
theorem l27_0_w1 (m n : Nat) (x0 : List ((List UInt8) × (List UInt8) × Int)) (x1 : List ((List UInt8) × (List UInt8))) (s8 : Int) (s9 : Int) (c0 : decide (s9 < s8) = true) (c1 : decide (0 ≤ s9) = true) (c2 : decide (s9 < (((List.length x0) : Nat) : Int)) = true) (c3 : decide (List.length x1 ≤ 1000000) = true) (c4 : decide ((((List.length (getG x1 (List.getD x0 (Int.toNat s9) (([] : List UInt8), (([] : List UInt8), 0))).1)) : Nat) : Int) ≥ (((List.length (List.getD x0 (Int.toNat s9) (([] : List UInt8), (([] : List UInt8), 0))).2.1) : Nat) : Int)) = true) (c9 : (decide (0 ≤ (((List.length (List.getD x0 (Int.toNat s9) (([] : List UInt8), (([] : List UInt8), 0))).2.1) : Nat) : Int)) && decide ((((List.length (List.getD x0 (Int.toNat s9) (([] : List UInt8), (([] : List UInt8), 0))).2.1) : Nat) : Int) ≤ (((List.length (getG x1 (List.getD x0 (Int.toNat s9) (([] : List UInt8), (([] : List UInt8), 0))).1)) : Nat) : Int))) = true) (c14 : ((List.getD x0 (Int.toNat s9) (([] : List UInt8), (([] : List UInt8), 0))).2.2 == (1)) = true) (c15 : ¬ ((getG x1 (List.getD x0 (Int.toNat s9) (([] : List UInt8), (([] : List UInt8), 0))).1) == (List.getD x0 (Int.toNat s9) (([] : List UInt8), (([] : List UInt8), 0))).2.1) = true) : (turns (hds 27 898) 0 898 (evC byref (evCall F S17 (m + 24)) (m + 24) 0 (hds 27) lbl27_0) (n + 1) (l27_0H x0 x1 s8 s9) (l27_0B x0 x1 s8 s9)).run = some (.ret, [.top, (.d (.sl (.pair .str .str) x1)), .top, .top, (.d (.bool false)), .top, (.ptr 0 0), (.d (.sl (.pair .str (.pair .str (.int .i64))) x0)), (.d (.int .i64 s8)), (.d (.int .i64 s9)), (.d (.bool (decide (s9 < s8)))), (.cptr [(.str (List.getD x0 (Int.toNat s9) (([] : List UInt8), (([] : List UInt8), 0))).1), (.str (List.getD x0 (Int.toNat s9) (([] : List UInt8), (([] : List UInt8), 0))).2.1), (.int .i64 (List.getD x0 (Int.toNat s9) (([] : List UInt8), (([] : List UInt8), 0))).2.2)] 0), (.agg [(.d (.str (List.getD x0 (Int.toNat s9) (([] : List UInt8), (([] : List UInt8), 0))).1)), (.d (.str (List.getD x0 (Int.toNat s9) (([] : List UInt8), (([] : List UInt8), 0))).2.1)), (.d (.int .i64 (List.getD x0 (Int.toNat s9) (([] : List UInt8), (([] : List UInt8), 0))).2.2))]), (.agg [(.d (.str (List.getD x0 (Int.toNat s9) (([] : List UInt8), (([] : List UInt8), 0))).1)), (.d (.str (List.getD x0 (Int.toNat s9) (([] : List UInt8), (([] : List UInt8), 0))).2.1)), (.d (.int .i64 (List.getD x0 (Int.toNat s9) (([] : List UInt8), (([] : List UInt8), 0))).2.2))]), (.d (.sl (.pair .str .str) x1)), (.d (.bool ((getG x1 (List.getD x0 (Int.toNat s9) (([] : List UInt8), (([] : List UInt8), 0))).1) == (List.getD x0 (Int.toNat s9) (([] : List UInt8), (([] : List UInt8), 0))).2.1))), (.d (.bool (!((getG x1 (List.getD x0 (Int.toNat s9) (([] : List UInt8), (([] : List UInt8), 0))).1) == (List.getD x0 (Int.toNat s9) (([] : List UInt8), (([] : List UInt8), 0))).2.1)))), .top], [(.cells [(.d (.str (List.getD x0 (Int.toNat s9) (([] : List UInt8), (([] : List UInt8), 0))).1)), (.d (.str (List.getD x0 (Int.toNat s9) (([] : List UInt8), (([] : List UInt8), 0))).2.1)), (.d (.int .i64 (List.getD x0 (Int.toNat s9) (([] : List UInt8), (([] : List UInt8), 0))).2.2))])]) := by
  exact turns_last (by simp) (M.run_of_path _ [true, true, true, true, true, true, true, true, true, true, true, true, true, true, true, true] _ _ (by kernel_rfl) (all_t c0 (all_t c1 (all_t c2 (all_t c3 (all_t c4 (all_t c4 (all_t c4 (all_t c4 (all_t c4 (all_t c9 (all_t c4 (all_t c4 (all_t c4 (all_t c4 (all_t c14 (all_nf c15 all_nil))))))))))))))))) 
set_option maxHeartbeats 20000000 in
theorem l27_0_w2 (m n : Nat) (x0 : List ((List UInt8) × (List UInt8) × Int)) (x1 : List ((List UInt8) × (List UInt8))) (s8 : Int) (s9 : Int) (c0 : decide (s9 < s8) = true) (c1 : decide (0 ≤ s9) = true) (c2 : decide (s9 < (((List.length x0) : Nat) : Int)) = true) (c3 : decide (List.length x1 ≤ 1000000) = true) (c4 : decide ((((List.length (getG x1 (List.getD x0 (Int.toNat s9) (([] : List UInt8), (([] : List UInt8), 0))).1)) : Nat) : Int) ≥ (((List.length (List.getD x0 (Int.toNat s9) (([] : List UInt8), (([] : List UInt8), 0))).2.1) : Nat) : Int)) = true) (c9 : (decide (0 ≤ (((List.length (List.getD x0 (Int.toNat s9) (([] : List UInt8), (([] : List UInt8), 0))).2.1) : Nat) : Int)) && decide ((((List.length (List.getD x0 (Int.toNat s9) (([] : List UInt8), (([] : List UInt8), 0))).2.1) : Nat) : Int) ≤ (((List.length (getG x1 (List.getD x0 (Int.toNat s9) (([] : List UInt8), (([] : List UInt8), 0))).1)) : Nat) : Int))) = true) (c14 : ¬ ((List.getD x0 (Int.toNat s9) (([] : List UInt8), (([] : List UInt8), 0))).2.2 == (1)) = true) (c15 : ((List.getD x0 (Int.toNat s9) (([] : List UInt8), (([] : List UInt8), 0))).2.2 == (2)) = true) (c16 : ((getG x1 (List.getD x0 (Int.toNat s9) (([] : List UInt8), (([] : List UInt8), 0))).1) == (List.getD x0 (Int.toNat s9) (([] : List UInt8), (([] : List UInt8), 0))).2.1) = true) : (turns (hds 27 898) 0 898 (evC byref (evCall F S17 (m + 24)) (m + 24) 0 (hds 27) lbl27_0) (n + 1) (l27_0H x0 x1 s8 s9) (l27_0B x0 x1 s8 s9)).run = some (.ret, [.top, (.d (.sl (.pair .str .str) x1)), .top, .top, (.d (.bool false)), .top, (.ptr 0 0), (.d (.sl (.pair .str (.pair .str (.int .i64))) x0)), (.d (.int .i64 s8)), (.d (.int .i64 s9)), (.d (.bool (decide (s9 < s8)))), (.cptr [(.str (List.getD x0 (Int.toNat s9) (([] : List UInt8), (([] : List UInt8), 0))).1), (.str (List.getD x0 (Int.toNat s9) (([] : List UInt8), (([] : List UInt8), 0))).2.1), (.int .i64 (List.getD x0 (Int.toNat s9) (([] : List UInt8), (([] : List UInt8), 0))).2.2)] 0), (.agg [(.d (.str (List.getD x0 (Int.toNat s9) (([] : List UInt8), (([] : List UInt8), 0))).1)), (.d (.str (List.getD x0 (Int.toNat s9) (([] : List UInt8), (([] : List UInt8), 0))).2.1)), (.d (.int .i64 (List.getD x0 (Int.toNat s9) (([] : List UInt8), (([] : List UInt8), 0))).2.2))]), (.agg [(.d (.str (List.getD x0 (Int.toNat s9) (([] : List UInt8), (([] : List UInt8), 0))).1)), (.d (.str (List.getD x0 (Int.toNat s9) (([] : List UInt8), (([] : List UInt8), 0))).2.1)), (.d (.int .i64 (List.getD x0 (Int.toNat s9) (([] : List UInt8), (([] : List UInt8), 0))).2.2))]), (.d (.sl (.pair .str .str) x1)), (.d (.bool (!((getG x1 (List.getD x0 (Int.toNat s9) (([] : List UInt8), (([] : List UInt8), 0))).1) == (List.getD x0 (Int.toNat s9) (([] : List UInt8), (([] : List UInt8), 0))).2.1)))), (.d (.bool (!(!((getG x1 (List.getD x0 (Int.toNat s9) (([] : List UInt8), (([] : List UInt8), 0))).1) == (List.getD x0 (Int.toNat s9) (([] : List UInt8), (([] : List UInt8), 0))).2.1))))), .top], [(.cells [(.d (.str (List.getD x0 (Int.toNat s9) (([] : List UInt8), (([] : List UInt8), 0))).1)), (.d (.str (List.getD x0 (Int.toNat s9) (([] : List UInt8), (([] : List UInt8), 0))).2.1)), (.d (.int .i64 (List.getD x0 (Int.toNat s9) (([] : List UInt8), (([] : List UInt8), 0))).2.2))])]) := by
  exact turns_last (by simp) (M.run_of_path _ [true, true, true, true, true, true, true, true, true, true, true, true, true, true, false, true, true] _ _ (by kernel_rfl) (all_t c0 (all_t c1 (all_t c2 (all_t c3 (all_t c4 (all_t c4 (all_t c4 (all_t c4 (all_t c4 (all_t c9 (all_t c4 (all_t c4 (all_t c4 (all_t c4 (all_f c14 (all_t c15 (all_nnt c16 all_nil)))))))))))))))))) 
set_option maxHeartbeats 20000000 in
theorem l27_0_w3 (m n : Nat) (x0 : List ((List UInt8) × (List UInt8) × Int)) (x1 : List ((List UInt8) × (List UInt8))) (s8 : Int) (s9 : Int) (r : AEx × Env × Boxes) (c0 : decide (s9 < s8) = true) (c1 : decide (0 ≤ s9) = true) (c2 : decide (s9 < (((List.length x0) : Nat) : Int)) = true) (c3 : decide (List.length x1 ≤ 1000000) = true) (c4 : decide ((((List.length (getG x1 (List.getD x0 (Int.toNat s9) (([] : List UInt8), (([] : List UInt8), 0))).1)) : Nat) : Int) ≥ (((List.length (List.getD x0 (Int.toNat s9) (([] : List UInt8), (([] : List UInt8), 0))).2.1) : Nat) : Int)) = true) (c9 : (decide (0 ≤ (((List.length (List.getD x0 (Int.toNat s9) (([] : List UInt8), (([] : List UInt8), 0))).2.1) : Nat) : Int)) && decide ((((List.length (List.getD x0 (Int.toNat s9) (([] : List UInt8), (([] : List UInt8), 0))).2.1) : Nat) : Int) ≤ (((List.length (getG x1 (List.getD x0 (Int.toNat s9) (([] : List UInt8), (([] : List UInt8), 0))).1)) : Nat) : Int))) = true) (c14 : ¬ ((List.getD x0 (Int.toNat s9) (([] : List UInt8), (([] : List UInt8), 0))).2.2 == (1)) = true) (c15 : ((List.getD x0 (Int.toNat s9) (([] : List UInt8), (([] : List UInt8), 0))).2.2 == (2)) = true) (c16 : ¬ ((getG x1 (List.getD x0 (Int.toNat s9) (([] : List UInt8), (([] : List UInt8), 0))).1) == (List.getD x0 (Int.toNat s9) (([] : List UInt8), (([] : List UInt8), 0))).2.1) = true) (ih : (turns (hds 27 898) 0 898 (evC byref (evCall F S17 (m + 24)) (m + 24) 0 (hds 27) lbl27_0) n (l27_0H x0 x1 s8 ((IntKind.wrap .i64 (s9 + (1))))) (l27_0B x0 x1 s8 ((IntKind.wrap .i64 (s9 + (1)))))).run = some r) : (turns (hds 27 898) 0 898 (evC byref (evCall F S17 (m + 24)) (m + 24) 0 (hds 27) lbl27_0) (n + 1) (l27_0H x0 x1 s8 s9) (l27_0B x0 x1 s8 s9)).run = some r := by
  exact turns_step (M.run_of_path _ [true, true, true, true, true, true, true, true, true, true, true, true, true, true, false, true, false] _ _ (by kernel_rfl) (all_t c0 (all_t c1 (all_t c2 (all_t c3 (all_t c4 (all_t c4 (all_t c4 (all_t c4 (all_t c4 (all_t c9 (all_t c4 (all_t c4 (all_t c4 (all_t c4 (all_f c14 (all_t c15 (all_nnf c16 all_nil)))))))))))))))))) ih
set_option maxHeartbeats 20000000 in
theorem l27_0_w4 (m n : Nat) (x0 : List ((List UInt8) × (List UInt8) × Int)) (x1 : List ((List UInt8) × (List UInt8))) (s8 : Int) (s9 : Int) (r : AEx × Env × Boxes) (c0 : decide (s9 < s8) = true) (c1 : decide (0 ≤ s9) = true) (c2 : decide (s9 < (((List.length x0) : Nat) : Int)) = true) (c3 : decide (List.length x1 ≤ 1000000) = true) (c4 : decide ((((List.length (getG x1 (List.getD x0 (Int.toNat s9) (([] : List UInt8), (([] : List UInt8), 0))).1)) : Nat) : Int) ≥ (((List.length (List.getD x0 (Int.toNat s9) (([] : List UInt8), (([] : List UInt8), 0))).2.1) : Nat) : Int)) = true) (c9 : (decide (0 ≤ (((List.length (List.getD x0 (Int.toNat s9) (([] : List UInt8), (([] : List UInt8), 0))).2.1) : Nat) : Int)) && decide ((((List.length (List.getD x0 (Int.toNat s9) (([] : List UInt8), (([] : List UInt8), 0))).2.1) : Nat) : Int) ≤ (((List.length (getG x1 (List.getD x0 (Int.toNat s9) (([] : List UInt8), (([] : List UInt8), 0))).1)) : Nat) : Int))) = true) (c14 : ¬ ((List.getD x0 (Int.toNat s9) (([] : List UInt8), (([] : List UInt8), 0))).2.2 == (1)) = true) (c15 : ¬ ((List.getD x0 (Int.toNat s9) (([] : List UInt8), (([] : List UInt8), 0))).2.2 == (2)) = true) (c16 : ((List.getD x0 (Int.toNat s9) (([] : List UInt8), (([] : List UInt8), 0))).2.2 == (3)) = true) (c17 : ((List.drop 0 (List.take (Int.toNat (((List.length (List.getD x0 (Int.toNat s9) (([] : List UInt8), (([] : List UInt8), 0))).2.1) : Nat) : Int)) (getG x1 (List.getD x0 (Int.toNat s9) (([] : List UInt8), (([] : List UInt8), 0))).1))) == (List.getD x0 (Int.toNat s9) (([] : List UInt8), (([] : List UInt8), 0))).2.1) = true) (ih : (turns (hds 27 898) 0 898 (evC byref (evCall F S17 (m + 24)) (m + 24) 0 (hds 27) lbl27_0) n (l27_0H x0 x1 s8 ((IntKind.wrap .i64 (s9 + (1))))) (l27_0B x0 x1 s8 ((IntKind.wrap .i64 (s9 + (1)))))).run = some r) : (turns (hds 27 898) 0 898 (evC byref (evCall F S17 (m + 24)) (m + 24) 0 (hds 27) lbl27_0) (n + 1) (l27_0H x0 x1 s8 s9) (l27_0B x0 x1 s8 s9)).run = some r := by
  exact turns_step (M.run_of_path _ [true, true, true, true, true, true, true, true, true, true, true, true, true, true, false, false, true, false] _ _ (by kernel_rfl) (all_t c0 (all_t c1 (all_t c2 (all_t c3 (all_t c4 (all_t c4 (all_t c4 (all_t c4 (all_t c4 (all_t c9 (all_t c4 (all_t c4 (all_t c4 (all_t c4 (all_f c14 (all_f c15 (all_t c16 (all_nt c17 all_nil))))))))))))))))))) ih
set_option maxHeartbeats 20000000 in
theorem l27_0_w5 (m n : Nat) (x0 : List ((List UInt8) × (List UInt8) × Int)) (x1 : List ((List UInt8) × (List UInt8))) (s8 : Int) (s9 : Int) (c0 : decide (s9 < s8) = true) (c1 : decide (0 ≤ s9) = true) (c2 : decide (s9 < (((List.length x0) : Nat) : Int)) = true) (c3 : decide (List.length x1 ≤ 1000000) = true) (c4 : decide ((((List.length (getG x1 (List.getD x0 (Int.toNat s9) (([] : List UInt8), (([] : List UInt8), 0))).1)) : Nat) : Int) ≥ (((List.length (List.getD x0 (Int.toNat s9) (([] : List UInt8), (([] : List UInt8), 0))).2.1) : Nat) : Int)) = true) (c9 : (decide (0 ≤ (((List.length (List.getD x0 (Int.toNat s9) (([] : List UInt8), (([] : List UInt8), 0))).2.1) : Nat) : Int)) && decide ((((List.length (List.getD x0 (Int.toNat s9) (([] : List UInt8), (([] : List UInt8), 0))).2.1) : Nat) : Int) ≤ (((List.length (getG x1 (List.getD x0 (Int.toNat s9) (([] : List UInt8), (([] : List UInt8), 0))).1)) : Nat) : Int))) = true) (c14 : ¬ ((List.getD x0 (Int.toNat s9) (([] : List UInt8), (([] : List UInt8), 0))).2.2 == (1)) = true) (c15 : ¬ ((List.getD x0 (Int.toNat s9) (([] : List UInt8), (([] : List UInt8), 0))).2.2 == (2)) = true) (c16 : ((List.getD x0 (Int.toNat s9) (([] : List UInt8), (([] : List UInt8), 0))).2.2 == (3)) = true) (c17 : ¬ ((List.drop 0 (List.take (Int.toNat (((List.length (List.getD x0 (Int.toNat s9) (([] : List UInt8), (([] : List UInt8), 0))).2.1) : Nat) : Int)) (getG x1 (List.getD x0 (Int.toNat s9) (([] : List UInt8), (([] : List UInt8), 0))).1))) == (List.getD x0 (Int.toNat s9) (([] : List UInt8), (([] : List UInt8), 0))).2.1) = true) : (turns (hds 27 898) 0 898 (evC byref (evCall F S17 (m + 24)) (m + 24) 0 (hds 27) lbl27_0) (n + 1) (l27_0H x0 x1 s8 s9) (l27_0B x0 x1 s8 s9)).run = some (.ret, [.top, (.d (.sl (.pair .str .str) x1)), .top, .top, (.d (.bool false)), .top, (.ptr 0 0), (.d (.sl (.pair .str (.pair .str (.int .i64))) x0)), (.d (.int .i64 s8)), (.d (.int .i64 s9)), (.d (.bool (decide (s9 < s8)))), (.cptr [(.str (List.getD x0 (Int.toNat s9) (([] : List UInt8), (([] : List UInt8), 0))).1), (.str (List.getD x0 (Int.toNat s9) (([] : List UInt8), (([] : List UInt8), 0))).2.1), (.int .i64 (List.getD x0 (Int.toNat s9) (([] : List UInt8), (([] : List UInt8), 0))).2.2)] 0), (.agg [(.d (.str (List.getD x0 (Int.toNat s9) (([] : List UInt8), (([] : List UInt8), 0))).1)), (.d (.str (List.getD x0 (Int.toNat s9) (([] : List UInt8), (([] : List UInt8), 0))).2.1)), (.d (.int .i64 (List.getD x0 (Int.toNat s9) (([] : List UInt8), (([] : List UInt8), 0))).2.2))]), (.agg [(.d (.str (List.getD x0 (Int.toNat s9) (([] : List UInt8), (([] : List UInt8), 0))).1)), (.d (.str (List.getD x0 (Int.toNat s9) (([] : List UInt8), (([] : List UInt8), 0))).2.1)), (.d (.int .i64 (List.getD x0 (Int.toNat s9) (([] : List UInt8), (([] : List UInt8), 0))).2.2))]), (.d (.sl (.pair .str .str) x1)), (.d (.bool ((List.drop 0 (List.take (Int.toNat (((List.length (List.getD x0 (Int.toNat s9) (([] : List UInt8), (([] : List UInt8), 0))).2.1) : Nat) : Int)) (getG x1 (List.getD x0 (Int.toNat s9) (([] : List UInt8), (([] : List UInt8), 0))).1))) == (List.getD x0 (Int.toNat s9) (([] : List UInt8), (([] : List UInt8), 0))).2.1))), (.d (.bool (!((List.drop 0 (List.take (Int.toNat (((List.length (List.getD x0 (Int.toNat s9) (([] : List UInt8), (([] : List UInt8), 0))).2.1) : Nat) : Int)) (getG x1 (List.getD x0 (Int.toNat s9) (([] : List UInt8), (([] : List UInt8), 0))).1))) == (List.getD x0 (Int.toNat s9) (([] : List UInt8), (([] : List UInt8), 0))).2.1)))), .top], [(.cells [(.d (.str (List.getD x0 (Int.toNat s9) (([] : List UInt8), (([] : List UInt8), 0))).1)), (.d (.str (List.getD x0 (Int.toNat s9) (([] : List UInt8), (([] : List UInt8), 0))).2.1)), (.d (.int .i64 (List.getD x0 (Int.toNat s9) (([] : List UInt8), (([] : List UInt8), 0))).2.2))])]) := by
  exact turns_last (by simp) (M.run_of_path _ [true, true, true, true, true, true, true, true, true, true, true, true, true, true, false, false, true, true] _ _ (by kernel_rfl) (all_t c0 (all_t c1 (all_t c2 (all_t c3 (all_t c4 (all_t c4 (all_t c4 (all_t c4 (all_t c4 (all_t c9 (all_t c4 (all_t c4 (all_t c4 (all_t c4 (all_f c14 (all_f c15 (all_t c16 (all_nf c17 all_nil))))))))))))))))))) 
set_option maxHeartbeats 20000000 in
theorem l27_0_w6 (m n : Nat) (x0 : List ((List UInt8) × (List UInt8) × Int)) (x1 : List ((List UInt8) × (List UInt8))) (s8 : Int) (s9 : Int) (c0 : decide (s9 < s8) = true) (c1 : decide (0 ≤ s9) = true) (c2 : decide (s9 < (((List.length x0) : Nat) : Int)) = true) (c3 : decide (List.length x1 ≤ 1000000) = true) (c4 : decide ((((List.length (getG x1 (List.getD x0 (Int.toNat s9) (([] : List UInt8), (([] : List UInt8), 0))).1)) : Nat) : Int) ≥ (((List.length (List.getD x0 (Int.toNat s9) (([] : List UInt8), (([] : List UInt8), 0))).2.1) : Nat) : Int)) = true) (c9 : (decide (0 ≤ (((List.length (List.getD x0 (Int.toNat s9) (([] : List UInt8), (([] : List UInt8), 0))).2.1) : Nat) : Int)) && decide ((((List.length (List.getD x0 (Int.toNat s9) (([] : List UInt8), (([] : List UInt8), 0))).2.1) : Nat) : Int) ≤ (((List.length (getG x1 (List.getD x0 (Int.toNat s9) (([] : List UInt8), (([] : List UInt8), 0))).1)) : Nat) : Int))) = true) (c14 : ¬ ((List.getD x0 (Int.toNat s9) (([] : List UInt8), (([] : List UInt8), 0))).2.2 == (1)) = true) (c15 : ¬ ((List.getD x0 (Int.toNat s9) (([] : List UInt8), (([] : List UInt8), 0))).2.2 == (2)) = true) (c16 : ¬ ((List.getD x0 (Int.toNat s9) (([] : List UInt8), (([] : List UInt8), 0))).2.2 == (3)) = true) (c17 : ((List.getD x0 (Int.toNat s9) (([] : List UInt8), (([] : List UInt8), 0))).2.2 == (4)) = true) (c18 : ((List.drop 0 (List.take (Int.toNat (((List.length (List.getD x0 (Int.toNat s9) (([] : List UInt8), (([] : List UInt8), 0))).2.1) : Nat) : Int)) (getG x1 (List.getD x0 (Int.toNat s9) (([] : List UInt8), (([] : List UInt8), 0))).1))) == (List.getD x0 (Int.toNat s9) (([] : List UInt8), (([] : List UInt8), 0))).2.1) = true) : (turns (hds 27 898) 0 898 (evC byref (evCall F S17 (m + 24)) (m + 24) 0 (hds 27) lbl27_0) (n + 1) (l27_0H x0 x1 s8 s9) (l27_0B x0 x1 s8 s9)).run = some (.ret, [.top, (.d (.sl (.pair .str .str) x1)), .top, .top, (.d (.bool false)), .top, (.ptr 0 0), (.d (.sl (.pair .str (.pair .str (.int .i64))) x0)), (.d (.int .i64 s8)), (.d (.int .i64 s9)), (.d (.bool (decide (s9 < s8)))), (.cptr [(.str (List.getD x0 (Int.toNat s9) (([] : List UInt8), (([] : List UInt8), 0))).1), (.str (List.getD x0 (Int.toNat s9) (([] : List UInt8), (([] : List UInt8), 0))).2.1), (.int .i64 (List.getD x0 (Int.toNat s9) (([] : List UInt8), (([] : List UInt8), 0))).2.2)] 0), (.agg [(.d (.str (List.getD x0 (Int.toNat s9) (([] : List UInt8), (([] : List UInt8), 0))).1)), (.d (.str (List.getD x0 (Int.toNat s9) (([] : List UInt8), (([] : List UInt8), 0))).2.1)), (.d (.int .i64 (List.getD x0 (Int.toNat s9) (([] : List UInt8), (([] : List UInt8), 0))).2.2))]), (.agg [(.d (.str (List.getD x0 (Int.toNat s9) (([] : List UInt8), (([] : List UInt8), 0))).1)), (.d (.str (List.getD x0 (Int.toNat s9) (([] : List UInt8), (([] : List UInt8), 0))).2.1)), (.d (.int .i64 (List.getD x0 (Int.toNat s9) (([] : List UInt8), (([] : List UInt8), 0))).2.2))]), (.d (.sl (.pair .str .str) x1)), (.d (.bool (!((List.drop 0 (List.take (Int.toNat (((List.length (List.getD x0 (Int.toNat s9) (([] : List UInt8), (([] : List UInt8), 0))).2.1) : Nat) : Int)) (getG x1 (List.getD x0 (Int.toNat s9) (([] : List UInt8), (([] : List UInt8), 0))).1))) == (List.getD x0 (Int.toNat s9) (([] : List UInt8), (([] : List UInt8), 0))).2.1)))), (.d (.bool (!(!((List.drop 0 (List.take (Int.toNat (((List.length (List.getD x0 (Int.toNat s9) (([] : List UInt8), (([] : List UInt8), 0))).2.1) : Nat) : Int)) (getG x1 (List.getD x0 (Int.toNat s9) (([] : List UInt8), (([] : List UInt8), 0))).1))) == (List.getD x0 (Int.toNat s9) (([] : List UInt8), (([] : List UInt8), 0))).2.1))))), .top], [(.cells [(.d (.str (List.getD x0 (Int.toNat s9) (([] : List UInt8), (([] : List UInt8), 0))).1)), (.d (.str (List.getD x0 (Int.toNat s9) (([] : List UInt8), (([] : List UInt8), 0))).2.1)), (.d (.int .i64 (List.getD x0 (Int.toNat s9) (([] : List UInt8), (([] : List UInt8), 0))).2.2))])]) := by
  exact turns_last (by simp) (M.run_of_path _ [true, true, true, true, true, true, true, true, true, true, true, true, true, true, false, false, false, true, true] _ _ (by kernel_rfl) (all_t c0 (all_t c1 (all_t c2 (all_t c3 (all_t c4 (all_t c4 (all_t c4 (all_t c4 (all_t c4 (all_t c9 (all_t c4 (all_t c4 (all_t c4 (all_t c4 (all_f c14 (all_f c15 (all_f c16 (all_t c17 (all_nnt c18 all_nil)))))))))))))))))))) 
set_option maxHeartbeats 20000000 in
theorem l27_0_w7 (m n : Nat) (x0 : List ((List UInt8) × (List UInt8) × Int)) (x1 : List ((List UInt8) × (List UInt8))) (s8 : Int) (s9 : Int) (r : AEx × Env × Boxes) (c0 : decide (s9 < s8) = true) (c1 : decide (0 ≤ s9) = true) (c2 : decide (s9 < (((List.length x0) : Nat) : Int)) = true) (c3 : decide (List.length x1 ≤ 1000000) = true) (c4 : decide ((((List.length (getG x1 (List.getD x0 (Int.toNat s9) (([] : List UInt8), (([] : List UInt8), 0))).1)) : Nat) : Int) ≥ (((List.length (List.getD x0 (Int.toNat s9) (([] : List UInt8), (([] : List UInt8), 0))).2.1) : Nat) : Int)) = true) (c9 : (decide (0 ≤ (((List.length (List.getD x0 (Int.toNat s9) (([] : List UInt8), (([] : List UInt8), 0))).2.1) : Nat) : Int)) && decide ((((List.length (List.getD x0 (Int.toNat s9) (([] : List UInt8), (([] : List UInt8), 0))).2.1) : Nat) : Int) ≤ (((List.length (getG x1 (List.getD x0 (Int.toNat s9) (([] : List UInt8), (([] : List UInt8), 0))).1)) : Nat) : Int))) = true) (c14 : ¬ ((List.getD x0 (Int.toNat s9) (([] : List UInt8), (([] : List UInt8), 0))).2.2 == (1)) = true) (c15 : ¬ ((List.getD x0 (Int.toNat s9) (([] : List UInt8), (([] : List UInt8), 0))).2.2 == (2)) = true) (c16 : ¬ ((List.getD x0 (Int.toNat s9) (([] : List UInt8), (([] : List UInt8), 0))).2.2 == (3)) = true) (c17 : ((List.getD x0 (Int.toNat s9) (([] : List UInt8), (([] : List UInt8), 0))).2.2 == (4)) = true) (c18 : ¬ ((List.drop 0 (List.take (Int.toNat (((List.length (List.getD x0 (Int.toNat s9) (([] : List UInt8), (([] : List UInt8), 0))).2.1) : Nat) : Int)) (getG x1 (List.getD x0 (Int.toNat s9) (([] : List UInt8), (([] : List UInt8), 0))).1))) == (List.getD x0 (Int.toNat s9) (([] : List UInt8), (([] : List UInt8), 0))).2.1) = true) (ih : (turns (hds 27 898) 0 898 (evC byref (evCall F S17 (m + 24)) (m + 24) 0 (hds 27) lbl27_0) n (l27_0H x0 x1 s8 ((IntKind.wrap .i64 (s9 + (1))))) (l27_0B x0 x1 s8 ((IntKind.wrap .i64 (s9 + (1)))))).run = some r) : (turns (hds 27 898) 0 898 (evC byref (evCall F S17 (m + 24)) (m + 24) 0 (hds 27) lbl27_0) (n + 1) (l27_0H x0 x1 s8 s9) (l27_0B x0 x1 s8 s9)).run = some r := by
  exact turns_step (M.run_of_path _ [true, true, true, true, true, true, true, true, true, true, true, true, true, true, false, false, false, true, false] _ _ (by kernel_rfl) (all_t c0 (all_t c1 (all_t c2 (all_t c3 (all_t c4 (all_t c4 (all_t c4 (all_t c4 (all_t c4 (all_t c9 (all_t c4 (all_t c4 (all_t c4 (all_t c4 (all_f c14 (all_f c15 (all_f c16 (all_t c17 (all_nnf c18 all_nil)))))))))))))))))))) ih
set_option maxHeartbeats 20000000 in
theorem l27_0_w8 (m n : Nat) (x0 : List ((List UInt8) × (List UInt8) × Int)) (x1 : List ((List UInt8) × (List UInt8))) (s8 : Int) (s9 : Int) (c0 : decide (s9 < s8) = true) (c1 : decide (0 ≤ s9) = true) (c2 : decide (s9 < (((List.length x0) : Nat) : Int)) = true) (c3 : decide (List.length x1 ≤ 1000000) = true) (c4 : decide ((((List.length (getG x1 (List.getD x0 (Int.toNat s9) (([] : List UInt8), (([] : List UInt8), 0))).1)) : Nat) : Int) ≥ (((List.length (List.getD x0 (Int.toNat s9) (([] : List UInt8), (([] : List UInt8), 0))).2.1) : Nat) : Int)) = true) (c9 : (decide (0 ≤ (((List.length (List.getD x0 (Int.toNat s9) (([] : List UInt8), (([] : List UInt8), 0))).2.1) : Nat) : Int)) && decide ((((List.length (List.getD x0 (Int.toNat s9) (([] : List UInt8), (([] : List UInt8), 0))).2.1) : Nat) : Int) ≤ (((List.length (getG x1 (List.getD x0 (Int.toNat s9) (([] : List UInt8), (([] : List UInt8), 0))).1)) : Nat) : Int))) = true) (c14 : ¬ ((List.getD x0 (Int.toNat s9) (([] : List UInt8), (([] : List UInt8), 0))).2.2 == (1)) = true) (c15 : ¬ ((List.getD x0 (Int.toNat s9) (([] : List UInt8), (([] : List UInt8), 0))).2.2 == (2)) = true) (c16 : ¬ ((List.getD x0 (Int.toNat s9) (([] : List UInt8), (([] : List UInt8), 0))).2.2 == (3)) = true) (c17 : ¬ ((List.getD x0 (Int.toNat s9) (([] : List UInt8), (([] : List UInt8), 0))).2.2 == (4)) = true) : (turns (hds 27 898) 0 898 (evC byref (evCall F S17 (m + 24)) (m + 24) 0 (hds 27) lbl27_0) (n + 1) (l27_0H x0 x1 s8 s9) (l27_0B x0 x1 s8 s9)).run = some (.ret, [.top, (.d (.sl (.pair .str .str) x1)), .top, .top, (.d (.bool false)), .top, (.ptr 0 0), (.d (.sl (.pair .str (.pair .str (.int .i64))) x0)), (.d (.int .i64 s8)), (.d (.int .i64 s9)), (.d (.bool (decide (s9 < s8)))), (.cptr [(.str (List.getD x0 (Int.toNat s9) (([] : List UInt8), (([] : List UInt8), 0))).1), (.str (List.getD x0 (Int.toNat s9) (([] : List UInt8), (([] : List UInt8), 0))).2.1), (.int .i64 (List.getD x0 (Int.toNat s9) (([] : List UInt8), (([] : List UInt8), 0))).2.2)] 0), (.agg [(.d (.str (List.getD x0 (Int.toNat s9) (([] : List UInt8), (([] : List UInt8), 0))).1)), (.d (.str (List.getD x0 (Int.toNat s9) (([] : List UInt8), (([] : List UInt8), 0))).2.1)), (.d (.int .i64 (List.getD x0 (Int.toNat s9) (([] : List UInt8), (([] : List UInt8), 0))).2.2))]), (.agg [(.d (.str (List.getD x0 (Int.toNat s9) (([] : List UInt8), (([] : List UInt8), 0))).1)), (.d (.str (List.getD x0 (Int.toNat s9) (([] : List UInt8), (([] : List UInt8), 0))).2.1)), (.d (.int .i64 (List.getD x0 (Int.toNat s9) (([] : List UInt8), (([] : List UInt8), 0))).2.2))]), (.d (.sl (.pair .str .str) x1)), (.d (.bool false)), (.d (.bool true)), .top], [(.cells [(.d (.str (List.getD x0 (Int.toNat s9) (([] : List UInt8), (([] : List UInt8), 0))).1)), (.d (.str (List.getD x0 (Int.toNat s9) (([] : List UInt8), (([] : List UInt8), 0))).2.1)), (.d (.int .i64 (List.getD x0 (Int.toNat s9) (([] : List UInt8), (([] : List UInt8), 0))).2.2))])]) := by
  exact turns_last (by simp) (M.run_of_path _ [true, true, true, true, true, true, true, true, true, true, true, true, true, true, false, false, false, false, true] _ _ (by kernel_rfl) (all_t c0 (all_t c1 (all_t c2 (all_t c3 (all_t c4 (all_t c4 (all_t c4 (all_t c4 (all_t c4 (all_t c9 (all_t c4 (all_t c4 (all_t c4 (all_t c4 (all_f c14 (all_f c15 (all_f c16 (all_f c17 (all_t rfl all_nil)))))))))))))))))))) 
set_option maxHeartbeats 20000000 in
theorem l27_0_w9 (m n : Nat) (x0 : List ((List UInt8) × (List UInt8) × Int)) (x1 : List ((List UInt8) × (List UInt8))) (s8 : Int) (s9 : Int) (r : AEx × Env × Boxes) (c0 : decide (s9 < s8) = true) (c1 : decide (0 ≤ s9) = true) (c2 : decide (s9 < (((List.length x0) : Nat) : Int)) = true) (c3 : decide (List.length x1 ≤ 1000000) = true) (c4 : ¬ decide ((((List.length (getG x1 (List.getD x0 (Int.toNat s9) (([] : List UInt8), (([] : List UInt8), 0))).1)) : Nat) : Int) ≥ (((List.length (List.getD x0 (Int.toNat s9) (([] : List UInt8), (([] : List UInt8), 0))).2.1) : Nat) : Int)) = true) (c13 : ((List.getD x0 (Int.toNat s9) (([] : List UInt8), (([] : List UInt8), 0))).2.2 == (1)) = true) (c14 : ((getG x1 (List.getD x0 (Int.toNat s9) (([] : List UInt8), (([] : List UInt8), 0))).1) == (List.getD x0 (Int.toNat s9) (([] : List UInt8), (([] : List UInt8), 0))).2.1) = true) (ih : (turns (hds 27 898) 0 898 (evC byref (evCall F S17 (m + 24)) (m + 24) 0 (hds 27) lbl27_0) n (l27_0H x0 x1 s8 ((IntKind.wrap .i64 (s9 + (1))))) (l27_0B x0 x1 s8 ((IntKind.wrap .i64 (s9 + (1)))))).run = some r) : (turns (hds 27 898) 0 898 (evC byref (evCall F S17 (m + 24)) (m + 24) 0 (hds 27) lbl27_0) (n + 1) (l27_0H x0 x1 s8 s9) (l27_0B x0 x1 s8 s9)).run = some r := by
  exact turns_step (M.run_of_path _ [true, true, true, true, false, false, false, false, false, false, false, false, false, true, false] _ _ (by kernel_rfl) (all_t c0 (all_t c1 (all_t c2 (all_t c3 (all_f c4 (all_f c4 (all_f c4 (all_f c4 (all_f c4 (all_f c4 (all_f c4 (all_f c4 (all_f c4 (all_t c13 (all_nt c14 all_nil)))))))))))))))) ih
set_option maxHeartbeats 20000000 in
theorem l27_0_w10 (m n : Nat) (x0 : List ((List UInt8) × (List UInt8) × Int)) (x1 : List ((List UInt8) × (List UInt8))) (s8 : Int) (s9 : Int) (c0 : decide (s9 < s8) = true) (c1 : decide (0 ≤ s9) = true) (c2 : decide (s9 < (((List.length x0) : Nat) : Int)) = true) (c3 : decide (List.length x1 ≤ 1000000) = true) (c4 : ¬ decide ((((List.length (getG x1 (List.getD x0 (Int.toNat s9) (([] : List UInt8), (([] : List UInt8), 0))).1)) : Nat) : Int) ≥ (((List.length (List.getD x0 (Int.toNat s9) (([] : List UInt8), (([] : List UInt8), 0))).2.1) : Nat) : Int)) = true) (c13 : ((List.getD x0 (Int.toNat s9) (([] : List UInt8), (([] : List UInt8), 0))).2.2 == (1)) = true) (c14 : ¬ ((getG x1 (List.getD x0 (Int.toNat s9) (([] : List UInt8), (([] : List UInt8), 0))).1) == (List.getD x0 (Int.toNat s9) (([] : List UInt8), (([] : List UInt8), 0))).2.1) = true) : (turns (hds 27 898) 0 898 (evC byref (evCall F S17 (m + 24)) (m + 24) 0 (hds 27) lbl27_0) (n + 1) (l27_0H x0 x1 s8 s9) (l27_0B x0 x1 s8 s9)).run = some (.ret, [.top, (.d (.sl (.pair .str .str) x1)), .top, .top, (.d (.bool false)), .top, (.ptr 0 0), (.d (.sl (.pair .str (.pair .str (.int .i64))) x0)), (.d (.int .i64 s8)), (.d (.int .i64 s9)), (.d (.bool (decide (s9 < s8)))), (.cptr [(.str (List.getD x0 (Int.toNat s9) (([] : List UInt8), (([] : List UInt8), 0))).1), (.str (List.getD x0 (Int.toNat s9) (([] : List UInt8), (([] : List UInt8), 0))).2.1), (.int .i64 (List.getD x0 (Int.toNat s9) (([] : List UInt8), (([] : List UInt8), 0))).2.2)] 0), (.agg [(.d (.str (List.getD x0 (Int.toNat s9) (([] : List UInt8), (([] : List UInt8), 0))).1)), (.d (.str (List.getD x0 (Int.toNat s9) (([] : List UInt8), (([] : List UInt8), 0))).2.1)), (.d (.int .i64 (List.getD x0 (Int.toNat s9) (([] : List UInt8), (([] : List UInt8), 0))).2.2))]), (.agg [(.d (.str (List.getD x0 (Int.toNat s9) (([] : List UInt8), (([] : List UInt8), 0))).1)), (.d (.str (List.getD x0 (Int.toNat s9) (([] : List UInt8), (([] : List UInt8), 0))).2.1)), (.d (.int .i64 (List.getD x0 (Int.toNat s9) (([] : List UInt8), (([] : List UInt8), 0))).2.2))]), (.d (.sl (.pair .str .str) x1)), (.d (.bool ((getG x1 (List.getD x0 (Int.toNat s9) (([] : List UInt8), (([] : List UInt8), 0))).1) == (List.getD x0 (Int.toNat s9) (([] : List UInt8), (([] : List UInt8), 0))).2.1))), (.d (.bool (!((getG x1 (List.getD x0 (Int.toNat s9) (([] : List UInt8), (([] : List UInt8), 0))).1) == (List.getD x0 (Int.toNat s9) (([] : List UInt8), (([] : List UInt8), 0))).2.1)))), .top], [(.cells [(.d (.str (List.getD x0 (Int.toNat s9) (([] : List UInt8), (([] : List UInt8), 0))).1)), (.d (.str (List.getD x0 (Int.toNat s9) (([] : List UInt8), (([] : List UInt8), 0))).2.1)), (.d (.int .i64 (List.getD x0 (Int.toNat s9) (([] : List UInt8), (([] : List UInt8), 0))).2.2))])]) := by
  exact turns_last (by simp) (M.run_of_path _ [true, true, true, true, false, false, false, false, false, false, false, false, false, true, true] _ _ (by kernel_rfl) (all_t c0 (all_t c1 (all_t c2 (all_t c3 (all_f c4 (all_f c4 (all_f c4 (all_f c4 (all_f c4 (all_f c4 (all_f c4 (all_f c4 (all_f c4 (all_t c13 (all_nf c14 all_nil)))))))))))))))) 
set_option maxHeartbeats 20000000 in
theorem l27_0_w11 (m n : Nat) (x0 : List ((List UInt8) × (List UInt8) × Int)) (x1 : List ((List UInt8) × (List UInt8))) (s8 : Int) (s9 : Int) (c0 : decide (s9 < s8) = true) (c1 : decide (0 ≤ s9) = true) (c2 : decide (s9 < (((List.length x0) : Nat) : Int)) = true) (c3 : decide (List.length x1 ≤ 1000000) = true) (c4 : ¬ decide ((((List.length (getG x1 (List.getD x0 (Int.toNat s9) (([] : List UInt8), (([] : List UInt8), 0))).1)) : Nat) : Int) ≥ (((List.length (List.getD x0 (Int.toNat s9) (([] : List UInt8), (([] : List UInt8), 0))).2.1) : Nat) : Int)) = true) (c13 : ¬ ((List.getD x0 (Int.toNat s9) (([] : List UInt8), (([] : List UInt8), 0))).2.2 == (1)) = true) (c14 : ((List.getD x0 (Int.toNat s9) (([] : List UInt8), (([] : List UInt8), 0))).2.2 == (2)) = true) (c15 : ((getG x1 (List.getD x0 (Int.toNat s9) (([] : List UInt8), (([] : List UInt8), 0))).1) == (List.getD x0 (Int.toNat s9) (([] : List UInt8), (([] : List UInt8), 0))).2.1) = true) : (turns (hds 27 898) 0 898 (evC byref (evCall F S17 (m + 24)) (m + 24) 0 (hds 27) lbl27_0) (n + 1) (l27_0H x0 x1 s8 s9) (l27_0B x0 x1 s8 s9)).run = some (.ret, [.top, (.d (.sl (.pair .str .str) x1)), .top, .top, (.d (.bool false)), .top, (.ptr 0 0), (.d (.sl (.pair .str (.pair .str (.int .i64))) x0)), (.d (.int .i64 s8)), (.d (.int .i64 s9)), (.d (.bool (decide (s9 < s8)))), (.cptr [(.str (List.getD x0 (Int.toNat s9) (([] : List UInt8), (([] : List UInt8), 0))).1), (.str (List.getD x0 (Int.toNat s9) (([] : List UInt8), (([] : List UInt8), 0))).2.1), (.int .i64 (List.getD x0 (Int.toNat s9) (([] : List UInt8), (([] : List UInt8), 0))).2.2)] 0), (.agg [(.d (.str (List.getD x0 (Int.toNat s9) (([] : List UInt8), (([] : List UInt8), 0))).1)), (.d (.str (List.getD x0 (Int.toNat s9) (([] : List UInt8), (([] : List UInt8), 0))).2.1)), (.d (.int .i64 (List.getD x0 (Int.toNat s9) (([] : List UInt8), (([] : List UInt8), 0))).2.2))]), (.agg [(.d (.str (List.getD x0 (Int.toNat s9) (([] : List UInt8), (([] : List UInt8), 0))).1)), (.d (.str (List.getD x0 (Int.toNat s9) (([] : List UInt8), (([] : List UInt8), 0))).2.1)), (.d (.int .i64 (List.getD x0 (Int.toNat s9) (([] : List UInt8), (([] : List UInt8), 0))).2.2))]), (.d (.sl (.pair .str .str) x1)), (.d (.bool (!((getG x1 (List.getD x0 (Int.toNat s9) (([] : List UInt8), (([] : List UInt8), 0))).1) == (List.getD x0 (Int.toNat s9) (([] : List UInt8), (([] : List UInt8), 0))).2.1)))), (.d (.bool (!(!((getG x1 (List.getD x0 (Int.toNat s9) (([] : List UInt8), (([] : List UInt8), 0))).1) == (List.getD x0 (Int.toNat s9) (([] : List UInt8), (([] : List UInt8), 0))).2.1))))), .top], [(.cells [(.d (.str (List.getD x0 (Int.toNat s9) (([] : List UInt8), (([] : List UInt8), 0))).1)), (.d (.str (List.getD x0 (Int.toNat s9) (([] : List UInt8), (([] : List UInt8), 0))).2.1)), (.d (.int .i64 (List.getD x0 (Int.toNat s9) (([] : List UInt8), (([] : List UInt8), 0))).2.2))])]) := by
  exact turns_last (by simp) (M.run_of_path _ [true, true, true, true, false, false, false, false, false, false, false, false, false, false, true, true] _ _ (by kernel_rfl) (all_t c0 (all_t c1 (all_t c2 (all_t c3 (all_f c4 (all_f c4 (all_f c4 (all_f c4 (all_f c4 (all_f c4 (all_f c4 (all_f c4 (all_f c4 (all_f c13 (all_t c14 (all_nnt c15 all_nil))))))))))))))))) 
set_option maxHeartbeats 20000000 in
theorem l27_0_w12 (m n : Nat) (x0 : List ((List UInt8) × (List UInt8) × Int)) (x1 : List ((List UInt8) × (List UInt8))) (s8 : Int) (s9 : Int) (r : AEx × Env × Boxes) (c0 : decide (s9 < s8) = true) (c1 : decide (0 ≤ s9) = true) (c2 : decide (s9 < (((List.length x0) : Nat) : Int)) = true) (c3 : decide (List.length x1 ≤ 1000000) = true) (c4 : ¬ decide ((((List.length (getG x1 (List.getD x0 (Int.toNat s9) (([] : List UInt8), (([] : List UInt8), 0))).1)) : Nat) : Int) ≥ (((List.length (List.getD x0 (Int.toNat s9) (([] : List UInt8), (([] : List UInt8), 0))).2.1) : Nat) : Int)) = true) (c13 : ¬ ((List.getD x0 (Int.toNat s9) (([] : List UInt8), (([] : List UInt8), 0))).2.2 == (1)) = true) (c14 : ((List.getD x0 (Int.toNat s9) (([] : List UInt8), (([] : List UInt8), 0))).2.2 == (2)) = true) (c15 : ¬ ((getG x1 (List.getD x0 (Int.toNat s9) (([] : List UInt8), (([] : List UInt8), 0))).1) == (List.getD x0 (Int.toNat s9) (([] : List UInt8), (([] : List UInt8), 0))).2.1) = true) (ih : (turns (hds 27 898) 0 898 (evC byref (evCall F S17 (m + 24)) (m + 24) 0 (hds 27) lbl27_0) n (l27_0H x0 x1 s8 ((IntKind.wrap .i64 (s9 + (1))))) (l27_0B x0 x1 s8 ((IntKind.wrap .i64 (s9 + (1)))))).run = some r) : (turns (hds 27 898) 0 898 (evC byref (evCall F S17 (m + 24)) (m + 24) 0 (hds 27) lbl27_0) (n + 1) (l27_0H x0 x1 s8 s9) (l27_0B x0 x1 s8 s9)).run = some r := by
  exact turns_step (M.run_of_path _ [true, true, true, true, false, false, false, false, false, false, false, false, false, false, true, false] _ _ (by kernel_rfl) (all_t c0 (all_t c1 (all_t c2 (all_t c3 (all_f c4 (all_f c4 (all_f c4 (all_f c4 (all_f c4 (all_f c4 (all_f c4 (all_f c4 (all_f c4 (all_f c13 (all_t c14 (all_nnf c15 all_nil))))))))))))))))) ih
set_option maxHeartbeats 20000000 in
theorem l27_0_w13 (m n : Nat) (x0 : List ((List UInt8) × (List UInt8) × Int)) (x1 : List ((List UInt8) × (List UInt8))) (s8 : Int) (s9 : Int) (c0 : decide (s9 < s8) = true) (c1 : decide (0 ≤ s9) = true) (c2 : decide (s9 < (((List.length x0) : Nat) : Int)) = true) (c3 : decide (List.length x1 ≤ 1000000) = true) (c4 : ¬ decide ((((List.length (getG x1 (List.getD x0 (Int.toNat s9) (([] : List UInt8), (([] : List UInt8), 0))).1)) : Nat) : Int) ≥ (((List.length (List.getD x0 (Int.toNat s9) (([] : List UInt8), (([] : List UInt8), 0))).2.1) : Nat) : Int)) = true) (c13 : ¬ ((List.getD x0 (Int.toNat s9) (([] : List UInt8), (([] : List UInt8), 0))).2.2 == (1)) = true) (c14 : ¬ ((List.getD x0 (Int.toNat s9) (([] : List UInt8), (([] : List UInt8), 0))).2.2 == (2)) = true) (c15 : ((List.getD x0 (Int.toNat s9) (([] : List UInt8), (([] : List UInt8), 0))).2.2 == (3)) = true) : (turns (hds 27 898) 0 898 (evC byref (evCall F S17 (m + 24)) (m + 24) 0 (hds 27) lbl27_0) (n + 1) (l27_0H x0 x1 s8 s9) (l27_0B x0 x1 s8 s9)).run = some (.ret, [.top, (.d (.sl (.pair .str .str) x1)), .top, .top, (.d (.bool false)), .top, (.ptr 0 0), (.d (.sl (.pair .str (.pair .str (.int .i64))) x0)), (.d (.int .i64 s8)), (.d (.int .i64 s9)), (.d (.bool (decide (s9 < s8)))), (.cptr [(.str (List.getD x0 (Int.toNat s9) (([] : List UInt8), (([] : List UInt8), 0))).1), (.str (List.getD x0 (Int.toNat s9) (([] : List UInt8), (([] : List UInt8), 0))).2.1), (.int .i64 (List.getD x0 (Int.toNat s9) (([] : List UInt8), (([] : List UInt8), 0))).2.2)] 0), (.agg [(.d (.str (List.getD x0 (Int.toNat s9) (([] : List UInt8), (([] : List UInt8), 0))).1)), (.d (.str (List.getD x0 (Int.toNat s9) (([] : List UInt8), (([] : List UInt8), 0))).2.1)), (.d (.int .i64 (List.getD x0 (Int.toNat s9) (([] : List UInt8), (([] : List UInt8), 0))).2.2))]), (.agg [(.d (.str (List.getD x0 (Int.toNat s9) (([] : List UInt8), (([] : List UInt8), 0))).1)), (.d (.str (List.getD x0 (Int.toNat s9) (([] : List UInt8), (([] : List UInt8), 0))).2.1)), (.d (.int .i64 (List.getD x0 (Int.toNat s9) (([] : List UInt8), (([] : List UInt8), 0))).2.2))]), (.d (.sl (.pair .str .str) x1)), (.d (.bool false)), (.d (.bool true)), .top], [(.cells [(.d (.str (List.getD x0 (Int.toNat s9) (([] : List UInt8), (([] : List UInt8), 0))).1)), (.d (.str (List.getD x0 (Int.toNat s9) (([] : List UInt8), (([] : List UInt8), 0))).2.1)), (.d (.int .i64 (List.getD x0 (Int.toNat s9) (([] : List UInt8), (([] : List UInt8), 0))).2.2))])]) := by
  exact turns_last (by simp) (M.run_of_path _ [true, true, true, true, false, false, false, false, false, false, false, false, false, false, false, true, true] _ _ (by kernel_rfl) (all_t c0 (all_t c1 (all_t c2 (all_t c3 (all_f c4 (all_f c4 (all_f c4 (all_f c4 (all_f c4 (all_f c4 (all_f c4 (all_f c4 (all_f c4 (all_f c13 (all_f c14 (all_t c15 (all_t rfl all_nil)))))))))))))))))) 
set_option maxHeartbeats 20000000 in
theorem l27_0_w14 (m n : Nat) (x0 : List ((List UInt8) × (List UInt8) × Int)) (x1 : List ((List UInt8) × (List UInt8))) (s8 : Int) (s9 : Int) (r : AEx × Env × Boxes) (c0 : decide (s9 < s8) = true) (c1 : decide (0 ≤ s9) = true) (c2 : decide (s9 < (((List.length x0) : Nat) : Int)) = true) (c3 : decide (List.length x1 ≤ 1000000) = true) (c4 : ¬ decide ((((List.length (getG x1 (List.getD x0 (Int.toNat s9) (([] : List UInt8), (([] : List UInt8), 0))).1)) : Nat) : Int) ≥ (((List.length (List.getD x0 (Int.toNat s9) (([] : List UInt8), (([] : List UInt8), 0))).2.1) : Nat) : Int)) = true) (c13 : ¬ ((List.getD x0 (Int.toNat s9) (([] : List UInt8), (([] : List UInt8), 0))).2.2 == (1)) = true) (c14 : ¬ ((List.getD x0 (Int.toNat s9) (([] : List UInt8), (([] : List UInt8), 0))).2.2 == (2)) = true) (c15 : ¬ ((List.getD x0 (Int.toNat s9) (([] : List UInt8), (([] : List UInt8), 0))).2.2 == (3)) = true) (c16 : ((List.getD x0 (Int.toNat s9) (([] : List UInt8), (([] : List UInt8), 0))).2.2 == (4)) = true) (ih : (turns (hds 27 898) 0 898 (evC byref (evCall F S17 (m + 24)) (m + 24) 0 (hds 27) lbl27_0) n (l27_0H x0 x1 s8 ((IntKind.wrap .i64 (s9 + (1))))) (l27_0B x0 x1 s8 ((IntKind.wrap .i64 (s9 + (1)))))).run = some r) : (turns (hds 27 898) 0 898 (evC byref (evCall F S17 (m + 24)) (m + 24) 0 (hds 27) lbl27_0) (n + 1) (l27_0H x0 x1 s8 s9) (l27_0B x0 x1 s8 s9)).run = some r := by
  exact turns_step (M.run_of_path _ [true, true, true, true, false, false, false, false, false, false, false, false, false, false, false, false, true, false] _ _ (by kernel_rfl) (all_t c0 (all_t c1 (all_t c2 (all_t c3 (all_f c4 (all_f c4 (all_f c4 (all_f c4 (all_f c4 (all_f c4 (all_f c4 (all_f c4 (all_f c4 (all_f c13 (all_f c14 (all_f c15 (all_t c16 (all_f Bool.false_ne_true all_nil))))))))))))))))))) ih
set_option maxHeartbeats 20000000 in
theorem l27_0_w15 (m n : Nat) (x0 : List ((List UInt8) × (List UInt8) × Int)) (x1 : List ((List UInt8) × (List UInt8))) (s8 : Int) (s9 : Int) (c0 : decide (s9 < s8) = true) (c1 : decide (0 ≤ s9) = true) (c2 : decide (s9 < (((List.length x0) : Nat) : Int)) = true) (c3 : decide (List.length x1 ≤ 1000000) = true) (c4 : ¬ decide ((((List.length (getG x1 (List.getD x0 (Int.toNat s9) (([] : List UInt8), (([] : List UInt8), 0))).1)) : Nat) : Int) ≥ (((List.length (List.getD x0 (Int.toNat s9) (([] : List UInt8), (([] : List UInt8), 0))).2.1) : Nat) : Int)) = true) (c13 : ¬ ((List.getD x0 (Int.toNat s9) (([] : List UInt8), (([] : List UInt8), 0))).2.2 == (1)) = true) (c14 : ¬ ((List.getD x0 (Int.toNat s9) (([] : List UInt8), (([] : List UInt8), 0))).2.2 == (2)) = true) (c15 : ¬ ((List.getD x0 (Int.toNat s9) (([] : List UInt8), (([] : List UInt8), 0))).2.2 == (3)) = true) (c16 : ¬ ((List.getD x0 (Int.toNat s9) (([] : List UInt8), (([] : List UInt8), 0))).2.2 == (4)) = true) : (turns (hds 27 898) 0 898 (evC byref (evCall F S17 (m + 24)) (m + 24) 0 (hds 27) lbl27_0) (n + 1) (l27_0H x0 x1 s8 s9) (l27_0B x0 x1 s8 s9)).run = some (.ret, [.top, (.d (.sl (.pair .str .str) x1)), .top, .top, (.d (.bool false)), .top, (.ptr 0 0), (.d (.sl (.pair .str (.pair .str (.int .i64))) x0)), (.d (.int .i64 s8)), (.d (.int .i64 s9)), (.d (.bool (decide (s9 < s8)))), (.cptr [(.str (List.getD x0 (Int.toNat s9) (([] : List UInt8), (([] : List UInt8), 0))).1), (.str (List.getD x0 (Int.toNat s9) (([] : List UInt8), (([] : List UInt8), 0))).2.1), (.int .i64 (List.getD x0 (Int.toNat s9) (([] : List UInt8), (([] : List UInt8), 0))).2.2)] 0), (.agg [(.d (.str (List.getD x0 (Int.toNat s9) (([] : List UInt8), (([] : List UInt8), 0))).1)), (.d (.str (List.getD x0 (Int.toNat s9) (([] : List UInt8), (([] : List UInt8), 0))).2.1)), (.d (.int .i64 (List.getD x0 (Int.toNat s9) (([] : List UInt8), (([] : List UInt8), 0))).2.2))]), (.agg [(.d (.str (List.getD x0 (Int.toNat s9) (([] : List UInt8), (([] : List UInt8), 0))).1)), (.d (.str (List.getD x0 (Int.toNat s9) (([] : List UInt8), (([] : List UInt8), 0))).2.1)), (.d (.int .i64 (List.getD x0 (Int.toNat s9) (([] : List UInt8), (([] : List UInt8), 0))).2.2))]), (.d (.sl (.pair .str .str) x1)), (.d (.bool false)), (.d (.bool true)), .top], [(.cells [(.d (.str (List.getD x0 (Int.toNat s9) (([] : List UInt8), (([] : List UInt8), 0))).1)), (.d (.str (List.getD x0 (Int.toNat s9) (([] : List UInt8), (([] : List UInt8), 0))).2.1)), (.d (.int .i64 (List.getD x0 (Int.toNat s9) (([] : List UInt8), (([] : List UInt8), 0))).2.2))])]) := by
  exact turns_last (by simp) (M.run_of_path _ [true, true, true, true, false, false, false, false, false, false, false, false, false, false, false, false, false, true] _ _ (by kernel_rfl) (all_t c0 (all_t c1 (all_t c2 (all_t c3 (all_f c4 (all_f c4 (all_f c4 (all_f c4 (all_f c4 (all_f c4 (all_f c4 (all_f c4 (all_f c4 (all_f c13 (all_f c14 (all_f c15 (all_f c16 (all_t rfl all_nil))))))))))))))))))) 
set_option maxHeartbeats 20000000 in
theorem l27_0_w16 (m n : Nat) (x0 : List ((List UInt8) × (List UInt8) × Int)) (x1 : List ((List UInt8) × (List UInt8))) (s8 : Int) (s9 : Int) (c0 : ¬ decide (s9 < s8) = true) : (turns (hds 27 898) 0 898 (evC byref (evCall F S17 (m + 24)) (m + 24) 0 (hds 27) lbl27_0) (n + 1) (l27_0H x0 x1 s8 s9) (l27_0B x0 x1 s8 s9)).run = some (.exit 0, [.top, (.d (.sl (.pair .str .str) x1)), .top, .top, .top, .top, .top, (.d (.sl (.pair .str (.pair .str (.int .i64))) x0)), (.d (.int .i64 s8)), (.d (.int .i64 s9)), (.d (.bool (decide (s9 < s8)))), .top, .top, .top, .top, .top, .top, .top], []) := by
  exact turns_last (by simp) (M.run_of_path _ [false] _ _ (by kernel_rfl) (all_f c0 all_nil)) 

set_option maxHeartbeats 20000000 in
theorem l27_0_step (m n : Nat) (ih : ∀ (x0 : List ((List UInt8) × (List UInt8) × Int)) (x1 : List ((List UInt8) × (List UInt8))) (s8 : Int) (s9 : Int) (q : Nat × Int), l27_0 m n x0 x1 s8 s9 = some q → (turns (hds 27 898) 0 898 (evC byref (evCall F S17 (m + 24)) (m + 24) 0 (hds 27) lbl27_0) n (l27_0H x0 x1 s8 s9) (l27_0B x0 x1 s8 s9)).run = some (l27_0E (x0) (x1) (s8) (q.2) q.1)) (x0 : List ((List UInt8) × (List UInt8) × Int)) (x1 : List ((List UInt8) × (List UInt8))) (s8 : Int) (s9 : Int) (q : Nat × Int) (h : l27_0 m (n + 1) x0 x1 s8 s9 = some q) : (turns (hds 27 898) 0 898 (evC byref (evCall F S17 (m + 24)) (m + 24) 0 (hds 27) lbl27_0) (n + 1) (l27_0H x0 x1 s8 s9) (l27_0B x0 x1 s8 s9)).run = some (l27_0E (x0) (x1) (s8) (q.2) q.1) := by
  rw [l27_0] at h
  refine ite_cases h (fun c0 h => ?_) (fun c0 h => ?_)
  · skip
    refine ite_cases h (fun c1 h => ?_) (fun c1 h => ?_)
    · skip
      refine ite_cases h (fun c2 h => ?_) (fun c2 h => ?_)
      · skip
        refine ite_cases h (fun c3 h => ?_) (fun c3 h => ?_)
        · skip
          refine ite_cases h (fun c4 h => ?_) (fun c4 h => ?_)
          · skip
            refine ite_cases h (fun c9 h => ?_) (fun c9 h => ?_)
            · skip
              refine ite_cases h (fun c14 h => ?_) (fun c14 h => ?_)
              · skip
                refine ite_cases h (fun c15 h => ?_) (fun c15 h => ?_)
                · skip
                  exact l27_0_w0 m n x0 x1 s8 s9 _ c0 c1 c2 c3 c4 c9 c14 c15 (ih _ _ _ _ q h)
                · skip
                  cases h
                  exact l27_0_w1 m n x0 x1 s8 s9 c0 c1 c2 c3 c4 c9 c14 c15
              · skip
                refine ite_cases h (fun c15 h => ?_) (fun c15 h => ?_)
                · skip
                  refine ite_cases h (fun c16 h => ?_) (fun c16 h => ?_)
                  · skip
                    cases h
                    exact l27_0_w2 m n x0 x1 s8 s9 c0 c1 c2 c3 c4 c9 c14 c15 c16
                  · skip
                    exact l27_0_w3 m n x0 x1 s8 s9 _ c0 c1 c2 c3 c4 c9 c14 c15 c16 (ih _ _ _ _ q h)
                · skip
                  refine ite_cases h (fun c16 h => ?_) (fun c16 h => ?_)
                  · skip
                    refine ite_cases h (fun c17 h => ?_) (fun c17 h => ?_)
                    · skip
                      exact l27_0_w4 m n x0 x1 s8 s9 _ c0 c1 c2 c3 c4 c9 c14 c15 c16 c17 (ih _ _ _ _ q h)
                    · skip
                      cases h
                      exact l27_0_w5 m n x0 x1 s8 s9 c0 c1 c2 c3 c4 c9 c14 c15 c16 c17
                  · skip
                    refine ite_cases h (fun c17 h => ?_) (fun c17 h => ?_)
                    · skip
                      refine ite_cases h (fun c18 h => ?_) (fun c18 h => ?_)
                      · skip
                        cases h
                        exact l27_0_w6 m n x0 x1 s8 s9 c0 c1 c2 c3 c4 c9 c14 c15 c16 c17 c18
                      · skip
                        exact l27_0_w7 m n x0 x1 s8 s9 _ c0 c1 c2 c3 c4 c9 c14 c15 c16 c17 c18 (ih _ _ _ _ q h)
                    · skip
                      cases h
                      exact l27_0_w8 m n x0 x1 s8 s9 c0 c1 c2 c3 c4 c9 c14 c15 c16 c17
            · skip
              cases h
          · skip
            refine ite_cases h (fun c13 h => ?_) (fun c13 h => ?_)
            · skip
              refine ite_cases h (fun c14 h => ?_) (fun c14 h => ?_)
              · skip
                exact l27_0_w9 m n x0 x1 s8 s9 _ c0 c1 c2 c3 c4 c13 c14 (ih _ _ _ _ q h)
              · skip
                cases h
                exact l27_0_w10 m n x0 x1 s8 s9 c0 c1 c2 c3 c4 c13 c14
            · skip
              refine ite_cases h (fun c14 h => ?_) (fun c14 h => ?_)
              · skip
                refine ite_cases h (fun c15 h => ?_) (fun c15 h => ?_)
                · skip
                  cases h
                  exact l27_0_w11 m n x0 x1 s8 s9 c0 c1 c2 c3 c4 c13 c14 c15
                · skip
                  exact l27_0_w12 m n x0 x1 s8 s9 _ c0 c1 c2 c3 c4 c13 c14 c15 (ih _ _ _ _ q h)
              · skip
                refine ite_cases h (fun c15 h => ?_) (fun c15 h => ?_)
                · skip
                  cases h
                  exact l27_0_w13 m n x0 x1 s8 s9 c0 c1 c2 c3 c4 c13 c14 c15
                · skip
                  refine ite_cases h (fun c16 h => ?_) (fun c16 h => ?_)
                  · skip
                    exact l27_0_w14 m n x0 x1 s8 s9 _ c0 c1 c2 c3 c4 c13 c14 c15 c16 (ih _ _ _ _ q h)
                  · skip
                    cases h
                    exact l27_0_w15 m n x0 x1 s8 s9 c0 c1 c2 c3 c4 c13 c14 c15 c16
        · skip
          cases h
      · skip
        cases h
    · skip
      cases h
  · skip
    cases h
    exact l27_0_w16 m n x0 x1 s8 s9 c0
set_option maxHeartbeats 20000000 in
theorem l27_0_ok (m : Nat) : ∀ (n : Nat) (x0 : List ((List UInt8) × (List UInt8) × Int)) (x1 : List ((List UInt8) × (List UInt8))) (s8 : Int) (s9 : Int) (q : Nat × Int), l27_0 m n x0 x1 s8 s9 = some q → (turns (hds 27 898) 0 898 (evC byref (evCall F S17 (m + 24)) (m + 24) 0 (hds 27) lbl27_0) n (l27_0H x0 x1 s8 s9) (l27_0B x0 x1 s8 s9)).run = some (l27_0E (x0) (x1) (s8) (q.2) q.1)
  | 0, x0, x1, s8, s9, q, h => by cases h
  | n + 1, x0, x1, s8, s9, q, h => l27_0_step m n (l27_0_ok m n) x0 x1 s8 s9 q h

def p27 (m : Nat) (x0 : List ((List UInt8) × (List UInt8) × Int)) (x1 : List ((List UInt8) × (List UInt8))) : Option (Bool) :=
  if (Option.isSome (l27_0 m (m + 24) x0 x1 ((((List.length x0) : Nat) : Int)) 0)) = true then
    if ((l27_0R m (m + 24) x0 x1 ((((List.length x0) : Nat) : Int)) 0).1 == 0) = true then
      some (false)
    else
      if ((l27_0R m (m + 24) x0 x1 ((((List.length x0) : Nat) : Int)) 0).1 == 1) = true then
        some (false)
      else
        if ((l27_0R m (m + 24) x0 x1 ((((List.length x0) : Nat) : Int)) 0).1 == 2) = true then
          some (false)
        else
          if ((l27_0R m (m + 24) x0 x1 ((((List.length x0) : Nat) : Int)) 0).1 == 3) = true then
            some (false)
          else
            if ((l27_0R m (m + 24) x0 x1 ((((List.length x0) : Nat) : Int)) 0).1 == 4) = true then
              some (false)
            else
              if ((l27_0R m (m + 24) x0 x1 ((((List.length x0) : Nat) : Int)) 0).1 == 5) = true then
                some (false)
              else
                if ((l27_0R m (m + 24) x0 x1 ((((List.length x0) : Nat) : Int)) 0).1 == 6) = true then
                  some (false)
                else
                  if ((l27_0R m (m + 24) x0 x1 ((((List.length x0) : Nat) : Int)) 0).1 == 7) = true then
                    some (false)
                  else
                    if ((l27_0R m (m + 24) x0 x1 ((((List.length x0) : Nat) : Int)) 0).1 == 8) = true then
                      some (false)
                    else
                      if ((l27_0R m (m + 24) x0 x1 ((((List.length x0) : Nat) : Int)) 0).1 == 9) = true then
                        some (true)
                      else
                        none
  else
    none
set_option maxHeartbeats 20000000 in
theorem p27_ok (m : Nat) (x0 : List ((List UInt8) × (List UInt8) × Int)) (x1 : List ((List UInt8) × (List UInt8))) (q : Bool) (h : p27 m x0 x1 = some q) : ∃ r B1, (evCall F S17 (m + 25) 27 [(.d (.sl (.pair .str (.pair .str (.int .i64))) x0)), (.d (.sl (.pair .str .str) x1))] []).run = some (r, B1) ∧ 0 ≤ B1.length ∧ wkR B1 [] r (.d (.bool (q))) ∧ wkBs B1 [] 0 [] := by
  unfold p27 at h
  refine ite_cases h (fun c0 h => ?_) (fun c0 h => ?_)
  · skip
    refine ite_cases h (fun c1 h => ?_) (fun c1 h => ?_)
    · skip
      cases h
      refine ⟨(.d (.bool false)), [], runT_ok (LS := (fun k => if k = 898 then some (l27_0E x0 x1 (((((List.length x0) : Nat) : Int))) ((l27_0R m (m + 24) x0 x1 ((((List.length x0) : Nat) : Int)) 0).2) 0) else none)) (fn := fn27) (vis := [(898, l27_0H x0 x1 ((((List.length x0) : Nat) : Int)) 0, l27_0B x0 x1 ((((List.length x0) : Nat) : Int)) 0)]) (by kernel_rfl) rfl (by kernel_rfl) (M.run_of_path _ [] _ _ (by kernel_rfl) all_nil) ?_, by simp, (wkR.one (wkV.one (wk1.eq rfl))), trivial⟩
      intro p hp p2 hq
      rcases List.mem_cons.1 hp with rfl | hp
      · skip
        have h3 := l27_0_ok m (m + 24) x0 x1 ((((List.length x0) : Nat) : Int)) 0 _ (some_getD (d := l27_0D) c0)
        rw [eq_of_beq c1] at h3
        exact Eq.trans (Eq.mp (by kernel_rfl) h3) hq
      cases hp
    · skip
      refine ite_cases h (fun c2 h => ?_) (fun c2 h => ?_)
      · skip
        cases h
        refine ⟨(.d (.bool false)), [], runT_ok (LS := (fun k => if k = 898 then some (l27_0E x0 x1 (((((List.length x0) : Nat) : Int))) ((l27_0R m (m + 24) x0 x1 ((((List.length x0) : Nat) : Int)) 0).2) 1) else none)) (fn := fn27) (vis := [(898, l27_0H x0 x1 ((((List.length x0) : Nat) : Int)) 0, l27_0B x0 x1 ((((List.length x0) : Nat) : Int)) 0)]) (by kernel_rfl) rfl (by kernel_rfl) (M.run_of_path _ [] _ _ (by kernel_rfl) all_nil) ?_, by simp, (wkR.one (wkV.one (wk1.eq rfl))), trivial⟩
        intro p hp p2 hq
        rcases List.mem_cons.1 hp with rfl | hp
        · skip
          have h3 := l27_0_ok m (m + 24) x0 x1 ((((List.length x0) : Nat) : Int)) 0 _ (some_getD (d := l27_0D) c0)
          rw [eq_of_beq c2] at h3
          exact Eq.trans (Eq.mp (by kernel_rfl) h3) hq
        cases hp
      · skip
        refine ite_cases h (fun c3 h => ?_) (fun c3 h => ?_)
        · skip
          cases h
          refine ⟨(.d (.bool false)), [], runT_ok (LS := (fun k => if k = 898 then some (l27_0E x0 x1 (((((List.length x0) : Nat) : Int))) ((l27_0R m (m + 24) x0 x1 ((((List.length x0) : Nat) : Int)) 0).2) 2) else none)) (fn := fn27) (vis := [(898, l27_0H x0 x1 ((((List.length x0) : Nat) : Int)) 0, l27_0B x0 x1 ((((List.length x0) : Nat) : Int)) 0)]) (by kernel_rfl) rfl (by kernel_rfl) (M.run_of_path _ [] _ _ (by kernel_rfl) all_nil) ?_, by simp, (wkR.one (wkV.one (wk1.eq rfl))), trivial⟩
          intro p hp p2 hq
          rcases List.mem_cons.1 hp with rfl | hp
          · skip
            have h3 := l27_0_ok m (m + 24) x0 x1 ((((List.length x0) : Nat) : Int)) 0 _ (some_getD (d := l27_0D) c0)
            rw [eq_of_beq c3] at h3
            exact Eq.trans (Eq.mp (by kernel_rfl) h3) hq
          cases hp
        · skip
          refine ite_cases h (fun c4 h => ?_) (fun c4 h => ?_)
          · skip
            cases h
            refine ⟨(.d (.bool false)), [], runT_ok (LS := (fun k => if k = 898 then some (l27_0E x0 x1 (((((List.length x0) : Nat) : Int))) ((l27_0R m (m + 24) x0 x1 ((((List.length x0) : Nat) : Int)) 0).2) 3) else none)) (fn := fn27) (vis := [(898, l27_0H x0 x1 ((((List.length x0) : Nat) : Int)) 0, l27_0B x0 x1 ((((List.length x0) : Nat) : Int)) 0)]) (by kernel_rfl) rfl (by kernel_rfl) (M.run_of_path _ [] _ _ (by kernel_rfl) all_nil) ?_, by simp, (wkR.one (wkV.one (wk1.eq rfl))), trivial⟩
            intro p hp p2 hq
            rcases List.mem_cons.1 hp with rfl | hp
            · skip
              have h3 := l27_0_ok m (m + 24) x0 x1 ((((List.length x0) : Nat) : Int)) 0 _ (some_getD (d := l27_0D) c0)
              rw [eq_of_beq c4] at h3
              exact Eq.trans (Eq.mp (by kernel_rfl) h3) hq
            cases hp
          · skip
            refine ite_cases h (fun c5 h => ?_) (fun c5 h => ?_)
            · skip
              cases h
              refine ⟨(.d (.bool false)), [], runT_ok (LS := (fun k => if k = 898 then some (l27_0E x0 x1 (((((List.length x0) : Nat) : Int))) ((l27_0R m (m + 24) x0 x1 ((((List.length x0) : Nat) : Int)) 0).2) 4) else none)) (fn := fn27) (vis := [(898, l27_0H x0 x1 ((((List.length x0) : Nat) : Int)) 0, l27_0B x0 x1 ((((List.length x0) : Nat) : Int)) 0)]) (by kernel_rfl) rfl (by kernel_rfl) (M.run_of_path _ [] _ _ (by kernel_rfl) all_nil) ?_, by simp, (wkR.one (wkV.one (wk1.eq rfl))), trivial⟩
              intro p hp p2 hq
              rcases List.mem_cons.1 hp with rfl | hp
              · skip
                have h3 := l27_0_ok m (m + 24) x0 x1 ((((List.length x0) : Nat) : Int)) 0 _ (some_getD (d := l27_0D) c0)
                rw [eq_of_beq c5] at h3
                exact Eq.trans (Eq.mp (by kernel_rfl) h3) hq
              cases hp
            · skip
              refine ite_cases h (fun c6 h => ?_) (fun c6 h => ?_)
              · skip
                cases h
                refine ⟨(.d (.bool false)), [], runT_ok (LS := (fun k => if k = 898 then some (l27_0E x0 x1 (((((List.length x0) : Nat) : Int))) ((l27_0R m (m + 24) x0 x1 ((((List.length x0) : Nat) : Int)) 0).2) 5) else none)) (fn := fn27) (vis := [(898, l27_0H x0 x1 ((((List.length x0) : Nat) : Int)) 0, l27_0B x0 x1 ((((List.length x0) : Nat) : Int)) 0)]) (by kernel_rfl) rfl (by kernel_rfl) (M.run_of_path _ [] _ _ (by kernel_rfl) all_nil) ?_, by simp, (wkR.one (wkV.one (wk1.eq rfl))), trivial⟩
                intro p hp p2 hq
                rcases List.mem_cons.1 hp with rfl | hp
                · skip
                  have h3 := l27_0_ok m (m + 24) x0 x1 ((((List.length x0) : Nat) : Int)) 0 _ (some_getD (d := l27_0D) c0)
                  rw [eq_of_beq c6] at h3
                  exact Eq.trans (Eq.mp (by kernel_rfl) h3) hq
                cases hp
              · skip
                refine ite_cases h (fun c7 h => ?_) (fun c7 h => ?_)
                · skip
                  cases h
                  refine ⟨(.d (.bool false)), [], runT_ok (LS := (fun k => if k = 898 then some (l27_0E x0 x1 (((((List.length x0) : Nat) : Int))) ((l27_0R m (m + 24) x0 x1 ((((List.length x0) : Nat) : Int)) 0).2) 6) else none)) (fn := fn27) (vis := [(898, l27_0H x0 x1 ((((List.length x0) : Nat) : Int)) 0, l27_0B x0 x1 ((((List.length x0) : Nat) : Int)) 0)]) (by kernel_rfl) rfl (by kernel_rfl) (M.run_of_path _ [] _ _ (by kernel_rfl) all_nil) ?_, by simp, (wkR.one (wkV.one (wk1.eq rfl))), trivial⟩
                  intro p hp p2 hq
                  rcases List.mem_cons.1 hp with rfl | hp
                  · skip
                    have h3 := l27_0_ok m (m + 24) x0 x1 ((((List.length x0) : Nat) : Int)) 0 _ (some_getD (d := l27_0D) c0)
                    rw [eq_of_beq c7] at h3
                    exact Eq.trans (Eq.mp (by kernel_rfl) h3) hq
                  cases hp
                · skip
                  refine ite_cases h (fun c8 h => ?_) (fun c8 h => ?_)
                  · skip
                    cases h
                    refine ⟨(.d (.bool false)), [], runT_ok (LS := (fun k => if k = 898 then some (l27_0E x0 x1 (((((List.length x0) : Nat) : Int))) ((l27_0R m (m + 24) x0 x1 ((((List.length x0) : Nat) : Int)) 0).2) 7) else none)) (fn := fn27) (vis := [(898, l27_0H x0 x1 ((((List.length x0) : Nat) : Int)) 0, l27_0B x0 x1 ((((List.length x0) : Nat) : Int)) 0)]) (by kernel_rfl) rfl (by kernel_rfl) (M.run_of_path _ [] _ _ (by kernel_rfl) all_nil) ?_, by simp, (wkR.one (wkV.one (wk1.eq rfl))), trivial⟩
                    intro p hp p2 hq
                    rcases List.mem_cons.1 hp with rfl | hp
                    · skip
                      have h3 := l27_0_ok m (m + 24) x0 x1 ((((List.length x0) : Nat) : Int)) 0 _ (some_getD (d := l27_0D) c0)
                      rw [eq_of_beq c8] at h3
                      exact Eq.trans (Eq.mp (by kernel_rfl) h3) hq
                    cases hp
                  · skip
                    refine ite_cases h (fun c9 h => ?_) (fun c9 h => ?_)
                    · skip
                      cases h
                      refine ⟨(.d (.bool false)), [], runT_ok (LS := (fun k => if k = 898 then some (l27_0E x0 x1 (((((List.length x0) : Nat) : Int))) ((l27_0R m (m + 24) x0 x1 ((((List.length x0) : Nat) : Int)) 0).2) 8) else none)) (fn := fn27) (vis := [(898, l27_0H x0 x1 ((((List.length x0) : Nat) : Int)) 0, l27_0B x0 x1 ((((List.length x0) : Nat) : Int)) 0)]) (by kernel_rfl) rfl (by kernel_rfl) (M.run_of_path _ [] _ _ (by kernel_rfl) all_nil) ?_, by simp, (wkR.one (wkV.one (wk1.eq rfl))), trivial⟩
                      intro p hp p2 hq
                      rcases List.mem_cons.1 hp with rfl | hp
                      · skip
                        have h3 := l27_0_ok m (m + 24) x0 x1 ((((List.length x0) : Nat) : Int)) 0 _ (some_getD (d := l27_0D) c0)
                        rw [eq_of_beq c9] at h3
                        exact Eq.trans (Eq.mp (by kernel_rfl) h3) hq
                      cases hp
                    · skip
                      refine ite_cases h (fun c10 h => ?_) (fun c10 h => ?_)
                      · skip
                        cases h
                        refine ⟨(.d (.bool true)), [], runT_ok (LS := (fun k => if k = 898 then some (l27_0E x0 x1 (((((List.length x0) : Nat) : Int))) ((l27_0R m (m + 24) x0 x1 ((((List.length x0) : Nat) : Int)) 0).2) 9) else none)) (fn := fn27) (vis := [(898, l27_0H x0 x1 ((((List.length x0) : Nat) : Int)) 0, l27_0B x0 x1 ((((List.length x0) : Nat) : Int)) 0)]) (by kernel_rfl) rfl (by kernel_rfl) (M.run_of_path _ [] _ _ (by kernel_rfl) all_nil) ?_, by simp, (wkR.one (wkV.one (wk1.eq rfl))), trivial⟩
                        intro p hp p2 hq
                        rcases List.mem_cons.1 hp with rfl | hp
                        · skip
                          have h3 := l27_0_ok m (m + 24) x0 x1 ((((List.length x0) : Nat) : Int)) 0 _ (some_getD (d := l27_0D) c0)
                          rw [eq_of_beq c10] at h3
                          exact Eq.trans (Eq.mp (by kernel_rfl) h3) hq
                        cases hp
                      · skip
                        cases h
  · skip
    cases h

theorem rall_loop (m : Nat) (ms : List MT) (l : LB) (hl : l.length ≤ 1000000) (hb : ms.length ≤ 1000000) : ∀ (n k : Nat), k ≤ ms.length → ms.length - k < n → ∃ e j, l27_0 m n ms l (ms.length : Nat) (k : Nat) = some (e, j) ∧ ((e = 9 ∧ allG l (ms.drop k) = true) ∨ (e < 9 ∧ allG l (ms.drop k) = false))
  | 0, k, _, h => by omega
  | n + 1, k, h1, h2 => by
    rw [l27_0]
    by_cases hk : k < ms.length
    · have e1 : decide (((k : Nat) : Int) < (((List.length ms) : Nat) : Int)) = true := decide_eq_true (by omega)
      have e2 : decide ((0 : Int) ≤ ((k : Nat) : Int)) = true := decide_eq_true (by omega)
      have e3 : decide (List.length l ≤ 1000000) = true := decide_eq_true hl
      have e7 : IntKind.wrap .i64 (((k : Nat) : Int) + (1)) = ((k + 1 : Nat) : Int) := by rw [wrap_id (by omega) (by omega)]; rfl
      rw [drop_getD ms k (([] : List UInt8), (([] : List UInt8), 0)) hk]
      simp only [show Int.toNat ((k : Nat) : Int) = k from rfl, e1, e2, e3, e7, ↓reduceIte]
      have go := rall_loop m ms l hl hb n (k + 1) (by omega) (by omega)
      generalize ms.getD k (([] : List UInt8), (([] : List UInt8), 0)) = q at *
      have hcons : allG l (q :: ms.drop (k + 1)) = (holdsG l q && allG l (ms.drop (k + 1))) := rfl
      rw [hcons]
      have yes : holdsG l q = true → ∃ e j, l27_0 m n ms l (ms.length : Nat) ((k + 1 : Nat) : Int) = some (e, j) ∧ ((e = 9 ∧ (holdsG l q && allG l (ms.drop (k + 1))) = true) ∨ (e < 9 ∧ (holdsG l q && allG l (ms.drop (k + 1))) = false)) := by
        intro h; rw [h, Bool.true_and]; exact go
      have no : ∀ e : Nat, e < 9 → holdsG l q = false → ∃ e' j, (some (e, ((k : Nat) : Int)) : Option (Nat × Int)) = some (e', j) ∧ ((e' = 9 ∧ (holdsG l q && allG l (ms.drop (k + 1))) = true) ∨ (e' < 9 ∧ (holdsG l q && allG l (ms.drop (k + 1))) = false)) := by
        intro e he h; exact ⟨e, _, rfl, .inr ⟨he, by rw [h]; rfl⟩⟩
      generalize allG l (ms.drop (k + 1)) = rest at *
      have hv : holdsG l q = if q.2.2 = 1 then getG l q.1 == q.2.1 else if q.2.2 = 2 then !(getG l q.1 == q.2.1) else if q.2.2 = 3 then preB (getG l q.1) q.2.1 else if q.2.2 = 4 then !preB (getG l q.1) q.2.1 else false := rfl
      generalize holdsG l q = hq at *
      generalize getG l q.1 = v at *
      obtain ⟨nm, p, kd⟩ := q
      simp only at hv ⊢
      have hpre : preB v p = (decide (p.length ≤ v.length) && (v.take p.length == p)) := rfl
      generalize preB v p = pr at *
      have f3 : List.drop 0 (List.take (Int.toNat (((List.length p) : Nat) : Int)) v) = v.take p.length := by rw [Int.toNat_natCast, List.drop_zero]
      rw [f3]
      generalize hT : (v.take p.length == p) = T at *
      generalize hE : (v == p) = E at *
      by_cases hlen : p.length ≤ v.length
      · have f1 : decide ((((List.length v) : Nat) : Int) ≥ (((List.length p) : Nat) : Int)) = true := decide_eq_true (by omega)
        have f2 : (decide (0 ≤ (((List.length p) : Nat) : Int)) && decide ((((List.length p) : Nat) : Int) ≤ (((List.length v) : Nat) : Int))) = true := by simp; omega
        rw [show decide (p.length ≤ v.length) = true from decide_eq_true hlen, Bool.true_and] at hpre
        subst hpre
        simp only [f1, f2, ↓reduceIte]
        by_cases k1 : kd = 1
        · rw [if_pos (show (kd == (1)) = true by simp [k1])]; rw [if_pos k1] at hv
          cases E with
          | true => exact yes hv
          | false => exact no 0 (by omega) hv
        · rw [if_neg (show ¬ (kd == (1)) = true by simpa using k1)]; rw [if_neg k1] at hv
          by_cases k2 : kd = 2
          · rw [if_pos (show (kd == (2)) = true by simp [k2])]; rw [if_pos k2] at hv
            cases E with
            | true => exact no 1 (by omega) hv
            | false => exact yes hv
          · rw [if_neg (show ¬ (kd == (2)) = true by simpa using k2)]; rw [if_neg k2] at hv
            by_cases k3 : kd = 3
            · rw [if_pos (show (kd == (3)) = true by simp [k3])]; rw [if_pos k3] at hv
              cases pr with
              | true => exact yes hv
              | false => exact no 2 (by omega) hv
            · rw [if_neg (show ¬ (kd == (3)) = true by simpa using k3)]; rw [if_neg k3] at hv
              by_cases k4 : kd = 4
              · rw [if_pos (show (kd == (4)) = true by simp [k4])]; rw [if_pos k4] at hv
                cases pr with
                | true => exact no 3 (by omega) hv
                | false => exact yes hv
              · rw [if_neg (show ¬ (kd == (4)) = true by simpa using k4)]; rw [if_neg k4] at hv
                exact no 4 (by omega) hv
      · have f1 : decide ((((List.length v) : Nat) : Int) ≥ (((List.length p) : Nat) : Int)) = false := decide_eq_false (by omega)
        rw [show decide (p.length ≤ v.length) = false from decide_eq_false hlen, Bool.false_and] at hpre
        subst hpre
        simp only [f1, ↓reduceIte, Bool.false_eq_true]
        by_cases k1 : kd = 1
        · rw [if_pos (show (kd == (1)) = true by simp [k1])]; rw [if_pos k1] at hv
          cases E with
          | true => exact yes hv
          | false => exact no 5 (by omega) hv
        · rw [if_neg (show ¬ (kd == (1)) = true by simpa using k1)]; rw [if_neg k1] at hv
          by_cases k2 : kd = 2
          · rw [if_pos (show (kd == (2)) = true by simp [k2])]; rw [if_pos k2] at hv
            cases E with
            | true => exact no 6 (by omega) hv
            | false => exact yes hv
          · rw [if_neg (show ¬ (kd == (2)) = true by simpa using k2)]; rw [if_neg k2] at hv
            by_cases k3 : kd = 3
            · rw [if_pos (show (kd == (3)) = true by simp [k3])]; rw [if_pos k3] at hv
              exact no 7 (by omega) hv
            · rw [if_neg (show ¬ (kd == (3)) = true by simpa using k3)]; rw [if_neg k3] at hv
              by_cases k4 : kd = 4
              · rw [if_pos (show (kd == (4)) = true by simp [k4])]; rw [if_pos k4] at hv
                exact yes hv
              · rw [if_neg (show ¬ (kd == (4)) = true by simpa using k4)]; rw [if_neg k4] at hv
                exact no 8 (by omega) hv
    · have e1 : decide (((k : Nat) : Int) < (((List.length ms) : Nat) : Int)) = false := decide_eq_false (by omega)
      rw [e1, if_neg (by simp), List.drop_eq_nil_of_le (by omega)]
      exact ⟨9, _, rfl, .inl ⟨rfl, rfl⟩⟩
theorem rall27 (ms : List MT) (l : LB) (h : decide (List.length ms ≤ 1000000 ∧ List.length l ≤ 1000000) = true) : ∃ m, p27 m ms l = some (allG l ms) := by
  have h := of_decide_eq_true h
  refine ⟨ms.length, ?_⟩
  unfold p27 l27_0R
  obtain ⟨e, j, hr, he⟩ := rall_loop ms.length ms l h.2 h.1 (ms.length + 24) 0 (by omega) (by omega)
  simp only [Int.natCast_zero, List.drop_zero] at hr he
  rw [hr]
  rcases he with ⟨rfl, he⟩ | ⟨hlt, he⟩
  · rw [he]; rfl
  · rw [he]
    have : e = 0 ∨ e = 1 ∨ e = 2 ∨ e = 3 ∨ e = 4 ∨ e = 5 ∨ e = 6 ∨ e = 7 ∨ e = 8 := by omega
    rcases this with rfl | rfl | rfl | rfl | rfl | rfl | rfl | rfl | rfl <;> rfl
def s27 : List AV → Boxes → M (AV × Boxes) := normS [.val (.sl (.pair .str (.pair .str (.int .i64)))), .val (.sl (.pair .str .str))] [] fun xs B => match xs, B with
  | [(.d (.sl (.pair .str (.pair .str (.int .i64))) c1)), (.d (.sl (.pair .str .str) c2))], [] => .chk (decide (List.length c1 ≤ 1000000 ∧ List.length c2 ≤ 1000000)) (.ret ((.d (.bool (allG c2 c1))), []))
  | _, _ => .fail
theorem s27_at : CallAt Tryd.prog 27 s27 := by
  refine CallAt.norm (CallAt.weakE (g := fun n => evCall F S17 n 27) (fun n => evCall_atH mixed kinds hds S17 S17_ok n 27) fun xs B r' B' hr => ?_) _ _
  split at hr
  · rename_i c1 c2
    obtain ⟨hp, hr⟩ := (M.run_chk _ _ _).1 hr
    simp only [M.run, Option.some.injEq, Prod.mk.injEq] at hr
    obtain ⟨rfl, rfl⟩ := hr
    obtain ⟨m, hm⟩ := rall27 c1 c2 hp
    obtain ⟨r, B1, h1, h2, h3, h4⟩ := p27_ok m c1 c2 _ hm
    exact ⟨m + 25, r, B1, h1, by simp, h2, h3, h4⟩
  · simp [M.run] at hr
noncomputable def S18 : FuncId → Option (List AV → Boxes → M (AV × Boxes)) := fun f => if f = 27 then some s27 else S17 f
set_option maxHeartbeats 20000000 in
theorem S18_ok : ∀ f s, S18 f = some s → CallAt Tryd.prog f s := by
  intro f s h
  unfold S18 at h
  split at h
  · rename_i e; subst e; cases h; exact s27_at
  · exact S17_ok f s h

end Go.Proofs.YtghkbjflejgieaaDoor.Dec
namespace Go.Proofs.YtghkbjflejgieaaDoor.Dec
open Go.Ev
set_option linter.unusedVariables false
set_option linter.unusedSimpArgs false
set_option maxRecDepth 100000
noncomputable def fn48 : AFn := (F 48).getD ⟨0, [], .bad, false, false, noHd⟩
noncomputable def body48 : AC := fn48.body
def l48_0 (m : Nat) : Nat → List ((List UInt8) × (List UInt8) × Int) → List ((List UInt8) × (List UInt8) × Int) → Int → Option (Nat × Int)
  | 0, _, _, _ => none
  | n + 1, x0, x1, s5 => if decide (s5 < (((List.length x0) : Nat) : Int)) = true then
      if decide (0 ≤ s5) = true then
        if decide (s5 < (((List.length x1) : Nat) : Int)) = true then
          if (((List.getD x0 (Int.toNat s5) (([] : List UInt8), (([] : List UInt8), 0))).1 == (List.getD x1 (Int.toNat s5) (([] : List UInt8), (([] : List UInt8), 0))).1) && (((List.getD x0 (Int.toNat s5) (([] : List UInt8), (([] : List UInt8), 0))).2.1 == (List.getD x1 (Int.toNat s5) (([] : List UInt8), (([] : List UInt8), 0))).2.1) && (((List.getD x0 (Int.toNat s5) (([] : List UInt8), (([] : List UInt8), 0))).2.2 == (List.getD x1 (Int.toNat s5) (([] : List UInt8), (([] : List UInt8), 0))).2.2) && true))) = true then
            l48_0 m n x0 x1 ((IntKind.wrap .i64 (s5 + (1))))
          else
            some (0, s5)
        else
          none
      else
        none
    else
      some (1, s5)
def l48_0D : Nat × Int := (0, 0)
@[reducible] def l48_0R (m n : Nat) (x0 : List ((List UInt8) × (List UInt8) × Int)) (x1 : List ((List UInt8) × (List UInt8) × Int)) (s5 : Int) : Nat × Int := Option.getD (l48_0 m n x0 x1 s5) l48_0D
def l48_0H (x0 : List ((List UInt8) × (List UInt8) × Int)) (x1 : List ((List UInt8) × (List UInt8) × Int)) (s5 : Int) : Env := [(.d (.sl (.pair .str (.pair .str (.int .i64))) x0)), (.d (.sl (.pair .str (.pair .str (.int .i64))) x1)), .top, .top, .top, (.d (.int .i64 s5)), .top, .top, .top, .top, .top, .top, .top, .top, .top, .top, .top, .top, .top, .top, .top, .top, .top, .top, .top, .top]
def l48_0B (x0 : List ((List UInt8) × (List UInt8) × Int)) (x1 : List ((List UInt8) × (List UInt8) × Int)) (s5 : Int) : Boxes := []
def l48_0E (x0 : List ((List UInt8) × (List UInt8) × Int)) (x1 : List ((List UInt8) × (List UInt8) × Int)) (s5 : Int) : Nat → AEx × Env × Boxes
  | 0 => (.ret, [(.d (.sl (.pair .str (.pair .str (.int .i64))) x0)), (.d (.sl (.pair .str (.pair .str (.int .i64))) x1)), .top, .top, (.d (.bool false)), (.d (.int .i64 s5)), .top, .top, .top, .top, .top, (.d (.int .i64 s5)), (.d (.sl (.pair .str (.pair .str (.int .i64))) x0)), (.d (.int .i64 (((List.length x0) : Nat) : Int))), (.d (.bool (decide (s5 < (((List.length x0) : Nat) : Int))))), .top, .top, (.d (.sl (.pair .str (.pair .str (.int .i64))) x0)), (.d (.int .i64 s5)), (.cptr [(.str (List.getD x0 (Int.toNat s5) (([] : List UInt8), (([] : List UInt8), 0))).1), (.str (List.getD x0 (Int.toNat s5) (([] : List UInt8), (([] : List UInt8), 0))).2.1), (.int .i64 (List.getD x0 (Int.toNat s5) (([] : List UInt8), (([] : List UInt8), 0))).2.2)] 0), (.agg [(.d (.str (List.getD x0 (Int.toNat s5) (([] : List UInt8), (([] : List UInt8), 0))).1)), (.d (.str (List.getD x0 (Int.toNat s5) (([] : List UInt8), (([] : List UInt8), 0))).2.1)), (.d (.int .i64 (List.getD x0 (Int.toNat s5) (([] : List UInt8), (([] : List UInt8), 0))).2.2))]), (.d (.sl (.pair .str (.pair .str (.int .i64))) x1)), (.d (.int .i64 s5)), (.cptr [(.str (List.getD x1 (Int.toNat s5) (([] : List UInt8), (([] : List UInt8), 0))).1), (.str (List.getD x1 (Int.toNat s5) (([] : List UInt8), (([] : List UInt8), 0))).2.1), (.int .i64 (List.getD x1 (Int.toNat s5) (([] : List UInt8), (([] : List UInt8), 0))).2.2)] 0), (.agg [(.d (.str (List.getD x1 (Int.toNat s5) (([] : List UInt8), (([] : List UInt8), 0))).1)), (.d (.str (List.getD x1 (Int.toNat s5) (([] : List UInt8), (([] : List UInt8), 0))).2.1)), (.d (.int .i64 (List.getD x1 (Int.toNat s5) (([] : List UInt8), (([] : List UInt8), 0))).2.2))]), (.d (.bool (!(((List.getD x0 (Int.toNat s5) (([] : List UInt8), (([] : List UInt8), 0))).1 == (List.getD x1 (Int.toNat s5) (([] : List UInt8), (([] : List UInt8), 0))).1) && (((List.getD x0 (Int.toNat s5) (([] : List UInt8), (([] : List UInt8), 0))).2.1 == (List.getD x1 (Int.toNat s5) (([] : List UInt8), (([] : List UInt8), 0))).2.1) && (((List.getD x0 (Int.toNat s5) (([] : List UInt8), (([] : List UInt8), 0))).2.2 == (List.getD x1 (Int.toNat s5) (([] : List UInt8), (([] : List UInt8), 0))).2.2) && true))))))], [.dead, .dead, .dead, .dead, .dead, .dead, .dead, .dead, .dead, .dead, .dead, .dead, .dead, .dead, .dead, .dead, .dead, .dead, .dead, .dead, .dead, .dead, .dead, .dead, .dead, .dead, .dead, .dead, .dead, .dead, .dead, .dead, .dead, .dead, .dead, .dead])
  | _ => (.exit 0, [(.d (.sl (.pair .str (.pair .str (.int .i64))) x0)), (.d (.sl (.pair .str (.pair .str (.int .i64))) x1)), .top, .top, .top, (.d (.int .i64 s5)), .top, .top, .top, .top, .top, (.d (.int .i64 s5)), (.d (.sl (.pair .str (.pair .str (.int .i64))) x0)), (.d (.int .i64 (((List.length x0) : Nat) : Int))), (.d (.bool (decide (s5 < (((List.length x0) : Nat) : Int))))), .top, .top, .top, .top, .top, .top, .top, .top, .top, .top, .top], [])
noncomputable def lbl48_0 : AC := loopBody 35 body48

set_option maxHeartbeats 20000000 in
theorem l48_0_w0 (m n : Nat) (x0 : List ((List UInt8) × (List UInt8) × Int)) (x1 : List ((List UInt8) × (List UInt8) × Int)) (s5 : Int) (r : AEx × Env × Boxes) (c0 : decide (s5 < (((List.length x0) : Nat) : Int)) = true) (c1 : decide (0 ≤ s5) = true) (c4 : decide (s5 < (((List.length x1) : Nat) : Int)) = true) (c5 : (((List.getD x0 (Int.toNat s5) (([] : List UInt8), (([] : List UInt8), 0))).1 == (List.getD x1 (Int.toNat s5) (([] : List UInt8), (([] : List UInt8), 0))).1) && (((List.getD x0 (Int.toNat s5) (([] : List UInt8), (([] : List UInt8), 0))).2.1 == (List.getD x1 (Int.toNat s5) (([] : List UInt8), (([] : List UInt8), 0))).2.1) && (((List.getD x0 (Int.toNat s5) (([] : List UInt8), (([] : List UInt8), 0))).2.2 == (List.getD x1 (Int.toNat s5) (([] : List UInt8), (([] : List UInt8), 0))).2.2) && true))) = true) (ih : (turns (hds 48 35) 0 35 (evC byref (evCall F S18 (m + 24)) (m + 24) 0 (hds 48) lbl48_0) n (l48_0H x0 x1 ((IntKind.wrap .i64 (s5 + (1))))) (l48_0B x0 x1 ((IntKind.wrap .i64 (s5 + (1)))))).run = some r) : (turns (hds 48 35) 0 35 (evC byref (evCall F S18 (m + 24)) (m + 24) 0 (hds 48) lbl48_0) (n + 1) (l48_0H x0 x1 s5) (l48_0B x0 x1 s5)).run = some r := by
  exact turns_step (M.run_of_path _ [true, true, true, true, true, false] _ _ (by kernel_rfl) (all_t c0 (all_t c1 (all_t c0 (all_t c1 (all_t c4 (all_nt c5 all_nil))))))) ih
set_option maxHeartbeats 20000000 in
theorem l48_0_w1 (m n : Nat) (x0 : List ((List UInt8) × (List UInt8) × Int)) (x1 : List ((List UInt8) × (List UInt8) × Int)) (s5 : Int) (c0 : decide (s5 < (((List.length x0) : Nat) : Int)) = true) (c1 : decide (0 ≤ s5) = true) (c4 : decide (s5 < (((List.length x1) : Nat) : Int)) = true) (c5 : ¬ (((List.getD x0 (Int.toNat s5) (([] : List UInt8), (([] : List UInt8), 0))).1 == (List.getD x1 (Int.toNat s5) (([] : List UInt8), (([] : List UInt8), 0))).1) && (((List.getD x0 (Int.toNat s5) (([] : List UInt8), (([] : List UInt8), 0))).2.1 == (List.getD x1 (Int.toNat s5) (([] : List UInt8), (([] : List UInt8), 0))).2.1) && (((List.getD x0 (Int.toNat s5) (([] : List UInt8), (([] : List UInt8), 0))).2.2 == (List.getD x1 (Int.toNat s5) (([] : List UInt8), (([] : List UInt8), 0))).2.2) && true))) = true) : (turns (hds 48 35) 0 35 (evC byref (evCall F S18 (m + 24)) (m + 24) 0 (hds 48) lbl48_0) (n + 1) (l48_0H x0 x1 s5) (l48_0B x0 x1 s5)).run = some (.ret, [(.d (.sl (.pair .str (.pair .str (.int .i64))) x0)), (.d (.sl (.pair .str (.pair .str (.int .i64))) x1)), .top, .top, (.d (.bool false)), (.d (.int .i64 s5)), .top, .top, .top, .top, .top, (.d (.int .i64 s5)), (.d (.sl (.pair .str (.pair .str (.int .i64))) x0)), (.d (.int .i64 (((List.length x0) : Nat) : Int))), (.d (.bool (decide (s5 < (((List.length x0) : Nat) : Int))))), .top, .top, (.d (.sl (.pair .str (.pair .str (.int .i64))) x0)), (.d (.int .i64 s5)), (.cptr [(.str (List.getD x0 (Int.toNat s5) (([] : List UInt8), (([] : List UInt8), 0))).1), (.str (List.getD x0 (Int.toNat s5) (([] : List UInt8), (([] : List UInt8), 0))).2.1), (.int .i64 (List.getD x0 (Int.toNat s5) (([] : List UInt8), (([] : List UInt8), 0))).2.2)] 0), (.agg [(.d (.str (List.getD x0 (Int.toNat s5) (([] : List UInt8), (([] : List UInt8), 0))).1)), (.d (.str (List.getD x0 (Int.toNat s5) (([] : List UInt8), (([] : List UInt8), 0))).2.1)), (.d (.int .i64 (List.getD x0 (Int.toNat s5) (([] : List UInt8), (([] : List UInt8), 0))).2.2))]), (.d (.sl (.pair .str (.pair .str (.int .i64))) x1)), (.d (.int .i64 s5)), (.cptr [(.str (List.getD x1 (Int.toNat s5) (([] : List UInt8), (([] : List UInt8), 0))).1), (.str (List.getD x1 (Int.toNat s5) (([] : List UInt8), (([] : List UInt8), 0))).2.1), (.int .i64 (List.getD x1 (Int.toNat s5) (([] : List UInt8), (([] : List UInt8), 0))).2.2)] 0), (.agg [(.d (.str (List.getD x1 (Int.toNat s5) (([] : List UInt8), (([] : List UInt8), 0))).1)), (.d (.str (List.getD x1 (Int.toNat s5) (([] : List UInt8), (([] : List UInt8), 0))).2.1)), (.d (.int .i64 (List.getD x1 (Int.toNat s5) (([] : List UInt8), (([] : List UInt8), 0))).2.2))]), (.d (.bool (!(((List.getD x0 (Int.toNat s5) (([] : List UInt8), (([] : List UInt8), 0))).1 == (List.getD x1 (Int.toNat s5) (([] : List UInt8), (([] : List UInt8), 0))).1) && (((List.getD x0 (Int.toNat s5) (([] : List UInt8), (([] : List UInt8), 0))).2.1 == (List.getD x1 (Int.toNat s5) (([] : List UInt8), (([] : List UInt8), 0))).2.1) && (((List.getD x0 (Int.toNat s5) (([] : List UInt8), (([] : List UInt8), 0))).2.2 == (List.getD x1 (Int.toNat s5) (([] : List UInt8), (([] : List UInt8), 0))).2.2) && true))))))], [.dead, .dead, .dead, .dead, .dead, .dead, .dead, .dead, .dead, .dead, .dead, .dead, .dead, .dead, .dead, .dead, .dead, .dead, .dead, .dead, .dead, .dead, .dead, .dead, .dead, .dead, .dead, .dead, .dead, .dead, .dead, .dead, .dead, .dead, .dead, .dead]) := by
  exact turns_last (by simp) (M.run_of_path _ [true, true, true, true, true, true] _ _ (by kernel_rfl) (all_t c0 (all_t c1 (all_t c0 (all_t c1 (all_t c4 (all_nf c5 all_nil))))))) 
set_option maxHeartbeats 20000000 in
theorem l48_0_w2 (m n : Nat) (x0 : List ((List UInt8) × (List UInt8) × Int)) (x1 : List ((List UInt8) × (List UInt8) × Int)) (s5 : Int) (c0 : ¬ decide (s5 < (((List.length x0) : Nat) : Int)) = true) : (turns (hds 48 35) 0 35 (evC byref (evCall F S18 (m + 24)) (m + 24) 0 (hds 48) lbl48_0) (n + 1) (l48_0H x0 x1 s5) (l48_0B x0 x1 s5)).run = some (.exit 0, [(.d (.sl (.pair .str (.pair .str (.int .i64))) x0)), (.d (.sl (.pair .str (.pair .str (.int .i64))) x1)), .top, .top, .top, (.d (.int .i64 s5)), .top, .top, .top, .top, .top, (.d (.int .i64 s5)), (.d (.sl (.pair .str (.pair .str (.int .i64))) x0)), (.d (.int .i64 (((List.length x0) : Nat) : Int))), (.d (.bool (decide (s5 < (((List.length x0) : Nat) : Int))))), .top, .top, .top, .top, .top, .top, .top, .top, .top, .top, .top], []) := by
  exact turns_last (by simp) (M.run_of_path _ [false] _ _ (by kernel_rfl) (all_f c0 all_nil)) 

set_option maxHeartbeats 20000000 in
theorem l48_0_step (m n : Nat) (ih : ∀ (x0 : List ((List UInt8) × (List UInt8) × Int)) (x1 : List ((List UInt8) × (List UInt8) × Int)) (s5 : Int) (q : Nat × Int), l48_0 m n x0 x1 s5 = some q → (turns (hds 48 35) 0 35 (evC byref (evCall F S18 (m + 24)) (m + 24) 0 (hds 48) lbl48_0) n (l48_0H x0 x1 s5) (l48_0B x0 x1 s5)).run = some (l48_0E (x0) (x1) (q.2) q.1)) (x0 : List ((List UInt8) × (List UInt8) × Int)) (x1 : List ((List UInt8) × (List UInt8) × Int)) (s5 : Int) (q : Nat × Int) (h : l48_0 m (n + 1) x0 x1 s5 = some q) : (turns (hds 48 35) 0 35 (evC byref (evCall F S18 (m + 24)) (m + 24) 0 (hds 48) lbl48_0) (n + 1) (l48_0H x0 x1 s5) (l48_0B x0 x1 s5)).run = some (l48_0E (x0) (x1) (q.2) q.1) := by
  rw [l48_0] at h
  refine ite_cases h (fun c0 h => ?_) (fun c0 h => ?_)
  · skip
    refine ite_cases h (fun c1 h => ?_) (fun c1 h => ?_)
    · skip
      refine ite_cases h (fun c4 h => ?_) (fun c4 h => ?_)
      · skip
        refine ite_cases h (fun c5 h => ?_) (fun c5 h => ?_)
        · skip
          exact l48_0_w0 m n x0 x1 s5 _ c0 c1 c4 c5 (ih _ _ _ q h)
        · skip
          cases h
          exact l48_0_w1 m n x0 x1 s5 c0 c1 c4 c5
      · skip
        cases h
    · skip
      cases h
  · skip
    cases h
    exact l48_0_w2 m n x0 x1 s5 c0
set_option maxHeartbeats 20000000 in
theorem l48_0_ok (m : Nat) : ∀ (n : Nat) (x0 : List ((List UInt8) × (List UInt8) × Int)) (x1 : List ((List UInt8) × (List UInt8) × Int)) (s5 : Int) (q : Nat × Int), l48_0 m n x0 x1 s5 = some q → (turns (hds 48 35) 0 35 (evC byref (evCall F S18 (m + 24)) (m + 24) 0 (hds 48) lbl48_0) n (l48_0H x0 x1 s5) (l48_0B x0 x1 s5)).run = some (l48_0E (x0) (x1) (q.2) q.1)
  | 0, x0, x1, s5, q, h => by cases h
  | n + 1, x0, x1, s5, q, h => l48_0_step m n (l48_0_ok m n) x0 x1 s5 q h

def p48 (m : Nat) (x0 : List ((List UInt8) × (List UInt8) × Int)) (x1 : List ((List UInt8) × (List UInt8) × Int)) : Option (Bool) :=
  if ((((List.length x0) : Nat) : Int) != (((List.length x1) : Nat) : Int)) = true then
    some (false)
  else
    if (Option.isSome (l48_0 m (m + 24) x0 x1 0)) = true then
      if ((l48_0R m (m + 24) x0 x1 0).1 == 0) = true then
        some (false)
      else
        if ((l48_0R m (m + 24) x0 x1 0).1 == 1) = true then
          some (true)
        else
          none
    else
      none
set_option maxHeartbeats 20000000 in
theorem p48_ok (m : Nat) (x0 : List ((List UInt8) × (List UInt8) × Int)) (x1 : List ((List UInt8) × (List UInt8) × Int)) (q : Bool) (h : p48 m x0 x1 = some q) : ∃ r B1, (evCall F S18 (m + 25) 48 [(.d (.sl (.pair .str (.pair .str (.int .i64))) x0)), (.d (.sl (.pair .str (.pair .str (.int .i64))) x1))] []).run = some (r, B1) ∧ 0 ≤ B1.length ∧ wkR B1 [] r (.d (.bool (q))) ∧ wkBs B1 [] 0 [] := by
  unfold p48 at h
  refine ite_cases h (fun c0 h => ?_) (fun c0 h => ?_)
  · skip
    cases h
    refine ⟨(.d (.bool false)), [], runT_ok (LS := (fun k => none)) (fn := fn48) (vis := []) (by kernel_rfl) rfl (by kernel_rfl) (M.run_of_path _ [true] _ _ (by kernel_rfl) (all_t c0 all_nil)) ?_, by simp, (wkR.one (wkV.one (wk1.eq rfl))), trivial⟩
    intro p hp; cases hp
  · skip
    refine ite_cases h (fun c1 h => ?_) (fun c1 h => ?_)
    · skip
      refine ite_cases h (fun c2 h => ?_) (fun c2 h => ?_)
      · skip
        cases h
        refine ⟨(.d (.bool false)), [], runT_ok (LS := (fun k => if k = 35 then some (l48_0E x0 x1 ((l48_0R m (m + 24) x0 x1 0).2) 0) else none)) (fn := fn48) (vis := [(35, l48_0H x0 x1 0, l48_0B x0 x1 0)]) (by kernel_rfl) rfl (by kernel_rfl) (M.run_of_path _ [false] _ _ (by kernel_rfl) (all_f c0 all_nil)) ?_, by simp, (wkR.one (wkV.one (wk1.eq rfl))), trivial⟩
        intro p hp p2 hq
        rcases List.mem_cons.1 hp with rfl | hp
        · skip
          have h3 := l48_0_ok m (m + 24) x0 x1 0 _ (some_getD (d := l48_0D) c1)
          rw [eq_of_beq c2] at h3
          exact Eq.trans (Eq.mp (by kernel_rfl) h3) hq
        cases hp
      · skip
        refine ite_cases h (fun c3 h => ?_) (fun c3 h => ?_)
        · skip
          cases h
          refine ⟨(.d (.bool true)), [], runT_ok (LS := (fun k => if k = 35 then some (l48_0E x0 x1 ((l48_0R m (m + 24) x0 x1 0).2) 1) else none)) (fn := fn48) (vis := [(35, l48_0H x0 x1 0, l48_0B x0 x1 0)]) (by kernel_rfl) rfl (by kernel_rfl) (M.run_of_path _ [false] _ _ (by kernel_rfl) (all_f c0 all_nil)) ?_, by simp, (wkR.one (wkV.one (wk1.eq rfl))), trivial⟩
          intro p hp p2 hq
          rcases List.mem_cons.1 hp with rfl | hp
          · skip
            have h3 := l48_0_ok m (m + 24) x0 x1 0 _ (some_getD (d := l48_0D) c1)
            rw [eq_of_beq c3] at h3
            exact Eq.trans (Eq.mp (by kernel_rfl) h3) hq
          cases hp
        · skip
          cases h
    · skip
      cases h

theorem eq48_loop (m : Nat) (a b : List ((List UInt8) × (List UInt8) × Int)) (hl : a.length = b.length) (hb : a.length < 4611686018427387904) : ∀ n k, k ≤ a.length → a.length - k < n → ∃ j, l48_0 m n a b (k : Nat) = some (if a.drop k == b.drop k then 1 else 0, j)
  | 0, k, _, h => by omega
  | n + 1, k, hk, hn => by
    rw [l48_0]
    by_cases h : k < a.length
    · have hs : ∀ u v : (List UInt8) × (List UInt8) × Int, ((u.1 == v.1) && ((u.2.1 == v.2.1) && ((u.2.2 == v.2.2) && true))) = (u == v) := fun u v => by rw [Bool.and_true]; rfl
      have e1 : decide (((k : Nat) : Int) < ((a.length : Nat) : Int)) = true := decide_eq_true (by omega)
      have e2 : decide ((0 : Int) ≤ ((k : Nat) : Int)) = true := decide_eq_true (by omega)
      have e3 : decide (((k : Nat) : Int) < ((b.length : Nat) : Int)) = true := decide_eq_true (by omega)
      simp only [e1, e2, e3, if_true, Int.toNat_natCast,hs]
      rw [drop_getD a k (([] : List UInt8), (([] : List UInt8), 0)) h, drop_getD b k (([] : List UInt8), (([] : List UInt8), 0)) (by omega)]
      have ew : IntKind.wrap .i64 (((k : Nat) : Int) + (1)) = ((k + 1 : Nat) : Int) := by rw [wrap_id (by omega) (by omega)]; rfl
      rw [ew]
      obtain ⟨j, hj⟩ := eq48_loop m a b hl hb n (k + 1) (by omega) (by omega)
      have hc : ((a.getD k (([] : List UInt8), (([] : List UInt8), 0))) :: a.drop (k + 1) == (b.getD k (([] : List UInt8), (([] : List UInt8), 0))) :: b.drop (k + 1)) = (((a.getD k (([] : List UInt8), (([] : List UInt8), 0))) == (b.getD k (([] : List UInt8), (([] : List UInt8), 0)))) && (a.drop (k + 1) == b.drop (k + 1))) := rfl
      rw [hc]
      rcases Bool.eq_false_or_eq_true ((a.getD k (([] : List UInt8), (([] : List UInt8), 0))) == (b.getD k (([] : List UInt8), (([] : List UInt8), 0)))) with he | he
      · exact ⟨j, by simp only [he, hj]; simp⟩
      · exact ⟨(k : Nat), by simp only [he]; simp⟩
    · have e1 : decide (((k : Nat) : Int) < ((a.length : Nat) : Int)) = false := decide_eq_false (by omega)
      refine ⟨(k : Nat), ?_⟩
      simp only [e1, Bool.false_eq_true, if_false]
      rw [List.drop_eq_nil_of_le (by omega), List.drop_eq_nil_of_le (by omega)]
      rfl
theorem eq48 (a b : List ((List UInt8) × (List UInt8) × Int)) (h : decide (List.length a < 4611686018427387904) = true) : ∃ m, p48 m a b = some (a == b) := by
  have hb := of_decide_eq_true h
  refine ⟨a.length, ?_⟩
  unfold p48 l48_0R
  by_cases hl : a.length = b.length
  · have e0 : ((((List.length a) : Nat) : Int) != (((List.length b) : Nat) : Int)) = false := by simp [hl]
    obtain ⟨j, hj⟩ := eq48_loop a.length a b hl hb (a.length + 24) 0 (by omega) (by omega)
    simp only [Int.natCast_zero, List.drop_zero] at hj
    rw [e0]
    simp only [Bool.false_eq_true, if_false]
    rw [hj]
    cases hab : a == b <;> simp [hab]
  · have e0 : ((((List.length a) : Nat) : Int) != (((List.length b) : Nat) : Int)) = true := by simp; omega
    rw [e0]
    have : (a == b) = false := by
      rw [beq_eq_false_iff_ne]
      intro e; rw [e] at hl; exact hl rfl
    simp [this]
def s48 : List AV → Boxes → M (AV × Boxes) := normS [.val (.sl (.pair .str (.pair .str (.int .i64)))), .val (.sl (.pair .str (.pair .str (.int .i64))))] [] fun xs B => match xs, B with
  | [(.d (.sl (.pair .str (.pair .str (.int .i64))) c1)), (.d (.sl (.pair .str (.pair .str (.int .i64))) c2))], [] => .chk (decide (List.length c1 < 4611686018427387904)) (.ret ((.d (.bool ((show List ((List UInt8) × (List UInt8) × Int) from c1) == c2))), []))
  | _, _ => .fail
theorem s48_at : CallAt Tryd.prog 48 s48 := by
  refine CallAt.norm (CallAt.weakE (g := fun n => evCall F S18 n 48) (fun n => evCall_atH mixed kinds hds S18 S18_ok n 48) fun xs B r' B' hr => ?_) _ _
  split at hr
  · rename_i c1 c2
    obtain ⟨hp, hr⟩ := (M.run_chk _ _ _).1 hr
    simp only [M.run, Option.some.injEq, Prod.mk.injEq] at hr
    obtain ⟨rfl, rfl⟩ := hr
    obtain ⟨m, hm⟩ := eq48 c1 c2 hp
    obtain ⟨r, B1, h1, h2, h3, h4⟩ := p48_ok m c1 c2 _ hm
    exact ⟨m + 25, r, B1, h1, by simp, h2, h3, h4⟩
  · simp [M.run] at hr
noncomputable def S19 : FuncId → Option (List AV → Boxes → M (AV × Boxes)) := fun f => if f = 48 then some s48 else S18 f
set_option maxHeartbeats 20000000 in
theorem S19_ok : ∀ f s, S19 f = some s → CallAt Tryd.prog f s := by
  intro f s h
  unfold S19 at h
  split at h
  · rename_i e; subst e; cases h; exact s48_at
  · exact S18_ok f s h

end Go.Proofs.YtghkbjflejgieaaDoor.Dec
