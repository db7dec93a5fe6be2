/- (*Series).Add. -/
import Derived.Test.YtkppbflmlpabjabEc
import Derived.KernelRfl
namespace Go.Proofs.Ytkppbflmlpabjab.Dec
open Go.Ev
set_option linter.unusedVariables false
set_option linter.unusedSimpArgs false
set_option maxRecDepth 100000
noncomputable def fn27 : AFn := (F 27).getD ⟨0, [], .bad, false, false, noHd⟩
noncomputable def body27 : AC := fn27.body
def l27_0 (m : Nat) : Nat → List (Int × Int) → List (Int × Int) → Int → Int → List (Int × Int) → Option (Nat × Int × (List (Int × Int)))
  | 0, _, _, _, _, _ => none
  | n + 1, x0, x1, s14, s15, b1 => if decide (s15 < s14) = true then
      if decide (0 ≤ s15) = true then
        if decide (s15 < (((List.length x1) : Nat) : Int)) = true then
          if decide ((List.getD x1 (Int.toNat s15) (0, 0)).1 < 0) = true then
            some (0, s15, b1)
          else
            if decide ((List.getD x1 (Int.toNat s15) (0, 0)).1 > 1099511627776) = true then
              some (1, s15, b1)
            else
              if decide ((((List.length b1) : Nat) : Int) > 0) = true then
                if decide (0 ≤ (IntKind.wrap .i64 ((((List.length b1) : Nat) : Int) - (1)))) = true then
                  if decide ((IntKind.wrap .i64 ((((List.length b1) : Nat) : Int) - (1))) < (((List.length b1) : Nat) : Int)) = true then
                    if decide ((0 + (Int.toNat (IntKind.wrap .i64 ((((List.length b1) : Nat) : Int) - (1))))) < (List.length b1)) = true then
                      if decide ((List.getD x1 (Int.toNat s15) (0, 0)).1 ≤ (List.getD b1 (0 + (Int.toNat (IntKind.wrap .i64 ((((List.length b1) : Nat) : Int) - (1))))) (0, 0)).1) = true then
                        some (2, s15, b1)
                      else
                        if ((((List.length b1) : Nat) : Int) == (200)) = true then
                          some (3, s15, b1)
                        else
                          if decide ((((List.length b1) + 1) * 16) ≤ 70368744177664) = true then
                            l27_0 m n x0 x1 s14 ((IntKind.wrap .i64 (s15 + (1)))) ((b1 ++ [(List.getD x1 (Int.toNat s15) (0, 0))]))
                          else
                            none
                    else
                      none
                  else
                    none
                else
                  none
              else
                if ((((List.length b1) : Nat) : Int) == (200)) = true then
                  some (4, s15, b1)
                else
                  if decide ((((List.length b1) + 1) * 16) ≤ 70368744177664) = true then
                    l27_0 m n x0 x1 s14 ((IntKind.wrap .i64 (s15 + (1)))) ((b1 ++ [(List.getD x1 (Int.toNat s15) (0, 0))]))
                  else
                    none
        else
          none
      else
        none
    else
      some (5, s15, b1)
def l27_0D : Nat × Int × (List (Int × Int)) := (0, 0, [])
@[reducible] def l27_0R (m n : Nat) (x0 : List (Int × Int)) (x1 : List (Int × Int)) (s14 : Int) (s15 : Int) (b1 : List (Int × Int)) : Nat × Int × (List (Int × Int)) := Option.getD (l27_0 m n x0 x1 s14 s15 b1) l27_0D
def l27_0H (x0 : List (Int × Int)) (x1 : List (Int × Int)) (s14 : Int) (s15 : Int) (b1 : List (Int × Int)) : Env := [(.ptr 0 0), .top, .top, .top, .top, (.sr 1 0 (List.length b1) 2 none), .top, .top, .top, .top, .top, .top, .top, (.d (.sl (.pair (.int .i64) (.int .i64)) x1)), (.d (.int .i64 s14)), (.d (.int .i64 s15)), .top, .top, .top, .top, .top, .top, .top, .top, .top, .top, .top, .top, .top, .top, .top, .top, .top, .top, .top, .top, .top, .top, .top, .top, .top, .top, .top, .top, .top, .top, .top, .top, .top, .top, .top, .top, .top, .top, .top, .top, .top]
def l27_0B (x0 : List (Int × Int)) (x1 : List (Int × Int)) (s14 : Int) (s15 : Int) (b1 : List (Int × Int)) : Boxes := [(.cells [(.d (.sl (.pair (.int .i64) (.int .i64)) x0))]), (.arr (.pair (.int .i64) (.int .i64)) b1 true)]
def l27_0E (x0 : List (Int × Int)) (x1 : List (Int × Int)) (s14 : Int) (s15 : Int) (b1 : List (Int × Int)) : Nat → AEx × Env × Boxes
  | 0 => (.ret, [(.ptr 0 0), .top, .top, .top, (.d (.int .i64 (1))), (.sr 1 0 (List.length b1) 2 none), .top, (.ptr 2 0), .top, .top, .top, .top, .top, (.d (.sl (.pair (.int .i64) (.int .i64)) x1)), (.d (.int .i64 s14)), (.d (.int .i64 s15)), (.d (.bool (decide (s15 < s14)))), (.cptr [(.int .i64 (List.getD x1 (Int.toNat s15) (0, 0)).1), (.int .i64 (List.getD x1 (Int.toNat s15) (0, 0)).2)] 0), (.agg [(.d (.int .i64 (List.getD x1 (Int.toNat s15) (0, 0)).1)), (.d (.int .i64 (List.getD x1 (Int.toNat s15) (0, 0)).2))]), (.d (.bool true)), (.ptr 2 0), (.d (.int .i64 (List.getD x1 (Int.toNat s15) (0, 0)).1)), (.d (.bool (decide ((List.getD x1 (Int.toNat s15) (0, 0)).1 < 0)))), (.d (.bool (decide ((List.getD x1 (Int.toNat s15) (0, 0)).1 < 0)))), (.tup []), (.tup []), (.tup []), (.d (.bool true)), .top, .top, .top, .top, .top, .top, .top, .top, .top, .top, .top, .top, .top, .top, .top, .top, .top, .top, .top, .top, .top, .top, .top, .top, .top, .top, .top, .top, .top], [(.cells [(.d (.sl (.pair (.int .i64) (.int .i64)) x0))]), (.arr (.pair (.int .i64) (.int .i64)) b1 true), (.cells [(.d (.int .i64 (List.getD x1 (Int.toNat s15) (0, 0)).1)), (.d (.int .i64 (List.getD x1 (Int.toNat s15) (0, 0)).2))])])
  | 1 => (.ret, [(.ptr 0 0), .top, .top, .top, (.d (.int .i64 (1))), (.sr 1 0 (List.length b1) 2 none), .top, (.ptr 2 0), .top, .top, .top, .top, .top, (.d (.sl (.pair (.int .i64) (.int .i64)) x1)), (.d (.int .i64 s14)), (.d (.int .i64 s15)), (.d (.bool (decide (s15 < s14)))), (.cptr [(.int .i64 (List.getD x1 (Int.toNat s15) (0, 0)).1), (.int .i64 (List.getD x1 (Int.toNat s15) (0, 0)).2)] 0), (.agg [(.d (.int .i64 (List.getD x1 (Int.toNat s15) (0, 0)).1)), (.d (.int .i64 (List.getD x1 (Int.toNat s15) (0, 0)).2))]), (.d (.bool (decide ((List.getD x1 (Int.toNat s15) (0, 0)).1 > 1099511627776)))), (.ptr 2 0), (.d (.int .i64 (List.getD x1 (Int.toNat s15) (0, 0)).1)), (.d (.bool (decide ((List.getD x1 (Int.toNat s15) (0, 0)).1 < 0)))), (.d (.bool (decide ((List.getD x1 (Int.toNat s15) (0, 0)).1 < 0)))), (.ptr 2 0), (.d (.int .i64 (List.getD x1 (Int.toNat s15) (0, 0)).1)), (.d (.bool (decide ((List.getD x1 (Int.toNat s15) (0, 0)).1 > 1099511627776)))), (.d (.bool (decide ((List.getD x1 (Int.toNat s15) (0, 0)).1 > 1099511627776)))), .top, .top, .top, .top, .top, .top, .top, .top, .top, .top, .top, .top, .top, .top, .top, .top, .top, .top, .top, .top, .top, .top, .top, .top, .top, .top, .top, .top, .top], [(.cells [(.d (.sl (.pair (.int .i64) (.int .i64)) x0))]), (.arr (.pair (.int .i64) (.int .i64)) b1 true), (.cells [(.d (.int .i64 (List.getD x1 (Int.toNat s15) (0, 0)).1)), (.d (.int .i64 (List.getD x1 (Int.toNat s15) (0, 0)).2))])])
  | 2 => (.ret, [(.ptr 0 0), .top, .top, .top, (.d (.int .i64 (2))), (.sr 1 0 (List.length b1) 2 none), .top, (.ptr 2 0), .top, .top, .top, .top, .top, (.d (.sl (.pair (.int .i64) (.int .i64)) x1)), (.d (.int .i64 s14)), (.d (.int .i64 s15)), (.d (.bool (decide (s15 < s14)))), (.cptr [(.int .i64 (List.getD x1 (Int.toNat s15) (0, 0)).1), (.int .i64 (List.getD x1 (Int.toNat s15) (0, 0)).2)] 0), (.agg [(.d (.int .i64 (List.getD x1 (Int.toNat s15) (0, 0)).1)), (.d (.int .i64 (List.getD x1 (Int.toNat s15) (0, 0)).2))]), (.d (.bool (decide ((List.getD x1 (Int.toNat s15) (0, 0)).1 > 1099511627776)))), (.ptr 2 0), (.d (.int .i64 (List.getD x1 (Int.toNat s15) (0, 0)).1)), (.d (.bool (decide ((List.getD x1 (Int.toNat s15) (0, 0)).1 < 0)))), (.d (.bool (decide ((List.getD x1 (Int.toNat s15) (0, 0)).1 < 0)))), (.ptr 2 0), (.d (.int .i64 (List.getD x1 (Int.toNat s15) (0, 0)).1)), (.d (.bool (decide ((List.getD x1 (Int.toNat s15) (0, 0)).1 > 1099511627776)))), (.d (.bool (decide ((List.getD x1 (Int.toNat s15) (0, 0)).1 > 1099511627776)))), (.d (.bool (decide ((List.getD x1 (Int.toNat s15) (0, 0)).1 ≤ (List.getD b1 (0 + (Int.toNat (IntKind.wrap .i64 ((((List.length b1) : Nat) : Int) - (1))))) (0, 0)).1)))), (.sr 1 0 (List.length b1) 2 none), (.d (.int .i64 (((List.length b1) : Nat) : Int))), (.d (.bool (decide ((((List.length b1) : Nat) : Int) > 0)))), (.d (.bool (decide ((((List.length b1) : Nat) : Int) > 0)))), (.ptr 2 0), (.d (.int .i64 (List.getD x1 (Int.toNat s15) (0, 0)).1)), (.sr 1 0 (List.length b1) 2 none), (.sr 1 0 (List.length b1) 2 none), (.d (.int .i64 (((List.length b1) : Nat) : Int))), (.d (.int .i64 (IntKind.wrap .i64 ((((List.length b1) : Nat) : Int) - (1))))), (.eptr 1 (0 + (Int.toNat (IntKind.wrap .i64 ((((List.length b1) : Nat) : Int) - (1))))) 2 0), (.eptr 1 (0 + (Int.toNat (IntKind.wrap .i64 ((((List.length b1) : Nat) : Int) - (1))))) 2 0), (.d (.int .i64 (List.getD b1 (0 + (Int.toNat (IntKind.wrap .i64 ((((List.length b1) : Nat) : Int) - (1))))) (0, 0)).1)), (.d (.bool (decide ((List.getD x1 (Int.toNat s15) (0, 0)).1 ≤ (List.getD b1 (0 + (Int.toNat (IntKind.wrap .i64 ((((List.length b1) : Nat) : Int) - (1))))) (0, 0)).1)))), (.d (.bool (decide ((List.getD x1 (Int.toNat s15) (0, 0)).1 ≤ (List.getD b1 (0 + (Int.toNat (IntKind.wrap .i64 ((((List.length b1) : Nat) : Int) - (1))))) (0, 0)).1)))), .top, .top, .top, .top, .top, .top, .top, .top, .top, .top, .top, .top, .top], [(.cells [(.d (.sl (.pair (.int .i64) (.int .i64)) x0))]), (.arr (.pair (.int .i64) (.int .i64)) b1 true), (.cells [(.d (.int .i64 (List.getD x1 (Int.toNat s15) (0, 0)).1)), (.d (.int .i64 (List.getD x1 (Int.toNat s15) (0, 0)).2))]), .dead, .dead, .dead, .dead, .dead, .dead, .dead, .dead, .dead, .dead, .dead, .dead, .dead, .dead, .dead, .dead, .dead, .dead, .dead, .dead, .dead, .dead, .dead, .dead, .dead, .dead, .dead, .dead, .dead, .dead, .dead, .dead, .dead, .dead, .dead, .dead, .dead, .dead, .dead, .dead, .dead, .dead, .dead, .dead, .dead, .dead, .dead, .dead, .dead, .dead, .dead, .dead, .dead, .dead, .dead, .dead, .dead, .dead, .dead, .dead, .dead, .dead, .dead, .dead])
  | 3 => (.ret, [(.ptr 0 0), .top, .top, .top, (.d (.int .i64 (8))), (.sr 1 0 (List.length b1) 2 none), .top, (.ptr 2 0), .top, .top, .top, .top, .top, (.d (.sl (.pair (.int .i64) (.int .i64)) x1)), (.d (.int .i64 s14)), (.d (.int .i64 s15)), (.d (.bool (decide (s15 < s14)))), (.cptr [(.int .i64 (List.getD x1 (Int.toNat s15) (0, 0)).1), (.int .i64 (List.getD x1 (Int.toNat s15) (0, 0)).2)] 0), (.agg [(.d (.int .i64 (List.getD x1 (Int.toNat s15) (0, 0)).1)), (.d (.int .i64 (List.getD x1 (Int.toNat s15) (0, 0)).2))]), (.d (.bool (decide ((List.getD x1 (Int.toNat s15) (0, 0)).1 > 1099511627776)))), (.ptr 2 0), (.d (.int .i64 (List.getD x1 (Int.toNat s15) (0, 0)).1)), (.d (.bool (decide ((List.getD x1 (Int.toNat s15) (0, 0)).1 < 0)))), (.d (.bool (decide ((List.getD x1 (Int.toNat s15) (0, 0)).1 < 0)))), (.ptr 2 0), (.d (.int .i64 (List.getD x1 (Int.toNat s15) (0, 0)).1)), (.d (.bool (decide ((List.getD x1 (Int.toNat s15) (0, 0)).1 > 1099511627776)))), (.d (.bool (decide ((List.getD x1 (Int.toNat s15) (0, 0)).1 > 1099511627776)))), (.d (.bool (decide ((List.getD x1 (Int.toNat s15) (0, 0)).1 ≤ (List.getD b1 (0 + (Int.toNat (IntKind.wrap .i64 ((((List.length b1) : Nat) : Int) - (1))))) (0, 0)).1)))), (.sr 1 0 (List.length b1) 2 none), (.d (.int .i64 (((List.length b1) : Nat) : Int))), (.d (.bool (decide ((((List.length b1) : Nat) : Int) > 0)))), (.d (.bool (decide ((((List.length b1) : Nat) : Int) > 0)))), (.ptr 2 0), (.d (.int .i64 (List.getD x1 (Int.toNat s15) (0, 0)).1)), (.sr 1 0 (List.length b1) 2 none), (.sr 1 0 (List.length b1) 2 none), (.d (.int .i64 (((List.length b1) : Nat) : Int))), (.d (.int .i64 (IntKind.wrap .i64 ((((List.length b1) : Nat) : Int) - (1))))), (.eptr 1 (0 + (Int.toNat (IntKind.wrap .i64 ((((List.length b1) : Nat) : Int) - (1))))) 2 0), (.eptr 1 (0 + (Int.toNat (IntKind.wrap .i64 ((((List.length b1) : Nat) : Int) - (1))))) 2 0), (.d (.int .i64 (List.getD b1 (0 + (Int.toNat (IntKind.wrap .i64 ((((List.length b1) : Nat) : Int) - (1))))) (0, 0)).1)), (.d (.bool (decide ((List.getD x1 (Int.toNat s15) (0, 0)).1 ≤ (List.getD b1 (0 + (Int.toNat (IntKind.wrap .i64 ((((List.length b1) : Nat) : Int) - (1))))) (0, 0)).1)))), (.d (.bool (decide ((List.getD x1 (Int.toNat s15) (0, 0)).1 ≤ (List.getD b1 (0 + (Int.toNat (IntKind.wrap .i64 ((((List.length b1) : Nat) : Int) - (1))))) (0, 0)).1)))), (.d (.bool ((((List.length b1) : Nat) : Int) == (200)))), (.sr 1 0 (List.length b1) 2 none), (.d (.int .i64 (((List.length b1) : Nat) : Int))), (.d (.bool ((((List.length b1) : Nat) : Int) == (200)))), .top, .top, .top, .top, .top, .top, .top, .top, .top], [(.cells [(.d (.sl (.pair (.int .i64) (.int .i64)) x0))]), (.arr (.pair (.int .i64) (.int .i64)) b1 true), (.cells [(.d (.int .i64 (List.getD x1 (Int.toNat s15) (0, 0)).1)), (.d (.int .i64 (List.getD x1 (Int.toNat s15) (0, 0)).2))]), .dead, .dead, .dead, .dead, .dead, .dead, .dead, .dead, .dead, .dead, .dead, .dead, .dead, .dead, .dead, .dead, .dead, .dead, .dead, .dead, .dead, .dead, .dead, .dead, .dead, .dead, .dead, .dead, .dead, .dead, .dead, .dead, .dead, .dead, .dead, .dead, .dead, .dead, .dead, .dead, .dead, .dead, .dead, .dead, .dead, .dead, .dead, .dead, .dead, .dead, .dead, .dead, .dead, .dead, .dead, .dead, .dead, .dead, .dead, .dead, .dead, .dead, .dead, .dead])
  | 4 => (.ret, [(.ptr 0 0), .top, .top, .top, (.d (.int .i64 (8))), (.sr 1 0 (List.length b1) 2 none), .top, (.ptr 2 0), .top, .top, .top, .top, .top, (.d (.sl (.pair (.int .i64) (.int .i64)) x1)), (.d (.int .i64 s14)), (.d (.int .i64 s15)), (.d (.bool (decide (s15 < s14)))), (.cptr [(.int .i64 (List.getD x1 (Int.toNat s15) (0, 0)).1), (.int .i64 (List.getD x1 (Int.toNat s15) (0, 0)).2)] 0), (.agg [(.d (.int .i64 (List.getD x1 (Int.toNat s15) (0, 0)).1)), (.d (.int .i64 (List.getD x1 (Int.toNat s15) (0, 0)).2))]), (.d (.bool (decide ((List.getD x1 (Int.toNat s15) (0, 0)).1 > 1099511627776)))), (.ptr 2 0), (.d (.int .i64 (List.getD x1 (Int.toNat s15) (0, 0)).1)), (.d (.bool (decide ((List.getD x1 (Int.toNat s15) (0, 0)).1 < 0)))), (.d (.bool (decide ((List.getD x1 (Int.toNat s15) (0, 0)).1 < 0)))), (.ptr 2 0), (.d (.int .i64 (List.getD x1 (Int.toNat s15) (0, 0)).1)), (.d (.bool (decide ((List.getD x1 (Int.toNat s15) (0, 0)).1 > 1099511627776)))), (.d (.bool (decide ((List.getD x1 (Int.toNat s15) (0, 0)).1 > 1099511627776)))), (.d (.bool false)), (.sr 1 0 (List.length b1) 2 none), (.d (.int .i64 (((List.length b1) : Nat) : Int))), (.d (.bool (decide ((((List.length b1) : Nat) : Int) > 0)))), (.d (.bool (decide ((((List.length b1) : Nat) : Int) > 0)))), (.tup []), (.tup []), (.tup []), (.tup []), (.tup []), (.tup []), (.tup []), (.tup []), (.tup []), (.tup []), (.d (.bool false)), (.d (.bool ((((List.length b1) : Nat) : Int) == (200)))), (.sr 1 0 (List.length b1) 2 none), (.d (.int .i64 (((List.length b1) : Nat) : Int))), (.d (.bool ((((List.length b1) : Nat) : Int) == (200)))), .top, .top, .top, .top, .top, .top, .top, .top, .top], [(.cells [(.d (.sl (.pair (.int .i64) (.int .i64)) x0))]), (.arr (.pair (.int .i64) (.int .i64)) b1 true), (.cells [(.d (.int .i64 (List.getD x1 (Int.toNat s15) (0, 0)).1)), (.d (.int .i64 (List.getD x1 (Int.toNat s15) (0, 0)).2))]), .dead, .dead, .dead, .dead, .dead, .dead, .dead, .dead, .dead, .dead, .dead, .dead, .dead, .dead, .dead, .dead, .dead, .dead, .dead, .dead, .dead, .dead, .dead, .dead, .dead, .dead, .dead, .dead, .dead, .dead, .dead, .dead, .dead, .dead, .dead, .dead, .dead, .dead, .dead, .dead, .dead, .dead, .dead, .dead, .dead, .dead, .dead, .dead, .dead, .dead, .dead, .dead, .dead, .dead, .dead, .dead, .dead, .dead, .dead, .dead, .dead, .dead, .dead, .dead])
  | _ => (.exit 0, [(.ptr 0 0), .top, .top, .top, .top, (.sr 1 0 (List.length b1) 2 none), .top, .top, .top, .top, .top, .top, .top, (.d (.sl (.pair (.int .i64) (.int .i64)) x1)), (.d (.int .i64 s14)), (.d (.int .i64 s15)), (.d (.bool (decide (s15 < s14)))), .top, .top, .top, .top, .top, .top, .top, .top, .top, .top, .top, .top, .top, .top, .top, .top, .top, .top, .top, .top, .top, .top, .top, .top, .top, .top, .top, .top, .top, .top, .top, .top, .top, .top, .top, .top, .top, .top, .top, .top], [(.cells [(.d (.sl (.pair (.int .i64) (.int .i64)) x0))]), (.arr (.pair (.int .i64) (.int .i64)) b1 true)])
noncomputable def lbl27_0 : AC := loopBody 57377 body27

set_option maxHeartbeats 20000000 in
theorem l27_0_w0 (m n : Nat) (x0 : List (Int × Int)) (x1 : List (Int × Int)) (s14 : Int) (s15 : Int) (b1 : List (Int × Int)) (c0 : decide (s15 < s14) = true) (c1 : decide (0 ≤ s15) = true) (c2 : decide (s15 < (((List.length x1) : Nat) : Int)) = true) (c3 : decide ((List.getD x1 (Int.toNat s15) (0, 0)).1 < 0) = true) : (turns (hds 27 57377) 1 57377 (evC byref (evCall F S5 (m + 24)) (m + 24) 1 (hds 27) lbl27_0) (n + 1) (l27_0H x0 x1 s14 s15 b1) (l27_0B x0 x1 s14 s15 b1)).run = some (.ret, [(.ptr 0 0), .top, .top, .top, (.d (.int .i64 (1))), (.sr 1 0 (List.length b1) 2 none), .top, (.ptr 2 0), .top, .top, .top, .top, .top, (.d (.sl (.pair (.int .i64) (.int .i64)) x1)), (.d (.int .i64 s14)), (.d (.int .i64 s15)), (.d (.bool (decide (s15 < s14)))), (.cptr [(.int .i64 (List.getD x1 (Int.toNat s15) (0, 0)).1), (.int .i64 (List.getD x1 (Int.toNat s15) (0, 0)).2)] 0), (.agg [(.d (.int .i64 (List.getD x1 (Int.toNat s15) (0, 0)).1)), (.d (.int .i64 (List.getD x1 (Int.toNat s15) (0, 0)).2))]), (.d (.bool true)), (.ptr 2 0), (.d (.int .i64 (List.getD x1 (Int.toNat s15) (0, 0)).1)), (.d (.bool (decide ((List.getD x1 (Int.toNat s15) (0, 0)).1 < 0)))), (.d (.bool (decide ((List.getD x1 (Int.toNat s15) (0, 0)).1 < 0)))), (.tup []), (.tup []), (.tup []), (.d (.bool true)), .top, .top, .top, .top, .top, .top, .top, .top, .top, .top, .top, .top, .top, .top, .top, .top, .top, .top, .top, .top, .top, .top, .top, .top, .top, .top, .top, .top, .top], [(.cells [(.d (.sl (.pair (.int .i64) (.int .i64)) x0))]), (.arr (.pair (.int .i64) (.int .i64)) b1 true), (.cells [(.d (.int .i64 (List.getD x1 (Int.toNat s15) (0, 0)).1)), (.d (.int .i64 (List.getD x1 (Int.toNat s15) (0, 0)).2))])]) := by
  exact turns_last (by simp) (M.run_of_path _ [true, true, true, true, true, true, true, true] _ _ (by kernel_rfl) (all_t c0 (all_t c1 (all_t c2 (all_t c3 (all_t c3 (all_t c3 (all_t c3 (all_t rfl all_nil))))))))) 
set_option maxHeartbeats 20000000 in
theorem l27_0_w1 (m n : Nat) (x0 : List (Int × Int)) (x1 : List (Int × Int)) (s14 : Int) (s15 : Int) (b1 : List (Int × Int)) (c0 : decide (s15 < s14) = true) (c1 : decide (0 ≤ s15) = true) (c2 : decide (s15 < (((List.length x1) : Nat) : Int)) = true) (c3 : ¬ decide ((List.getD x1 (Int.toNat s15) (0, 0)).1 < 0) = true) (c7 : decide ((List.getD x1 (Int.toNat s15) (0, 0)).1 > 1099511627776) = true) : (turns (hds 27 57377) 1 57377 (evC byref (evCall F S5 (m + 24)) (m + 24) 1 (hds 27) lbl27_0) (n + 1) (l27_0H x0 x1 s14 s15 b1) (l27_0B x0 x1 s14 s15 b1)).run = some (.ret, [(.ptr 0 0), .top, .top, .top, (.d (.int .i64 (1))), (.sr 1 0 (List.length b1) 2 none), .top, (.ptr 2 0), .top, .top, .top, .top, .top, (.d (.sl (.pair (.int .i64) (.int .i64)) x1)), (.d (.int .i64 s14)), (.d (.int .i64 s15)), (.d (.bool (decide (s15 < s14)))), (.cptr [(.int .i64 (List.getD x1 (Int.toNat s15) (0, 0)).1), (.int .i64 (List.getD x1 (Int.toNat s15) (0, 0)).2)] 0), (.agg [(.d (.int .i64 (List.getD x1 (Int.toNat s15) (0, 0)).1)), (.d (.int .i64 (List.getD x1 (Int.toNat s15) (0, 0)).2))]), (.d (.bool (decide ((List.getD x1 (Int.toNat s15) (0, 0)).1 > 1099511627776)))), (.ptr 2 0), (.d (.int .i64 (List.getD x1 (Int.toNat s15) (0, 0)).1)), (.d (.bool (decide ((List.getD x1 (Int.toNat s15) (0, 0)).1 < 0)))), (.d (.bool (decide ((List.getD x1 (Int.toNat s15) (0, 0)).1 < 0)))), (.ptr 2 0), (.d (.int .i64 (List.getD x1 (Int.toNat s15) (0, 0)).1)), (.d (.bool (decide ((List.getD x1 (Int.toNat s15) (0, 0)).1 > 1099511627776)))), (.d (.bool (decide ((List.getD x1 (Int.toNat s15) (0, 0)).1 > 1099511627776)))), .top, .top, .top, .top, .top, .top, .top, .top, .top, .top, .top, .top, .top, .top, .top, .top, .top, .top, .top, .top, .top, .top, .top, .top, .top, .top, .top, .top, .top], [(.cells [(.d (.sl (.pair (.int .i64) (.int .i64)) x0))]), (.arr (.pair (.int .i64) (.int .i64)) b1 true), (.cells [(.d (.int .i64 (List.getD x1 (Int.toNat s15) (0, 0)).1)), (.d (.int .i64 (List.getD x1 (Int.toNat s15) (0, 0)).2))])]) := by
  exact turns_last (by simp) (M.run_of_path _ [true, true, true, false, false, false, false, true] _ _ (by kernel_rfl) (all_t c0 (all_t c1 (all_t c2 (all_f c3 (all_f c3 (all_f c3 (all_f c3 (all_t c7 all_nil))))))))) 
set_option maxHeartbeats 20000000 in
theorem l27_0_w2 (m n : Nat) (x0 : List (Int × Int)) (x1 : List (Int × Int)) (s14 : Int) (s15 : Int) (b1 : List (Int × Int)) (c0 : decide (s15 < s14) = true) (c1 : decide (0 ≤ s15) = true) (c2 : decide (s15 < (((List.length x1) : Nat) : Int)) = true) (c3 : ¬ decide ((List.getD x1 (Int.toNat s15) (0, 0)).1 < 0) = true) (c7 : ¬ decide ((List.getD x1 (Int.toNat s15) (0, 0)).1 > 1099511627776) = true) (c8 : decide ((((List.length b1) : Nat) : Int) > 0) = true) (c15 : decide (0 ≤ (IntKind.wrap .i64 ((((List.length b1) : Nat) : Int) - (1)))) = true) (c16 : decide ((IntKind.wrap .i64 ((((List.length b1) : Nat) : Int) - (1))) < (((List.length b1) : Nat) : Int)) = true) (c19 : decide ((0 + (Int.toNat (IntKind.wrap .i64 ((((List.length b1) : Nat) : Int) - (1))))) < (List.length b1)) = true) (c22 : decide ((List.getD x1 (Int.toNat s15) (0, 0)).1 ≤ (List.getD b1 (0 + (Int.toNat (IntKind.wrap .i64 ((((List.length b1) : Nat) : Int) - (1))))) (0, 0)).1) = true) : (turns (hds 27 57377) 1 57377 (evC byref (evCall F S5 (m + 24)) (m + 24) 1 (hds 27) lbl27_0) (n + 1) (l27_0H x0 x1 s14 s15 b1) (l27_0B x0 x1 s14 s15 b1)).run = some (.ret, [(.ptr 0 0), .top, .top, .top, (.d (.int .i64 (2))), (.sr 1 0 (List.length b1) 2 none), .top, (.ptr 2 0), .top, .top, .top, .top, .top, (.d (.sl (.pair (.int .i64) (.int .i64)) x1)), (.d (.int .i64 s14)), (.d (.int .i64 s15)), (.d (.bool (decide (s15 < s14)))), (.cptr [(.int .i64 (List.getD x1 (Int.toNat s15) (0, 0)).1), (.int .i64 (List.getD x1 (Int.toNat s15) (0, 0)).2)] 0), (.agg [(.d (.int .i64 (List.getD x1 (Int.toNat s15) (0, 0)).1)), (.d (.int .i64 (List.getD x1 (Int.toNat s15) (0, 0)).2))]), (.d (.bool (decide ((List.getD x1 (Int.toNat s15) (0, 0)).1 > 1099511627776)))), (.ptr 2 0), (.d (.int .i64 (List.getD x1 (Int.toNat s15) (0, 0)).1)), (.d (.bool (decide ((List.getD x1 (Int.toNat s15) (0, 0)).1 < 0)))), (.d (.bool (decide ((List.getD x1 (Int.toNat s15) (0, 0)).1 < 0)))), (.ptr 2 0), (.d (.int .i64 (List.getD x1 (Int.toNat s15) (0, 0)).1)), (.d (.bool (decide ((List.getD x1 (Int.toNat s15) (0, 0)).1 > 1099511627776)))), (.d (.bool (decide ((List.getD x1 (Int.toNat s15) (0, 0)).1 > 1099511627776)))), (.d (.bool (decide ((List.getD x1 (Int.toNat s15) (0, 0)).1 ≤ (List.getD b1 (0 + (Int.toNat (IntKind.wrap .i64 ((((List.length b1) : Nat) : Int) - (1))))) (0, 0)).1)))), (.sr 1 0 (List.length b1) 2 none), (.d (.int .i64 (((List.length b1) : Nat) : Int))), (.d (.bool (decide ((((List.length b1) : Nat) : Int) > 0)))), (.d (.bool (decide ((((List.length b1) : Nat) : Int) > 0)))), (.ptr 2 0), (.d (.int .i64 (List.getD x1 (Int.toNat s15) (0, 0)).1)), (.sr 1 0 (List.length b1) 2 none), (.sr 1 0 (List.length b1) 2 none), (.d (.int .i64 (((List.length b1) : Nat) : Int))), (.d (.int .i64 (IntKind.wrap .i64 ((((List.length b1) : Nat) : Int) - (1))))), (.eptr 1 (0 + (Int.toNat (IntKind.wrap .i64 ((((List.length b1) : Nat) : Int) - (1))))) 2 0), (.eptr 1 (0 + (Int.toNat (IntKind.wrap .i64 ((((List.length b1) : Nat) : Int) - (1))))) 2 0), (.d (.int .i64 (List.getD b1 (0 + (Int.toNat (IntKind.wrap .i64 ((((List.length b1) : Nat) : Int) - (1))))) (0, 0)).1)), (.d (.bool (decide ((List.getD x1 (Int.toNat s15) (0, 0)).1 ≤ (List.getD b1 (0 + (Int.toNat (IntKind.wrap .i64 ((((List.length b1) : Nat) : Int) - (1))))) (0, 0)).1)))), (.d (.bool (decide ((List.getD x1 (Int.toNat s15) (0, 0)).1 ≤ (List.getD b1 (0 + (Int.toNat (IntKind.wrap .i64 ((((List.length b1) : Nat) : Int) - (1))))) (0, 0)).1)))), .top, .top, .top, .top, .top, .top, .top, .top, .top, .top, .top, .top, .top], [(.cells [(.d (.sl (.pair (.int .i64) (.int .i64)) x0))]), (.arr (.pair (.int .i64) (.int .i64)) b1 true), (.cells [(.d (.int .i64 (List.getD x1 (Int.toNat s15) (0, 0)).1)), (.d (.int .i64 (List.getD x1 (Int.toNat s15) (0, 0)).2))]), .dead, .dead, .dead, .dead, .dead, .dead, .dead, .dead, .dead, .dead, .dead, .dead, .dead, .dead, .dead, .dead, .dead, .dead, .dead, .dead, .dead, .dead, .dead, .dead, .dead, .dead, .dead, .dead, .dead, .dead, .dead, .dead, .dead, .dead, .dead, .dead, .dead, .dead, .dead, .dead, .dead, .dead, .dead, .dead, .dead, .dead, .dead, .dead, .dead, .dead, .dead, .dead, .dead, .dead, .dead, .dead, .dead, .dead, .dead, .dead, .dead, .dead, .dead, .dead]) := by
  exact turns_last (by simp) (M.run_of_path _ [true, true, true, false, false, false, false, false, true, true, true, true, true, true, true, true, true, true, true, true, true, true, true] _ _ (by kernel_rfl) (all_t c0 (all_t c1 (all_t c2 (all_f c3 (all_f c3 (all_f c3 (all_f c3 (all_f c7 (all_t c8 (all_t c8 (all_t c8 (all_t c8 (all_t c8 (all_t c8 (all_t c8 (all_t c15 (all_t c16 (all_t c8 (all_t c8 (all_t c19 (all_t c8 (all_t c8 (all_t c22 all_nil)))))))))))))))))))))))) 
set_option maxHeartbeats 20000000 in
theorem l27_0_w3 (m n : Nat) (x0 : List (Int × Int)) (x1 : List (Int × Int)) (s14 : Int) (s15 : Int) (b1 : List (Int × Int)) (c0 : decide (s15 < s14) = true) (c1 : decide (0 ≤ s15) = true) (c2 : decide (s15 < (((List.length x1) : Nat) : Int)) = true) (c3 : ¬ decide ((List.getD x1 (Int.toNat s15) (0, 0)).1 < 0) = true) (c7 : ¬ decide ((List.getD x1 (Int.toNat s15) (0, 0)).1 > 1099511627776) = true) (c8 : decide ((((List.length b1) : Nat) : Int) > 0) = true) (c15 : decide (0 ≤ (IntKind.wrap .i64 ((((List.length b1) : Nat) : Int) - (1)))) = true) (c16 : decide ((IntKind.wrap .i64 ((((List.length b1) : Nat) : Int) - (1))) < (((List.length b1) : Nat) : Int)) = true) (c19 : decide ((0 + (Int.toNat (IntKind.wrap .i64 ((((List.length b1) : Nat) : Int) - (1))))) < (List.length b1)) = true) (c22 : ¬ decide ((List.getD x1 (Int.toNat s15) (0, 0)).1 ≤ (List.getD b1 (0 + (Int.toNat (IntKind.wrap .i64 ((((List.length b1) : Nat) : Int) - (1))))) (0, 0)).1) = true) (c23 : ((((List.length b1) : Nat) : Int) == (200)) = true) : (turns (hds 27 57377) 1 57377 (evC byref (evCall F S5 (m + 24)) (m + 24) 1 (hds 27) lbl27_0) (n + 1) (l27_0H x0 x1 s14 s15 b1) (l27_0B x0 x1 s14 s15 b1)).run = some (.ret, [(.ptr 0 0), .top, .top, .top, (.d (.int .i64 (8))), (.sr 1 0 (List.length b1) 2 none), .top, (.ptr 2 0), .top, .top, .top, .top, .top, (.d (.sl (.pair (.int .i64) (.int .i64)) x1)), (.d (.int .i64 s14)), (.d (.int .i64 s15)), (.d (.bool (decide (s15 < s14)))), (.cptr [(.int .i64 (List.getD x1 (Int.toNat s15) (0, 0)).1), (.int .i64 (List.getD x1 (Int.toNat s15) (0, 0)).2)] 0), (.agg [(.d (.int .i64 (List.getD x1 (Int.toNat s15) (0, 0)).1)), (.d (.int .i64 (List.getD x1 (Int.toNat s15) (0, 0)).2))]), (.d (.bool (decide ((List.getD x1 (Int.toNat s15) (0, 0)).1 > 1099511627776)))), (.ptr 2 0), (.d (.int .i64 (List.getD x1 (Int.toNat s15) (0, 0)).1)), (.d (.bool (decide ((List.getD x1 (Int.toNat s15) (0, 0)).1 < 0)))), (.d (.bool (decide ((List.getD x1 (Int.toNat s15) (0, 0)).1 < 0)))), (.ptr 2 0), (.d (.int .i64 (List.getD x1 (Int.toNat s15) (0, 0)).1)), (.d (.bool (decide ((List.getD x1 (Int.toNat s15) (0, 0)).1 > 1099511627776)))), (.d (.bool (decide ((List.getD x1 (Int.toNat s15) (0, 0)).1 > 1099511627776)))), (.d (.bool (decide ((List.getD x1 (Int.toNat s15) (0, 0)).1 ≤ (List.getD b1 (0 + (Int.toNat (IntKind.wrap .i64 ((((List.length b1) : Nat) : Int) - (1))))) (0, 0)).1)))), (.sr 1 0 (List.length b1) 2 none), (.d (.int .i64 (((List.length b1) : Nat) : Int))), (.d (.bool (decide ((((List.length b1) : Nat) : Int) > 0)))), (.d (.bool (decide ((((List.length b1) : Nat) : Int) > 0)))), (.ptr 2 0), (.d (.int .i64 (List.getD x1 (Int.toNat s15) (0, 0)).1)), (.sr 1 0 (List.length b1) 2 none), (.sr 1 0 (List.length b1) 2 none), (.d (.int .i64 (((List.length b1) : Nat) : Int))), (.d (.int .i64 (IntKind.wrap .i64 ((((List.length b1) : Nat) : Int) - (1))))), (.eptr 1 (0 + (Int.toNat (IntKind.wrap .i64 ((((List.length b1) : Nat) : Int) - (1))))) 2 0), (.eptr 1 (0 + (Int.toNat (IntKind.wrap .i64 ((((List.length b1) : Nat) : Int) - (1))))) 2 0), (.d (.int .i64 (List.getD b1 (0 + (Int.toNat (IntKind.wrap .i64 ((((List.length b1) : Nat) : Int) - (1))))) (0, 0)).1)), (.d (.bool (decide ((List.getD x1 (Int.toNat s15) (0, 0)).1 ≤ (List.getD b1 (0 + (Int.toNat (IntKind.wrap .i64 ((((List.length b1) : Nat) : Int) - (1))))) (0, 0)).1)))), (.d (.bool (decide ((List.getD x1 (Int.toNat s15) (0, 0)).1 ≤ (List.getD b1 (0 + (Int.toNat (IntKind.wrap .i64 ((((List.length b1) : Nat) : Int) - (1))))) (0, 0)).1)))), (.d (.bool ((((List.length b1) : Nat) : Int) == (200)))), (.sr 1 0 (List.length b1) 2 none), (.d (.int .i64 (((List.length b1) : Nat) : Int))), (.d (.bool ((((List.length b1) : Nat) : Int) == (200)))), .top, .top, .top, .top, .top, .top, .top, .top, .top], [(.cells [(.d (.sl (.pair (.int .i64) (.int .i64)) x0))]), (.arr (.pair (.int .i64) (.int .i64)) b1 true), (.cells [(.d (.int .i64 (List.getD x1 (Int.toNat s15) (0, 0)).1)), (.d (.int .i64 (List.getD x1 (Int.toNat s15) (0, 0)).2))]), .dead, .dead, .dead, .dead, .dead, .dead, .dead, .dead, .dead, .dead, .dead, .dead, .dead, .dead, .dead, .dead, .dead, .dead, .dead, .dead, .dead, .dead, .dead, .dead, .dead, .dead, .dead, .dead, .dead, .dead, .dead, .dead, .dead, .dead, .dead, .dead, .dead, .dead, .dead, .dead, .dead, .dead, .dead, .dead, .dead, .dead, .dead, .dead, .dead, .dead, .dead, .dead, .dead, .dead, .dead, .dead, .dead, .dead, .dead, .dead, .dead, .dead, .dead, .dead]) := by
  exact turns_last (by simp) (M.run_of_path _ [true, true, true, false, false, false, false, false, true, true, true, true, true, true, true, true, true, true, true, true, true, true, false, true] _ _ (by kernel_rfl) (all_t c0 (all_t c1 (all_t c2 (all_f c3 (all_f c3 (all_f c3 (all_f c3 (all_f c7 (all_t c8 (all_t c8 (all_t c8 (all_t c8 (all_t c8 (all_t c8 (all_t c8 (all_t c15 (all_t c16 (all_t c8 (all_t c8 (all_t c19 (all_t c8 (all_t c8 (all_f c22 (all_t c23 all_nil))))))))))))))))))))))))) 
set_option maxHeartbeats 20000000 in
theorem l27_0_w4 (m n : Nat) (x0 : List (Int × Int)) (x1 : List (Int × Int)) (s14 : Int) (s15 : Int) (b1 : List (Int × Int)) (r : AEx × Env × Boxes) (c0 : decide (s15 < s14) = true) (c1 : decide (0 ≤ s15) = true) (c2 : decide (s15 < (((List.length x1) : Nat) : Int)) = true) (c3 : ¬ decide ((List.getD x1 (Int.toNat s15) (0, 0)).1 < 0) = true) (c7 : ¬ decide ((List.getD x1 (Int.toNat s15) (0, 0)).1 > 1099511627776) = true) (c8 : decide ((((List.length b1) : Nat) : Int) > 0) = true) (c15 : decide (0 ≤ (IntKind.wrap .i64 ((((List.length b1) : Nat) : Int) - (1)))) = true) (c16 : decide ((IntKind.wrap .i64 ((((List.length b1) : Nat) : Int) - (1))) < (((List.length b1) : Nat) : Int)) = true) (c19 : decide ((0 + (Int.toNat (IntKind.wrap .i64 ((((List.length b1) : Nat) : Int) - (1))))) < (List.length b1)) = true) (c22 : ¬ decide ((List.getD x1 (Int.toNat s15) (0, 0)).1 ≤ (List.getD b1 (0 + (Int.toNat (IntKind.wrap .i64 ((((List.length b1) : Nat) : Int) - (1))))) (0, 0)).1) = true) (c23 : ¬ ((((List.length b1) : Nat) : Int) == (200)) = true) (c25 : decide ((((List.length b1) + 1) * 16) ≤ 70368744177664) = true) (ih : (turns (hds 27 57377) 1 57377 (evC byref (evCall F S5 (m + 24)) (m + 24) 1 (hds 27) lbl27_0) n (l27_0H x0 x1 s14 ((IntKind.wrap .i64 (s15 + (1)))) ((b1 ++ [(List.getD x1 (Int.toNat s15) (0, 0))]))) (l27_0B x0 x1 s14 ((IntKind.wrap .i64 (s15 + (1)))) ((b1 ++ [(List.getD x1 (Int.toNat s15) (0, 0))])))).run = some r) : (turns (hds 27 57377) 1 57377 (evC byref (evCall F S5 (m + 24)) (m + 24) 1 (hds 27) lbl27_0) (n + 1) (l27_0H x0 x1 s14 s15 b1) (l27_0B x0 x1 s14 s15 b1)).run = some r := by
  have ht : (turn (hds 27 57377) 1 57377 (evC byref (evCall F S5 (m + 24)) (m + 24) 1 (hds 27) lbl27_0) (l27_0H x0 x1 s14 s15 b1) (l27_0B x0 x1 s14 s15 b1)).run = some (.normal, [(.ptr 0 0), .top, .top, .top, .top, (.sr 1 0 ((List.length b1) + 1) 2 none), .top, .top, .top, .top, .top, .top, .top, (.d (.sl (.pair (.int .i64) (.int .i64)) x1)), (.d (.int .i64 s14)), (.d (.int .i64 (IntKind.wrap .i64 (s15 + (1))))), .top, .top, .top, .top, .top, .top, .top, .top, .top, .top, .top, .top, .top, .top, .top, .top, .top, .top, .top, .top, .top, .top, .top, .top, .top, .top, .top, .top, .top, .top, .top, .top, .top, .top, .top, .top, .top, .top, .top, .top, .top], [(.cells [(.d (.sl (.pair (.int .i64) (.int .i64)) x0))]), (.arr (.pair (.int .i64) (.int .i64)) (b1 ++ [(List.getD x1 (Int.toNat s15) (0, 0))]) true)]) := M.run_of_path _ [true, true, true, false, false, false, false, false, true, true, true, true, true, true, true, true, true, true, true, true, true, true, false, false, true, true, true] _ _ (by kernel_rfl) (all_t c0 (all_t c1 (all_t c2 (all_f c3 (all_f c3 (all_f c3 (all_f c3 (all_f c7 (all_t c8 (all_t c8 (all_t c8 (all_t c8 (all_t c8 (all_t c8 (all_t c8 (all_t c15 (all_t c16 (all_t c8 (all_t c8 (all_t c19 (all_t c8 (all_t c8 (all_f c22 (all_f c23 (all_t rfl (all_t c25 (all_t (show decide ((List.length b1) = (List.length b1)) = true from decide_eq_true rfl) all_nil)))))))))))))))))))))))))))
  refine turns_step ht (turns_eq ?_ ?_ ih)
  · unfold l27_0H
    simp
  · unfold l27_0B
    simp
set_option maxHeartbeats 20000000 in
theorem l27_0_w5 (m n : Nat) (x0 : List (Int × Int)) (x1 : List (Int × Int)) (s14 : Int) (s15 : Int) (b1 : List (Int × Int)) (c0 : decide (s15 < s14) = true) (c1 : decide (0 ≤ s15) = true) (c2 : decide (s15 < (((List.length x1) : Nat) : Int)) = true) (c3 : ¬ decide ((List.getD x1 (Int.toNat s15) (0, 0)).1 < 0) = true) (c7 : ¬ decide ((List.getD x1 (Int.toNat s15) (0, 0)).1 > 1099511627776) = true) (c8 : ¬ decide ((((List.length b1) : Nat) : Int) > 0) = true) (c20 : ((((List.length b1) : Nat) : Int) == (200)) = true) : (turns (hds 27 57377) 1 57377 (evC byref (evCall F S5 (m + 24)) (m + 24) 1 (hds 27) lbl27_0) (n + 1) (l27_0H x0 x1 s14 s15 b1) (l27_0B x0 x1 s14 s15 b1)).run = some (.ret, [(.ptr 0 0), .top, .top, .top, (.d (.int .i64 (8))), (.sr 1 0 (List.length b1) 2 none), .top, (.ptr 2 0), .top, .top, .top, .top, .top, (.d (.sl (.pair (.int .i64) (.int .i64)) x1)), (.d (.int .i64 s14)), (.d (.int .i64 s15)), (.d (.bool (decide (s15 < s14)))), (.cptr [(.int .i64 (List.getD x1 (Int.toNat s15) (0, 0)).1), (.int .i64 (List.getD x1 (Int.toNat s15) (0, 0)).2)] 0), (.agg [(.d (.int .i64 (List.getD x1 (Int.toNat s15) (0, 0)).1)), (.d (.int .i64 (List.getD x1 (Int.toNat s15) (0, 0)).2))]), (.d (.bool (decide ((List.getD x1 (Int.toNat s15) (0, 0)).1 > 1099511627776)))), (.ptr 2 0), (.d (.int .i64 (List.getD x1 (Int.toNat s15) (0, 0)).1)), (.d (.bool (decide ((List.getD x1 (Int.toNat s15) (0, 0)).1 < 0)))), (.d (.bool (decide ((List.getD x1 (Int.toNat s15) (0, 0)).1 < 0)))), (.ptr 2 0), (.d (.int .i64 (List.getD x1 (Int.toNat s15) (0, 0)).1)), (.d (.bool (decide ((List.getD x1 (Int.toNat s15) (0, 0)).1 > 1099511627776)))), (.d (.bool (decide ((List.getD x1 (Int.toNat s15) (0, 0)).1 > 1099511627776)))), (.d (.bool false)), (.sr 1 0 (List.length b1) 2 none), (.d (.int .i64 (((List.length b1) : Nat) : Int))), (.d (.bool (decide ((((List.length b1) : Nat) : Int) > 0)))), (.d (.bool (decide ((((List.length b1) : Nat) : Int) > 0)))), (.tup []), (.tup []), (.tup []), (.tup []), (.tup []), (.tup []), (.tup []), (.tup []), (.tup []), (.tup []), (.d (.bool false)), (.d (.bool ((((List.length b1) : Nat) : Int) == (200)))), (.sr 1 0 (List.length b1) 2 none), (.d (.int .i64 (((List.length b1) : Nat) : Int))), (.d (.bool ((((List.length b1) : Nat) : Int) == (200)))), .top, .top, .top, .top, .top, .top, .top, .top, .top], [(.cells [(.d (.sl (.pair (.int .i64) (.int .i64)) x0))]), (.arr (.pair (.int .i64) (.int .i64)) b1 true), (.cells [(.d (.int .i64 (List.getD x1 (Int.toNat s15) (0, 0)).1)), (.d (.int .i64 (List.getD x1 (Int.toNat s15) (0, 0)).2))]), .dead, .dead, .dead, .dead, .dead, .dead, .dead, .dead, .dead, .dead, .dead, .dead, .dead, .dead, .dead, .dead, .dead, .dead, .dead, .dead, .dead, .dead, .dead, .dead, .dead, .dead, .dead, .dead, .dead, .dead, .dead, .dead, .dead, .dead, .dead, .dead, .dead, .dead, .dead, .dead, .dead, .dead, .dead, .dead, .dead, .dead, .dead, .dead, .dead, .dead, .dead, .dead, .dead, .dead, .dead, .dead, .dead, .dead, .dead, .dead, .dead, .dead, .dead, .dead]) := by
  exact turns_last (by simp) (M.run_of_path _ [true, true, true, false, false, false, false, false, false, false, false, false, false, false, false, false, false, false, false, false, true] _ _ (by kernel_rfl) (all_t c0 (all_t c1 (all_t c2 (all_f c3 (all_f c3 (all_f c3 (all_f c3 (all_f c7 (all_f c8 (all_f c8 (all_f c8 (all_f c8 (all_f c8 (all_f c8 (all_f c8 (all_f c8 (all_f c8 (all_f c8 (all_f c8 (all_f Bool.false_ne_true (all_t c20 all_nil)))))))))))))))))))))) 
set_option maxHeartbeats 20000000 in
theorem l27_0_w6 (m n : Nat) (x0 : List (Int × Int)) (x1 : List (Int × Int)) (s14 : Int) (s15 : Int) (b1 : List (Int × Int)) (r : AEx × Env × Boxes) (c0 : decide (s15 < s14) = true) (c1 : decide (0 ≤ s15) = true) (c2 : decide (s15 < (((List.length x1) : Nat) : Int)) = true) (c3 : ¬ decide ((List.getD x1 (Int.toNat s15) (0, 0)).1 < 0) = true) (c7 : ¬ decide ((List.getD x1 (Int.toNat s15) (0, 0)).1 > 1099511627776) = true) (c8 : ¬ decide ((((List.length b1) : Nat) : Int) > 0) = true) (c20 : ¬ ((((List.length b1) : Nat) : Int) == (200)) = true) (c22 : decide ((((List.length b1) + 1) * 16) ≤ 70368744177664) = true) (ih : (turns (hds 27 57377) 1 57377 (evC byref (evCall F S5 (m + 24)) (m + 24) 1 (hds 27) lbl27_0) n (l27_0H x0 x1 s14 ((IntKind.wrap .i64 (s15 + (1)))) ((b1 ++ [(List.getD x1 (Int.toNat s15) (0, 0))]))) (l27_0B x0 x1 s14 ((IntKind.wrap .i64 (s15 + (1)))) ((b1 ++ [(List.getD x1 (Int.toNat s15) (0, 0))])))).run = some r) : (turns (hds 27 57377) 1 57377 (evC byref (evCall F S5 (m + 24)) (m + 24) 1 (hds 27) lbl27_0) (n + 1) (l27_0H x0 x1 s14 s15 b1) (l27_0B x0 x1 s14 s15 b1)).run = some r := by
  have ht : (turn (hds 27 57377) 1 57377 (evC byref (evCall F S5 (m + 24)) (m + 24) 1 (hds 27) lbl27_0) (l27_0H x0 x1 s14 s15 b1) (l27_0B x0 x1 s14 s15 b1)).run = some (.normal, [(.ptr 0 0), .top, .top, .top, .top, (.sr 1 0 ((List.length b1) + 1) 2 none), .top, .top, .top, .top, .top, .top, .top, (.d (.sl (.pair (.int .i64) (.int .i64)) x1)), (.d (.int .i64 s14)), (.d (.int .i64 (IntKind.wrap .i64 (s15 + (1))))), .top, .top, .top, .top, .top, .top, .top, .top, .top, .top, .top, .top, .top, .top, .top, .top, .top, .top, .top, .top, .top, .top, .top, .top, .top, .top, .top, .top, .top, .top, .top, .top, .top, .top, .top, .top, .top, .top, .top, .top, .top], [(.cells [(.d (.sl (.pair (.int .i64) (.int .i64)) x0))]), (.arr (.pair (.int .i64) (.int .i64)) (b1 ++ [(List.getD x1 (Int.toNat s15) (0, 0))]) true)]) := M.run_of_path _ [true, true, true, false, false, false, false, false, false, false, false, false, false, false, false, false, false, false, false, false, false, true, true, true] _ _ (by kernel_rfl) (all_t c0 (all_t c1 (all_t c2 (all_f c3 (all_f c3 (all_f c3 (all_f c3 (all_f c7 (all_f c8 (all_f c8 (all_f c8 (all_f c8 (all_f c8 (all_f c8 (all_f c8 (all_f c8 (all_f c8 (all_f c8 (all_f c8 (all_f Bool.false_ne_true (all_f c20 (all_t rfl (all_t c22 (all_t (show decide ((List.length b1) = (List.length b1)) = true from decide_eq_true rfl) all_nil))))))))))))))))))))))))
  refine turns_step ht (turns_eq ?_ ?_ ih)
  · unfold l27_0H
    simp
  · unfold l27_0B
    simp
set_option maxHeartbeats 20000000 in
theorem l27_0_w7 (m n : Nat) (x0 : List (Int × Int)) (x1 : List (Int × Int)) (s14 : Int) (s15 : Int) (b1 : List (Int × Int)) (c0 : ¬ decide (s15 < s14) = true) : (turns (hds 27 57377) 1 57377 (evC byref (evCall F S5 (m + 24)) (m + 24) 1 (hds 27) lbl27_0) (n + 1) (l27_0H x0 x1 s14 s15 b1) (l27_0B x0 x1 s14 s15 b1)).run = some (.exit 0, [(.ptr 0 0), .top, .top, .top, .top, (.sr 1 0 (List.length b1) 2 none), .top, .top, .top, .top, .top, .top, .top, (.d (.sl (.pair (.int .i64) (.int .i64)) x1)), (.d (.int .i64 s14)), (.d (.int .i64 s15)), (.d (.bool (decide (s15 < s14)))), .top, .top, .top, .top, .top, .top, .top, .top, .top, .top, .top, .top, .top, .top, .top, .top, .top, .top, .top, .top, .top, .top, .top, .top, .top, .top, .top, .top, .top, .top, .top, .top, .top, .top, .top, .top, .top, .top, .top, .top], [(.cells [(.d (.sl (.pair (.int .i64) (.int .i64)) x0))]), (.arr (.pair (.int .i64) (.int .i64)) b1 true)]) := by
  exact turns_last (by simp) (M.run_of_path _ [false] _ _ (by kernel_rfl) (all_f c0 all_nil)) 

set_option maxHeartbeats 20000000 in
theorem l27_0_step (m n : Nat) (ih : ∀ (x0 : List (Int × Int)) (x1 : List (Int × Int)) (s14 : Int) (s15 : Int) (b1 : List (Int × Int)) (q : Nat × Int × (List (Int × Int))), l27_0 m n x0 x1 s14 s15 b1 = some q → (turns (hds 27 57377) 1 57377 (evC byref (evCall F S5 (m + 24)) (m + 24) 1 (hds 27) lbl27_0) n (l27_0H x0 x1 s14 s15 b1) (l27_0B x0 x1 s14 s15 b1)).run = some (l27_0E (x0) (x1) (s14) (q.2.1) (q.2.2) q.1)) (x0 : List (Int × Int)) (x1 : List (Int × Int)) (s14 : Int) (s15 : Int) (b1 : List (Int × Int)) (q : Nat × Int × (List (Int × Int))) (h : l27_0 m (n + 1) x0 x1 s14 s15 b1 = some q) : (turns (hds 27 57377) 1 57377 (evC byref (evCall F S5 (m + 24)) (m + 24) 1 (hds 27) lbl27_0) (n + 1) (l27_0H x0 x1 s14 s15 b1) (l27_0B x0 x1 s14 s15 b1)).run = some (l27_0E (x0) (x1) (s14) (q.2.1) (q.2.2) q.1) := by
  rw [l27_0] at h
  refine ite_cases h (fun c0 h => ?_) (fun c0 h => ?_)
  · skip
    refine ite_cases h (fun c1 h => ?_) (fun c1 h => ?_)
    · skip
      refine ite_cases h (fun c2 h => ?_) (fun c2 h => ?_)
      · skip
        refine ite_cases h (fun c3 h => ?_) (fun c3 h => ?_)
        · skip
          cases h
          exact l27_0_w0 m n x0 x1 s14 s15 b1 c0 c1 c2 c3
        · skip
          refine ite_cases h (fun c7 h => ?_) (fun c7 h => ?_)
          · skip
            cases h
            exact l27_0_w1 m n x0 x1 s14 s15 b1 c0 c1 c2 c3 c7
          · skip
            refine ite_cases h (fun c8 h => ?_) (fun c8 h => ?_)
            · skip
              refine ite_cases h (fun c15 h => ?_) (fun c15 h => ?_)
              · skip
                refine ite_cases h (fun c16 h => ?_) (fun c16 h => ?_)
                · skip
                  refine ite_cases h (fun c19 h => ?_) (fun c19 h => ?_)
                  · skip
                    refine ite_cases h (fun c22 h => ?_) (fun c22 h => ?_)
                    · skip
                      cases h
                      exact l27_0_w2 m n x0 x1 s14 s15 b1 c0 c1 c2 c3 c7 c8 c15 c16 c19 c22
                    · skip
                      refine ite_cases h (fun c23 h => ?_) (fun c23 h => ?_)
                      · skip
                        cases h
                        exact l27_0_w3 m n x0 x1 s14 s15 b1 c0 c1 c2 c3 c7 c8 c15 c16 c19 c22 c23
                      · skip
                        refine ite_cases h (fun c25 h => ?_) (fun c25 h => ?_)
                        · skip
                          exact l27_0_w4 m n x0 x1 s14 s15 b1 _ c0 c1 c2 c3 c7 c8 c15 c16 c19 c22 c23 c25 (ih _ _ _ _ _ q h)
                        · skip
                          cases h
                  · skip
                    cases h
                · skip
                  cases h
              · skip
                cases h
            · skip
              refine ite_cases h (fun c20 h => ?_) (fun c20 h => ?_)
              · skip
                cases h
                exact l27_0_w5 m n x0 x1 s14 s15 b1 c0 c1 c2 c3 c7 c8 c20
              · skip
                refine ite_cases h (fun c22 h => ?_) (fun c22 h => ?_)
                · skip
                  exact l27_0_w6 m n x0 x1 s14 s15 b1 _ c0 c1 c2 c3 c7 c8 c20 c22 (ih _ _ _ _ _ q h)
                · skip
                  cases h
      · skip
        cases h
    · skip
      cases h
  · skip
    cases h
    exact l27_0_w7 m n x0 x1 s14 s15 b1 c0
set_option maxHeartbeats 20000000 in
theorem l27_0_ok (m : Nat) : ∀ (n : Nat) (x0 : List (Int × Int)) (x1 : List (Int × Int)) (s14 : Int) (s15 : Int) (b1 : List (Int × Int)) (q : Nat × Int × (List (Int × Int))), l27_0 m n x0 x1 s14 s15 b1 = some q → (turns (hds 27 57377) 1 57377 (evC byref (evCall F S5 (m + 24)) (m + 24) 1 (hds 27) lbl27_0) n (l27_0H x0 x1 s14 s15 b1) (l27_0B x0 x1 s14 s15 b1)).run = some (l27_0E (x0) (x1) (s14) (q.2.1) (q.2.2) q.1)
  | 0, x0, x1, s14, s15, b1, q, h => by cases h
  | n + 1, x0, x1, s14, s15, b1, q, h => l27_0_step m n (l27_0_ok m n) x0 x1 s14 s15 b1 q h

def p27 (m : Nat) (x0 : List (Int × Int)) (x1 : List (Int × Int)) : Option (Int × (List (Int × Int))) :=
  if decide (((List.length x0) * 16) ≤ 70368744177664) = true then
    if (Option.isSome (l27_0 m (m + 24) x0 x1 ((((List.length x1) : Nat) : Int)) 0 x0)) = true then
      if ((l27_0R m (m + 24) x0 x1 ((((List.length x1) : Nat) : Int)) 0 x0).1 == 0) = true then
        some ((1), x0)
      else
        if ((l27_0R m (m + 24) x0 x1 ((((List.length x1) : Nat) : Int)) 0 x0).1 == 1) = true then
          some ((1), x0)
        else
          if ((l27_0R m (m + 24) x0 x1 ((((List.length x1) : Nat) : Int)) 0 x0).1 == 2) = true then
            some ((2), x0)
          else
            if ((l27_0R m (m + 24) x0 x1 ((((List.length x1) : Nat) : Int)) 0 x0).1 == 3) = true then
              some ((8), x0)
            else
              if ((l27_0R m (m + 24) x0 x1 ((((List.length x1) : Nat) : Int)) 0 x0).1 == 4) = true then
                some ((8), x0)
              else
                if ((l27_0R m (m + 24) x0 x1 ((((List.length x1) : Nat) : Int)) 0 x0).1 == 5) = true then
                  some ((0), (l27_0R m (m + 24) x0 x1 ((((List.length x1) : Nat) : Int)) 0 x0).2.2)
                else
                  none
    else
      none
  else
    none
set_option maxHeartbeats 20000000 in
theorem p27_ok (m : Nat) (x0 : List (Int × Int)) (x1 : List (Int × Int)) (q : Int × (List (Int × Int))) (h : p27 m x0 x1 = some q) : ∃ r B1, (evCall F S5 (m + 25) 27 [(.ptr 0 0), (.d (.sl (.pair (.int .i64) (.int .i64)) x1))] [(.cells [(.d (.sl (.pair (.int .i64) (.int .i64)) x0))])]).run = some (r, B1) ∧ 1 ≤ B1.length ∧ wkR B1 [(.cells [(.d (.sl (.pair (.int .i64) (.int .i64)) q.2))])] r (.d (.int .i64 q.1)) ∧ wkBs B1 [(.cells [(.d (.sl (.pair (.int .i64) (.int .i64)) q.2))])] 0 [(.cells [(.d (.sl (.pair (.int .i64) (.int .i64)) q.2))])] := by
  unfold p27 at h
  refine ite_cases h (fun c0 h => ?_) (fun c0 h => ?_)
  · skip
    refine ite_cases h (fun c1 h => ?_) (fun c1 h => ?_)
    · skip
      refine ite_cases h (fun c2 h => ?_) (fun c2 h => ?_)
      · skip
        cases h
        refine ⟨(.d (.int .i64 (1))), [(.cells [(.d (.sl (.pair (.int .i64) (.int .i64)) x0))])], runT_ok (LS := (fun k => if k = 57377 then some (l27_0E x0 x1 (((((List.length x1) : Nat) : Int))) ((l27_0R m (m + 24) x0 x1 ((((List.length x1) : Nat) : Int)) 0 x0).2.1) ((l27_0R m (m + 24) x0 x1 ((((List.length x1) : Nat) : Int)) 0 x0).2.2) 0) else none)) (fn := fn27) (vis := [(57377, l27_0H x0 x1 ((((List.length x1) : Nat) : Int)) 0 x0, l27_0B x0 x1 ((((List.length x1) : Nat) : Int)) 0 x0)]) (by kernel_rfl) rfl (by kernel_rfl) (M.run_of_path _ [true] _ _ (by kernel_rfl) (all_t c0 all_nil)) ?_, by simp, (wkR.one (wkV.one (wk1.eq rfl))), ⟨wkBox.cells (wkL.cons (wk1.eq rfl) wkL.nil), trivial⟩⟩
        intro p hp p2 hq
        rcases List.mem_cons.1 hp with rfl | hp
        · skip
          have h3 := l27_0_ok m (m + 24) x0 x1 ((((List.length x1) : Nat) : Int)) 0 x0 _ (some_getD (d := l27_0D) c1)
          rw [eq_of_beq c2] at h3
          exact Eq.trans (Eq.mp (by kernel_rfl) h3) hq
        cases hp
      · skip
        refine ite_cases h (fun c3 h => ?_) (fun c3 h => ?_)
        · skip
          cases h
          refine ⟨(.d (.int .i64 (1))), [(.cells [(.d (.sl (.pair (.int .i64) (.int .i64)) x0))])], runT_ok (LS := (fun k => if k = 57377 then some (l27_0E x0 x1 (((((List.length x1) : Nat) : Int))) ((l27_0R m (m + 24) x0 x1 ((((List.length x1) : Nat) : Int)) 0 x0).2.1) ((l27_0R m (m + 24) x0 x1 ((((List.length x1) : Nat) : Int)) 0 x0).2.2) 1) else none)) (fn := fn27) (vis := [(57377, l27_0H x0 x1 ((((List.length x1) : Nat) : Int)) 0 x0, l27_0B x0 x1 ((((List.length x1) : Nat) : Int)) 0 x0)]) (by kernel_rfl) rfl (by kernel_rfl) (M.run_of_path _ [true] _ _ (by kernel_rfl) (all_t c0 all_nil)) ?_, by simp, (wkR.one (wkV.one (wk1.eq rfl))), ⟨wkBox.cells (wkL.cons (wk1.eq rfl) wkL.nil), trivial⟩⟩
          intro p hp p2 hq
          rcases List.mem_cons.1 hp with rfl | hp
          · skip
            have h3 := l27_0_ok m (m + 24) x0 x1 ((((List.length x1) : Nat) : Int)) 0 x0 _ (some_getD (d := l27_0D) c1)
            rw [eq_of_beq c3] at h3
            exact Eq.trans (Eq.mp (by kernel_rfl) h3) hq
          cases hp
        · skip
          refine ite_cases h (fun c4 h => ?_) (fun c4 h => ?_)
          · skip
            cases h
            refine ⟨(.d (.int .i64 (2))), [(.cells [(.d (.sl (.pair (.int .i64) (.int .i64)) x0))])], runT_ok (LS := (fun k => if k = 57377 then some (l27_0E x0 x1 (((((List.length x1) : Nat) : Int))) ((l27_0R m (m + 24) x0 x1 ((((List.length x1) : Nat) : Int)) 0 x0).2.1) ((l27_0R m (m + 24) x0 x1 ((((List.length x1) : Nat) : Int)) 0 x0).2.2) 2) else none)) (fn := fn27) (vis := [(57377, l27_0H x0 x1 ((((List.length x1) : Nat) : Int)) 0 x0, l27_0B x0 x1 ((((List.length x1) : Nat) : Int)) 0 x0)]) (by kernel_rfl) rfl (by kernel_rfl) (M.run_of_path _ [true] _ _ (by kernel_rfl) (all_t c0 all_nil)) ?_, by simp, (wkR.one (wkV.one (wk1.eq rfl))), ⟨wkBox.cells (wkL.cons (wk1.eq rfl) wkL.nil), trivial⟩⟩
            intro p hp p2 hq
            rcases List.mem_cons.1 hp with rfl | hp
            · skip
              have h3 := l27_0_ok m (m + 24) x0 x1 ((((List.length x1) : Nat) : Int)) 0 x0 _ (some_getD (d := l27_0D) c1)
              rw [eq_of_beq c4] at h3
              exact Eq.trans (Eq.mp (by kernel_rfl) h3) hq
            cases hp
          · skip
            refine ite_cases h (fun c5 h => ?_) (fun c5 h => ?_)
            · skip
              cases h
              refine ⟨(.d (.int .i64 (8))), [(.cells [(.d (.sl (.pair (.int .i64) (.int .i64)) x0))])], runT_ok (LS := (fun k => if k = 57377 then some (l27_0E x0 x1 (((((List.length x1) : Nat) : Int))) ((l27_0R m (m + 24) x0 x1 ((((List.length x1) : Nat) : Int)) 0 x0).2.1) ((l27_0R m (m + 24) x0 x1 ((((List.length x1) : Nat) : Int)) 0 x0).2.2) 3) else none)) (fn := fn27) (vis := [(57377, l27_0H x0 x1 ((((List.length x1) : Nat) : Int)) 0 x0, l27_0B x0 x1 ((((List.length x1) : Nat) : Int)) 0 x0)]) (by kernel_rfl) rfl (by kernel_rfl) (M.run_of_path _ [true] _ _ (by kernel_rfl) (all_t c0 all_nil)) ?_, by simp, (wkR.one (wkV.one (wk1.eq rfl))), ⟨wkBox.cells (wkL.cons (wk1.eq rfl) wkL.nil), trivial⟩⟩
              intro p hp p2 hq
              rcases List.mem_cons.1 hp with rfl | hp
              · skip
                have h3 := l27_0_ok m (m + 24) x0 x1 ((((List.length x1) : Nat) : Int)) 0 x0 _ (some_getD (d := l27_0D) c1)
                rw [eq_of_beq c5] at h3
                exact Eq.trans (Eq.mp (by kernel_rfl) h3) hq
              cases hp
            · skip
              refine ite_cases h (fun c6 h => ?_) (fun c6 h => ?_)
              · skip
                cases h
                refine ⟨(.d (.int .i64 (8))), [(.cells [(.d (.sl (.pair (.int .i64) (.int .i64)) x0))])], runT_ok (LS := (fun k => if k = 57377 then some (l27_0E x0 x1 (((((List.length x1) : Nat) : Int))) ((l27_0R m (m + 24) x0 x1 ((((List.length x1) : Nat) : Int)) 0 x0).2.1) ((l27_0R m (m + 24) x0 x1 ((((List.length x1) : Nat) : Int)) 0 x0).2.2) 4) else none)) (fn := fn27) (vis := [(57377, l27_0H x0 x1 ((((List.length x1) : Nat) : Int)) 0 x0, l27_0B x0 x1 ((((List.length x1) : Nat) : Int)) 0 x0)]) (by kernel_rfl) rfl (by kernel_rfl) (M.run_of_path _ [true] _ _ (by kernel_rfl) (all_t c0 all_nil)) ?_, by simp, (wkR.one (wkV.one (wk1.eq rfl))), ⟨wkBox.cells (wkL.cons (wk1.eq rfl) wkL.nil), trivial⟩⟩
                intro p hp p2 hq
                rcases List.mem_cons.1 hp with rfl | hp
                · skip
                  have h3 := l27_0_ok m (m + 24) x0 x1 ((((List.length x1) : Nat) : Int)) 0 x0 _ (some_getD (d := l27_0D) c1)
                  rw [eq_of_beq c6] at h3
                  exact Eq.trans (Eq.mp (by kernel_rfl) h3) hq
                cases hp
              · skip
                refine ite_cases h (fun c7 h => ?_) (fun c7 h => ?_)
                · skip
                  cases h
                  refine ⟨(.d (.int .i64 (0))), [(.cells [(.sr 1 0 (List.length (l27_0R m (m + 24) x0 x1 ((((List.length x1) : Nat) : Int)) 0 x0).2.2) 2 none)]), (.arr (.pair (.int .i64) (.int .i64)) (l27_0R m (m + 24) x0 x1 ((((List.length x1) : Nat) : Int)) 0 x0).2.2 true)], runT_ok (LS := (fun k => if k = 57377 then some (l27_0E x0 x1 (((((List.length x1) : Nat) : Int))) ((l27_0R m (m + 24) x0 x1 ((((List.length x1) : Nat) : Int)) 0 x0).2.1) ((l27_0R m (m + 24) x0 x1 ((((List.length x1) : Nat) : Int)) 0 x0).2.2) 5) else none)) (fn := fn27) (vis := [(57377, l27_0H x0 x1 ((((List.length x1) : Nat) : Int)) 0 x0, l27_0B x0 x1 ((((List.length x1) : Nat) : Int)) 0 x0)]) (by kernel_rfl) rfl (by kernel_rfl) (M.run_of_path _ [true] _ _ (by kernel_rfl) (all_t c0 all_nil)) ?_, by simp, (wkR.one (wkV.one (wk1.eq rfl))), ⟨wkBox.cells (wkL.cons (wk1.whole rfl (by simp) rfl) wkL.nil), trivial⟩⟩
                  intro p hp p2 hq
                  rcases List.mem_cons.1 hp with rfl | hp
                  · skip
                    have h3 := l27_0_ok m (m + 24) x0 x1 ((((List.length x1) : Nat) : Int)) 0 x0 _ (some_getD (d := l27_0D) c1)
                    rw [eq_of_beq c7] at h3
                    exact Eq.trans (Eq.mp (by kernel_rfl) h3) hq
                  cases hp
                · skip
                  cases h
    · skip
      cases h
  · skip
    cases h

/-- Samples added one by one: a code, and what there is. -/
def addR (out : SL) : SL → Int × SL
  | [] => (0, out)
  | x :: xs => if x.1 < 0 then (1, out) else if x.1 > 1099511627776 then (1, out) else if 0 < out.length ∧ x.1 ≤ (out.getD (out.length - 1) (0, 0)).1 then (2, out) else if out.length = 200 then (8, out) else addR (out ++ [x]) xs
def addG (l xs : SL) : Int × SL := if (addR l xs).1 = 0 then (0, (addR l xs).2) else ((addR l xs).1, l)
theorem add_loop (m : Nat) (x0 x1 : SL) (hb : x1.length < 4611686018427387904) : ∀ (n k : Nat) (b : SL), k ≤ x1.length → b.length ≤ 200 → x1.length - k < n →
    ∃ e s b', l27_0 m n x0 x1 (x1.length : Nat) (k : Nat) b = some (e, s, b') ∧ ((e = 5 ∧ addR b (x1.drop k) = (0, b')) ∨ ((e = 0 ∨ e = 1) ∧ (addR b (x1.drop k)).1 = 1) ∨ (e = 2 ∧ (addR b (x1.drop k)).1 = 2) ∨ ((e = 3 ∨ e = 4) ∧ (addR b (x1.drop k)).1 = 8))
  | 0, k, b, _, _, h => by omega
  | n + 1, k, b, h1, h2, h3 => by
    rw [l27_0]
    by_cases hk : k < x1.length
    · have e1 : decide (((k : Nat) : Int) < (((List.length x1) : Nat) : Int)) = true := decide_eq_true (by omega)
      have e2 : decide ((0 : Int) ≤ ((k : Nat) : Int)) = true := decide_eq_true (by omega)
      have e7 : IntKind.wrap .i64 (((k : Nat) : Int) + (1)) = ((k + 1 : Nat) : Int) := by rw [wrap_id (by omega) (by omega)]; rfl
      rw [drop_getD x1 k (0, 0) hk, Int.toNat_natCast, e7, if_pos e1, if_pos e2, if_pos e1]
      generalize x1.getD k (0, 0) = x
      by_cases c1 : x.1 < 0
      · rw [if_pos (decide_eq_true c1)]
        exact ⟨0, _, _, rfl, .inr (.inl ⟨.inl rfl, by simp [addR, c1]⟩)⟩
      · rw [if_neg (by simpa using c1)]
        by_cases c2 : x.1 > 1099511627776
        · rw [if_pos (decide_eq_true c2)]
          exact ⟨1, _, _, rfl, .inr (.inl ⟨.inr rfl, by simp [addR, c1, c2]⟩)⟩
        · rw [if_neg (by simpa using c2)]
          have e4 : decide ((((List.length b) + 1) * 16) ≤ 70368744177664) = true := decide_eq_true (by omega)
          have e5 : decide ((List.length b) = (List.length b)) = true := decide_eq_true rfl
          have fin : b.length ≠ 200 → ¬ (0 < b.length ∧ x.1 ≤ (b.getD (b.length - 1) (0, 0)).1) → ∃ e s b', l27_0 m n x0 x1 (x1.length : Nat) ((k + 1 : Nat) : Int) (b ++ [x]) = some (e, s, b') ∧ ((e = 5 ∧ addR b (x :: x1.drop (k + 1)) = (0, b')) ∨ ((e = 0 ∨ e = 1) ∧ (addR b (x :: x1.drop (k + 1))).1 = 1) ∨ (e = 2 ∧ (addR b (x :: x1.drop (k + 1))).1 = 2) ∨ ((e = 3 ∨ e = 4) ∧ (addR b (x :: x1.drop (k + 1))).1 = 8)) := by
            intro hne hno
            obtain ⟨e, s, b', hr, he⟩ := add_loop m x0 x1 hb n (k + 1) (b ++ [x]) (by omega) (by simp; omega) (by omega)
            have : addR b (x :: x1.drop (k + 1)) = addR (b ++ [x]) (x1.drop (k + 1)) := by
              rw [addR, if_neg c1, if_neg c2, if_neg hno, if_neg hne]
            rw [this]
            exact ⟨e, s, b', hr, he⟩
          by_cases c3 : 0 < b.length
          · have f1 : decide ((((List.length b) : Nat) : Int) > 0) = true := decide_eq_true (by omega)
            have f2 : IntKind.wrap .i64 ((((List.length b) : Nat) : Int) - (1)) = ((b.length - 1 : Nat) : Int) := by rw [wrap_id (by omega) (by omega)]; omega
            have f3 : decide ((0 : Int) ≤ ((b.length - 1 : Nat) : Int)) = true := decide_eq_true (by omega)
            have f4 : decide (((b.length - 1 : Nat) : Int) < (((List.length b) : Nat) : Int)) = true := decide_eq_true (by omega)
            have f5 : decide ((0 + (b.length - 1)) < (List.length b)) = true := decide_eq_true (by omega)
            have f6 : 0 + (b.length - 1) = b.length - 1 := by omega
            have f5' : decide ((b.length - 1) < (List.length b)) = true := decide_eq_true (by omega)
            rw [f2, Int.toNat_natCast, f6, if_pos f1, if_pos f3, if_pos f4, if_pos f5']
            by_cases c4 : x.1 ≤ (b.getD (b.length - 1) (0, 0)).1
            · rw [if_pos (decide_eq_true c4)]
              exact ⟨2, _, _, rfl, .inr (.inr (.inl ⟨rfl, by rw [addR, if_neg c1, if_neg c2, if_pos ⟨c3, c4⟩]⟩))⟩
            · rw [if_neg (by simpa using c4)]
              by_cases c5 : b.length = 200
              · rw [if_pos (by simp [c5])]
                exact ⟨3, _, _, rfl, .inr (.inr (.inr ⟨.inl rfl, by rw [addR, if_neg c1, if_neg c2, if_neg (fun h => c4 h.2), if_pos c5]⟩))⟩
              · rw [if_neg (by simp; omega), if_pos e4]
                exact fin c5 fun h => c4 h.2
          · have f1 : decide ((((List.length b) : Nat) : Int) > 0) = false := decide_eq_false (by omega)
            have f2 : ((((List.length b) : Nat) : Int) == (200)) = false := by simp; omega
            rw [f1, f2, if_neg (by simp), if_neg (by simp), if_pos e4]
            exact fin (by omega) fun h => c3 h.1
    · have e1 : decide (((k : Nat) : Int) < (((List.length x1) : Nat) : Int)) = false := decide_eq_false (by omega)
      simp only [e1, ↓reduceIte, Bool.false_eq_true]
      rw [List.drop_eq_nil_of_le (by omega)]
      exact ⟨5, _, _, rfl, .inl ⟨rfl, rfl⟩⟩
theorem add27 (l xs : SL) (h : decide (l.length ≤ 200 ∧ xs.length < 4611686018427387904) = true) : ∃ m, p27 m l xs = some (addG l xs) := by
  have h := of_decide_eq_true h
  refine ⟨xs.length, ?_⟩
  obtain ⟨e, s, b', hr, he⟩ := add_loop xs.length l xs h.2 (xs.length + 24) 0 l (by omega) h.1 (by omega)
  simp only [Int.natCast_zero, List.drop_zero] at hr he
  have e1 : decide (((List.length l) * 16) ≤ 70368744177664) = true := decide_eq_true (by omega)
  unfold p27 l27_0R addG
  simp only [hr, e1, Option.isSome_some, Option.getD_some, ↓reduceIte]
  rcases he with ⟨rfl, he⟩ | ⟨rfl | rfl, he⟩ | ⟨rfl, he⟩ | ⟨rfl | rfl, he⟩ <;> simp [he]
def s27 : List AV → Boxes → M (AV × Boxes) := normS [.ptr, .val (.sl (.pair (.int .i64) (.int .i64)))] [(.sl (.pair (.int .i64) (.int .i64)))] fun xs B => match xs, B with
  | [(.ptr 0 0), (.d (.sl (.pair (.int .i64) (.int .i64)) c2))], [(.cells [(.d (.sl (.pair (.int .i64) (.int .i64)) c1))])] => .chk (decide (List.length c1 ≤ 200 ∧ List.length c2 < 4611686018427387904)) (.ret ((.d (.int .i64 (addG c1 c2).1)), [(.cells [(.d (.sl (.pair (.int .i64) (.int .i64)) (addG c1 c2).2))])]))
  | _, _ => .fail
theorem s27_at : CallAt Try.prog 27 s27 := by
  refine CallAt.norm (CallAt.weakE (g := fun n => evCall F S5 n 27) (fun n => evCall_atH mixed kinds hds S5 S5_ok n 27) fun xs B r' B' hr => ?_) _ _
  split at hr
  · rename_i c2 c1
    obtain ⟨hp, hr⟩ := (M.run_chk _ _ _).1 hr
    simp only [M.run, Option.some.injEq, Prod.mk.injEq] at hr
    obtain ⟨rfl, rfl⟩ := hr
    obtain ⟨m, hm⟩ := add27 c1 c2 hp
    obtain ⟨r, B1, h1, h2, h3, h4⟩ := p27_ok m c1 c2 _ hm
    exact ⟨m + 25, r, B1, h1, by simp, h2, h3, h4⟩
  · simp [M.run] at hr
noncomputable def S6 : FuncId → Option (List AV → Boxes → M (AV × Boxes)) := fun f => if f = 27 then some s27 else S5 f
set_option maxHeartbeats 20000000 in
theorem S6_ok : ∀ f s, S6 f = some s → CallAt Try.prog f s := by
  intro f s h
  unfold S6 at h
  split at h
  · rename_i e; subst e; cases h; exact s27_at
  · exact S5_ok f s h

end Go.Proofs.Ytkppbflmlpabjab.Dec
