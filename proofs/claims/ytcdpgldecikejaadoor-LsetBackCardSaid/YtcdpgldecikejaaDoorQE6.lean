/- lset.Right. lset.Print, Same of labels. LsetRuns, MatchRuns, reckoned. Sets of numbers. Texts are read in one way. unquote. -/
import Derived.Test.YtcdpgldecikejaaDoorQE5
import Derived.KernelRfl
namespace Go.Proofs.YtcdpgldecikejaaDoor.Dec
open Go.Ev
set_option linter.unusedVariables false
set_option linter.unusedSimpArgs false
set_option maxRecDepth 100000
noncomputable def fn11 : AFn := (F 11).getD ⟨0, [], .bad, false, false, noHd⟩
noncomputable def body11 : AC := fn11.body
def l11_0 (m : Nat) : Nat → List ((List UInt8) × (List UInt8)) → Int → Int → Option (Nat × Int)
  | 0, _, _, _ => none
  | n + 1, x0, s6, s7 => if decide (s7 < s6) = true then
      if decide (0 ≤ s7) = true then
        if decide (s7 < (((List.length x0) : Nat) : Int)) = true then
          if decide (List.length (List.getD x0 (Int.toNat s7) (([] : List UInt8), ([] : List UInt8))).1 ≤ 9223372036854775807) = true then
            if (wordG (List.getD x0 (Int.toNat s7) (([] : List UInt8), ([] : List UInt8))).1) = true then
              if ((List.getD x0 (Int.toNat s7) (([] : List UInt8), ([] : List UInt8))).2 == ([] : List UInt8)) = true then
                some (1, s7)
              else
                if decide ((((List.length (List.getD x0 (Int.toNat s7) (([] : List UInt8), ([] : List UInt8))).2) : Nat) : Int) > 24) = true then
                  some (2, s7)
                else
                  if decide (s7 > 0) = true then
                    if decide (0 ≤ (IntKind.wrap .i64 (s7 - (1)))) = true then
                      if decide ((IntKind.wrap .i64 (s7 - (1))) < (((List.length x0) : Nat) : Int)) = true then
                        if (Op.bytesLess (List.getD x0 (Int.toNat (IntKind.wrap .i64 (s7 - (1)))) (([] : List UInt8), ([] : List UInt8))).1 (List.getD x0 (Int.toNat s7) (([] : List UInt8), ([] : List UInt8))).1) = true then
                          l11_0 m n x0 s6 ((IntKind.wrap .i64 (s7 + (1))))
                        else
                          some (3, s7)
                      else
                        none
                    else
                      none
                  else
                    l11_0 m n x0 s6 ((IntKind.wrap .i64 (s7 + (1))))
            else
              some (0, s7)
          else
            none
        else
          none
      else
        none
    else
      some (4, s7)
def l11_0D : Nat × Int := (0, 0)
@[reducible] def l11_0R (m n : Nat) (x0 : List ((List UInt8) × (List UInt8))) (s6 : Int) (s7 : Int) : Nat × Int := Option.getD (l11_0 m n x0 s6 s7) l11_0D
def l11_0H (x0 : List ((List UInt8) × (List UInt8))) (s6 : Int) (s7 : Int) : Env := [(.d (.sl (.pair .str .str) x0)), .top, .top, .top, .top, (.d (.sl (.pair .str .str) x0)), (.d (.int .i64 s6)), (.d (.int .i64 s7)), .top, .top, .top, .top, .top, .top, .top, .top, .top, .top, .top, .top, .top, .top, .top, .top, .top, .top, .top, .top, .top, .top, .top, .top, .top, .top, .top, .top, .top, .top, .top, .top, .top, .top, .top, .top, .top, .top]
def l11_0B (x0 : List ((List UInt8) × (List UInt8))) (s6 : Int) (s7 : Int) : Boxes := []
def l11_0E (x0 : List ((List UInt8) × (List UInt8))) (s6 : Int) (s7 : Int) : Nat → AEx × Env × Boxes
  | 0 => (.ret, [(.d (.sl (.pair .str .str) x0)), .top, (.d (.bool false)), (.d (.int .i64 s7)), (.ptr 0 0), (.d (.sl (.pair .str .str) x0)), (.d (.int .i64 s6)), (.d (.int .i64 s7)), (.d (.bool (decide (s7 < s6)))), (.d (.int .i64 s7)), (.cptr [(.str (List.getD x0 (Int.toNat s7) (([] : List UInt8), ([] : List UInt8))).1), (.str (List.getD x0 (Int.toNat s7) (([] : List UInt8), ([] : List UInt8))).2)] 0), (.agg [(.d (.str (List.getD x0 (Int.toNat s7) (([] : List UInt8), ([] : List UInt8))).1)), (.d (.str (List.getD x0 (Int.toNat s7) (([] : List UInt8), ([] : List UInt8))).2))]), (.ptr 0 0), (.d (.str (List.getD x0 (Int.toNat s7) (([] : List UInt8), ([] : List UInt8))).1)), (.d (.bool (wordG (List.getD x0 (Int.toNat s7) (([] : List UInt8), ([] : List UInt8))).1))), (.d (.bool (!(wordG (List.getD x0 (Int.toNat s7) (([] : List UInt8), ([] : List UInt8))).1)))), (.d (.bool (!(wordG (List.getD x0 (Int.toNat s7) (([] : List UInt8), ([] : List UInt8))).1)))), (.tup []), (.tup []), (.tup []), (.d (.bool true)), (.d (.bool true)), (.tup []), (.tup []), (.tup []), (.tup []), (.d (.bool true)), (.d (.bool true)), (.tup []), (.tup []), (.tup []), (.tup []), (.tup []), (.tup []), (.tup []), (.tup []), (.tup []), (.tup []), (.tup []), (.tup []), (.tup []), (.d (.bool true)), .top, .top, .top, .top], [(.cells [(.d (.str (List.getD x0 (Int.toNat s7) (([] : List UInt8), ([] : List UInt8))).1)), (.d (.str (List.getD x0 (Int.toNat s7) (([] : List UInt8), ([] : List UInt8))).2))]), .dead, .dead, .dead, .dead, .dead, .dead, .dead, .dead, .dead, .dead, .dead, .dead, .dead, .dead, .dead, .dead, .dead, .dead, .dead, .dead, .dead, .dead, .dead, .dead, .dead, .dead, .dead, .dead, .dead, .dead, .dead, .dead, .dead, .dead, .dead, .dead, .dead, .dead, .dead, .dead, .dead, .dead, .dead, .dead, .dead, .dead, .dead, .dead, .dead, .dead, .dead, .dead, .dead, .dead, .dead, .dead, .dead, .dead, .dead, .dead, .dead, .dead, .dead, .dead, .dead, .dead, .dead, .dead, .dead, .dead, .dead, .dead, .dead, .dead, .dead, .dead, .dead, .dead, .dead, .dead, .dead, .dead, .dead, .dead, .dead, .dead, .dead, .dead, .dead, .dead, .dead, .dead, .dead, .dead, .dead, .dead, .dead, .dead, .dead, .dead, .dead, .dead, .dead, .dead, .dead, .dead, .dead, .dead, .dead, .dead, .dead, .dead, .dead, .dead, .dead, .dead, .dead, .dead, .dead, .dead])
  | 1 => (.ret, [(.d (.sl (.pair .str .str) x0)), .top, (.d (.bool false)), (.d (.int .i64 s7)), (.ptr 0 0), (.d (.sl (.pair .str .str) x0)), (.d (.int .i64 s6)), (.d (.int .i64 s7)), (.d (.bool (decide (s7 < s6)))), (.d (.int .i64 s7)), (.cptr [(.str (List.getD x0 (Int.toNat s7) (([] : List UInt8), ([] : List UInt8))).1), (.str (List.getD x0 (Int.toNat s7) (([] : List UInt8), ([] : List UInt8))).2)] 0), (.agg [(.d (.str (List.getD x0 (Int.toNat s7) (([] : List UInt8), ([] : List UInt8))).1)), (.d (.str (List.getD x0 (Int.toNat s7) (([] : List UInt8), ([] : List UInt8))).2))]), (.ptr 0 0), (.d (.str (List.getD x0 (Int.toNat s7) (([] : List UInt8), ([] : List UInt8))).1)), (.d (.bool (wordG (List.getD x0 (Int.toNat s7) (([] : List UInt8), ([] : List UInt8))).1))), (.d (.bool (!(wordG (List.getD x0 (Int.toNat s7) (([] : List UInt8), ([] : List UInt8))).1)))), (.d (.bool (!(wordG (List.getD x0 (Int.toNat s7) (([] : List UInt8), ([] : List UInt8))).1)))), (.ptr 0 1), (.d (.str (List.getD x0 (Int.toNat s7) (([] : List UInt8), ([] : List UInt8))).2)), (.d (.bool ((List.getD x0 (Int.toNat s7) (([] : List UInt8), ([] : List UInt8))).2 == ([] : List UInt8)))), (.d (.bool ((List.getD x0 (Int.toNat s7) (([] : List UInt8), ([] : List UInt8))).2 == ([] : List UInt8)))), (.d (.bool ((List.getD x0 (Int.toNat s7) (([] : List UInt8), ([] : List UInt8))).2 == ([] : List UInt8)))), (.tup []), (.tup []), (.tup []), (.tup []), (.d (.bool true)), (.d (.bool true)), (.tup []), (.tup []), (.tup []), (.tup []), (.tup []), (.tup []), (.tup []), (.tup []), (.tup []), (.tup []), (.tup []), (.tup []), (.tup []), (.d (.bool true)), .top, .top, .top, .top], [(.cells [(.d (.str (List.getD x0 (Int.toNat s7) (([] : List UInt8), ([] : List UInt8))).1)), (.d (.str (List.getD x0 (Int.toNat s7) (([] : List UInt8), ([] : List UInt8))).2))]), .dead, .dead, .dead, .dead, .dead, .dead, .dead, .dead, .dead, .dead, .dead, .dead, .dead, .dead, .dead, .dead, .dead, .dead, .dead, .dead, .dead, .dead, .dead, .dead, .dead, .dead, .dead, .dead, .dead, .dead, .dead, .dead, .dead, .dead, .dead, .dead, .dead, .dead, .dead, .dead, .dead, .dead, .dead, .dead, .dead, .dead, .dead, .dead, .dead, .dead, .dead, .dead, .dead, .dead, .dead, .dead, .dead, .dead, .dead, .dead, .dead, .dead, .dead, .dead, .dead, .dead, .dead, .dead, .dead, .dead, .dead, .dead, .dead, .dead, .dead, .dead, .dead, .dead, .dead, .dead, .dead, .dead, .dead, .dead, .dead, .dead, .dead, .dead, .dead, .dead, .dead, .dead, .dead, .dead, .dead, .dead, .dead, .dead, .dead, .dead, .dead, .dead, .dead, .dead, .dead, .dead, .dead, .dead, .dead, .dead, .dead, .dead, .dead, .dead, .dead, .dead, .dead, .dead, .dead, .dead])
  | 2 => (.ret, [(.d (.sl (.pair .str .str) x0)), .top, (.d (.bool false)), (.d (.int .i64 s7)), (.ptr 0 0), (.d (.sl (.pair .str .str) x0)), (.d (.int .i64 s6)), (.d (.int .i64 s7)), (.d (.bool (decide (s7 < s6)))), (.d (.int .i64 s7)), (.cptr [(.str (List.getD x0 (Int.toNat s7) (([] : List UInt8), ([] : List UInt8))).1), (.str (List.getD x0 (Int.toNat s7) (([] : List UInt8), ([] : List UInt8))).2)] 0), (.agg [(.d (.str (List.getD x0 (Int.toNat s7) (([] : List UInt8), ([] : List UInt8))).1)), (.d (.str (List.getD x0 (Int.toNat s7) (([] : List UInt8), ([] : List UInt8))).2))]), (.ptr 0 0), (.d (.str (List.getD x0 (Int.toNat s7) (([] : List UInt8), ([] : List UInt8))).1)), (.d (.bool (wordG (List.getD x0 (Int.toNat s7) (([] : List UInt8), ([] : List UInt8))).1))), (.d (.bool (!(wordG (List.getD x0 (Int.toNat s7) (([] : List UInt8), ([] : List UInt8))).1)))), (.d (.bool (!(wordG (List.getD x0 (Int.toNat s7) (([] : List UInt8), ([] : List UInt8))).1)))), (.ptr 0 1), (.d (.str (List.getD x0 (Int.toNat s7) (([] : List UInt8), ([] : List UInt8))).2)), (.d (.bool ((List.getD x0 (Int.toNat s7) (([] : List UInt8), ([] : List UInt8))).2 == ([] : List UInt8)))), (.d (.bool ((List.getD x0 (Int.toNat s7) (([] : List UInt8), ([] : List UInt8))).2 == ([] : List UInt8)))), (.d (.bool ((List.getD x0 (Int.toNat s7) (([] : List UInt8), ([] : List UInt8))).2 == ([] : List UInt8)))), (.ptr 0 1), (.d (.str (List.getD x0 (Int.toNat s7) (([] : List UInt8), ([] : List UInt8))).2)), (.d (.int .i64 (((List.length (List.getD x0 (Int.toNat s7) (([] : List UInt8), ([] : List UInt8))).2) : Nat) : Int))), (.d (.bool (decide ((((List.length (List.getD x0 (Int.toNat s7) (([] : List UInt8), ([] : List UInt8))).2) : Nat) : Int) > 24)))), (.d (.bool (decide ((((List.length (List.getD x0 (Int.toNat s7) (([] : List UInt8), ([] : List UInt8))).2) : Nat) : Int) > 24)))), (.d (.bool (decide ((((List.length (List.getD x0 (Int.toNat s7) (([] : List UInt8), ([] : List UInt8))).2) : Nat) : Int) > 24)))), (.tup []), (.tup []), (.tup []), (.tup []), (.tup []), (.tup []), (.tup []), (.tup []), (.tup []), (.tup []), (.tup []), (.tup []), (.tup []), (.d (.bool true)), .top, .top, .top, .top], [(.cells [(.d (.str (List.getD x0 (Int.toNat s7) (([] : List UInt8), ([] : List UInt8))).1)), (.d (.str (List.getD x0 (Int.toNat s7) (([] : List UInt8), ([] : List UInt8))).2))]), .dead, .dead, .dead, .dead, .dead, .dead, .dead, .dead, .dead, .dead, .dead, .dead, .dead, .dead, .dead, .dead, .dead, .dead, .dead, .dead, .dead, .dead, .dead, .dead, .dead, .dead, .dead, .dead, .dead, .dead, .dead, .dead, .dead, .dead, .dead, .dead, .dead, .dead, .dead, .dead, .dead, .dead, .dead, .dead, .dead, .dead, .dead, .dead, .dead, .dead, .dead, .dead, .dead, .dead, .dead, .dead, .dead, .dead, .dead, .dead, .dead, .dead, .dead, .dead, .dead, .dead, .dead, .dead, .dead, .dead, .dead, .dead, .dead, .dead, .dead, .dead, .dead, .dead, .dead, .dead, .dead, .dead, .dead, .dead, .dead, .dead, .dead, .dead, .dead, .dead, .dead, .dead, .dead, .dead, .dead, .dead, .dead, .dead, .dead, .dead, .dead, .dead, .dead, .dead, .dead, .dead, .dead, .dead, .dead, .dead, .dead, .dead, .dead, .dead, .dead, .dead, .dead, .dead, .dead, .dead])
  | 3 => (.ret, [(.d (.sl (.pair .str .str) x0)), .top, (.d (.bool false)), (.d (.int .i64 s7)), (.ptr 0 0), (.d (.sl (.pair .str .str) x0)), (.d (.int .i64 s6)), (.d (.int .i64 s7)), (.d (.bool (decide (s7 < s6)))), (.d (.int .i64 s7)), (.cptr [(.str (List.getD x0 (Int.toNat s7) (([] : List UInt8), ([] : List UInt8))).1), (.str (List.getD x0 (Int.toNat s7) (([] : List UInt8), ([] : List UInt8))).2)] 0), (.agg [(.d (.str (List.getD x0 (Int.toNat s7) (([] : List UInt8), ([] : List UInt8))).1)), (.d (.str (List.getD x0 (Int.toNat s7) (([] : List UInt8), ([] : List UInt8))).2))]), (.ptr 0 0), (.d (.str (List.getD x0 (Int.toNat s7) (([] : List UInt8), ([] : List UInt8))).1)), (.d (.bool (wordG (List.getD x0 (Int.toNat s7) (([] : List UInt8), ([] : List UInt8))).1))), (.d (.bool (!(wordG (List.getD x0 (Int.toNat s7) (([] : List UInt8), ([] : List UInt8))).1)))), (.d (.bool (!(wordG (List.getD x0 (Int.toNat s7) (([] : List UInt8), ([] : List UInt8))).1)))), (.ptr 0 1), (.d (.str (List.getD x0 (Int.toNat s7) (([] : List UInt8), ([] : List UInt8))).2)), (.d (.bool ((List.getD x0 (Int.toNat s7) (([] : List UInt8), ([] : List UInt8))).2 == ([] : List UInt8)))), (.d (.bool ((List.getD x0 (Int.toNat s7) (([] : List UInt8), ([] : List UInt8))).2 == ([] : List UInt8)))), (.d (.bool ((List.getD x0 (Int.toNat s7) (([] : List UInt8), ([] : List UInt8))).2 == ([] : List UInt8)))), (.ptr 0 1), (.d (.str (List.getD x0 (Int.toNat s7) (([] : List UInt8), ([] : List UInt8))).2)), (.d (.int .i64 (((List.length (List.getD x0 (Int.toNat s7) (([] : List UInt8), ([] : List UInt8))).2) : Nat) : Int))), (.d (.bool (decide ((((List.length (List.getD x0 (Int.toNat s7) (([] : List UInt8), ([] : List UInt8))).2) : Nat) : Int) > 24)))), (.d (.bool (decide ((((List.length (List.getD x0 (Int.toNat s7) (([] : List UInt8), ([] : List UInt8))).2) : Nat) : Int) > 24)))), (.d (.bool (decide ((((List.length (List.getD x0 (Int.toNat s7) (([] : List UInt8), ([] : List UInt8))).2) : Nat) : Int) > 24)))), (.d (.int .i64 s7)), (.d (.bool (decide (s7 > 0)))), (.d (.bool (decide (s7 > 0)))), (.d (.sl (.pair .str .str) x0)), (.d (.int .i64 s7)), (.d (.int .i64 (IntKind.wrap .i64 (s7 - (1))))), (.cptr [(.str (List.getD x0 (Int.toNat (IntKind.wrap .i64 (s7 - (1)))) (([] : List UInt8), ([] : List UInt8))).1), (.str (List.getD x0 (Int.toNat (IntKind.wrap .i64 (s7 - (1)))) (([] : List UInt8), ([] : List UInt8))).2)] 0), (.cptr [(.str (List.getD x0 (Int.toNat (IntKind.wrap .i64 (s7 - (1)))) (([] : List UInt8), ([] : List UInt8))).1), (.str (List.getD x0 (Int.toNat (IntKind.wrap .i64 (s7 - (1)))) (([] : List UInt8), ([] : List UInt8))).2)] 0), (.d (.str (List.getD x0 (Int.toNat (IntKind.wrap .i64 (s7 - (1)))) (([] : List UInt8), ([] : List UInt8))).1)), (.ptr 0 0), (.d (.str (List.getD x0 (Int.toNat s7) (([] : List UInt8), ([] : List UInt8))).1)), (.d (.bool (!(Op.bytesLess (List.getD x0 (Int.toNat (IntKind.wrap .i64 (s7 - (1)))) (([] : List UInt8), ([] : List UInt8))).1 (List.getD x0 (Int.toNat s7) (([] : List UInt8), ([] : List UInt8))).1)))), (.d (.bool (!(Op.bytesLess (List.getD x0 (Int.toNat (IntKind.wrap .i64 (s7 - (1)))) (([] : List UInt8), ([] : List UInt8))).1 (List.getD x0 (Int.toNat s7) (([] : List UInt8), ([] : List UInt8))).1)))), (.d (.bool (!(Op.bytesLess (List.getD x0 (Int.toNat (IntKind.wrap .i64 (s7 - (1)))) (([] : List UInt8), ([] : List UInt8))).1 (List.getD x0 (Int.toNat s7) (([] : List UInt8), ([] : List UInt8))).1)))), .top, .top, .top, .top], [(.cells [(.d (.str (List.getD x0 (Int.toNat s7) (([] : List UInt8), ([] : List UInt8))).1)), (.d (.str (List.getD x0 (Int.toNat s7) (([] : List UInt8), ([] : List UInt8))).2))]), .dead, .dead, .dead, .dead, .dead, .dead, .dead, .dead, .dead, .dead, .dead, .dead, .dead, .dead, .dead, .dead, .dead, .dead, .dead, .dead, .dead, .dead, .dead, .dead, .dead, .dead, .dead, .dead, .dead, .dead, .dead, .dead, .dead, .dead, .dead, .dead, .dead, .dead, .dead, .dead, .dead, .dead, .dead, .dead, .dead, .dead, .dead, .dead, .dead, .dead, .dead, .dead, .dead, .dead, .dead, .dead, .dead, .dead, .dead, .dead, .dead, .dead, .dead, .dead, .dead, .dead, .dead, .dead, .dead, .dead, .dead, .dead, .dead, .dead, .dead, .dead, .dead, .dead, .dead, .dead, .dead, .dead, .dead, .dead, .dead, .dead, .dead, .dead, .dead, .dead, .dead, .dead, .dead, .dead, .dead, .dead, .dead, .dead, .dead, .dead, .dead, .dead, .dead, .dead, .dead, .dead, .dead, .dead, .dead, .dead, .dead, .dead, .dead, .dead, .dead, .dead, .dead, .dead, .dead, .dead])
  | _ => (.exit 0, [(.d (.sl (.pair .str .str) x0)), .top, .top, .top, .top, (.d (.sl (.pair .str .str) x0)), (.d (.int .i64 s6)), (.d (.int .i64 s7)), (.d (.bool (decide (s7 < s6)))), .top, .top, .top, .top, .top, .top, .top, .top, .top, .top, .top, .top, .top, .top, .top, .top, .top, .top, .top, .top, .top, .top, .top, .top, .top, .top, .top, .top, .top, .top, .top, .top, .top, .top, .top, .top, .top], [])
noncomputable def lbl11_0 : AC := loopBody 225 body11

set_option maxHeartbeats 20000000 in
theorem l11_0_w0 (m n : Nat) (x0 : List ((List UInt8) × (List UInt8))) (s6 : Int) (s7 : Int) (c0 : decide (s7 < s6) = true) (c1 : decide (0 ≤ s7) = true) (c2 : decide (s7 < (((List.length x0) : Nat) : Int)) = true) (c3 : decide (List.length (List.getD x0 (Int.toNat s7) (([] : List UInt8), ([] : List UInt8))).1 ≤ 9223372036854775807) = true) (c4 : (wordG (List.getD x0 (Int.toNat s7) (([] : List UInt8), ([] : List UInt8))).1) = true) (c8 : ((List.getD x0 (Int.toNat s7) (([] : List UInt8), ([] : List UInt8))).2 == ([] : List UInt8)) = true) : (turns (hds 11 225) 0 225 (evC byref (evCall F S11 (m + 24)) (m + 24) 0 (hds 11) lbl11_0) (n + 1) (l11_0H x0 s6 s7) (l11_0B x0 s6 s7)).run = some (let r1 := (wordG (List.getD x0 (Int.toNat s7) (([] : List UInt8), ([] : List UInt8))).1); (.ret, [(.d (.sl (.pair .str .str) x0)), .top, (.d (.bool false)), (.d (.int .i64 s7)), (.ptr 0 0), (.d (.sl (.pair .str .str) x0)), (.d (.int .i64 s6)), (.d (.int .i64 s7)), (.d (.bool (decide (s7 < s6)))), (.d (.int .i64 s7)), (.cptr [(.str (List.getD x0 (Int.toNat s7) (([] : List UInt8), ([] : List UInt8))).1), (.str (List.getD x0 (Int.toNat s7) (([] : List UInt8), ([] : List UInt8))).2)] 0), (.agg [(.d (.str (List.getD x0 (Int.toNat s7) (([] : List UInt8), ([] : List UInt8))).1)), (.d (.str (List.getD x0 (Int.toNat s7) (([] : List UInt8), ([] : List UInt8))).2))]), (.ptr 0 0), (.d (.str (List.getD x0 (Int.toNat s7) (([] : List UInt8), ([] : List UInt8))).1)), (.d (.bool r1)), (.d (.bool (!r1))), (.d (.bool (!r1))), (.ptr 0 1), (.d (.str (List.getD x0 (Int.toNat s7) (([] : List UInt8), ([] : List UInt8))).2)), (.d (.bool ((List.getD x0 (Int.toNat s7) (([] : List UInt8), ([] : List UInt8))).2 == ([] : List UInt8)))), (.d (.bool ((List.getD x0 (Int.toNat s7) (([] : List UInt8), ([] : List UInt8))).2 == ([] : List UInt8)))), (.d (.bool ((List.getD x0 (Int.toNat s7) (([] : List UInt8), ([] : List UInt8))).2 == ([] : List UInt8)))), (.tup []), (.tup []), (.tup []), (.tup []), (.d (.bool true)), (.d (.bool true)), (.tup []), (.tup []), (.tup []), (.tup []), (.tup []), (.tup []), (.tup []), (.tup []), (.tup []), (.tup []), (.tup []), (.tup []), (.tup []), (.d (.bool true)), .top, .top, .top, .top], [(.cells [(.d (.str (List.getD x0 (Int.toNat s7) (([] : List UInt8), ([] : List UInt8))).1)), (.d (.str (List.getD x0 (Int.toNat s7) (([] : List UInt8), ([] : List UInt8))).2))]), .dead, .dead, .dead, .dead, .dead, .dead, .dead, .dead, .dead, .dead, .dead, .dead, .dead, .dead, .dead, .dead, .dead, .dead, .dead, .dead, .dead, .dead, .dead, .dead, .dead, .dead, .dead, .dead, .dead, .dead, .dead, .dead, .dead, .dead, .dead, .dead, .dead, .dead, .dead, .dead, .dead, .dead, .dead, .dead, .dead, .dead, .dead, .dead, .dead, .dead, .dead, .dead, .dead, .dead, .dead, .dead, .dead, .dead, .dead, .dead, .dead, .dead, .dead, .dead, .dead, .dead, .dead, .dead, .dead, .dead, .dead, .dead, .dead, .dead, .dead, .dead, .dead, .dead, .dead, .dead, .dead, .dead, .dead, .dead, .dead, .dead, .dead, .dead, .dead, .dead, .dead, .dead, .dead, .dead, .dead, .dead, .dead, .dead, .dead, .dead, .dead, .dead, .dead, .dead, .dead, .dead, .dead, .dead, .dead, .dead, .dead, .dead, .dead, .dead, .dead, .dead, .dead, .dead, .dead, .dead])) := by
  exact turns_last (by simp) (M.run_of_path _ [true, true, true, true, false, false, false, false, true, true, true, true, true, true, true, true, true, true, true] _ _ (by kernel_rfl) (all_t c0 (all_t c1 (all_t c2 (all_t c3 (all_nt c4 (all_nt c4 (all_nt c4 (all_nt c4 (all_t c8 (all_t c8 (all_t c8 (all_t c8 (all_t c8 (all_t rfl (all_t rfl (all_t rfl (all_t rfl (all_t rfl (all_t rfl all_nil)))))))))))))))))))) 
set_option maxHeartbeats 20000000 in
theorem l11_0_w1 (m n : Nat) (x0 : List ((List UInt8) × (List UInt8))) (s6 : Int) (s7 : Int) (c0 : decide (s7 < s6) = true) (c1 : decide (0 ≤ s7) = true) (c2 : decide (s7 < (((List.length x0) : Nat) : Int)) = true) (c3 : decide (List.length (List.getD x0 (Int.toNat s7) (([] : List UInt8), ([] : List UInt8))).1 ≤ 9223372036854775807) = true) (c4 : (wordG (List.getD x0 (Int.toNat s7) (([] : List UInt8), ([] : List UInt8))).1) = true) (c8 : ¬ ((List.getD x0 (Int.toNat s7) (([] : List UInt8), ([] : List UInt8))).2 == ([] : List UInt8)) = true) (c13 : decide ((((List.length (List.getD x0 (Int.toNat s7) (([] : List UInt8), ([] : List UInt8))).2) : Nat) : Int) > 24) = true) : (turns (hds 11 225) 0 225 (evC byref (evCall F S11 (m + 24)) (m + 24) 0 (hds 11) lbl11_0) (n + 1) (l11_0H x0 s6 s7) (l11_0B x0 s6 s7)).run = some (let r1 := (wordG (List.getD x0 (Int.toNat s7) (([] : List UInt8), ([] : List UInt8))).1); (.ret, [(.d (.sl (.pair .str .str) x0)), .top, (.d (.bool false)), (.d (.int .i64 s7)), (.ptr 0 0), (.d (.sl (.pair .str .str) x0)), (.d (.int .i64 s6)), (.d (.int .i64 s7)), (.d (.bool (decide (s7 < s6)))), (.d (.int .i64 s7)), (.cptr [(.str (List.getD x0 (Int.toNat s7) (([] : List UInt8), ([] : List UInt8))).1), (.str (List.getD x0 (Int.toNat s7) (([] : List UInt8), ([] : List UInt8))).2)] 0), (.agg [(.d (.str (List.getD x0 (Int.toNat s7) (([] : List UInt8), ([] : List UInt8))).1)), (.d (.str (List.getD x0 (Int.toNat s7) (([] : List UInt8), ([] : List UInt8))).2))]), (.ptr 0 0), (.d (.str (List.getD x0 (Int.toNat s7) (([] : List UInt8), ([] : List UInt8))).1)), (.d (.bool r1)), (.d (.bool (!r1))), (.d (.bool (!r1))), (.ptr 0 1), (.d (.str (List.getD x0 (Int.toNat s7) (([] : List UInt8), ([] : List UInt8))).2)), (.d (.bool ((List.getD x0 (Int.toNat s7) (([] : List UInt8), ([] : List UInt8))).2 == ([] : List UInt8)))), (.d (.bool ((List.getD x0 (Int.toNat s7) (([] : List UInt8), ([] : List UInt8))).2 == ([] : List UInt8)))), (.d (.bool ((List.getD x0 (Int.toNat s7) (([] : List UInt8), ([] : List UInt8))).2 == ([] : List UInt8)))), (.ptr 0 1), (.d (.str (List.getD x0 (Int.toNat s7) (([] : List UInt8), ([] : List UInt8))).2)), (.d (.int .i64 (((List.length (List.getD x0 (Int.toNat s7) (([] : List UInt8), ([] : List UInt8))).2) : Nat) : Int))), (.d (.bool (decide ((((List.length (List.getD x0 (Int.toNat s7) (([] : List UInt8), ([] : List UInt8))).2) : Nat) : Int) > 24)))), (.d (.bool (decide ((((List.length (List.getD x0 (Int.toNat s7) (([] : List UInt8), ([] : List UInt8))).2) : Nat) : Int) > 24)))), (.d (.bool (decide ((((List.length (List.getD x0 (Int.toNat s7) (([] : List UInt8), ([] : List UInt8))).2) : Nat) : Int) > 24)))), (.tup []), (.tup []), (.tup []), (.tup []), (.tup []), (.tup []), (.tup []), (.tup []), (.tup []), (.tup []), (.tup []), (.tup []), (.tup []), (.d (.bool true)), .top, .top, .top, .top], [(.cells [(.d (.str (List.getD x0 (Int.toNat s7) (([] : List UInt8), ([] : List UInt8))).1)), (.d (.str (List.getD x0 (Int.toNat s7) (([] : List UInt8), ([] : List UInt8))).2))]), .dead, .dead, .dead, .dead, .dead, .dead, .dead, .dead, .dead, .dead, .dead, .dead, .dead, .dead, .dead, .dead, .dead, .dead, .dead, .dead, .dead, .dead, .dead, .dead, .dead, .dead, .dead, .dead, .dead, .dead, .dead, .dead, .dead, .dead, .dead, .dead, .dead, .dead, .dead, .dead, .dead, .dead, .dead, .dead, .dead, .dead, .dead, .dead, .dead, .dead, .dead, .dead, .dead, .dead, .dead, .dead, .dead, .dead, .dead, .dead, .dead, .dead, .dead, .dead, .dead, .dead, .dead, .dead, .dead, .dead, .dead, .dead, .dead, .dead, .dead, .dead, .dead, .dead, .dead, .dead, .dead, .dead, .dead, .dead, .dead, .dead, .dead, .dead, .dead, .dead, .dead, .dead, .dead, .dead, .dead, .dead, .dead, .dead, .dead, .dead, .dead, .dead, .dead, .dead, .dead, .dead, .dead, .dead, .dead, .dead, .dead, .dead, .dead, .dead, .dead, .dead, .dead, .dead, .dead, .dead])) := by
  exact turns_last (by simp) (M.run_of_path _ [true, true, true, true, false, false, false, false, false, false, false, false, false, true, true, true, true, true, true] _ _ (by kernel_rfl) (all_t c0 (all_t c1 (all_t c2 (all_t c3 (all_nt c4 (all_nt c4 (all_nt c4 (all_nt c4 (all_f c8 (all_f c8 (all_f c8 (all_f c8 (all_f c8 (all_t c13 (all_t c13 (all_t c13 (all_t c13 (all_t c13 (all_t rfl all_nil)))))))))))))))))))) 
set_option maxHeartbeats 20000000 in
theorem l11_0_w2 (m n : Nat) (x0 : List ((List UInt8) × (List UInt8))) (s6 : Int) (s7 : Int) (r : AEx × Env × Boxes) (c0 : decide (s7 < s6) = true) (c1 : decide (0 ≤ s7) = true) (c2 : decide (s7 < (((List.length x0) : Nat) : Int)) = true) (c3 : decide (List.length (List.getD x0 (Int.toNat s7) (([] : List UInt8), ([] : List UInt8))).1 ≤ 9223372036854775807) = true) (c4 : (wordG (List.getD x0 (Int.toNat s7) (([] : List UInt8), ([] : List UInt8))).1) = true) (c8 : ¬ ((List.getD x0 (Int.toNat s7) (([] : List UInt8), ([] : List UInt8))).2 == ([] : List UInt8)) = true) (c13 : ¬ decide ((((List.length (List.getD x0 (Int.toNat s7) (([] : List UInt8), ([] : List UInt8))).2) : Nat) : Int) > 24) = true) (c16 : decide (s7 > 0) = true) (c20 : decide (0 ≤ (IntKind.wrap .i64 (s7 - (1)))) = true) (c21 : decide ((IntKind.wrap .i64 (s7 - (1))) < (((List.length x0) : Nat) : Int)) = true) (c30 : (Op.bytesLess (List.getD x0 (Int.toNat (IntKind.wrap .i64 (s7 - (1)))) (([] : List UInt8), ([] : List UInt8))).1 (List.getD x0 (Int.toNat s7) (([] : List UInt8), ([] : List UInt8))).1) = true) (ih : (turns (hds 11 225) 0 225 (evC byref (evCall F S11 (m + 24)) (m + 24) 0 (hds 11) lbl11_0) n (l11_0H x0 s6 ((IntKind.wrap .i64 (s7 + (1))))) (l11_0B x0 s6 ((IntKind.wrap .i64 (s7 + (1)))))).run = some r) : (turns (hds 11 225) 0 225 (evC byref (evCall F S11 (m + 24)) (m + 24) 0 (hds 11) lbl11_0) (n + 1) (l11_0H x0 s6 s7) (l11_0B x0 s6 s7)).run = some r := by
  exact turns_step (M.run_of_path _ [true, true, true, true, false, false, false, false, false, false, false, false, false, false, false, false, true, true, true, true, true, true, true, true, true, true, true, false, true, false, false] _ _ (by kernel_rfl) (all_t c0 (all_t c1 (all_t c2 (all_t c3 (all_nt c4 (all_nt c4 (all_nt c4 (all_nt c4 (all_f c8 (all_f c8 (all_f c8 (all_f c8 (all_f c8 (all_f c13 (all_f c13 (all_f c13 (all_t c16 (all_t c16 (all_t c16 (all_t c16 (all_t c20 (all_t c21 (all_t c16 (all_t c16 (all_t c16 (all_t c16 (all_t c16 (all_f c13 (all_t c16 (all_f c13 (all_nt c30 all_nil)))))))))))))))))))))))))))))))) ih
set_option maxHeartbeats 20000000 in
theorem l11_0_w3 (m n : Nat) (x0 : List ((List UInt8) × (List UInt8))) (s6 : Int) (s7 : Int) (c0 : decide (s7 < s6) = true) (c1 : decide (0 ≤ s7) = true) (c2 : decide (s7 < (((List.length x0) : Nat) : Int)) = true) (c3 : decide (List.length (List.getD x0 (Int.toNat s7) (([] : List UInt8), ([] : List UInt8))).1 ≤ 9223372036854775807) = true) (c4 : (wordG (List.getD x0 (Int.toNat s7) (([] : List UInt8), ([] : List UInt8))).1) = true) (c8 : ¬ ((List.getD x0 (Int.toNat s7) (([] : List UInt8), ([] : List UInt8))).2 == ([] : List UInt8)) = true) (c13 : ¬ decide ((((List.length (List.getD x0 (Int.toNat s7) (([] : List UInt8), ([] : List UInt8))).2) : Nat) : Int) > 24) = true) (c16 : decide (s7 > 0) = true) (c20 : decide (0 ≤ (IntKind.wrap .i64 (s7 - (1)))) = true) (c21 : decide ((IntKind.wrap .i64 (s7 - (1))) < (((List.length x0) : Nat) : Int)) = true) (c30 : ¬ (Op.bytesLess (List.getD x0 (Int.toNat (IntKind.wrap .i64 (s7 - (1)))) (([] : List UInt8), ([] : List UInt8))).1 (List.getD x0 (Int.toNat s7) (([] : List UInt8), ([] : List UInt8))).1) = true) : (turns (hds 11 225) 0 225 (evC byref (evCall F S11 (m + 24)) (m + 24) 0 (hds 11) lbl11_0) (n + 1) (l11_0H x0 s6 s7) (l11_0B x0 s6 s7)).run = some (let r1 := (wordG (List.getD x0 (Int.toNat s7) (([] : List UInt8), ([] : List UInt8))).1); (.ret, [(.d (.sl (.pair .str .str) x0)), .top, (.d (.bool false)), (.d (.int .i64 s7)), (.ptr 0 0), (.d (.sl (.pair .str .str) x0)), (.d (.int .i64 s6)), (.d (.int .i64 s7)), (.d (.bool (decide (s7 < s6)))), (.d (.int .i64 s7)), (.cptr [(.str (List.getD x0 (Int.toNat s7) (([] : List UInt8), ([] : List UInt8))).1), (.str (List.getD x0 (Int.toNat s7) (([] : List UInt8), ([] : List UInt8))).2)] 0), (.agg [(.d (.str (List.getD x0 (Int.toNat s7) (([] : List UInt8), ([] : List UInt8))).1)), (.d (.str (List.getD x0 (Int.toNat s7) (([] : List UInt8), ([] : List UInt8))).2))]), (.ptr 0 0), (.d (.str (List.getD x0 (Int.toNat s7) (([] : List UInt8), ([] : List UInt8))).1)), (.d (.bool r1)), (.d (.bool (!r1))), (.d (.bool (!r1))), (.ptr 0 1), (.d (.str (List.getD x0 (Int.toNat s7) (([] : List UInt8), ([] : List UInt8))).2)), (.d (.bool ((List.getD x0 (Int.toNat s7) (([] : List UInt8), ([] : List UInt8))).2 == ([] : List UInt8)))), (.d (.bool ((List.getD x0 (Int.toNat s7) (([] : List UInt8), ([] : List UInt8))).2 == ([] : List UInt8)))), (.d (.bool ((List.getD x0 (Int.toNat s7) (([] : List UInt8), ([] : List UInt8))).2 == ([] : List UInt8)))), (.ptr 0 1), (.d (.str (List.getD x0 (Int.toNat s7) (([] : List UInt8), ([] : List UInt8))).2)), (.d (.int .i64 (((List.length (List.getD x0 (Int.toNat s7) (([] : List UInt8), ([] : List UInt8))).2) : Nat) : Int))), (.d (.bool (decide ((((List.length (List.getD x0 (Int.toNat s7) (([] : List UInt8), ([] : List UInt8))).2) : Nat) : Int) > 24)))), (.d (.bool (decide ((((List.length (List.getD x0 (Int.toNat s7) (([] : List UInt8), ([] : List UInt8))).2) : Nat) : Int) > 24)))), (.d (.bool (decide ((((List.length (List.getD x0 (Int.toNat s7) (([] : List UInt8), ([] : List UInt8))).2) : Nat) : Int) > 24)))), (.d (.int .i64 s7)), (.d (.bool (decide (s7 > 0)))), (.d (.bool (decide (s7 > 0)))), (.d (.sl (.pair .str .str) x0)), (.d (.int .i64 s7)), (.d (.int .i64 (IntKind.wrap .i64 (s7 - (1))))), (.cptr [(.str (List.getD x0 (Int.toNat (IntKind.wrap .i64 (s7 - (1)))) (([] : List UInt8), ([] : List UInt8))).1), (.str (List.getD x0 (Int.toNat (IntKind.wrap .i64 (s7 - (1)))) (([] : List UInt8), ([] : List UInt8))).2)] 0), (.cptr [(.str (List.getD x0 (Int.toNat (IntKind.wrap .i64 (s7 - (1)))) (([] : List UInt8), ([] : List UInt8))).1), (.str (List.getD x0 (Int.toNat (IntKind.wrap .i64 (s7 - (1)))) (([] : List UInt8), ([] : List UInt8))).2)] 0), (.d (.str (List.getD x0 (Int.toNat (IntKind.wrap .i64 (s7 - (1)))) (([] : List UInt8), ([] : List UInt8))).1)), (.ptr 0 0), (.d (.str (List.getD x0 (Int.toNat s7) (([] : List UInt8), ([] : List UInt8))).1)), (.d (.bool (!(Op.bytesLess (List.getD x0 (Int.toNat (IntKind.wrap .i64 (s7 - (1)))) (([] : List UInt8), ([] : List UInt8))).1 (List.getD x0 (Int.toNat s7) (([] : List UInt8), ([] : List UInt8))).1)))), (.d (.bool (!(Op.bytesLess (List.getD x0 (Int.toNat (IntKind.wrap .i64 (s7 - (1)))) (([] : List UInt8), ([] : List UInt8))).1 (List.getD x0 (Int.toNat s7) (([] : List UInt8), ([] : List UInt8))).1)))), (.d (.bool (!(Op.bytesLess (List.getD x0 (Int.toNat (IntKind.wrap .i64 (s7 - (1)))) (([] : List UInt8), ([] : List UInt8))).1 (List.getD x0 (Int.toNat s7) (([] : List UInt8), ([] : List UInt8))).1)))), .top, .top, .top, .top], [(.cells [(.d (.str (List.getD x0 (Int.toNat s7) (([] : List UInt8), ([] : List UInt8))).1)), (.d (.str (List.getD x0 (Int.toNat s7) (([] : List UInt8), ([] : List UInt8))).2))]), .dead, .dead, .dead, .dead, .dead, .dead, .dead, .dead, .dead, .dead, .dead, .dead, .dead, .dead, .dead, .dead, .dead, .dead, .dead, .dead, .dead, .dead, .dead, .dead, .dead, .dead, .dead, .dead, .dead, .dead, .dead, .dead, .dead, .dead, .dead, .dead, .dead, .dead, .dead, .dead, .dead, .dead, .dead, .dead, .dead, .dead, .dead, .dead, .dead, .dead, .dead, .dead, .dead, .dead, .dead, .dead, .dead, .dead, .dead, .dead, .dead, .dead, .dead, .dead, .dead, .dead, .dead, .dead, .dead, .dead, .dead, .dead, .dead, .dead, .dead, .dead, .dead, .dead, .dead, .dead, .dead, .dead, .dead, .dead, .dead, .dead, .dead, .dead, .dead, .dead, .dead, .dead, .dead, .dead, .dead, .dead, .dead, .dead, .dead, .dead, .dead, .dead, .dead, .dead, .dead, .dead, .dead, .dead, .dead, .dead, .dead, .dead, .dead, .dead, .dead, .dead, .dead, .dead, .dead, .dead])) := by
  exact turns_last (by simp) (M.run_of_path _ [true, true, true, true, false, false, false, false, false, false, false, false, false, false, false, false, true, true, true, true, true, true, true, true, true, true, true, false, true, false, true] _ _ (by kernel_rfl) (all_t c0 (all_t c1 (all_t c2 (all_t c3 (all_nt c4 (all_nt c4 (all_nt c4 (all_nt c4 (all_f c8 (all_f c8 (all_f c8 (all_f c8 (all_f c8 (all_f c13 (all_f c13 (all_f c13 (all_t c16 (all_t c16 (all_t c16 (all_t c16 (all_t c20 (all_t c21 (all_t c16 (all_t c16 (all_t c16 (all_t c16 (all_t c16 (all_f c13 (all_t c16 (all_f c13 (all_nf c30 all_nil)))))))))))))))))))))))))))))))) 
set_option maxHeartbeats 20000000 in
theorem l11_0_w4 (m n : Nat) (x0 : List ((List UInt8) × (List UInt8))) (s6 : Int) (s7 : Int) (r : AEx × Env × Boxes) (c0 : decide (s7 < s6) = true) (c1 : decide (0 ≤ s7) = true) (c2 : decide (s7 < (((List.length x0) : Nat) : Int)) = true) (c3 : decide (List.length (List.getD x0 (Int.toNat s7) (([] : List UInt8), ([] : List UInt8))).1 ≤ 9223372036854775807) = true) (c4 : (wordG (List.getD x0 (Int.toNat s7) (([] : List UInt8), ([] : List UInt8))).1) = true) (c8 : ¬ ((List.getD x0 (Int.toNat s7) (([] : List UInt8), ([] : List UInt8))).2 == ([] : List UInt8)) = true) (c13 : ¬ decide ((((List.length (List.getD x0 (Int.toNat s7) (([] : List UInt8), ([] : List UInt8))).2) : Nat) : Int) > 24) = true) (c16 : ¬ decide (s7 > 0) = true) (ih : (turns (hds 11 225) 0 225 (evC byref (evCall F S11 (m + 24)) (m + 24) 0 (hds 11) lbl11_0) n (l11_0H x0 s6 ((IntKind.wrap .i64 (s7 + (1))))) (l11_0B x0 s6 ((IntKind.wrap .i64 (s7 + (1)))))).run = some r) : (turns (hds 11 225) 0 225 (evC byref (evCall F S11 (m + 24)) (m + 24) 0 (hds 11) lbl11_0) (n + 1) (l11_0H x0 s6 s7) (l11_0B x0 s6 s7)).run = some r := by
  exact turns_step (M.run_of_path _ [true, true, true, true, false, false, false, false, false, false, false, false, false, false, false, false, false, false, false, false, false, false, false, false, false, false, false, false, false] _ _ (by kernel_rfl) (all_t c0 (all_t c1 (all_t c2 (all_t c3 (all_nt c4 (all_nt c4 (all_nt c4 (all_nt c4 (all_f c8 (all_f c8 (all_f c8 (all_f c8 (all_f c8 (all_f c13 (all_f c13 (all_f c13 (all_f c16 (all_f c16 (all_f c16 (all_f c16 (all_f c16 (all_f c16 (all_f c16 (all_f c16 (all_f c16 (all_f c13 (all_f c16 (all_f c13 (all_f Bool.false_ne_true all_nil)))))))))))))))))))))))))))))) ih
set_option maxHeartbeats 20000000 in
theorem l11_0_w5 (m n : Nat) (x0 : List ((List UInt8) × (List UInt8))) (s6 : Int) (s7 : Int) (c0 : decide (s7 < s6) = true) (c1 : decide (0 ≤ s7) = true) (c2 : decide (s7 < (((List.length x0) : Nat) : Int)) = true) (c3 : decide (List.length (List.getD x0 (Int.toNat s7) (([] : List UInt8), ([] : List UInt8))).1 ≤ 9223372036854775807) = true) (c4 : ¬ (wordG (List.getD x0 (Int.toNat s7) (([] : List UInt8), ([] : List UInt8))).1) = true) : (turns (hds 11 225) 0 225 (evC byref (evCall F S11 (m + 24)) (m + 24) 0 (hds 11) lbl11_0) (n + 1) (l11_0H x0 s6 s7) (l11_0B x0 s6 s7)).run = some (let r1 := (wordG (List.getD x0 (Int.toNat s7) (([] : List UInt8), ([] : List UInt8))).1); (.ret, [(.d (.sl (.pair .str .str) x0)), .top, (.d (.bool false)), (.d (.int .i64 s7)), (.ptr 0 0), (.d (.sl (.pair .str .str) x0)), (.d (.int .i64 s6)), (.d (.int .i64 s7)), (.d (.bool (decide (s7 < s6)))), (.d (.int .i64 s7)), (.cptr [(.str (List.getD x0 (Int.toNat s7) (([] : List UInt8), ([] : List UInt8))).1), (.str (List.getD x0 (Int.toNat s7) (([] : List UInt8), ([] : List UInt8))).2)] 0), (.agg [(.d (.str (List.getD x0 (Int.toNat s7) (([] : List UInt8), ([] : List UInt8))).1)), (.d (.str (List.getD x0 (Int.toNat s7) (([] : List UInt8), ([] : List UInt8))).2))]), (.ptr 0 0), (.d (.str (List.getD x0 (Int.toNat s7) (([] : List UInt8), ([] : List UInt8))).1)), (.d (.bool r1)), (.d (.bool (!r1))), (.d (.bool (!r1))), (.tup []), (.tup []), (.tup []), (.d (.bool true)), (.d (.bool true)), (.tup []), (.tup []), (.tup []), (.tup []), (.d (.bool true)), (.d (.bool true)), (.tup []), (.tup []), (.tup []), (.tup []), (.tup []), (.tup []), (.tup []), (.tup []), (.tup []), (.tup []), (.tup []), (.tup []), (.tup []), (.d (.bool true)), .top, .top, .top, .top], [(.cells [(.d (.str (List.getD x0 (Int.toNat s7) (([] : List UInt8), ([] : List UInt8))).1)), (.d (.str (List.getD x0 (Int.toNat s7) (([] : List UInt8), ([] : List UInt8))).2))]), .dead, .dead, .dead, .dead, .dead, .dead, .dead, .dead, .dead, .dead, .dead, .dead, .dead, .dead, .dead, .dead, .dead, .dead, .dead, .dead, .dead, .dead, .dead, .dead, .dead, .dead, .dead, .dead, .dead, .dead, .dead, .dead, .dead, .dead, .dead, .dead, .dead, .dead, .dead, .dead, .dead, .dead, .dead, .dead, .dead, .dead, .dead, .dead, .dead, .dead, .dead, .dead, .dead, .dead, .dead, .dead, .dead, .dead, .dead, .dead, .dead, .dead, .dead, .dead, .dead, .dead, .dead, .dead, .dead, .dead, .dead, .dead, .dead, .dead, .dead, .dead, .dead, .dead, .dead, .dead, .dead, .dead, .dead, .dead, .dead, .dead, .dead, .dead, .dead, .dead, .dead, .dead, .dead, .dead, .dead, .dead, .dead, .dead, .dead, .dead, .dead, .dead, .dead, .dead, .dead, .dead, .dead, .dead, .dead, .dead, .dead, .dead, .dead, .dead, .dead, .dead, .dead, .dead, .dead, .dead])) := by
  exact turns_last (by simp) (M.run_of_path _ [true, true, true, true, true, true, true, true, true, true, true, true, true, true, true, true, true, true, true] _ _ (by kernel_rfl) (all_t c0 (all_t c1 (all_t c2 (all_t c3 (all_nf c4 (all_nf c4 (all_nf c4 (all_nf c4 (all_t rfl (all_t rfl (all_t rfl (all_t rfl (all_t rfl (all_t rfl (all_t rfl (all_t rfl (all_t rfl (all_t rfl (all_t rfl all_nil)))))))))))))))))))) 
set_option maxHeartbeats 20000000 in
theorem l11_0_w6 (m n : Nat) (x0 : List ((List UInt8) × (List UInt8))) (s6 : Int) (s7 : Int) (c0 : ¬ decide (s7 < s6) = true) : (turns (hds 11 225) 0 225 (evC byref (evCall F S11 (m + 24)) (m + 24) 0 (hds 11) lbl11_0) (n + 1) (l11_0H x0 s6 s7) (l11_0B x0 s6 s7)).run = some (.exit 0, [(.d (.sl (.pair .str .str) x0)), .top, .top, .top, .top, (.d (.sl (.pair .str .str) x0)), (.d (.int .i64 s6)), (.d (.int .i64 s7)), (.d (.bool (decide (s7 < s6)))), .top, .top, .top, .top, .top, .top, .top, .top, .top, .top, .top, .top, .top, .top, .top, .top, .top, .top, .top, .top, .top, .top, .top, .top, .top, .top, .top, .top, .top, .top, .top, .top, .top, .top, .top, .top, .top], []) := by
  exact turns_last (by simp) (M.run_of_path _ [false] _ _ (by kernel_rfl) (all_f c0 all_nil)) 

set_option maxHeartbeats 20000000 in
theorem l11_0_step (m n : Nat) (ih : ∀ (x0 : List ((List UInt8) × (List UInt8))) (s6 : Int) (s7 : Int) (q : Nat × Int), l11_0 m n x0 s6 s7 = some q → (turns (hds 11 225) 0 225 (evC byref (evCall F S11 (m + 24)) (m + 24) 0 (hds 11) lbl11_0) n (l11_0H x0 s6 s7) (l11_0B x0 s6 s7)).run = some (l11_0E (x0) (s6) (q.2) q.1)) (x0 : List ((List UInt8) × (List UInt8))) (s6 : Int) (s7 : Int) (q : Nat × Int) (h : l11_0 m (n + 1) x0 s6 s7 = some q) : (turns (hds 11 225) 0 225 (evC byref (evCall F S11 (m + 24)) (m + 24) 0 (hds 11) lbl11_0) (n + 1) (l11_0H x0 s6 s7) (l11_0B x0 s6 s7)).run = some (l11_0E (x0) (s6) (q.2) q.1) := by
  rw [l11_0] at h
  refine ite_cases h (fun c0 h => ?_) (fun c0 h => ?_)
  · skip
    refine ite_cases h (fun c1 h => ?_) (fun c1 h => ?_)
    · skip
      refine ite_cases h (fun c2 h => ?_) (fun c2 h => ?_)
      · skip
        refine ite_cases h (fun c3 h => ?_) (fun c3 h => ?_)
        · skip
          refine ite_cases h (fun c4 h => ?_) (fun c4 h => ?_)
          · skip
            refine ite_cases h (fun c8 h => ?_) (fun c8 h => ?_)
            · skip
              cases h
              exact l11_0_w0 m n x0 s6 s7 c0 c1 c2 c3 c4 c8
            · skip
              refine ite_cases h (fun c13 h => ?_) (fun c13 h => ?_)
              · skip
                cases h
                exact l11_0_w1 m n x0 s6 s7 c0 c1 c2 c3 c4 c8 c13
              · skip
                refine ite_cases h (fun c16 h => ?_) (fun c16 h => ?_)
                · skip
                  refine ite_cases h (fun c20 h => ?_) (fun c20 h => ?_)
                  · skip
                    refine ite_cases h (fun c21 h => ?_) (fun c21 h => ?_)
                    · skip
                      refine ite_cases h (fun c30 h => ?_) (fun c30 h => ?_)
                      · skip
                        exact l11_0_w2 m n x0 s6 s7 _ c0 c1 c2 c3 c4 c8 c13 c16 c20 c21 c30 (ih _ _ _ q h)
                      · skip
                        cases h
                        exact l11_0_w3 m n x0 s6 s7 c0 c1 c2 c3 c4 c8 c13 c16 c20 c21 c30
                    · skip
                      cases h
                  · skip
                    cases h
                · skip
                  exact l11_0_w4 m n x0 s6 s7 _ c0 c1 c2 c3 c4 c8 c13 c16 (ih _ _ _ q h)
          · skip
            cases h
            exact l11_0_w5 m n x0 s6 s7 c0 c1 c2 c3 c4
        · skip
          cases h
      · skip
        cases h
    · skip
      cases h
  · skip
    cases h
    exact l11_0_w6 m n x0 s6 s7 c0
set_option maxHeartbeats 20000000 in
theorem l11_0_ok (m : Nat) : ∀ (n : Nat) (x0 : List ((List UInt8) × (List UInt8))) (s6 : Int) (s7 : Int) (q : Nat × Int), l11_0 m n x0 s6 s7 = some q → (turns (hds 11 225) 0 225 (evC byref (evCall F S11 (m + 24)) (m + 24) 0 (hds 11) lbl11_0) n (l11_0H x0 s6 s7) (l11_0B x0 s6 s7)).run = some (l11_0E (x0) (s6) (q.2) q.1)
  | 0, x0, s6, s7, q, h => by cases h
  | n + 1, x0, s6, s7, q, h => l11_0_step m n (l11_0_ok m n) x0 s6 s7 q h

def p11 (m : Nat) (x0 : List ((List UInt8) × (List UInt8))) : Option (Bool) :=
  if (Option.isSome (l11_0 m (m + 24) x0 ((((List.length x0) : Nat) : Int)) 0)) = true then
    if ((l11_0R m (m + 24) x0 ((((List.length x0) : Nat) : Int)) 0).1 == 0) = true then
      some (false)
    else
      if ((l11_0R m (m + 24) x0 ((((List.length x0) : Nat) : Int)) 0).1 == 1) = true then
        some (false)
      else
        if ((l11_0R m (m + 24) x0 ((((List.length x0) : Nat) : Int)) 0).1 == 2) = true then
          some (false)
        else
          if ((l11_0R m (m + 24) x0 ((((List.length x0) : Nat) : Int)) 0).1 == 3) = true then
            some (false)
          else
            if ((l11_0R m (m + 24) x0 ((((List.length x0) : Nat) : Int)) 0).1 == 4) = true then
              some (decide ((((List.length x0) : Nat) : Int) ≤ 6))
            else
              none
  else
    none
set_option maxHeartbeats 20000000 in
theorem p11_ok (m : Nat) (x0 : List ((List UInt8) × (List UInt8))) (q : Bool) (h : p11 m x0 = some q) : ∃ r B1, (evCall F S11 (m + 25) 11 [(.d (.sl (.pair .str .str) x0))] []).run = some (r, B1) ∧ 0 ≤ B1.length ∧ wkR B1 [] r (.d (.bool (q))) ∧ wkBs B1 [] 0 [] := by
  unfold p11 at h
  refine ite_cases h (fun c0 h => ?_) (fun c0 h => ?_)
  · skip
    refine ite_cases h (fun c1 h => ?_) (fun c1 h => ?_)
    · skip
      cases h
      refine ⟨(.d (.bool false)), [], runT_ok (LS := (fun k => if k = 225 then some (l11_0E x0 (((((List.length x0) : Nat) : Int))) ((l11_0R m (m + 24) x0 ((((List.length x0) : Nat) : Int)) 0).2) 0) else none)) (fn := fn11) (vis := [(225, l11_0H x0 ((((List.length x0) : Nat) : Int)) 0, l11_0B x0 ((((List.length x0) : Nat) : Int)) 0)]) (by kernel_rfl) rfl (by kernel_rfl) (M.run_of_path _ [] _ _ (by kernel_rfl) all_nil) ?_, by simp, (wkR.one (wkV.one (wk1.eq rfl))), trivial⟩
      intro p hp p2 hq
      rcases List.mem_cons.1 hp with rfl | hp
      · skip
        have h3 := l11_0_ok m (m + 24) x0 ((((List.length x0) : Nat) : Int)) 0 _ (some_getD (d := l11_0D) c0)
        rw [eq_of_beq c1] at h3
        exact Eq.trans (Eq.mp (by kernel_rfl) h3) hq
      cases hp
    · skip
      refine ite_cases h (fun c2 h => ?_) (fun c2 h => ?_)
      · skip
        cases h
        refine ⟨(.d (.bool false)), [], runT_ok (LS := (fun k => if k = 225 then some (l11_0E x0 (((((List.length x0) : Nat) : Int))) ((l11_0R m (m + 24) x0 ((((List.length x0) : Nat) : Int)) 0).2) 1) else none)) (fn := fn11) (vis := [(225, l11_0H x0 ((((List.length x0) : Nat) : Int)) 0, l11_0B x0 ((((List.length x0) : Nat) : Int)) 0)]) (by kernel_rfl) rfl (by kernel_rfl) (M.run_of_path _ [] _ _ (by kernel_rfl) all_nil) ?_, by simp, (wkR.one (wkV.one (wk1.eq rfl))), trivial⟩
        intro p hp p2 hq
        rcases List.mem_cons.1 hp with rfl | hp
        · skip
          have h3 := l11_0_ok m (m + 24) x0 ((((List.length x0) : Nat) : Int)) 0 _ (some_getD (d := l11_0D) c0)
          rw [eq_of_beq c2] at h3
          exact Eq.trans (Eq.mp (by kernel_rfl) h3) hq
        cases hp
      · skip
        refine ite_cases h (fun c3 h => ?_) (fun c3 h => ?_)
        · skip
          cases h
          refine ⟨(.d (.bool false)), [], runT_ok (LS := (fun k => if k = 225 then some (l11_0E x0 (((((List.length x0) : Nat) : Int))) ((l11_0R m (m + 24) x0 ((((List.length x0) : Nat) : Int)) 0).2) 2) else none)) (fn := fn11) (vis := [(225, l11_0H x0 ((((List.length x0) : Nat) : Int)) 0, l11_0B x0 ((((List.length x0) : Nat) : Int)) 0)]) (by kernel_rfl) rfl (by kernel_rfl) (M.run_of_path _ [] _ _ (by kernel_rfl) all_nil) ?_, by simp, (wkR.one (wkV.one (wk1.eq rfl))), trivial⟩
          intro p hp p2 hq
          rcases List.mem_cons.1 hp with rfl | hp
          · skip
            have h3 := l11_0_ok m (m + 24) x0 ((((List.length x0) : Nat) : Int)) 0 _ (some_getD (d := l11_0D) c0)
            rw [eq_of_beq c3] at h3
            exact Eq.trans (Eq.mp (by kernel_rfl) h3) hq
          cases hp
        · skip
          refine ite_cases h (fun c4 h => ?_) (fun c4 h => ?_)
          · skip
            cases h
            refine ⟨(.d (.bool false)), [], runT_ok (LS := (fun k => if k = 225 then some (l11_0E x0 (((((List.length x0) : Nat) : Int))) ((l11_0R m (m + 24) x0 ((((List.length x0) : Nat) : Int)) 0).2) 3) else none)) (fn := fn11) (vis := [(225, l11_0H x0 ((((List.length x0) : Nat) : Int)) 0, l11_0B x0 ((((List.length x0) : Nat) : Int)) 0)]) (by kernel_rfl) rfl (by kernel_rfl) (M.run_of_path _ [] _ _ (by kernel_rfl) all_nil) ?_, by simp, (wkR.one (wkV.one (wk1.eq rfl))), trivial⟩
            intro p hp p2 hq
            rcases List.mem_cons.1 hp with rfl | hp
            · skip
              have h3 := l11_0_ok m (m + 24) x0 ((((List.length x0) : Nat) : Int)) 0 _ (some_getD (d := l11_0D) c0)
              rw [eq_of_beq c4] at h3
              exact Eq.trans (Eq.mp (by kernel_rfl) h3) hq
            cases hp
          · skip
            refine ite_cases h (fun c5 h => ?_) (fun c5 h => ?_)
            · skip
              cases h
              refine ⟨(.d (.bool (decide ((((List.length x0) : Nat) : Int) ≤ 6)))), [], runT_ok (LS := (fun k => if k = 225 then some (l11_0E x0 (((((List.length x0) : Nat) : Int))) ((l11_0R m (m + 24) x0 ((((List.length x0) : Nat) : Int)) 0).2) 4) else none)) (fn := fn11) (vis := [(225, l11_0H x0 ((((List.length x0) : Nat) : Int)) 0, l11_0B x0 ((((List.length x0) : Nat) : Int)) 0)]) (by kernel_rfl) rfl (by kernel_rfl) (M.run_of_path _ [] _ _ (by kernel_rfl) all_nil) ?_, by simp, (wkR.one (wkV.one (wk1.eq rfl))), trivial⟩
              intro p hp p2 hq
              rcases List.mem_cons.1 hp with rfl | hp
              · skip
                have h3 := l11_0_ok m (m + 24) x0 ((((List.length x0) : Nat) : Int)) 0 _ (some_getD (d := l11_0D) c0)
                rw [eq_of_beq c5] at h3
                exact Eq.trans (Eq.mp (by kernel_rfl) h3) hq
              cases hp
            · skip
              cases h
  · skip
    cases h

/-- May a label be? -/
def lab1 (x : (List UInt8) × (List UInt8)) : Bool := wordG x.1 && decide (1 ≤ x.2.length) && decide (x.2.length ≤ 24)
def lrise : LB → Bool
  | a :: b :: l => Op.bytesLess a.1 b.1 && lrise (b :: l)
  | _ => true
/-- May labels be a set? -/
def lrightG (l : LB) : Bool := l.all lab1 && lrise l && decide (l.length ≤ 6)
def lrightPre (l : LB) : Bool := decide (l.length ≤ 1000000 ∧ ∀ x ∈ l, x.1.length ≤ 9223372036854775807)
def lR (l : LB) (k : Nat) : Bool := (l.drop k).all lab1 && lrise (l.drop (k - 1))
theorem lright_loop (m : Nat) (l : LB) (h1 : l.length ≤ 1000000) (h2 : ∀ x ∈ l, x.1.length ≤ 9223372036854775807) : ∀ (n k : Nat), k ≤ l.length → l.length - k < n → ∃ e j, l11_0 m n l (l.length : Nat) (k : Nat) = some (e, j) ∧ ((e = 4 ∧ lR l k = true) ∨ (e < 4 ∧ lR l k = false))
  | 0, k, _, h => by omega
  | n + 1, k, g1, g2 => by
    rw [l11_0]
    by_cases hk : k < l.length
    · have e1 : decide (((k : Nat) : Int) < (((List.length l) : Nat) : Int)) = true := decide_eq_true (by omega)
      have e2 : decide ((0 : Int) ≤ ((k : Nat) : Int)) = true := decide_eq_true (by omega)
      have e7 : IntKind.wrap .i64 (((k : Nat) : Int) + (1)) = ((k + 1 : Nat) : Int) := by rw [wrap_id (by omega) (by omega)]; rfl
      have hq := h2 _ (getD_mem l k (([] : List UInt8), ([] : List UInt8)) hk)
      obtain ⟨e, j, go, hc⟩ := lright_loop m l h1 h2 n (k + 1) (by omega) (by omega)
      have hd := drop_getD l k (([] : List UInt8), ([] : List UInt8)) hk
      have hR : lR l k = (lab1 (l.getD k (([] : List UInt8), ([] : List UInt8))) && (decide (k = 0) || Op.bytesLess (l.getD (k - 1) (([] : List UInt8), ([] : List UInt8))).1 (l.getD k (([] : List UInt8), ([] : List UInt8))).1) && lR l (k + 1)) := by
        unfold lR
        rw [hd, List.all_cons, show k + 1 - 1 = k from rfl]
        cases k with
        | zero => rw [show (0 - 1 : Nat) = 0 from rfl, hd]; simp [Bool.and_assoc]
        | succ k =>
          rw [show k + 1 - 1 = k from rfl]
          have hd0 := drop_getD l k (([] : List UInt8), ([] : List UInt8)) (by omega)
          have hr : lrise (l.drop k) = (Op.bytesLess (l.getD k (([] : List UInt8), ([] : List UInt8))).1 (l.getD (k + 1) (([] : List UInt8), ([] : List UInt8))).1 && lrise (l.drop (k + 1))) := by
            rw [hd0, hd, lrise]
          rw [hr]
          have : decide (k + 1 = 0) = false := decide_eq_false (by omega)
          rw [this, Bool.false_or]
          generalize lab1 (l.getD (k + 1) (([] : List UInt8), ([] : List UInt8))) = A
          generalize List.all (l.drop (k + 1 + 1)) lab1 = B
          generalize Op.bytesLess (l.getD k (([] : List UInt8), ([] : List UInt8))).1 (l.getD (k + 1) (([] : List UInt8), ([] : List UInt8))).1 = C
          generalize lrise (l.drop (k + 1)) = D
          cases A <;> cases B <;> cases C <;> rfl
      have hl : lab1 (l.getD k (([] : List UInt8), ([] : List UInt8))) = (wordG (l.getD k (([] : List UInt8), ([] : List UInt8))).1 && decide (1 ≤ (l.getD k (([] : List UInt8), ([] : List UInt8))).2.length) && decide ((l.getD k (([] : List UInt8), ([] : List UInt8))).2.length ≤ 24)) := rfl
      simp only [show Int.toNat ((k : Nat) : Int) = k from rfl, e1, e2, e7, ↓reduceIte]
      have e3 : decide (List.length (l.getD k (([] : List UInt8), ([] : List UInt8))).1 ≤ 9223372036854775807) = true := decide_eq_true hq
      rw [if_pos e3]
      have yes : lab1 (l.getD k (([] : List UInt8), ([] : List UInt8))) = true → (decide (k = 0) || Op.bytesLess (l.getD (k - 1) (([] : List UInt8), ([] : List UInt8))).1 (l.getD k (([] : List UInt8), ([] : List UInt8))).1) = true → ∃ e j, l11_0 m n l (l.length : Nat) ((k + 1 : Nat) : Int) = some (e, j) ∧ ((e = 4 ∧ lR l k = true) ∨ (e < 4 ∧ lR l k = false)) := by
        intro a b
        rw [hR, a, b]
        exact ⟨e, j, go, by rw [Bool.and_self, Bool.true_and]; exact hc⟩
      have no : ∀ e' : Nat, e' < 4 → (lab1 (l.getD k (([] : List UInt8), ([] : List UInt8))) && (decide (k = 0) || Op.bytesLess (l.getD (k - 1) (([] : List UInt8), ([] : List UInt8))).1 (l.getD k (([] : List UInt8), ([] : List UInt8))).1)) = false → ∃ e j, (some (e', ((k : Nat) : Int)) : Option (Nat × Int)) = some (e, j) ∧ ((e = 4 ∧ lR l k = true) ∨ (e < 4 ∧ lR l k = false)) := by
        intro e' he' a
        rw [hR, a]
        exact ⟨_, _, rfl, .inr ⟨he', rfl⟩⟩
      cases c1 : wordG (l.getD k (([] : List UInt8), ([] : List UInt8))).1 with
      | false => 
        rw [c1] at hl
        rw [if_neg (by simp)]
        exact no 0 (by omega) (by rw [hl]; rfl)
      | true =>
        rw [c1, Bool.true_and] at hl
        rw [if_pos rfl]
        by_cases c2 : (l.getD k (([] : List UInt8), ([] : List UInt8))).2 = []
        · rw [if_pos (by rw [c2]; rfl)]
          exact no 1 (by omega) (by rw [hl, c2]; rfl)
        · have p2 : 1 ≤ (l.getD k (([] : List UInt8), ([] : List UInt8))).2.length := by
            cases h : (l.getD k (([] : List UInt8), ([] : List UInt8))).2 with
            | nil => exact absurd h c2
            | cons a t => simp
          rw [if_neg (by rw [beq_iff_eq]; exact c2)]
          rw [show decide (1 ≤ (l.getD k (([] : List UInt8), ([] : List UInt8))).2.length) = true from decide_eq_true p2, Bool.true_and] at hl
          by_cases c3 : (l.getD k (([] : List UInt8), ([] : List UInt8))).2.length ≤ 24
          · rw [if_neg (show ¬ decide ((((List.length (l.getD k (([] : List UInt8), ([] : List UInt8))).2) : Nat) : Int) > 24) = true by rw [decide_eq_true_eq]; omega)]
            rw [decide_eq_true c3] at hl
            by_cases c4 : k = 0
            · subst c4
              rw [if_neg (by simp)]
              exact yes hl rfl
            · have w1 : IntKind.wrap .i64 (((k : Nat) : Int) - (1)) = ((k - 1 : Nat) : Int) := by rw [wrap_id (by omega) (by omega)]; omega
              rw [if_pos (show decide (((k : Nat) : Int) > 0) = true from decide_eq_true (by omega)), w1, if_pos (decide_eq_true (by omega)), if_pos (decide_eq_true (by omega)), show Int.toNat ((k - 1 : Nat) : Int) = k - 1 from rfl]
              cases c5 : Op.bytesLess (l.getD (k - 1) (([] : List UInt8), ([] : List UInt8))).1 (l.getD k (([] : List UInt8), ([] : List UInt8))).1 with
              | true => rw [if_pos rfl]; exact yes hl (by rw [c5, Bool.or_true])
              | false => rw [if_neg (by simp)]; exact no 3 (by omega) (by rw [c5, decide_eq_false c4]; simp)
          · rw [if_pos (show decide ((((List.length (l.getD k (([] : List UInt8), ([] : List UInt8))).2) : Nat) : Int) > 24) = true from decide_eq_true (by omega))]
            exact no 2 (by omega) (by rw [hl, decide_eq_false c3]; rfl)
    · have e1 : decide (((k : Nat) : Int) < (((List.length l) : Nat) : Int)) = false := decide_eq_false (by omega)
      have e0 : k = l.length := by omega
      subst e0
      rw [e1, if_neg (by simp)]
      refine ⟨4, _, rfl, .inl ⟨rfl, ?_⟩⟩
      unfold lR
      rw [List.drop_length, List.all_nil, Bool.true_and]
      rcases Nat.eq_zero_or_pos l.length with h | h
      · rw [h, List.drop_eq_nil_of_le (by omega)]; rfl
      · rw [drop_getD l (l.length - 1) (([] : List UInt8), ([] : List UInt8)) (by omega), List.drop_eq_nil_of_le (by omega)]; rfl
theorem lright49 (l : LB) (h : lrightPre l = true) : ∃ m, p11 m l = some (lrightG l) := by
  have ⟨h1, h2⟩ := of_decide_eq_true h
  refine ⟨l.length, ?_⟩
  obtain ⟨e, j, hr, hc⟩ := lright_loop l.length l h1 h2 (l.length + 24) 0 (by omega) (by omega)
  have q2 : decide ((((List.length l) : Nat) : Int) ≤ 6) = decide (l.length ≤ 6) := by rw [decide_eq_decide]; omega
  have hR : lrightG l = (lR l 0 && decide (l.length ≤ 6)) := by unfold lrightG lR; rfl
  simp only [Int.natCast_zero] at hr
  unfold p11
  rw [hR]
  simp only [l11_0R, hr, q2, Option.isSome_some, Option.getD_some, ↓reduceIte]
  rcases hc with ⟨rfl, hc⟩ | ⟨hlt, hc⟩
  · rw [hc, Bool.true_and]; rfl
  · rw [hc, Bool.false_and]
    have : e = 0 ∨ e = 1 ∨ e = 2 ∨ e = 3 := by omega
    rcases this with rfl | rfl | rfl | rfl <;> rfl
def s11 : List AV → Boxes → M (AV × Boxes) := normS [.val (.sl (.pair .str .str))] [] fun xs B => match xs, B with
  | [(.d (.sl (.pair .str .str) c1))], [] => .chk (lrightPre c1) (.ret ((.d (.bool (lrightG c1))), []))
  | _, _ => .fail
theorem s11_at : CallAt Tryd.prog 11 s11 := by
  refine CallAt.norm (CallAt.weakE (g := fun n => evCall F S11 n 11) (fun n => evCall_atH mixed kinds hds S11 S11_ok n 11) fun xs B r' B' hr => ?_) _ _
  split at hr
  · rename_i c1
    obtain ⟨hp, hr⟩ := (M.run_chk _ _ _).1 hr
    simp only [M.run, Option.some.injEq, Prod.mk.injEq] at hr
    obtain ⟨rfl, rfl⟩ := hr
    obtain ⟨m, hm⟩ := lright49 c1 hp
    obtain ⟨r, B1, h1, h2, h3, h4⟩ := p11_ok m c1 _ hm
    exact ⟨m + 25, r, B1, h1, by simp, h2, h3, h4⟩
  · simp [M.run] at hr
noncomputable def S12 : FuncId → Option (List AV → Boxes → M (AV × Boxes)) := fun f => if f = 11 then some s11 else S11 f
set_option maxHeartbeats 20000000 in
theorem S12_ok : ∀ f s, S12 f = some s → CallAt Tryd.prog f s := by
  intro f s h
  unfold S12 at h
  split at h
  · rename_i e; subst e; cases h; exact s11_at
  · exact S11_ok f s h

end Go.Proofs.YtcdpgldecikejaaDoor.Dec
namespace Go.Proofs.YtcdpgldecikejaaDoor.Dec
open Go.Ev
set_option linter.unusedVariables false
set_option linter.unusedSimpArgs false
set_option maxRecDepth 100000
noncomputable def fn12 : AFn := (F 12).getD ⟨0, [], .bad, false, false, noHd⟩
noncomputable def body12 : AC := fn12.body
def l12_0 (m : Nat) : Nat → List ((List UInt8) × (List UInt8)) → Int → Int → List (List UInt8) → Option (Nat × Int × (List (List UInt8)))
  | 0, _, _, _, _ => none
  | n + 1, x0, s10, s11, b0 => if decide (s11 < s10) = true then
      if decide (0 ≤ s11) = true then
        if decide (s11 < (((List.length x0) : Nat) : Int)) = true then
          if decide (List.length (List.getD x0 (Int.toNat s11) (([] : List UInt8), ([] : List UInt8))).1 + List.length ([61] : List UInt8) ≤ 4611686018427387904) = true then
            if decide (List.length (List.getD x0 (Int.toNat s11) (([] : List UInt8), ([] : List UInt8))).2 ≤ 1000000) = true then
              if decide (List.length ((List.getD x0 (Int.toNat s11) (([] : List UInt8), ([] : List UInt8))).1 ++ ([61] : List UInt8)) + List.length (quoteG (List.getD x0 (Int.toNat s11) (([] : List UInt8), ([] : List UInt8))).2) ≤ 4611686018427387904) = true then
                if decide ((((List.length b0) + 1) * 16) ≤ 70368744177664) = true then
                  l12_0 m n x0 s10 ((IntKind.wrap .i64 (s11 + (1)))) ((b0 ++ [(((List.getD x0 (Int.toNat s11) (([] : List UInt8), ([] : List UInt8))).1 ++ ([61] : List UInt8)) ++ (quoteG (List.getD x0 (Int.toNat s11) (([] : List UInt8), ([] : List UInt8))).2))]))
                else
                  none
              else
                none
            else
              none
          else
            none
        else
          none
      else
        none
    else
      some (0, s11, b0)
def l12_0D : Nat × Int × (List (List UInt8)) := (0, 0, [])
@[reducible] def l12_0R (m n : Nat) (x0 : List ((List UInt8) × (List UInt8))) (s10 : Int) (s11 : Int) (b0 : List (List UInt8)) : Nat × Int × (List (List UInt8)) := Option.getD (l12_0 m n x0 s10 s11 b0) l12_0D
def l12_0H (x0 : List ((List UInt8) × (List UInt8))) (s10 : Int) (s11 : Int) (b0 : List (List UInt8)) : Env := [.top, .top, .top, (.sr 0 0 (List.length b0) 1 none), .top, .top, .top, .top, .top, (.d (.sl (.pair .str .str) x0)), (.d (.int .i64 s10)), (.d (.int .i64 s11)), .top, .top, .top, .top, .top, .top, .top, .top, .top, .top, .top, .top, .top, .top, .top, .top, .top, .top]
def l12_0B (x0 : List ((List UInt8) × (List UInt8))) (s10 : Int) (s11 : Int) (b0 : List (List UInt8)) : Boxes := [(.arr .str b0 true)]
def l12_0E (x0 : List ((List UInt8) × (List UInt8))) (s10 : Int) (s11 : Int) (b0 : List (List UInt8)) : Nat → AEx × Env × Boxes
  | _ => (.exit 0, [.top, .top, .top, (.sr 0 0 (List.length b0) 1 none), .top, .top, .top, .top, .top, (.d (.sl (.pair .str .str) x0)), (.d (.int .i64 s10)), (.d (.int .i64 s11)), (.d (.bool (decide (s11 < s10)))), .top, .top, .top, .top, .top, .top, .top, .top, .top, .top, .top, .top, .top, .top, .top, .top, .top], [(.arr .str b0 true)])
noncomputable def lbl12_0 : AC := loopBody 3592 body12

set_option maxHeartbeats 20000000 in
theorem l12_0_w0 (m n : Nat) (x0 : List ((List UInt8) × (List UInt8))) (s10 : Int) (s11 : Int) (b0 : List (List UInt8)) (r : AEx × Env × Boxes) (c0 : decide (s11 < s10) = true) (c1 : decide (0 ≤ s11) = true) (c2 : decide (s11 < (((List.length x0) : Nat) : Int)) = true) (c3 : decide (List.length (List.getD x0 (Int.toNat s11) (([] : List UInt8), ([] : List UInt8))).1 + List.length ([61] : List UInt8) ≤ 4611686018427387904) = true) (c4 : decide (List.length (List.getD x0 (Int.toNat s11) (([] : List UInt8), ([] : List UInt8))).2 ≤ 1000000) = true) (c5 : decide (List.length ((List.getD x0 (Int.toNat s11) (([] : List UInt8), ([] : List UInt8))).1 ++ ([61] : List UInt8)) + List.length (quoteG (List.getD x0 (Int.toNat s11) (([] : List UInt8), ([] : List UInt8))).2) ≤ 4611686018427387904) = true) (c7 : decide ((((List.length b0) + 1) * 16) ≤ 70368744177664) = true) (ih : (turns (hds 12 3592) 0 3592 (evC byref (evCall F S12 (m + 24)) (m + 24) 0 (hds 12) lbl12_0) n (l12_0H x0 s10 ((IntKind.wrap .i64 (s11 + (1)))) ((b0 ++ [(((List.getD x0 (Int.toNat s11) (([] : List UInt8), ([] : List UInt8))).1 ++ ([61] : List UInt8)) ++ (quoteG (List.getD x0 (Int.toNat s11) (([] : List UInt8), ([] : List UInt8))).2))]))) (l12_0B x0 s10 ((IntKind.wrap .i64 (s11 + (1)))) ((b0 ++ [(((List.getD x0 (Int.toNat s11) (([] : List UInt8), ([] : List UInt8))).1 ++ ([61] : List UInt8)) ++ (quoteG (List.getD x0 (Int.toNat s11) (([] : List UInt8), ([] : List UInt8))).2))])))).run = some r) : (turns (hds 12 3592) 0 3592 (evC byref (evCall F S12 (m + 24)) (m + 24) 0 (hds 12) lbl12_0) (n + 1) (l12_0H x0 s10 s11 b0) (l12_0B x0 s10 s11 b0)).run = some r := by
  have ht : (turn (hds 12 3592) 0 3592 (evC byref (evCall F S12 (m + 24)) (m + 24) 0 (hds 12) lbl12_0) (l12_0H x0 s10 s11 b0) (l12_0B x0 s10 s11 b0)).run = some (.normal, [.top, .top, .top, (.sr 0 0 ((List.length b0) + 1) 1 none), .top, .top, .top, .top, .top, (.d (.sl (.pair .str .str) x0)), (.d (.int .i64 s10)), (.d (.int .i64 (IntKind.wrap .i64 (s11 + (1))))), .top, .top, .top, .top, .top, .top, .top, .top, .top, .top, .top, .top, .top, .top, .top, .top, .top, .top], [(.arr .str (b0 ++ [(((List.getD x0 (Int.toNat s11) (([] : List UInt8), ([] : List UInt8))).1 ++ ([61] : List UInt8)) ++ (quoteG (List.getD x0 (Int.toNat s11) (([] : List UInt8), ([] : List UInt8))).2))]) true)]) := M.run_of_path _ [true, true, true, true, true, true, true, true, true] _ _ (by kernel_rfl) (all_t c0 (all_t c1 (all_t c2 (all_t c3 (all_t c4 (all_t c5 (all_t rfl (all_t c7 (all_t (show decide ((List.length b0) = (List.length b0)) = true from decide_eq_true rfl) all_nil)))))))))
  refine turns_step ht (turns_eq ?_ ?_ ih)
  · unfold l12_0H
    first | (simp; done) | (simp [Nat.add_assoc]; done) | (simp; omega)
  · unfold l12_0B
    simp
set_option maxHeartbeats 20000000 in
theorem l12_0_w1 (m n : Nat) (x0 : List ((List UInt8) × (List UInt8))) (s10 : Int) (s11 : Int) (b0 : List (List UInt8)) (c0 : ¬ decide (s11 < s10) = true) : (turns (hds 12 3592) 0 3592 (evC byref (evCall F S12 (m + 24)) (m + 24) 0 (hds 12) lbl12_0) (n + 1) (l12_0H x0 s10 s11 b0) (l12_0B x0 s10 s11 b0)).run = some (.exit 0, [.top, .top, .top, (.sr 0 0 (List.length b0) 1 none), .top, .top, .top, .top, .top, (.d (.sl (.pair .str .str) x0)), (.d (.int .i64 s10)), (.d (.int .i64 s11)), (.d (.bool (decide (s11 < s10)))), .top, .top, .top, .top, .top, .top, .top, .top, .top, .top, .top, .top, .top, .top, .top, .top, .top], [(.arr .str b0 true)]) := by
  exact turns_last (by simp) (M.run_of_path _ [false] _ _ (by kernel_rfl) (all_f c0 all_nil)) 

set_option maxHeartbeats 20000000 in
theorem l12_0_step (m n : Nat) (ih : ∀ (x0 : List ((List UInt8) × (List UInt8))) (s10 : Int) (s11 : Int) (b0 : List (List UInt8)) (q : Nat × Int × (List (List UInt8))), l12_0 m n x0 s10 s11 b0 = some q → (turns (hds 12 3592) 0 3592 (evC byref (evCall F S12 (m + 24)) (m + 24) 0 (hds 12) lbl12_0) n (l12_0H x0 s10 s11 b0) (l12_0B x0 s10 s11 b0)).run = some (l12_0E (x0) (s10) (q.2.1) (q.2.2) q.1)) (x0 : List ((List UInt8) × (List UInt8))) (s10 : Int) (s11 : Int) (b0 : List (List UInt8)) (q : Nat × Int × (List (List UInt8))) (h : l12_0 m (n + 1) x0 s10 s11 b0 = some q) : (turns (hds 12 3592) 0 3592 (evC byref (evCall F S12 (m + 24)) (m + 24) 0 (hds 12) lbl12_0) (n + 1) (l12_0H x0 s10 s11 b0) (l12_0B x0 s10 s11 b0)).run = some (l12_0E (x0) (s10) (q.2.1) (q.2.2) q.1) := by
  rw [l12_0] at h
  refine ite_cases h (fun c0 h => ?_) (fun c0 h => ?_)
  · skip
    refine ite_cases h (fun c1 h => ?_) (fun c1 h => ?_)
    · skip
      refine ite_cases h (fun c2 h => ?_) (fun c2 h => ?_)
      · skip
        refine ite_cases h (fun c3 h => ?_) (fun c3 h => ?_)
        · skip
          refine ite_cases h (fun c4 h => ?_) (fun c4 h => ?_)
          · skip
            refine ite_cases h (fun c5 h => ?_) (fun c5 h => ?_)
            · skip
              refine ite_cases h (fun c7 h => ?_) (fun c7 h => ?_)
              · skip
                exact l12_0_w0 m n x0 s10 s11 b0 _ c0 c1 c2 c3 c4 c5 c7 (ih _ _ _ _ q h)
              · skip
                cases h
            · skip
              cases h
          · skip
            cases h
        · skip
          cases h
      · skip
        cases h
    · skip
      cases h
  · skip
    cases h
    exact l12_0_w1 m n x0 s10 s11 b0 c0
set_option maxHeartbeats 20000000 in
theorem l12_0_ok (m : Nat) : ∀ (n : Nat) (x0 : List ((List UInt8) × (List UInt8))) (s10 : Int) (s11 : Int) (b0 : List (List UInt8)) (q : Nat × Int × (List (List UInt8))), l12_0 m n x0 s10 s11 b0 = some q → (turns (hds 12 3592) 0 3592 (evC byref (evCall F S12 (m + 24)) (m + 24) 0 (hds 12) lbl12_0) n (l12_0H x0 s10 s11 b0) (l12_0B x0 s10 s11 b0)).run = some (l12_0E (x0) (s10) (q.2.1) (q.2.2) q.1)
  | 0, x0, s10, s11, b0, q, h => by cases h
  | n + 1, x0, s10, s11, b0, q, h => l12_0_step m n (l12_0_ok m n) x0 s10 s11 b0 q h

def p12 (m : Nat) (x0 : List ((List UInt8) × (List UInt8))) : Option ((List UInt8)) :=
  if lrightPre x0 = true then
    if (lrightG x0) = true then
      if (Option.isSome (l12_0 m (m + 24) x0 ((((List.length x0) : Nat) : Int)) 0 (([] : List (List UInt8))))) = true then
        if (decide (List.length (List.take (List.length (l12_0R m (m + 24) x0 ((((List.length x0) : Nat) : Int)) 0 (([] : List (List UInt8)))).2.2) (List.drop 0 (l12_0R m (m + 24) x0 ((((List.length x0) : Nat) : Int)) 0 (([] : List (List UInt8)))).2.2)) ≤ 140737488355328) && decide (List.length (Lib.join (List.take (List.length (l12_0R m (m + 24) x0 ((((List.length x0) : Nat) : Int)) 0 (([] : List (List UInt8)))).2.2) (List.drop 0 (l12_0R m (m + 24) x0 ((((List.length x0) : Nat) : Int)) 0 (([] : List (List UInt8)))).2.2)) ([44] : List UInt8)) ≤ 140737488355328)) = true then
          if decide (List.length ([123] : List UInt8) + List.length (Lib.join (List.take (List.length (l12_0R m (m + 24) x0 ((((List.length x0) : Nat) : Int)) 0 (([] : List (List UInt8)))).2.2) (List.drop 0 (l12_0R m (m + 24) x0 ((((List.length x0) : Nat) : Int)) 0 (([] : List (List UInt8)))).2.2)) ([44] : List UInt8)) ≤ 4611686018427387904) = true then
            if decide (List.length (([123] : List UInt8) ++ (Lib.join (List.take (List.length (l12_0R m (m + 24) x0 ((((List.length x0) : Nat) : Int)) 0 (([] : List (List UInt8)))).2.2) (List.drop 0 (l12_0R m (m + 24) x0 ((((List.length x0) : Nat) : Int)) 0 (([] : List (List UInt8)))).2.2)) ([44] : List UInt8))) + List.length ([125] : List UInt8) ≤ 4611686018427387904) = true then
              some (((([123] : List UInt8) ++ (Lib.join (List.take (List.length (l12_0R m (m + 24) x0 ((((List.length x0) : Nat) : Int)) 0 (([] : List (List UInt8)))).2.2) (List.drop 0 (l12_0R m (m + 24) x0 ((((List.length x0) : Nat) : Int)) 0 (([] : List (List UInt8)))).2.2)) ([44] : List UInt8))) ++ ([125] : List UInt8)))
            else
              none
          else
            none
        else
          none
      else
        none
    else
      some (([] : List UInt8))
  else
    none
set_option maxHeartbeats 20000000 in
theorem p12_ok (m : Nat) (x0 : List ((List UInt8) × (List UInt8))) (q : (List UInt8)) (h : p12 m x0 = some q) : ∃ r B1, (evCall F S12 (m + 25) 12 [(.d (.sl (.pair .str .str) x0))] []).run = some (r, B1) ∧ 0 ≤ B1.length ∧ wkR B1 [] r (.d (.str q)) ∧ wkBs B1 [] 0 [] := by
  unfold p12 at h
  refine ite_cases h (fun c0 h => ?_) (fun c0 h => ?_)
  · skip
    refine ite_cases h (fun c1 h => ?_) (fun c1 h => ?_)
    · skip
      refine ite_cases h (fun c2 h => ?_) (fun c2 h => ?_)
      · skip
        refine ite_cases h (fun c4 h => ?_) (fun c4 h => ?_)
        · skip
          refine ite_cases h (fun c5 h => ?_) (fun c5 h => ?_)
          · skip
            refine ite_cases h (fun c6 h => ?_) (fun c6 h => ?_)
            · skip
              cases h
              refine ⟨(.d (.str ((([123] : List UInt8) ++ (Lib.join (List.take (List.length (l12_0R m (m + 24) x0 ((((List.length x0) : Nat) : Int)) 0 (([] : List (List UInt8)))).2.2) (List.drop 0 (l12_0R m (m + 24) x0 ((((List.length x0) : Nat) : Int)) 0 (([] : List (List UInt8)))).2.2)) ([44] : List UInt8))) ++ ([125] : List UInt8)))), [], runT_ok (LS := (fun k => if k = 3592 then some (l12_0E x0 (((((List.length x0) : Nat) : Int))) ((l12_0R m (m + 24) x0 ((((List.length x0) : Nat) : Int)) 0 (([] : List (List UInt8)))).2.1) ((l12_0R m (m + 24) x0 ((((List.length x0) : Nat) : Int)) 0 (([] : List (List UInt8)))).2.2) 0) else none)) (fn := fn12) (vis := [(3592, l12_0H x0 ((((List.length x0) : Nat) : Int)) 0 (([] : List (List UInt8))), l12_0B x0 ((((List.length x0) : Nat) : Int)) 0 (([] : List (List UInt8))))]) (by kernel_rfl) rfl (by kernel_rfl) (M.run_of_path _ [true, false, true, true, true, true] _ _ (by kernel_rfl) (all_t c0 (all_nt c1 (all_t (show decide ((0 + (List.length (l12_0R m (m + 24) x0 ((((List.length x0) : Nat) : Int)) 0 (([] : List (List UInt8)))).2.2)) ≤ (List.length (l12_0R m (m + 24) x0 ((((List.length x0) : Nat) : Int)) 0 (([] : List (List UInt8)))).2.2)) = true from decide_eq_true (Nat.le_of_eq (Nat.zero_add _))) (all_t c4 (all_t c5 (all_t c6 all_nil))))))) ?_, by simp, (wkR.one (wkV.one (wk1.eq rfl))), trivial⟩
              intro p hp p2 hq
              rcases List.mem_cons.1 hp with rfl | hp
              · skip
                have h3 := l12_0_ok m (m + 24) x0 ((((List.length x0) : Nat) : Int)) 0 (([] : List (List UInt8))) _ (some_getD (d := l12_0D) c2)
                exact Eq.trans (Eq.mp (by kernel_rfl) h3) hq
              cases hp
            · skip
              cases h
          · skip
            cases h
        · skip
          cases h
      · skip
        cases h
    · skip
      cases h
      refine ⟨(.d (.str ([] : List UInt8))), [], runT_ok (LS := (fun k => none)) (fn := fn12) (vis := []) (by kernel_rfl) rfl (by kernel_rfl) (M.run_of_path _ [true, true] _ _ (by kernel_rfl) (all_t c0 (all_nf c1 all_nil))) ?_, by simp, (wkR.one (wkV.one (wk1.eq rfl))), trivial⟩
      intro p hp; cases hp
  · skip
    cases h

theorem inter_le (sep : List UInt8) (B : Nat) : ∀ (l : List (List UInt8)), (∀ x ∈ l, x.length ≤ B) → (Lib.join l sep).length ≤ l.length * (B + sep.length)
  | [], _ => Nat.zero_le _
  | [a], h => by
    have := h a (List.mem_cons_self ..)
    have e : Lib.join [a] sep = a := by unfold Lib.join; simp [List.intercalate]
    rw [e]
    simp only [List.length_cons, List.length_nil]
    omega
  | a :: b :: l, h => by
    have e : Lib.join (a :: b :: l) sep = a ++ (sep ++ Lib.join (b :: l) sep) := by unfold Lib.join; simp [List.intercalate]
    rw [e, List.length_append, List.length_append]
    have h1 := h a (List.mem_cons_self ..)
    have h2 := inter_le sep B (b :: l) (fun x hx => h x (List.mem_cons_of_mem _ hx))
    have : (a :: b :: l).length * (B + sep.length) = (b :: l).length * (B + sep.length) + (B + sep.length) := by
      rw [List.length_cons, Nat.succ_mul]
    omega
def litemG (x : (List UInt8) × (List UInt8)) : List UInt8 := (x.1 ++ [61]) ++ quoteG x.2
/-- A printed set. -/
def lprintG (l : LB) : List UInt8 := if lrightG l = true then ([123] ++ Lib.join (l.map litemG) [44]) ++ [125] else []
theorem lright_all {l : LB} (h : lrightG l = true) : l.length ≤ 6 ∧ ∀ x ∈ l, x.1.length ≤ 24 ∧ x.2.length ≤ 24 := by
  unfold lrightG at h
  rw [Bool.and_eq_true, Bool.and_eq_true, decide_eq_true_eq] at h
  refine ⟨h.2, fun x hx => ?_⟩
  have := List.all_eq_true.1 h.1.1 x hx
  unfold lab1 wordG at this
  simp only [Bool.and_eq_true, decide_eq_true_eq] at this
  omega
theorem litem_le {x : (List UInt8) × (List UInt8)} (h : x.1.length ≤ 24 ∧ x.2.length ≤ 24) : (litemG x).length ≤ 100 := by
  unfold litemG
  rw [List.length_append, List.length_append]
  have := quote_le x.2
  simp only [List.length_cons, List.length_nil]
  omega
theorem lprint_loop (m : Nat) (l : LB) (h1 : l.length ≤ 6) (h2 : ∀ x ∈ l, x.1.length ≤ 24 ∧ x.2.length ≤ 24) : ∀ (n k : Nat) (b : List (List UInt8)), k ≤ l.length → l.length - k < n → b.length ≤ k → l12_0 m n l (l.length : Nat) (k : Nat) b = some (0, ((l.length : Nat) : Int), b ++ (l.drop k).map litemG)
  | 0, k, _, _, h, _ => by omega
  | n + 1, k, b, g1, g2, g3 => by
    rw [l12_0]
    by_cases hk : k < l.length
    · have e1 : decide (((k : Nat) : Int) < (((List.length l) : Nat) : Int)) = true := decide_eq_true (by omega)
      have e2 : decide ((0 : Int) ≤ ((k : Nat) : Int)) = true := decide_eq_true (by omega)
      have e7 : IntKind.wrap .i64 (((k : Nat) : Int) + (1)) = ((k + 1 : Nat) : Int) := by rw [wrap_id (by omega) (by omega)]; rfl
      have hq := h2 _ (getD_mem l k (([] : List UInt8), ([] : List UInt8)) hk)
      have go := fun x => lprint_loop m l h1 h2 n (k + 1) (b ++ [x]) (by omega) (by omega) (by simp; omega)
      rw [drop_getD l k (([] : List UInt8), ([] : List UInt8)) hk]
      simp only [show Int.toNat ((k : Nat) : Int) = k from rfl, e1, e2, e7, ↓reduceIte]
      generalize l.getD k (([] : List UInt8), ([] : List UInt8)) = q at *
      have hi : litemG q = (q.1 ++ [61]) ++ quoteG q.2 := rfl
      have hql := quote_le q.2
      have b0 : decide (List.length q.2 ≤ 1000000) = true := decide_eq_true (by omega)
      have b1 : decide (((List.length b) + 1) * 16 ≤ 70368744177664) = true := decide_eq_true (by omega)
      have b2 : decide (List.length q.1 + List.length ([61] : List UInt8) ≤ 4611686018427387904) = true := decide_eq_true (by simp; omega)
      have b3 : decide (List.length (q.1 ++ [61]) + List.length (quoteG q.2) ≤ 4611686018427387904) = true := decide_eq_true (by rw [List.length_append]; simp only [List.length_cons, List.length_nil]; omega)
      simp only [b0, b1, b2, b3, ↓reduceIte]
      rw [go, List.map_cons, hi]
      simp
    · have e1 : decide (((k : Nat) : Int) < (((List.length l) : Nat) : Int)) = false := decide_eq_false (by omega)
      have e0 : k = l.length := by omega
      subst e0
      rw [e1, if_neg (by simp), List.drop_length]
      simp
theorem lprint30 (l : LB) (h : lrightPre l = true) : ∃ m, p12 m l = some (lprintG l) := by
  refine ⟨l.length, ?_⟩
  unfold p12 lprintG
  rw [if_pos h]
  by_cases hr : lrightG l = true
  · obtain ⟨h1, h2⟩ := lright_all hr
    rw [if_pos hr, if_pos hr]
    have hl := lprint_loop l.length l h1 h2 (l.length + 24) 0 [] (by omega) (by omega) (by simp)
    simp only [Int.natCast_zero, List.drop_zero, List.nil_append] at hl
    simp only [l12_0R, hl, Option.isSome_some, Option.getD_some, ↓reduceIte, List.drop_zero, List.take_length]
    have hj := inter_le [44] 100 (l.map litemG) (by
      intro x hx
      obtain ⟨y, hy, rfl⟩ := List.mem_map.1 hx
      exact litem_le (h2 y hy))
    have hm : (l.map litemG).length = l.length := by simp
    rw [hm] at hj
    generalize hJ : Lib.join (l.map litemG) [44] = J at *
    have : l.length * (100 + ([44] : List UInt8).length) ≤ 606 := by
      simp only [List.length_cons, List.length_nil]; omega
    rw [if_pos, if_pos, if_pos]
    · exact decide_eq_true (by simp; omega)
    · exact decide_eq_true (by simp; omega)
    · rw [Bool.and_eq_true]
      exact ⟨decide_eq_true (by rw [hm]; omega), decide_eq_true (by omega)⟩
  · rw [if_neg hr, if_neg hr]
def s12 : List AV → Boxes → M (AV × Boxes) := normS [.val (.sl (.pair .str .str))] [] fun xs B => match xs, B with
  | [(.d (.sl (.pair .str .str) c1))], [] => .chk (lrightPre c1) (.ret ((.d (.str (lprintG c1))), []))
  | _, _ => .fail
theorem s12_at : CallAt Tryd.prog 12 s12 := by
  refine CallAt.norm (CallAt.weakE (g := fun n => evCall F S12 n 12) (fun n => evCall_atH mixed kinds hds S12 S12_ok n 12) fun xs B r' B' hr => ?_) _ _
  split at hr
  · rename_i c1
    obtain ⟨hp, hr⟩ := (M.run_chk _ _ _).1 hr
    simp only [M.run, Option.some.injEq, Prod.mk.injEq] at hr
    obtain ⟨rfl, rfl⟩ := hr
    obtain ⟨m, hm⟩ := lprint30 c1 hp
    obtain ⟨r, B1, h1, h2, h3, h4⟩ := p12_ok m c1 _ hm
    exact ⟨m + 25, r, B1, h1, by simp, h2, h3, h4⟩
  · simp [M.run] at hr
noncomputable def S13 : FuncId → Option (List AV → Boxes → M (AV × Boxes)) := fun f => if f = 12 then some s12 else S12 f
set_option maxHeartbeats 20000000 in
theorem S13_ok : ∀ f s, S13 f = some s → CallAt Tryd.prog f s := by
  intro f s h
  unfold S13 at h
  split at h
  · rename_i e; subst e; cases h; exact s12_at
  · exact S12_ok f s h

noncomputable def fn17 : AFn := (F 17).getD ⟨0, [], .bad, false, false, noHd⟩
noncomputable def body17 : AC := fn17.body
def l17_0 (m : Nat) : Nat → List ((List UInt8) × (List UInt8)) → List ((List UInt8) × (List UInt8)) → Int → Option (Nat × Int)
  | 0, _, _, _ => none
  | n + 1, x0, x1, s5 => if decide (s5 < (((List.length x0) : Nat) : Int)) = true then
      if decide (0 ≤ s5) = true then
        if decide (s5 < (((List.length x1) : Nat) : Int)) = true then
          if (((List.getD x0 (Int.toNat s5) (([] : List UInt8), ([] : List UInt8))).1 == (List.getD x1 (Int.toNat s5) (([] : List UInt8), ([] : List UInt8))).1) && (((List.getD x0 (Int.toNat s5) (([] : List UInt8), ([] : List UInt8))).2 == (List.getD x1 (Int.toNat s5) (([] : List UInt8), ([] : List UInt8))).2) && true)) = true then
            l17_0 m n x0 x1 ((IntKind.wrap .i64 (s5 + (1))))
          else
            some (0, s5)
        else
          none
      else
        none
    else
      some (1, s5)
def l17_0D : Nat × Int := (0, 0)
@[reducible] def l17_0R (m n : Nat) (x0 : List ((List UInt8) × (List UInt8))) (x1 : List ((List UInt8) × (List UInt8))) (s5 : Int) : Nat × Int := Option.getD (l17_0 m n x0 x1 s5) l17_0D
def l17_0H (x0 : List ((List UInt8) × (List UInt8))) (x1 : List ((List UInt8) × (List UInt8))) (s5 : Int) : Env := [(.d (.sl (.pair .str .str) x0)), (.d (.sl (.pair .str .str) x1)), .top, .top, .top, (.d (.int .i64 s5)), .top, .top, .top, .top, .top, .top, .top, .top, .top, .top, .top, .top, .top, .top, .top, .top, .top, .top, .top, .top]
def l17_0B (x0 : List ((List UInt8) × (List UInt8))) (x1 : List ((List UInt8) × (List UInt8))) (s5 : Int) : Boxes := []
def l17_0E (x0 : List ((List UInt8) × (List UInt8))) (x1 : List ((List UInt8) × (List UInt8))) (s5 : Int) : Nat → AEx × Env × Boxes
  | 0 => (.ret, [(.d (.sl (.pair .str .str) x0)), (.d (.sl (.pair .str .str) x1)), .top, .top, (.d (.bool false)), (.d (.int .i64 s5)), .top, .top, .top, .top, .top, (.d (.int .i64 s5)), (.d (.sl (.pair .str .str) x0)), (.d (.int .i64 (((List.length x0) : Nat) : Int))), (.d (.bool (decide (s5 < (((List.length x0) : Nat) : Int))))), .top, .top, (.d (.sl (.pair .str .str) x0)), (.d (.int .i64 s5)), (.cptr [(.str (List.getD x0 (Int.toNat s5) (([] : List UInt8), ([] : List UInt8))).1), (.str (List.getD x0 (Int.toNat s5) (([] : List UInt8), ([] : List UInt8))).2)] 0), (.agg [(.d (.str (List.getD x0 (Int.toNat s5) (([] : List UInt8), ([] : List UInt8))).1)), (.d (.str (List.getD x0 (Int.toNat s5) (([] : List UInt8), ([] : List UInt8))).2))]), (.d (.sl (.pair .str .str) x1)), (.d (.int .i64 s5)), (.cptr [(.str (List.getD x1 (Int.toNat s5) (([] : List UInt8), ([] : List UInt8))).1), (.str (List.getD x1 (Int.toNat s5) (([] : List UInt8), ([] : List UInt8))).2)] 0), (.agg [(.d (.str (List.getD x1 (Int.toNat s5) (([] : List UInt8), ([] : List UInt8))).1)), (.d (.str (List.getD x1 (Int.toNat s5) (([] : List UInt8), ([] : List UInt8))).2))]), (.d (.bool (!(((List.getD x0 (Int.toNat s5) (([] : List UInt8), ([] : List UInt8))).1 == (List.getD x1 (Int.toNat s5) (([] : List UInt8), ([] : List UInt8))).1) && (((List.getD x0 (Int.toNat s5) (([] : List UInt8), ([] : List UInt8))).2 == (List.getD x1 (Int.toNat s5) (([] : List UInt8), ([] : List UInt8))).2) && true)))))], [.dead, .dead, .dead, .dead, .dead, .dead, .dead, .dead, .dead, .dead, .dead, .dead, .dead, .dead, .dead, .dead, .dead, .dead, .dead, .dead, .dead, .dead, .dead, .dead, .dead, .dead, .dead, .dead, .dead, .dead, .dead, .dead, .dead, .dead, .dead, .dead])
  | _ => (.exit 0, [(.d (.sl (.pair .str .str) x0)), (.d (.sl (.pair .str .str) x1)), .top, .top, .top, (.d (.int .i64 s5)), .top, .top, .top, .top, .top, (.d (.int .i64 s5)), (.d (.sl (.pair .str .str) x0)), (.d (.int .i64 (((List.length x0) : Nat) : Int))), (.d (.bool (decide (s5 < (((List.length x0) : Nat) : Int))))), .top, .top, .top, .top, .top, .top, .top, .top, .top, .top, .top], [])
noncomputable def lbl17_0 : AC := loopBody 35 body17

set_option maxHeartbeats 20000000 in
theorem l17_0_w0 (m n : Nat) (x0 : List ((List UInt8) × (List UInt8))) (x1 : List ((List UInt8) × (List UInt8))) (s5 : Int) (r : AEx × Env × Boxes) (c0 : decide (s5 < (((List.length x0) : Nat) : Int)) = true) (c1 : decide (0 ≤ s5) = true) (c4 : decide (s5 < (((List.length x1) : Nat) : Int)) = true) (c5 : (((List.getD x0 (Int.toNat s5) (([] : List UInt8), ([] : List UInt8))).1 == (List.getD x1 (Int.toNat s5) (([] : List UInt8), ([] : List UInt8))).1) && (((List.getD x0 (Int.toNat s5) (([] : List UInt8), ([] : List UInt8))).2 == (List.getD x1 (Int.toNat s5) (([] : List UInt8), ([] : List UInt8))).2) && true)) = true) (ih : (turns (hds 17 35) 0 35 (evC byref (evCall F S13 (m + 24)) (m + 24) 0 (hds 17) lbl17_0) n (l17_0H x0 x1 ((IntKind.wrap .i64 (s5 + (1))))) (l17_0B x0 x1 ((IntKind.wrap .i64 (s5 + (1)))))).run = some r) : (turns (hds 17 35) 0 35 (evC byref (evCall F S13 (m + 24)) (m + 24) 0 (hds 17) lbl17_0) (n + 1) (l17_0H x0 x1 s5) (l17_0B x0 x1 s5)).run = some r := by
  exact turns_step (M.run_of_path _ [true, true, true, true, true, false] _ _ (by kernel_rfl) (all_t c0 (all_t c1 (all_t c0 (all_t c1 (all_t c4 (all_nt c5 all_nil))))))) ih
set_option maxHeartbeats 20000000 in
theorem l17_0_w1 (m n : Nat) (x0 : List ((List UInt8) × (List UInt8))) (x1 : List ((List UInt8) × (List UInt8))) (s5 : Int) (c0 : decide (s5 < (((List.length x0) : Nat) : Int)) = true) (c1 : decide (0 ≤ s5) = true) (c4 : decide (s5 < (((List.length x1) : Nat) : Int)) = true) (c5 : ¬ (((List.getD x0 (Int.toNat s5) (([] : List UInt8), ([] : List UInt8))).1 == (List.getD x1 (Int.toNat s5) (([] : List UInt8), ([] : List UInt8))).1) && (((List.getD x0 (Int.toNat s5) (([] : List UInt8), ([] : List UInt8))).2 == (List.getD x1 (Int.toNat s5) (([] : List UInt8), ([] : List UInt8))).2) && true)) = true) : (turns (hds 17 35) 0 35 (evC byref (evCall F S13 (m + 24)) (m + 24) 0 (hds 17) lbl17_0) (n + 1) (l17_0H x0 x1 s5) (l17_0B x0 x1 s5)).run = some (.ret, [(.d (.sl (.pair .str .str) x0)), (.d (.sl (.pair .str .str) x1)), .top, .top, (.d (.bool false)), (.d (.int .i64 s5)), .top, .top, .top, .top, .top, (.d (.int .i64 s5)), (.d (.sl (.pair .str .str) x0)), (.d (.int .i64 (((List.length x0) : Nat) : Int))), (.d (.bool (decide (s5 < (((List.length x0) : Nat) : Int))))), .top, .top, (.d (.sl (.pair .str .str) x0)), (.d (.int .i64 s5)), (.cptr [(.str (List.getD x0 (Int.toNat s5) (([] : List UInt8), ([] : List UInt8))).1), (.str (List.getD x0 (Int.toNat s5) (([] : List UInt8), ([] : List UInt8))).2)] 0), (.agg [(.d (.str (List.getD x0 (Int.toNat s5) (([] : List UInt8), ([] : List UInt8))).1)), (.d (.str (List.getD x0 (Int.toNat s5) (([] : List UInt8), ([] : List UInt8))).2))]), (.d (.sl (.pair .str .str) x1)), (.d (.int .i64 s5)), (.cptr [(.str (List.getD x1 (Int.toNat s5) (([] : List UInt8), ([] : List UInt8))).1), (.str (List.getD x1 (Int.toNat s5) (([] : List UInt8), ([] : List UInt8))).2)] 0), (.agg [(.d (.str (List.getD x1 (Int.toNat s5) (([] : List UInt8), ([] : List UInt8))).1)), (.d (.str (List.getD x1 (Int.toNat s5) (([] : List UInt8), ([] : List UInt8))).2))]), (.d (.bool (!(((List.getD x0 (Int.toNat s5) (([] : List UInt8), ([] : List UInt8))).1 == (List.getD x1 (Int.toNat s5) (([] : List UInt8), ([] : List UInt8))).1) && (((List.getD x0 (Int.toNat s5) (([] : List UInt8), ([] : List UInt8))).2 == (List.getD x1 (Int.toNat s5) (([] : List UInt8), ([] : List UInt8))).2) && true)))))], [.dead, .dead, .dead, .dead, .dead, .dead, .dead, .dead, .dead, .dead, .dead, .dead, .dead, .dead, .dead, .dead, .dead, .dead, .dead, .dead, .dead, .dead, .dead, .dead, .dead, .dead, .dead, .dead, .dead, .dead, .dead, .dead, .dead, .dead, .dead, .dead]) := by
  exact turns_last (by simp) (M.run_of_path _ [true, true, true, true, true, true] _ _ (by kernel_rfl) (all_t c0 (all_t c1 (all_t c0 (all_t c1 (all_t c4 (all_nf c5 all_nil))))))) 
set_option maxHeartbeats 20000000 in
theorem l17_0_w2 (m n : Nat) (x0 : List ((List UInt8) × (List UInt8))) (x1 : List ((List UInt8) × (List UInt8))) (s5 : Int) (c0 : ¬ decide (s5 < (((List.length x0) : Nat) : Int)) = true) : (turns (hds 17 35) 0 35 (evC byref (evCall F S13 (m + 24)) (m + 24) 0 (hds 17) lbl17_0) (n + 1) (l17_0H x0 x1 s5) (l17_0B x0 x1 s5)).run = some (.exit 0, [(.d (.sl (.pair .str .str) x0)), (.d (.sl (.pair .str .str) x1)), .top, .top, .top, (.d (.int .i64 s5)), .top, .top, .top, .top, .top, (.d (.int .i64 s5)), (.d (.sl (.pair .str .str) x0)), (.d (.int .i64 (((List.length x0) : Nat) : Int))), (.d (.bool (decide (s5 < (((List.length x0) : Nat) : Int))))), .top, .top, .top, .top, .top, .top, .top, .top, .top, .top, .top], []) := by
  exact turns_last (by simp) (M.run_of_path _ [false] _ _ (by kernel_rfl) (all_f c0 all_nil)) 

set_option maxHeartbeats 20000000 in
theorem l17_0_step (m n : Nat) (ih : ∀ (x0 : List ((List UInt8) × (List UInt8))) (x1 : List ((List UInt8) × (List UInt8))) (s5 : Int) (q : Nat × Int), l17_0 m n x0 x1 s5 = some q → (turns (hds 17 35) 0 35 (evC byref (evCall F S13 (m + 24)) (m + 24) 0 (hds 17) lbl17_0) n (l17_0H x0 x1 s5) (l17_0B x0 x1 s5)).run = some (l17_0E (x0) (x1) (q.2) q.1)) (x0 : List ((List UInt8) × (List UInt8))) (x1 : List ((List UInt8) × (List UInt8))) (s5 : Int) (q : Nat × Int) (h : l17_0 m (n + 1) x0 x1 s5 = some q) : (turns (hds 17 35) 0 35 (evC byref (evCall F S13 (m + 24)) (m + 24) 0 (hds 17) lbl17_0) (n + 1) (l17_0H x0 x1 s5) (l17_0B x0 x1 s5)).run = some (l17_0E (x0) (x1) (q.2) q.1) := by
  rw [l17_0] at h
  refine ite_cases h (fun c0 h => ?_) (fun c0 h => ?_)
  · skip
    refine ite_cases h (fun c1 h => ?_) (fun c1 h => ?_)
    · skip
      refine ite_cases h (fun c4 h => ?_) (fun c4 h => ?_)
      · skip
        refine ite_cases h (fun c5 h => ?_) (fun c5 h => ?_)
        · skip
          exact l17_0_w0 m n x0 x1 s5 _ c0 c1 c4 c5 (ih _ _ _ q h)
        · skip
          cases h
          exact l17_0_w1 m n x0 x1 s5 c0 c1 c4 c5
      · skip
        cases h
    · skip
      cases h
  · skip
    cases h
    exact l17_0_w2 m n x0 x1 s5 c0
set_option maxHeartbeats 20000000 in
theorem l17_0_ok (m : Nat) : ∀ (n : Nat) (x0 : List ((List UInt8) × (List UInt8))) (x1 : List ((List UInt8) × (List UInt8))) (s5 : Int) (q : Nat × Int), l17_0 m n x0 x1 s5 = some q → (turns (hds 17 35) 0 35 (evC byref (evCall F S13 (m + 24)) (m + 24) 0 (hds 17) lbl17_0) n (l17_0H x0 x1 s5) (l17_0B x0 x1 s5)).run = some (l17_0E (x0) (x1) (q.2) q.1)
  | 0, x0, x1, s5, q, h => by cases h
  | n + 1, x0, x1, s5, q, h => l17_0_step m n (l17_0_ok m n) x0 x1 s5 q h

def p17 (m : Nat) (x0 : List ((List UInt8) × (List UInt8))) (x1 : List ((List UInt8) × (List UInt8))) : Option (Bool) :=
  if ((((List.length x0) : Nat) : Int) != (((List.length x1) : Nat) : Int)) = true then
    some (false)
  else
    if (Option.isSome (l17_0 m (m + 24) x0 x1 0)) = true then
      if ((l17_0R m (m + 24) x0 x1 0).1 == 0) = true then
        some (false)
      else
        if ((l17_0R m (m + 24) x0 x1 0).1 == 1) = true then
          some (true)
        else
          none
    else
      none
set_option maxHeartbeats 20000000 in
theorem p17_ok (m : Nat) (x0 : List ((List UInt8) × (List UInt8))) (x1 : List ((List UInt8) × (List UInt8))) (q : Bool) (h : p17 m x0 x1 = some q) : ∃ r B1, (evCall F S13 (m + 25) 17 [(.d (.sl (.pair .str .str) x0)), (.d (.sl (.pair .str .str) x1))] []).run = some (r, B1) ∧ 0 ≤ B1.length ∧ wkR B1 [] r (.d (.bool (q))) ∧ wkBs B1 [] 0 [] := by
  unfold p17 at h
  refine ite_cases h (fun c0 h => ?_) (fun c0 h => ?_)
  · skip
    cases h
    refine ⟨(.d (.bool false)), [], runT_ok (LS := (fun k => none)) (fn := fn17) (vis := []) (by kernel_rfl) rfl (by kernel_rfl) (M.run_of_path _ [true] _ _ (by kernel_rfl) (all_t c0 all_nil)) ?_, by simp, (wkR.one (wkV.one (wk1.eq rfl))), trivial⟩
    intro p hp; cases hp
  · skip
    refine ite_cases h (fun c1 h => ?_) (fun c1 h => ?_)
    · skip
      refine ite_cases h (fun c2 h => ?_) (fun c2 h => ?_)
      · skip
        cases h
        refine ⟨(.d (.bool false)), [], runT_ok (LS := (fun k => if k = 35 then some (l17_0E x0 x1 ((l17_0R m (m + 24) x0 x1 0).2) 0) else none)) (fn := fn17) (vis := [(35, l17_0H x0 x1 0, l17_0B x0 x1 0)]) (by kernel_rfl) rfl (by kernel_rfl) (M.run_of_path _ [false] _ _ (by kernel_rfl) (all_f c0 all_nil)) ?_, by simp, (wkR.one (wkV.one (wk1.eq rfl))), trivial⟩
        intro p hp p2 hq
        rcases List.mem_cons.1 hp with rfl | hp
        · skip
          have h3 := l17_0_ok m (m + 24) x0 x1 0 _ (some_getD (d := l17_0D) c1)
          rw [eq_of_beq c2] at h3
          exact Eq.trans (Eq.mp (by kernel_rfl) h3) hq
        cases hp
      · skip
        refine ite_cases h (fun c3 h => ?_) (fun c3 h => ?_)
        · skip
          cases h
          refine ⟨(.d (.bool true)), [], runT_ok (LS := (fun k => if k = 35 then some (l17_0E x0 x1 ((l17_0R m (m + 24) x0 x1 0).2) 1) else none)) (fn := fn17) (vis := [(35, l17_0H x0 x1 0, l17_0B x0 x1 0)]) (by kernel_rfl) rfl (by kernel_rfl) (M.run_of_path _ [false] _ _ (by kernel_rfl) (all_f c0 all_nil)) ?_, by simp, (wkR.one (wkV.one (wk1.eq rfl))), trivial⟩
          intro p hp p2 hq
          rcases List.mem_cons.1 hp with rfl | hp
          · skip
            have h3 := l17_0_ok m (m + 24) x0 x1 0 _ (some_getD (d := l17_0D) c1)
            rw [eq_of_beq c3] at h3
            exact Eq.trans (Eq.mp (by kernel_rfl) h3) hq
          cases hp
        · skip
          cases h
    · skip
      cases h

theorem eq17_loop (m : Nat) (a b : List ((List UInt8) × (List UInt8))) (hl : a.length = b.length) (hb : a.length < 4611686018427387904) : ∀ n k, k ≤ a.length → a.length - k < n → ∃ j, l17_0 m n a b (k : Nat) = some (if a.drop k == b.drop k then 1 else 0, j)
  | 0, k, _, h => by omega
  | n + 1, k, hk, hn => by
    rw [l17_0]
    by_cases h : k < a.length
    · have hs : ∀ u v : (List UInt8) × (List UInt8), ((u.1 == v.1) && ((u.2 == v.2) && true)) = (u == v) := fun u v => by rw [Bool.and_true]; rfl
      have e1 : decide (((k : Nat) : Int) < ((a.length : Nat) : Int)) = true := decide_eq_true (by omega)
      have e2 : decide ((0 : Int) ≤ ((k : Nat) : Int)) = true := decide_eq_true (by omega)
      have e3 : decide (((k : Nat) : Int) < ((b.length : Nat) : Int)) = true := decide_eq_true (by omega)
      simp only [e1, e2, e3, if_true, Int.toNat_natCast,hs]
      rw [drop_getD a k (([] : List UInt8), ([] : List UInt8)) h, drop_getD b k (([] : List UInt8), ([] : List UInt8)) (by omega)]
      have ew : IntKind.wrap .i64 (((k : Nat) : Int) + (1)) = ((k + 1 : Nat) : Int) := by rw [wrap_id (by omega) (by omega)]; rfl
      rw [ew]
      obtain ⟨j, hj⟩ := eq17_loop m a b hl hb n (k + 1) (by omega) (by omega)
      have hc : ((a.getD k (([] : List UInt8), ([] : List UInt8))) :: a.drop (k + 1) == (b.getD k (([] : List UInt8), ([] : List UInt8))) :: b.drop (k + 1)) = (((a.getD k (([] : List UInt8), ([] : List UInt8))) == (b.getD k (([] : List UInt8), ([] : List UInt8)))) && (a.drop (k + 1) == b.drop (k + 1))) := rfl
      rw [hc]
      rcases Bool.eq_false_or_eq_true ((a.getD k (([] : List UInt8), ([] : List UInt8))) == (b.getD k (([] : List UInt8), ([] : List UInt8)))) with he | he
      · exact ⟨j, by simp only [he, hj]; simp⟩
      · exact ⟨(k : Nat), by simp only [he]; simp⟩
    · have e1 : decide (((k : Nat) : Int) < ((a.length : Nat) : Int)) = false := decide_eq_false (by omega)
      refine ⟨(k : Nat), ?_⟩
      simp only [e1, Bool.false_eq_true, if_false]
      rw [List.drop_eq_nil_of_le (by omega), List.drop_eq_nil_of_le (by omega)]
      rfl
theorem eq17 (a b : List ((List UInt8) × (List UInt8))) (h : decide (List.length a < 4611686018427387904) = true) : ∃ m, p17 m a b = some (a == b) := by
  have hb := of_decide_eq_true h
  refine ⟨a.length, ?_⟩
  unfold p17 l17_0R
  by_cases hl : a.length = b.length
  · have e0 : ((((List.length a) : Nat) : Int) != (((List.length b) : Nat) : Int)) = false := by simp [hl]
    obtain ⟨j, hj⟩ := eq17_loop a.length a b hl hb (a.length + 24) 0 (by omega) (by omega)
    simp only [Int.natCast_zero, List.drop_zero] at hj
    rw [e0]
    simp only [Bool.false_eq_true, if_false]
    rw [hj]
    cases hab : a == b <;> simp [hab]
  · have e0 : ((((List.length a) : Nat) : Int) != (((List.length b) : Nat) : Int)) = true := by simp; omega
    rw [e0]
    have : (a == b) = false := by
      rw [beq_eq_false_iff_ne]
      intro e; rw [e] at hl; exact hl rfl
    simp [this]
def s17 : List AV → Boxes → M (AV × Boxes) := normS [.val (.sl (.pair .str .str)), .val (.sl (.pair .str .str))] [] fun xs B => match xs, B with
  | [(.d (.sl (.pair .str .str) c1)), (.d (.sl (.pair .str .str) c2))], [] => .chk (decide (List.length c1 < 4611686018427387904)) (.ret ((.d (.bool ((show List ((List UInt8) × (List UInt8)) from c1) == c2))), []))
  | _, _ => .fail
theorem s17_at : CallAt Tryd.prog 17 s17 := by
  refine CallAt.norm (CallAt.weakE (g := fun n => evCall F S13 n 17) (fun n => evCall_atH mixed kinds hds S13 S13_ok n 17) fun xs B r' B' hr => ?_) _ _
  split at hr
  · rename_i c1 c2
    obtain ⟨hp, hr⟩ := (M.run_chk _ _ _).1 hr
    simp only [M.run, Option.some.injEq, Prod.mk.injEq] at hr
    obtain ⟨rfl, rfl⟩ := hr
    obtain ⟨m, hm⟩ := eq17 c1 c2 hp
    obtain ⟨r, B1, h1, h2, h3, h4⟩ := p17_ok m c1 c2 _ hm
    exact ⟨m + 25, r, B1, h1, by simp, h2, h3, h4⟩
  · simp [M.run] at hr
noncomputable def S14 : FuncId → Option (List AV → Boxes → M (AV × Boxes)) := fun f => if f = 17 then some s17 else S13 f
set_option maxHeartbeats 20000000 in
theorem S14_ok : ∀ f s, S14 f = some s → CallAt Tryd.prog f s := by
  intro f s h
  unfold S14 at h
  split at h
  · rename_i e; subst e; cases h; exact s17_at
  · exact S13_ok f s h

end Go.Proofs.YtcdpgldecikejaaDoor.Dec
namespace Go.Proofs.YtcdpgldecikejaaDoor.Dec
open Go.Ev
set_option linter.unusedVariables false
set_option linter.unusedSimpArgs false
set_option maxRecDepth 100000
theorem runs14 : Known Tryd.prog 14 [] (.d (.bool true)) := known Go.Proofs.YtcdpgldecikejaaDoor.Ev.mixed (kinds := Go.Proofs.YtcdpgldecikejaaDoor.Ev.kinds) (n := 300) Go.Proofs.YtcdpgldecikejaaDoor.Ev.S_ok (by kernel_rfl)
def trueG : List D → M AV
  | [] => .ret (.d (.bool true))
  | _ => .fail
theorem true14 : CallAt Tryd.prog 14 (plainV trueG) := by
  refine plainV_at fun ds r hr => ?_
  unfold trueG at hr
  split at hr
  · simp only [M.run, Option.some.injEq] at hr
    subst hr
    exact runs14
  · simp [M.run] at hr
theorem runs35 : Known Tryd.prog 35 [] (.d (.bool true)) := known Go.Proofs.YtcdpgldecikejaaDoor.Ev.mixed (kinds := Go.Proofs.YtcdpgldecikejaaDoor.Ev.kinds) (n := 300) Go.Proofs.YtcdpgldecikejaaDoor.Ev.S_ok (by kernel_rfl)
theorem true35 : CallAt Tryd.prog 35 (plainV trueG) := by
  refine plainV_at fun ds r hr => ?_
  unfold trueG at hr
  split at hr
  · simp only [M.run, Option.some.injEq] at hr
    subst hr
    exact runs35
  · simp [M.run] at hr

noncomputable def S15 : FuncId → Option (List AV → Boxes → M (AV × Boxes)) := fun f => if f = 14 then some (plainV trueG) else S14 f
set_option maxHeartbeats 20000000 in
theorem S15_ok : ∀ f s, S15 f = some s → CallAt Tryd.prog f s := by
  intro f s h
  unfold S15 at h
  split at h
  · rename_i e; subst e; cases h; exact true14
  · exact S14_ok f s h

noncomputable def S16 : FuncId → Option (List AV → Boxes → M (AV × Boxes)) := fun f => if f = 35 then some (plainV trueG) else S15 f
set_option maxHeartbeats 20000000 in
theorem S16_ok : ∀ f s, S16 f = some s → CallAt Tryd.prog f s := by
  intro f s h
  unfold S16 at h
  split at h
  · rename_i e; subst e; cases h; exact true35
  · exact S15_ok f s h

end Go.Proofs.YtcdpgldecikejaaDoor.Dec
namespace Go.Proofs.YtcdpgldecikejaaDoor.Dec
open Go.Ev
set_option linter.unusedVariables false
set_option linter.unusedSimpArgs false
set_option maxRecDepth 100000
theorem valG_in (l : List Int) (i : Int) : valG l i ∈ valuesG := by
  unfold valG
  refine getD_mem valuesG _ _ ?_
  have : 0 ≤ withinI (pickG l i) (0) (7) ∧ withinI (pickG l i) (0) (7) < 8 := by unfold withinI; omega
  show _ < 8
  omega
theorem val_len {v : List UInt8} (h : v ∈ valuesG) : 1 ≤ v.length ∧ v.length ≤ 3 := by
  have : ∀ v ∈ valuesG, 1 ≤ v.length ∧ v.length ≤ 3 := by decide
  exact this v h
def set4 (h0 h1 h2 h3 : Bool) (v0 v1 v2 v3 : List UInt8) : LB := (if h0 then [(([97] : List UInt8), v0)] else []) ++ (if h1 then [(([98] : List UInt8), v1)] else []) ++ (if h2 then [(([99] : List UInt8), v2)] else []) ++ (if h3 then [(([110, 97, 109, 101] : List UInt8), v3)] else [])
theorem setG_of (k : List Int × List Int) : ∃ h0 h1 h2 v0 v1 v2, setG k = set4 h0 h1 h2 false v0 v1 v2 [120] ∧ v0 ∈ valuesG ∧ v1 ∈ valuesG ∧ v2 ∈ valuesG := by
  refine ⟨bit1 k.1 0 0, bit1 k.1 1 1, bit1 k.1 2 2, valG k.2 0, valG k.2 1, valG k.2 2, ?_, valG_in .., valG_in .., valG_in ..⟩
  unfold setG set4
  simp
theorem set4_right (h0 h1 h2 h3 : Bool) {v0 v1 v2 v3 : List UInt8} (a0 : 1 ≤ v0.length ∧ v0.length ≤ 3) (a1 : 1 ≤ v1.length ∧ v1.length ≤ 3) (a2 : 1 ≤ v2.length ∧ v2.length ≤ 3) (a3 : 1 ≤ v3.length ∧ v3.length ≤ 3) : lrightG (set4 h0 h1 h2 h3 v0 v1 v2 v3) = true := by
  have w0 : wordG [97] = true := by decide
  have w1 : wordG [98] = true := by decide
  have w2 : wordG [99] = true := by decide
  have w3 : wordG [110, 97, 109, 101] = true := by decide
  have l1 : Op.bytesLess ([97] : List UInt8) [98] = true := by decide
  have l2 : Op.bytesLess ([97] : List UInt8) [99] = true := by decide
  have l3 : Op.bytesLess ([98] : List UInt8) [99] = true := by decide
  have l4 : Op.bytesLess ([97] : List UInt8) [110, 97, 109, 101] = true := by decide
  have l5 : Op.bytesLess ([98] : List UInt8) [110, 97, 109, 101] = true := by decide
  have l6 : Op.bytesLess ([99] : List UInt8) [110, 97, 109, 101] = true := by decide
  have g0 : lab1 (([97] : List UInt8), v0) = true := by unfold lab1; rw [w0, decide_eq_true a0.1, decide_eq_true (show v0.length ≤ 24 by omega)]; rfl
  have g1 : lab1 (([98] : List UInt8), v1) = true := by unfold lab1; rw [w1, decide_eq_true a1.1, decide_eq_true (show v1.length ≤ 24 by omega)]; rfl
  have g2 : lab1 (([99] : List UInt8), v2) = true := by unfold lab1; rw [w2, decide_eq_true a2.1, decide_eq_true (show v2.length ≤ 24 by omega)]; rfl
  have g3 : lab1 (([110, 97, 109, 101] : List UInt8), v3) = true := by unfold lab1; rw [w3, decide_eq_true a3.1, decide_eq_true (show v3.length ≤ 24 by omega)]; rfl
  cases h0 <;> cases h1 <;> cases h2 <;> cases h3 <;> simp [set4, lrightG, lrise, g0, g1, g2, g3, l1, l2, l3, l4, l5, l6]
theorem set4_len (h0 h1 h2 h3 : Bool) (v0 v1 v2 v3 : List UInt8) : (set4 h0 h1 h2 h3 v0 v1 v2 v3).length ≤ 4 := by
  cases h0 <;> cases h1 <;> cases h2 <;> cases h3 <;> simp [set4]
theorem set4_pre {l : LB} (h : lrightG l = true) : lrightPre l = true := by
  have := lright_all h
  exact decide_eq_true ⟨by omega, fun z hz => by have := this.2 z hz; omega⟩
theorem set4_filter (p : (List UInt8) × (List UInt8) → Bool) (f : List UInt8 → Bool) (hp : ∀ x, p x = f x.1) (h0 h1 h2 h3 : Bool) (v0 v1 v2 v3 : List UInt8) : (set4 h0 h1 h2 h3 v0 v1 v2 v3).filter p = set4 (h0 && f [97]) (h1 && f [98]) (h2 && f [99]) (h3 && f [110, 97, 109, 101]) v0 v1 v2 v3 := by
  have one : ∀ (h : Bool) (n v : List UInt8), (if h then [(n, v)] else []).filter p = (if (h && f n) then [(n, v)] else []) := by
    intro h n v
    cases h with
    | false => rfl
    | true =>
      rw [Bool.true_and, if_pos rfl, List.filter_cons, hp]
      cases f n <;> rfl
  unfold set4
  rw [List.filter_append, List.filter_append, List.filter_append, one, one, one, one]
theorem set4_get0 (h0 h1 h2 h3 : Bool) (v0 v1 v2 v3 : List UInt8) : getG (set4 h0 h1 h2 h3 v0 v1 v2 v3) [97] = if h0 then v0 else [] := by cases h0 <;> cases h1 <;> cases h2 <;> cases h3 <;> rfl
theorem set4_get1 (h0 h1 h2 h3 : Bool) (v0 v1 v2 v3 : List UInt8) : getG (set4 h0 h1 h2 h3 v0 v1 v2 v3) [98] = if h1 then v1 else [] := by cases h0 <;> cases h1 <;> cases h2 <;> cases h3 <;> rfl
theorem set4_get2 (h0 h1 h2 h3 : Bool) (v0 v1 v2 v3 : List UInt8) : getG (set4 h0 h1 h2 h3 v0 v1 v2 v3) [99] = if h2 then v2 else [] := by cases h0 <;> cases h1 <;> cases h2 <;> cases h3 <;> rfl
theorem set4_get3 (h0 h1 h2 h3 : Bool) (v0 v1 v2 v3 : List UInt8) : getG (set4 h0 h1 h2 h3 v0 v1 v2 v3) [110, 97, 109, 101] = if h3 then v3 else [] := by cases h0 <;> cases h1 <;> cases h2 <;> cases h3 <;> rfl

end Go.Proofs.YtcdpgldecikejaaDoor.Dec
namespace Go.Proofs.YtcdpgldecikejaaDoor.Dec
open Go.Ev
set_option linter.unusedVariables false
set_option linter.unusedSimpArgs false
set_option maxRecDepth 100000
theorem escB_sp {c : UInt8} (h : UInt8.toNat c = 34 ∨ UInt8.toNat c = 92) : escB c = [92, c] := if_pos h
theorem escB_no {c : UInt8} (h : ¬ (UInt8.toNat c = 34 ∨ UInt8.toNat c = 92)) : escB c = [c] := if_neg h
/-- An escaped text is read in one way. -/
theorem esc_inj : ∀ (v v' r r' : List UInt8), v.flatMap escB ++ 34 :: r = v'.flatMap escB ++ 34 :: r' → v = v' ∧ r = r'
  | [], [], r, r', h => ⟨rfl, (List.cons.inj h).2⟩
  | [], c :: t, r, r', h => by
    exfalso
    rw [List.flatMap_cons, List.append_assoc] at h
    by_cases hc : UInt8.toNat c = 34 ∨ UInt8.toNat c = 92
    · rw [escB_sp hc] at h
      have := (List.cons.inj h).1
      revert this; decide
    · rw [escB_no hc] at h
      have := (List.cons.inj h).1
      exact hc (.inl (by rw [← this]; rfl))
  | c :: t, [], r, r', h => by
    exfalso
    rw [List.flatMap_cons, List.append_assoc] at h
    by_cases hc : UInt8.toNat c = 34 ∨ UInt8.toNat c = 92
    · rw [escB_sp hc] at h
      have := (List.cons.inj h).1
      revert this; decide
    · rw [escB_no hc] at h
      have := (List.cons.inj h).1
      exact hc (.inl (by rw [this]; rfl))
  | c :: t, c' :: t', r, r', h => by
    rw [List.flatMap_cons, List.flatMap_cons, List.append_assoc, List.append_assoc] at h
    by_cases hc : UInt8.toNat c = 34 ∨ UInt8.toNat c = 92
    · by_cases hc' : UInt8.toNat c' = 34 ∨ UInt8.toNat c' = 92
      · rw [escB_sp hc, escB_sp hc'] at h
        obtain ⟨e, h⟩ := List.cons.inj (List.cons.inj h).2
        obtain ⟨e1, e2⟩ := esc_inj t t' r r' h
        exact ⟨by rw [e, e1], e2⟩
      · rw [escB_sp hc, escB_no hc'] at h
        have := (List.cons.inj h).1
        exact absurd (.inr (by rw [← this]; rfl)) hc'
    · by_cases hc' : UInt8.toNat c' = 34 ∨ UInt8.toNat c' = 92
      · rw [escB_no hc, escB_sp hc'] at h
        have := (List.cons.inj h).1
        exact absurd (.inr (by rw [this]; rfl)) hc
      · rw [escB_no hc, escB_no hc'] at h
        obtain ⟨e, h⟩ := List.cons.inj h
        obtain ⟨e1, e2⟩ := esc_inj t t' r r' h
        exact ⟨by rw [e, e1], e2⟩
theorem quote_app (v r : List UInt8) : quoteG v ++ r = 34 :: (v.flatMap escB ++ 34 :: r) := by unfold quoteG; simp
theorem quote_inj {v v' r r' : List UInt8} (h : quoteG v ++ r = quoteG v' ++ r') : v = v' ∧ r = r' := by
  rw [quote_app, quote_app] at h
  exact esc_inj v v' r r' (List.cons.inj h).2
/-- A name ends where a byte stands that is none of a name's. -/
theorem name_inj : ∀ (n n' : List UInt8) {c c' : UInt8} {r r' : List UInt8}, n.all innerB = true → n'.all innerB = true → innerB c = false → innerB c' = false → n ++ c :: r = n' ++ c' :: r' → n = n' ∧ c :: r = c' :: r'
  | [], [], c, c', r, r', _, _, _, _, h => ⟨rfl, h⟩
  | [], b :: n', c, c', r, r', _, h2, h3, _, h => by
    have := (List.cons.inj h).1
    rw [List.all_cons, Bool.and_eq_true] at h2
    rw [this, h2.1] at h3; cases h3
  | a :: n, [], c, c', r, r', h1, _, _, h4, h => by
    have := (List.cons.inj h).1
    rw [List.all_cons, Bool.and_eq_true] at h1
    rw [← this, h1.1] at h4; cases h4
  | a :: n, b :: n', c, c', r, r', h1, h2, h3, h4, h => by
    rw [List.all_cons, Bool.and_eq_true] at h1 h2
    obtain ⟨e, h⟩ := List.cons.inj h
    obtain ⟨e1, e2⟩ := name_inj n n' h1.2 h2.2 h3 h4 h
    exact ⟨by rw [e, e1], e2⟩
theorem word_inner {n : List UInt8} (h : wordG n = true) : n.all innerB = true ∧ ∃ a t, n = a :: t ∧ innerB a = true := by
  unfold wordG at h
  simp only [Bool.and_eq_true, decide_eq_true_eq] at h
  refine ⟨h.2, ?_⟩
  cases n with
  | nil => simp at h
  | cons a t => rw [List.all_cons, Bool.and_eq_true] at h; exact ⟨a, t, rfl, h.2.1⟩
/-- Joined parts, up to the end. -/
def tailJ {α : Type} (it : α → List UInt8) (xs : List α) (r : List UInt8) : List UInt8 := Lib.join (xs.map it) [44] ++ 125 :: r
theorem tailJ_one {α : Type} (it : α → List UInt8) (a : α) (r : List UInt8) : tailJ it [a] r = it a ++ 125 :: r := by
  unfold tailJ Lib.join; simp [List.intercalate]
theorem tailJ_two {α : Type} (it : α → List UInt8) (a b : α) (l : List α) (r : List UInt8) : tailJ it (a :: b :: l) r = it a ++ 44 :: tailJ it (b :: l) r := by
  unfold tailJ Lib.join; simp [List.intercalate]
theorem tailJ_nil {α : Type} (it : α → List UInt8) (r : List UInt8) : tailJ it [] r = 125 :: r := rfl
theorem join_inj {α : Type} (it : α → List UInt8) (ok : α → Prop) (pf : ∀ x y r r', ok x → ok y → it x ++ r = it y ++ r' → x = y ∧ r = r') (hd : ∀ x, ok x → ∃ a t, it x = a :: t ∧ innerB a = true) :
    ∀ (xs ys : List α) (r r' : List UInt8), (∀ x ∈ xs, ok x) → (∀ y ∈ ys, ok y) → tailJ it xs r = tailJ it ys r' → xs = ys ∧ r = r'
  | [], [], r, r', _, _, h => ⟨rfl, (List.cons.inj h).2⟩
  | [], y :: ys, r, r', _, h2, h => by
    exfalso
    obtain ⟨a, t, e, ha⟩ := hd y (h2 y (List.mem_cons_self ..))
    have : ∃ q, tailJ it (y :: ys) r' = a :: q := by
      cases ys with
      | nil => exact ⟨_, by rw [tailJ_one, e]; rfl⟩
      | cons b l => exact ⟨_, by rw [tailJ_two, e]; rfl⟩
    obtain ⟨q, hq⟩ := this
    rw [tailJ_nil, hq] at h
    rw [← (List.cons.inj h).1] at ha
    revert ha; decide
  | x :: xs, [], r, r', h1, _, h => by
    exfalso
    obtain ⟨a, t, e, ha⟩ := hd x (h1 x (List.mem_cons_self ..))
    have : ∃ q, tailJ it (x :: xs) r = a :: q := by
      cases xs with
      | nil => exact ⟨_, by rw [tailJ_one, e]; rfl⟩
      | cons b l => exact ⟨_, by rw [tailJ_two, e]; rfl⟩
    obtain ⟨q, hq⟩ := this
    rw [tailJ_nil, hq] at h
    rw [(List.cons.inj h).1] at ha
    revert ha; decide
  | [x], [y], r, r', h1, h2, h => by
    rw [tailJ_one, tailJ_one] at h
    obtain ⟨e1, e2⟩ := pf _ _ _ _ (h1 x (List.mem_cons_self ..)) (h2 y (List.mem_cons_self ..)) h
    exact ⟨by rw [e1], (List.cons.inj e2).2⟩
  | [x], y :: b :: ys, r, r', h1, h2, h => by
    rw [tailJ_one, tailJ_two] at h
    obtain ⟨e1, e2⟩ := pf _ _ _ _ (h1 x (List.mem_cons_self ..)) (h2 y (List.mem_cons_self ..)) h
    have := (List.cons.inj e2).1
    exfalso; revert this; decide
  | x :: b :: xs, [y], r, r', h1, h2, h => by
    rw [tailJ_one, tailJ_two] at h
    obtain ⟨e1, e2⟩ := pf _ _ _ _ (h1 x (List.mem_cons_self ..)) (h2 y (List.mem_cons_self ..)) h
    have := (List.cons.inj e2).1
    exfalso; revert this; decide
  | x :: b :: xs, y :: b' :: ys, r, r', h1, h2, h => by
    rw [tailJ_two, tailJ_two] at h
    obtain ⟨e1, e2⟩ := pf _ _ _ _ (h1 x (List.mem_cons_self ..)) (h2 y (List.mem_cons_self ..)) h
    obtain ⟨e3, e4⟩ := join_inj it ok pf hd (b :: xs) (b' :: ys) r r' (fun z hz => h1 z (List.mem_cons_of_mem _ hz)) (fun z hz => h2 z (List.mem_cons_of_mem _ hz)) (List.cons.inj e2).2
    exact ⟨by rw [e1, e3], e4⟩
theorem litem_pf (x y : (List UInt8) × (List UInt8)) (r r' : List UInt8) (hx : wordG x.1 = true) (hy : wordG y.1 = true) (h : litemG x ++ r = litemG y ++ r') : x = y ∧ r = r' := by
  unfold litemG at h
  simp only [List.append_assoc, List.cons_append, List.nil_append] at h
  obtain ⟨e1, e2⟩ := name_inj _ _ (word_inner hx).1 (word_inner hy).1 (by decide) (by decide) h
  obtain ⟨e3, e4⟩ := quote_inj (List.cons.inj e2).2
  exact ⟨Prod.ext e1 e3, e4⟩
theorem litem_hd (x : (List UInt8) × (List UInt8)) (hx : wordG x.1 = true) : ∃ a t, litemG x = a :: t ∧ innerB a = true := by
  obtain ⟨a, t, e, ha⟩ := (word_inner hx).2
  exact ⟨a, _, by unfold litemG; rw [e]; rfl, ha⟩
theorem lprint_eq {l : LB} (h : lrightG l = true) : lprintG l = 123 :: tailJ litemG l [] := by
  unfold lprintG tailJ; rw [if_pos h]; rfl
theorem lright_words {l : LB} (h : lrightG l = true) : ∀ x ∈ l, wordG x.1 = true := by
  intro x hx
  unfold lrightG at h
  rw [Bool.and_eq_true, Bool.and_eq_true] at h
  have := List.all_eq_true.1 h.1.1 x hx
  unfold lab1 at this
  rw [Bool.and_eq_true, Bool.and_eq_true] at this
  exact this.1.1
/-- Two right sets have one text just if they are the same. -/
theorem lprint_inj {x y : LB} (hx : lrightG x = true) (hy : lrightG y = true) (h : lprintG x = lprintG y) : x = y := by
  rw [lprint_eq hx, lprint_eq hy] at h
  exact (join_inj litemG (fun x => wordG x.1 = true) litem_pf litem_hd x y [] [] (lright_words hx) (lright_words hy) (List.cons.inj h).2).1
theorem cmp_neg : ∀ a b : List UInt8, Lib.compareBytes a b = - Lib.compareBytes b a
  | [], [] => rfl
  | [], _ :: _ => rfl
  | _ :: _, [] => rfl
  | a :: x, b :: y => by
    rw [Lib.compareBytes, Lib.compareBytes]
    by_cases h1 : a < b
    · have h2 : ¬ b < a := fun h => by rw [UInt8.lt_iff_toNat_lt] at h1 h; omega
      rw [if_pos h1, if_neg h2, if_pos h1]
    · by_cases h2 : b < a
      · rw [if_neg h1, if_pos h2, if_pos h2]; rfl
      · rw [if_neg h1, if_neg h2, if_neg h2, if_neg h1]; exact cmp_neg x y
theorem cmp_zero : ∀ a b : List UInt8, Lib.compareBytes a b = 0 ↔ a = b
  | [], [] => by simp [Lib.compareBytes]
  | [], _ :: _ => by simp [Lib.compareBytes]
  | _ :: _, [] => by simp [Lib.compareBytes]
  | a :: x, b :: y => by
    rw [Lib.compareBytes]
    by_cases h1 : a < b
    · rw [if_pos h1]
      constructor
      · intro h; omega
      · intro h; rw [(List.cons.inj h).1, UInt8.lt_iff_toNat_lt] at h1; omega
    · by_cases h2 : b < a
      · rw [if_neg h1, if_pos h2]
        constructor
        · intro h; omega
        · intro h; rw [(List.cons.inj h).1, UInt8.lt_iff_toNat_lt] at h2; omega
      · rw [if_neg h1, if_neg h2, cmp_zero x y]
        have : a = b := by
          rw [UInt8.lt_iff_toNat_lt] at h1 h2
          exact UInt8.toNat_inj.1 (by omega)
        rw [this]
        simp
theorem cmp_in : ∀ a b : List UInt8, -1 ≤ Lib.compareBytes a b ∧ Lib.compareBytes a b ≤ 1
  | [], [] => by decide
  | [], _ :: _ => by simp [Lib.compareBytes]
  | _ :: _, [] => by simp [Lib.compareBytes]
  | a :: x, b :: y => by
    rw [Lib.compareBytes]
    split
    · omega
    · split
      · omega
      · exact cmp_in x y

end Go.Proofs.YtcdpgldecikejaaDoor.Dec
namespace Go.Proofs.YtcdpgldecikejaaDoor.Dec
open Go.Ev
set_option linter.unusedVariables false
set_option linter.unusedSimpArgs false
set_option maxRecDepth 100000
noncomputable def fn44 : AFn := (F 44).getD ⟨0, [], .bad, false, false, noHd⟩
noncomputable def body44 : AC := fn44.body
def l44_0 (m : Nat) : Nat → List UInt8 → Nat → Int → List Int → Option (Nat × Nat × Int × (List Int))
  | 0, _, _, _, _ => none
  | n + 1, x0, 0, s6, b1 => if decide (1 < (((List.length x0) : Nat) : Int)) = true then
      if (((UInt8.toNat (List.getD x0 1 0) : Nat) : Int) == (34)) = true then
        if decide (2 ≤ (((List.length x0) : Nat) : Int)) = true then
          if decide (0 < (((List.length x0) : Nat) : Int)) = true then
            some (0, 0, s6, b1)
          else
            none
        else
          none
      else
        if (((UInt8.toNat (List.getD x0 1 0) : Nat) : Int) == (92)) = true then
          if decide (2 < (((List.length x0) : Nat) : Int)) = true then
            l44_0 m n x0 1 3 ([((UInt8.toNat (List.getD x0 2 0) : Nat) : Int)])
          else
            l44_0 m n x0 1 2 ([((UInt8.toNat (List.getD x0 1 0) : Nat) : Int)])
        else
          l44_0 m n x0 1 2 ([((UInt8.toNat (List.getD x0 1 0) : Nat) : Int)])
    else
      some (1, 0, s6, b1)
  | n + 1, x0, 1, s6, b1 => if decide (s6 < (((List.length x0) : Nat) : Int)) = true then
      if decide (0 ≤ s6) = true then
        if (((UInt8.toNat (List.getD x0 (Int.toNat s6) 0) : Nat) : Int) == (34)) = true then
          if decide ((List.length b1) = 0) = true then
            none
          else
            if (((decide ((((List.length b1) : Nat) : Int) = (((List.length b1) : Nat) : Int)) && (!List.isEmpty b1)) && decide ((List.length b1) ≤ 9223372036854775807)) && List.all b1 (fun n => decide (0 ≤ n) && decide (n < 256))) = true then
              if (decide (0 ≤ (IntKind.wrap .i64 (s6 + (1)))) && decide ((IntKind.wrap .i64 (s6 + (1))) ≤ (((List.length x0) : Nat) : Int))) = true then
                if decide (0 < (((List.length x0) : Nat) : Int)) = true then
                  some (2, 1, s6, b1)
                else
                  none
              else
                none
            else
              none
        else
          if (((UInt8.toNat (List.getD x0 (Int.toNat s6) 0) : Nat) : Int) == (92)) = true then
            if decide ((IntKind.wrap .i64 (s6 + (1))) < (((List.length x0) : Nat) : Int)) = true then
              if decide (0 ≤ (IntKind.wrap .i64 (s6 + (1)))) = true then
                if decide ((((List.length b1) + 1) * 1) ≤ 70368744177664) = true then
                  l44_0 m n x0 1 ((IntKind.wrap .i64 ((IntKind.wrap .i64 (s6 + (1))) + (1)))) ((b1 ++ [((UInt8.toNat (List.getD x0 (Int.toNat (IntKind.wrap .i64 (s6 + (1)))) 0) : Nat) : Int)]))
                else
                  none
              else
                none
            else
              if decide ((((List.length b1) + 1) * 1) ≤ 70368744177664) = true then
                l44_0 m n x0 1 ((IntKind.wrap .i64 (s6 + (1)))) ((b1 ++ [((UInt8.toNat (List.getD x0 (Int.toNat s6) 0) : Nat) : Int)]))
              else
                none
          else
            if decide ((((List.length b1) + 1) * 1) ≤ 70368744177664) = true then
              l44_0 m n x0 1 ((IntKind.wrap .i64 (s6 + (1)))) ((b1 ++ [((UInt8.toNat (List.getD x0 (Int.toNat s6) 0) : Nat) : Int)]))
            else
              none
      else
        none
    else
      some (3, 1, s6, b1)
  | n + 1, _, _ + 2, _, _ => none
def l44_0D : Nat × Nat × Int × (List Int) := (0, 0, 0, [])
@[reducible] def l44_0R (m n : Nat) (x0 : List UInt8) (md : Nat) (s6 : Int) (b1 : List Int) : Nat × Nat × Int × (List Int) := Option.getD (l44_0 m n x0 md s6 b1) l44_0D
def l44_0H (x0 : List UInt8) (md : Nat) (s6 : Int) (b1 : List Int) : Env := match md with | 0 => [(.d (.str x0)), .top, .top, .top, .top, (.ptr 0 0), (.d (.int .i64 (1))), .top, .top, .top, .top, .top, .top, .top, .top, .top, .top, .top, .top, .top, .top, .top, .top, .top, .top, .top, .top, .top, .top, .top, .top, .top, .top, .top, .top, .top, .top, .top, .top, .top, .top, .top, .top, .top] | _ => [(.d (.str x0)), .top, .top, .top, .top, (.ptr 0 0), (.d (.int .i64 s6)), .top, .top, .top, .top, .top, .top, .top, .top, .top, .top, .top, .top, .top, .top, .top, .top, .top, .top, .top, .top, .top, .top, .top, .top, .top, .top, .top, .top, .top, .top, .top, .top, .top, .top, .top, .top, .top]
def l44_0B (x0 : List UInt8) (md : Nat) (s6 : Int) (b1 : List Int) : Boxes := match md with | 0 => [(.cells [(.snil 0 62), (.d .nils)])] | _ => [(.cells [(.ptr 0 0), (.sr 1 0 (List.length b1) 1 none)]), (.arr (.int .u8) b1 true)]
def l44_0E (x0 : List UInt8) (md : Nat) (s6 : Int) (b1 : List Int) : Nat → AEx × Env × Boxes
  | 0 => (.ret, [(.d (.str x0)), .top, (.d (.str ([] : List UInt8))), (.d (.str (List.drop 2 (List.take (List.length x0) x0)))), (.d (.bool (((UInt8.toNat (List.getD x0 0 0) : Nat) : Int) == (34)))), (.ptr 0 0), (.d (.int .i64 (1))), (.d (.int .i64 (1))), (.d (.str x0)), (.d (.int .i64 (((List.length x0) : Nat) : Int))), (.d (.bool (decide (1 < (((List.length x0) : Nat) : Int))))), .top, .top, (.d (.bool (((UInt8.toNat (List.getD x0 1 0) : Nat) : Int) == (34)))), (.d (.str x0)), (.d (.int .i64 (1))), (.d (.int .u8 ((UInt8.toNat (List.getD x0 1 0) : Nat) : Int))), (.d (.bool (((UInt8.toNat (List.getD x0 1 0) : Nat) : Int) == (34)))), (.d (.str ([] : List UInt8))), (.d (.str x0)), (.d (.int .i64 (1))), (.d (.int .i64 (2))), (.d (.str (List.drop 2 (List.take (List.length x0) x0)))), (.d (.str x0)), (.d (.int .u8 ((UInt8.toNat (List.getD x0 0 0) : Nat) : Int))), (.d (.bool (((UInt8.toNat (List.getD x0 0 0) : Nat) : Int) == (34)))), .top, .top, .top, .top, .top, .top, .top, .top, .top, .top, .top, .top, .top, .top, .top, .top, .top, .top], [(.cells [(.snil 0 62), (.d .nils)]), .dead, .dead, .dead, .dead, .dead, .dead, .dead, .dead, .dead, .dead, .dead, .dead, .dead, .dead, .dead, .dead, .dead, .dead, .dead, .dead, .dead, .dead, .dead, .dead, .dead, .dead, .dead, .dead, .dead, .dead, .dead, .dead, .dead, .dead, .dead, .dead, .dead, .dead, .dead, .dead, .dead, .dead, .dead, .dead])
  | 1 => (.exit 0, [(.d (.str x0)), .top, .top, .top, .top, (.ptr 0 0), (.d (.int .i64 (1))), (.d (.int .i64 (1))), (.d (.str x0)), (.d (.int .i64 (((List.length x0) : Nat) : Int))), (.d (.bool (decide (1 < (((List.length x0) : Nat) : Int))))), .top, .top, .top, .top, .top, .top, .top, .top, .top, .top, .top, .top, .top, .top, .top, .top, .top, .top, .top, .top, .top, .top, .top, .top, .top, .top, .top, .top, .top, .top, .top, .top, .top], [(.cells [(.snil 0 62), (.d .nils)])])
  | 2 => (.ret, [(.d (.str x0)), .top, (.d (.str (List.map (fun (n : Int) => UInt8.ofNat n.toNat) b1))), (.d (.str (List.drop (Int.toNat (IntKind.wrap .i64 (s6 + (1)))) (List.take (List.length x0) x0)))), (.d (.bool (((UInt8.toNat (List.getD x0 0 0) : Nat) : Int) == (34)))), (.ptr 0 0), (.d (.int .i64 s6)), (.d (.int .i64 s6)), (.d (.str x0)), (.d (.int .i64 (((List.length x0) : Nat) : Int))), (.d (.bool (decide (s6 < (((List.length x0) : Nat) : Int))))), .top, .top, (.d (.bool (((UInt8.toNat (List.getD x0 (Int.toNat s6) 0) : Nat) : Int) == (34)))), (.d (.str x0)), (.d (.int .i64 s6)), (.d (.int .u8 ((UInt8.toNat (List.getD x0 (Int.toNat s6) 0) : Nat) : Int))), (.d (.bool (((UInt8.toNat (List.getD x0 (Int.toNat s6) 0) : Nat) : Int) == (34)))), (.d (.str (List.map (fun (n : Int) => UInt8.ofNat n.toNat) b1))), (.d (.str x0)), (.d (.int .i64 s6)), (.d (.int .i64 (IntKind.wrap .i64 (s6 + (1))))), (.d (.str (List.drop (Int.toNat (IntKind.wrap .i64 (s6 + (1)))) (List.take (List.length x0) x0)))), (.d (.str x0)), (.d (.int .u8 ((UInt8.toNat (List.getD x0 0 0) : Nat) : Int))), (.d (.bool (((UInt8.toNat (List.getD x0 0 0) : Nat) : Int) == (34)))), .top, .top, .top, .top, .top, .top, .top, .top, .top, .top, .top, .top, .top, .top, .top, .top, .top, .top], [(.cells [(.ptr 0 0), (.sr 1 0 (List.length b1) 1 none)]), .dead, .dead, .dead, .dead, .dead, .dead, .dead, .dead, .dead, .dead, .dead, .dead, .dead, .dead, .dead, .dead, .dead, .dead, .dead, .dead, .dead, .dead, .dead, .dead, .dead, .dead, .dead, .dead, .dead, .dead, .dead, .dead, .dead, .dead, .dead, .dead, .dead, .dead, .dead, .dead, .dead, .dead, .dead, .dead, .dead])
  | _ => (.exit 0, [(.d (.str x0)), .top, .top, .top, .top, (.ptr 0 0), (.d (.int .i64 s6)), (.d (.int .i64 s6)), (.d (.str x0)), (.d (.int .i64 (((List.length x0) : Nat) : Int))), (.d (.bool (decide (s6 < (((List.length x0) : Nat) : Int))))), .top, .top, .top, .top, .top, .top, .top, .top, .top, .top, .top, .top, .top, .top, .top, .top, .top, .top, .top, .top, .top, .top, .top, .top, .top, .top, .top, .top, .top, .top, .top, .top, .top], [(.cells [(.ptr 0 0), (.sr 1 0 (List.length b1) 1 none)]), (.arr (.int .u8) b1 true)])
noncomputable def lbl44_0 : AC := loopBody 97 body44

set_option maxHeartbeats 20000000 in
theorem l44_0_w0 (m n : Nat) (x0 : List UInt8) (s6 : Int) (b1 : List Int) (c0 : decide (1 < (((List.length x0) : Nat) : Int)) = true) (c3 : (((UInt8.toNat (List.getD x0 1 0) : Nat) : Int) == (34)) = true) (c5 : decide (2 ≤ (((List.length x0) : Nat) : Int)) = true) (c7 : decide (0 < (((List.length x0) : Nat) : Int)) = true) : (turns (hds 44 97) 0 97 (evC byref (evCall F S16 (m + 24)) (m + 24) 0 (hds 44) lbl44_0) (n + 1) (l44_0H x0 0 s6 b1) (l44_0B x0 0 s6 b1)).run = some (.ret, [(.d (.str x0)), .top, (.d (.str ([] : List UInt8))), (.d (.str (List.drop 2 (List.take (List.length x0) x0)))), (.d (.bool (((UInt8.toNat (List.getD x0 0 0) : Nat) : Int) == (34)))), (.ptr 0 0), (.d (.int .i64 (1))), (.d (.int .i64 (1))), (.d (.str x0)), (.d (.int .i64 (((List.length x0) : Nat) : Int))), (.d (.bool (decide (1 < (((List.length x0) : Nat) : Int))))), .top, .top, (.d (.bool (((UInt8.toNat (List.getD x0 1 0) : Nat) : Int) == (34)))), (.d (.str x0)), (.d (.int .i64 (1))), (.d (.int .u8 ((UInt8.toNat (List.getD x0 1 0) : Nat) : Int))), (.d (.bool (((UInt8.toNat (List.getD x0 1 0) : Nat) : Int) == (34)))), (.d (.str ([] : List UInt8))), (.d (.str x0)), (.d (.int .i64 (1))), (.d (.int .i64 (2))), (.d (.str (List.drop 2 (List.take (List.length x0) x0)))), (.d (.str x0)), (.d (.int .u8 ((UInt8.toNat (List.getD x0 0 0) : Nat) : Int))), (.d (.bool (((UInt8.toNat (List.getD x0 0 0) : Nat) : Int) == (34)))), .top, .top, .top, .top, .top, .top, .top, .top, .top, .top, .top, .top, .top, .top, .top, .top, .top, .top], [(.cells [(.snil 0 62), (.d .nils)]), .dead, .dead, .dead, .dead, .dead, .dead, .dead, .dead, .dead, .dead, .dead, .dead, .dead, .dead, .dead, .dead, .dead, .dead, .dead, .dead, .dead, .dead, .dead, .dead, .dead, .dead, .dead, .dead, .dead, .dead, .dead, .dead, .dead, .dead, .dead, .dead, .dead, .dead, .dead, .dead, .dead, .dead, .dead, .dead]) := by
  exact turns_last (by simp) (M.run_of_path _ [true, true, true, true, true, true, true, true] _ _ (by kernel_rfl) (all_t c0 (all_t rfl (all_t c0 (all_t c3 (all_t rfl (all_t c5 (all_t rfl (all_t c7 all_nil))))))))) 
set_option maxHeartbeats 20000000 in
theorem l44_0_w1 (m n : Nat) (x0 : List UInt8) (s6 : Int) (b1 : List Int) (r : AEx × Env × Boxes) (c0 : decide (1 < (((List.length x0) : Nat) : Int)) = true) (c3 : ¬ (((UInt8.toNat (List.getD x0 1 0) : Nat) : Int) == (34)) = true) (c6 : (((UInt8.toNat (List.getD x0 1 0) : Nat) : Int) == (92)) = true) (c12 : decide (2 < (((List.length x0) : Nat) : Int)) = true) (ih : (turns (hds 44 97) 0 97 (evC byref (evCall F S16 (m + 24)) (m + 24) 0 (hds 44) lbl44_0) n (l44_0H x0 1 3 ([((UInt8.toNat (List.getD x0 2 0) : Nat) : Int)])) (l44_0B x0 1 3 ([((UInt8.toNat (List.getD x0 2 0) : Nat) : Int)]))).run = some r) : (turns (hds 44 97) 0 97 (evC byref (evCall F S16 (m + 24)) (m + 24) 0 (hds 44) lbl44_0) (n + 1) (l44_0H x0 0 s6 b1) (l44_0B x0 0 s6 b1)).run = some r := by
  exact turns_step (M.run_of_path _ [true, true, true, false, true, true, true, true, true, true, true, true, true, true, true, true, false, true] _ _ (by kernel_rfl) (all_t c0 (all_t rfl (all_t c0 (all_f c3 (all_t rfl (all_t c0 (all_t c6 (all_t c6 (all_t c6 (all_t c6 (all_t c6 (all_t c6 (all_t c12 (all_t rfl (all_t c12 (all_t rfl (all_f Bool.false_ne_true (all_t rfl all_nil))))))))))))))))))) ih
set_option maxHeartbeats 20000000 in
theorem l44_0_w2 (m n : Nat) (x0 : List UInt8) (s6 : Int) (b1 : List Int) (r : AEx × Env × Boxes) (c0 : decide (1 < (((List.length x0) : Nat) : Int)) = true) (c3 : ¬ (((UInt8.toNat (List.getD x0 1 0) : Nat) : Int) == (34)) = true) (c6 : (((UInt8.toNat (List.getD x0 1 0) : Nat) : Int) == (92)) = true) (c12 : ¬ decide (2 < (((List.length x0) : Nat) : Int)) = true) (ih : (turns (hds 44 97) 0 97 (evC byref (evCall F S16 (m + 24)) (m + 24) 0 (hds 44) lbl44_0) n (l44_0H x0 1 2 ([((UInt8.toNat (List.getD x0 1 0) : Nat) : Int)])) (l44_0B x0 1 2 ([((UInt8.toNat (List.getD x0 1 0) : Nat) : Int)]))).run = some r) : (turns (hds 44 97) 0 97 (evC byref (evCall F S16 (m + 24)) (m + 24) 0 (hds 44) lbl44_0) (n + 1) (l44_0H x0 0 s6 b1) (l44_0B x0 0 s6 b1)).run = some r := by
  exact turns_step (M.run_of_path _ [true, true, true, false, true, true, true, true, true, true, true, true, false, true, true, true, false, true] _ _ (by kernel_rfl) (all_t c0 (all_t rfl (all_t c0 (all_f c3 (all_t rfl (all_t c0 (all_t c6 (all_t c6 (all_t c6 (all_t c6 (all_t c6 (all_t c6 (all_f c12 (all_t rfl (all_t c0 (all_t rfl (all_f Bool.false_ne_true (all_t rfl all_nil))))))))))))))))))) ih
set_option maxHeartbeats 20000000 in
theorem l44_0_w3 (m n : Nat) (x0 : List UInt8) (s6 : Int) (b1 : List Int) (r : AEx × Env × Boxes) (c0 : decide (1 < (((List.length x0) : Nat) : Int)) = true) (c3 : ¬ (((UInt8.toNat (List.getD x0 1 0) : Nat) : Int) == (34)) = true) (c6 : ¬ (((UInt8.toNat (List.getD x0 1 0) : Nat) : Int) == (92)) = true) (ih : (turns (hds 44 97) 0 97 (evC byref (evCall F S16 (m + 24)) (m + 24) 0 (hds 44) lbl44_0) n (l44_0H x0 1 2 ([((UInt8.toNat (List.getD x0 1 0) : Nat) : Int)])) (l44_0B x0 1 2 ([((UInt8.toNat (List.getD x0 1 0) : Nat) : Int)]))).run = some r) : (turns (hds 44 97) 0 97 (evC byref (evCall F S16 (m + 24)) (m + 24) 0 (hds 44) lbl44_0) (n + 1) (l44_0H x0 0 s6 b1) (l44_0B x0 0 s6 b1)).run = some r := by
  exact turns_step (M.run_of_path _ [true, true, true, false, true, true, false, false, false, false, false, false, false, true, true, true, false, true] _ _ (by kernel_rfl) (all_t c0 (all_t rfl (all_t c0 (all_f c3 (all_t rfl (all_t c0 (all_f c6 (all_f c6 (all_f c6 (all_f c6 (all_f c6 (all_f c6 (all_f Bool.false_ne_true (all_t rfl (all_t c0 (all_t rfl (all_f Bool.false_ne_true (all_t rfl all_nil))))))))))))))))))) ih
set_option maxHeartbeats 20000000 in
theorem l44_0_w4 (m n : Nat) (x0 : List UInt8) (s6 : Int) (b1 : List Int) (c0 : ¬ decide (1 < (((List.length x0) : Nat) : Int)) = true) : (turns (hds 44 97) 0 97 (evC byref (evCall F S16 (m + 24)) (m + 24) 0 (hds 44) lbl44_0) (n + 1) (l44_0H x0 0 s6 b1) (l44_0B x0 0 s6 b1)).run = some (.exit 0, [(.d (.str x0)), .top, .top, .top, .top, (.ptr 0 0), (.d (.int .i64 (1))), (.d (.int .i64 (1))), (.d (.str x0)), (.d (.int .i64 (((List.length x0) : Nat) : Int))), (.d (.bool (decide (1 < (((List.length x0) : Nat) : Int))))), .top, .top, .top, .top, .top, .top, .top, .top, .top, .top, .top, .top, .top, .top, .top, .top, .top, .top, .top, .top, .top, .top, .top, .top, .top, .top, .top, .top, .top, .top, .top, .top, .top], [(.cells [(.snil 0 62), (.d .nils)])]) := by
  exact turns_last (by simp) (M.run_of_path _ [false] _ _ (by kernel_rfl) (all_f c0 all_nil)) 
set_option maxHeartbeats 20000000 in
theorem l44_0_w5 (m n : Nat) (x0 : List UInt8) (s6 : Int) (b1 : List Int) (c0 : decide (s6 < (((List.length x0) : Nat) : Int)) = true) (c1 : decide (0 ≤ s6) = true) (c3 : (((UInt8.toNat (List.getD x0 (Int.toNat s6) 0) : Nat) : Int) == (34)) = true) (c4 : ¬ decide ((List.length b1) = 0) = true) (c5 : (((decide ((((List.length b1) : Nat) : Int) = (((List.length b1) : Nat) : Int)) && (!List.isEmpty b1)) && decide ((List.length b1) ≤ 9223372036854775807)) && List.all b1 (fun n => decide (0 ≤ n) && decide (n < 256))) = true) (c6 : (decide (0 ≤ (IntKind.wrap .i64 (s6 + (1)))) && decide ((IntKind.wrap .i64 (s6 + (1))) ≤ (((List.length x0) : Nat) : Int))) = true) (c8 : decide (0 < (((List.length x0) : Nat) : Int)) = true) : (turns (hds 44 97) 0 97 (evC byref (evCall F S16 (m + 24)) (m + 24) 0 (hds 44) lbl44_0) (n + 1) (l44_0H x0 1 s6 b1) (l44_0B x0 1 s6 b1)).run = some (.ret, [(.d (.str x0)), .top, (.d (.str (List.map (fun (n : Int) => UInt8.ofNat n.toNat) b1))), (.d (.str (List.drop (Int.toNat (IntKind.wrap .i64 (s6 + (1)))) (List.take (List.length x0) x0)))), (.d (.bool (((UInt8.toNat (List.getD x0 0 0) : Nat) : Int) == (34)))), (.ptr 0 0), (.d (.int .i64 s6)), (.d (.int .i64 s6)), (.d (.str x0)), (.d (.int .i64 (((List.length x0) : Nat) : Int))), (.d (.bool (decide (s6 < (((List.length x0) : Nat) : Int))))), .top, .top, (.d (.bool (((UInt8.toNat (List.getD x0 (Int.toNat s6) 0) : Nat) : Int) == (34)))), (.d (.str x0)), (.d (.int .i64 s6)), (.d (.int .u8 ((UInt8.toNat (List.getD x0 (Int.toNat s6) 0) : Nat) : Int))), (.d (.bool (((UInt8.toNat (List.getD x0 (Int.toNat s6) 0) : Nat) : Int) == (34)))), (.d (.str (List.map (fun (n : Int) => UInt8.ofNat n.toNat) b1))), (.d (.str x0)), (.d (.int .i64 s6)), (.d (.int .i64 (IntKind.wrap .i64 (s6 + (1))))), (.d (.str (List.drop (Int.toNat (IntKind.wrap .i64 (s6 + (1)))) (List.take (List.length x0) x0)))), (.d (.str x0)), (.d (.int .u8 ((UInt8.toNat (List.getD x0 0 0) : Nat) : Int))), (.d (.bool (((UInt8.toNat (List.getD x0 0 0) : Nat) : Int) == (34)))), .top, .top, .top, .top, .top, .top, .top, .top, .top, .top, .top, .top, .top, .top, .top, .top, .top, .top], [(.cells [(.ptr 0 0), (.sr 1 0 (List.length b1) 1 none)]), .dead, .dead, .dead, .dead, .dead, .dead, .dead, .dead, .dead, .dead, .dead, .dead, .dead, .dead, .dead, .dead, .dead, .dead, .dead, .dead, .dead, .dead, .dead, .dead, .dead, .dead, .dead, .dead, .dead, .dead, .dead, .dead, .dead, .dead, .dead, .dead, .dead, .dead, .dead, .dead, .dead, .dead, .dead, .dead, .dead]) := by
  exact turns_last (by simp) (M.run_of_path _ [true, true, true, true, true, true, true, true, true] _ _ (by kernel_rfl) (all_t c0 (all_t c1 (all_t c0 (all_t c3 (all_nf c4 (all_t c5 (all_t c6 (all_t rfl (all_t c8 all_nil)))))))))) 
set_option maxHeartbeats 20000000 in
theorem l44_0_w6 (m n : Nat) (x0 : List UInt8) (s6 : Int) (b1 : List Int) (r : AEx × Env × Boxes) (c0 : decide (s6 < (((List.length x0) : Nat) : Int)) = true) (c1 : decide (0 ≤ s6) = true) (c3 : ¬ (((UInt8.toNat (List.getD x0 (Int.toNat s6) 0) : Nat) : Int) == (34)) = true) (c6 : (((UInt8.toNat (List.getD x0 (Int.toNat s6) 0) : Nat) : Int) == (92)) = true) (c12 : decide ((IntKind.wrap .i64 (s6 + (1))) < (((List.length x0) : Nat) : Int)) = true) (c13 : decide (0 ≤ (IntKind.wrap .i64 (s6 + (1)))) = true) (c16 : decide ((((List.length b1) + 1) * 1) ≤ 70368744177664) = true) (ih : (turns (hds 44 97) 0 97 (evC byref (evCall F S16 (m + 24)) (m + 24) 0 (hds 44) lbl44_0) n (l44_0H x0 1 ((IntKind.wrap .i64 ((IntKind.wrap .i64 (s6 + (1))) + (1)))) ((b1 ++ [((UInt8.toNat (List.getD x0 (Int.toNat (IntKind.wrap .i64 (s6 + (1)))) 0) : Nat) : Int)]))) (l44_0B x0 1 ((IntKind.wrap .i64 ((IntKind.wrap .i64 (s6 + (1))) + (1)))) ((b1 ++ [((UInt8.toNat (List.getD x0 (Int.toNat (IntKind.wrap .i64 (s6 + (1)))) 0) : Nat) : Int)])))).run = some r) : (turns (hds 44 97) 0 97 (evC byref (evCall F S16 (m + 24)) (m + 24) 0 (hds 44) lbl44_0) (n + 1) (l44_0H x0 1 s6 b1) (l44_0B x0 1 s6 b1)).run = some r := by
  have ht : (turn (hds 44 97) 0 97 (evC byref (evCall F S16 (m + 24)) (m + 24) 0 (hds 44) lbl44_0) (l44_0H x0 1 s6 b1) (l44_0B x0 1 s6 b1)).run = some (.normal, [(.d (.str x0)), .top, .top, .top, .top, (.ptr 0 0), (.d (.int .i64 (IntKind.wrap .i64 ((IntKind.wrap .i64 (s6 + (1))) + (1))))), .top, .top, .top, .top, .top, .top, .top, .top, .top, .top, .top, .top, .top, .top, .top, .top, .top, .top, .top, .top, .top, .top, .top, .top, .top, .top, .top, .top, .top, .top, .top, .top, .top, .top, .top, .top, .top], [(.cells [(.ptr 0 0), (.sr 1 0 ((List.length b1) + 1) 1 none)]), (.arr (.int .u8) (b1 ++ [((UInt8.toNat (List.getD x0 (Int.toNat (IntKind.wrap .i64 (s6 + (1)))) 0) : Nat) : Int)]) true)]) := M.run_of_path _ [true, true, true, false, true, true, true, true, true, true, true, true, true, true, true, true, true, true] _ _ (by kernel_rfl) (all_t c0 (all_t c1 (all_t c0 (all_f c3 (all_t c1 (all_t c0 (all_t c6 (all_t c6 (all_t c6 (all_t c6 (all_t c6 (all_t c6 (all_t c12 (all_t c13 (all_t c12 (all_t rfl (all_t c16 (all_t (show decide ((List.length b1) = (List.length b1)) = true from decide_eq_true rfl) all_nil))))))))))))))))))
  refine turns_step ht (turns_eq ?_ ?_ ih)
  · unfold l44_0H
    first | (simp; done) | (simp [Nat.add_assoc]; done) | (simp; omega)
  · unfold l44_0B
    simp
set_option maxHeartbeats 20000000 in
theorem l44_0_w7 (m n : Nat) (x0 : List UInt8) (s6 : Int) (b1 : List Int) (r : AEx × Env × Boxes) (c0 : decide (s6 < (((List.length x0) : Nat) : Int)) = true) (c1 : decide (0 ≤ s6) = true) (c3 : ¬ (((UInt8.toNat (List.getD x0 (Int.toNat s6) 0) : Nat) : Int) == (34)) = true) (c6 : (((UInt8.toNat (List.getD x0 (Int.toNat s6) 0) : Nat) : Int) == (92)) = true) (c12 : ¬ decide ((IntKind.wrap .i64 (s6 + (1))) < (((List.length x0) : Nat) : Int)) = true) (c16 : decide ((((List.length b1) + 1) * 1) ≤ 70368744177664) = true) (ih : (turns (hds 44 97) 0 97 (evC byref (evCall F S16 (m + 24)) (m + 24) 0 (hds 44) lbl44_0) n (l44_0H x0 1 ((IntKind.wrap .i64 (s6 + (1)))) ((b1 ++ [((UInt8.toNat (List.getD x0 (Int.toNat s6) 0) : Nat) : Int)]))) (l44_0B x0 1 ((IntKind.wrap .i64 (s6 + (1)))) ((b1 ++ [((UInt8.toNat (List.getD x0 (Int.toNat s6) 0) : Nat) : Int)])))).run = some r) : (turns (hds 44 97) 0 97 (evC byref (evCall F S16 (m + 24)) (m + 24) 0 (hds 44) lbl44_0) (n + 1) (l44_0H x0 1 s6 b1) (l44_0B x0 1 s6 b1)).run = some r := by
  have ht : (turn (hds 44 97) 0 97 (evC byref (evCall F S16 (m + 24)) (m + 24) 0 (hds 44) lbl44_0) (l44_0H x0 1 s6 b1) (l44_0B x0 1 s6 b1)).run = some (.normal, [(.d (.str x0)), .top, .top, .top, .top, (.ptr 0 0), (.d (.int .i64 (IntKind.wrap .i64 (s6 + (1))))), .top, .top, .top, .top, .top, .top, .top, .top, .top, .top, .top, .top, .top, .top, .top, .top, .top, .top, .top, .top, .top, .top, .top, .top, .top, .top, .top, .top, .top, .top, .top, .top, .top, .top, .top, .top, .top], [(.cells [(.ptr 0 0), (.sr 1 0 ((List.length b1) + 1) 1 none)]), (.arr (.int .u8) (b1 ++ [((UInt8.toNat (List.getD x0 (Int.toNat s6) 0) : Nat) : Int)]) true)]) := M.run_of_path _ [true, true, true, false, true, true, true, true, true, true, true, true, false, true, true, true, true, true] _ _ (by kernel_rfl) (all_t c0 (all_t c1 (all_t c0 (all_f c3 (all_t c1 (all_t c0 (all_t c6 (all_t c6 (all_t c6 (all_t c6 (all_t c6 (all_t c6 (all_f c12 (all_t c1 (all_t c0 (all_t rfl (all_t c16 (all_t (show decide ((List.length b1) = (List.length b1)) = true from decide_eq_true rfl) all_nil))))))))))))))))))
  refine turns_step ht (turns_eq ?_ ?_ ih)
  · unfold l44_0H
    first | (simp; done) | (simp [Nat.add_assoc]; done) | (simp; omega)
  · unfold l44_0B
    simp
set_option maxHeartbeats 20000000 in
theorem l44_0_w8 (m n : Nat) (x0 : List UInt8) (s6 : Int) (b1 : List Int) (r : AEx × Env × Boxes) (c0 : decide (s6 < (((List.length x0) : Nat) : Int)) = true) (c1 : decide (0 ≤ s6) = true) (c3 : ¬ (((UInt8.toNat (List.getD x0 (Int.toNat s6) 0) : Nat) : Int) == (34)) = true) (c6 : ¬ (((UInt8.toNat (List.getD x0 (Int.toNat s6) 0) : Nat) : Int) == (92)) = true) (c16 : decide ((((List.length b1) + 1) * 1) ≤ 70368744177664) = true) (ih : (turns (hds 44 97) 0 97 (evC byref (evCall F S16 (m + 24)) (m + 24) 0 (hds 44) lbl44_0) n (l44_0H x0 1 ((IntKind.wrap .i64 (s6 + (1)))) ((b1 ++ [((UInt8.toNat (List.getD x0 (Int.toNat s6) 0) : Nat) : Int)]))) (l44_0B x0 1 ((IntKind.wrap .i64 (s6 + (1)))) ((b1 ++ [((UInt8.toNat (List.getD x0 (Int.toNat s6) 0) : Nat) : Int)])))).run = some r) : (turns (hds 44 97) 0 97 (evC byref (evCall F S16 (m + 24)) (m + 24) 0 (hds 44) lbl44_0) (n + 1) (l44_0H x0 1 s6 b1) (l44_0B x0 1 s6 b1)).run = some r := by
  have ht : (turn (hds 44 97) 0 97 (evC byref (evCall F S16 (m + 24)) (m + 24) 0 (hds 44) lbl44_0) (l44_0H x0 1 s6 b1) (l44_0B x0 1 s6 b1)).run = some (.normal, [(.d (.str x0)), .top, .top, .top, .top, (.ptr 0 0), (.d (.int .i64 (IntKind.wrap .i64 (s6 + (1))))), .top, .top, .top, .top, .top, .top, .top, .top, .top, .top, .top, .top, .top, .top, .top, .top, .top, .top, .top, .top, .top, .top, .top, .top, .top, .top, .top, .top, .top, .top, .top, .top, .top, .top, .top, .top, .top], [(.cells [(.ptr 0 0), (.sr 1 0 ((List.length b1) + 1) 1 none)]), (.arr (.int .u8) (b1 ++ [((UInt8.toNat (List.getD x0 (Int.toNat s6) 0) : Nat) : Int)]) true)]) := M.run_of_path _ [true, true, true, false, true, true, false, false, false, false, false, false, false, true, true, true, true, true] _ _ (by kernel_rfl) (all_t c0 (all_t c1 (all_t c0 (all_f c3 (all_t c1 (all_t c0 (all_f c6 (all_f c6 (all_f c6 (all_f c6 (all_f c6 (all_f c6 (all_f Bool.false_ne_true (all_t c1 (all_t c0 (all_t rfl (all_t c16 (all_t (show decide ((List.length b1) = (List.length b1)) = true from decide_eq_true rfl) all_nil))))))))))))))))))
  refine turns_step ht (turns_eq ?_ ?_ ih)
  · unfold l44_0H
    first | (simp; done) | (simp [Nat.add_assoc]; done) | (simp; omega)
  · unfold l44_0B
    simp
set_option maxHeartbeats 20000000 in
theorem l44_0_w9 (m n : Nat) (x0 : List UInt8) (s6 : Int) (b1 : List Int) (c0 : ¬ decide (s6 < (((List.length x0) : Nat) : Int)) = true) : (turns (hds 44 97) 0 97 (evC byref (evCall F S16 (m + 24)) (m + 24) 0 (hds 44) lbl44_0) (n + 1) (l44_0H x0 1 s6 b1) (l44_0B x0 1 s6 b1)).run = some (.exit 0, [(.d (.str x0)), .top, .top, .top, .top, (.ptr 0 0), (.d (.int .i64 s6)), (.d (.int .i64 s6)), (.d (.str x0)), (.d (.int .i64 (((List.length x0) : Nat) : Int))), (.d (.bool (decide (s6 < (((List.length x0) : Nat) : Int))))), .top, .top, .top, .top, .top, .top, .top, .top, .top, .top, .top, .top, .top, .top, .top, .top, .top, .top, .top, .top, .top, .top, .top, .top, .top, .top, .top, .top, .top, .top, .top, .top, .top], [(.cells [(.ptr 0 0), (.sr 1 0 (List.length b1) 1 none)]), (.arr (.int .u8) b1 true)]) := by
  exact turns_last (by simp) (M.run_of_path _ [false] _ _ (by kernel_rfl) (all_f c0 all_nil)) 

set_option maxHeartbeats 20000000 in
theorem l44_0_step (m n : Nat) (ih : ∀ (x0 : List UInt8) (md : Nat) (s6 : Int) (b1 : List Int) (q : Nat × Nat × Int × (List Int)), l44_0 m n x0 md s6 b1 = some q → (turns (hds 44 97) 0 97 (evC byref (evCall F S16 (m + 24)) (m + 24) 0 (hds 44) lbl44_0) n (l44_0H x0 md s6 b1) (l44_0B x0 md s6 b1)).run = some (l44_0E (x0) (q.2.1) (q.2.2.1) (q.2.2.2) q.1)) (x0 : List UInt8) (md : Nat) (s6 : Int) (b1 : List Int) (q : Nat × Nat × Int × (List Int)) (h : l44_0 m (n + 1) x0 md s6 b1 = some q) : (turns (hds 44 97) 0 97 (evC byref (evCall F S16 (m + 24)) (m + 24) 0 (hds 44) lbl44_0) (n + 1) (l44_0H x0 md s6 b1) (l44_0B x0 md s6 b1)).run = some (l44_0E (x0) (q.2.1) (q.2.2.1) (q.2.2.2) q.1) := by
  match md, h with
  | 0, h =>
    rw [l44_0] at h
    refine ite_cases h (fun c0 h => ?_) (fun c0 h => ?_)
    · skip
      refine ite_cases h (fun c3 h => ?_) (fun c3 h => ?_)
      · skip
        refine ite_cases h (fun c5 h => ?_) (fun c5 h => ?_)
        · skip
          refine ite_cases h (fun c7 h => ?_) (fun c7 h => ?_)
          · skip
            cases h
            exact l44_0_w0 m n x0 s6 b1 c0 c3 c5 c7
          · skip
            cases h
        · skip
          cases h
      · skip
        refine ite_cases h (fun c6 h => ?_) (fun c6 h => ?_)
        · skip
          refine ite_cases h (fun c12 h => ?_) (fun c12 h => ?_)
          · skip
            exact l44_0_w1 m n x0 s6 b1 _ c0 c3 c6 c12 (ih _ _ _ _ q h)
          · skip
            exact l44_0_w2 m n x0 s6 b1 _ c0 c3 c6 c12 (ih _ _ _ _ q h)
        · skip
          exact l44_0_w3 m n x0 s6 b1 _ c0 c3 c6 (ih _ _ _ _ q h)
    · skip
      cases h
      exact l44_0_w4 m n x0 s6 b1 c0
  | 1, h =>
    rw [l44_0] at h
    refine ite_cases h (fun c0 h => ?_) (fun c0 h => ?_)
    · skip
      refine ite_cases h (fun c1 h => ?_) (fun c1 h => ?_)
      · skip
        refine ite_cases h (fun c3 h => ?_) (fun c3 h => ?_)
        · skip
          refine ite_cases h (fun c4 h => ?_) (fun c4 h => ?_)
          · skip
            cases h
          · skip
            refine ite_cases h (fun c5 h => ?_) (fun c5 h => ?_)
            · skip
              refine ite_cases h (fun c6 h => ?_) (fun c6 h => ?_)
              · skip
                refine ite_cases h (fun c8 h => ?_) (fun c8 h => ?_)
                · skip
                  cases h
                  exact l44_0_w5 m n x0 s6 b1 c0 c1 c3 c4 c5 c6 c8
                · skip
                  cases h
              · skip
                cases h
            · skip
              cases h
        · skip
          refine ite_cases h (fun c6 h => ?_) (fun c6 h => ?_)
          · skip
            refine ite_cases h (fun c12 h => ?_) (fun c12 h => ?_)
            · skip
              refine ite_cases h (fun c13 h => ?_) (fun c13 h => ?_)
              · skip
                refine ite_cases h (fun c16 h => ?_) (fun c16 h => ?_)
                · skip
                  exact l44_0_w6 m n x0 s6 b1 _ c0 c1 c3 c6 c12 c13 c16 (ih _ _ _ _ q h)
                · skip
                  cases h
              · skip
                cases h
            · skip
              refine ite_cases h (fun c16 h => ?_) (fun c16 h => ?_)
              · skip
                exact l44_0_w7 m n x0 s6 b1 _ c0 c1 c3 c6 c12 c16 (ih _ _ _ _ q h)
              · skip
                cases h
          · skip
            refine ite_cases h (fun c16 h => ?_) (fun c16 h => ?_)
            · skip
              exact l44_0_w8 m n x0 s6 b1 _ c0 c1 c3 c6 c16 (ih _ _ _ _ q h)
            · skip
              cases h
      · skip
        cases h
    · skip
      cases h
      exact l44_0_w9 m n x0 s6 b1 c0
  | _ + 2, h =>
    rw [l44_0] at h
    cases h
set_option maxHeartbeats 20000000 in
theorem l44_0_ok (m : Nat) : ∀ (n : Nat) (x0 : List UInt8) (md : Nat) (s6 : Int) (b1 : List Int) (q : Nat × Nat × Int × (List Int)), l44_0 m n x0 md s6 b1 = some q → (turns (hds 44 97) 0 97 (evC byref (evCall F S16 (m + 24)) (m + 24) 0 (hds 44) lbl44_0) n (l44_0H x0 md s6 b1) (l44_0B x0 md s6 b1)).run = some (l44_0E (x0) (q.2.1) (q.2.2.1) (q.2.2.2) q.1)
  | 0, x0, md, s6, b1, q, h => by cases h
  | n + 1, x0, md, s6, b1, q, h => l44_0_step m n (l44_0_ok m n) x0 md s6 b1 q h

def p44 (m : Nat) (x0 : List UInt8) : Option ((List UInt8) × (List UInt8) × Bool) :=
  if (Option.isSome (l44_0 m (m + 24) x0 0 0 ([]))) = true then
    if ((l44_0R m (m + 24) x0 0 0 ([])).1 == 0) = true then
      some (([] : List UInt8), (List.drop 2 (List.take (List.length x0) x0)), (((UInt8.toNat (List.getD x0 0 0) : Nat) : Int) == (34)))
    else
      if ((l44_0R m (m + 24) x0 0 0 ([])).1 == 1) = true then
        some (([] : List UInt8), ([] : List UInt8), false)
      else
        if ((l44_0R m (m + 24) x0 0 0 ([])).1 == 2) = true then
          some ((List.map (fun (n : Int) => UInt8.ofNat n.toNat) (l44_0R m (m + 24) x0 0 0 ([])).2.2.2), (List.drop (Int.toNat (IntKind.wrap .i64 ((l44_0R m (m + 24) x0 0 0 ([])).2.2.1 + (1)))) (List.take (List.length x0) x0)), (((UInt8.toNat (List.getD x0 0 0) : Nat) : Int) == (34)))
        else
          if ((l44_0R m (m + 24) x0 0 0 ([])).1 == 3) = true then
            some (([] : List UInt8), ([] : List UInt8), false)
          else
            none
  else
    none
set_option maxHeartbeats 20000000 in
theorem p44_ok (m : Nat) (x0 : List UInt8) (q : (List UInt8) × (List UInt8) × Bool) (h : p44 m x0 = some q) : ∃ r B1, (evCall F S16 (m + 25) 44 [(.d (.str x0))] []).run = some (r, B1) ∧ 0 ≤ B1.length ∧ wkR B1 [] r (.tup [(.d (.str q.1)), (.d (.str q.2.1)), (.d (.bool (q.2.2)))]) ∧ wkBs B1 [] 0 [] := by
  unfold p44 at h
  refine ite_cases h (fun c0 h => ?_) (fun c0 h => ?_)
  · skip
    refine ite_cases h (fun c1 h => ?_) (fun c1 h => ?_)
    · skip
      cases h
      refine ⟨(.tup [(.d (.str ([] : List UInt8))), (.d (.str (List.drop 2 (List.take (List.length x0) x0)))), (.d (.bool (((UInt8.toNat (List.getD x0 0 0) : Nat) : Int) == (34))))]), [], runT_ok (LS := (fun k => if k = 97 then some (l44_0E x0 ((l44_0R m (m + 24) x0 0 0 ([])).2.1) ((l44_0R m (m + 24) x0 0 0 ([])).2.2.1) ((l44_0R m (m + 24) x0 0 0 ([])).2.2.2) 0) else none)) (fn := fn44) (vis := [(97, l44_0H x0 0 0 ([]), l44_0B x0 0 0 ([]))]) (by kernel_rfl) rfl (by kernel_rfl) (M.run_of_path _ [] _ _ (by kernel_rfl) all_nil) ?_, by simp, (wkR.tup (wkVs.cons (wkV.one (wk1.eq rfl)) (wkVs.cons (wkV.one (wk1.eq rfl)) (wkVs.cons (wkV.one (wk1.eq rfl)) wkVs.nil)))), trivial⟩
      intro p hp p2 hq
      rcases List.mem_cons.1 hp with rfl | hp
      · skip
        have h3 := l44_0_ok m (m + 24) x0 0 0 ([]) _ (some_getD (d := l44_0D) c0)
        rw [eq_of_beq c1] at h3
        exact Eq.trans (Eq.mp (by kernel_rfl) h3) hq
      cases hp
    · skip
      refine ite_cases h (fun c2 h => ?_) (fun c2 h => ?_)
      · skip
        cases h
        refine ⟨(.tup [(.d (.str ([] : List UInt8))), (.d (.str ([] : List UInt8))), (.d (.bool false))]), [], runT_ok (LS := (fun k => if k = 97 then some (l44_0E x0 ((l44_0R m (m + 24) x0 0 0 ([])).2.1) ((l44_0R m (m + 24) x0 0 0 ([])).2.2.1) ((l44_0R m (m + 24) x0 0 0 ([])).2.2.2) 1) else none)) (fn := fn44) (vis := [(97, l44_0H x0 0 0 ([]), l44_0B x0 0 0 ([]))]) (by kernel_rfl) rfl (by kernel_rfl) (M.run_of_path _ [] _ _ (by kernel_rfl) all_nil) ?_, by simp, (wkR.tup (wkVs.cons (wkV.one (wk1.eq rfl)) (wkVs.cons (wkV.one (wk1.eq rfl)) (wkVs.cons (wkV.one (wk1.eq rfl)) wkVs.nil)))), trivial⟩
        intro p hp p2 hq
        rcases List.mem_cons.1 hp with rfl | hp
        · skip
          have h3 := l44_0_ok m (m + 24) x0 0 0 ([]) _ (some_getD (d := l44_0D) c0)
          rw [eq_of_beq c2] at h3
          exact Eq.trans (Eq.mp (by kernel_rfl) h3) hq
        cases hp
      · skip
        refine ite_cases h (fun c3 h => ?_) (fun c3 h => ?_)
        · skip
          cases h
          refine ⟨(.tup [(.d (.str (List.map (fun (n : Int) => UInt8.ofNat n.toNat) (l44_0R m (m + 24) x0 0 0 ([])).2.2.2))), (.d (.str (List.drop (Int.toNat (IntKind.wrap .i64 ((l44_0R m (m + 24) x0 0 0 ([])).2.2.1 + (1)))) (List.take (List.length x0) x0)))), (.d (.bool (((UInt8.toNat (List.getD x0 0 0) : Nat) : Int) == (34))))]), [], runT_ok (LS := (fun k => if k = 97 then some (l44_0E x0 ((l44_0R m (m + 24) x0 0 0 ([])).2.1) ((l44_0R m (m + 24) x0 0 0 ([])).2.2.1) ((l44_0R m (m + 24) x0 0 0 ([])).2.2.2) 2) else none)) (fn := fn44) (vis := [(97, l44_0H x0 0 0 ([]), l44_0B x0 0 0 ([]))]) (by kernel_rfl) rfl (by kernel_rfl) (M.run_of_path _ [] _ _ (by kernel_rfl) all_nil) ?_, by simp, (wkR.tup (wkVs.cons (wkV.one (wk1.eq rfl)) (wkVs.cons (wkV.one (wk1.eq rfl)) (wkVs.cons (wkV.one (wk1.eq rfl)) wkVs.nil)))), trivial⟩
          intro p hp p2 hq
          rcases List.mem_cons.1 hp with rfl | hp
          · skip
            have h3 := l44_0_ok m (m + 24) x0 0 0 ([]) _ (some_getD (d := l44_0D) c0)
            rw [eq_of_beq c3] at h3
            exact Eq.trans (Eq.mp (by kernel_rfl) h3) hq
          cases hp
        · skip
          refine ite_cases h (fun c4 h => ?_) (fun c4 h => ?_)
          · skip
            cases h
            refine ⟨(.tup [(.d (.str ([] : List UInt8))), (.d (.str ([] : List UInt8))), (.d (.bool false))]), [], runT_ok (LS := (fun k => if k = 97 then some (l44_0E x0 ((l44_0R m (m + 24) x0 0 0 ([])).2.1) ((l44_0R m (m + 24) x0 0 0 ([])).2.2.1) ((l44_0R m (m + 24) x0 0 0 ([])).2.2.2) 3) else none)) (fn := fn44) (vis := [(97, l44_0H x0 0 0 ([]), l44_0B x0 0 0 ([]))]) (by kernel_rfl) rfl (by kernel_rfl) (M.run_of_path _ [] _ _ (by kernel_rfl) all_nil) ?_, by simp, (wkR.tup (wkVs.cons (wkV.one (wk1.eq rfl)) (wkVs.cons (wkV.one (wk1.eq rfl)) (wkVs.cons (wkV.one (wk1.eq rfl)) wkVs.nil)))), trivial⟩
            intro p hp p2 hq
            rcases List.mem_cons.1 hp with rfl | hp
            · skip
              have h3 := l44_0_ok m (m + 24) x0 0 0 ([]) _ (some_getD (d := l44_0D) c0)
              rw [eq_of_beq c4] at h3
              exact Eq.trans (Eq.mp (by kernel_rfl) h3) hq
            cases hp
          · skip
            cases h
  · skip
    cases h

def unqT : List UInt8 → List UInt8 → Option ((List UInt8) × (List UInt8))
  | [], _ => none
  | [c], acc => if UInt8.toNat c = 34 then some (acc, []) else none
  | c :: d :: s, acc => if UInt8.toNat c = 34 then some (acc, d :: s) else if UInt8.toNat c = 92 then unqT s (acc ++ [d]) else unqT (d :: s) (acc ++ [c])
/-- What a text begins with, unquoted, and what is behind. -/
def unqG : List UInt8 → (List UInt8) × (List UInt8) × Bool
  | [] => ([], [], false)
  | q :: t => match unqT t [] with
    | none => ([], [], false)
    | some (v, r) => (v, r, UInt8.toNat q == 34)
theorem unqT_q {c : UInt8} (h : UInt8.toNat c = 34) (s acc : List UInt8) : unqT (c :: s) acc = some (acc, s) := by
  cases s with
  | nil => rw [unqT, if_pos h]
  | cons d s => rw [unqT, if_pos h]
theorem unqT_b {c : UInt8} (h : UInt8.toNat c = 92) (d : UInt8) (s acc : List UInt8) : unqT (c :: d :: s) acc = unqT s (acc ++ [d]) := by
  rw [unqT, if_neg (by omega), if_pos h]
theorem unqT_o {c : UInt8} (h : UInt8.toNat c ≠ 34) (h2 : UInt8.toNat c ≠ 92) (s acc : List UInt8) : unqT (c :: s) acc = unqT s (acc ++ [c]) := by
  cases s with
  | nil => rw [unqT, unqT, if_neg h]
  | cons d s => rw [unqT, if_neg h, if_neg h2]
theorem unqT_e {c : UInt8} (h : UInt8.toNat c ≠ 34) (acc : List UInt8) : unqT [c] acc = none := by rw [unqT, if_neg h]
def bsI (s : List UInt8) : List Int := s.map fun c => ((UInt8.toNat c : Nat) : Int)
theorem bsI_back (s : List UInt8) : (bsI s).map (fun (n : Int) => UInt8.ofNat n.toNat) = s := by
  unfold bsI
  rw [List.map_map]
  conv => rhs; rw [← List.map_id s]
  refine List.map_congr_left fun c _ => ?_
  simp
theorem bsI_len (s : List UInt8) : (bsI s).length = s.length := by unfold bsI; rw [List.length_map]
theorem bsI_all (s : List UInt8) : List.all (bsI s) (fun n => decide (0 ≤ n) && decide (n < 256)) = true := by
  rw [List.all_eq_true]
  intro n hn
  unfold bsI at hn
  obtain ⟨c, _, rfl⟩ := List.mem_map.1 hn
  have := UInt8.toNat_lt c
  rw [Bool.and_eq_true, decide_eq_true_eq, decide_eq_true_eq]
  omega
theorem bsI_snoc (s : List UInt8) (c : UInt8) : bsI s ++ [((UInt8.toNat c : Nat) : Int)] = bsI (s ++ [c]) := by unfold bsI; rw [List.map_append]; rfl
theorem unq_loop (m : Nat) (s : List UInt8) (hs : s.length ≤ 1000000) : ∀ (n k : Nat) (acc : List UInt8), acc ≠ [] → acc.length ≤ k → k ≤ s.length → s.length - k < n →
    ∃ e j acc', l44_0 m n s 1 ((k : Nat) : Int) (bsI acc) = some (e, 1, ((j : Nat) : Int), bsI acc') ∧ ((e = 3 ∧ unqT (s.drop k) acc = none) ∨ (e = 2 ∧ unqT (s.drop k) acc = some (acc', s.drop (j + 1)) ∧ j < s.length))
  | 0, k, _, _, _, _, h => by omega
  | n + 1, k, acc, h0, h1, h2, h3 => by
    rw [l44_0]
    by_cases hk : k < s.length
    · have e1 : decide (((k : Nat) : Int) < (((List.length s) : Nat) : Int)) = true := decide_eq_true (by omega)
      have e2 : decide ((0 : Int) ≤ ((k : Nat) : Int)) = true := decide_eq_true (by omega)
      have e7 : IntKind.wrap .i64 (((k : Nat) : Int) + (1)) = ((k + 1 : Nat) : Int) := by rw [wrap_id (by omega) (by omega)]; rfl
      have e8 : IntKind.wrap .i64 (((k + 1 : Nat) : Int) + (1)) = ((k + 2 : Nat) : Int) := by rw [wrap_id (by omega) (by omega)]; rfl
      have e9 : decide ((0 : Int) ≤ ((k + 1 : Nat) : Int)) = true := decide_eq_true (by omega)
      have a0 : decide ((List.length (bsI acc)) = 0) = false := decide_eq_false (by rw [bsI_len]; exact fun e => h0 (List.length_eq_zero_iff.1 e))
      have a1 : decide (((List.length (bsI acc)) + 1) * 1 ≤ 70368744177664) = true := decide_eq_true (by rw [bsI_len]; omega)
      have a2 : (((decide ((((List.length (bsI acc)) : Nat) : Int) = (((List.length (bsI acc)) : Nat) : Int)) && (!List.isEmpty (bsI acc))) && decide ((List.length (bsI acc)) ≤ 9223372036854775807)) && List.all (bsI acc) (fun n => decide (0 ≤ n) && decide (n < 256))) = true := by
        rw [bsI_all, Bool.and_true, Bool.and_eq_true, Bool.and_eq_true]
        refine ⟨⟨decide_eq_true rfl, ?_⟩, decide_eq_true (by rw [bsI_len]; omega)⟩
        cases hb : bsI acc with
        | nil => exact absurd (by rw [← bsI_back acc, hb]; rfl) h0
        | cons _ _ => rfl
      have a3 : (decide (0 ≤ ((k + 1 : Nat) : Int)) && decide (((k + 1 : Nat) : Int) ≤ (((List.length s) : Nat) : Int))) = true := by rw [Bool.and_eq_true, decide_eq_true_eq, decide_eq_true_eq]; omega
      have a4 : decide (0 < (((List.length s) : Nat) : Int)) = true := decide_eq_true (by omega)
      have go := fun acc' (x : acc'.length ≤ acc.length + 1) (y : acc' ≠ []) => unq_loop m s hs n (k + 1) acc' y (by omega) (by omega) (by omega)
      have dk := drop_getD s k 0 hk
      rw [e7, show Int.toNat ((k : Nat) : Int) = k from rfl, if_pos e1, if_pos e2]
      by_cases c1 : UInt8.toNat (s.getD k 0) = 34
      · rw [if_pos (by rw [c1]; rfl), if_neg (by rw [a0]; decide), if_pos a2, if_pos a3, if_pos a4]
        exact ⟨2, k, acc, rfl, .inr ⟨rfl, by rw [dk, unqT_q c1], hk⟩⟩
      · rw [if_neg (by rw [beq_iff_eq]; omega)]
        by_cases c2 : UInt8.toNat (s.getD k 0) = 92
        · rw [if_pos (by rw [c2]; rfl)]
          by_cases hk2 : k + 1 < s.length
          · rw [if_pos (decide_eq_true (by omega)), if_pos e9, if_pos a1, e8, show Int.toNat ((k + 1 : Nat) : Int) = k + 1 from rfl, bsI_snoc]
            obtain ⟨e, j, acc', h, hh⟩ := unq_loop m s hs n (k + 2) (acc ++ [s.getD (k + 1) 0]) (by simp) (by rw [List.length_append, List.length_singleton]; omega) (by omega) (by omega)
            refine ⟨e, j, acc', h, ?_⟩
            rw [dk, drop_getD s (k + 1) 0 hk2, unqT_b c2]
            exact hh
          · rw [if_neg (by rw [decide_eq_true_eq]; omega), if_pos a1, bsI_snoc]
            obtain ⟨e, j, acc', h, hh⟩ := go (acc ++ [s.getD k 0]) (by simp) (by simp)
            refine ⟨e, j, acc', h, ?_⟩
            have dn : s.drop (k + 1) = [] := List.drop_eq_nil_of_le (by omega)
            rw [dn, unqT] at hh
            rw [dk, dn, unqT_e c1]
            rcases hh with hh | hh
            · exact .inl hh
            · cases hh.2.1
        · rw [if_neg (by rw [beq_iff_eq]; omega), if_pos a1, bsI_snoc]
          obtain ⟨e, j, acc', h, hh⟩ := go (acc ++ [s.getD k 0]) (by simp) (by simp)
          refine ⟨e, j, acc', h, ?_⟩
          rw [dk, unqT_o c1 c2]
          exact hh
    · have e1 : decide (((k : Nat) : Int) < (((List.length s) : Nat) : Int)) = false := decide_eq_false (by omega)
      rw [e1, if_neg (by simp), List.drop_eq_nil_of_le (by omega)]
      exact ⟨3, k, acc, rfl, .inl ⟨rfl, by rw [unqT]⟩⟩
theorem unq_after (m : Nat) (s : List UInt8) (h : s.length ≤ 1000000) (q : UInt8) (t : List UInt8) (hq : s.getD 0 0 = q) {k : Nat} {acc : List UInt8} (e : l44_0 m (m + 24) s 0 0 [] = l44_0 m (m + 23) s 1 ((k : Nat) : Int) (bsI acc)) (h0 : acc ≠ []) (h1 : acc.length ≤ k) (h2 : k ≤ s.length) (hm : s.length ≤ m) (hu : unqT t [] = unqT (s.drop k) acc) : p44 m s = some (match unqT t [] with
    | none => ([], [], false)
    | some (v, r) => (v, r, UInt8.toNat q == 34)) := by
  obtain ⟨x, j, acc', hl, hh⟩ := unq_loop m s h (m + 23) k acc h0 h1 h2 (by omega)
  unfold p44
  rw [← e] at hl
  simp only [l44_0R, hl, Option.isSome_some, Option.getD_some, ↓reduceIte]
  rw [hu]
  rcases hh with ⟨rfl, hn⟩ | ⟨rfl, hs, hj⟩
  · rw [if_neg (by decide), if_neg (by decide), if_neg (by decide), if_pos (by decide), hn]
  · rw [if_neg (by decide), if_neg (by decide), if_pos (by decide), hs, bsI_back, wrap_id (by omega) (by omega), hq]
    have e3 : (((UInt8.toNat q : Nat) : Int) == (34)) = (UInt8.toNat q == 34) := by
      rw [Bool.eq_iff_iff, beq_iff_eq, beq_iff_eq]; omega
    rw [e3, List.take_length]
    rfl
theorem unq44 (s : List UInt8) (h : decide (s.length ≤ 1000000) = true) : ∃ m, p44 m s = some (unqG s) := by
  have h := of_decide_eq_true h
  refine ⟨s.length, ?_⟩
  have e3 : ∀ q : UInt8, (((UInt8.toNat q : Nat) : Int) == (34)) = (UInt8.toNat q == 34) := by
    intro q
    rw [Bool.eq_iff_iff, beq_iff_eq, beq_iff_eq]; omega
  cases s with
  | nil => rfl
  | cons q t =>
    cases t with
    | nil =>
      have hl : l44_0 [q].length ([q].length + 24) [q] 0 0 [] = some (1, 0, 0, []) := by
        rw [l44_0, if_neg (by simp)]
      unfold p44 unqG unqT
      simp only [l44_0R, hl, Option.isSome_some, Option.getD_some, ↓reduceIte]
      rw [if_neg (by decide), if_pos (by decide)]
    | cons c t =>
      have u := fun (k : Nat) (acc : List UInt8) => unq_after (q :: c :: t).length (q :: c :: t) h q (c :: t) rfl (k := k) (acc := acc)
      have z1 : decide (1 < (((List.length (q :: c :: t)) : Nat) : Int)) = true := decide_eq_true (by simp only [List.length_cons]; omega)
      have z2 : decide (2 ≤ (((List.length (q :: c :: t)) : Nat) : Int)) = true := decide_eq_true (by simp only [List.length_cons]; omega)
      have z3 : decide (0 < (((List.length (q :: c :: t)) : Nat) : Int)) = true := decide_eq_true (by simp only [List.length_cons]; omega)
      have g1 : List.getD (q :: c :: t) 1 0 = c := rfl
      rw [unqG]
      by_cases c1 : UInt8.toNat c = 34
      · have hl : l44_0 (q :: c :: t).length ((q :: c :: t).length + 24) (q :: c :: t) 0 0 [] = some (0, 0, 0, []) := by
          rw [l44_0, if_pos z1, g1, if_pos (by rw [c1]; rfl), if_pos z2, if_pos z3]
        rw [unqT_q c1]
        unfold p44
        simp only [l44_0R, hl, Option.isSome_some, Option.getD_some, ↓reduceIte]
        rw [if_pos (by decide), List.take_length]
        show some (_, _, (((UInt8.toNat q : Nat) : Int) == (34))) = _
        rw [e3]; rfl
      · by_cases c2 : UInt8.toNat c = 92
        · cases t with
          | nil =>
            refine u 2 [c] ?_ (by simp) (by simp) (by simp) (Nat.le_refl _) ?_
            · rw [l44_0, if_pos z1, g1, if_neg (by rw [beq_iff_eq]; omega), if_pos (by rw [c2]; rfl), if_neg (by simp)]; rfl
            · rw [unqT_e c1]; rfl
          | cons d t =>
            refine u 3 [d] ?_ (by simp) (by simp) (by simp) (Nat.le_refl _) ?_
            · rw [l44_0, if_pos z1, g1, if_neg (by rw [beq_iff_eq]; omega), if_pos (by rw [c2]; rfl), if_pos (decide_eq_true (by simp only [List.length_cons]; omega))]; rfl
            · rw [unqT_b c2]; rfl
        · refine u 2 [c] ?_ (by simp) (by simp) (by simp) (Nat.le_refl _) ?_
          · rw [l44_0, if_pos z1, g1, if_neg (by rw [beq_iff_eq]; omega), if_neg (by rw [beq_iff_eq]; omega)]; rfl
          · rw [unqT_o c1 c2]; rfl
def s44 : List AV → Boxes → M (AV × Boxes) := normS [.val .str] [] fun xs B => match xs, B with
  | [(.d (.str c1))], [] => .chk (decide (List.length c1 ≤ 1000000)) (.ret ((.tup [(.d (.str (unqG c1).1)), (.d (.str (unqG c1).2.1)), (.d (.bool (unqG c1).2.2))]), []))
  | _, _ => .fail
theorem s44_at : CallAt Tryd.prog 44 s44 := by
  refine CallAt.norm (CallAt.weakE (g := fun n => evCall F S16 n 44) (fun n => evCall_atH mixed kinds hds S16 S16_ok n 44) fun xs B r' B' hr => ?_) _ _
  split at hr
  · rename_i c1
    obtain ⟨hp, hr⟩ := (M.run_chk _ _ _).1 hr
    simp only [M.run, Option.some.injEq, Prod.mk.injEq] at hr
    obtain ⟨rfl, rfl⟩ := hr
    obtain ⟨m, hm⟩ := unq44 c1 hp
    obtain ⟨r, B1, h1, h2, h3, h4⟩ := p44_ok m c1 _ hm
    exact ⟨m + 25, r, B1, h1, by simp, h2, h3, h4⟩
  · simp [M.run] at hr
noncomputable def S17 : FuncId → Option (List AV → Boxes → M (AV × Boxes)) := fun f => if f = 44 then some s44 else S16 f
set_option maxHeartbeats 20000000 in
theorem S17_ok : ∀ f s, S17 f = some s → CallAt Tryd.prog f s := by
  intro f s h
  unfold S17 at h
  split at h
  · rename_i e; subst e; cases h; exact s44_at
  · exact S16_ok f s h

end Go.Proofs.YtcdpgldecikejaaDoor.Dec
