/- lset.Right. lset.Print, Same of labels. LsetRuns, MatchRuns, reckoned. slices.Index of texts. lset.Drop, lset.Keep. lset.With. -/
import Derived.Test.YtcdpgldecikejaaDoorQF5
import Derived.KernelRfl
namespace Go.Proofs.YtcdpgldecikejaaDoor.Dec
open Go.Ev
set_option linter.unusedVariables false
set_option linter.unusedSimpArgs false
set_option maxRecDepth 100000
noncomputable def fn11 : AFn := (F 11).getD ⟨0, [], .bad, false, false, noHd⟩
noncomputable def body11 : AC := fn11.body
def l11_0 (m : Nat) : Nat → List ((List UInt8) × (List UInt8)) → Int → Int → Option (Nat × Int)
  | 0, _, _, _ => none
  | n + 1, x0, s6, s7 => if decide (s7 < s6) = true then
      if decide (0 ≤ s7) = true then
        if decide (s7 < (((List.length x0) : Nat) : Int)) = true then
          if decide (List.length (List.getD x0 (Int.toNat s7) (([] : List UInt8), ([] : List UInt8))).1 ≤ 9223372036854775807) = true then
            if (wordG (List.getD x0 (Int.toNat s7) (([] : List UInt8), ([] : List UInt8))).1) = true then
              if ((List.getD x0 (Int.toNat s7) (([] : List UInt8), ([] : List UInt8))).2 == ([] : List UInt8)) = true then
                some (1, s7)
              else
                if decide ((((List.length (List.getD x0 (Int.toNat s7) (([] : List UInt8), ([] : List UInt8))).2) : Nat) : Int) > 24) = true then
                  some (2, s7)
                else
                  if decide (s7 > 0) = true then
                    if decide (0 ≤ (IntKind.wrap .i64 (s7 - (1)))) = true then
                      if decide ((IntKind.wrap .i64 (s7 - (1))) < (((List.length x0) : Nat) : Int)) = true then
                        if (Op.bytesLess (List.getD x0 (Int.toNat (IntKind.wrap .i64 (s7 - (1)))) (([] : List UInt8), ([] : List UInt8))).1 (List.getD x0 (Int.toNat s7) (([] : List UInt8), ([] : List UInt8))).1) = true then
                          l11_0 m n x0 s6 ((IntKind.wrap .i64 (s7 + (1))))
                        else
                          some (3, s7)
                      else
                        none
                    else
                      none
                  else
                    l11_0 m n x0 s6 ((IntKind.wrap .i64 (s7 + (1))))
            else
              some (0, s7)
          else
            none
        else
          none
      else
        none
    else
      some (4, s7)
def l11_0D : Nat × Int := (0, 0)
@[reducible] def l11_0R (m n : Nat) (x0 : List ((List UInt8) × (List UInt8))) (s6 : Int) (s7 : Int) : Nat × Int := Option.getD (l11_0 m n x0 s6 s7) l11_0D
def l11_0H (x0 : List ((List UInt8) × (List UInt8))) (s6 : Int) (s7 : Int) : Env := [(.d (.sl (.pair .str .str) x0)), .top, .top, .top, .top, (.d (.sl (.pair .str .str) x0)), (.d (.int .i64 s6)), (.d (.int .i64 s7)), .top, .top, .top, .top, .top, .top, .top, .top, .top, .top, .top, .top, .top, .top, .top, .top, .top, .top, .top, .top, .top, .top, .top, .top, .top, .top, .top, .top, .top, .top, .top, .top, .top, .top, .top, .top, .top, .top]
def l11_0B (x0 : List ((List UInt8) × (List UInt8))) (s6 : Int) (s7 : Int) : Boxes := []
def l11_0E (x0 : List ((List UInt8) × (List UInt8))) (s6 : Int) (s7 : Int) : Nat → AEx × Env × Boxes
  | 0 => (.ret, [(.d (.sl (.pair .str .str) x0)), .top, (.d (.bool false)), (.d (.int .i64 s7)), (.ptr 0 0), (.d (.sl (.pair .str .str) x0)), (.d (.int .i64 s6)), (.d (.int .i64 s7)), (.d (.bool (decide (s7 < s6)))), (.d (.int .i64 s7)), (.cptr [(.str (List.getD x0 (Int.toNat s7) (([] : List UInt8), ([] : List UInt8))).1), (.str (List.getD x0 (Int.toNat s7) (([] : List UInt8), ([] : List UInt8))).2)] 0), (.agg [(.d (.str (List.getD x0 (Int.toNat s7) (([] : List UInt8), ([] : List UInt8))).1)), (.d (.str (List.getD x0 (Int.toNat s7) (([] : List UInt8), ([] : List UInt8))).2))]), (.ptr 0 0), (.d (.str (List.getD x0 (Int.toNat s7) (([] : List UInt8), ([] : List UInt8))).1)), (.d (.bool (wordG (List.getD x0 (Int.toNat s7) (([] : List UInt8), ([] : List UInt8))).1))), (.d (.bool (!(wordG (List.getD x0 (Int.toNat s7) (([] : List UInt8), ([] : List UInt8))).1)))), (.d (.bool (!(wordG (List.getD x0 (Int.toNat s7) (([] : List UInt8), ([] : List UInt8))).1)))), (.tup []), (.tup []), (.tup []), (.d (.bool true)), (.d (.bool true)), (.tup []), (.tup []), (.tup []), (.tup []), (.d (.bool true)), (.d (.bool true)), (.tup []), (.tup []), (.tup []), (.tup []), (.tup []), (.tup []), (.tup []), (.tup []), (.tup []), (.tup []), (.tup []), (.tup []), (.tup []), (.d (.bool true)), .top, .top, .top, .top], [(.cells [(.d (.str (List.getD x0 (Int.toNat s7) (([] : List UInt8), ([] : List UInt8))).1)), (.d (.str (List.getD x0 (Int.toNat s7) (([] : List UInt8), ([] : List UInt8))).2))]), .dead, .dead, .dead, .dead, .dead, .dead, .dead, .dead, .dead, .dead, .dead, .dead, .dead, .dead, .dead, .dead, .dead, .dead, .dead, .dead, .dead, .dead, .dead, .dead, .dead, .dead, .dead, .dead, .dead, .dead, .dead, .dead, .dead, .dead, .dead, .dead, .dead, .dead, .dead, .dead, .dead, .dead, .dead, .dead, .dead, .dead, .dead, .dead, .dead, .dead, .dead, .dead, .dead, .dead, .dead, .dead, .dead, .dead, .dead, .dead, .dead, .dead, .dead, .dead, .dead, .dead, .dead, .dead, .dead, .dead, .dead, .dead, .dead, .dead, .dead, .dead, .dead, .dead, .dead, .dead, .dead, .dead, .dead, .dead, .dead, .dead, .dead, .dead, .dead, .dead, .dead, .dead, .dead, .dead, .dead, .dead, .dead, .dead, .dead, .dead, .dead, .dead, .dead, .dead, .dead, .dead, .dead, .dead, .dead, .dead, .dead, .dead, .dead, .dead, .dead, .dead, .dead, .dead, .dead, .dead])
  | 1 => (.ret, [(.d (.sl (.pair .str .str) x0)), .top, (.d (.bool false)), (.d (.int .i64 s7)), (.ptr 0 0), (.d (.sl (.pair .str .str) x0)), (.d (.int .i64 s6)), (.d (.int .i64 s7)), (.d (.bool (decide (s7 < s6)))), (.d (.int .i64 s7)), (.cptr [(.str (List.getD x0 (Int.toNat s7) (([] : List UInt8), ([] : List UInt8))).1), (.str (List.getD x0 (Int.toNat s7) (([] : List UInt8), ([] : List UInt8))).2)] 0), (.agg [(.d (.str (List.getD x0 (Int.toNat s7) (([] : List UInt8), ([] : List UInt8))).1)), (.d (.str (List.getD x0 (Int.toNat s7) (([] : List UInt8), ([] : List UInt8))).2))]), (.ptr 0 0), (.d (.str (List.getD x0 (Int.toNat s7) (([] : List UInt8), ([] : List UInt8))).1)), (.d (.bool (wordG (List.getD x0 (Int.toNat s7) (([] : List UInt8), ([] : List UInt8))).1))), (.d (.bool (!(wordG (List.getD x0 (Int.toNat s7) (([] : List UInt8), ([] : List UInt8))).1)))), (.d (.bool (!(wordG (List.getD x0 (Int.toNat s7) (([] : List UInt8), ([] : List UInt8))).1)))), (.ptr 0 1), (.d (.str (List.getD x0 (Int.toNat s7) (([] : List UInt8), ([] : List UInt8))).2)), (.d (.bool ((List.getD x0 (Int.toNat s7) (([] : List UInt8), ([] : List UInt8))).2 == ([] : List UInt8)))), (.d (.bool ((List.getD x0 (Int.toNat s7) (([] : List UInt8), ([] : List UInt8))).2 == ([] : List UInt8)))), (.d (.bool ((List.getD x0 (Int.toNat s7) (([] : List UInt8), ([] : List UInt8))).2 == ([] : List UInt8)))), (.tup []), (.tup []), (.tup []), (.tup []), (.d (.bool true)), (.d (.bool true)), (.tup []), (.tup []), (.tup []), (.tup []), (.tup []), (.tup []), (.tup []), (.tup []), (.tup []), (.tup []), (.tup []), (.tup []), (.tup []), (.d (.bool true)), .top, .top, .top, .top], [(.cells [(.d (.str (List.getD x0 (Int.toNat s7) (([] : List UInt8), ([] : List UInt8))).1)), (.d (.str (List.getD x0 (Int.toNat s7) (([] : List UInt8), ([] : List UInt8))).2))]), .dead, .dead, .dead, .dead, .dead, .dead, .dead, .dead, .dead, .dead, .dead, .dead, .dead, .dead, .dead, .dead, .dead, .dead, .dead, .dead, .dead, .dead, .dead, .dead, .dead, .dead, .dead, .dead, .dead, .dead, .dead, .dead, .dead, .dead, .dead, .dead, .dead, .dead, .dead, .dead, .dead, .dead, .dead, .dead, .dead, .dead, .dead, .dead, .dead, .dead, .dead, .dead, .dead, .dead, .dead, .dead, .dead, .dead, .dead, .dead, .dead, .dead, .dead, .dead, .dead, .dead, .dead, .dead, .dead, .dead, .dead, .dead, .dead, .dead, .dead, .dead, .dead, .dead, .dead, .dead, .dead, .dead, .dead, .dead, .dead, .dead, .dead, .dead, .dead, .dead, .dead, .dead, .dead, .dead, .dead, .dead, .dead, .dead, .dead, .dead, .dead, .dead, .dead, .dead, .dead, .dead, .dead, .dead, .dead, .dead, .dead, .dead, .dead, .dead, .dead, .dead, .dead, .dead, .dead, .dead])
  | 2 => (.ret, [(.d (.sl (.pair .str .str) x0)), .top, (.d (.bool false)), (.d (.int .i64 s7)), (.ptr 0 0), (.d (.sl (.pair .str .str) x0)), (.d (.int .i64 s6)), (.d (.int .i64 s7)), (.d (.bool (decide (s7 < s6)))), (.d (.int .i64 s7)), (.cptr [(.str (List.getD x0 (Int.toNat s7) (([] : List UInt8), ([] : List UInt8))).1), (.str (List.getD x0 (Int.toNat s7) (([] : List UInt8), ([] : List UInt8))).2)] 0), (.agg [(.d (.str (List.getD x0 (Int.toNat s7) (([] : List UInt8), ([] : List UInt8))).1)), (.d (.str (List.getD x0 (Int.toNat s7) (([] : List UInt8), ([] : List UInt8))).2))]), (.ptr 0 0), (.d (.str (List.getD x0 (Int.toNat s7) (([] : List UInt8), ([] : List UInt8))).1)), (.d (.bool (wordG (List.getD x0 (Int.toNat s7) (([] : List UInt8), ([] : List UInt8))).1))), (.d (.bool (!(wordG (List.getD x0 (Int.toNat s7) (([] : List UInt8), ([] : List UInt8))).1)))), (.d (.bool (!(wordG (List.getD x0 (Int.toNat s7) (([] : List UInt8), ([] : List UInt8))).1)))), (.ptr 0 1), (.d (.str (List.getD x0 (Int.toNat s7) (([] : List UInt8), ([] : List UInt8))).2)), (.d (.bool ((List.getD x0 (Int.toNat s7) (([] : List UInt8), ([] : List UInt8))).2 == ([] : List UInt8)))), (.d (.bool ((List.getD x0 (Int.toNat s7) (([] : List UInt8), ([] : List UInt8))).2 == ([] : List UInt8)))), (.d (.bool ((List.getD x0 (Int.toNat s7) (([] : List UInt8), ([] : List UInt8))).2 == ([] : List UInt8)))), (.ptr 0 1), (.d (.str (List.getD x0 (Int.toNat s7) (([] : List UInt8), ([] : List UInt8))).2)), (.d (.int .i64 (((List.length (List.getD x0 (Int.toNat s7) (([] : List UInt8), ([] : List UInt8))).2) : Nat) : Int))), (.d (.bool (decide ((((List.length (List.getD x0 (Int.toNat s7) (([] : List UInt8), ([] : List UInt8))).2) : Nat) : Int) > 24)))), (.d (.bool (decide ((((List.length (List.getD x0 (Int.toNat s7) (([] : List UInt8), ([] : List UInt8))).2) : Nat) : Int) > 24)))), (.d (.bool (decide ((((List.length (List.getD x0 (Int.toNat s7) (([] : List UInt8), ([] : List UInt8))).2) : Nat) : Int) > 24)))), (.tup []), (.tup []), (.tup []), (.tup []), (.tup []), (.tup []), (.tup []), (.tup []), (.tup []), (.tup []), (.tup []), (.tup []), (.tup []), (.d (.bool true)), .top, .top, .top, .top], [(.cells [(.d (.str (List.getD x0 (Int.toNat s7) (([] : List UInt8), ([] : List UInt8))).1)), (.d (.str (List.getD x0 (Int.toNat s7) (([] : List UInt8), ([] : List UInt8))).2))]), .dead, .dead, .dead, .dead, .dead, .dead, .dead, .dead, .dead, .dead, .dead, .dead, .dead, .dead, .dead, .dead, .dead, .dead, .dead, .dead, .dead, .dead, .dead, .dead, .dead, .dead, .dead, .dead, .dead, .dead, .dead, .dead, .dead, .dead, .dead, .dead, .dead, .dead, .dead, .dead, .dead, .dead, .dead, .dead, .dead, .dead, .dead, .dead, .dead, .dead, .dead, .dead, .dead, .dead, .dead, .dead, .dead, .dead, .dead, .dead, .dead, .dead, .dead, .dead, .dead, .dead, .dead, .dead, .dead, .dead, .dead, .dead, .dead, .dead, .dead, .dead, .dead, .dead, .dead, .dead, .dead, .dead, .dead, .dead, .dead, .dead, .dead, .dead, .dead, .dead, .dead, .dead, .dead, .dead, .dead, .dead, .dead, .dead, .dead, .dead, .dead, .dead, .dead, .dead, .dead, .dead, .dead, .dead, .dead, .dead, .dead, .dead, .dead, .dead, .dead, .dead, .dead, .dead, .dead, .dead])
  | 3 => (.ret, [(.d (.sl (.pair .str .str) x0)), .top, (.d (.bool false)), (.d (.int .i64 s7)), (.ptr 0 0), (.d (.sl (.pair .str .str) x0)), (.d (.int .i64 s6)), (.d (.int .i64 s7)), (.d (.bool (decide (s7 < s6)))), (.d (.int .i64 s7)), (.cptr [(.str (List.getD x0 (Int.toNat s7) (([] : List UInt8), ([] : List UInt8))).1), (.str (List.getD x0 (Int.toNat s7) (([] : List UInt8), ([] : List UInt8))).2)] 0), (.agg [(.d (.str (List.getD x0 (Int.toNat s7) (([] : List UInt8), ([] : List UInt8))).1)), (.d (.str (List.getD x0 (Int.toNat s7) (([] : List UInt8), ([] : List UInt8))).2))]), (.ptr 0 0), (.d (.str (List.getD x0 (Int.toNat s7) (([] : List UInt8), ([] : List UInt8))).1)), (.d (.bool (wordG (List.getD x0 (Int.toNat s7) (([] : List UInt8), ([] : List UInt8))).1))), (.d (.bool (!(wordG (List.getD x0 (Int.toNat s7) (([] : List UInt8), ([] : List UInt8))).1)))), (.d (.bool (!(wordG (List.getD x0 (Int.toNat s7) (([] : List UInt8), ([] : List UInt8))).1)))), (.ptr 0 1), (.d (.str (List.getD x0 (Int.toNat s7) (([] : List UInt8), ([] : List UInt8))).2)), (.d (.bool ((List.getD x0 (Int.toNat s7) (([] : List UInt8), ([] : List UInt8))).2 == ([] : List UInt8)))), (.d (.bool ((List.getD x0 (Int.toNat s7) (([] : List UInt8), ([] : List UInt8))).2 == ([] : List UInt8)))), (.d (.bool ((List.getD x0 (Int.toNat s7) (([] : List UInt8), ([] : List UInt8))).2 == ([] : List UInt8)))), (.ptr 0 1), (.d (.str (List.getD x0 (Int.toNat s7) (([] : List UInt8), ([] : List UInt8))).2)), (.d (.int .i64 (((List.length (List.getD x0 (Int.toNat s7) (([] : List UInt8), ([] : List UInt8))).2) : Nat) : Int))), (.d (.bool (decide ((((List.length (List.getD x0 (Int.toNat s7) (([] : List UInt8), ([] : List UInt8))).2) : Nat) : Int) > 24)))), (.d (.bool (decide ((((List.length (List.getD x0 (Int.toNat s7) (([] : List UInt8), ([] : List UInt8))).2) : Nat) : Int) > 24)))), (.d (.bool (decide ((((List.length (List.getD x0 (Int.toNat s7) (([] : List UInt8), ([] : List UInt8))).2) : Nat) : Int) > 24)))), (.d (.int .i64 s7)), (.d (.bool (decide (s7 > 0)))), (.d (.bool (decide (s7 > 0)))), (.d (.sl (.pair .str .str) x0)), (.d (.int .i64 s7)), (.d (.int .i64 (IntKind.wrap .i64 (s7 - (1))))), (.cptr [(.str (List.getD x0 (Int.toNat (IntKind.wrap .i64 (s7 - (1)))) (([] : List UInt8), ([] : List UInt8))).1), (.str (List.getD x0 (Int.toNat (IntKind.wrap .i64 (s7 - (1)))) (([] : List UInt8), ([] : List UInt8))).2)] 0), (.cptr [(.str (List.getD x0 (Int.toNat (IntKind.wrap .i64 (s7 - (1)))) (([] : List UInt8), ([] : List UInt8))).1), (.str (List.getD x0 (Int.toNat (IntKind.wrap .i64 (s7 - (1)))) (([] : List UInt8), ([] : List UInt8))).2)] 0), (.d (.str (List.getD x0 (Int.toNat (IntKind.wrap .i64 (s7 - (1)))) (([] : List UInt8), ([] : List UInt8))).1)), (.ptr 0 0), (.d (.str (List.getD x0 (Int.toNat s7) (([] : List UInt8), ([] : List UInt8))).1)), (.d (.bool (!(Op.bytesLess (List.getD x0 (Int.toNat (IntKind.wrap .i64 (s7 - (1)))) (([] : List UInt8), ([] : List UInt8))).1 (List.getD x0 (Int.toNat s7) (([] : List UInt8), ([] : List UInt8))).1)))), (.d (.bool (!(Op.bytesLess (List.getD x0 (Int.toNat (IntKind.wrap .i64 (s7 - (1)))) (([] : List UInt8), ([] : List UInt8))).1 (List.getD x0 (Int.toNat s7) (([] : List UInt8), ([] : List UInt8))).1)))), (.d (.bool (!(Op.bytesLess (List.getD x0 (Int.toNat (IntKind.wrap .i64 (s7 - (1)))) (([] : List UInt8), ([] : List UInt8))).1 (List.getD x0 (Int.toNat s7) (([] : List UInt8), ([] : List UInt8))).1)))), .top, .top, .top, .top], [(.cells [(.d (.str (List.getD x0 (Int.toNat s7) (([] : List UInt8), ([] : List UInt8))).1)), (.d (.str (List.getD x0 (Int.toNat s7) (([] : List UInt8), ([] : List UInt8))).2))]), .dead, .dead, .dead, .dead, .dead, .dead, .dead, .dead, .dead, .dead, .dead, .dead, .dead, .dead, .dead, .dead, .dead, .dead, .dead, .dead, .dead, .dead, .dead, .dead, .dead, .dead, .dead, .dead, .dead, .dead, .dead, .dead, .dead, .dead, .dead, .dead, .dead, .dead, .dead, .dead, .dead, .dead, .dead, .dead, .dead, .dead, .dead, .dead, .dead, .dead, .dead, .dead, .dead, .dead, .dead, .dead, .dead, .dead, .dead, .dead, .dead, .dead, .dead, .dead, .dead, .dead, .dead, .dead, .dead, .dead, .dead, .dead, .dead, .dead, .dead, .dead, .dead, .dead, .dead, .dead, .dead, .dead, .dead, .dead, .dead, .dead, .dead, .dead, .dead, .dead, .dead, .dead, .dead, .dead, .dead, .dead, .dead, .dead, .dead, .dead, .dead, .dead, .dead, .dead, .dead, .dead, .dead, .dead, .dead, .dead, .dead, .dead, .dead, .dead, .dead, .dead, .dead, .dead, .dead, .dead])
  | _ => (.exit 0, [(.d (.sl (.pair .str .str) x0)), .top, .top, .top, .top, (.d (.sl (.pair .str .str) x0)), (.d (.int .i64 s6)), (.d (.int .i64 s7)), (.d (.bool (decide (s7 < s6)))), .top, .top, .top, .top, .top, .top, .top, .top, .top, .top, .top, .top, .top, .top, .top, .top, .top, .top, .top, .top, .top, .top, .top, .top, .top, .top, .top, .top, .top, .top, .top, .top, .top, .top, .top, .top, .top], [])
noncomputable def lbl11_0 : AC := loopBody 225 body11

set_option maxHeartbeats 20000000 in
theorem l11_0_w0 (m n : Nat) (x0 : List ((List UInt8) × (List UInt8))) (s6 : Int) (s7 : Int) (c0 : decide (s7 < s6) = true) (c1 : decide (0 ≤ s7) = true) (c2 : decide (s7 < (((List.length x0) : Nat) : Int)) = true) (c3 : decide (List.length (List.getD x0 (Int.toNat s7) (([] : List UInt8), ([] : List UInt8))).1 ≤ 9223372036854775807) = true) (c4 : (wordG (List.getD x0 (Int.toNat s7) (([] : List UInt8), ([] : List UInt8))).1) = true) (c8 : ((List.getD x0 (Int.toNat s7) (([] : List UInt8), ([] : List UInt8))).2 == ([] : List UInt8)) = true) : (turns (hds 11 225) 0 225 (evC byref (evCall F S11 (m + 24)) (m + 24) 0 (hds 11) lbl11_0) (n + 1) (l11_0H x0 s6 s7) (l11_0B x0 s6 s7)).run = some (let r1 := (wordG (List.getD x0 (Int.toNat s7) (([] : List UInt8), ([] : List UInt8))).1); (.ret, [(.d (.sl (.pair .str .str) x0)), .top, (.d (.bool false)), (.d (.int .i64 s7)), (.ptr 0 0), (.d (.sl (.pair .str .str) x0)), (.d (.int .i64 s6)), (.d (.int .i64 s7)), (.d (.bool (decide (s7 < s6)))), (.d (.int .i64 s7)), (.cptr [(.str (List.getD x0 (Int.toNat s7) (([] : List UInt8), ([] : List UInt8))).1), (.str (List.getD x0 (Int.toNat s7) (([] : List UInt8), ([] : List UInt8))).2)] 0), (.agg [(.d (.str (List.getD x0 (Int.toNat s7) (([] : List UInt8), ([] : List UInt8))).1)), (.d (.str (List.getD x0 (Int.toNat s7) (([] : List UInt8), ([] : List UInt8))).2))]), (.ptr 0 0), (.d (.str (List.getD x0 (Int.toNat s7) (([] : List UInt8), ([] : List UInt8))).1)), (.d (.bool r1)), (.d (.bool (!r1))), (.d (.bool (!r1))), (.ptr 0 1), (.d (.str (List.getD x0 (Int.toNat s7) (([] : List UInt8), ([] : List UInt8))).2)), (.d (.bool ((List.getD x0 (Int.toNat s7) (([] : List UInt8), ([] : List UInt8))).2 == ([] : List UInt8)))), (.d (.bool ((List.getD x0 (Int.toNat s7) (([] : List UInt8), ([] : List UInt8))).2 == ([] : List UInt8)))), (.d (.bool ((List.getD x0 (Int.toNat s7) (([] : List UInt8), ([] : List UInt8))).2 == ([] : List UInt8)))), (.tup []), (.tup []), (.tup []), (.tup []), (.d (.bool true)), (.d (.bool true)), (.tup []), (.tup []), (.tup []), (.tup []), (.tup []), (.tup []), (.tup []), (.tup []), (.tup []), (.tup []), (.tup []), (.tup []), (.tup []), (.d (.bool true)), .top, .top, .top, .top], [(.cells [(.d (.str (List.getD x0 (Int.toNat s7) (([] : List UInt8), ([] : List UInt8))).1)), (.d (.str (List.getD x0 (Int.toNat s7) (([] : List UInt8), ([] : List UInt8))).2))]), .dead, .dead, .dead, .dead, .dead, .dead, .dead, .dead, .dead, .dead, .dead, .dead, .dead, .dead, .dead, .dead, .dead, .dead, .dead, .dead, .dead, .dead, .dead, .dead, .dead, .dead, .dead, .dead, .dead, .dead, .dead, .dead, .dead, .dead, .dead, .dead, .dead, .dead, .dead, .dead, .dead, .dead, .dead, .dead, .dead, .dead, .dead, .dead, .dead, .dead, .dead, .dead, .dead, .dead, .dead, .dead, .dead, .dead, .dead, .dead, .dead, .dead, .dead, .dead, .dead, .dead, .dead, .dead, .dead, .dead, .dead, .dead, .dead, .dead, .dead, .dead, .dead, .dead, .dead, .dead, .dead, .dead, .dead, .dead, .dead, .dead, .dead, .dead, .dead, .dead, .dead, .dead, .dead, .dead, .dead, .dead, .dead, .dead, .dead, .dead, .dead, .dead, .dead, .dead, .dead, .dead, .dead, .dead, .dead, .dead, .dead, .dead, .dead, .dead, .dead, .dead, .dead, .dead, .dead, .dead])) := by
  exact turns_last (by simp) (M.run_of_path _ [true, true, true, true, false, false, false, false, true, true, true, true, true, true, true, true, true, true, true] _ _ (by kernel_rfl) (all_t c0 (all_t c1 (all_t c2 (all_t c3 (all_nt c4 (all_nt c4 (all_nt c4 (all_nt c4 (all_t c8 (all_t c8 (all_t c8 (all_t c8 (all_t c8 (all_t rfl (all_t rfl (all_t rfl (all_t rfl (all_t rfl (all_t rfl all_nil)))))))))))))))))))) 
set_option maxHeartbeats 20000000 in
theorem l11_0_w1 (m n : Nat) (x0 : List ((List UInt8) × (List UInt8))) (s6 : Int) (s7 : Int) (c0 : decide (s7 < s6) = true) (c1 : decide (0 ≤ s7) = true) (c2 : decide (s7 < (((List.length x0) : Nat) : Int)) = true) (c3 : decide (List.length (List.getD x0 (Int.toNat s7) (([] : List UInt8), ([] : List UInt8))).1 ≤ 9223372036854775807) = true) (c4 : (wordG (List.getD x0 (Int.toNat s7) (([] : List UInt8), ([] : List UInt8))).1) = true) (c8 : ¬ ((List.getD x0 (Int.toNat s7) (([] : List UInt8), ([] : List UInt8))).2 == ([] : List UInt8)) = true) (c13 : decide ((((List.length (List.getD x0 (Int.toNat s7) (([] : List UInt8), ([] : List UInt8))).2) : Nat) : Int) > 24) = true) : (turns (hds 11 225) 0 225 (evC byref (evCall F S11 (m + 24)) (m + 24) 0 (hds 11) lbl11_0) (n + 1) (l11_0H x0 s6 s7) (l11_0B x0 s6 s7)).run = some (let r1 := (wordG (List.getD x0 (Int.toNat s7) (([] : List UInt8), ([] : List UInt8))).1); (.ret, [(.d (.sl (.pair .str .str) x0)), .top, (.d (.bool false)), (.d (.int .i64 s7)), (.ptr 0 0), (.d (.sl (.pair .str .str) x0)), (.d (.int .i64 s6)), (.d (.int .i64 s7)), (.d (.bool (decide (s7 < s6)))), (.d (.int .i64 s7)), (.cptr [(.str (List.getD x0 (Int.toNat s7) (([] : List UInt8), ([] : List UInt8))).1), (.str (List.getD x0 (Int.toNat s7) (([] : List UInt8), ([] : List UInt8))).2)] 0), (.agg [(.d (.str (List.getD x0 (Int.toNat s7) (([] : List UInt8), ([] : List UInt8))).1)), (.d (.str (List.getD x0 (Int.toNat s7) (([] : List UInt8), ([] : List UInt8))).2))]), (.ptr 0 0), (.d (.str (List.getD x0 (Int.toNat s7) (([] : List UInt8), ([] : List UInt8))).1)), (.d (.bool r1)), (.d (.bool (!r1))), (.d (.bool (!r1))), (.ptr 0 1), (.d (.str (List.getD x0 (Int.toNat s7) (([] : List UInt8), ([] : List UInt8))).2)), (.d (.bool ((List.getD x0 (Int.toNat s7) (([] : List UInt8), ([] : List UInt8))).2 == ([] : List UInt8)))), (.d (.bool ((List.getD x0 (Int.toNat s7) (([] : List UInt8), ([] : List UInt8))).2 == ([] : List UInt8)))), (.d (.bool ((List.getD x0 (Int.toNat s7) (([] : List UInt8), ([] : List UInt8))).2 == ([] : List UInt8)))), (.ptr 0 1), (.d (.str (List.getD x0 (Int.toNat s7) (([] : List UInt8), ([] : List UInt8))).2)), (.d (.int .i64 (((List.length (List.getD x0 (Int.toNat s7) (([] : List UInt8), ([] : List UInt8))).2) : Nat) : Int))), (.d (.bool (decide ((((List.length (List.getD x0 (Int.toNat s7) (([] : List UInt8), ([] : List UInt8))).2) : Nat) : Int) > 24)))), (.d (.bool (decide ((((List.length (List.getD x0 (Int.toNat s7) (([] : List UInt8), ([] : List UInt8))).2) : Nat) : Int) > 24)))), (.d (.bool (decide ((((List.length (List.getD x0 (Int.toNat s7) (([] : List UInt8), ([] : List UInt8))).2) : Nat) : Int) > 24)))), (.tup []), (.tup []), (.tup []), (.tup []), (.tup []), (.tup []), (.tup []), (.tup []), (.tup []), (.tup []), (.tup []), (.tup []), (.tup []), (.d (.bool true)), .top, .top, .top, .top], [(.cells [(.d (.str (List.getD x0 (Int.toNat s7) (([] : List UInt8), ([] : List UInt8))).1)), (.d (.str (List.getD x0 (Int.toNat s7) (([] : List UInt8), ([] : List UInt8))).2))]), .dead, .dead, .dead, .dead, .dead, .dead, .dead, .dead, .dead, .dead, .dead, .dead, .dead, .dead, .dead, .dead, .dead, .dead, .dead, .dead, .dead, .dead, .dead, .dead, .dead, .dead, .dead, .dead, .dead, .dead, .dead, .dead, .dead, .dead, .dead, .dead, .dead, .dead, .dead, .dead, .dead, .dead, .dead, .dead, .dead, .dead, .dead, .dead, .dead, .dead, .dead, .dead, .dead, .dead, .dead, .dead, .dead, .dead, .dead, .dead, .dead, .dead, .dead, .dead, .dead, .dead, .dead, .dead, .dead, .dead, .dead, .dead, .dead, .dead, .dead, .dead, .dead, .dead, .dead, .dead, .dead, .dead, .dead, .dead, .dead, .dead, .dead, .dead, .dead, .dead, .dead, .dead, .dead, .dead, .dead, .dead, .dead, .dead, .dead, .dead, .dead, .dead, .dead, .dead, .dead, .dead, .dead, .dead, .dead, .dead, .dead, .dead, .dead, .dead, .dead, .dead, .dead, .dead, .dead, .dead])) := by
  exact turns_last (by simp) (M.run_of_path _ [true, true, true, true, false, false, false, false, false, false, false, false, false, true, true, true, true, true, true] _ _ (by kernel_rfl) (all_t c0 (all_t c1 (all_t c2 (all_t c3 (all_nt c4 (all_nt c4 (all_nt c4 (all_nt c4 (all_f c8 (all_f c8 (all_f c8 (all_f c8 (all_f c8 (all_t c13 (all_t c13 (all_t c13 (all_t c13 (all_t c13 (all_t rfl all_nil)))))))))))))))))))) 
set_option maxHeartbeats 20000000 in
theorem l11_0_w2 (m n : Nat) (x0 : List ((List UInt8) × (List UInt8))) (s6 : Int) (s7 : Int) (r : AEx × Env × Boxes) (c0 : decide (s7 < s6) = true) (c1 : decide (0 ≤ s7) = true) (c2 : decide (s7 < (((List.length x0) : Nat) : Int)) = true) (c3 : decide (List.length (List.getD x0 (Int.toNat s7) (([] : List UInt8), ([] : List UInt8))).1 ≤ 9223372036854775807) = true) (c4 : (wordG (List.getD x0 (Int.toNat s7) (([] : List UInt8), ([] : List UInt8))).1) = true) (c8 : ¬ ((List.getD x0 (Int.toNat s7) (([] : List UInt8), ([] : List UInt8))).2 == ([] : List UInt8)) = true) (c13 : ¬ decide ((((List.length (List.getD x0 (Int.toNat s7) (([] : List UInt8), ([] : List UInt8))).2) : Nat) : Int) > 24) = true) (c16 : decide (s7 > 0) = true) (c20 : decide (0 ≤ (IntKind.wrap .i64 (s7 - (1)))) = true) (c21 : decide ((IntKind.wrap .i64 (s7 - (1))) < (((List.length x0) : Nat) : Int)) = true) (c30 : (Op.bytesLess (List.getD x0 (Int.toNat (IntKind.wrap .i64 (s7 - (1)))) (([] : List UInt8), ([] : List UInt8))).1 (List.getD x0 (Int.toNat s7) (([] : List UInt8), ([] : List UInt8))).1) = true) (ih : (turns (hds 11 225) 0 225 (evC byref (evCall F S11 (m + 24)) (m + 24) 0 (hds 11) lbl11_0) n (l11_0H x0 s6 ((IntKind.wrap .i64 (s7 + (1))))) (l11_0B x0 s6 ((IntKind.wrap .i64 (s7 + (1)))))).run = some r) : (turns (hds 11 225) 0 225 (evC byref (evCall F S11 (m + 24)) (m + 24) 0 (hds 11) lbl11_0) (n + 1) (l11_0H x0 s6 s7) (l11_0B x0 s6 s7)).run = some r := by
  exact turns_step (M.run_of_path _ [true, true, true, true, false, false, false, false, false, false, false, false, false, false, false, false, true, true, true, true, true, true, true, true, true, true, true, false, true, false, false] _ _ (by kernel_rfl) (all_t c0 (all_t c1 (all_t c2 (all_t c3 (all_nt c4 (all_nt c4 (all_nt c4 (all_nt c4 (all_f c8 (all_f c8 (all_f c8 (all_f c8 (all_f c8 (all_f c13 (all_f c13 (all_f c13 (all_t c16 (all_t c16 (all_t c16 (all_t c16 (all_t c20 (all_t c21 (all_t c16 (all_t c16 (all_t c16 (all_t c16 (all_t c16 (all_f c13 (all_t c16 (all_f c13 (all_nt c30 all_nil)))))))))))))))))))))))))))))))) ih
set_option maxHeartbeats 20000000 in
theorem l11_0_w3 (m n : Nat) (x0 : List ((List UInt8) × (List UInt8))) (s6 : Int) (s7 : Int) (c0 : decide (s7 < s6) = true) (c1 : decide (0 ≤ s7) = true) (c2 : decide (s7 < (((List.length x0) : Nat) : Int)) = true) (c3 : decide (List.length (List.getD x0 (Int.toNat s7) (([] : List UInt8), ([] : List UInt8))).1 ≤ 9223372036854775807) = true) (c4 : (wordG (List.getD x0 (Int.toNat s7) (([] : List UInt8), ([] : List UInt8))).1) = true) (c8 : ¬ ((List.getD x0 (Int.toNat s7) (([] : List UInt8), ([] : List UInt8))).2 == ([] : List UInt8)) = true) (c13 : ¬ decide ((((List.length (List.getD x0 (Int.toNat s7) (([] : List UInt8), ([] : List UInt8))).2) : Nat) : Int) > 24) = true) (c16 : decide (s7 > 0) = true) (c20 : decide (0 ≤ (IntKind.wrap .i64 (s7 - (1)))) = true) (c21 : decide ((IntKind.wrap .i64 (s7 - (1))) < (((List.length x0) : Nat) : Int)) = true) (c30 : ¬ (Op.bytesLess (List.getD x0 (Int.toNat (IntKind.wrap .i64 (s7 - (1)))) (([] : List UInt8), ([] : List UInt8))).1 (List.getD x0 (Int.toNat s7) (([] : List UInt8), ([] : List UInt8))).1) = true) : (turns (hds 11 225) 0 225 (evC byref (evCall F S11 (m + 24)) (m + 24) 0 (hds 11) lbl11_0) (n + 1) (l11_0H x0 s6 s7) (l11_0B x0 s6 s7)).run = some (let r1 := (wordG (List.getD x0 (Int.toNat s7) (([] : List UInt8), ([] : List UInt8))).1); (.ret, [(.d (.sl (.pair .str .str) x0)), .top, (.d (.bool false)), (.d (.int .i64 s7)), (.ptr 0 0), (.d (.sl (.pair .str .str) x0)), (.d (.int .i64 s6)), (.d (.int .i64 s7)), (.d (.bool (decide (s7 < s6)))), (.d (.int .i64 s7)), (.cptr [(.str (List.getD x0 (Int.toNat s7) (([] : List UInt8), ([] : List UInt8))).1), (.str (List.getD x0 (Int.toNat s7) (([] : List UInt8), ([] : List UInt8))).2)] 0), (.agg [(.d (.str (List.getD x0 (Int.toNat s7) (([] : List UInt8), ([] : List UInt8))).1)), (.d (.str (List.getD x0 (Int.toNat s7) (([] : List UInt8), ([] : List UInt8))).2))]), (.ptr 0 0), (.d (.str (List.getD x0 (Int.toNat s7) (([] : List UInt8), ([] : List UInt8))).1)), (.d (.bool r1)), (.d (.bool (!r1))), (.d (.bool (!r1))), (.ptr 0 1), (.d (.str (List.getD x0 (Int.toNat s7) (([] : List UInt8), ([] : List UInt8))).2)), (.d (.bool ((List.getD x0 (Int.toNat s7) (([] : List UInt8), ([] : List UInt8))).2 == ([] : List UInt8)))), (.d (.bool ((List.getD x0 (Int.toNat s7) (([] : List UInt8), ([] : List UInt8))).2 == ([] : List UInt8)))), (.d (.bool ((List.getD x0 (Int.toNat s7) (([] : List UInt8), ([] : List UInt8))).2 == ([] : List UInt8)))), (.ptr 0 1), (.d (.str (List.getD x0 (Int.toNat s7) (([] : List UInt8), ([] : List UInt8))).2)), (.d (.int .i64 (((List.length (List.getD x0 (Int.toNat s7) (([] : List UInt8), ([] : List UInt8))).2) : Nat) : Int))), (.d (.bool (decide ((((List.length (List.getD x0 (Int.toNat s7) (([] : List UInt8), ([] : List UInt8))).2) : Nat) : Int) > 24)))), (.d (.bool (decide ((((List.length (List.getD x0 (Int.toNat s7) (([] : List UInt8), ([] : List UInt8))).2) : Nat) : Int) > 24)))), (.d (.bool (decide ((((List.length (List.getD x0 (Int.toNat s7) (([] : List UInt8), ([] : List UInt8))).2) : Nat) : Int) > 24)))), (.d (.int .i64 s7)), (.d (.bool (decide (s7 > 0)))), (.d (.bool (decide (s7 > 0)))), (.d (.sl (.pair .str .str) x0)), (.d (.int .i64 s7)), (.d (.int .i64 (IntKind.wrap .i64 (s7 - (1))))), (.cptr [(.str (List.getD x0 (Int.toNat (IntKind.wrap .i64 (s7 - (1)))) (([] : List UInt8), ([] : List UInt8))).1), (.str (List.getD x0 (Int.toNat (IntKind.wrap .i64 (s7 - (1)))) (([] : List UInt8), ([] : List UInt8))).2)] 0), (.cptr [(.str (List.getD x0 (Int.toNat (IntKind.wrap .i64 (s7 - (1)))) (([] : List UInt8), ([] : List UInt8))).1), (.str (List.getD x0 (Int.toNat (IntKind.wrap .i64 (s7 - (1)))) (([] : List UInt8), ([] : List UInt8))).2)] 0), (.d (.str (List.getD x0 (Int.toNat (IntKind.wrap .i64 (s7 - (1)))) (([] : List UInt8), ([] : List UInt8))).1)), (.ptr 0 0), (.d (.str (List.getD x0 (Int.toNat s7) (([] : List UInt8), ([] : List UInt8))).1)), (.d (.bool (!(Op.bytesLess (List.getD x0 (Int.toNat (IntKind.wrap .i64 (s7 - (1)))) (([] : List UInt8), ([] : List UInt8))).1 (List.getD x0 (Int.toNat s7) (([] : List UInt8), ([] : List UInt8))).1)))), (.d (.bool (!(Op.bytesLess (List.getD x0 (Int.toNat (IntKind.wrap .i64 (s7 - (1)))) (([] : List UInt8), ([] : List UInt8))).1 (List.getD x0 (Int.toNat s7) (([] : List UInt8), ([] : List UInt8))).1)))), (.d (.bool (!(Op.bytesLess (List.getD x0 (Int.toNat (IntKind.wrap .i64 (s7 - (1)))) (([] : List UInt8), ([] : List UInt8))).1 (List.getD x0 (Int.toNat s7) (([] : List UInt8), ([] : List UInt8))).1)))), .top, .top, .top, .top], [(.cells [(.d (.str (List.getD x0 (Int.toNat s7) (([] : List UInt8), ([] : List UInt8))).1)), (.d (.str (List.getD x0 (Int.toNat s7) (([] : List UInt8), ([] : List UInt8))).2))]), .dead, .dead, .dead, .dead, .dead, .dead, .dead, .dead, .dead, .dead, .dead, .dead, .dead, .dead, .dead, .dead, .dead, .dead, .dead, .dead, .dead, .dead, .dead, .dead, .dead, .dead, .dead, .dead, .dead, .dead, .dead, .dead, .dead, .dead, .dead, .dead, .dead, .dead, .dead, .dead, .dead, .dead, .dead, .dead, .dead, .dead, .dead, .dead, .dead, .dead, .dead, .dead, .dead, .dead, .dead, .dead, .dead, .dead, .dead, .dead, .dead, .dead, .dead, .dead, .dead, .dead, .dead, .dead, .dead, .dead, .dead, .dead, .dead, .dead, .dead, .dead, .dead, .dead, .dead, .dead, .dead, .dead, .dead, .dead, .dead, .dead, .dead, .dead, .dead, .dead, .dead, .dead, .dead, .dead, .dead, .dead, .dead, .dead, .dead, .dead, .dead, .dead, .dead, .dead, .dead, .dead, .dead, .dead, .dead, .dead, .dead, .dead, .dead, .dead, .dead, .dead, .dead, .dead, .dead, .dead])) := by
  exact turns_last (by simp) (M.run_of_path _ [true, true, true, true, false, false, false, false, false, false, false, false, false, false, false, false, true, true, true, true, true, true, true, true, true, true, true, false, true, false, true] _ _ (by kernel_rfl) (all_t c0 (all_t c1 (all_t c2 (all_t c3 (all_nt c4 (all_nt c4 (all_nt c4 (all_nt c4 (all_f c8 (all_f c8 (all_f c8 (all_f c8 (all_f c8 (all_f c13 (all_f c13 (all_f c13 (all_t c16 (all_t c16 (all_t c16 (all_t c16 (all_t c20 (all_t c21 (all_t c16 (all_t c16 (all_t c16 (all_t c16 (all_t c16 (all_f c13 (all_t c16 (all_f c13 (all_nf c30 all_nil)))))))))))))))))))))))))))))))) 
set_option maxHeartbeats 20000000 in
theorem l11_0_w4 (m n : Nat) (x0 : List ((List UInt8) × (List UInt8))) (s6 : Int) (s7 : Int) (r : AEx × Env × Boxes) (c0 : decide (s7 < s6) = true) (c1 : decide (0 ≤ s7) = true) (c2 : decide (s7 < (((List.length x0) : Nat) : Int)) = true) (c3 : decide (List.length (List.getD x0 (Int.toNat s7) (([] : List UInt8), ([] : List UInt8))).1 ≤ 9223372036854775807) = true) (c4 : (wordG (List.getD x0 (Int.toNat s7) (([] : List UInt8), ([] : List UInt8))).1) = true) (c8 : ¬ ((List.getD x0 (Int.toNat s7) (([] : List UInt8), ([] : List UInt8))).2 == ([] : List UInt8)) = true) (c13 : ¬ decide ((((List.length (List.getD x0 (Int.toNat s7) (([] : List UInt8), ([] : List UInt8))).2) : Nat) : Int) > 24) = true) (c16 : ¬ decide (s7 > 0) = true) (ih : (turns (hds 11 225) 0 225 (evC byref (evCall F S11 (m + 24)) (m + 24) 0 (hds 11) lbl11_0) n (l11_0H x0 s6 ((IntKind.wrap .i64 (s7 + (1))))) (l11_0B x0 s6 ((IntKind.wrap .i64 (s7 + (1)))))).run = some r) : (turns (hds 11 225) 0 225 (evC byref (evCall F S11 (m + 24)) (m + 24) 0 (hds 11) lbl11_0) (n + 1) (l11_0H x0 s6 s7) (l11_0B x0 s6 s7)).run = some r := by
  exact turns_step (M.run_of_path _ [true, true, true, true, false, false, false, false, false, false, false, false, false, false, false, false, false, false, false, false, false, false, false, false, false, false, false, false, false] _ _ (by kernel_rfl) (all_t c0 (all_t c1 (all_t c2 (all_t c3 (all_nt c4 (all_nt c4 (all_nt c4 (all_nt c4 (all_f c8 (all_f c8 (all_f c8 (all_f c8 (all_f c8 (all_f c13 (all_f c13 (all_f c13 (all_f c16 (all_f c16 (all_f c16 (all_f c16 (all_f c16 (all_f c16 (all_f c16 (all_f c16 (all_f c16 (all_f c13 (all_f c16 (all_f c13 (all_f Bool.false_ne_true all_nil)))))))))))))))))))))))))))))) ih
set_option maxHeartbeats 20000000 in
theorem l11_0_w5 (m n : Nat) (x0 : List ((List UInt8) × (List UInt8))) (s6 : Int) (s7 : Int) (c0 : decide (s7 < s6) = true) (c1 : decide (0 ≤ s7) = true) (c2 : decide (s7 < (((List.length x0) : Nat) : Int)) = true) (c3 : decide (List.length (List.getD x0 (Int.toNat s7) (([] : List UInt8), ([] : List UInt8))).1 ≤ 9223372036854775807) = true) (c4 : ¬ (wordG (List.getD x0 (Int.toNat s7) (([] : List UInt8), ([] : List UInt8))).1) = true) : (turns (hds 11 225) 0 225 (evC byref (evCall F S11 (m + 24)) (m + 24) 0 (hds 11) lbl11_0) (n + 1) (l11_0H x0 s6 s7) (l11_0B x0 s6 s7)).run = some (let r1 := (wordG (List.getD x0 (Int.toNat s7) (([] : List UInt8), ([] : List UInt8))).1); (.ret, [(.d (.sl (.pair .str .str) x0)), .top, (.d (.bool false)), (.d (.int .i64 s7)), (.ptr 0 0), (.d (.sl (.pair .str .str) x0)), (.d (.int .i64 s6)), (.d (.int .i64 s7)), (.d (.bool (decide (s7 < s6)))), (.d (.int .i64 s7)), (.cptr [(.str (List.getD x0 (Int.toNat s7) (([] : List UInt8), ([] : List UInt8))).1), (.str (List.getD x0 (Int.toNat s7) (([] : List UInt8), ([] : List UInt8))).2)] 0), (.agg [(.d (.str (List.getD x0 (Int.toNat s7) (([] : List UInt8), ([] : List UInt8))).1)), (.d (.str (List.getD x0 (Int.toNat s7) (([] : List UInt8), ([] : List UInt8))).2))]), (.ptr 0 0), (.d (.str (List.getD x0 (Int.toNat s7) (([] : List UInt8), ([] : List UInt8))).1)), (.d (.bool r1)), (.d (.bool (!r1))), (.d (.bool (!r1))), (.tup []), (.tup []), (.tup []), (.d (.bool true)), (.d (.bool true)), (.tup []), (.tup []), (.tup []), (.tup []), (.d (.bool true)), (.d (.bool true)), (.tup []), (.tup []), (.tup []), (.tup []), (.tup []), (.tup []), (.tup []), (.tup []), (.tup []), (.tup []), (.tup []), (.tup []), (.tup []), (.d (.bool true)), .top, .top, .top, .top], [(.cells [(.d (.str (List.getD x0 (Int.toNat s7) (([] : List UInt8), ([] : List UInt8))).1)), (.d (.str (List.getD x0 (Int.toNat s7) (([] : List UInt8), ([] : List UInt8))).2))]), .dead, .dead, .dead, .dead, .dead, .dead, .dead, .dead, .dead, .dead, .dead, .dead, .dead, .dead, .dead, .dead, .dead, .dead, .dead, .dead, .dead, .dead, .dead, .dead, .dead, .dead, .dead, .dead, .dead, .dead, .dead, .dead, .dead, .dead, .dead, .dead, .dead, .dead, .dead, .dead, .dead, .dead, .dead, .dead, .dead, .dead, .dead, .dead, .dead, .dead, .dead, .dead, .dead, .dead, .dead, .dead, .dead, .dead, .dead, .dead, .dead, .dead, .dead, .dead, .dead, .dead, .dead, .dead, .dead, .dead, .dead, .dead, .dead, .dead, .dead, .dead, .dead, .dead, .dead, .dead, .dead, .dead, .dead, .dead, .dead, .dead, .dead, .dead, .dead, .dead, .dead, .dead, .dead, .dead, .dead, .dead, .dead, .dead, .dead, .dead, .dead, .dead, .dead, .dead, .dead, .dead, .dead, .dead, .dead, .dead, .dead, .dead, .dead, .dead, .dead, .dead, .dead, .dead, .dead, .dead])) := by
  exact turns_last (by simp) (M.run_of_path _ [true, true, true, true, true, true, true, true, true, true, true, true, true, true, true, true, true, true, true] _ _ (by kernel_rfl) (all_t c0 (all_t c1 (all_t c2 (all_t c3 (all_nf c4 (all_nf c4 (all_nf c4 (all_nf c4 (all_t rfl (all_t rfl (all_t rfl (all_t rfl (all_t rfl (all_t rfl (all_t rfl (all_t rfl (all_t rfl (all_t rfl (all_t rfl all_nil)))))))))))))))))))) 
set_option maxHeartbeats 20000000 in
theorem l11_0_w6 (m n : Nat) (x0 : List ((List UInt8) × (List UInt8))) (s6 : Int) (s7 : Int) (c0 : ¬ decide (s7 < s6) = true) : (turns (hds 11 225) 0 225 (evC byref (evCall F S11 (m + 24)) (m + 24) 0 (hds 11) lbl11_0) (n + 1) (l11_0H x0 s6 s7) (l11_0B x0 s6 s7)).run = some (.exit 0, [(.d (.sl (.pair .str .str) x0)), .top, .top, .top, .top, (.d (.sl (.pair .str .str) x0)), (.d (.int .i64 s6)), (.d (.int .i64 s7)), (.d (.bool (decide (s7 < s6)))), .top, .top, .top, .top, .top, .top, .top, .top, .top, .top, .top, .top, .top, .top, .top, .top, .top, .top, .top, .top, .top, .top, .top, .top, .top, .top, .top, .top, .top, .top, .top, .top, .top, .top, .top, .top, .top], []) := by
  exact turns_last (by simp) (M.run_of_path _ [false] _ _ (by kernel_rfl) (all_f c0 all_nil)) 

set_option maxHeartbeats 20000000 in
theorem l11_0_step (m n : Nat) (ih : ∀ (x0 : List ((List UInt8) × (List UInt8))) (s6 : Int) (s7 : Int) (q : Nat × Int), l11_0 m n x0 s6 s7 = some q → (turns (hds 11 225) 0 225 (evC byref (evCall F S11 (m + 24)) (m + 24) 0 (hds 11) lbl11_0) n (l11_0H x0 s6 s7) (l11_0B x0 s6 s7)).run = some (l11_0E (x0) (s6) (q.2) q.1)) (x0 : List ((List UInt8) × (List UInt8))) (s6 : Int) (s7 : Int) (q : Nat × Int) (h : l11_0 m (n + 1) x0 s6 s7 = some q) : (turns (hds 11 225) 0 225 (evC byref (evCall F S11 (m + 24)) (m + 24) 0 (hds 11) lbl11_0) (n + 1) (l11_0H x0 s6 s7) (l11_0B x0 s6 s7)).run = some (l11_0E (x0) (s6) (q.2) q.1) := by
  rw [l11_0] at h
  refine ite_cases h (fun c0 h => ?_) (fun c0 h => ?_)
  · skip
    refine ite_cases h (fun c1 h => ?_) (fun c1 h => ?_)
    · skip
      refine ite_cases h (fun c2 h => ?_) (fun c2 h => ?_)
      · skip
        refine ite_cases h (fun c3 h => ?_) (fun c3 h => ?_)
        · skip
          refine ite_cases h (fun c4 h => ?_) (fun c4 h => ?_)
          · skip
            refine ite_cases h (fun c8 h => ?_) (fun c8 h => ?_)
            · skip
              cases h
              exact l11_0_w0 m n x0 s6 s7 c0 c1 c2 c3 c4 c8
            · skip
              refine ite_cases h (fun c13 h => ?_) (fun c13 h => ?_)
              · skip
                cases h
                exact l11_0_w1 m n x0 s6 s7 c0 c1 c2 c3 c4 c8 c13
              · skip
                refine ite_cases h (fun c16 h => ?_) (fun c16 h => ?_)
                · skip
                  refine ite_cases h (fun c20 h => ?_) (fun c20 h => ?_)
                  · skip
                    refine ite_cases h (fun c21 h => ?_) (fun c21 h => ?_)
                    · skip
                      refine ite_cases h (fun c30 h => ?_) (fun c30 h => ?_)
                      · skip
                        exact l11_0_w2 m n x0 s6 s7 _ c0 c1 c2 c3 c4 c8 c13 c16 c20 c21 c30 (ih _ _ _ q h)
                      · skip
                        cases h
                        exact l11_0_w3 m n x0 s6 s7 c0 c1 c2 c3 c4 c8 c13 c16 c20 c21 c30
                    · skip
                      cases h
                  · skip
                    cases h
                · skip
                  exact l11_0_w4 m n x0 s6 s7 _ c0 c1 c2 c3 c4 c8 c13 c16 (ih _ _ _ q h)
          · skip
            cases h
            exact l11_0_w5 m n x0 s6 s7 c0 c1 c2 c3 c4
        · skip
          cases h
      · skip
        cases h
    · skip
      cases h
  · skip
    cases h
    exact l11_0_w6 m n x0 s6 s7 c0
set_option maxHeartbeats 20000000 in
theorem l11_0_ok (m : Nat) : ∀ (n : Nat) (x0 : List ((List UInt8) × (List UInt8))) (s6 : Int) (s7 : Int) (q : Nat × Int), l11_0 m n x0 s6 s7 = some q → (turns (hds 11 225) 0 225 (evC byref (evCall F S11 (m + 24)) (m + 24) 0 (hds 11) lbl11_0) n (l11_0H x0 s6 s7) (l11_0B x0 s6 s7)).run = some (l11_0E (x0) (s6) (q.2) q.1)
  | 0, x0, s6, s7, q, h => by cases h
  | n + 1, x0, s6, s7, q, h => l11_0_step m n (l11_0_ok m n) x0 s6 s7 q h

def p11 (m : Nat) (x0 : List ((List UInt8) × (List UInt8))) : Option (Bool) :=
  if (Option.isSome (l11_0 m (m + 24) x0 ((((List.length x0) : Nat) : Int)) 0)) = true then
    if ((l11_0R m (m + 24) x0 ((((List.length x0) : Nat) : Int)) 0).1 == 0) = true then
      some (false)
    else
      if ((l11_0R m (m + 24) x0 ((((List.length x0) : Nat) : Int)) 0).1 == 1) = true then
        some (false)
      else
        if ((l11_0R m (m + 24) x0 ((((List.length x0) : Nat) : Int)) 0).1 == 2) = true then
          some (false)
        else
          if ((l11_0R m (m + 24) x0 ((((List.length x0) : Nat) : Int)) 0).1 == 3) = true then
            some (false)
          else
            if ((l11_0R m (m + 24) x0 ((((List.length x0) : Nat) : Int)) 0).1 == 4) = true then
              some (decide ((((List.length x0) : Nat) : Int) ≤ 6))
            else
              none
  else
    none
set_option maxHeartbeats 20000000 in
theorem p11_ok (m : Nat) (x0 : List ((List UInt8) × (List UInt8))) (q : Bool) (h : p11 m x0 = some q) : ∃ r B1, (evCall F S11 (m + 25) 11 [(.d (.sl (.pair .str .str) x0))] []).run = some (r, B1) ∧ 0 ≤ B1.length ∧ wkR B1 [] r (.d (.bool (q))) ∧ wkBs B1 [] 0 [] := by
  unfold p11 at h
  refine ite_cases h (fun c0 h => ?_) (fun c0 h => ?_)
  · skip
    refine ite_cases h (fun c1 h => ?_) (fun c1 h => ?_)
    · skip
      cases h
      refine ⟨(.d (.bool false)), [], runT_ok (LS := (fun k => if k = 225 then some (l11_0E x0 (((((List.length x0) : Nat) : Int))) ((l11_0R m (m + 24) x0 ((((List.length x0) : Nat) : Int)) 0).2) 0) else none)) (fn := fn11) (vis := [(225, l11_0H x0 ((((List.length x0) : Nat) : Int)) 0, l11_0B x0 ((((List.length x0) : Nat) : Int)) 0)]) (by kernel_rfl) rfl (by kernel_rfl) (M.run_of_path _ [] _ _ (by kernel_rfl) all_nil) ?_, by simp, (wkR.one (wkV.one (wk1.eq rfl))), trivial⟩
      intro p hp p2 hq
      rcases List.mem_cons.1 hp with rfl | hp
      · skip
        have h3 := l11_0_ok m (m + 24) x0 ((((List.length x0) : Nat) : Int)) 0 _ (some_getD (d := l11_0D) c0)
        rw [eq_of_beq c1] at h3
        exact Eq.trans (Eq.mp (by kernel_rfl) h3) hq
      cases hp
    · skip
      refine ite_cases h (fun c2 h => ?_) (fun c2 h => ?_)
      · skip
        cases h
        refine ⟨(.d (.bool false)), [], runT_ok (LS := (fun k => if k = 225 then some (l11_0E x0 (((((List.length x0) : Nat) : Int))) ((l11_0R m (m + 24) x0 ((((List.length x0) : Nat) : Int)) 0).2) 1) else none)) (fn := fn11) (vis := [(225, l11_0H x0 ((((List.length x0) : Nat) : Int)) 0, l11_0B x0 ((((List.length x0) : Nat) : Int)) 0)]) (by kernel_rfl) rfl (by kernel_rfl) (M.run_of_path _ [] _ _ (by kernel_rfl) all_nil) ?_, by simp, (wkR.one (wkV.one (wk1.eq rfl))), trivial⟩
        intro p hp p2 hq
        rcases List.mem_cons.1 hp with rfl | hp
        · skip
          have h3 := l11_0_ok m (m + 24) x0 ((((List.length x0) : Nat) : Int)) 0 _ (some_getD (d := l11_0D) c0)
          rw [eq_of_beq c2] at h3
          exact Eq.trans (Eq.mp (by kernel_rfl) h3) hq
        cases hp
      · skip
        refine ite_cases h (fun c3 h => ?_) (fun c3 h => ?_)
        · skip
          cases h
          refine ⟨(.d (.bool false)), [], runT_ok (LS := (fun k => if k = 225 then some (l11_0E x0 (((((List.length x0) : Nat) : Int))) ((l11_0R m (m + 24) x0 ((((List.length x0) : Nat) : Int)) 0).2) 2) else none)) (fn := fn11) (vis := [(225, l11_0H x0 ((((List.length x0) : Nat) : Int)) 0, l11_0B x0 ((((List.length x0) : Nat) : Int)) 0)]) (by kernel_rfl) rfl (by kernel_rfl) (M.run_of_path _ [] _ _ (by kernel_rfl) all_nil) ?_, by simp, (wkR.one (wkV.one (wk1.eq rfl))), trivial⟩
          intro p hp p2 hq
          rcases List.mem_cons.1 hp with rfl | hp
          · skip
            have h3 := l11_0_ok m (m + 24) x0 ((((List.length x0) : Nat) : Int)) 0 _ (some_getD (d := l11_0D) c0)
            rw [eq_of_beq c3] at h3
            exact Eq.trans (Eq.mp (by kernel_rfl) h3) hq
          cases hp
        · skip
          refine ite_cases h (fun c4 h => ?_) (fun c4 h => ?_)
          · skip
            cases h
            refine ⟨(.d (.bool false)), [], runT_ok (LS := (fun k => if k = 225 then some (l11_0E x0 (((((List.length x0) : Nat) : Int))) ((l11_0R m (m + 24) x0 ((((List.length x0) : Nat) : Int)) 0).2) 3) else none)) (fn := fn11) (vis := [(225, l11_0H x0 ((((List.length x0) : Nat) : Int)) 0, l11_0B x0 ((((List.length x0) : Nat) : Int)) 0)]) (by kernel_rfl) rfl (by kernel_rfl) (M.run_of_path _ [] _ _ (by kernel_rfl) all_nil) ?_, by simp, (wkR.one (wkV.one (wk1.eq rfl))), trivial⟩
            intro p hp p2 hq
            rcases List.mem_cons.1 hp with rfl | hp
            · skip
              have h3 := l11_0_ok m (m + 24) x0 ((((List.length x0) : Nat) : Int)) 0 _ (some_getD (d := l11_0D) c0)
              rw [eq_of_beq c4] at h3
              exact Eq.trans (Eq.mp (by kernel_rfl) h3) hq
            cases hp
          · skip
            refine ite_cases h (fun c5 h => ?_) (fun c5 h => ?_)
            · skip
              cases h
              refine ⟨(.d (.bool (decide ((((List.length x0) : Nat) : Int) ≤ 6)))), [], runT_ok (LS := (fun k => if k = 225 then some (l11_0E x0 (((((List.length x0) : Nat) : Int))) ((l11_0R m (m + 24) x0 ((((List.length x0) : Nat) : Int)) 0).2) 4) else none)) (fn := fn11) (vis := [(225, l11_0H x0 ((((List.length x0) : Nat) : Int)) 0, l11_0B x0 ((((List.length x0) : Nat) : Int)) 0)]) (by kernel_rfl) rfl (by kernel_rfl) (M.run_of_path _ [] _ _ (by kernel_rfl) all_nil) ?_, by simp, (wkR.one (wkV.one (wk1.eq rfl))), trivial⟩
              intro p hp p2 hq
              rcases List.mem_cons.1 hp with rfl | hp
              · skip
                have h3 := l11_0_ok m (m + 24) x0 ((((List.length x0) : Nat) : Int)) 0 _ (some_getD (d := l11_0D) c0)
                rw [eq_of_beq c5] at h3
                exact Eq.trans (Eq.mp (by kernel_rfl) h3) hq
              cases hp
            · skip
              cases h
  · skip
    cases h

/-- May a label be? -/
def lab1 (x : (List UInt8) × (List UInt8)) : Bool := wordG x.1 && decide (1 ≤ x.2.length) && decide (x.2.length ≤ 24)
def lrise : LB → Bool
  | a :: b :: l => Op.bytesLess a.1 b.1 && lrise (b :: l)
  | _ => true
/-- May labels be a set? -/
def lrightG (l : LB) : Bool := l.all lab1 && lrise l && decide (l.length ≤ 6)
def lrightPre (l : LB) : Bool := decide (l.length ≤ 1000000 ∧ ∀ x ∈ l, x.1.length ≤ 9223372036854775807)
def lR (l : LB) (k : Nat) : Bool := (l.drop k).all lab1 && lrise (l.drop (k - 1))
theorem lright_loop (m : Nat) (l : LB) (h1 : l.length ≤ 1000000) (h2 : ∀ x ∈ l, x.1.length ≤ 9223372036854775807) : ∀ (n k : Nat), k ≤ l.length → l.length - k < n → ∃ e j, l11_0 m n l (l.length : Nat) (k : Nat) = some (e, j) ∧ ((e = 4 ∧ lR l k = true) ∨ (e < 4 ∧ lR l k = false))
  | 0, k, _, h => by omega
  | n + 1, k, g1, g2 => by
    rw [l11_0]
    by_cases hk : k < l.length
    · have e1 : decide (((k : Nat) : Int) < (((List.length l) : Nat) : Int)) = true := decide_eq_true (by omega)
      have e2 : decide ((0 : Int) ≤ ((k : Nat) : Int)) = true := decide_eq_true (by omega)
      have e7 : IntKind.wrap .i64 (((k : Nat) : Int) + (1)) = ((k + 1 : Nat) : Int) := by rw [wrap_id (by omega) (by omega)]; rfl
      have hq := h2 _ (getD_mem l k (([] : List UInt8), ([] : List UInt8)) hk)
      obtain ⟨e, j, go, hc⟩ := lright_loop m l h1 h2 n (k + 1) (by omega) (by omega)
      have hd := drop_getD l k (([] : List UInt8), ([] : List UInt8)) hk
      have hR : lR l k = (lab1 (l.getD k (([] : List UInt8), ([] : List UInt8))) && (decide (k = 0) || Op.bytesLess (l.getD (k - 1) (([] : List UInt8), ([] : List UInt8))).1 (l.getD k (([] : List UInt8), ([] : List UInt8))).1) && lR l (k + 1)) := by
        unfold lR
        rw [hd, List.all_cons, show k + 1 - 1 = k from rfl]
        cases k with
        | zero => rw [show (0 - 1 : Nat) = 0 from rfl, hd]; simp [Bool.and_assoc]
        | succ k =>
          rw [show k + 1 - 1 = k from rfl]
          have hd0 := drop_getD l k (([] : List UInt8), ([] : List UInt8)) (by omega)
          have hr : lrise (l.drop k) = (Op.bytesLess (l.getD k (([] : List UInt8), ([] : List UInt8))).1 (l.getD (k + 1) (([] : List UInt8), ([] : List UInt8))).1 && lrise (l.drop (k + 1))) := by
            rw [hd0, hd, lrise]
          rw [hr]
          have : decide (k + 1 = 0) = false := decide_eq_false (by omega)
          rw [this, Bool.false_or]
          generalize lab1 (l.getD (k + 1) (([] : List UInt8), ([] : List UInt8))) = A
          generalize List.all (l.drop (k + 1 + 1)) lab1 = B
          generalize Op.bytesLess (l.getD k (([] : List UInt8), ([] : List UInt8))).1 (l.getD (k + 1) (([] : List UInt8), ([] : List UInt8))).1 = C
          generalize lrise (l.drop (k + 1)) = D
          cases A <;> cases B <;> cases C <;> rfl
      have hl : lab1 (l.getD k (([] : List UInt8), ([] : List UInt8))) = (wordG (l.getD k (([] : List UInt8), ([] : List UInt8))).1 && decide (1 ≤ (l.getD k (([] : List UInt8), ([] : List UInt8))).2.length) && decide ((l.getD k (([] : List UInt8), ([] : List UInt8))).2.length ≤ 24)) := rfl
      simp only [show Int.toNat ((k : Nat) : Int) = k from rfl, e1, e2, e7, ↓reduceIte]
      have e3 : decide (List.length (l.getD k (([] : List UInt8), ([] : List UInt8))).1 ≤ 9223372036854775807) = true := decide_eq_true hq
      rw [if_pos e3]
      have yes : lab1 (l.getD k (([] : List UInt8), ([] : List UInt8))) = true → (decide (k = 0) || Op.bytesLess (l.getD (k - 1) (([] : List UInt8), ([] : List UInt8))).1 (l.getD k (([] : List UInt8), ([] : List UInt8))).1) = true → ∃ e j, l11_0 m n l (l.length : Nat) ((k + 1 : Nat) : Int) = some (e, j) ∧ ((e = 4 ∧ lR l k = true) ∨ (e < 4 ∧ lR l k = false)) := by
        intro a b
        rw [hR, a, b]
        exact ⟨e, j, go, by rw [Bool.and_self, Bool.true_and]; exact hc⟩
      have no : ∀ e' : Nat, e' < 4 → (lab1 (l.getD k (([] : List UInt8), ([] : List UInt8))) && (decide (k = 0) || Op.bytesLess (l.getD (k - 1) (([] : List UInt8), ([] : List UInt8))).1 (l.getD k (([] : List UInt8), ([] : List UInt8))).1)) = false → ∃ e j, (some (e', ((k : Nat) : Int)) : Option (Nat × Int)) = some (e, j) ∧ ((e = 4 ∧ lR l k = true) ∨ (e < 4 ∧ lR l k = false)) := by
        intro e' he' a
        rw [hR, a]
        exact ⟨_, _, rfl, .inr ⟨he', rfl⟩⟩
      cases c1 : wordG (l.getD k (([] : List UInt8), ([] : List UInt8))).1 with
      | false => 
        rw [c1] at hl
        rw [if_neg (by simp)]
        exact no 0 (by omega) (by rw [hl]; rfl)
      | true =>
        rw [c1, Bool.true_and] at hl
        rw [if_pos rfl]
        by_cases c2 : (l.getD k (([] : List UInt8), ([] : List UInt8))).2 = []
        · rw [if_pos (by rw [c2]; rfl)]
          exact no 1 (by omega) (by rw [hl, c2]; rfl)
        · have p2 : 1 ≤ (l.getD k (([] : List UInt8), ([] : List UInt8))).2.length := by
            cases h : (l.getD k (([] : List UInt8), ([] : List UInt8))).2 with
            | nil => exact absurd h c2
            | cons a t => simp
          rw [if_neg (by rw [beq_iff_eq]; exact c2)]
          rw [show decide (1 ≤ (l.getD k (([] : List UInt8), ([] : List UInt8))).2.length) = true from decide_eq_true p2, Bool.true_and] at hl
          by_cases c3 : (l.getD k (([] : List UInt8), ([] : List UInt8))).2.length ≤ 24
          · rw [if_neg (show ¬ decide ((((List.length (l.getD k (([] : List UInt8), ([] : List UInt8))).2) : Nat) : Int) > 24) = true by rw [decide_eq_true_eq]; omega)]
            rw [decide_eq_true c3] at hl
            by_cases c4 : k = 0
            · subst c4
              rw [if_neg (by simp)]
              exact yes hl rfl
            · have w1 : IntKind.wrap .i64 (((k : Nat) : Int) - (1)) = ((k - 1 : Nat) : Int) := by rw [wrap_id (by omega) (by omega)]; omega
              rw [if_pos (show decide (((k : Nat) : Int) > 0) = true from decide_eq_true (by omega)), w1, if_pos (decide_eq_true (by omega)), if_pos (decide_eq_true (by omega)), show Int.toNat ((k - 1 : Nat) : Int) = k - 1 from rfl]
              cases c5 : Op.bytesLess (l.getD (k - 1) (([] : List UInt8), ([] : List UInt8))).1 (l.getD k (([] : List UInt8), ([] : List UInt8))).1 with
              | true => rw [if_pos rfl]; exact yes hl (by rw [c5, Bool.or_true])
              | false => rw [if_neg (by simp)]; exact no 3 (by omega) (by rw [c5, decide_eq_false c4]; simp)
          · rw [if_pos (show decide ((((List.length (l.getD k (([] : List UInt8), ([] : List UInt8))).2) : Nat) : Int) > 24) = true from decide_eq_true (by omega))]
            exact no 2 (by omega) (by rw [hl, decide_eq_false c3]; rfl)
    · have e1 : decide (((k : Nat) : Int) < (((List.length l) : Nat) : Int)) = false := decide_eq_false (by omega)
      have e0 : k = l.length := by omega
      subst e0
      rw [e1, if_neg (by simp)]
      refine ⟨4, _, rfl, .inl ⟨rfl, ?_⟩⟩
      unfold lR
      rw [List.drop_length, List.all_nil, Bool.true_and]
      rcases Nat.eq_zero_or_pos l.length with h | h
      · rw [h, List.drop_eq_nil_of_le (by omega)]; rfl
      · rw [drop_getD l (l.length - 1) (([] : List UInt8), ([] : List UInt8)) (by omega), List.drop_eq_nil_of_le (by omega)]; rfl
theorem lright49 (l : LB) (h : lrightPre l = true) : ∃ m, p11 m l = some (lrightG l) := by
  have ⟨h1, h2⟩ := of_decide_eq_true h
  refine ⟨l.length, ?_⟩
  obtain ⟨e, j, hr, hc⟩ := lright_loop l.length l h1 h2 (l.length + 24) 0 (by omega) (by omega)
  have q2 : decide ((((List.length l) : Nat) : Int) ≤ 6) = decide (l.length ≤ 6) := by rw [decide_eq_decide]; omega
  have hR : lrightG l = (lR l 0 && decide (l.length ≤ 6)) := by unfold lrightG lR; rfl
  simp only [Int.natCast_zero] at hr
  unfold p11
  rw [hR]
  simp only [l11_0R, hr, q2, Option.isSome_some, Option.getD_some, ↓reduceIte]
  rcases hc with ⟨rfl, hc⟩ | ⟨hlt, hc⟩
  · rw [hc, Bool.true_and]; rfl
  · rw [hc, Bool.false_and]
    have : e = 0 ∨ e = 1 ∨ e = 2 ∨ e = 3 := by omega
    rcases this with rfl | rfl | rfl | rfl <;> rfl
def s11 : List AV → Boxes → M (AV × Boxes) := normS [.val (.sl (.pair .str .str))] [] fun xs B => match xs, B with
  | [(.d (.sl (.pair .str .str) c1))], [] => .chk (lrightPre c1) (.ret ((.d (.bool (lrightG c1))), []))
  | _, _ => .fail
theorem s11_at : CallAt Tryd.prog 11 s11 := by
  refine CallAt.norm (CallAt.weakE (g := fun n => evCall F S11 n 11) (fun n => evCall_atH mixed kinds hds S11 S11_ok n 11) fun xs B r' B' hr => ?_) _ _
  split at hr
  · rename_i c1
    obtain ⟨hp, hr⟩ := (M.run_chk _ _ _).1 hr
    simp only [M.run, Option.some.injEq, Prod.mk.injEq] at hr
    obtain ⟨rfl, rfl⟩ := hr
    obtain ⟨m, hm⟩ := lright49 c1 hp
    obtain ⟨r, B1, h1, h2, h3, h4⟩ := p11_ok m c1 _ hm
    exact ⟨m + 25, r, B1, h1, by simp, h2, h3, h4⟩
  · simp [M.run] at hr
noncomputable def S12 : FuncId → Option (List AV → Boxes → M (AV × Boxes)) := fun f => if f = 11 then some s11 else S11 f
set_option maxHeartbeats 20000000 in
theorem S12_ok : ∀ f s, S12 f = some s → CallAt Tryd.prog f s := by
  intro f s h
  unfold S12 at h
  split at h
  · rename_i e; subst e; cases h; exact s11_at
  · exact S11_ok f s h

end Go.Proofs.YtcdpgldecikejaaDoor.Dec
namespace Go.Proofs.YtcdpgldecikejaaDoor.Dec
open Go.Ev
set_option linter.unusedVariables false
set_option linter.unusedSimpArgs false
set_option maxRecDepth 100000
noncomputable def fn12 : AFn := (F 12).getD ⟨0, [], .bad, false, false, noHd⟩
noncomputable def body12 : AC := fn12.body
def l12_0 (m : Nat) : Nat → List ((List UInt8) × (List UInt8)) → Int → Int → List (List UInt8) → Option (Nat × Int × (List (List UInt8)))
  | 0, _, _, _, _ => none
  | n + 1, x0, s10, s11, b0 => if decide (s11 < s10) = true then
      if decide (0 ≤ s11) = true then
        if decide (s11 < (((List.length x0) : Nat) : Int)) = true then
          if decide (List.length (List.getD x0 (Int.toNat s11) (([] : List UInt8), ([] : List UInt8))).1 + List.length ([61] : List UInt8) ≤ 4611686018427387904) = true then
            if decide (List.length (List.getD x0 (Int.toNat s11) (([] : List UInt8), ([] : List UInt8))).2 ≤ 2000000) = true then
              if decide (List.length ((List.getD x0 (Int.toNat s11) (([] : List UInt8), ([] : List UInt8))).1 ++ ([61] : List UInt8)) + List.length (quoteG (List.getD x0 (Int.toNat s11) (([] : List UInt8), ([] : List UInt8))).2) ≤ 4611686018427387904) = true then
                if decide ((((List.length b0) + 1) * 16) ≤ 70368744177664) = true then
                  l12_0 m n x0 s10 ((IntKind.wrap .i64 (s11 + (1)))) ((b0 ++ [(((List.getD x0 (Int.toNat s11) (([] : List UInt8), ([] : List UInt8))).1 ++ ([61] : List UInt8)) ++ (quoteG (List.getD x0 (Int.toNat s11) (([] : List UInt8), ([] : List UInt8))).2))]))
                else
                  none
              else
                none
            else
              none
          else
            none
        else
          none
      else
        none
    else
      some (0, s11, b0)
def l12_0D : Nat × Int × (List (List UInt8)) := (0, 0, [])
@[reducible] def l12_0R (m n : Nat) (x0 : List ((List UInt8) × (List UInt8))) (s10 : Int) (s11 : Int) (b0 : List (List UInt8)) : Nat × Int × (List (List UInt8)) := Option.getD (l12_0 m n x0 s10 s11 b0) l12_0D
def l12_0H (x0 : List ((List UInt8) × (List UInt8))) (s10 : Int) (s11 : Int) (b0 : List (List UInt8)) : Env := [.top, .top, .top, (.sr 0 0 (List.length b0) 1 none), .top, .top, .top, .top, .top, (.d (.sl (.pair .str .str) x0)), (.d (.int .i64 s10)), (.d (.int .i64 s11)), .top, .top, .top, .top, .top, .top, .top, .top, .top, .top, .top, .top, .top, .top, .top, .top, .top, .top]
def l12_0B (x0 : List ((List UInt8) × (List UInt8))) (s10 : Int) (s11 : Int) (b0 : List (List UInt8)) : Boxes := [(.arr .str b0 true)]
def l12_0E (x0 : List ((List UInt8) × (List UInt8))) (s10 : Int) (s11 : Int) (b0 : List (List UInt8)) : Nat → AEx × Env × Boxes
  | _ => (.exit 0, [.top, .top, .top, (.sr 0 0 (List.length b0) 1 none), .top, .top, .top, .top, .top, (.d (.sl (.pair .str .str) x0)), (.d (.int .i64 s10)), (.d (.int .i64 s11)), (.d (.bool (decide (s11 < s10)))), .top, .top, .top, .top, .top, .top, .top, .top, .top, .top, .top, .top, .top, .top, .top, .top, .top], [(.arr .str b0 true)])
noncomputable def lbl12_0 : AC := loopBody 3592 body12

set_option maxHeartbeats 20000000 in
theorem l12_0_w0 (m n : Nat) (x0 : List ((List UInt8) × (List UInt8))) (s10 : Int) (s11 : Int) (b0 : List (List UInt8)) (r : AEx × Env × Boxes) (c0 : decide (s11 < s10) = true) (c1 : decide (0 ≤ s11) = true) (c2 : decide (s11 < (((List.length x0) : Nat) : Int)) = true) (c3 : decide (List.length (List.getD x0 (Int.toNat s11) (([] : List UInt8), ([] : List UInt8))).1 + List.length ([61] : List UInt8) ≤ 4611686018427387904) = true) (c4 : decide (List.length (List.getD x0 (Int.toNat s11) (([] : List UInt8), ([] : List UInt8))).2 ≤ 2000000) = true) (c5 : decide (List.length ((List.getD x0 (Int.toNat s11) (([] : List UInt8), ([] : List UInt8))).1 ++ ([61] : List UInt8)) + List.length (quoteG (List.getD x0 (Int.toNat s11) (([] : List UInt8), ([] : List UInt8))).2) ≤ 4611686018427387904) = true) (c7 : decide ((((List.length b0) + 1) * 16) ≤ 70368744177664) = true) (ih : (turns (hds 12 3592) 0 3592 (evC byref (evCall F S12 (m + 24)) (m + 24) 0 (hds 12) lbl12_0) n (l12_0H x0 s10 ((IntKind.wrap .i64 (s11 + (1)))) ((b0 ++ [(((List.getD x0 (Int.toNat s11) (([] : List UInt8), ([] : List UInt8))).1 ++ ([61] : List UInt8)) ++ (quoteG (List.getD x0 (Int.toNat s11) (([] : List UInt8), ([] : List UInt8))).2))]))) (l12_0B x0 s10 ((IntKind.wrap .i64 (s11 + (1)))) ((b0 ++ [(((List.getD x0 (Int.toNat s11) (([] : List UInt8), ([] : List UInt8))).1 ++ ([61] : List UInt8)) ++ (quoteG (List.getD x0 (Int.toNat s11) (([] : List UInt8), ([] : List UInt8))).2))])))).run = some r) : (turns (hds 12 3592) 0 3592 (evC byref (evCall F S12 (m + 24)) (m + 24) 0 (hds 12) lbl12_0) (n + 1) (l12_0H x0 s10 s11 b0) (l12_0B x0 s10 s11 b0)).run = some r := by
  have ht : (turn (hds 12 3592) 0 3592 (evC byref (evCall F S12 (m + 24)) (m + 24) 0 (hds 12) lbl12_0) (l12_0H x0 s10 s11 b0) (l12_0B x0 s10 s11 b0)).run = some (.normal, [.top, .top, .top, (.sr 0 0 ((List.length b0) + 1) 1 none), .top, .top, .top, .top, .top, (.d (.sl (.pair .str .str) x0)), (.d (.int .i64 s10)), (.d (.int .i64 (IntKind.wrap .i64 (s11 + (1))))), .top, .top, .top, .top, .top, .top, .top, .top, .top, .top, .top, .top, .top, .top, .top, .top, .top, .top], [(.arr .str (b0 ++ [(((List.getD x0 (Int.toNat s11) (([] : List UInt8), ([] : List UInt8))).1 ++ ([61] : List UInt8)) ++ (quoteG (List.getD x0 (Int.toNat s11) (([] : List UInt8), ([] : List UInt8))).2))]) true)]) := M.run_of_path _ [true, true, true, true, true, true, true, true, true] _ _ (by kernel_rfl) (all_t c0 (all_t c1 (all_t c2 (all_t c3 (all_t c4 (all_t c5 (all_t rfl (all_t c7 (all_t (show decide ((List.length b0) = (List.length b0)) = true from decide_eq_true rfl) all_nil)))))))))
  refine turns_step ht (turns_eq ?_ ?_ ih)
  · unfold l12_0H
    first | (simp; done) | (simp [Nat.add_assoc]; done) | (simp; omega)
  · unfold l12_0B
    simp
set_option maxHeartbeats 20000000 in
theorem l12_0_w1 (m n : Nat) (x0 : List ((List UInt8) × (List UInt8))) (s10 : Int) (s11 : Int) (b0 : List (List UInt8)) (c0 : ¬ decide (s11 < s10) = true) : (turns (hds 12 3592) 0 3592 (evC byref (evCall F S12 (m + 24)) (m + 24) 0 (hds 12) lbl12_0) (n + 1) (l12_0H x0 s10 s11 b0) (l12_0B x0 s10 s11 b0)).run = some (.exit 0, [.top, .top, .top, (.sr 0 0 (List.length b0) 1 none), .top, .top, .top, .top, .top, (.d (.sl (.pair .str .str) x0)), (.d (.int .i64 s10)), (.d (.int .i64 s11)), (.d (.bool (decide (s11 < s10)))), .top, .top, .top, .top, .top, .top, .top, .top, .top, .top, .top, .top, .top, .top, .top, .top, .top], [(.arr .str b0 true)]) := by
  exact turns_last (by simp) (M.run_of_path _ [false] _ _ (by kernel_rfl) (all_f c0 all_nil)) 

set_option maxHeartbeats 20000000 in
theorem l12_0_step (m n : Nat) (ih : ∀ (x0 : List ((List UInt8) × (List UInt8))) (s10 : Int) (s11 : Int) (b0 : List (List UInt8)) (q : Nat × Int × (List (List UInt8))), l12_0 m n x0 s10 s11 b0 = some q → (turns (hds 12 3592) 0 3592 (evC byref (evCall F S12 (m + 24)) (m + 24) 0 (hds 12) lbl12_0) n (l12_0H x0 s10 s11 b0) (l12_0B x0 s10 s11 b0)).run = some (l12_0E (x0) (s10) (q.2.1) (q.2.2) q.1)) (x0 : List ((List UInt8) × (List UInt8))) (s10 : Int) (s11 : Int) (b0 : List (List UInt8)) (q : Nat × Int × (List (List UInt8))) (h : l12_0 m (n + 1) x0 s10 s11 b0 = some q) : (turns (hds 12 3592) 0 3592 (evC byref (evCall F S12 (m + 24)) (m + 24) 0 (hds 12) lbl12_0) (n + 1) (l12_0H x0 s10 s11 b0) (l12_0B x0 s10 s11 b0)).run = some (l12_0E (x0) (s10) (q.2.1) (q.2.2) q.1) := by
  rw [l12_0] at h
  refine ite_cases h (fun c0 h => ?_) (fun c0 h => ?_)
  · skip
    refine ite_cases h (fun c1 h => ?_) (fun c1 h => ?_)
    · skip
      refine ite_cases h (fun c2 h => ?_) (fun c2 h => ?_)
      · skip
        refine ite_cases h (fun c3 h => ?_) (fun c3 h => ?_)
        · skip
          refine ite_cases h (fun c4 h => ?_) (fun c4 h => ?_)
          · skip
            refine ite_cases h (fun c5 h => ?_) (fun c5 h => ?_)
            · skip
              refine ite_cases h (fun c7 h => ?_) (fun c7 h => ?_)
              · skip
                exact l12_0_w0 m n x0 s10 s11 b0 _ c0 c1 c2 c3 c4 c5 c7 (ih _ _ _ _ q h)
              · skip
                cases h
            · skip
              cases h
          · skip
            cases h
        · skip
          cases h
      · skip
        cases h
    · skip
      cases h
  · skip
    cases h
    exact l12_0_w1 m n x0 s10 s11 b0 c0
set_option maxHeartbeats 20000000 in
theorem l12_0_ok (m : Nat) : ∀ (n : Nat) (x0 : List ((List UInt8) × (List UInt8))) (s10 : Int) (s11 : Int) (b0 : List (List UInt8)) (q : Nat × Int × (List (List UInt8))), l12_0 m n x0 s10 s11 b0 = some q → (turns (hds 12 3592) 0 3592 (evC byref (evCall F S12 (m + 24)) (m + 24) 0 (hds 12) lbl12_0) n (l12_0H x0 s10 s11 b0) (l12_0B x0 s10 s11 b0)).run = some (l12_0E (x0) (s10) (q.2.1) (q.2.2) q.1)
  | 0, x0, s10, s11, b0, q, h => by cases h
  | n + 1, x0, s10, s11, b0, q, h => l12_0_step m n (l12_0_ok m n) x0 s10 s11 b0 q h

def p12 (m : Nat) (x0 : List ((List UInt8) × (List UInt8))) : Option ((List UInt8)) :=
  if lrightPre x0 = true then
    if (lrightG x0) = true then
      if (Option.isSome (l12_0 m (m + 24) x0 ((((List.length x0) : Nat) : Int)) 0 (([] : List (List UInt8))))) = true then
        if (decide (List.length (List.take (List.length (l12_0R m (m + 24) x0 ((((List.length x0) : Nat) : Int)) 0 (([] : List (List UInt8)))).2.2) (List.drop 0 (l12_0R m (m + 24) x0 ((((List.length x0) : Nat) : Int)) 0 (([] : List (List UInt8)))).2.2)) ≤ 140737488355328) && decide (List.length (Lib.join (List.take (List.length (l12_0R m (m + 24) x0 ((((List.length x0) : Nat) : Int)) 0 (([] : List (List UInt8)))).2.2) (List.drop 0 (l12_0R m (m + 24) x0 ((((List.length x0) : Nat) : Int)) 0 (([] : List (List UInt8)))).2.2)) ([44] : List UInt8)) ≤ 140737488355328)) = true then
          if decide (List.length ([123] : List UInt8) + List.length (Lib.join (List.take (List.length (l12_0R m (m + 24) x0 ((((List.length x0) : Nat) : Int)) 0 (([] : List (List UInt8)))).2.2) (List.drop 0 (l12_0R m (m + 24) x0 ((((List.length x0) : Nat) : Int)) 0 (([] : List (List UInt8)))).2.2)) ([44] : List UInt8)) ≤ 4611686018427387904) = true then
            if decide (List.length (([123] : List UInt8) ++ (Lib.join (List.take (List.length (l12_0R m (m + 24) x0 ((((List.length x0) : Nat) : Int)) 0 (([] : List (List UInt8)))).2.2) (List.drop 0 (l12_0R m (m + 24) x0 ((((List.length x0) : Nat) : Int)) 0 (([] : List (List UInt8)))).2.2)) ([44] : List UInt8))) + List.length ([125] : List UInt8) ≤ 4611686018427387904) = true then
              some (((([123] : List UInt8) ++ (Lib.join (List.take (List.length (l12_0R m (m + 24) x0 ((((List.length x0) : Nat) : Int)) 0 (([] : List (List UInt8)))).2.2) (List.drop 0 (l12_0R m (m + 24) x0 ((((List.length x0) : Nat) : Int)) 0 (([] : List (List UInt8)))).2.2)) ([44] : List UInt8))) ++ ([125] : List UInt8)))
            else
              none
          else
            none
        else
          none
      else
        none
    else
      some (([] : List UInt8))
  else
    none
set_option maxHeartbeats 20000000 in
theorem p12_ok (m : Nat) (x0 : List ((List UInt8) × (List UInt8))) (q : (List UInt8)) (h : p12 m x0 = some q) : ∃ r B1, (evCall F S12 (m + 25) 12 [(.d (.sl (.pair .str .str) x0))] []).run = some (r, B1) ∧ 0 ≤ B1.length ∧ wkR B1 [] r (.d (.str q)) ∧ wkBs B1 [] 0 [] := by
  unfold p12 at h
  refine ite_cases h (fun c0 h => ?_) (fun c0 h => ?_)
  · skip
    refine ite_cases h (fun c1 h => ?_) (fun c1 h => ?_)
    · skip
      refine ite_cases h (fun c2 h => ?_) (fun c2 h => ?_)
      · skip
        refine ite_cases h (fun c4 h => ?_) (fun c4 h => ?_)
        · skip
          refine ite_cases h (fun c5 h => ?_) (fun c5 h => ?_)
          · skip
            refine ite_cases h (fun c6 h => ?_) (fun c6 h => ?_)
            · skip
              cases h
              refine ⟨(.d (.str ((([123] : List UInt8) ++ (Lib.join (List.take (List.length (l12_0R m (m + 24) x0 ((((List.length x0) : Nat) : Int)) 0 (([] : List (List UInt8)))).2.2) (List.drop 0 (l12_0R m (m + 24) x0 ((((List.length x0) : Nat) : Int)) 0 (([] : List (List UInt8)))).2.2)) ([44] : List UInt8))) ++ ([125] : List UInt8)))), [], runT_ok (LS := (fun k => if k = 3592 then some (l12_0E x0 (((((List.length x0) : Nat) : Int))) ((l12_0R m (m + 24) x0 ((((List.length x0) : Nat) : Int)) 0 (([] : List (List UInt8)))).2.1) ((l12_0R m (m + 24) x0 ((((List.length x0) : Nat) : Int)) 0 (([] : List (List UInt8)))).2.2) 0) else none)) (fn := fn12) (vis := [(3592, l12_0H x0 ((((List.length x0) : Nat) : Int)) 0 (([] : List (List UInt8))), l12_0B x0 ((((List.length x0) : Nat) : Int)) 0 (([] : List (List UInt8))))]) (by kernel_rfl) rfl (by kernel_rfl) (M.run_of_path _ [true, false, true, true, true, true] _ _ (by kernel_rfl) (all_t c0 (all_nt c1 (all_t (show decide ((0 + (List.length (l12_0R m (m + 24) x0 ((((List.length x0) : Nat) : Int)) 0 (([] : List (List UInt8)))).2.2)) ≤ (List.length (l12_0R m (m + 24) x0 ((((List.length x0) : Nat) : Int)) 0 (([] : List (List UInt8)))).2.2)) = true from decide_eq_true (Nat.le_of_eq (Nat.zero_add _))) (all_t c4 (all_t c5 (all_t c6 all_nil))))))) ?_, by simp, (wkR.one (wkV.one (wk1.eq rfl))), trivial⟩
              intro p hp p2 hq
              rcases List.mem_cons.1 hp with rfl | hp
              · skip
                have h3 := l12_0_ok m (m + 24) x0 ((((List.length x0) : Nat) : Int)) 0 (([] : List (List UInt8))) _ (some_getD (d := l12_0D) c2)
                exact Eq.trans (Eq.mp (by kernel_rfl) h3) hq
              cases hp
            · skip
              cases h
          · skip
            cases h
        · skip
          cases h
      · skip
        cases h
    · skip
      cases h
      refine ⟨(.d (.str ([] : List UInt8))), [], runT_ok (LS := (fun k => none)) (fn := fn12) (vis := []) (by kernel_rfl) rfl (by kernel_rfl) (M.run_of_path _ [true, true] _ _ (by kernel_rfl) (all_t c0 (all_nf c1 all_nil))) ?_, by simp, (wkR.one (wkV.one (wk1.eq rfl))), trivial⟩
      intro p hp; cases hp
  · skip
    cases h

theorem inter_le (sep : List UInt8) (B : Nat) : ∀ (l : List (List UInt8)), (∀ x ∈ l, x.length ≤ B) → (Lib.join l sep).length ≤ l.length * (B + sep.length)
  | [], _ => Nat.zero_le _
  | [a], h => by
    have := h a (List.mem_cons_self ..)
    have e : Lib.join [a] sep = a := by unfold Lib.join; simp [List.intercalate]
    rw [e]
    simp only [List.length_cons, List.length_nil]
    omega
  | a :: b :: l, h => by
    have e : Lib.join (a :: b :: l) sep = a ++ (sep ++ Lib.join (b :: l) sep) := by unfold Lib.join; simp [List.intercalate]
    rw [e, List.length_append, List.length_append]
    have h1 := h a (List.mem_cons_self ..)
    have h2 := inter_le sep B (b :: l) (fun x hx => h x (List.mem_cons_of_mem _ hx))
    have : (a :: b :: l).length * (B + sep.length) = (b :: l).length * (B + sep.length) + (B + sep.length) := by
      rw [List.length_cons, Nat.succ_mul]
    omega
def litemG (x : (List UInt8) × (List UInt8)) : List UInt8 := (x.1 ++ [61]) ++ quoteG x.2
/-- A printed set. -/
def lprintG (l : LB) : List UInt8 := if lrightG l = true then ([123] ++ Lib.join (l.map litemG) [44]) ++ [125] else []
theorem lright_all {l : LB} (h : lrightG l = true) : l.length ≤ 6 ∧ ∀ x ∈ l, x.1.length ≤ 24 ∧ x.2.length ≤ 24 := by
  unfold lrightG at h
  rw [Bool.and_eq_true, Bool.and_eq_true, decide_eq_true_eq] at h
  refine ⟨h.2, fun x hx => ?_⟩
  have := List.all_eq_true.1 h.1.1 x hx
  unfold lab1 wordG at this
  simp only [Bool.and_eq_true, decide_eq_true_eq] at this
  omega
theorem litem_le {x : (List UInt8) × (List UInt8)} (h : x.1.length ≤ 24 ∧ x.2.length ≤ 24) : (litemG x).length ≤ 100 := by
  unfold litemG
  rw [List.length_append, List.length_append]
  have := quote_le x.2
  simp only [List.length_cons, List.length_nil]
  omega
theorem lprint_loop (m : Nat) (l : LB) (h1 : l.length ≤ 6) (h2 : ∀ x ∈ l, x.1.length ≤ 24 ∧ x.2.length ≤ 24) : ∀ (n k : Nat) (b : List (List UInt8)), k ≤ l.length → l.length - k < n → b.length ≤ k → l12_0 m n l (l.length : Nat) (k : Nat) b = some (0, ((l.length : Nat) : Int), b ++ (l.drop k).map litemG)
  | 0, k, _, _, h, _ => by omega
  | n + 1, k, b, g1, g2, g3 => by
    rw [l12_0]
    by_cases hk : k < l.length
    · have e1 : decide (((k : Nat) : Int) < (((List.length l) : Nat) : Int)) = true := decide_eq_true (by omega)
      have e2 : decide ((0 : Int) ≤ ((k : Nat) : Int)) = true := decide_eq_true (by omega)
      have e7 : IntKind.wrap .i64 (((k : Nat) : Int) + (1)) = ((k + 1 : Nat) : Int) := by rw [wrap_id (by omega) (by omega)]; rfl
      have hq := h2 _ (getD_mem l k (([] : List UInt8), ([] : List UInt8)) hk)
      have go := fun x => lprint_loop m l h1 h2 n (k + 1) (b ++ [x]) (by omega) (by omega) (by simp; omega)
      rw [drop_getD l k (([] : List UInt8), ([] : List UInt8)) hk]
      simp only [show Int.toNat ((k : Nat) : Int) = k from rfl, e1, e2, e7, ↓reduceIte]
      generalize l.getD k (([] : List UInt8), ([] : List UInt8)) = q at *
      have hi : litemG q = (q.1 ++ [61]) ++ quoteG q.2 := rfl
      have hql := quote_le q.2
      have b0 : decide (List.length q.2 ≤ 2000000) = true := decide_eq_true (by omega)
      have b1 : decide (((List.length b) + 1) * 16 ≤ 70368744177664) = true := decide_eq_true (by omega)
      have b2 : decide (List.length q.1 + List.length ([61] : List UInt8) ≤ 4611686018427387904) = true := decide_eq_true (by simp; omega)
      have b3 : decide (List.length (q.1 ++ [61]) + List.length (quoteG q.2) ≤ 4611686018427387904) = true := decide_eq_true (by rw [List.length_append]; simp only [List.length_cons, List.length_nil]; omega)
      simp only [b0, b1, b2, b3, ↓reduceIte]
      rw [go, List.map_cons, hi]
      simp
    · have e1 : decide (((k : Nat) : Int) < (((List.length l) : Nat) : Int)) = false := decide_eq_false (by omega)
      have e0 : k = l.length := by omega
      subst e0
      rw [e1, if_neg (by simp), List.drop_length]
      simp
theorem lprint30 (l : LB) (h : lrightPre l = true) : ∃ m, p12 m l = some (lprintG l) := by
  refine ⟨l.length, ?_⟩
  unfold p12 lprintG
  rw [if_pos h]
  by_cases hr : lrightG l = true
  · obtain ⟨h1, h2⟩ := lright_all hr
    rw [if_pos hr, if_pos hr]
    have hl := lprint_loop l.length l h1 h2 (l.length + 24) 0 [] (by omega) (by omega) (by simp)
    simp only [Int.natCast_zero, List.drop_zero, List.nil_append] at hl
    simp only [l12_0R, hl, Option.isSome_some, Option.getD_some, ↓reduceIte, List.drop_zero, List.take_length]
    have hj := inter_le [44] 100 (l.map litemG) (by
      intro x hx
      obtain ⟨y, hy, rfl⟩ := List.mem_map.1 hx
      exact litem_le (h2 y hy))
    have hm : (l.map litemG).length = l.length := by simp
    rw [hm] at hj
    generalize hJ : Lib.join (l.map litemG) [44] = J at *
    have : l.length * (100 + ([44] : List UInt8).length) ≤ 606 := by
      simp only [List.length_cons, List.length_nil]; omega
    rw [if_pos, if_pos, if_pos]
    · exact decide_eq_true (by simp; omega)
    · exact decide_eq_true (by simp; omega)
    · rw [Bool.and_eq_true]
      exact ⟨decide_eq_true (by rw [hm]; omega), decide_eq_true (by omega)⟩
  · rw [if_neg hr, if_neg hr]
def s12 : List AV → Boxes → M (AV × Boxes) := normS [.val (.sl (.pair .str .str))] [] fun xs B => match xs, B with
  | [(.d (.sl (.pair .str .str) c1))], [] => .chk (lrightPre c1) (.ret ((.d (.str (lprintG c1))), []))
  | _, _ => .fail
theorem s12_at : CallAt Tryd.prog 12 s12 := by
  refine CallAt.norm (CallAt.weakE (g := fun n => evCall F S12 n 12) (fun n => evCall_atH mixed kinds hds S12 S12_ok n 12) fun xs B r' B' hr => ?_) _ _
  split at hr
  · rename_i c1
    obtain ⟨hp, hr⟩ := (M.run_chk _ _ _).1 hr
    simp only [M.run, Option.some.injEq, Prod.mk.injEq] at hr
    obtain ⟨rfl, rfl⟩ := hr
    obtain ⟨m, hm⟩ := lprint30 c1 hp
    obtain ⟨r, B1, h1, h2, h3, h4⟩ := p12_ok m c1 _ hm
    exact ⟨m + 25, r, B1, h1, by simp, h2, h3, h4⟩
  · simp [M.run] at hr
noncomputable def S13 : FuncId → Option (List AV → Boxes → M (AV × Boxes)) := fun f => if f = 12 then some s12 else S12 f
set_option maxHeartbeats 20000000 in
theorem S13_ok : ∀ f s, S13 f = some s → CallAt Tryd.prog f s := by
  intro f s h
  unfold S13 at h
  split at h
  · rename_i e; subst e; cases h; exact s12_at
  · exact S12_ok f s h

noncomputable def fn17 : AFn := (F 17).getD ⟨0, [], .bad, false, false, noHd⟩
noncomputable def body17 : AC := fn17.body
def l17_0 (m : Nat) : Nat → List ((List UInt8) × (List UInt8)) → List ((List UInt8) × (List UInt8)) → Int → Option (Nat × Int)
  | 0, _, _, _ => none
  | n + 1, x0, x1, s5 => if decide (s5 < (((List.length x0) : Nat) : Int)) = true then
      if decide (0 ≤ s5) = true then
        if decide (s5 < (((List.length x1) : Nat) : Int)) = true then
          if (((List.getD x0 (Int.toNat s5) (([] : List UInt8), ([] : List UInt8))).1 == (List.getD x1 (Int.toNat s5) (([] : List UInt8), ([] : List UInt8))).1) && (((List.getD x0 (Int.toNat s5) (([] : List UInt8), ([] : List UInt8))).2 == (List.getD x1 (Int.toNat s5) (([] : List UInt8), ([] : List UInt8))).2) && true)) = true then
            l17_0 m n x0 x1 ((IntKind.wrap .i64 (s5 + (1))))
          else
            some (0, s5)
        else
          none
      else
        none
    else
      some (1, s5)
def l17_0D : Nat × Int := (0, 0)
@[reducible] def l17_0R (m n : Nat) (x0 : List ((List UInt8) × (List UInt8))) (x1 : List ((List UInt8) × (List UInt8))) (s5 : Int) : Nat × Int := Option.getD (l17_0 m n x0 x1 s5) l17_0D
def l17_0H (x0 : List ((List UInt8) × (List UInt8))) (x1 : List ((List UInt8) × (List UInt8))) (s5 : Int) : Env := [(.d (.sl (.pair .str .str) x0)), (.d (.sl (.pair .str .str) x1)), .top, .top, .top, (.d (.int .i64 s5)), .top, .top, .top, .top, .top, .top, .top, .top, .top, .top, .top, .top, .top, .top, .top, .top, .top, .top, .top, .top]
def l17_0B (x0 : List ((List UInt8) × (List UInt8))) (x1 : List ((List UInt8) × (List UInt8))) (s5 : Int) : Boxes := []
def l17_0E (x0 : List ((List UInt8) × (List UInt8))) (x1 : List ((List UInt8) × (List UInt8))) (s5 : Int) : Nat → AEx × Env × Boxes
  | 0 => (.ret, [(.d (.sl (.pair .str .str) x0)), (.d (.sl (.pair .str .str) x1)), .top, .top, (.d (.bool false)), (.d (.int .i64 s5)), .top, .top, .top, .top, .top, (.d (.int .i64 s5)), (.d (.sl (.pair .str .str) x0)), (.d (.int .i64 (((List.length x0) : Nat) : Int))), (.d (.bool (decide (s5 < (((List.length x0) : Nat) : Int))))), .top, .top, (.d (.sl (.pair .str .str) x0)), (.d (.int .i64 s5)), (.cptr [(.str (List.getD x0 (Int.toNat s5) (([] : List UInt8), ([] : List UInt8))).1), (.str (List.getD x0 (Int.toNat s5) (([] : List UInt8), ([] : List UInt8))).2)] 0), (.agg [(.d (.str (List.getD x0 (Int.toNat s5) (([] : List UInt8), ([] : List UInt8))).1)), (.d (.str (List.getD x0 (Int.toNat s5) (([] : List UInt8), ([] : List UInt8))).2))]), (.d (.sl (.pair .str .str) x1)), (.d (.int .i64 s5)), (.cptr [(.str (List.getD x1 (Int.toNat s5) (([] : List UInt8), ([] : List UInt8))).1), (.str (List.getD x1 (Int.toNat s5) (([] : List UInt8), ([] : List UInt8))).2)] 0), (.agg [(.d (.str (List.getD x1 (Int.toNat s5) (([] : List UInt8), ([] : List UInt8))).1)), (.d (.str (List.getD x1 (Int.toNat s5) (([] : List UInt8), ([] : List UInt8))).2))]), (.d (.bool (!(((List.getD x0 (Int.toNat s5) (([] : List UInt8), ([] : List UInt8))).1 == (List.getD x1 (Int.toNat s5) (([] : List UInt8), ([] : List UInt8))).1) && (((List.getD x0 (Int.toNat s5) (([] : List UInt8), ([] : List UInt8))).2 == (List.getD x1 (Int.toNat s5) (([] : List UInt8), ([] : List UInt8))).2) && true)))))], [.dead, .dead, .dead, .dead, .dead, .dead, .dead, .dead, .dead, .dead, .dead, .dead, .dead, .dead, .dead, .dead, .dead, .dead, .dead, .dead, .dead, .dead, .dead, .dead, .dead, .dead, .dead, .dead, .dead, .dead, .dead, .dead, .dead, .dead, .dead, .dead])
  | _ => (.exit 0, [(.d (.sl (.pair .str .str) x0)), (.d (.sl (.pair .str .str) x1)), .top, .top, .top, (.d (.int .i64 s5)), .top, .top, .top, .top, .top, (.d (.int .i64 s5)), (.d (.sl (.pair .str .str) x0)), (.d (.int .i64 (((List.length x0) : Nat) : Int))), (.d (.bool (decide (s5 < (((List.length x0) : Nat) : Int))))), .top, .top, .top, .top, .top, .top, .top, .top, .top, .top, .top], [])
noncomputable def lbl17_0 : AC := loopBody 35 body17

set_option maxHeartbeats 20000000 in
theorem l17_0_w0 (m n : Nat) (x0 : List ((List UInt8) × (List UInt8))) (x1 : List ((List UInt8) × (List UInt8))) (s5 : Int) (r : AEx × Env × Boxes) (c0 : decide (s5 < (((List.length x0) : Nat) : Int)) = true) (c1 : decide (0 ≤ s5) = true) (c4 : decide (s5 < (((List.length x1) : Nat) : Int)) = true) (c5 : (((List.getD x0 (Int.toNat s5) (([] : List UInt8), ([] : List UInt8))).1 == (List.getD x1 (Int.toNat s5) (([] : List UInt8), ([] : List UInt8))).1) && (((List.getD x0 (Int.toNat s5) (([] : List UInt8), ([] : List UInt8))).2 == (List.getD x1 (Int.toNat s5) (([] : List UInt8), ([] : List UInt8))).2) && true)) = true) (ih : (turns (hds 17 35) 0 35 (evC byref (evCall F S13 (m + 24)) (m + 24) 0 (hds 17) lbl17_0) n (l17_0H x0 x1 ((IntKind.wrap .i64 (s5 + (1))))) (l17_0B x0 x1 ((IntKind.wrap .i64 (s5 + (1)))))).run = some r) : (turns (hds 17 35) 0 35 (evC byref (evCall F S13 (m + 24)) (m + 24) 0 (hds 17) lbl17_0) (n + 1) (l17_0H x0 x1 s5) (l17_0B x0 x1 s5)).run = some r := by
  exact turns_step (M.run_of_path _ [true, true, true, true, true, false] _ _ (by kernel_rfl) (all_t c0 (all_t c1 (all_t c0 (all_t c1 (all_t c4 (all_nt c5 all_nil))))))) ih
set_option maxHeartbeats 20000000 in
theorem l17_0_w1 (m n : Nat) (x0 : List ((List UInt8) × (List UInt8))) (x1 : List ((List UInt8) × (List UInt8))) (s5 : Int) (c0 : decide (s5 < (((List.length x0) : Nat) : Int)) = true) (c1 : decide (0 ≤ s5) = true) (c4 : decide (s5 < (((List.length x1) : Nat) : Int)) = true) (c5 : ¬ (((List.getD x0 (Int.toNat s5) (([] : List UInt8), ([] : List UInt8))).1 == (List.getD x1 (Int.toNat s5) (([] : List UInt8), ([] : List UInt8))).1) && (((List.getD x0 (Int.toNat s5) (([] : List UInt8), ([] : List UInt8))).2 == (List.getD x1 (Int.toNat s5) (([] : List UInt8), ([] : List UInt8))).2) && true)) = true) : (turns (hds 17 35) 0 35 (evC byref (evCall F S13 (m + 24)) (m + 24) 0 (hds 17) lbl17_0) (n + 1) (l17_0H x0 x1 s5) (l17_0B x0 x1 s5)).run = some (.ret, [(.d (.sl (.pair .str .str) x0)), (.d (.sl (.pair .str .str) x1)), .top, .top, (.d (.bool false)), (.d (.int .i64 s5)), .top, .top, .top, .top, .top, (.d (.int .i64 s5)), (.d (.sl (.pair .str .str) x0)), (.d (.int .i64 (((List.length x0) : Nat) : Int))), (.d (.bool (decide (s5 < (((List.length x0) : Nat) : Int))))), .top, .top, (.d (.sl (.pair .str .str) x0)), (.d (.int .i64 s5)), (.cptr [(.str (List.getD x0 (Int.toNat s5) (([] : List UInt8), ([] : List UInt8))).1), (.str (List.getD x0 (Int.toNat s5) (([] : List UInt8), ([] : List UInt8))).2)] 0), (.agg [(.d (.str (List.getD x0 (Int.toNat s5) (([] : List UInt8), ([] : List UInt8))).1)), (.d (.str (List.getD x0 (Int.toNat s5) (([] : List UInt8), ([] : List UInt8))).2))]), (.d (.sl (.pair .str .str) x1)), (.d (.int .i64 s5)), (.cptr [(.str (List.getD x1 (Int.toNat s5) (([] : List UInt8), ([] : List UInt8))).1), (.str (List.getD x1 (Int.toNat s5) (([] : List UInt8), ([] : List UInt8))).2)] 0), (.agg [(.d (.str (List.getD x1 (Int.toNat s5) (([] : List UInt8), ([] : List UInt8))).1)), (.d (.str (List.getD x1 (Int.toNat s5) (([] : List UInt8), ([] : List UInt8))).2))]), (.d (.bool (!(((List.getD x0 (Int.toNat s5) (([] : List UInt8), ([] : List UInt8))).1 == (List.getD x1 (Int.toNat s5) (([] : List UInt8), ([] : List UInt8))).1) && (((List.getD x0 (Int.toNat s5) (([] : List UInt8), ([] : List UInt8))).2 == (List.getD x1 (Int.toNat s5) (([] : List UInt8), ([] : List UInt8))).2) && true)))))], [.dead, .dead, .dead, .dead, .dead, .dead, .dead, .dead, .dead, .dead, .dead, .dead, .dead, .dead, .dead, .dead, .dead, .dead, .dead, .dead, .dead, .dead, .dead, .dead, .dead, .dead, .dead, .dead, .dead, .dead, .dead, .dead, .dead, .dead, .dead, .dead]) := by
  exact turns_last (by simp) (M.run_of_path _ [true, true, true, true, true, true] _ _ (by kernel_rfl) (all_t c0 (all_t c1 (all_t c0 (all_t c1 (all_t c4 (all_nf c5 all_nil))))))) 
set_option maxHeartbeats 20000000 in
theorem l17_0_w2 (m n : Nat) (x0 : List ((List UInt8) × (List UInt8))) (x1 : List ((List UInt8) × (List UInt8))) (s5 : Int) (c0 : ¬ decide (s5 < (((List.length x0) : Nat) : Int)) = true) : (turns (hds 17 35) 0 35 (evC byref (evCall F S13 (m + 24)) (m + 24) 0 (hds 17) lbl17_0) (n + 1) (l17_0H x0 x1 s5) (l17_0B x0 x1 s5)).run = some (.exit 0, [(.d (.sl (.pair .str .str) x0)), (.d (.sl (.pair .str .str) x1)), .top, .top, .top, (.d (.int .i64 s5)), .top, .top, .top, .top, .top, (.d (.int .i64 s5)), (.d (.sl (.pair .str .str) x0)), (.d (.int .i64 (((List.length x0) : Nat) : Int))), (.d (.bool (decide (s5 < (((List.length x0) : Nat) : Int))))), .top, .top, .top, .top, .top, .top, .top, .top, .top, .top, .top], []) := by
  exact turns_last (by simp) (M.run_of_path _ [false] _ _ (by kernel_rfl) (all_f c0 all_nil)) 

set_option maxHeartbeats 20000000 in
theorem l17_0_step (m n : Nat) (ih : ∀ (x0 : List ((List UInt8) × (List UInt8))) (x1 : List ((List UInt8) × (List UInt8))) (s5 : Int) (q : Nat × Int), l17_0 m n x0 x1 s5 = some q → (turns (hds 17 35) 0 35 (evC byref (evCall F S13 (m + 24)) (m + 24) 0 (hds 17) lbl17_0) n (l17_0H x0 x1 s5) (l17_0B x0 x1 s5)).run = some (l17_0E (x0) (x1) (q.2) q.1)) (x0 : List ((List UInt8) × (List UInt8))) (x1 : List ((List UInt8) × (List UInt8))) (s5 : Int) (q : Nat × Int) (h : l17_0 m (n + 1) x0 x1 s5 = some q) : (turns (hds 17 35) 0 35 (evC byref (evCall F S13 (m + 24)) (m + 24) 0 (hds 17) lbl17_0) (n + 1) (l17_0H x0 x1 s5) (l17_0B x0 x1 s5)).run = some (l17_0E (x0) (x1) (q.2) q.1) := by
  rw [l17_0] at h
  refine ite_cases h (fun c0 h => ?_) (fun c0 h => ?_)
  · skip
    refine ite_cases h (fun c1 h => ?_) (fun c1 h => ?_)
    · skip
      refine ite_cases h (fun c4 h => ?_) (fun c4 h => ?_)
      · skip
        refine ite_cases h (fun c5 h => ?_) (fun c5 h => ?_)
        · skip
          exact l17_0_w0 m n x0 x1 s5 _ c0 c1 c4 c5 (ih _ _ _ q h)
        · skip
          cases h
          exact l17_0_w1 m n x0 x1 s5 c0 c1 c4 c5
      · skip
        cases h
    · skip
      cases h
  · skip
    cases h
    exact l17_0_w2 m n x0 x1 s5 c0
set_option maxHeartbeats 20000000 in
theorem l17_0_ok (m : Nat) : ∀ (n : Nat) (x0 : List ((List UInt8) × (List UInt8))) (x1 : List ((List UInt8) × (List UInt8))) (s5 : Int) (q : Nat × Int), l17_0 m n x0 x1 s5 = some q → (turns (hds 17 35) 0 35 (evC byref (evCall F S13 (m + 24)) (m + 24) 0 (hds 17) lbl17_0) n (l17_0H x0 x1 s5) (l17_0B x0 x1 s5)).run = some (l17_0E (x0) (x1) (q.2) q.1)
  | 0, x0, x1, s5, q, h => by cases h
  | n + 1, x0, x1, s5, q, h => l17_0_step m n (l17_0_ok m n) x0 x1 s5 q h

def p17 (m : Nat) (x0 : List ((List UInt8) × (List UInt8))) (x1 : List ((List UInt8) × (List UInt8))) : Option (Bool) :=
  if ((((List.length x0) : Nat) : Int) != (((List.length x1) : Nat) : Int)) = true then
    some (false)
  else
    if (Option.isSome (l17_0 m (m + 24) x0 x1 0)) = true then
      if ((l17_0R m (m + 24) x0 x1 0).1 == 0) = true then
        some (false)
      else
        if ((l17_0R m (m + 24) x0 x1 0).1 == 1) = true then
          some (true)
        else
          none
    else
      none
set_option maxHeartbeats 20000000 in
theorem p17_ok (m : Nat) (x0 : List ((List UInt8) × (List UInt8))) (x1 : List ((List UInt8) × (List UInt8))) (q : Bool) (h : p17 m x0 x1 = some q) : ∃ r B1, (evCall F S13 (m + 25) 17 [(.d (.sl (.pair .str .str) x0)), (.d (.sl (.pair .str .str) x1))] []).run = some (r, B1) ∧ 0 ≤ B1.length ∧ wkR B1 [] r (.d (.bool (q))) ∧ wkBs B1 [] 0 [] := by
  unfold p17 at h
  refine ite_cases h (fun c0 h => ?_) (fun c0 h => ?_)
  · skip
    cases h
    refine ⟨(.d (.bool false)), [], runT_ok (LS := (fun k => none)) (fn := fn17) (vis := []) (by kernel_rfl) rfl (by kernel_rfl) (M.run_of_path _ [true] _ _ (by kernel_rfl) (all_t c0 all_nil)) ?_, by simp, (wkR.one (wkV.one (wk1.eq rfl))), trivial⟩
    intro p hp; cases hp
  · skip
    refine ite_cases h (fun c1 h => ?_) (fun c1 h => ?_)
    · skip
      refine ite_cases h (fun c2 h => ?_) (fun c2 h => ?_)
      · skip
        cases h
        refine ⟨(.d (.bool false)), [], runT_ok (LS := (fun k => if k = 35 then some (l17_0E x0 x1 ((l17_0R m (m + 24) x0 x1 0).2) 0) else none)) (fn := fn17) (vis := [(35, l17_0H x0 x1 0, l17_0B x0 x1 0)]) (by kernel_rfl) rfl (by kernel_rfl) (M.run_of_path _ [false] _ _ (by kernel_rfl) (all_f c0 all_nil)) ?_, by simp, (wkR.one (wkV.one (wk1.eq rfl))), trivial⟩
        intro p hp p2 hq
        rcases List.mem_cons.1 hp with rfl | hp
        · skip
          have h3 := l17_0_ok m (m + 24) x0 x1 0 _ (some_getD (d := l17_0D) c1)
          rw [eq_of_beq c2] at h3
          exact Eq.trans (Eq.mp (by kernel_rfl) h3) hq
        cases hp
      · skip
        refine ite_cases h (fun c3 h => ?_) (fun c3 h => ?_)
        · skip
          cases h
          refine ⟨(.d (.bool true)), [], runT_ok (LS := (fun k => if k = 35 then some (l17_0E x0 x1 ((l17_0R m (m + 24) x0 x1 0).2) 1) else none)) (fn := fn17) (vis := [(35, l17_0H x0 x1 0, l17_0B x0 x1 0)]) (by kernel_rfl) rfl (by kernel_rfl) (M.run_of_path _ [false] _ _ (by kernel_rfl) (all_f c0 all_nil)) ?_, by simp, (wkR.one (wkV.one (wk1.eq rfl))), trivial⟩
          intro p hp p2 hq
          rcases List.mem_cons.1 hp with rfl | hp
          · skip
            have h3 := l17_0_ok m (m + 24) x0 x1 0 _ (some_getD (d := l17_0D) c1)
            rw [eq_of_beq c3] at h3
            exact Eq.trans (Eq.mp (by kernel_rfl) h3) hq
          cases hp
        · skip
          cases h
    · skip
      cases h

theorem eq17_loop (m : Nat) (a b : List ((List UInt8) × (List UInt8))) (hl : a.length = b.length) (hb : a.length < 4611686018427387904) : ∀ n k, k ≤ a.length → a.length - k < n → ∃ j, l17_0 m n a b (k : Nat) = some (if a.drop k == b.drop k then 1 else 0, j)
  | 0, k, _, h => by omega
  | n + 1, k, hk, hn => by
    rw [l17_0]
    by_cases h : k < a.length
    · have hs : ∀ u v : (List UInt8) × (List UInt8), ((u.1 == v.1) && ((u.2 == v.2) && true)) = (u == v) := fun u v => by rw [Bool.and_true]; rfl
      have e1 : decide (((k : Nat) : Int) < ((a.length : Nat) : Int)) = true := decide_eq_true (by omega)
      have e2 : decide ((0 : Int) ≤ ((k : Nat) : Int)) = true := decide_eq_true (by omega)
      have e3 : decide (((k : Nat) : Int) < ((b.length : Nat) : Int)) = true := decide_eq_true (by omega)
      simp only [e1, e2, e3, if_true, Int.toNat_natCast,hs]
      rw [drop_getD a k (([] : List UInt8), ([] : List UInt8)) h, drop_getD b k (([] : List UInt8), ([] : List UInt8)) (by omega)]
      have ew : IntKind.wrap .i64 (((k : Nat) : Int) + (1)) = ((k + 1 : Nat) : Int) := by rw [wrap_id (by omega) (by omega)]; rfl
      rw [ew]
      obtain ⟨j, hj⟩ := eq17_loop m a b hl hb n (k + 1) (by omega) (by omega)
      have hc : ((a.getD k (([] : List UInt8), ([] : List UInt8))) :: a.drop (k + 1) == (b.getD k (([] : List UInt8), ([] : List UInt8))) :: b.drop (k + 1)) = (((a.getD k (([] : List UInt8), ([] : List UInt8))) == (b.getD k (([] : List UInt8), ([] : List UInt8)))) && (a.drop (k + 1) == b.drop (k + 1))) := rfl
      rw [hc]
      rcases Bool.eq_false_or_eq_true ((a.getD k (([] : List UInt8), ([] : List UInt8))) == (b.getD k (([] : List UInt8), ([] : List UInt8)))) with he | he
      · exact ⟨j, by simp only [he, hj]; simp⟩
      · exact ⟨(k : Nat), by simp only [he]; simp⟩
    · have e1 : decide (((k : Nat) : Int) < ((a.length : Nat) : Int)) = false := decide_eq_false (by omega)
      refine ⟨(k : Nat), ?_⟩
      simp only [e1, Bool.false_eq_true, if_false]
      rw [List.drop_eq_nil_of_le (by omega), List.drop_eq_nil_of_le (by omega)]
      rfl
theorem eq17 (a b : List ((List UInt8) × (List UInt8))) (h : decide (List.length a < 4611686018427387904) = true) : ∃ m, p17 m a b = some (a == b) := by
  have hb := of_decide_eq_true h
  refine ⟨a.length, ?_⟩
  unfold p17 l17_0R
  by_cases hl : a.length = b.length
  · have e0 : ((((List.length a) : Nat) : Int) != (((List.length b) : Nat) : Int)) = false := by simp [hl]
    obtain ⟨j, hj⟩ := eq17_loop a.length a b hl hb (a.length + 24) 0 (by omega) (by omega)
    simp only [Int.natCast_zero, List.drop_zero] at hj
    rw [e0]
    simp only [Bool.false_eq_true, if_false]
    rw [hj]
    cases hab : a == b <;> simp [hab]
  · have e0 : ((((List.length a) : Nat) : Int) != (((List.length b) : Nat) : Int)) = true := by simp; omega
    rw [e0]
    have : (a == b) = false := by
      rw [beq_eq_false_iff_ne]
      intro e; rw [e] at hl; exact hl rfl
    simp [this]
def s17 : List AV → Boxes → M (AV × Boxes) := normS [.val (.sl (.pair .str .str)), .val (.sl (.pair .str .str))] [] fun xs B => match xs, B with
  | [(.d (.sl (.pair .str .str) c1)), (.d (.sl (.pair .str .str) c2))], [] => .chk (decide (List.length c1 < 4611686018427387904)) (.ret ((.d (.bool ((show List ((List UInt8) × (List UInt8)) from c1) == c2))), []))
  | _, _ => .fail
theorem s17_at : CallAt Tryd.prog 17 s17 := by
  refine CallAt.norm (CallAt.weakE (g := fun n => evCall F S13 n 17) (fun n => evCall_atH mixed kinds hds S13 S13_ok n 17) fun xs B r' B' hr => ?_) _ _
  split at hr
  · rename_i c1 c2
    obtain ⟨hp, hr⟩ := (M.run_chk _ _ _).1 hr
    simp only [M.run, Option.some.injEq, Prod.mk.injEq] at hr
    obtain ⟨rfl, rfl⟩ := hr
    obtain ⟨m, hm⟩ := eq17 c1 c2 hp
    obtain ⟨r, B1, h1, h2, h3, h4⟩ := p17_ok m c1 c2 _ hm
    exact ⟨m + 25, r, B1, h1, by simp, h2, h3, h4⟩
  · simp [M.run] at hr
noncomputable def S14 : FuncId → Option (List AV → Boxes → M (AV × Boxes)) := fun f => if f = 17 then some s17 else S13 f
set_option maxHeartbeats 20000000 in
theorem S14_ok : ∀ f s, S14 f = some s → CallAt Tryd.prog f s := by
  intro f s h
  unfold S14 at h
  split at h
  · rename_i e; subst e; cases h; exact s17_at
  · exact S13_ok f s h

end Go.Proofs.YtcdpgldecikejaaDoor.Dec
namespace Go.Proofs.YtcdpgldecikejaaDoor.Dec
open Go.Ev
set_option linter.unusedVariables false
set_option linter.unusedSimpArgs false
set_option maxRecDepth 100000
theorem runs14 : Known Tryd.prog 14 [] (.d (.bool true)) := known Go.Proofs.YtcdpgldecikejaaDoor.Ev.mixed (kinds := Go.Proofs.YtcdpgldecikejaaDoor.Ev.kinds) (n := 300) Go.Proofs.YtcdpgldecikejaaDoor.Ev.S_ok (by kernel_rfl)
def trueG : List D → M AV
  | [] => .ret (.d (.bool true))
  | _ => .fail
theorem true14 : CallAt Tryd.prog 14 (plainV trueG) := by
  refine plainV_at fun ds r hr => ?_
  unfold trueG at hr
  split at hr
  · simp only [M.run, Option.some.injEq] at hr
    subst hr
    exact runs14
  · simp [M.run] at hr
theorem runs35 : Known Tryd.prog 35 [] (.d (.bool true)) := known Go.Proofs.YtcdpgldecikejaaDoor.Ev.mixed (kinds := Go.Proofs.YtcdpgldecikejaaDoor.Ev.kinds) (n := 300) Go.Proofs.YtcdpgldecikejaaDoor.Ev.S_ok (by kernel_rfl)
theorem true35 : CallAt Tryd.prog 35 (plainV trueG) := by
  refine plainV_at fun ds r hr => ?_
  unfold trueG at hr
  split at hr
  · simp only [M.run, Option.some.injEq] at hr
    subst hr
    exact runs35
  · simp [M.run] at hr

noncomputable def S15 : FuncId → Option (List AV → Boxes → M (AV × Boxes)) := fun f => if f = 14 then some (plainV trueG) else S14 f
set_option maxHeartbeats 20000000 in
theorem S15_ok : ∀ f s, S15 f = some s → CallAt Tryd.prog f s := by
  intro f s h
  unfold S15 at h
  split at h
  · rename_i e; subst e; cases h; exact true14
  · exact S14_ok f s h

noncomputable def S16 : FuncId → Option (List AV → Boxes → M (AV × Boxes)) := fun f => if f = 35 then some (plainV trueG) else S15 f
set_option maxHeartbeats 20000000 in
theorem S16_ok : ∀ f s, S16 f = some s → CallAt Tryd.prog f s := by
  intro f s h
  unfold S16 at h
  split at h
  · rename_i e; subst e; cases h; exact true35
  · exact S15_ok f s h

end Go.Proofs.YtcdpgldecikejaaDoor.Dec
namespace Go.Proofs.YtcdpgldecikejaaDoor.Dec
open Go.Ev
set_option linter.unusedVariables false
set_option linter.unusedSimpArgs false
set_option maxRecDepth 100000
noncomputable def fn70 : AFn := (F 70).getD ⟨0, [], .bad, false, false, noHd⟩
noncomputable def body70 : AC := fn70.body
def l70_0 (m : Nat) : Nat → List (List UInt8) → List UInt8 → Int → Int → Option (Nat × Int)
  | 0, _, _, _, _ => none
  | n + 1, x0, x1, s7, s8 => if decide (s8 < s7) = true then
      if decide (0 ≤ s8) = true then
        if decide (s8 < (((List.length x0) : Nat) : Int)) = true then
          if (x1 == (List.getD x0 (Int.toNat s8) ([] : List UInt8))) = true then
            some (0, s8)
          else
            l70_0 m n x0 x1 s7 ((IntKind.wrap .i64 (s8 + (1))))
        else
          none
      else
        none
    else
      some (1, s8)
def l70_0D : Nat × Int := (0, 0)
@[reducible] def l70_0R (m n : Nat) (x0 : List (List UInt8)) (x1 : List UInt8) (s7 : Int) (s8 : Int) : Nat × Int := Option.getD (l70_0 m n x0 x1 s7 s8) l70_0D
def l70_0H (x0 : List (List UInt8)) (x1 : List UInt8) (s7 : Int) (s8 : Int) : Env := [(.d (.sl .str x0)), (.d (.str x1)), .top, .top, .top, .top, .top, (.d (.int .i64 s7)), (.d (.int .i64 s8)), .top, .top, .top, .top, .top, .top, .top, .top, .top, .top]
def l70_0B (x0 : List (List UInt8)) (x1 : List UInt8) (s7 : Int) (s8 : Int) : Boxes := []
def l70_0E (x0 : List (List UInt8)) (x1 : List UInt8) (s7 : Int) (s8 : Int) : Nat → AEx × Env × Boxes
  | 0 => (.ret, [(.d (.sl .str x0)), (.d (.str x1)), .top, .top, (.d (.int .i64 s8)), (.d (.int .i64 s8)), .top, (.d (.int .i64 s7)), (.d (.int .i64 s8)), (.d (.bool (decide (s8 < s7)))), (.d (.int .i64 s8)), (.d (.str x1)), (.d (.sl .str x0)), (.d (.int .i64 s8)), (.cptr [(.str (List.getD x0 (Int.toNat s8) ([] : List UInt8)))] 0), (.d (.str (List.getD x0 (Int.toNat s8) ([] : List UInt8)))), (.d (.bool (x1 == (List.getD x0 (Int.toNat s8) ([] : List UInt8))))), (.d (.int .i64 s8)), .top], [])
  | _ => (.exit 0, [(.d (.sl .str x0)), (.d (.str x1)), .top, .top, .top, .top, .top, (.d (.int .i64 s7)), (.d (.int .i64 s8)), (.d (.bool (decide (s8 < s7)))), .top, .top, .top, .top, .top, .top, .top, .top, .top], [])
noncomputable def lbl70_0 : AC := loopBody 387 body70

set_option maxHeartbeats 20000000 in
theorem l70_0_w0 (m n : Nat) (x0 : List (List UInt8)) (x1 : List UInt8) (s7 : Int) (s8 : Int) (c0 : decide (s8 < s7) = true) (c1 : decide (0 ≤ s8) = true) (c2 : decide (s8 < (((List.length x0) : Nat) : Int)) = true) (c3 : (x1 == (List.getD x0 (Int.toNat s8) ([] : List UInt8))) = true) : (turns (hds 70 387) 0 387 (evC byref (evCall F S16 (m + 24)) (m + 24) 0 (hds 70) lbl70_0) (n + 1) (l70_0H x0 x1 s7 s8) (l70_0B x0 x1 s7 s8)).run = some (.ret, [(.d (.sl .str x0)), (.d (.str x1)), .top, .top, (.d (.int .i64 s8)), (.d (.int .i64 s8)), .top, (.d (.int .i64 s7)), (.d (.int .i64 s8)), (.d (.bool (decide (s8 < s7)))), (.d (.int .i64 s8)), (.d (.str x1)), (.d (.sl .str x0)), (.d (.int .i64 s8)), (.cptr [(.str (List.getD x0 (Int.toNat s8) ([] : List UInt8)))] 0), (.d (.str (List.getD x0 (Int.toNat s8) ([] : List UInt8)))), (.d (.bool (x1 == (List.getD x0 (Int.toNat s8) ([] : List UInt8))))), (.d (.int .i64 s8)), .top], []) := by
  exact turns_last (by simp) (M.run_of_path _ [true, true, true, true] _ _ (by kernel_rfl) (all_t c0 (all_t c1 (all_t c2 (all_t c3 all_nil))))) 
set_option maxHeartbeats 20000000 in
theorem l70_0_w1 (m n : Nat) (x0 : List (List UInt8)) (x1 : List UInt8) (s7 : Int) (s8 : Int) (r : AEx × Env × Boxes) (c0 : decide (s8 < s7) = true) (c1 : decide (0 ≤ s8) = true) (c2 : decide (s8 < (((List.length x0) : Nat) : Int)) = true) (c3 : ¬ (x1 == (List.getD x0 (Int.toNat s8) ([] : List UInt8))) = true) (ih : (turns (hds 70 387) 0 387 (evC byref (evCall F S16 (m + 24)) (m + 24) 0 (hds 70) lbl70_0) n (l70_0H x0 x1 s7 ((IntKind.wrap .i64 (s8 + (1))))) (l70_0B x0 x1 s7 ((IntKind.wrap .i64 (s8 + (1)))))).run = some r) : (turns (hds 70 387) 0 387 (evC byref (evCall F S16 (m + 24)) (m + 24) 0 (hds 70) lbl70_0) (n + 1) (l70_0H x0 x1 s7 s8) (l70_0B x0 x1 s7 s8)).run = some r := by
  exact turns_step (M.run_of_path _ [true, true, true, false] _ _ (by kernel_rfl) (all_t c0 (all_t c1 (all_t c2 (all_f c3 all_nil))))) ih
set_option maxHeartbeats 20000000 in
theorem l70_0_w2 (m n : Nat) (x0 : List (List UInt8)) (x1 : List UInt8) (s7 : Int) (s8 : Int) (c0 : ¬ decide (s8 < s7) = true) : (turns (hds 70 387) 0 387 (evC byref (evCall F S16 (m + 24)) (m + 24) 0 (hds 70) lbl70_0) (n + 1) (l70_0H x0 x1 s7 s8) (l70_0B x0 x1 s7 s8)).run = some (.exit 0, [(.d (.sl .str x0)), (.d (.str x1)), .top, .top, .top, .top, .top, (.d (.int .i64 s7)), (.d (.int .i64 s8)), (.d (.bool (decide (s8 < s7)))), .top, .top, .top, .top, .top, .top, .top, .top, .top], []) := by
  exact turns_last (by simp) (M.run_of_path _ [false] _ _ (by kernel_rfl) (all_f c0 all_nil)) 

set_option maxHeartbeats 20000000 in
theorem l70_0_step (m n : Nat) (ih : ∀ (x0 : List (List UInt8)) (x1 : List UInt8) (s7 : Int) (s8 : Int) (q : Nat × Int), l70_0 m n x0 x1 s7 s8 = some q → (turns (hds 70 387) 0 387 (evC byref (evCall F S16 (m + 24)) (m + 24) 0 (hds 70) lbl70_0) n (l70_0H x0 x1 s7 s8) (l70_0B x0 x1 s7 s8)).run = some (l70_0E (x0) (x1) (s7) (q.2) q.1)) (x0 : List (List UInt8)) (x1 : List UInt8) (s7 : Int) (s8 : Int) (q : Nat × Int) (h : l70_0 m (n + 1) x0 x1 s7 s8 = some q) : (turns (hds 70 387) 0 387 (evC byref (evCall F S16 (m + 24)) (m + 24) 0 (hds 70) lbl70_0) (n + 1) (l70_0H x0 x1 s7 s8) (l70_0B x0 x1 s7 s8)).run = some (l70_0E (x0) (x1) (s7) (q.2) q.1) := by
  rw [l70_0] at h
  refine ite_cases h (fun c0 h => ?_) (fun c0 h => ?_)
  · skip
    refine ite_cases h (fun c1 h => ?_) (fun c1 h => ?_)
    · skip
      refine ite_cases h (fun c2 h => ?_) (fun c2 h => ?_)
      · skip
        refine ite_cases h (fun c3 h => ?_) (fun c3 h => ?_)
        · skip
          cases h
          exact l70_0_w0 m n x0 x1 s7 s8 c0 c1 c2 c3
        · skip
          exact l70_0_w1 m n x0 x1 s7 s8 _ c0 c1 c2 c3 (ih _ _ _ _ q h)
      · skip
        cases h
    · skip
      cases h
  · skip
    cases h
    exact l70_0_w2 m n x0 x1 s7 s8 c0
set_option maxHeartbeats 20000000 in
theorem l70_0_ok (m : Nat) : ∀ (n : Nat) (x0 : List (List UInt8)) (x1 : List UInt8) (s7 : Int) (s8 : Int) (q : Nat × Int), l70_0 m n x0 x1 s7 s8 = some q → (turns (hds 70 387) 0 387 (evC byref (evCall F S16 (m + 24)) (m + 24) 0 (hds 70) lbl70_0) n (l70_0H x0 x1 s7 s8) (l70_0B x0 x1 s7 s8)).run = some (l70_0E (x0) (x1) (s7) (q.2) q.1)
  | 0, x0, x1, s7, s8, q, h => by cases h
  | n + 1, x0, x1, s7, s8, q, h => l70_0_step m n (l70_0_ok m n) x0 x1 s7 s8 q h

def p70 (m : Nat) (x0 : List (List UInt8)) (x1 : List UInt8) : Option (Int) :=
  if (Option.isSome (l70_0 m (m + 24) x0 x1 ((((List.length x0) : Nat) : Int)) 0)) = true then
    if ((l70_0R m (m + 24) x0 x1 ((((List.length x0) : Nat) : Int)) 0).1 == 0) = true then
      some ((l70_0R m (m + 24) x0 x1 ((((List.length x0) : Nat) : Int)) 0).2)
    else
      if ((l70_0R m (m + 24) x0 x1 ((((List.length x0) : Nat) : Int)) 0).1 == 1) = true then
        some ((-1))
      else
        none
  else
    none
set_option maxHeartbeats 20000000 in
theorem p70_ok (m : Nat) (x0 : List (List UInt8)) (x1 : List UInt8) (q : Int) (h : p70 m x0 x1 = some q) : ∃ r B1, (evCall F S16 (m + 25) 70 [(.d (.sl .str x0)), (.d (.str x1))] []).run = some (r, B1) ∧ 0 ≤ B1.length ∧ wkR B1 [] r (.d (.int .i64 q)) ∧ wkBs B1 [] 0 [] := by
  unfold p70 at h
  refine ite_cases h (fun c0 h => ?_) (fun c0 h => ?_)
  · skip
    refine ite_cases h (fun c1 h => ?_) (fun c1 h => ?_)
    · skip
      cases h
      refine ⟨(.d (.int .i64 (l70_0R m (m + 24) x0 x1 ((((List.length x0) : Nat) : Int)) 0).2)), [], runT_ok (LS := (fun k => if k = 387 then some (l70_0E x0 x1 (((((List.length x0) : Nat) : Int))) ((l70_0R m (m + 24) x0 x1 ((((List.length x0) : Nat) : Int)) 0).2) 0) else none)) (fn := fn70) (vis := [(387, l70_0H x0 x1 ((((List.length x0) : Nat) : Int)) 0, l70_0B x0 x1 ((((List.length x0) : Nat) : Int)) 0)]) (by kernel_rfl) rfl (by kernel_rfl) (M.run_of_path _ [] _ _ (by kernel_rfl) all_nil) ?_, by simp, (wkR.one (wkV.one (wk1.eq rfl))), trivial⟩
      intro p hp p2 hq
      rcases List.mem_cons.1 hp with rfl | hp
      · skip
        have h3 := l70_0_ok m (m + 24) x0 x1 ((((List.length x0) : Nat) : Int)) 0 _ (some_getD (d := l70_0D) c0)
        rw [eq_of_beq c1] at h3
        exact Eq.trans (Eq.mp (by kernel_rfl) h3) hq
      cases hp
    · skip
      refine ite_cases h (fun c2 h => ?_) (fun c2 h => ?_)
      · skip
        cases h
        refine ⟨(.d (.int .i64 (-1))), [], runT_ok (LS := (fun k => if k = 387 then some (l70_0E x0 x1 (((((List.length x0) : Nat) : Int))) ((l70_0R m (m + 24) x0 x1 ((((List.length x0) : Nat) : Int)) 0).2) 1) else none)) (fn := fn70) (vis := [(387, l70_0H x0 x1 ((((List.length x0) : Nat) : Int)) 0, l70_0B x0 x1 ((((List.length x0) : Nat) : Int)) 0)]) (by kernel_rfl) rfl (by kernel_rfl) (M.run_of_path _ [] _ _ (by kernel_rfl) all_nil) ?_, by simp, (wkR.one (wkV.one (wk1.eq rfl))), trivial⟩
        intro p hp p2 hq
        rcases List.mem_cons.1 hp with rfl | hp
        · skip
          have h3 := l70_0_ok m (m + 24) x0 x1 ((((List.length x0) : Nat) : Int)) 0 _ (some_getD (d := l70_0D) c0)
          rw [eq_of_beq c2] at h3
          exact Eq.trans (Eq.mp (by kernel_rfl) h3) hq
        cases hp
      · skip
        cases h
  · skip
    cases h

/-- The first place of a text, from a place on. -/
def idxFrom : List (List UInt8) → List UInt8 → Nat → Int
  | [], _, _ => -1
  | x :: l, v, k => if (x == v) = true then ((k : Nat) : Int) else idxFrom l v (k + 1)
def idxG (l : List (List UInt8)) (v : List UInt8) : Int := idxFrom l v 0
theorem idx_pos : ∀ (l : List (List UInt8)) (v : List UInt8) (k : Nat), decide (idxFrom l v k ≥ 0) = l.contains v
  | [], v, k => rfl
  | x :: l, v, k => by
    rw [idxFrom, List.contains_cons]
    by_cases h : (x == v) = true
    · rw [if_pos h]
      have : (v == x) = true := by rw [beq_iff_eq] at h ⊢; exact h.symm
      rw [this, Bool.true_or]
      exact decide_eq_true (by omega)
    · rw [if_neg h, idx_pos l v (k + 1)]
      have : (v == x) = false := by
        rw [beq_eq_false_iff_ne]
        intro e; exact h (by rw [beq_iff_eq]; exact e.symm)
      rw [this, Bool.false_or]
theorem idx_loop (m : Nat) (l : List (List UInt8)) (v : List UInt8) (hb : l.length ≤ 9223372036854775807) : ∀ (n k : Nat), k ≤ l.length → l.length - k < n → (∃ j : Nat, l70_0 m n l v (l.length : Nat) (k : Nat) = some (0, ((j : Nat) : Int)) ∧ idxFrom (l.drop k) v k = ((j : Nat) : Int)) ∨ (∃ j, l70_0 m n l v (l.length : Nat) (k : Nat) = some (1, j) ∧ idxFrom (l.drop k) v k = -1)
  | 0, k, _, h => by omega
  | n + 1, k, h1, h2 => by
    rw [l70_0]
    by_cases hk : k < l.length
    · have e1 : decide (((k : Nat) : Int) < (((List.length l) : Nat) : Int)) = true := decide_eq_true (by omega)
      have e2 : decide ((0 : Int) ≤ ((k : Nat) : Int)) = true := decide_eq_true (by omega)
      have e7 : IntKind.wrap .i64 (((k : Nat) : Int) + (1)) = ((k + 1 : Nat) : Int) := by rw [wrap_id (by omega) (by omega)]; rfl
      rw [drop_getD l k ([] : List UInt8) hk, show Int.toNat ((k : Nat) : Int) = k from rfl, e7, if_pos e1, if_pos e2, if_pos e1, idxFrom]
      by_cases hc : (v == l.getD k ([] : List UInt8)) = true
      · have hc' : (l.getD k ([] : List UInt8) == v) = true := by rw [beq_iff_eq] at hc ⊢; exact hc.symm
        rw [if_pos hc, if_pos hc']
        exact .inl ⟨k, rfl, rfl⟩
      · have hc' : ¬ (l.getD k ([] : List UInt8) == v) = true := by rw [beq_iff_eq] at hc ⊢; exact fun h => hc h.symm
        rw [if_neg hc, if_neg hc']
        exact idx_loop m l v hb n (k + 1) (by omega) (by omega)
    · have e1 : decide (((k : Nat) : Int) < (((List.length l) : Nat) : Int)) = false := decide_eq_false (by omega)
      rw [e1, if_neg (by simp), List.drop_eq_nil_of_le (by omega)]
      exact .inr ⟨_, rfl, rfl⟩
theorem idxS (l : List (List UInt8)) (v : List UInt8) (h : decide (List.length l ≤ 9223372036854775807) = true) : ∃ m, p70 m l v = some (idxG l v) := by
  have h := of_decide_eq_true h
  refine ⟨l.length, ?_⟩
  unfold p70 l70_0R idxG
  rcases idx_loop l.length l v h (l.length + 24) 0 (by omega) (by omega) with ⟨j, h1, h2⟩ | ⟨j, h1, h2⟩
  · simp only [Int.natCast_zero, List.drop_zero] at h1 h2
    rw [h1, h2]
    simp
  · simp only [Int.natCast_zero, List.drop_zero] at h1 h2
    rw [h1, h2]
    simp
def s70 : List AV → Boxes → M (AV × Boxes) := normS [.val (.sl .str), .val .str] [] fun xs B => match xs, B with
  | [(.d (.sl .str c1)), (.d (.str c2))], [] => .chk (decide (List.length c1 ≤ 9223372036854775807)) (.ret ((.d (.int .i64 (idxG c1 c2))), []))
  | _, _ => .fail
theorem s70_at : CallAt Tryd.prog 70 s70 := by
  refine CallAt.norm (CallAt.weakE (g := fun n => evCall F S16 n 70) (fun n => evCall_atH mixed kinds hds S16 S16_ok n 70) fun xs B r' B' hr => ?_) _ _
  split at hr
  · rename_i c1 c2
    obtain ⟨hp, hr⟩ := (M.run_chk _ _ _).1 hr
    simp only [M.run, Option.some.injEq, Prod.mk.injEq] at hr
    obtain ⟨rfl, rfl⟩ := hr
    obtain ⟨m, hm⟩ := idxS c1 c2 hp
    obtain ⟨r, B1, h1, h2, h3, h4⟩ := p70_ok m c1 c2 _ hm
    exact ⟨m + 25, r, B1, h1, by simp, h2, h3, h4⟩
  · simp [M.run] at hr
noncomputable def S17 : FuncId → Option (List AV → Boxes → M (AV × Boxes)) := fun f => if f = 70 then some s70 else S16 f
set_option maxHeartbeats 20000000 in
theorem S17_ok : ∀ f s, S17 f = some s → CallAt Tryd.prog f s := by
  intro f s h
  unfold S17 at h
  split at h
  · rename_i e; subst e; cases h; exact s70_at
  · exact S16_ok f s h

end Go.Proofs.YtcdpgldecikejaaDoor.Dec
namespace Go.Proofs.YtcdpgldecikejaaDoor.Dec
open Go.Ev
set_option linter.unusedVariables false
set_option linter.unusedSimpArgs false
set_option maxRecDepth 100000
noncomputable def fn20 : AFn := (F 20).getD ⟨0, [], .bad, false, false, noHd⟩
noncomputable def body20 : AC := fn20.body
def l20_0 (m : Nat) : Nat → List ((List UInt8) × (List UInt8)) → List (List UInt8) → Int → Int → List ((List UInt8) × (List UInt8)) → Option (Nat × Int × (List ((List UInt8) × (List UInt8))))
  | 0, _, _, _, _, _ => none
  | n + 1, x0, x1, s9, s10, b0 => if decide (s10 < s9) = true then
      if decide (0 ≤ s10) = true then
        if decide (s10 < (((List.length x0) : Nat) : Int)) = true then
          if decide (List.length x1 ≤ 9223372036854775807) = true then
            if decide ((idxG x1 (List.getD x0 (Int.toNat s10) (([] : List UInt8), ([] : List UInt8))).1) ≥ 0) = true then
              l20_0 m n x0 x1 s9 ((IntKind.wrap .i64 (s10 + (1)))) b0
            else
              if decide ((((List.length b0) + 1) * 32) ≤ 70368744177664) = true then
                l20_0 m n x0 x1 s9 ((IntKind.wrap .i64 (s10 + (1)))) ((b0 ++ [(List.getD x0 (Int.toNat s10) (([] : List UInt8), ([] : List UInt8)))]))
              else
                none
          else
            none
        else
          none
      else
        none
    else
      some (0, s10, b0)
def l20_0D : Nat × Int × (List ((List UInt8) × (List UInt8))) := (0, 0, [])
@[reducible] def l20_0R (m n : Nat) (x0 : List ((List UInt8) × (List UInt8))) (x1 : List (List UInt8)) (s9 : Int) (s10 : Int) (b0 : List ((List UInt8) × (List UInt8))) : Nat × Int × (List ((List UInt8) × (List UInt8))) := Option.getD (l20_0 m n x0 x1 s9 s10 b0) l20_0D
def l20_0H (x0 : List ((List UInt8) × (List UInt8))) (x1 : List (List UInt8)) (s9 : Int) (s10 : Int) (b0 : List ((List UInt8) × (List UInt8))) : Env := [.top, (.d (.sl .str x1)), .top, .top, .top, (.sr 0 0 (List.length b0) 2 none), .top, .top, (.d (.sl (.pair .str .str) x0)), (.d (.int .i64 s9)), (.d (.int .i64 s10)), .top, .top, .top, .top, .top, .top, .top, .top, .top, .top, .top, .top, .top, .top]
def l20_0B (x0 : List ((List UInt8) × (List UInt8))) (x1 : List (List UInt8)) (s9 : Int) (s10 : Int) (b0 : List ((List UInt8) × (List UInt8))) : Boxes := [(.arr (.pair .str .str) b0 true)]
def l20_0E (x0 : List ((List UInt8) × (List UInt8))) (x1 : List (List UInt8)) (s9 : Int) (s10 : Int) (b0 : List ((List UInt8) × (List UInt8))) : Nat → AEx × Env × Boxes
  | _ => (.exit 0, [.top, (.d (.sl .str x1)), .top, .top, .top, (.sr 0 0 (List.length b0) 2 none), .top, .top, (.d (.sl (.pair .str .str) x0)), (.d (.int .i64 s9)), (.d (.int .i64 s10)), (.d (.bool (decide (s10 < s9)))), .top, .top, .top, .top, .top, .top, .top, .top, .top, .top, .top, .top, .top], [(.arr (.pair .str .str) b0 true)])
noncomputable def lbl20_0 : AC := loopBody 1826 body20

set_option maxHeartbeats 20000000 in
theorem l20_0_w0 (m n : Nat) (x0 : List ((List UInt8) × (List UInt8))) (x1 : List (List UInt8)) (s9 : Int) (s10 : Int) (b0 : List ((List UInt8) × (List UInt8))) (r : AEx × Env × Boxes) (c0 : decide (s10 < s9) = true) (c1 : decide (0 ≤ s10) = true) (c2 : decide (s10 < (((List.length x0) : Nat) : Int)) = true) (c3 : decide (List.length x1 ≤ 9223372036854775807) = true) (c4 : decide ((idxG x1 (List.getD x0 (Int.toNat s10) (([] : List UInt8), ([] : List UInt8))).1) ≥ 0) = true) (ih : (turns (hds 20 1826) 0 1826 (evC byref (evCall F S17 (m + 24)) (m + 24) 0 (hds 20) lbl20_0) n (l20_0H x0 x1 s9 ((IntKind.wrap .i64 (s10 + (1)))) b0) (l20_0B x0 x1 s9 ((IntKind.wrap .i64 (s10 + (1)))) b0)).run = some r) : (turns (hds 20 1826) 0 1826 (evC byref (evCall F S17 (m + 24)) (m + 24) 0 (hds 20) lbl20_0) (n + 1) (l20_0H x0 x1 s9 s10 b0) (l20_0B x0 x1 s9 s10 b0)).run = some r := by
  exact turns_step (M.run_of_path _ [true, true, true, true, false] _ _ (by kernel_rfl) (all_t c0 (all_t c1 (all_t c2 (all_t c3 (all_nt c4 all_nil)))))) ih
set_option maxHeartbeats 20000000 in
theorem l20_0_w1 (m n : Nat) (x0 : List ((List UInt8) × (List UInt8))) (x1 : List (List UInt8)) (s9 : Int) (s10 : Int) (b0 : List ((List UInt8) × (List UInt8))) (r : AEx × Env × Boxes) (c0 : decide (s10 < s9) = true) (c1 : decide (0 ≤ s10) = true) (c2 : decide (s10 < (((List.length x0) : Nat) : Int)) = true) (c3 : decide (List.length x1 ≤ 9223372036854775807) = true) (c4 : ¬ decide ((idxG x1 (List.getD x0 (Int.toNat s10) (([] : List UInt8), ([] : List UInt8))).1) ≥ 0) = true) (c6 : decide ((((List.length b0) + 1) * 32) ≤ 70368744177664) = true) (ih : (turns (hds 20 1826) 0 1826 (evC byref (evCall F S17 (m + 24)) (m + 24) 0 (hds 20) lbl20_0) n (l20_0H x0 x1 s9 ((IntKind.wrap .i64 (s10 + (1)))) ((b0 ++ [(List.getD x0 (Int.toNat s10) (([] : List UInt8), ([] : List UInt8)))]))) (l20_0B x0 x1 s9 ((IntKind.wrap .i64 (s10 + (1)))) ((b0 ++ [(List.getD x0 (Int.toNat s10) (([] : List UInt8), ([] : List UInt8)))])))).run = some r) : (turns (hds 20 1826) 0 1826 (evC byref (evCall F S17 (m + 24)) (m + 24) 0 (hds 20) lbl20_0) (n + 1) (l20_0H x0 x1 s9 s10 b0) (l20_0B x0 x1 s9 s10 b0)).run = some r := by
  have ht : (turn (hds 20 1826) 0 1826 (evC byref (evCall F S17 (m + 24)) (m + 24) 0 (hds 20) lbl20_0) (l20_0H x0 x1 s9 s10 b0) (l20_0B x0 x1 s9 s10 b0)).run = some (.normal, [.top, (.d (.sl .str x1)), .top, .top, .top, (.sr 0 0 ((List.length b0) + 1) 2 none), .top, .top, (.d (.sl (.pair .str .str) x0)), (.d (.int .i64 s9)), (.d (.int .i64 (IntKind.wrap .i64 (s10 + (1))))), .top, .top, .top, .top, .top, .top, .top, .top, .top, .top, .top, .top, .top, .top], [(.arr (.pair .str .str) (b0 ++ [(List.getD x0 (Int.toNat s10) (([] : List UInt8), ([] : List UInt8)))]) true)]) := M.run_of_path _ [true, true, true, true, true, true, true, true] _ _ (by kernel_rfl) (all_t c0 (all_t c1 (all_t c2 (all_t c3 (all_nf c4 (all_t rfl (all_t c6 (all_t (show decide ((List.length b0) = (List.length b0)) = true from decide_eq_true rfl) all_nil))))))))
  refine turns_step ht (turns_eq ?_ ?_ ih)
  · unfold l20_0H
    first | (simp; done) | (simp [Nat.add_assoc]; done) | (simp; omega)
  · unfold l20_0B
    simp
set_option maxHeartbeats 20000000 in
theorem l20_0_w2 (m n : Nat) (x0 : List ((List UInt8) × (List UInt8))) (x1 : List (List UInt8)) (s9 : Int) (s10 : Int) (b0 : List ((List UInt8) × (List UInt8))) (c0 : ¬ decide (s10 < s9) = true) : (turns (hds 20 1826) 0 1826 (evC byref (evCall F S17 (m + 24)) (m + 24) 0 (hds 20) lbl20_0) (n + 1) (l20_0H x0 x1 s9 s10 b0) (l20_0B x0 x1 s9 s10 b0)).run = some (.exit 0, [.top, (.d (.sl .str x1)), .top, .top, .top, (.sr 0 0 (List.length b0) 2 none), .top, .top, (.d (.sl (.pair .str .str) x0)), (.d (.int .i64 s9)), (.d (.int .i64 s10)), (.d (.bool (decide (s10 < s9)))), .top, .top, .top, .top, .top, .top, .top, .top, .top, .top, .top, .top, .top], [(.arr (.pair .str .str) b0 true)]) := by
  exact turns_last (by simp) (M.run_of_path _ [false] _ _ (by kernel_rfl) (all_f c0 all_nil)) 

set_option maxHeartbeats 20000000 in
theorem l20_0_step (m n : Nat) (ih : ∀ (x0 : List ((List UInt8) × (List UInt8))) (x1 : List (List UInt8)) (s9 : Int) (s10 : Int) (b0 : List ((List UInt8) × (List UInt8))) (q : Nat × Int × (List ((List UInt8) × (List UInt8)))), l20_0 m n x0 x1 s9 s10 b0 = some q → (turns (hds 20 1826) 0 1826 (evC byref (evCall F S17 (m + 24)) (m + 24) 0 (hds 20) lbl20_0) n (l20_0H x0 x1 s9 s10 b0) (l20_0B x0 x1 s9 s10 b0)).run = some (l20_0E (x0) (x1) (s9) (q.2.1) (q.2.2) q.1)) (x0 : List ((List UInt8) × (List UInt8))) (x1 : List (List UInt8)) (s9 : Int) (s10 : Int) (b0 : List ((List UInt8) × (List UInt8))) (q : Nat × Int × (List ((List UInt8) × (List UInt8)))) (h : l20_0 m (n + 1) x0 x1 s9 s10 b0 = some q) : (turns (hds 20 1826) 0 1826 (evC byref (evCall F S17 (m + 24)) (m + 24) 0 (hds 20) lbl20_0) (n + 1) (l20_0H x0 x1 s9 s10 b0) (l20_0B x0 x1 s9 s10 b0)).run = some (l20_0E (x0) (x1) (s9) (q.2.1) (q.2.2) q.1) := by
  rw [l20_0] at h
  refine ite_cases h (fun c0 h => ?_) (fun c0 h => ?_)
  · skip
    refine ite_cases h (fun c1 h => ?_) (fun c1 h => ?_)
    · skip
      refine ite_cases h (fun c2 h => ?_) (fun c2 h => ?_)
      · skip
        refine ite_cases h (fun c3 h => ?_) (fun c3 h => ?_)
        · skip
          refine ite_cases h (fun c4 h => ?_) (fun c4 h => ?_)
          · skip
            exact l20_0_w0 m n x0 x1 s9 s10 b0 _ c0 c1 c2 c3 c4 (ih _ _ _ _ _ q h)
          · skip
            refine ite_cases h (fun c6 h => ?_) (fun c6 h => ?_)
            · skip
              exact l20_0_w1 m n x0 x1 s9 s10 b0 _ c0 c1 c2 c3 c4 c6 (ih _ _ _ _ _ q h)
            · skip
              cases h
        · skip
          cases h
      · skip
        cases h
    · skip
      cases h
  · skip
    cases h
    exact l20_0_w2 m n x0 x1 s9 s10 b0 c0
set_option maxHeartbeats 20000000 in
theorem l20_0_ok (m : Nat) : ∀ (n : Nat) (x0 : List ((List UInt8) × (List UInt8))) (x1 : List (List UInt8)) (s9 : Int) (s10 : Int) (b0 : List ((List UInt8) × (List UInt8))) (q : Nat × Int × (List ((List UInt8) × (List UInt8)))), l20_0 m n x0 x1 s9 s10 b0 = some q → (turns (hds 20 1826) 0 1826 (evC byref (evCall F S17 (m + 24)) (m + 24) 0 (hds 20) lbl20_0) n (l20_0H x0 x1 s9 s10 b0) (l20_0B x0 x1 s9 s10 b0)).run = some (l20_0E (x0) (x1) (s9) (q.2.1) (q.2.2) q.1)
  | 0, x0, x1, s9, s10, b0, q, h => by cases h
  | n + 1, x0, x1, s9, s10, b0, q, h => l20_0_step m n (l20_0_ok m n) x0 x1 s9 s10 b0 q h

def p20 (m : Nat) (x0 : List ((List UInt8) × (List UInt8))) (x1 : List (List UInt8)) : Option ((List ((List UInt8) × (List UInt8)))) :=
  if (Option.isSome (l20_0 m (m + 24) x0 x1 ((((List.length x0) : Nat) : Int)) 0 (([] : List ((List UInt8) × (List UInt8)))))) = true then
    some ((l20_0R m (m + 24) x0 x1 ((((List.length x0) : Nat) : Int)) 0 (([] : List ((List UInt8) × (List UInt8))))).2.2)
  else
    none
set_option maxHeartbeats 20000000 in
theorem p20_ok (m : Nat) (x0 : List ((List UInt8) × (List UInt8))) (x1 : List (List UInt8)) (q : (List ((List UInt8) × (List UInt8)))) (h : p20 m x0 x1 = some q) : ∃ r B1 r1 B2, (padM (.pair .str .str) 0 (evCall F S17 (m + 25) 20 [(.d (.sl (.pair .str .str) x0)), (.d (.sl .str x1))] [])).run = some (r, B1) ∧ 0 ≤ B2.length ∧ B2.length ≤ B1.length ∧ wkR B1 B2 r r1 ∧ wkBs B1 B2 0 B2 ∧ (compact 0 [r1] B2).run = some ([(.sr 0 0 (List.length q) 2 none)], [(.arr (.pair .str .str) q true)]) := by
  unfold p20 at h
  refine ite_cases h (fun c0 h => ?_) (fun c0 h => ?_)
  · skip
    cases h
    refine ⟨(.sr 0 0 (List.length (l20_0R m (m + 24) x0 x1 ((((List.length x0) : Nat) : Int)) 0 (([] : List ((List UInt8) × (List UInt8))))).2.2) 2 none), [(.arr (.pair .str .str) (l20_0R m (m + 24) x0 x1 ((((List.length x0) : Nat) : Int)) 0 (([] : List ((List UInt8) × (List UInt8))))).2.2 true)], (.sr 0 0 (List.length (l20_0R m (m + 24) x0 x1 ((((List.length x0) : Nat) : Int)) 0 (([] : List ((List UInt8) × (List UInt8))))).2.2) 2 none), [(.arr (.pair .str .str) (l20_0R m (m + 24) x0 x1 ((((List.length x0) : Nat) : Int)) 0 (([] : List ((List UInt8) × (List UInt8))))).2.2 true)], padM_run rfl (runT_ok (LS := (fun k => if k = 1826 then some (l20_0E x0 x1 (((((List.length x0) : Nat) : Int))) ((l20_0R m (m + 24) x0 x1 ((((List.length x0) : Nat) : Int)) 0 (([] : List ((List UInt8) × (List UInt8))))).2.1) ((l20_0R m (m + 24) x0 x1 ((((List.length x0) : Nat) : Int)) 0 (([] : List ((List UInt8) × (List UInt8))))).2.2) 0) else none)) (fn := fn20) (vis := [(1826, l20_0H x0 x1 ((((List.length x0) : Nat) : Int)) 0 (([] : List ((List UInt8) × (List UInt8)))), l20_0B x0 x1 ((((List.length x0) : Nat) : Int)) 0 (([] : List ((List UInt8) × (List UInt8)))))]) (r := (.sr 0 0 (List.length (l20_0R m (m + 24) x0 x1 ((((List.length x0) : Nat) : Int)) 0 (([] : List ((List UInt8) × (List UInt8))))).2.2) 2 none)) (B' := [(.arr (.pair .str .str) (l20_0R m (m + 24) x0 x1 ((((List.length x0) : Nat) : Int)) 0 (([] : List ((List UInt8) × (List UInt8))))).2.2 true)]) (by kernel_rfl) rfl (by kernel_rfl) (M.run_of_path _ [] _ _ (by kernel_rfl) all_nil) ?_) rfl, by simp, by simp, (wkR.one (wkV.one (wk1.live rfl))), ⟨wkBox.arr, trivial⟩, by kernel_rfl⟩
    intro p hp p2 hq
    rcases List.mem_cons.1 hp with rfl | hp
    · skip
      have h3 := l20_0_ok m (m + 24) x0 x1 ((((List.length x0) : Nat) : Int)) 0 (([] : List ((List UInt8) × (List UInt8)))) _ (some_getD (d := l20_0D) c0)
      exact Eq.trans (Eq.mp (by kernel_rfl) h3) hq
    cases hp
  · skip
    cases h

def keepPre (l : LB) (ns : List (List UInt8)) : Bool := decide (l.length ≤ 1000000 ∧ ns.length ≤ 9223372036854775807)
/-- All but the labels of names. -/
def dropG (l : LB) (ns : List (List UInt8)) : LB := l.filter fun x => !ns.contains x.1
theorem drop_loop (m : Nat) (l : LB) (ns : List (List UInt8)) (h1 : l.length ≤ 1000000) (hn : ns.length ≤ 9223372036854775807) : ∀ (n k : Nat) (b : LB), k ≤ l.length → l.length - k < n → b.length ≤ k → l20_0 m n l ns (l.length : Nat) (k : Nat) b = some (0, ((l.length : Nat) : Int), b ++ dropG (l.drop k) ns)
  | 0, k, _, _, h, _ => by omega
  | n + 1, k, b, g1, g2, g3 => by
    rw [l20_0]
    by_cases hk : k < l.length
    · have e1 : decide (((k : Nat) : Int) < (((List.length l) : Nat) : Int)) = true := decide_eq_true (by omega)
      have e2 : decide ((0 : Int) ≤ ((k : Nat) : Int)) = true := decide_eq_true (by omega)
      have e3 : decide (List.length ns ≤ 9223372036854775807) = true := decide_eq_true hn
      have e7 : IntKind.wrap .i64 (((k : Nat) : Int) + (1)) = ((k + 1 : Nat) : Int) := by rw [wrap_id (by omega) (by omega)]; rfl
      have go := fun b h => drop_loop m l ns h1 hn n (k + 1) b (by omega) (by omega) h
      rw [drop_getD l k (([] : List UInt8), ([] : List UInt8)) hk]
      simp only [show Int.toNat ((k : Nat) : Int) = k from rfl, e1, e2, e3, e7, ↓reduceIte]
      generalize l.getD k (([] : List UInt8), ([] : List UInt8)) = q at *
      have b1 : decide (((List.length b) + 1) * 32 ≤ 70368744177664) = true := decide_eq_true (by omega)
      have hp : decide (idxG ns q.1 ≥ 0) = ns.contains q.1 := idx_pos ns q.1 0
      have hc : dropG (q :: l.drop (k + 1)) ns = if (!ns.contains q.1) = true then q :: dropG (l.drop (k + 1)) ns else dropG (l.drop (k + 1)) ns := by
        unfold dropG; rw [List.filter_cons]
      rw [hc, hp]
      cases hq : ns.contains q.1 with
      | false =>
        simp only [b1, ↓reduceIte, Bool.not_false, Bool.false_eq_true]
        rw [go _ (by simp; omega)]
        simp
      | true =>
        simp only [↓reduceIte, Bool.not_true, Bool.false_eq_true]
        exact go b (by omega)
    · have e1 : decide (((k : Nat) : Int) < (((List.length l) : Nat) : Int)) = false := decide_eq_false (by omega)
      have e0 : k = l.length := by omega
      subst e0
      rw [e1, if_neg (by simp), List.drop_length]
      simp [dropG]
theorem drop20 (l : LB) (ns : List (List UInt8)) (h : keepPre l ns = true) : ∃ m, p20 m l ns = some (dropG l ns) := by
  have ⟨h1, h2⟩ := of_decide_eq_true h
  refine ⟨l.length, ?_⟩
  have hl := drop_loop l.length l ns h1 h2 (l.length + 24) 0 [] (by omega) (by omega) (by simp)
  simp only [Int.natCast_zero, List.drop_zero, List.nil_append] at hl
  unfold p20
  simp only [l20_0R, hl, Option.isSome_some, Option.getD_some, ↓reduceIte]
def s20 : List AV → Boxes → M (AV × Boxes) := normS [.val (.sl (.pair .str .str)), .val (.sl .str)] [] fun xs B => match xs, B with
  | [(.d (.sl (.pair .str .str) c1)), (.d (.sl .str c2))], [] => .chk (keepPre c1 c2) (.ret ((.sr 0 0 (List.length (dropG c1 c2)) 2 none), [(.arr (.pair .str .str) (dropG c1 c2) true)]))
  | _, _ => .fail
theorem s20_at : CallAt Tryd.prog 20 s20 := by
  refine CallAt.norm (CallAt.weakC (g := fun n xs B => padM (.pair .str .str) 0 (evCall F S17 n 20 xs B)) (fun n => CallAt.pad (.pair .str .str) 0 (evCall_atH mixed kinds hds S17 S17_ok n 20)) fun xs B r' B' hr => ?_) _ _
  split at hr
  · rename_i c1 c2
    obtain ⟨hp, hr⟩ := (M.run_chk _ _ _).1 hr
    simp only [M.run, Option.some.injEq, Prod.mk.injEq] at hr
    obtain ⟨rfl, rfl⟩ := hr
    obtain ⟨m, hm⟩ := drop20 c1 c2 hp
    obtain ⟨r, B1, r1, B2, h1, h2, h3, h4, h5, h6⟩ := p20_ok m c1 c2 _ hm
    exact ⟨m + 25, r, B1, r1, B2, h1, by simp, h2, h3, h4, h5, h6⟩
  · simp [M.run] at hr
noncomputable def S18 : FuncId → Option (List AV → Boxes → M (AV × Boxes)) := fun f => if f = 20 then some s20 else S17 f
set_option maxHeartbeats 20000000 in
theorem S18_ok : ∀ f s, S18 f = some s → CallAt Tryd.prog f s := by
  intro f s h
  unfold S18 at h
  split at h
  · rename_i e; subst e; cases h; exact s20_at
  · exact S17_ok f s h

noncomputable def fn21 : AFn := (F 21).getD ⟨0, [], .bad, false, false, noHd⟩
noncomputable def body21 : AC := fn21.body
def l21_0 (m : Nat) : Nat → List ((List UInt8) × (List UInt8)) → List (List UInt8) → Int → Int → List ((List UInt8) × (List UInt8)) → Option (Nat × Int × (List ((List UInt8) × (List UInt8))))
  | 0, _, _, _, _, _ => none
  | n + 1, x0, x1, s9, s10, b0 => if decide (s10 < s9) = true then
      if decide (0 ≤ s10) = true then
        if decide (s10 < (((List.length x0) : Nat) : Int)) = true then
          if decide (List.length x1 ≤ 9223372036854775807) = true then
            if decide ((idxG x1 (List.getD x0 (Int.toNat s10) (([] : List UInt8), ([] : List UInt8))).1) ≥ 0) = true then
              if decide ((((List.length b0) + 1) * 32) ≤ 70368744177664) = true then
                l21_0 m n x0 x1 s9 ((IntKind.wrap .i64 (s10 + (1)))) ((b0 ++ [(List.getD x0 (Int.toNat s10) (([] : List UInt8), ([] : List UInt8)))]))
              else
                none
            else
              l21_0 m n x0 x1 s9 ((IntKind.wrap .i64 (s10 + (1)))) b0
          else
            none
        else
          none
      else
        none
    else
      some (0, s10, b0)
def l21_0D : Nat × Int × (List ((List UInt8) × (List UInt8))) := (0, 0, [])
@[reducible] def l21_0R (m n : Nat) (x0 : List ((List UInt8) × (List UInt8))) (x1 : List (List UInt8)) (s9 : Int) (s10 : Int) (b0 : List ((List UInt8) × (List UInt8))) : Nat × Int × (List ((List UInt8) × (List UInt8))) := Option.getD (l21_0 m n x0 x1 s9 s10 b0) l21_0D
def l21_0H (x0 : List ((List UInt8) × (List UInt8))) (x1 : List (List UInt8)) (s9 : Int) (s10 : Int) (b0 : List ((List UInt8) × (List UInt8))) : Env := [.top, (.d (.sl .str x1)), .top, .top, .top, (.sr 0 0 (List.length b0) 2 none), .top, .top, (.d (.sl (.pair .str .str) x0)), (.d (.int .i64 s9)), (.d (.int .i64 s10)), .top, .top, .top, .top, .top, .top, .top, .top, .top, .top, .top, .top, .top]
def l21_0B (x0 : List ((List UInt8) × (List UInt8))) (x1 : List (List UInt8)) (s9 : Int) (s10 : Int) (b0 : List ((List UInt8) × (List UInt8))) : Boxes := [(.arr (.pair .str .str) b0 true)]
def l21_0E (x0 : List ((List UInt8) × (List UInt8))) (x1 : List (List UInt8)) (s9 : Int) (s10 : Int) (b0 : List ((List UInt8) × (List UInt8))) : Nat → AEx × Env × Boxes
  | _ => (.exit 0, [.top, (.d (.sl .str x1)), .top, .top, .top, (.sr 0 0 (List.length b0) 2 none), .top, .top, (.d (.sl (.pair .str .str) x0)), (.d (.int .i64 s9)), (.d (.int .i64 s10)), (.d (.bool (decide (s10 < s9)))), .top, .top, .top, .top, .top, .top, .top, .top, .top, .top, .top, .top], [(.arr (.pair .str .str) b0 true)])
noncomputable def lbl21_0 : AC := loopBody 1826 body21

set_option maxHeartbeats 20000000 in
theorem l21_0_w0 (m n : Nat) (x0 : List ((List UInt8) × (List UInt8))) (x1 : List (List UInt8)) (s9 : Int) (s10 : Int) (b0 : List ((List UInt8) × (List UInt8))) (r : AEx × Env × Boxes) (c0 : decide (s10 < s9) = true) (c1 : decide (0 ≤ s10) = true) (c2 : decide (s10 < (((List.length x0) : Nat) : Int)) = true) (c3 : decide (List.length x1 ≤ 9223372036854775807) = true) (c4 : decide ((idxG x1 (List.getD x0 (Int.toNat s10) (([] : List UInt8), ([] : List UInt8))).1) ≥ 0) = true) (c6 : decide ((((List.length b0) + 1) * 32) ≤ 70368744177664) = true) (ih : (turns (hds 21 1826) 0 1826 (evC byref (evCall F S18 (m + 24)) (m + 24) 0 (hds 21) lbl21_0) n (l21_0H x0 x1 s9 ((IntKind.wrap .i64 (s10 + (1)))) ((b0 ++ [(List.getD x0 (Int.toNat s10) (([] : List UInt8), ([] : List UInt8)))]))) (l21_0B x0 x1 s9 ((IntKind.wrap .i64 (s10 + (1)))) ((b0 ++ [(List.getD x0 (Int.toNat s10) (([] : List UInt8), ([] : List UInt8)))])))).run = some r) : (turns (hds 21 1826) 0 1826 (evC byref (evCall F S18 (m + 24)) (m + 24) 0 (hds 21) lbl21_0) (n + 1) (l21_0H x0 x1 s9 s10 b0) (l21_0B x0 x1 s9 s10 b0)).run = some r := by
  have ht : (turn (hds 21 1826) 0 1826 (evC byref (evCall F S18 (m + 24)) (m + 24) 0 (hds 21) lbl21_0) (l21_0H x0 x1 s9 s10 b0) (l21_0B x0 x1 s9 s10 b0)).run = some (.normal, [.top, (.d (.sl .str x1)), .top, .top, .top, (.sr 0 0 ((List.length b0) + 1) 2 none), .top, .top, (.d (.sl (.pair .str .str) x0)), (.d (.int .i64 s9)), (.d (.int .i64 (IntKind.wrap .i64 (s10 + (1))))), .top, .top, .top, .top, .top, .top, .top, .top, .top, .top, .top, .top, .top], [(.arr (.pair .str .str) (b0 ++ [(List.getD x0 (Int.toNat s10) (([] : List UInt8), ([] : List UInt8)))]) true)]) := M.run_of_path _ [true, true, true, true, true, true, true, true] _ _ (by kernel_rfl) (all_t c0 (all_t c1 (all_t c2 (all_t c3 (all_t c4 (all_t rfl (all_t c6 (all_t (show decide ((List.length b0) = (List.length b0)) = true from decide_eq_true rfl) all_nil))))))))
  refine turns_step ht (turns_eq ?_ ?_ ih)
  · unfold l21_0H
    first | (simp; done) | (simp [Nat.add_assoc]; done) | (simp; omega)
  · unfold l21_0B
    simp
set_option maxHeartbeats 20000000 in
theorem l21_0_w1 (m n : Nat) (x0 : List ((List UInt8) × (List UInt8))) (x1 : List (List UInt8)) (s9 : Int) (s10 : Int) (b0 : List ((List UInt8) × (List UInt8))) (r : AEx × Env × Boxes) (c0 : decide (s10 < s9) = true) (c1 : decide (0 ≤ s10) = true) (c2 : decide (s10 < (((List.length x0) : Nat) : Int)) = true) (c3 : decide (List.length x1 ≤ 9223372036854775807) = true) (c4 : ¬ decide ((idxG x1 (List.getD x0 (Int.toNat s10) (([] : List UInt8), ([] : List UInt8))).1) ≥ 0) = true) (ih : (turns (hds 21 1826) 0 1826 (evC byref (evCall F S18 (m + 24)) (m + 24) 0 (hds 21) lbl21_0) n (l21_0H x0 x1 s9 ((IntKind.wrap .i64 (s10 + (1)))) b0) (l21_0B x0 x1 s9 ((IntKind.wrap .i64 (s10 + (1)))) b0)).run = some r) : (turns (hds 21 1826) 0 1826 (evC byref (evCall F S18 (m + 24)) (m + 24) 0 (hds 21) lbl21_0) (n + 1) (l21_0H x0 x1 s9 s10 b0) (l21_0B x0 x1 s9 s10 b0)).run = some r := by
  exact turns_step (M.run_of_path _ [true, true, true, true, false] _ _ (by kernel_rfl) (all_t c0 (all_t c1 (all_t c2 (all_t c3 (all_f c4 all_nil)))))) ih
set_option maxHeartbeats 20000000 in
theorem l21_0_w2 (m n : Nat) (x0 : List ((List UInt8) × (List UInt8))) (x1 : List (List UInt8)) (s9 : Int) (s10 : Int) (b0 : List ((List UInt8) × (List UInt8))) (c0 : ¬ decide (s10 < s9) = true) : (turns (hds 21 1826) 0 1826 (evC byref (evCall F S18 (m + 24)) (m + 24) 0 (hds 21) lbl21_0) (n + 1) (l21_0H x0 x1 s9 s10 b0) (l21_0B x0 x1 s9 s10 b0)).run = some (.exit 0, [.top, (.d (.sl .str x1)), .top, .top, .top, (.sr 0 0 (List.length b0) 2 none), .top, .top, (.d (.sl (.pair .str .str) x0)), (.d (.int .i64 s9)), (.d (.int .i64 s10)), (.d (.bool (decide (s10 < s9)))), .top, .top, .top, .top, .top, .top, .top, .top, .top, .top, .top, .top], [(.arr (.pair .str .str) b0 true)]) := by
  exact turns_last (by simp) (M.run_of_path _ [false] _ _ (by kernel_rfl) (all_f c0 all_nil)) 

set_option maxHeartbeats 20000000 in
theorem l21_0_step (m n : Nat) (ih : ∀ (x0 : List ((List UInt8) × (List UInt8))) (x1 : List (List UInt8)) (s9 : Int) (s10 : Int) (b0 : List ((List UInt8) × (List UInt8))) (q : Nat × Int × (List ((List UInt8) × (List UInt8)))), l21_0 m n x0 x1 s9 s10 b0 = some q → (turns (hds 21 1826) 0 1826 (evC byref (evCall F S18 (m + 24)) (m + 24) 0 (hds 21) lbl21_0) n (l21_0H x0 x1 s9 s10 b0) (l21_0B x0 x1 s9 s10 b0)).run = some (l21_0E (x0) (x1) (s9) (q.2.1) (q.2.2) q.1)) (x0 : List ((List UInt8) × (List UInt8))) (x1 : List (List UInt8)) (s9 : Int) (s10 : Int) (b0 : List ((List UInt8) × (List UInt8))) (q : Nat × Int × (List ((List UInt8) × (List UInt8)))) (h : l21_0 m (n + 1) x0 x1 s9 s10 b0 = some q) : (turns (hds 21 1826) 0 1826 (evC byref (evCall F S18 (m + 24)) (m + 24) 0 (hds 21) lbl21_0) (n + 1) (l21_0H x0 x1 s9 s10 b0) (l21_0B x0 x1 s9 s10 b0)).run = some (l21_0E (x0) (x1) (s9) (q.2.1) (q.2.2) q.1) := by
  rw [l21_0] at h
  refine ite_cases h (fun c0 h => ?_) (fun c0 h => ?_)
  · skip
    refine ite_cases h (fun c1 h => ?_) (fun c1 h => ?_)
    · skip
      refine ite_cases h (fun c2 h => ?_) (fun c2 h => ?_)
      · skip
        refine ite_cases h (fun c3 h => ?_) (fun c3 h => ?_)
        · skip
          refine ite_cases h (fun c4 h => ?_) (fun c4 h => ?_)
          · skip
            refine ite_cases h (fun c6 h => ?_) (fun c6 h => ?_)
            · skip
              exact l21_0_w0 m n x0 x1 s9 s10 b0 _ c0 c1 c2 c3 c4 c6 (ih _ _ _ _ _ q h)
            · skip
              cases h
          · skip
            exact l21_0_w1 m n x0 x1 s9 s10 b0 _ c0 c1 c2 c3 c4 (ih _ _ _ _ _ q h)
        · skip
          cases h
      · skip
        cases h
    · skip
      cases h
  · skip
    cases h
    exact l21_0_w2 m n x0 x1 s9 s10 b0 c0
set_option maxHeartbeats 20000000 in
theorem l21_0_ok (m : Nat) : ∀ (n : Nat) (x0 : List ((List UInt8) × (List UInt8))) (x1 : List (List UInt8)) (s9 : Int) (s10 : Int) (b0 : List ((List UInt8) × (List UInt8))) (q : Nat × Int × (List ((List UInt8) × (List UInt8)))), l21_0 m n x0 x1 s9 s10 b0 = some q → (turns (hds 21 1826) 0 1826 (evC byref (evCall F S18 (m + 24)) (m + 24) 0 (hds 21) lbl21_0) n (l21_0H x0 x1 s9 s10 b0) (l21_0B x0 x1 s9 s10 b0)).run = some (l21_0E (x0) (x1) (s9) (q.2.1) (q.2.2) q.1)
  | 0, x0, x1, s9, s10, b0, q, h => by cases h
  | n + 1, x0, x1, s9, s10, b0, q, h => l21_0_step m n (l21_0_ok m n) x0 x1 s9 s10 b0 q h

def p21 (m : Nat) (x0 : List ((List UInt8) × (List UInt8))) (x1 : List (List UInt8)) : Option ((List ((List UInt8) × (List UInt8)))) :=
  if (Option.isSome (l21_0 m (m + 24) x0 x1 ((((List.length x0) : Nat) : Int)) 0 (([] : List ((List UInt8) × (List UInt8)))))) = true then
    some ((List.take (List.length (l21_0R m (m + 24) x0 x1 ((((List.length x0) : Nat) : Int)) 0 (([] : List ((List UInt8) × (List UInt8))))).2.2) (List.drop 0 (l21_0R m (m + 24) x0 x1 ((((List.length x0) : Nat) : Int)) 0 (([] : List ((List UInt8) × (List UInt8))))).2.2)))
  else
    none
set_option maxHeartbeats 20000000 in
theorem p21_ok (m : Nat) (x0 : List ((List UInt8) × (List UInt8))) (x1 : List (List UInt8)) (q : (List ((List UInt8) × (List UInt8)))) (h : p21 m x0 x1 = some q) : ∃ r B1, (evCall F S18 (m + 25) 21 [(.d (.sl (.pair .str .str) x0)), (.d (.sl .str x1))] []).run = some (r, B1) ∧ 0 ≤ B1.length ∧ wkR B1 [] r (.d (.sl (.pair .str .str) q)) ∧ wkBs B1 [] 0 [] := by
  unfold p21 at h
  refine ite_cases h (fun c0 h => ?_) (fun c0 h => ?_)
  · skip
    cases h
    refine ⟨(.d (.sl (.pair .str .str) (List.take (List.length (l21_0R m (m + 24) x0 x1 ((((List.length x0) : Nat) : Int)) 0 (([] : List ((List UInt8) × (List UInt8))))).2.2) (List.drop 0 (l21_0R m (m + 24) x0 x1 ((((List.length x0) : Nat) : Int)) 0 (([] : List ((List UInt8) × (List UInt8))))).2.2)))), [], runT_ok (LS := (fun k => if k = 1826 then some (l21_0E x0 x1 (((((List.length x0) : Nat) : Int))) ((l21_0R m (m + 24) x0 x1 ((((List.length x0) : Nat) : Int)) 0 (([] : List ((List UInt8) × (List UInt8))))).2.1) ((l21_0R m (m + 24) x0 x1 ((((List.length x0) : Nat) : Int)) 0 (([] : List ((List UInt8) × (List UInt8))))).2.2) 0) else none)) (fn := fn21) (vis := [(1826, l21_0H x0 x1 ((((List.length x0) : Nat) : Int)) 0 (([] : List ((List UInt8) × (List UInt8)))), l21_0B x0 x1 ((((List.length x0) : Nat) : Int)) 0 (([] : List ((List UInt8) × (List UInt8)))))]) (by kernel_rfl) rfl (by kernel_rfl) (M.run_of_path _ [true] _ _ (by kernel_rfl) (all_t (show decide ((0 + (List.length (l21_0R m (m + 24) x0 x1 ((((List.length x0) : Nat) : Int)) 0 (([] : List ((List UInt8) × (List UInt8))))).2.2)) ≤ (List.length (l21_0R m (m + 24) x0 x1 ((((List.length x0) : Nat) : Int)) 0 (([] : List ((List UInt8) × (List UInt8))))).2.2)) = true from decide_eq_true (Nat.le_of_eq (Nat.zero_add _))) all_nil)) ?_, by simp, (wkR.one (wkV.one (wk1.eq rfl))), trivial⟩
    intro p hp p2 hq
    rcases List.mem_cons.1 hp with rfl | hp
    · skip
      have h3 := l21_0_ok m (m + 24) x0 x1 ((((List.length x0) : Nat) : Int)) 0 (([] : List ((List UInt8) × (List UInt8)))) _ (some_getD (d := l21_0D) c0)
      exact Eq.trans (Eq.mp (by kernel_rfl) h3) hq
    cases hp
  · skip
    cases h

/-- The labels of names. -/
def keepG (l : LB) (ns : List (List UInt8)) : LB := l.filter fun x => ns.contains x.1
theorem keep_loop (m : Nat) (l : LB) (ns : List (List UInt8)) (h1 : l.length ≤ 1000000) (hn : ns.length ≤ 9223372036854775807) : ∀ (n k : Nat) (b : LB), k ≤ l.length → l.length - k < n → b.length ≤ k → l21_0 m n l ns (l.length : Nat) (k : Nat) b = some (0, ((l.length : Nat) : Int), b ++ keepG (l.drop k) ns)
  | 0, k, _, _, h, _ => by omega
  | n + 1, k, b, g1, g2, g3 => by
    rw [l21_0]
    by_cases hk : k < l.length
    · have e1 : decide (((k : Nat) : Int) < (((List.length l) : Nat) : Int)) = true := decide_eq_true (by omega)
      have e2 : decide ((0 : Int) ≤ ((k : Nat) : Int)) = true := decide_eq_true (by omega)
      have e3 : decide (List.length ns ≤ 9223372036854775807) = true := decide_eq_true hn
      have e7 : IntKind.wrap .i64 (((k : Nat) : Int) + (1)) = ((k + 1 : Nat) : Int) := by rw [wrap_id (by omega) (by omega)]; rfl
      have go := fun b h => keep_loop m l ns h1 hn n (k + 1) b (by omega) (by omega) h
      rw [drop_getD l k (([] : List UInt8), ([] : List UInt8)) hk]
      simp only [show Int.toNat ((k : Nat) : Int) = k from rfl, e1, e2, e3, e7, ↓reduceIte]
      generalize l.getD k (([] : List UInt8), ([] : List UInt8)) = q at *
      have b1 : decide (((List.length b) + 1) * 32 ≤ 70368744177664) = true := decide_eq_true (by omega)
      have hp : decide (idxG ns q.1 ≥ 0) = ns.contains q.1 := idx_pos ns q.1 0
      have hc : keepG (q :: l.drop (k + 1)) ns = if ns.contains q.1 = true then q :: keepG (l.drop (k + 1)) ns else keepG (l.drop (k + 1)) ns := by
        unfold keepG; rw [List.filter_cons]
      rw [hc, hp]
      cases hq : ns.contains q.1 with
      | true =>
        simp only [b1, ↓reduceIte]
        rw [go _ (by simp; omega)]
        simp
      | false =>
        simp only [↓reduceIte, Bool.false_eq_true]
        exact go b (by omega)
    · have e1 : decide (((k : Nat) : Int) < (((List.length l) : Nat) : Int)) = false := decide_eq_false (by omega)
      have e0 : k = l.length := by omega
      subst e0
      rw [e1, if_neg (by simp), List.drop_length]
      simp [keepG]
theorem keep21 (l : LB) (ns : List (List UInt8)) (h : keepPre l ns = true) : ∃ m, p21 m l ns = some (keepG l ns) := by
  have ⟨h1, h2⟩ := of_decide_eq_true h
  refine ⟨l.length, ?_⟩
  have hl := keep_loop l.length l ns h1 h2 (l.length + 24) 0 [] (by omega) (by omega) (by simp)
  simp only [Int.natCast_zero, List.drop_zero, List.nil_append] at hl
  unfold p21
  simp only [l21_0R, hl, Option.isSome_some, Option.getD_some, ↓reduceIte, List.drop_zero, List.take_length]
def s21 : List AV → Boxes → M (AV × Boxes) := normS [.val (.sl (.pair .str .str)), .val (.sl .str)] [] fun xs B => match xs, B with
  | [(.d (.sl (.pair .str .str) c1)), (.d (.sl .str c2))], [] => .chk (keepPre c1 c2) (.ret ((.d (.sl (.pair .str .str) (keepG c1 c2))), []))
  | _, _ => .fail
theorem s21_at : CallAt Tryd.prog 21 s21 := by
  refine CallAt.norm (CallAt.weakE (g := fun n => evCall F S18 n 21) (fun n => evCall_atH mixed kinds hds S18 S18_ok n 21) fun xs B r' B' hr => ?_) _ _
  split at hr
  · rename_i c1 c2
    obtain ⟨hp, hr⟩ := (M.run_chk _ _ _).1 hr
    simp only [M.run, Option.some.injEq, Prod.mk.injEq] at hr
    obtain ⟨rfl, rfl⟩ := hr
    obtain ⟨m, hm⟩ := keep21 c1 c2 hp
    obtain ⟨r, B1, h1, h2, h3, h4⟩ := p21_ok m c1 c2 _ hm
    exact ⟨m + 25, r, B1, h1, by simp, h2, h3, h4⟩
  · simp [M.run] at hr
noncomputable def S19 : FuncId → Option (List AV → Boxes → M (AV × Boxes)) := fun f => if f = 21 then some s21 else S18 f
set_option maxHeartbeats 20000000 in
theorem S19_ok : ∀ f s, S19 f = some s → CallAt Tryd.prog f s := by
  intro f s h
  unfold S19 at h
  split at h
  · rename_i e; subst e; cases h; exact s21_at
  · exact S18_ok f s h

end Go.Proofs.YtcdpgldecikejaaDoor.Dec
namespace Go.Proofs.YtcdpgldecikejaaDoor.Dec
open Go.Ev
set_option linter.unusedVariables false
set_option linter.unusedSimpArgs false
set_option maxRecDepth 100000
noncomputable def fn46 : AFn := (F 46).getD ⟨0, [], .bad, false, false, noHd⟩
noncomputable def body46 : AC := fn46.body
def l46_0 (m : Nat) : Nat → List ((List UInt8) × (List UInt8)) → List UInt8 → Int → Int → Option (Nat × Int)
  | 0, _, _, _, _ => none
  | n + 1, x0, x1c0, s7, s8 => if decide (s8 < s7) = true then
      if decide (0 ≤ s8) = true then
        if decide (s8 < (((List.length x0) : Nat) : Int)) = true then
          if (Op.bytesLess (List.getD x0 (Int.toNat s8) (([] : List UInt8), ([] : List UInt8))).1 x1c0 || (List.getD x0 (Int.toNat s8) (([] : List UInt8), ([] : List UInt8))).1 == x1c0) = true then
            l46_0 m n x0 x1c0 s7 ((IntKind.wrap .i64 (s8 + (1))))
          else
            some (0, s8)
        else
          none
      else
        none
    else
      some (1, s8)
def l46_0D : Nat × Int := (0, 0)
@[reducible] def l46_0R (m n : Nat) (x0 : List ((List UInt8) × (List UInt8))) (x1c0 : List UInt8) (s7 : Int) (s8 : Int) : Nat × Int := Option.getD (l46_0 m n x0 x1c0 s7 s8) l46_0D
def l46_0H (x0 : List ((List UInt8) × (List UInt8))) (x1c0 : List UInt8) (s7 : Int) (s8 : Int) : Env := [(.d (.sl (.pair .str .str) x0)), (.fn 47 [(.ptr 0 0)]), .top, .top, .top, .top, .top, (.d (.int .i64 s7)), (.d (.int .i64 s8)), .top, .top, .top, .top, .top, .top, .top, .top, .top, .top]
def l46_0B (x0 : List ((List UInt8) × (List UInt8))) (x1c0 : List UInt8) (s7 : Int) (s8 : Int) : Boxes := [(.cells [(.d (.str x1c0))])]
def l46_0E (x0 : List ((List UInt8) × (List UInt8))) (x1c0 : List UInt8) (s7 : Int) (s8 : Int) : Nat → AEx × Env × Boxes
  | 0 => (.ret, [(.d (.sl (.pair .str .str) x0)), (.fn 47 [(.ptr 0 0)]), .top, .top, (.d (.int .i64 s8)), (.d (.int .i64 s8)), .top, (.d (.int .i64 s7)), (.d (.int .i64 s8)), (.d (.bool (decide (s8 < s7)))), (.d (.int .i64 s8)), (.fn 47 [(.ptr 0 0)]), (.d (.sl (.pair .str .str) x0)), (.d (.int .i64 s8)), (.cptr [(.str (List.getD x0 (Int.toNat s8) (([] : List UInt8), ([] : List UInt8))).1), (.str (List.getD x0 (Int.toNat s8) (([] : List UInt8), ([] : List UInt8))).2)] 0), (.agg [(.d (.str (List.getD x0 (Int.toNat s8) (([] : List UInt8), ([] : List UInt8))).1)), (.d (.str (List.getD x0 (Int.toNat s8) (([] : List UInt8), ([] : List UInt8))).2))]), (.d (.bool (!(Op.bytesLess (List.getD x0 (Int.toNat s8) (([] : List UInt8), ([] : List UInt8))).1 x1c0 || (List.getD x0 (Int.toNat s8) (([] : List UInt8), ([] : List UInt8))).1 == x1c0)))), (.d (.int .i64 s8)), .top], [(.cells [(.d (.str x1c0))])])
  | _ => (.exit 0, [(.d (.sl (.pair .str .str) x0)), (.fn 47 [(.ptr 0 0)]), .top, .top, .top, .top, .top, (.d (.int .i64 s7)), (.d (.int .i64 s8)), (.d (.bool (decide (s8 < s7)))), .top, .top, .top, .top, .top, .top, .top, .top, .top], [(.cells [(.d (.str x1c0))])])
noncomputable def lbl46_0 : AC := loopBody 387 body46

set_option maxHeartbeats 20000000 in
theorem l46_0_w0 (m n : Nat) (x0 : List ((List UInt8) × (List UInt8))) (x1c0 : List UInt8) (s7 : Int) (s8 : Int) (r : AEx × Env × Boxes) (c0 : decide (s8 < s7) = true) (c1 : decide (0 ≤ s8) = true) (c2 : decide (s8 < (((List.length x0) : Nat) : Int)) = true) (c3 : (Op.bytesLess (List.getD x0 (Int.toNat s8) (([] : List UInt8), ([] : List UInt8))).1 x1c0 || (List.getD x0 (Int.toNat s8) (([] : List UInt8), ([] : List UInt8))).1 == x1c0) = true) (ih : (turns (hds 46 387) 1 387 (evC byref (evCall F S19 (m + 24)) (m + 24) 1 (hds 46) lbl46_0) n (l46_0H x0 x1c0 s7 ((IntKind.wrap .i64 (s8 + (1))))) (l46_0B x0 x1c0 s7 ((IntKind.wrap .i64 (s8 + (1)))))).run = some r) : (turns (hds 46 387) 1 387 (evC byref (evCall F S19 (m + 24)) (m + 24) 1 (hds 46) lbl46_0) (n + 1) (l46_0H x0 x1c0 s7 s8) (l46_0B x0 x1c0 s7 s8)).run = some r := by
  exact turns_step (M.run_of_path _ [true, true, true, false] _ _ (by kernel_rfl) (all_t c0 (all_t c1 (all_t c2 (all_nt c3 all_nil))))) ih
set_option maxHeartbeats 20000000 in
theorem l46_0_w1 (m n : Nat) (x0 : List ((List UInt8) × (List UInt8))) (x1c0 : List UInt8) (s7 : Int) (s8 : Int) (c0 : decide (s8 < s7) = true) (c1 : decide (0 ≤ s8) = true) (c2 : decide (s8 < (((List.length x0) : Nat) : Int)) = true) (c3 : ¬ (Op.bytesLess (List.getD x0 (Int.toNat s8) (([] : List UInt8), ([] : List UInt8))).1 x1c0 || (List.getD x0 (Int.toNat s8) (([] : List UInt8), ([] : List UInt8))).1 == x1c0) = true) : (turns (hds 46 387) 1 387 (evC byref (evCall F S19 (m + 24)) (m + 24) 1 (hds 46) lbl46_0) (n + 1) (l46_0H x0 x1c0 s7 s8) (l46_0B x0 x1c0 s7 s8)).run = some (.ret, [(.d (.sl (.pair .str .str) x0)), (.fn 47 [(.ptr 0 0)]), .top, .top, (.d (.int .i64 s8)), (.d (.int .i64 s8)), .top, (.d (.int .i64 s7)), (.d (.int .i64 s8)), (.d (.bool (decide (s8 < s7)))), (.d (.int .i64 s8)), (.fn 47 [(.ptr 0 0)]), (.d (.sl (.pair .str .str) x0)), (.d (.int .i64 s8)), (.cptr [(.str (List.getD x0 (Int.toNat s8) (([] : List UInt8), ([] : List UInt8))).1), (.str (List.getD x0 (Int.toNat s8) (([] : List UInt8), ([] : List UInt8))).2)] 0), (.agg [(.d (.str (List.getD x0 (Int.toNat s8) (([] : List UInt8), ([] : List UInt8))).1)), (.d (.str (List.getD x0 (Int.toNat s8) (([] : List UInt8), ([] : List UInt8))).2))]), (.d (.bool (!(Op.bytesLess (List.getD x0 (Int.toNat s8) (([] : List UInt8), ([] : List UInt8))).1 x1c0 || (List.getD x0 (Int.toNat s8) (([] : List UInt8), ([] : List UInt8))).1 == x1c0)))), (.d (.int .i64 s8)), .top], [(.cells [(.d (.str x1c0))])]) := by
  exact turns_last (by simp) (M.run_of_path _ [true, true, true, true] _ _ (by kernel_rfl) (all_t c0 (all_t c1 (all_t c2 (all_nf c3 all_nil))))) 
set_option maxHeartbeats 20000000 in
theorem l46_0_w2 (m n : Nat) (x0 : List ((List UInt8) × (List UInt8))) (x1c0 : List UInt8) (s7 : Int) (s8 : Int) (c0 : ¬ decide (s8 < s7) = true) : (turns (hds 46 387) 1 387 (evC byref (evCall F S19 (m + 24)) (m + 24) 1 (hds 46) lbl46_0) (n + 1) (l46_0H x0 x1c0 s7 s8) (l46_0B x0 x1c0 s7 s8)).run = some (.exit 0, [(.d (.sl (.pair .str .str) x0)), (.fn 47 [(.ptr 0 0)]), .top, .top, .top, .top, .top, (.d (.int .i64 s7)), (.d (.int .i64 s8)), (.d (.bool (decide (s8 < s7)))), .top, .top, .top, .top, .top, .top, .top, .top, .top], [(.cells [(.d (.str x1c0))])]) := by
  exact turns_last (by simp) (M.run_of_path _ [false] _ _ (by kernel_rfl) (all_f c0 all_nil)) 

set_option maxHeartbeats 20000000 in
theorem l46_0_step (m n : Nat) (ih : ∀ (x0 : List ((List UInt8) × (List UInt8))) (x1c0 : List UInt8) (s7 : Int) (s8 : Int) (q : Nat × Int), l46_0 m n x0 x1c0 s7 s8 = some q → (turns (hds 46 387) 1 387 (evC byref (evCall F S19 (m + 24)) (m + 24) 1 (hds 46) lbl46_0) n (l46_0H x0 x1c0 s7 s8) (l46_0B x0 x1c0 s7 s8)).run = some (l46_0E (x0) (x1c0) (s7) (q.2) q.1)) (x0 : List ((List UInt8) × (List UInt8))) (x1c0 : List UInt8) (s7 : Int) (s8 : Int) (q : Nat × Int) (h : l46_0 m (n + 1) x0 x1c0 s7 s8 = some q) : (turns (hds 46 387) 1 387 (evC byref (evCall F S19 (m + 24)) (m + 24) 1 (hds 46) lbl46_0) (n + 1) (l46_0H x0 x1c0 s7 s8) (l46_0B x0 x1c0 s7 s8)).run = some (l46_0E (x0) (x1c0) (s7) (q.2) q.1) := by
  rw [l46_0] at h
  refine ite_cases h (fun c0 h => ?_) (fun c0 h => ?_)
  · skip
    refine ite_cases h (fun c1 h => ?_) (fun c1 h => ?_)
    · skip
      refine ite_cases h (fun c2 h => ?_) (fun c2 h => ?_)
      · skip
        refine ite_cases h (fun c3 h => ?_) (fun c3 h => ?_)
        · skip
          exact l46_0_w0 m n x0 x1c0 s7 s8 _ c0 c1 c2 c3 (ih _ _ _ _ q h)
        · skip
          cases h
          exact l46_0_w1 m n x0 x1c0 s7 s8 c0 c1 c2 c3
      · skip
        cases h
    · skip
      cases h
  · skip
    cases h
    exact l46_0_w2 m n x0 x1c0 s7 s8 c0
set_option maxHeartbeats 20000000 in
theorem l46_0_ok (m : Nat) : ∀ (n : Nat) (x0 : List ((List UInt8) × (List UInt8))) (x1c0 : List UInt8) (s7 : Int) (s8 : Int) (q : Nat × Int), l46_0 m n x0 x1c0 s7 s8 = some q → (turns (hds 46 387) 1 387 (evC byref (evCall F S19 (m + 24)) (m + 24) 1 (hds 46) lbl46_0) n (l46_0H x0 x1c0 s7 s8) (l46_0B x0 x1c0 s7 s8)).run = some (l46_0E (x0) (x1c0) (s7) (q.2) q.1)
  | 0, x0, x1c0, s7, s8, q, h => by cases h
  | n + 1, x0, x1c0, s7, s8, q, h => l46_0_step m n (l46_0_ok m n) x0 x1c0 s7 s8 q h

def p46 (m : Nat) (x0 : List ((List UInt8) × (List UInt8))) (x1c0 : List UInt8) : Option (Int × (List UInt8)) :=
  if (Option.isSome (l46_0 m (m + 24) x0 x1c0 ((((List.length x0) : Nat) : Int)) 0)) = true then
    if ((l46_0R m (m + 24) x0 x1c0 ((((List.length x0) : Nat) : Int)) 0).1 == 0) = true then
      some ((l46_0R m (m + 24) x0 x1c0 ((((List.length x0) : Nat) : Int)) 0).2, x1c0)
    else
      if ((l46_0R m (m + 24) x0 x1c0 ((((List.length x0) : Nat) : Int)) 0).1 == 1) = true then
        some ((-1), x1c0)
      else
        none
  else
    none
set_option maxHeartbeats 20000000 in
theorem p46_ok (m : Nat) (x0 : List ((List UInt8) × (List UInt8))) (x1c0 : List UInt8) (q : Int × (List UInt8)) (h : p46 m x0 x1c0 = some q) : ∃ r B1, (evCall F S19 (m + 25) 46 [(.d (.sl (.pair .str .str) x0)), (.fn 47 [(.ptr 0 0)])] [(.cells [(.d (.str x1c0))])]).run = some (r, B1) ∧ 1 ≤ B1.length ∧ wkR B1 [(.cells [(.d (.str q.2))])] r (.d (.int .i64 q.1)) ∧ wkBs B1 [(.cells [(.d (.str q.2))])] 0 [(.cells [(.d (.str q.2))])] := by
  unfold p46 at h
  refine ite_cases h (fun c0 h => ?_) (fun c0 h => ?_)
  · skip
    refine ite_cases h (fun c1 h => ?_) (fun c1 h => ?_)
    · skip
      cases h
      refine ⟨(.d (.int .i64 (l46_0R m (m + 24) x0 x1c0 ((((List.length x0) : Nat) : Int)) 0).2)), [(.cells [(.d (.str x1c0))])], runT_ok (LS := (fun k => if k = 387 then some (l46_0E x0 x1c0 (((((List.length x0) : Nat) : Int))) ((l46_0R m (m + 24) x0 x1c0 ((((List.length x0) : Nat) : Int)) 0).2) 0) else none)) (fn := fn46) (vis := [(387, l46_0H x0 x1c0 ((((List.length x0) : Nat) : Int)) 0, l46_0B x0 x1c0 ((((List.length x0) : Nat) : Int)) 0)]) (by kernel_rfl) rfl (by kernel_rfl) (M.run_of_path _ [] _ _ (by kernel_rfl) all_nil) ?_, by simp, (wkR.one (wkV.one (wk1.eq rfl))), ⟨wkBox.cells (wkL.cons (wk1.eq rfl) wkL.nil), trivial⟩⟩
      intro p hp p2 hq
      rcases List.mem_cons.1 hp with rfl | hp
      · skip
        have h3 := l46_0_ok m (m + 24) x0 x1c0 ((((List.length x0) : Nat) : Int)) 0 _ (some_getD (d := l46_0D) c0)
        rw [eq_of_beq c1] at h3
        exact Eq.trans (Eq.mp (by kernel_rfl) h3) hq
      cases hp
    · skip
      refine ite_cases h (fun c2 h => ?_) (fun c2 h => ?_)
      · skip
        cases h
        refine ⟨(.d (.int .i64 (-1))), [(.cells [(.d (.str x1c0))])], runT_ok (LS := (fun k => if k = 387 then some (l46_0E x0 x1c0 (((((List.length x0) : Nat) : Int))) ((l46_0R m (m + 24) x0 x1c0 ((((List.length x0) : Nat) : Int)) 0).2) 1) else none)) (fn := fn46) (vis := [(387, l46_0H x0 x1c0 ((((List.length x0) : Nat) : Int)) 0, l46_0B x0 x1c0 ((((List.length x0) : Nat) : Int)) 0)]) (by kernel_rfl) rfl (by kernel_rfl) (M.run_of_path _ [] _ _ (by kernel_rfl) all_nil) ?_, by simp, (wkR.one (wkV.one (wk1.eq rfl))), ⟨wkBox.cells (wkL.cons (wk1.eq rfl) wkL.nil), trivial⟩⟩
        intro p hp p2 hq
        rcases List.mem_cons.1 hp with rfl | hp
        · skip
          have h3 := l46_0_ok m (m + 24) x0 x1c0 ((((List.length x0) : Nat) : Int)) 0 _ (some_getD (d := l46_0D) c0)
          rw [eq_of_beq c2] at h3
          exact Eq.trans (Eq.mp (by kernel_rfl) h3) hq
        cases hp
      · skip
        cases h
  · skip
    cases h

/-- The first label behind a name. -/
def behFrom : LB → List UInt8 → Nat → Int
  | [], _, _ => -1
  | x :: l, v, k => if (Op.bytesLess x.1 v || x.1 == v) = true then behFrom l v (k + 1) else ((k : Nat) : Int)
def behG (l : LB) (v : List UInt8) : Int := behFrom l v 0
theorem beh_loop (m : Nat) (l : LB) (v : List UInt8) (hb : l.length ≤ 1000000) : ∀ (n k : Nat), k ≤ l.length → l.length - k < n → (∃ j : Nat, l46_0 m n l v (l.length : Nat) (k : Nat) = some (0, ((j : Nat) : Int)) ∧ behFrom (l.drop k) v k = ((j : Nat) : Int)) ∨ (∃ j, l46_0 m n l v (l.length : Nat) (k : Nat) = some (1, j) ∧ behFrom (l.drop k) v k = -1)
  | 0, k, _, h => by omega
  | n + 1, k, h1, h2 => by
    rw [l46_0]
    by_cases hk : k < l.length
    · have e1 : decide (((k : Nat) : Int) < (((List.length l) : Nat) : Int)) = true := decide_eq_true (by omega)
      have e2 : decide ((0 : Int) ≤ ((k : Nat) : Int)) = true := decide_eq_true (by omega)
      have e7 : IntKind.wrap .i64 (((k : Nat) : Int) + (1)) = ((k + 1 : Nat) : Int) := by rw [wrap_id (by omega) (by omega)]; rfl
      rw [drop_getD l k (([] : List UInt8), ([] : List UInt8)) hk, show Int.toNat ((k : Nat) : Int) = k from rfl, e7, if_pos e1, if_pos e2, if_pos e1, behFrom]
      by_cases hc : (Op.bytesLess (l.getD k (([] : List UInt8), ([] : List UInt8))).1 v || (l.getD k (([] : List UInt8), ([] : List UInt8))).1 == v) = true
      · rw [if_pos hc, if_pos hc]
        exact beh_loop m l v hb n (k + 1) (by omega) (by omega)
      · rw [if_neg hc, if_neg hc]
        exact .inl ⟨k, rfl, rfl⟩
    · have e1 : decide (((k : Nat) : Int) < (((List.length l) : Nat) : Int)) = false := decide_eq_false (by omega)
      rw [e1, if_neg (by simp), List.drop_eq_nil_of_le (by omega)]
      exact .inr ⟨_, rfl, rfl⟩
theorem beh46 (l : LB) (v : List UInt8) (h : decide (List.length l ≤ 1000000) = true) : ∃ m, p46 m l v = some (behG l v, v) := by
  have h := of_decide_eq_true h
  refine ⟨l.length, ?_⟩
  unfold p46 l46_0R behG
  rcases beh_loop l.length l v h (l.length + 24) 0 (by omega) (by omega) with ⟨j, h1, h2⟩ | ⟨j, h1, h2⟩
  · simp only [Int.natCast_zero, List.drop_zero] at h1 h2
    rw [h1, h2]
    simp
  · simp only [Int.natCast_zero, List.drop_zero] at h1 h2
    rw [h1, h2]
    simp
def s46 : List AV → Boxes → M (AV × Boxes) := normS [.val (.sl (.pair .str .str)), .ptr] [.str] fun xs B => match xs, B with
  | [(.d (.sl (.pair .str .str) c1)), (.fn 47 [(.ptr 0 0)])], [(.cells [(.d (.str c2))])] => .chk (decide (List.length c1 ≤ 1000000)) (.ret ((.d (.int .i64 (behG c1 c2))), [(.cells [(.d (.str c2))])]))
  | _, _ => .fail
theorem s46_at : CallAt Tryd.prog 46 s46 := by
  refine CallAt.norm (CallAt.weakE (g := fun n => evCall F S19 n 46) (fun n => evCall_atH mixed kinds hds S19 S19_ok n 46) fun xs B r' B' hr => ?_) _ _
  split at hr
  · rename_i c1 c2
    obtain ⟨hp, hr⟩ := (M.run_chk _ _ _).1 hr
    simp only [M.run, Option.some.injEq, Prod.mk.injEq] at hr
    obtain ⟨rfl, rfl⟩ := hr
    obtain ⟨m, hm⟩ := beh46 c1 c2 hp
    obtain ⟨r, B1, h1, h2, h3, h4⟩ := p46_ok m c1 c2 _ hm
    exact ⟨m + 25, r, B1, h1, by simp, h2, h3, h4⟩
  · simp [M.run] at hr
noncomputable def S20 : FuncId → Option (List AV → Boxes → M (AV × Boxes)) := fun f => if f = 46 then some s46 else S19 f
set_option maxHeartbeats 20000000 in
theorem S20_ok : ∀ f s, S20 f = some s → CallAt Tryd.prog f s := by
  intro f s h
  unfold S20 at h
  split at h
  · rename_i e; subst e; cases h; exact s46_at
  · exact S19_ok f s h

noncomputable def fn19 : AFn := (F 19).getD ⟨0, [], .bad, false, false, noHd⟩
noncomputable def body19 : AC := fn19.body
def p19 (m : Nat) (x0 : List ((List UInt8) × (List UInt8))) (x1 : List UInt8) (x2 : List UInt8) : Option ((List ((List UInt8) × (List UInt8)))) :=
  if keepPre x0 [x1] = true then
    if (x2 == ([] : List UInt8)) = true then
      some ((List.take (List.length (dropG x0 [x1])) (List.drop 0 (dropG x0 [x1]))))
    else
      if decide (List.length (List.take (List.length (dropG x0 [x1])) (List.drop 0 (dropG x0 [x1]))) ≤ 1000000) = true then
        if decide ((behG (List.take (List.length (dropG x0 [x1])) (List.drop 0 (dropG x0 [x1]))) x1) < 0) = true then
          if decide ((((List.length (dropG x0 [x1])) : Nat) : Int) < (((List.length (dropG x0 [x1])) : Nat) : Int)) = true then
            if ((decide (0 ≤ (((List.length (dropG x0 [x1])) : Nat) : Int)) && decide ((List.length (dropG x0 [x1])) = (List.length (dropG x0 [x1])))) && decide ((((List.length (dropG x0 [x1])) + 1) * 32) ≤ 70368744177664)) = true then
              if decide ((0 + ((List.length (dropG x0 [x1])) + 1)) ≤ (List.length ((List.take (Int.toNat (((List.length (dropG x0 [x1])) : Nat) : Int)) (dropG x0 [x1])) ++ ((x1, x2) :: (List.drop (Int.toNat (((List.length (dropG x0 [x1])) : Nat) : Int)) (dropG x0 [x1])))))) = true then
                some ((List.take ((List.length (dropG x0 [x1])) + 1) (List.drop 0 ((List.take (Int.toNat (((List.length (dropG x0 [x1])) : Nat) : Int)) (dropG x0 [x1])) ++ ((x1, x2) :: (List.drop (Int.toNat (((List.length (dropG x0 [x1])) : Nat) : Int)) (dropG x0 [x1])))))))
              else
                none
            else
              none
          else
            if (decide (0 ≤ (((List.length (dropG x0 [x1])) : Nat) : Int)) && decide ((((List.length (dropG x0 [x1])) : Nat) : Int) ≤ (((List.length (dropG x0 [x1])) : Nat) : Int))) = true then
              if (decide ((Int.toNat (((List.length (dropG x0 [x1])) : Nat) : Int)) < (List.length (dropG x0 [x1]))) || decide ((Int.toNat (((List.length (dropG x0 [x1])) : Nat) : Int)) = 0)) = true then
                if ((((List.length (dropG x0 [x1])) : Nat) : Int) == (((List.length (dropG x0 [x1])) : Nat) : Int)) = true then
                  if decide ((((List.length (dropG x0 [x1])) + 1) * 32) ≤ 70368744177664) = true then
                    if decide ((0 + ((List.length (dropG x0 [x1])) + 1)) ≤ (List.length ((dropG x0 [x1]) ++ [(x1, x2)]))) = true then
                      some ((List.take ((List.length (dropG x0 [x1])) + 1) (List.drop 0 ((dropG x0 [x1]) ++ [(x1, x2)]))))
                    else
                      none
                  else
                    none
                else
                  none
              else
                if ((((List.length (dropG x0 [x1])) : Nat) : Int) == (((List.length (dropG x0 [x1])) : Nat) : Int)) = true then
                  if decide ((((List.length (dropG x0 [x1])) + 1) * 32) ≤ 70368744177664) = true then
                    if decide ((0 + ((List.length (dropG x0 [x1])) + 1)) ≤ (List.length ((dropG x0 [x1]) ++ [(x1, x2)]))) = true then
                      some ((List.take ((List.length (dropG x0 [x1])) + 1) (List.drop 0 ((dropG x0 [x1]) ++ [(x1, x2)]))))
                    else
                      none
                  else
                    none
                else
                  none
            else
              none
        else
          if decide ((behG (List.take (List.length (dropG x0 [x1])) (List.drop 0 (dropG x0 [x1]))) x1) < (((List.length (dropG x0 [x1])) : Nat) : Int)) = true then
            if ((decide (0 ≤ (behG (List.take (List.length (dropG x0 [x1])) (List.drop 0 (dropG x0 [x1]))) x1)) && decide ((List.length (dropG x0 [x1])) = (List.length (dropG x0 [x1])))) && decide ((((List.length (dropG x0 [x1])) + 1) * 32) ≤ 70368744177664)) = true then
              if decide ((0 + ((List.length (dropG x0 [x1])) + 1)) ≤ (List.length ((List.take (Int.toNat (behG (List.take (List.length (dropG x0 [x1])) (List.drop 0 (dropG x0 [x1]))) x1)) (dropG x0 [x1])) ++ ((x1, x2) :: (List.drop (Int.toNat (behG (List.take (List.length (dropG x0 [x1])) (List.drop 0 (dropG x0 [x1]))) x1)) (dropG x0 [x1])))))) = true then
                some ((List.take ((List.length (dropG x0 [x1])) + 1) (List.drop 0 ((List.take (Int.toNat (behG (List.take (List.length (dropG x0 [x1])) (List.drop 0 (dropG x0 [x1]))) x1)) (dropG x0 [x1])) ++ ((x1, x2) :: (List.drop (Int.toNat (behG (List.take (List.length (dropG x0 [x1])) (List.drop 0 (dropG x0 [x1]))) x1)) (dropG x0 [x1])))))))
              else
                none
            else
              none
          else
            if (decide (0 ≤ (behG (List.take (List.length (dropG x0 [x1])) (List.drop 0 (dropG x0 [x1]))) x1)) && decide ((behG (List.take (List.length (dropG x0 [x1])) (List.drop 0 (dropG x0 [x1]))) x1) ≤ (((List.length (dropG x0 [x1])) : Nat) : Int))) = true then
              if (decide ((Int.toNat (behG (List.take (List.length (dropG x0 [x1])) (List.drop 0 (dropG x0 [x1]))) x1)) < (List.length (dropG x0 [x1]))) || decide ((Int.toNat (behG (List.take (List.length (dropG x0 [x1])) (List.drop 0 (dropG x0 [x1]))) x1)) = 0)) = true then
                if ((behG (List.take (List.length (dropG x0 [x1])) (List.drop 0 (dropG x0 [x1]))) x1) == (((List.length (dropG x0 [x1])) : Nat) : Int)) = true then
                  if decide ((((List.length (dropG x0 [x1])) + 1) * 32) ≤ 70368744177664) = true then
                    if decide ((0 + ((List.length (dropG x0 [x1])) + 1)) ≤ (List.length ((dropG x0 [x1]) ++ [(x1, x2)]))) = true then
                      some ((List.take ((List.length (dropG x0 [x1])) + 1) (List.drop 0 ((dropG x0 [x1]) ++ [(x1, x2)]))))
                    else
                      none
                  else
                    none
                else
                  none
              else
                if ((behG (List.take (List.length (dropG x0 [x1])) (List.drop 0 (dropG x0 [x1]))) x1) == (((List.length (dropG x0 [x1])) : Nat) : Int)) = true then
                  if decide ((((List.length (dropG x0 [x1])) + 1) * 32) ≤ 70368744177664) = true then
                    if decide ((0 + ((List.length (dropG x0 [x1])) + 1)) ≤ (List.length ((dropG x0 [x1]) ++ [(x1, x2)]))) = true then
                      some ((List.take ((List.length (dropG x0 [x1])) + 1) (List.drop 0 ((dropG x0 [x1]) ++ [(x1, x2)]))))
                    else
                      none
                  else
                    none
                else
                  none
            else
              none
      else
        none
  else
    none
set_option maxHeartbeats 20000000 in
theorem p19_ok (m : Nat) (x0 : List ((List UInt8) × (List UInt8))) (x1 : List UInt8) (x2 : List UInt8) (q : (List ((List UInt8) × (List UInt8)))) (h : p19 m x0 x1 x2 = some q) : ∃ r B1, (evCall F S20 (m + 25) 19 [(.d (.sl (.pair .str .str) x0)), (.d (.str x1)), (.d (.str x2))] []).run = some (r, B1) ∧ 0 ≤ B1.length ∧ wkR B1 [] r (.d (.sl (.pair .str .str) q)) ∧ wkBs B1 [] 0 [] := by
  unfold p19 at h
  refine ite_cases h (fun c1 h => ?_) (fun c1 h => ?_)
  · skip
    refine ite_cases h (fun c2 h => ?_) (fun c2 h => ?_)
    · skip
      cases h
      refine ⟨(.d (.sl (.pair .str .str) (List.take (List.length (dropG x0 [x1])) (List.drop 0 (dropG x0 [x1]))))), [], runT_ok (LS := (fun k => none)) (fn := fn19) (vis := []) (by kernel_rfl) rfl (by kernel_rfl) (M.run_of_path _ [true, true, true, true] _ _ (by kernel_rfl) (all_t rfl (all_t c1 (all_t c2 (all_t (show decide ((0 + (List.length (dropG x0 [x1]))) ≤ (List.length (dropG x0 [x1]))) = true from decide_eq_true (Nat.le_of_eq (Nat.zero_add _))) all_nil))))) ?_, by simp, (wkR.one (wkV.one (wk1.eq rfl))), trivial⟩
      intro p hp; cases hp
    · skip
      refine ite_cases h (fun c4 h => ?_) (fun c4 h => ?_)
      · skip
        refine ite_cases h (fun c5 h => ?_) (fun c5 h => ?_)
        · skip
          refine ite_cases h (fun c6 h => ?_) (fun c6 h => ?_)
          · skip
            refine ite_cases h (fun c7 h => ?_) (fun c7 h => ?_)
            · skip
              refine ite_cases h (fun c8 h => ?_) (fun c8 h => ?_)
              · skip
                cases h
                refine ⟨(.d (.sl (.pair .str .str) (List.take ((List.length (dropG x0 [x1])) + 1) (List.drop 0 ((List.take (Int.toNat (((List.length (dropG x0 [x1])) : Nat) : Int)) (dropG x0 [x1])) ++ ((x1, x2) :: (List.drop (Int.toNat (((List.length (dropG x0 [x1])) : Nat) : Int)) (dropG x0 [x1])))))))), [], runT_ok (LS := (fun k => none)) (fn := fn19) (vis := []) (by kernel_rfl) rfl (by kernel_rfl) (M.run_of_path _ [true, true, false, true, true, true, true, true, true] _ _ (by kernel_rfl) (all_t rfl (all_t c1 (all_f c2 (all_t (show decide ((0 + (List.length (dropG x0 [x1]))) ≤ (List.length (dropG x0 [x1]))) = true from decide_eq_true (Nat.le_of_eq (Nat.zero_add _))) (all_t c4 (all_t c5 (all_t c6 (all_t c7 (all_t c8 all_nil)))))))))) ?_, by simp, (wkR.one (wkV.one (wk1.eq rfl))), trivial⟩
                intro p hp; cases hp
              · skip
                cases h
            · skip
              cases h
          · skip
            refine ite_cases h (fun c7 h => ?_) (fun c7 h => ?_)
            · skip
              refine ite_cases h (fun c8 h => ?_) (fun c8 h => ?_)
              · skip
                refine ite_cases h (fun c10 h => ?_) (fun c10 h => ?_)
                · skip
                  refine ite_cases h (fun c12 h => ?_) (fun c12 h => ?_)
                  · skip
                    refine ite_cases h (fun c14 h => ?_) (fun c14 h => ?_)
                    · skip
                      cases h
                      refine ⟨(.d (.sl (.pair .str .str) (List.take ((List.length (dropG x0 [x1])) + 1) (List.drop 0 ((dropG x0 [x1]) ++ [(x1, x2)]))))), [], runT_ok (LS := (fun k => none)) (fn := fn19) (vis := []) (by kernel_rfl) rfl (by kernel_rfl) (M.run_of_path _ [true, true, false, true, true, true, false, true, true, false, true, true, true, true, true] _ _ (by kernel_rfl) (all_t rfl (all_t c1 (all_f c2 (all_t (show decide ((0 + (List.length (dropG x0 [x1]))) ≤ (List.length (dropG x0 [x1]))) = true from decide_eq_true (Nat.le_of_eq (Nat.zero_add _))) (all_t c4 (all_t c5 (all_f c6 (all_t c7 (all_t c8 (all_f Bool.false_ne_true (all_t c10 (all_t rfl (all_t c12 (all_t (show decide ((List.length (dropG x0 [x1])) = (List.length (dropG x0 [x1]))) = true from decide_eq_true rfl) (all_t c14 all_nil)))))))))))))))) ?_, by simp, (wkR.one (wkV.one (wk1.eq rfl))), trivial⟩
                      intro p hp; cases hp
                    · skip
                      cases h
                  · skip
                    cases h
                · skip
                  cases h
              · skip
                refine ite_cases h (fun c10 h => ?_) (fun c10 h => ?_)
                · skip
                  refine ite_cases h (fun c12 h => ?_) (fun c12 h => ?_)
                  · skip
                    refine ite_cases h (fun c14 h => ?_) (fun c14 h => ?_)
                    · skip
                      cases h
                      refine ⟨(.d (.sl (.pair .str .str) (List.take ((List.length (dropG x0 [x1])) + 1) (List.drop 0 ((dropG x0 [x1]) ++ [(x1, x2)]))))), [], runT_ok (LS := (fun k => none)) (fn := fn19) (vis := []) (by kernel_rfl) rfl (by kernel_rfl) (M.run_of_path _ [true, true, false, true, true, true, false, true, false, false, true, true, true, true, true] _ _ (by kernel_rfl) (all_t rfl (all_t c1 (all_f c2 (all_t (show decide ((0 + (List.length (dropG x0 [x1]))) ≤ (List.length (dropG x0 [x1]))) = true from decide_eq_true (Nat.le_of_eq (Nat.zero_add _))) (all_t c4 (all_t c5 (all_f c6 (all_t c7 (all_f c8 (all_f Bool.false_ne_true (all_t c10 (all_t rfl (all_t c12 (all_t (show decide ((List.length (dropG x0 [x1])) = (List.length (dropG x0 [x1]))) = true from decide_eq_true rfl) (all_t c14 all_nil)))))))))))))))) ?_, by simp, (wkR.one (wkV.one (wk1.eq rfl))), trivial⟩
                      intro p hp; cases hp
                    · skip
                      cases h
                  · skip
                    cases h
                · skip
                  cases h
            · skip
              cases h
        · skip
          refine ite_cases h (fun c6 h => ?_) (fun c6 h => ?_)
          · skip
            refine ite_cases h (fun c7 h => ?_) (fun c7 h => ?_)
            · skip
              refine ite_cases h (fun c8 h => ?_) (fun c8 h => ?_)
              · skip
                cases h
                refine ⟨(.d (.sl (.pair .str .str) (List.take ((List.length (dropG x0 [x1])) + 1) (List.drop 0 ((List.take (Int.toNat (behG (List.take (List.length (dropG x0 [x1])) (List.drop 0 (dropG x0 [x1]))) x1)) (dropG x0 [x1])) ++ ((x1, x2) :: (List.drop (Int.toNat (behG (List.take (List.length (dropG x0 [x1])) (List.drop 0 (dropG x0 [x1]))) x1)) (dropG x0 [x1])))))))), [], runT_ok (LS := (fun k => none)) (fn := fn19) (vis := []) (by kernel_rfl) rfl (by kernel_rfl) (M.run_of_path _ [true, true, false, true, true, false, true, true, true] _ _ (by kernel_rfl) (all_t rfl (all_t c1 (all_f c2 (all_t (show decide ((0 + (List.length (dropG x0 [x1]))) ≤ (List.length (dropG x0 [x1]))) = true from decide_eq_true (Nat.le_of_eq (Nat.zero_add _))) (all_t c4 (all_f c5 (all_t c6 (all_t c7 (all_t c8 all_nil)))))))))) ?_, by simp, (wkR.one (wkV.one (wk1.eq rfl))), trivial⟩
                intro p hp; cases hp
              · skip
                cases h
            · skip
              cases h
          · skip
            refine ite_cases h (fun c7 h => ?_) (fun c7 h => ?_)
            · skip
              refine ite_cases h (fun c8 h => ?_) (fun c8 h => ?_)
              · skip
                refine ite_cases h (fun c10 h => ?_) (fun c10 h => ?_)
                · skip
                  refine ite_cases h (fun c12 h => ?_) (fun c12 h => ?_)
                  · skip
                    refine ite_cases h (fun c14 h => ?_) (fun c14 h => ?_)
                    · skip
                      cases h
                      refine ⟨(.d (.sl (.pair .str .str) (List.take ((List.length (dropG x0 [x1])) + 1) (List.drop 0 ((dropG x0 [x1]) ++ [(x1, x2)]))))), [], runT_ok (LS := (fun k => none)) (fn := fn19) (vis := []) (by kernel_rfl) rfl (by kernel_rfl) (M.run_of_path _ [true, true, false, true, true, false, false, true, true, false, true, true, true, true, true] _ _ (by kernel_rfl) (all_t rfl (all_t c1 (all_f c2 (all_t (show decide ((0 + (List.length (dropG x0 [x1]))) ≤ (List.length (dropG x0 [x1]))) = true from decide_eq_true (Nat.le_of_eq (Nat.zero_add _))) (all_t c4 (all_f c5 (all_f c6 (all_t c7 (all_t c8 (all_f Bool.false_ne_true (all_t c10 (all_t rfl (all_t c12 (all_t (show decide ((List.length (dropG x0 [x1])) = (List.length (dropG x0 [x1]))) = true from decide_eq_true rfl) (all_t c14 all_nil)))))))))))))))) ?_, by simp, (wkR.one (wkV.one (wk1.eq rfl))), trivial⟩
                      intro p hp; cases hp
                    · skip
                      cases h
                  · skip
                    cases h
                · skip
                  cases h
              · skip
                refine ite_cases h (fun c10 h => ?_) (fun c10 h => ?_)
                · skip
                  refine ite_cases h (fun c12 h => ?_) (fun c12 h => ?_)
                  · skip
                    refine ite_cases h (fun c14 h => ?_) (fun c14 h => ?_)
                    · skip
                      cases h
                      refine ⟨(.d (.sl (.pair .str .str) (List.take ((List.length (dropG x0 [x1])) + 1) (List.drop 0 ((dropG x0 [x1]) ++ [(x1, x2)]))))), [], runT_ok (LS := (fun k => none)) (fn := fn19) (vis := []) (by kernel_rfl) rfl (by kernel_rfl) (M.run_of_path _ [true, true, false, true, true, false, false, true, false, false, true, true, true, true, true] _ _ (by kernel_rfl) (all_t rfl (all_t c1 (all_f c2 (all_t (show decide ((0 + (List.length (dropG x0 [x1]))) ≤ (List.length (dropG x0 [x1]))) = true from decide_eq_true (Nat.le_of_eq (Nat.zero_add _))) (all_t c4 (all_f c5 (all_f c6 (all_t c7 (all_f c8 (all_f Bool.false_ne_true (all_t c10 (all_t rfl (all_t c12 (all_t (show decide ((List.length (dropG x0 [x1])) = (List.length (dropG x0 [x1]))) = true from decide_eq_true rfl) (all_t c14 all_nil)))))))))))))))) ?_, by simp, (wkR.one (wkV.one (wk1.eq rfl))), trivial⟩
                      intro p hp; cases hp
                    · skip
                      cases h
                  · skip
                    cases h
                · skip
                  cases h
            · skip
              cases h
      · skip
        cases h
  · skip
    cases h

def insAt : LB → (List UInt8) × (List UInt8) → LB
  | [], x => [x]
  | y :: o, x => if (Op.bytesLess y.1 x.1 || y.1 == x.1) = true then y :: insAt o x else x :: y :: o
/-- With a label in the place of all of its name. -/
def withG (l : LB) (n v : List UInt8) : LB := if v = [] then dropG l [n] else insAt (dropG l [n]) (n, v)
theorem beh_spec : ∀ (o : LB) (n : List UInt8) (k : Nat), (behFrom o n k = -1 ∧ ∀ v, insAt o (n, v) = o ++ [(n, v)]) ∨ (∃ j, j < o.length ∧ behFrom o n k = ((k + j : Nat) : Int) ∧ ∀ v, insAt o (n, v) = o.take j ++ (n, v) :: o.drop j)
  | [], n, k => .inl ⟨rfl, fun v => rfl⟩
  | y :: o, n, k => by
    by_cases hc : (Op.bytesLess y.1 n || y.1 == n) = true
    · have e1 : behFrom (y :: o) n k = behFrom o n (k + 1) := by rw [behFrom, if_pos hc]
      have e2 : ∀ v, insAt (y :: o) (n, v) = y :: insAt o (n, v) := fun v => by rw [insAt, if_pos hc]
      rcases beh_spec o n (k + 1) with ⟨h1, h2⟩ | ⟨j, h1, h2, h3⟩
      · exact .inl ⟨by rw [e1, h1], fun v => by rw [e2, h2]; rfl⟩
      · exact .inr ⟨j + 1, by simp; omega, by rw [e1, h2]; congr 1; omega, fun v => by rw [e2, h3]; rfl⟩
    · exact .inr ⟨0, by simp, by rw [behFrom, if_neg hc]; rfl, fun v => by rw [insAt, if_neg hc]; rfl⟩
theorem drop_len (l : LB) (ns : List (List UInt8)) : (dropG l ns).length ≤ l.length := List.length_filter_le _ _
theorem with19 (l : LB) (nm v : List UInt8) (h : decide (l.length ≤ 1000000) = true) : ∃ m, p19 m l nm v = some (withG l nm v) := by
  have h := of_decide_eq_true h
  refine ⟨0, ?_⟩
  have hp : keepPre l [nm] = true := decide_eq_true ⟨h, by simp⟩
  have hl := drop_len l [nm]
  unfold p19 withG
  generalize dropG l [nm] = o at *
  have t0 : List.take (List.length o) (List.drop 0 o) = o := by rw [List.drop_zero, List.take_length]
  have t1 : decide (List.length o ≤ 1000000) = true := decide_eq_true (by omega)
  rw [if_pos hp, t0]
  by_cases hv : v = []
  · rw [if_pos (by rw [hv]; rfl), if_pos hv]
  · rw [if_neg (by rw [beq_iff_eq]; exact hv), if_neg hv, if_pos t1]
    have f1 : decide ((((List.length o) : Nat) : Int) < (((List.length o) : Nat) : Int)) = false := decide_eq_false (by omega)
    have f2 : (decide (0 ≤ (((List.length o) : Nat) : Int)) && decide ((((List.length o) : Nat) : Int) ≤ (((List.length o) : Nat) : Int))) = true := by simp
    have f3 : ((((List.length o) : Nat) : Int) == (((List.length o) : Nat) : Int)) = true := beq_self_eq_true _
    have f4 : decide ((((List.length o) + 1) * 32) ≤ 70368744177664) = true := decide_eq_true (by omega)
    have f5 : decide ((0 + ((List.length o) + 1)) ≤ (List.length (o ++ [(nm, v)]))) = true := decide_eq_true (by simp)
    have f6 : List.take ((List.length o) + 1) (List.drop 0 (o ++ [(nm, v)])) = o ++ [(nm, v)] := by
      rw [List.drop_zero, List.take_of_length_le (by simp)]
    rcases beh_spec o nm 0 with ⟨h1, h2⟩ | ⟨j, h1, h2, h3⟩
    · rw [h2, show behG o nm = -1 from h1, if_pos (by decide)]
      simp only [f1, f2, f3, f4, f5, f6, Bool.false_eq_true, ↓reduceIte]
      split <;> rfl
    · rw [Nat.zero_add] at h2
      rw [h3, show behG o nm = ((j : Nat) : Int) from h2]
      have g1 : decide (((j : Nat) : Int) < 0) = false := decide_eq_false (by omega)
      have g2 : decide (((j : Nat) : Int) < (((List.length o) : Nat) : Int)) = true := decide_eq_true (by omega)
      have g3 : ((decide (0 ≤ ((j : Nat) : Int)) && decide ((List.length o) = (List.length o))) && decide ((((List.length o) + 1) * 32) ≤ 70368744177664)) = true := by rw [f4, decide_eq_true (show (0 : Int) ≤ ((j : Nat) : Int) by omega)]; simp
      have g4 : (List.take j o ++ (nm, v) :: List.drop j o).length = o.length + 1 := by rw [List.length_append, List.length_cons, List.length_take, List.length_drop]; omega
      have g5 : decide ((0 + ((List.length o) + 1)) ≤ (List.length (List.take j o ++ (nm, v) :: List.drop j o))) = true := decide_eq_true (by rw [g4]; omega)
      have g6 : List.take ((List.length o) + 1) (List.drop 0 (List.take j o ++ (nm, v) :: List.drop j o)) = List.take j o ++ (nm, v) :: List.drop j o := by
        rw [List.drop_zero, List.take_of_length_le (by rw [g4]; omega)]
      simp only [show Int.toNat ((j : Nat) : Int) = j from rfl, g1, g2, g5, g6, Bool.false_eq_true, ↓reduceIte]
      rw [if_pos (by simpa using g3)]
def s19 : List AV → Boxes → M (AV × Boxes) := normS [.val (.sl (.pair .str .str)), .val .str, .val .str] [] fun xs B => match xs, B with
  | [(.d (.sl (.pair .str .str) c1)), (.d (.str c2)), (.d (.str c3))], [] => .chk (decide (List.length c1 ≤ 1000000)) (.ret ((.d (.sl (.pair .str .str) (withG c1 c2 c3))), []))
  | _, _ => .fail
theorem s19_at : CallAt Tryd.prog 19 s19 := by
  refine CallAt.norm (CallAt.weakE (g := fun n => evCall F S20 n 19) (fun n => evCall_atH mixed kinds hds S20 S20_ok n 19) fun xs B r' B' hr => ?_) _ _
  split at hr
  · rename_i c1 c2 c3
    obtain ⟨hp, hr⟩ := (M.run_chk _ _ _).1 hr
    simp only [M.run, Option.some.injEq, Prod.mk.injEq] at hr
    obtain ⟨rfl, rfl⟩ := hr
    obtain ⟨m, hm⟩ := with19 c1 c2 c3 hp
    obtain ⟨r, B1, h1, h2, h3, h4⟩ := p19_ok m c1 c2 c3 _ hm
    exact ⟨m + 25, r, B1, h1, by simp, h2, h3, h4⟩
  · simp [M.run] at hr
noncomputable def S21 : FuncId → Option (List AV → Boxes → M (AV × Boxes)) := fun f => if f = 19 then some s19 else S20 f
set_option maxHeartbeats 20000000 in
theorem S21_ok : ∀ f s, S21 f = some s → CallAt Tryd.prog f s := by
  intro f s h
  unfold S21 at h
  split at h
  · rename_i e; subst e; cases h; exact s19_at
  · exact S20_ok f s h

end Go.Proofs.YtcdpgldecikejaaDoor.Dec
