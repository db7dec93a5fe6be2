/- LsetMerge, as a plain function. LsetMerge: its plain law. -/
import Derived.Test.YtcdpgldecikejaaDoorQB6
import Derived.KernelRfl
namespace Go.Proofs.YtcdpgldecikejaaDoor.Dec
open Go.Ev
set_option linter.unusedVariables false
set_option linter.unusedSimpArgs false
set_option maxRecDepth 100000
noncomputable def fn5 : AFn := (F 5).getD ⟨0, [], .bad, false, false, noHd⟩
noncomputable def body5 : AC := fn5.body
def l5_0 (m : Nat) : Nat → (List Int) × (List Int) → List Int → List ((List UInt8) × (List UInt8)) → Int → List ((List UInt8) × (List UInt8)) → Option (Nat × Int × (List ((List UInt8) × (List UInt8))))
  | 0, _, _, _, _, _ => none
  | n + 1, x1, x2, s7, s9, b1 => if decide (s9 < (((List.length x2) : Nat) : Int)) = true then
      if decide ((((List.length b1) : Nat) : Int) > 1) = true then
        if decide (0 ≤ s9) = true then
          if ((decide (0 ≤ (IntKind.wrap .i64 ((((List.length b1) : Nat) : Int) - (1)))) && decide ((IntKind.wrap .i64 ((((List.length b1) : Nat) : Int) - (1))) ≤ 2305843009213693951)) && decide (((IntKind.wrap .i64 ((((List.length b1) : Nat) : Int) - (1))) - (0)) ≤ 2305843009213693951)) = true then
            if decide (0 ≤ (withinI (List.getD x2 (Int.toNat s9) 0) (0) (IntKind.wrap .i64 ((((List.length b1) : Nat) : Int) - (1))))) = true then
              if decide ((withinI (List.getD x2 (Int.toNat s9) 0) (0) (IntKind.wrap .i64 ((((List.length b1) : Nat) : Int) - (1)))) < (((List.length b1) : Nat) : Int)) = true then
                if decide ((0 + (Int.toNat (withinI (List.getD x2 (Int.toNat s9) 0) (0) (IntKind.wrap .i64 ((((List.length b1) : Nat) : Int) - (1)))))) < (List.length b1)) = true then
                  if (decide (0 ≤ (withinI (List.getD x2 (Int.toNat s9) 0) (0) (IntKind.wrap .i64 ((((List.length b1) : Nat) : Int) - (1))))) && decide ((withinI (List.getD x2 (Int.toNat s9) 0) (0) (IntKind.wrap .i64 ((((List.length b1) : Nat) : Int) - (1)))) ≤ (((List.length b1) : Nat) : Int))) = true then
                    if decide ((0 + ((Int.toNat (withinI (List.getD x2 (Int.toNat s9) 0) (0) (IntKind.wrap .i64 ((((List.length b1) : Nat) : Int) - (1))))) - 0)) ≤ (List.length b1)) = true then
                      if decide (((1 + (List.length (List.take ((Int.toNat (withinI (List.getD x2 (Int.toNat s9) 0) (0) (IntKind.wrap .i64 ((((List.length b1) : Nat) : Int) - (1))))) - 0) (List.drop 0 b1)))) * 32) ≤ 70368744177664) = true then
                        if (decide (0 ≤ (IntKind.wrap .i64 ((withinI (List.getD x2 (Int.toNat s9) 0) (0) (IntKind.wrap .i64 ((((List.length b1) : Nat) : Int) - (1)))) + (1)))) && decide ((IntKind.wrap .i64 ((withinI (List.getD x2 (Int.toNat s9) 0) (0) (IntKind.wrap .i64 ((((List.length b1) : Nat) : Int) - (1)))) + (1))) ≤ (((List.length b1) : Nat) : Int))) = true then
                          if (decide ((Int.toNat (IntKind.wrap .i64 ((withinI (List.getD x2 (Int.toNat s9) 0) (0) (IntKind.wrap .i64 ((((List.length b1) : Nat) : Int) - (1)))) + (1)))) < (List.length b1)) || decide ((Int.toNat (IntKind.wrap .i64 ((withinI (List.getD x2 (Int.toNat s9) 0) (0) (IntKind.wrap .i64 ((((List.length b1) : Nat) : Int) - (1)))) + (1)))) = 0)) = true then
                            if decide (((0 + (Int.toNat (IntKind.wrap .i64 ((withinI (List.getD x2 (Int.toNat s9) 0) (0) (IntKind.wrap .i64 ((((List.length b1) : Nat) : Int) - (1)))) + (1))))) + ((List.length b1) - (Int.toNat (IntKind.wrap .i64 ((withinI (List.getD x2 (Int.toNat s9) 0) (0) (IntKind.wrap .i64 ((((List.length b1) : Nat) : Int) - (1)))) + (1)))))) ≤ (List.length b1)) = true then
                              if decide ((((1 + (List.length (List.take ((Int.toNat (withinI (List.getD x2 (Int.toNat s9) 0) (0) (IntKind.wrap .i64 ((((List.length b1) : Nat) : Int) - (1))))) - 0) (List.drop 0 b1)))) + (List.length (List.take ((List.length b1) - (Int.toNat (IntKind.wrap .i64 ((withinI (List.getD x2 (Int.toNat s9) 0) (0) (IntKind.wrap .i64 ((((List.length b1) : Nat) : Int) - (1)))) + (1))))) (List.drop (0 + (Int.toNat (IntKind.wrap .i64 ((withinI (List.getD x2 (Int.toNat s9) 0) (0) (IntKind.wrap .i64 ((((List.length b1) : Nat) : Int) - (1)))) + (1))))) b1)))) * 32) ≤ 70368744177664) = true then
                                if decide ((1 + (List.length (List.take ((Int.toNat (withinI (List.getD x2 (Int.toNat s9) 0) (0) (IntKind.wrap .i64 ((((List.length b1) : Nat) : Int) - (1))))) - 0) (List.drop 0 b1)))) = (List.length ([(List.getD b1 (0 + (Int.toNat (withinI (List.getD x2 (Int.toNat s9) 0) (0) (IntKind.wrap .i64 ((((List.length b1) : Nat) : Int) - (1)))))) (([] : List UInt8), ([] : List UInt8)))] ++ (List.take ((Int.toNat (withinI (List.getD x2 (Int.toNat s9) 0) (0) (IntKind.wrap .i64 ((((List.length b1) : Nat) : Int) - (1))))) - 0) (List.drop 0 b1))))) = true then
                                  l5_0 m n x1 x2 s7 ((IntKind.wrap .i64 (s9 + (1)))) ((([(List.getD b1 (0 + (Int.toNat (withinI (List.getD x2 (Int.toNat s9) 0) (0) (IntKind.wrap .i64 ((((List.length b1) : Nat) : Int) - (1)))))) (([] : List UInt8), ([] : List UInt8)))] ++ (List.take ((Int.toNat (withinI (List.getD x2 (Int.toNat s9) 0) (0) (IntKind.wrap .i64 ((((List.length b1) : Nat) : Int) - (1))))) - 0) (List.drop 0 b1))) ++ (List.take ((List.length b1) - (Int.toNat (IntKind.wrap .i64 ((withinI (List.getD x2 (Int.toNat s9) 0) (0) (IntKind.wrap .i64 ((((List.length b1) : Nat) : Int) - (1)))) + (1))))) (List.drop (0 + (Int.toNat (IntKind.wrap .i64 ((withinI (List.getD x2 (Int.toNat s9) 0) (0) (IntKind.wrap .i64 ((((List.length b1) : Nat) : Int) - (1)))) + (1))))) b1))))
                                else
                                  none
                              else
                                none
                            else
                              none
                          else
                            if decide ((((1 + (List.length (List.take ((Int.toNat (withinI (List.getD x2 (Int.toNat s9) 0) (0) (IntKind.wrap .i64 ((((List.length b1) : Nat) : Int) - (1))))) - 0) (List.drop 0 b1)))) + 0) * 32) ≤ 70368744177664) = true then
                              if decide ((1 + (List.length (List.take ((Int.toNat (withinI (List.getD x2 (Int.toNat s9) 0) (0) (IntKind.wrap .i64 ((((List.length b1) : Nat) : Int) - (1))))) - 0) (List.drop 0 b1)))) = (List.length ([(List.getD b1 (0 + (Int.toNat (withinI (List.getD x2 (Int.toNat s9) 0) (0) (IntKind.wrap .i64 ((((List.length b1) : Nat) : Int) - (1)))))) (([] : List UInt8), ([] : List UInt8)))] ++ (List.take ((Int.toNat (withinI (List.getD x2 (Int.toNat s9) 0) (0) (IntKind.wrap .i64 ((((List.length b1) : Nat) : Int) - (1))))) - 0) (List.drop 0 b1))))) = true then
                                l5_0 m n x1 x2 s7 ((IntKind.wrap .i64 (s9 + (1)))) ((([(List.getD b1 (0 + (Int.toNat (withinI (List.getD x2 (Int.toNat s9) 0) (0) (IntKind.wrap .i64 ((((List.length b1) : Nat) : Int) - (1)))))) (([] : List UInt8), ([] : List UInt8)))] ++ (List.take ((Int.toNat (withinI (List.getD x2 (Int.toNat s9) 0) (0) (IntKind.wrap .i64 ((((List.length b1) : Nat) : Int) - (1))))) - 0) (List.drop 0 b1))) ++ ([] : List ((List UInt8) × (List UInt8)))))
                              else
                                none
                            else
                              none
                        else
                          none
                      else
                        none
                    else
                      none
                  else
                    none
                else
                  none
              else
                none
            else
              none
          else
            none
        else
          none
      else
        some (0, s9, b1)
    else
      some (1, s9, b1)
def l5_0D : Nat × Int × (List ((List UInt8) × (List UInt8))) := (0, 0, [])
@[reducible] def l5_0R (m n : Nat) (x1 : (List Int) × (List Int)) (x2 : List Int) (s7 : List ((List UInt8) × (List UInt8))) (s9 : Int) (b1 : List ((List UInt8) × (List UInt8))) : Nat × Int × (List ((List UInt8) × (List UInt8))) := Option.getD (l5_0 m n x1 x2 s7 s9 b1) l5_0D
def l5_0H (x1 : (List Int) × (List Int)) (x2 : List Int) (s7 : List ((List UInt8) × (List UInt8))) (s9 : Int) (b1 : List ((List UInt8) × (List UInt8))) : Env := [.top, .top, (.d (.sl (.int .i64) x2)), .top, (.ptr 0 0), .top, .top, (.d (.sl (.pair .str .str) s7)), (.sr 1 0 (List.length b1) 2 none), (.d (.int .i64 s9)), .top, .top, .top, .top, .top, .top, .top, .top, .top, .top, .top, .top, .top, .top, .top, .top, .top, .top, .top, .top, .top, .top, .top, .top, .top, .top, .top, .top, .top, .top, .top, .top, .top, .top, .top, .top, .top, .top, .top, .top, .top, .top, .top, .top, .top, .top, .top, .top, .top, .top, .top, .top, .top, .top, .top, .top, .top, .top, .top, .top, .top, .top, .top, .top, .top, .top, .top, .top, .top, .top, .top, .top, .top, .top, .top, .top, .top, .top, .top, .top, .top, .top, .top, .top, .top, .top, .top, .top, .top, .top, .top, .top, .top, .top, .top, .top, .top, .top, .top, .top, .top, .top, .top, .top, .top, .top, .top, .top, .top, .top, .top]
def l5_0B (x1 : (List Int) × (List Int)) (x2 : List Int) (s7 : List ((List UInt8) × (List UInt8))) (s9 : Int) (b1 : List ((List UInt8) × (List UInt8))) : Boxes := [(.cells [(.d (.sl (.int .i64) x1.1)), (.d (.sl (.int .i64) x1.2))]), (.arr (.pair .str .str) b1 true)]
def l5_0E (x1 : (List Int) × (List Int)) (x2 : List Int) (s7 : List ((List UInt8) × (List UInt8))) (s9 : Int) (b1 : List ((List UInt8) × (List UInt8))) : Nat → AEx × Env × Boxes
  | 0 => (.exit 0, [.top, .top, (.d (.sl (.int .i64) x2)), .top, (.ptr 0 0), .top, .top, (.d (.sl (.pair .str .str) s7)), (.sr 1 0 (List.length b1) 2 none), (.d (.int .i64 s9)), .top, .top, .top, .top, .top, .top, .top, .top, .top, .top, .top, .top, (.d (.int .i64 s9)), (.d (.sl (.int .i64) x2)), (.d (.int .i64 (((List.length x2) : Nat) : Int))), (.d (.bool (decide (s9 < (((List.length x2) : Nat) : Int))))), (.d (.bool (decide (s9 < (((List.length x2) : Nat) : Int))))), (.sr 1 0 (List.length b1) 2 none), (.d (.int .i64 (((List.length b1) : Nat) : Int))), (.d (.bool (decide ((((List.length b1) : Nat) : Int) > 1)))), (.d (.bool (decide ((((List.length b1) : Nat) : Int) > 1)))), .top, .top, .top, .top, .top, .top, .top, .top, .top, .top, .top, .top, .top, .top, .top, .top, .top, .top, .top, .top, .top, .top, .top, .top, .top, .top, .top, .top, .top, .top, .top, .top, .top, .top, .top, .top, .top, .top, .top, .top, .top, .top, .top, .top, .top, .top, .top, .top, .top, .top, .top, .top, .top, .top, .top, .top, .top, .top, .top, .top, .top, .top, .top, .top, .top, .top, .top, .top, .top, .top, .top, .top, .top, .top, .top, .top, .top, .top, .top, .top, .top, .top, .top, .top, .top, .top, .top, .top, .top, .top], [(.cells [(.d (.sl (.int .i64) x1.1)), (.d (.sl (.int .i64) x1.2))]), (.arr (.pair .str .str) b1 true)])
  | _ => (.exit 0, [.top, .top, (.d (.sl (.int .i64) x2)), .top, (.ptr 0 0), .top, .top, (.d (.sl (.pair .str .str) s7)), (.sr 1 0 (List.length b1) 2 none), (.d (.int .i64 s9)), .top, .top, .top, .top, .top, .top, .top, .top, .top, .top, .top, .top, (.d (.int .i64 s9)), (.d (.sl (.int .i64) x2)), (.d (.int .i64 (((List.length x2) : Nat) : Int))), (.d (.bool (decide (s9 < (((List.length x2) : Nat) : Int))))), (.d (.bool (decide (s9 < (((List.length x2) : Nat) : Int))))), (.tup []), (.tup []), (.tup []), (.d (.bool false)), .top, .top, .top, .top, .top, .top, .top, .top, .top, .top, .top, .top, .top, .top, .top, .top, .top, .top, .top, .top, .top, .top, .top, .top, .top, .top, .top, .top, .top, .top, .top, .top, .top, .top, .top, .top, .top, .top, .top, .top, .top, .top, .top, .top, .top, .top, .top, .top, .top, .top, .top, .top, .top, .top, .top, .top, .top, .top, .top, .top, .top, .top, .top, .top, .top, .top, .top, .top, .top, .top, .top, .top, .top, .top, .top, .top, .top, .top, .top, .top, .top, .top, .top, .top, .top, .top, .top, .top, .top, .top], [(.cells [(.d (.sl (.int .i64) x1.1)), (.d (.sl (.int .i64) x1.2))]), (.arr (.pair .str .str) b1 true)])
noncomputable def lbl5_0 : AC := loopBody 916 body5

set_option maxHeartbeats 20000000 in
theorem l5_0_w0 (m n : Nat) (x1 : (List Int) × (List Int)) (x2 : List Int) (s7 : List ((List UInt8) × (List UInt8))) (s9 : Int) (b1 : List ((List UInt8) × (List UInt8))) (r : AEx × Env × Boxes) (c0 : decide (s9 < (((List.length x2) : Nat) : Int)) = true) (c4 : decide ((((List.length b1) : Nat) : Int) > 1) = true) (c5 : decide (0 ≤ s9) = true) (c7 : ((decide (0 ≤ (IntKind.wrap .i64 ((((List.length b1) : Nat) : Int) - (1)))) && decide ((IntKind.wrap .i64 ((((List.length b1) : Nat) : Int) - (1))) ≤ 2305843009213693951)) && decide (((IntKind.wrap .i64 ((((List.length b1) : Nat) : Int) - (1))) - (0)) ≤ 2305843009213693951)) = true) (c8 : decide (0 ≤ (withinI (List.getD x2 (Int.toNat s9) 0) (0) (IntKind.wrap .i64 ((((List.length b1) : Nat) : Int) - (1))))) = true) (c9 : decide ((withinI (List.getD x2 (Int.toNat s9) 0) (0) (IntKind.wrap .i64 ((((List.length b1) : Nat) : Int) - (1)))) < (((List.length b1) : Nat) : Int)) = true) (c10 : decide ((0 + (Int.toNat (withinI (List.getD x2 (Int.toNat s9) 0) (0) (IntKind.wrap .i64 ((((List.length b1) : Nat) : Int) - (1)))))) < (List.length b1)) = true) (c14 : (decide (0 ≤ (withinI (List.getD x2 (Int.toNat s9) 0) (0) (IntKind.wrap .i64 ((((List.length b1) : Nat) : Int) - (1))))) && decide ((withinI (List.getD x2 (Int.toNat s9) 0) (0) (IntKind.wrap .i64 ((((List.length b1) : Nat) : Int) - (1)))) ≤ (((List.length b1) : Nat) : Int))) = true) (c16 : decide ((0 + ((Int.toNat (withinI (List.getD x2 (Int.toNat s9) 0) (0) (IntKind.wrap .i64 ((((List.length b1) : Nat) : Int) - (1))))) - 0)) ≤ (List.length b1)) = true) (c17 : decide (((1 + (List.length (List.take ((Int.toNat (withinI (List.getD x2 (Int.toNat s9) 0) (0) (IntKind.wrap .i64 ((((List.length b1) : Nat) : Int) - (1))))) - 0) (List.drop 0 b1)))) * 32) ≤ 70368744177664) = true) (c19 : (decide (0 ≤ (IntKind.wrap .i64 ((withinI (List.getD x2 (Int.toNat s9) 0) (0) (IntKind.wrap .i64 ((((List.length b1) : Nat) : Int) - (1)))) + (1)))) && decide ((IntKind.wrap .i64 ((withinI (List.getD x2 (Int.toNat s9) 0) (0) (IntKind.wrap .i64 ((((List.length b1) : Nat) : Int) - (1)))) + (1))) ≤ (((List.length b1) : Nat) : Int))) = true) (c20 : (decide ((Int.toNat (IntKind.wrap .i64 ((withinI (List.getD x2 (Int.toNat s9) 0) (0) (IntKind.wrap .i64 ((((List.length b1) : Nat) : Int) - (1)))) + (1)))) < (List.length b1)) || decide ((Int.toNat (IntKind.wrap .i64 ((withinI (List.getD x2 (Int.toNat s9) 0) (0) (IntKind.wrap .i64 ((((List.length b1) : Nat) : Int) - (1)))) + (1)))) = 0)) = true) (c21 : decide (((0 + (Int.toNat (IntKind.wrap .i64 ((withinI (List.getD x2 (Int.toNat s9) 0) (0) (IntKind.wrap .i64 ((((List.length b1) : Nat) : Int) - (1)))) + (1))))) + ((List.length b1) - (Int.toNat (IntKind.wrap .i64 ((withinI (List.getD x2 (Int.toNat s9) 0) (0) (IntKind.wrap .i64 ((((List.length b1) : Nat) : Int) - (1)))) + (1)))))) ≤ (List.length b1)) = true) (c22 : decide ((((1 + (List.length (List.take ((Int.toNat (withinI (List.getD x2 (Int.toNat s9) 0) (0) (IntKind.wrap .i64 ((((List.length b1) : Nat) : Int) - (1))))) - 0) (List.drop 0 b1)))) + (List.length (List.take ((List.length b1) - (Int.toNat (IntKind.wrap .i64 ((withinI (List.getD x2 (Int.toNat s9) 0) (0) (IntKind.wrap .i64 ((((List.length b1) : Nat) : Int) - (1)))) + (1))))) (List.drop (0 + (Int.toNat (IntKind.wrap .i64 ((withinI (List.getD x2 (Int.toNat s9) 0) (0) (IntKind.wrap .i64 ((((List.length b1) : Nat) : Int) - (1)))) + (1))))) b1)))) * 32) ≤ 70368744177664) = true) (c23 : decide ((1 + (List.length (List.take ((Int.toNat (withinI (List.getD x2 (Int.toNat s9) 0) (0) (IntKind.wrap .i64 ((((List.length b1) : Nat) : Int) - (1))))) - 0) (List.drop 0 b1)))) = (List.length ([(List.getD b1 (0 + (Int.toNat (withinI (List.getD x2 (Int.toNat s9) 0) (0) (IntKind.wrap .i64 ((((List.length b1) : Nat) : Int) - (1)))))) (([] : List UInt8), ([] : List UInt8)))] ++ (List.take ((Int.toNat (withinI (List.getD x2 (Int.toNat s9) 0) (0) (IntKind.wrap .i64 ((((List.length b1) : Nat) : Int) - (1))))) - 0) (List.drop 0 b1))))) = true) (ih : (turns (hds 5 916) 0 916 (evC byref (evCall F S21 (m + 24)) (m + 24) 0 (hds 5) lbl5_0) n (l5_0H x1 x2 s7 ((IntKind.wrap .i64 (s9 + (1)))) ((([(List.getD b1 (0 + (Int.toNat (withinI (List.getD x2 (Int.toNat s9) 0) (0) (IntKind.wrap .i64 ((((List.length b1) : Nat) : Int) - (1)))))) (([] : List UInt8), ([] : List UInt8)))] ++ (List.take ((Int.toNat (withinI (List.getD x2 (Int.toNat s9) 0) (0) (IntKind.wrap .i64 ((((List.length b1) : Nat) : Int) - (1))))) - 0) (List.drop 0 b1))) ++ (List.take ((List.length b1) - (Int.toNat (IntKind.wrap .i64 ((withinI (List.getD x2 (Int.toNat s9) 0) (0) (IntKind.wrap .i64 ((((List.length b1) : Nat) : Int) - (1)))) + (1))))) (List.drop (0 + (Int.toNat (IntKind.wrap .i64 ((withinI (List.getD x2 (Int.toNat s9) 0) (0) (IntKind.wrap .i64 ((((List.length b1) : Nat) : Int) - (1)))) + (1))))) b1))))) (l5_0B x1 x2 s7 ((IntKind.wrap .i64 (s9 + (1)))) ((([(List.getD b1 (0 + (Int.toNat (withinI (List.getD x2 (Int.toNat s9) 0) (0) (IntKind.wrap .i64 ((((List.length b1) : Nat) : Int) - (1)))))) (([] : List UInt8), ([] : List UInt8)))] ++ (List.take ((Int.toNat (withinI (List.getD x2 (Int.toNat s9) 0) (0) (IntKind.wrap .i64 ((((List.length b1) : Nat) : Int) - (1))))) - 0) (List.drop 0 b1))) ++ (List.take ((List.length b1) - (Int.toNat (IntKind.wrap .i64 ((withinI (List.getD x2 (Int.toNat s9) 0) (0) (IntKind.wrap .i64 ((((List.length b1) : Nat) : Int) - (1)))) + (1))))) (List.drop (0 + (Int.toNat (IntKind.wrap .i64 ((withinI (List.getD x2 (Int.toNat s9) 0) (0) (IntKind.wrap .i64 ((((List.length b1) : Nat) : Int) - (1)))) + (1))))) b1)))))).run = some r) : (turns (hds 5 916) 0 916 (evC byref (evCall F S21 (m + 24)) (m + 24) 0 (hds 5) lbl5_0) (n + 1) (l5_0H x1 x2 s7 s9 b1) (l5_0B x1 x2 s7 s9 b1)).run = some r := by
  have ht : (turn (hds 5 916) 0 916 (evC byref (evCall F S21 (m + 24)) (m + 24) 0 (hds 5) lbl5_0) (l5_0H x1 x2 s7 s9 b1) (l5_0B x1 x2 s7 s9 b1)).run = some (let r1 := (withinI (List.getD x2 (Int.toNat s9) 0) (0) (IntKind.wrap .i64 ((((List.length b1) : Nat) : Int) - (1)))); (.normal, [.top, .top, (.d (.sl (.int .i64) x2)), .top, (.ptr 0 0), .top, .top, (.d (.sl (.pair .str .str) s7)), (.sr 1 0 ((1 + (List.length (List.take ((Int.toNat r1) - 0) (List.drop 0 b1)))) + (List.length (List.take ((List.length b1) - (Int.toNat (IntKind.wrap .i64 (r1 + (1))))) (List.drop (0 + (Int.toNat (IntKind.wrap .i64 (r1 + (1))))) b1)))) 2 none), (.d (.int .i64 (IntKind.wrap .i64 (s9 + (1))))), .top, .top, .top, .top, .top, .top, .top, .top, .top, .top, .top, .top, .top, .top, .top, .top, .top, .top, .top, .top, .top, .top, .top, .top, .top, .top, .top, .top, .top, .top, .top, .top, .top, .top, .top, .top, .top, .top, .top, .top, .top, .top, .top, .top, .top, .top, .top, .top, .top, .top, .top, .top, .top, .top, .top, .top, .top, .top, .top, .top, .top, .top, .top, .top, .top, .top, .top, .top, .top, .top, .top, .top, .top, .top, .top, .top, .top, .top, .top, .top, .top, .top, .top, .top, .top, .top, .top, .top, .top, .top, .top, .top, .top, .top, .top, .top, .top, .top, .top, .top, .top, .top, .top, .top, .top, .top, .top, .top, .top, .top, .top], [(.cells [(.d (.sl (.int .i64) x1.1)), (.d (.sl (.int .i64) x1.2))]), (.arr (.pair .str .str) (([(List.getD b1 (0 + (Int.toNat r1)) (([] : List UInt8), ([] : List UInt8)))] ++ (List.take ((Int.toNat r1) - 0) (List.drop 0 b1))) ++ (List.take ((List.length b1) - (Int.toNat (IntKind.wrap .i64 (r1 + (1))))) (List.drop (0 + (Int.toNat (IntKind.wrap .i64 (r1 + (1))))) b1))) true)])) := M.run_of_path _ [true, true, true, true, true, true, true, true, true, true, true, true, true, true, true, true, true, true, true, true, true, true, true, true] _ _ (by kernel_rfl) (all_t c0 (all_t c0 (all_t c0 (all_t c0 (all_t c4 (all_t c5 (all_t c0 (all_t c7 (all_t c8 (all_t c9 (all_t c10 (all_t rfl (all_t rfl (all_t rfl (all_t c14 (all_t (show (decide (0 < (List.length b1)) || true) = true from Bool.or_true _) (all_t c16 (all_t c17 (all_t rfl (all_t c19 (all_t c20 (all_t c21 (all_t c22 (all_t c23 all_nil))))))))))))))))))))))))
  refine turns_step ht (turns_eq ?_ ?_ ih)
  · unfold l5_0H
    first | (simp; done) | (simp [Nat.add_assoc]; done) | (simp; omega)
  · unfold l5_0B
    simp
set_option maxHeartbeats 20000000 in
theorem l5_0_w1 (m n : Nat) (x1 : (List Int) × (List Int)) (x2 : List Int) (s7 : List ((List UInt8) × (List UInt8))) (s9 : Int) (b1 : List ((List UInt8) × (List UInt8))) (r : AEx × Env × Boxes) (c0 : decide (s9 < (((List.length x2) : Nat) : Int)) = true) (c4 : decide ((((List.length b1) : Nat) : Int) > 1) = true) (c5 : decide (0 ≤ s9) = true) (c7 : ((decide (0 ≤ (IntKind.wrap .i64 ((((List.length b1) : Nat) : Int) - (1)))) && decide ((IntKind.wrap .i64 ((((List.length b1) : Nat) : Int) - (1))) ≤ 2305843009213693951)) && decide (((IntKind.wrap .i64 ((((List.length b1) : Nat) : Int) - (1))) - (0)) ≤ 2305843009213693951)) = true) (c8 : decide (0 ≤ (withinI (List.getD x2 (Int.toNat s9) 0) (0) (IntKind.wrap .i64 ((((List.length b1) : Nat) : Int) - (1))))) = true) (c9 : decide ((withinI (List.getD x2 (Int.toNat s9) 0) (0) (IntKind.wrap .i64 ((((List.length b1) : Nat) : Int) - (1)))) < (((List.length b1) : Nat) : Int)) = true) (c10 : decide ((0 + (Int.toNat (withinI (List.getD x2 (Int.toNat s9) 0) (0) (IntKind.wrap .i64 ((((List.length b1) : Nat) : Int) - (1)))))) < (List.length b1)) = true) (c14 : (decide (0 ≤ (withinI (List.getD x2 (Int.toNat s9) 0) (0) (IntKind.wrap .i64 ((((List.length b1) : Nat) : Int) - (1))))) && decide ((withinI (List.getD x2 (Int.toNat s9) 0) (0) (IntKind.wrap .i64 ((((List.length b1) : Nat) : Int) - (1)))) ≤ (((List.length b1) : Nat) : Int))) = true) (c16 : decide ((0 + ((Int.toNat (withinI (List.getD x2 (Int.toNat s9) 0) (0) (IntKind.wrap .i64 ((((List.length b1) : Nat) : Int) - (1))))) - 0)) ≤ (List.length b1)) = true) (c17 : decide (((1 + (List.length (List.take ((Int.toNat (withinI (List.getD x2 (Int.toNat s9) 0) (0) (IntKind.wrap .i64 ((((List.length b1) : Nat) : Int) - (1))))) - 0) (List.drop 0 b1)))) * 32) ≤ 70368744177664) = true) (c19 : (decide (0 ≤ (IntKind.wrap .i64 ((withinI (List.getD x2 (Int.toNat s9) 0) (0) (IntKind.wrap .i64 ((((List.length b1) : Nat) : Int) - (1)))) + (1)))) && decide ((IntKind.wrap .i64 ((withinI (List.getD x2 (Int.toNat s9) 0) (0) (IntKind.wrap .i64 ((((List.length b1) : Nat) : Int) - (1)))) + (1))) ≤ (((List.length b1) : Nat) : Int))) = true) (c20 : ¬ (decide ((Int.toNat (IntKind.wrap .i64 ((withinI (List.getD x2 (Int.toNat s9) 0) (0) (IntKind.wrap .i64 ((((List.length b1) : Nat) : Int) - (1)))) + (1)))) < (List.length b1)) || decide ((Int.toNat (IntKind.wrap .i64 ((withinI (List.getD x2 (Int.toNat s9) 0) (0) (IntKind.wrap .i64 ((((List.length b1) : Nat) : Int) - (1)))) + (1)))) = 0)) = true) (c21 : decide ((((1 + (List.length (List.take ((Int.toNat (withinI (List.getD x2 (Int.toNat s9) 0) (0) (IntKind.wrap .i64 ((((List.length b1) : Nat) : Int) - (1))))) - 0) (List.drop 0 b1)))) + 0) * 32) ≤ 70368744177664) = true) (c22 : decide ((1 + (List.length (List.take ((Int.toNat (withinI (List.getD x2 (Int.toNat s9) 0) (0) (IntKind.wrap .i64 ((((List.length b1) : Nat) : Int) - (1))))) - 0) (List.drop 0 b1)))) = (List.length ([(List.getD b1 (0 + (Int.toNat (withinI (List.getD x2 (Int.toNat s9) 0) (0) (IntKind.wrap .i64 ((((List.length b1) : Nat) : Int) - (1)))))) (([] : List UInt8), ([] : List UInt8)))] ++ (List.take ((Int.toNat (withinI (List.getD x2 (Int.toNat s9) 0) (0) (IntKind.wrap .i64 ((((List.length b1) : Nat) : Int) - (1))))) - 0) (List.drop 0 b1))))) = true) (ih : (turns (hds 5 916) 0 916 (evC byref (evCall F S21 (m + 24)) (m + 24) 0 (hds 5) lbl5_0) n (l5_0H x1 x2 s7 ((IntKind.wrap .i64 (s9 + (1)))) ((([(List.getD b1 (0 + (Int.toNat (withinI (List.getD x2 (Int.toNat s9) 0) (0) (IntKind.wrap .i64 ((((List.length b1) : Nat) : Int) - (1)))))) (([] : List UInt8), ([] : List UInt8)))] ++ (List.take ((Int.toNat (withinI (List.getD x2 (Int.toNat s9) 0) (0) (IntKind.wrap .i64 ((((List.length b1) : Nat) : Int) - (1))))) - 0) (List.drop 0 b1))) ++ ([] : List ((List UInt8) × (List UInt8)))))) (l5_0B x1 x2 s7 ((IntKind.wrap .i64 (s9 + (1)))) ((([(List.getD b1 (0 + (Int.toNat (withinI (List.getD x2 (Int.toNat s9) 0) (0) (IntKind.wrap .i64 ((((List.length b1) : Nat) : Int) - (1)))))) (([] : List UInt8), ([] : List UInt8)))] ++ (List.take ((Int.toNat (withinI (List.getD x2 (Int.toNat s9) 0) (0) (IntKind.wrap .i64 ((((List.length b1) : Nat) : Int) - (1))))) - 0) (List.drop 0 b1))) ++ ([] : List ((List UInt8) × (List UInt8))))))).run = some r) : (turns (hds 5 916) 0 916 (evC byref (evCall F S21 (m + 24)) (m + 24) 0 (hds 5) lbl5_0) (n + 1) (l5_0H x1 x2 s7 s9 b1) (l5_0B x1 x2 s7 s9 b1)).run = some r := by
  have ht : (turn (hds 5 916) 0 916 (evC byref (evCall F S21 (m + 24)) (m + 24) 0 (hds 5) lbl5_0) (l5_0H x1 x2 s7 s9 b1) (l5_0B x1 x2 s7 s9 b1)).run = some (let r1 := (withinI (List.getD x2 (Int.toNat s9) 0) (0) (IntKind.wrap .i64 ((((List.length b1) : Nat) : Int) - (1)))); (.normal, [.top, .top, (.d (.sl (.int .i64) x2)), .top, (.ptr 0 0), .top, .top, (.d (.sl (.pair .str .str) s7)), (.sr 1 0 ((1 + (List.length (List.take ((Int.toNat r1) - 0) (List.drop 0 b1)))) + 0) 2 none), (.d (.int .i64 (IntKind.wrap .i64 (s9 + (1))))), .top, .top, .top, .top, .top, .top, .top, .top, .top, .top, .top, .top, .top, .top, .top, .top, .top, .top, .top, .top, .top, .top, .top, .top, .top, .top, .top, .top, .top, .top, .top, .top, .top, .top, .top, .top, .top, .top, .top, .top, .top, .top, .top, .top, .top, .top, .top, .top, .top, .top, .top, .top, .top, .top, .top, .top, .top, .top, .top, .top, .top, .top, .top, .top, .top, .top, .top, .top, .top, .top, .top, .top, .top, .top, .top, .top, .top, .top, .top, .top, .top, .top, .top, .top, .top, .top, .top, .top, .top, .top, .top, .top, .top, .top, .top, .top, .top, .top, .top, .top, .top, .top, .top, .top, .top, .top, .top, .top, .top, .top, .top], [(.cells [(.d (.sl (.int .i64) x1.1)), (.d (.sl (.int .i64) x1.2))]), (.arr (.pair .str .str) (([(List.getD b1 (0 + (Int.toNat r1)) (([] : List UInt8), ([] : List UInt8)))] ++ (List.take ((Int.toNat r1) - 0) (List.drop 0 b1))) ++ ([] : List ((List UInt8) × (List UInt8)))) true)])) := M.run_of_path _ [true, true, true, true, true, true, true, true, true, true, true, true, true, true, true, true, true, true, true, true, false, true, true] _ _ (by kernel_rfl) (all_t c0 (all_t c0 (all_t c0 (all_t c0 (all_t c4 (all_t c5 (all_t c0 (all_t c7 (all_t c8 (all_t c9 (all_t c10 (all_t rfl (all_t rfl (all_t rfl (all_t c14 (all_t (show (decide (0 < (List.length b1)) || true) = true from Bool.or_true _) (all_t c16 (all_t c17 (all_t rfl (all_t c19 (all_f c20 (all_t c21 (all_t c22 all_nil)))))))))))))))))))))))
  refine turns_step ht (turns_eq ?_ ?_ ih)
  · unfold l5_0H
    first | (simp; done) | (simp [Nat.add_assoc]; done) | (simp; omega)
  · unfold l5_0B
    simp
set_option maxHeartbeats 20000000 in
theorem l5_0_w2 (m n : Nat) (x1 : (List Int) × (List Int)) (x2 : List Int) (s7 : List ((List UInt8) × (List UInt8))) (s9 : Int) (b1 : List ((List UInt8) × (List UInt8))) (c0 : decide (s9 < (((List.length x2) : Nat) : Int)) = true) (c4 : ¬ decide ((((List.length b1) : Nat) : Int) > 1) = true) : (turns (hds 5 916) 0 916 (evC byref (evCall F S21 (m + 24)) (m + 24) 0 (hds 5) lbl5_0) (n + 1) (l5_0H x1 x2 s7 s9 b1) (l5_0B x1 x2 s7 s9 b1)).run = some (.exit 0, [.top, .top, (.d (.sl (.int .i64) x2)), .top, (.ptr 0 0), .top, .top, (.d (.sl (.pair .str .str) s7)), (.sr 1 0 (List.length b1) 2 none), (.d (.int .i64 s9)), .top, .top, .top, .top, .top, .top, .top, .top, .top, .top, .top, .top, (.d (.int .i64 s9)), (.d (.sl (.int .i64) x2)), (.d (.int .i64 (((List.length x2) : Nat) : Int))), (.d (.bool (decide (s9 < (((List.length x2) : Nat) : Int))))), (.d (.bool (decide (s9 < (((List.length x2) : Nat) : Int))))), (.sr 1 0 (List.length b1) 2 none), (.d (.int .i64 (((List.length b1) : Nat) : Int))), (.d (.bool (decide ((((List.length b1) : Nat) : Int) > 1)))), (.d (.bool (decide ((((List.length b1) : Nat) : Int) > 1)))), .top, .top, .top, .top, .top, .top, .top, .top, .top, .top, .top, .top, .top, .top, .top, .top, .top, .top, .top, .top, .top, .top, .top, .top, .top, .top, .top, .top, .top, .top, .top, .top, .top, .top, .top, .top, .top, .top, .top, .top, .top, .top, .top, .top, .top, .top, .top, .top, .top, .top, .top, .top, .top, .top, .top, .top, .top, .top, .top, .top, .top, .top, .top, .top, .top, .top, .top, .top, .top, .top, .top, .top, .top, .top, .top, .top, .top, .top, .top, .top, .top, .top, .top, .top, .top, .top, .top, .top, .top, .top], [(.cells [(.d (.sl (.int .i64) x1.1)), (.d (.sl (.int .i64) x1.2))]), (.arr (.pair .str .str) b1 true)]) := by
  exact turns_last (by simp) (M.run_of_path _ [true, true, true, true, false] _ _ (by kernel_rfl) (all_t c0 (all_t c0 (all_t c0 (all_t c0 (all_f c4 all_nil)))))) 
set_option maxHeartbeats 20000000 in
theorem l5_0_w3 (m n : Nat) (x1 : (List Int) × (List Int)) (x2 : List Int) (s7 : List ((List UInt8) × (List UInt8))) (s9 : Int) (b1 : List ((List UInt8) × (List UInt8))) (c0 : ¬ decide (s9 < (((List.length x2) : Nat) : Int)) = true) : (turns (hds 5 916) 0 916 (evC byref (evCall F S21 (m + 24)) (m + 24) 0 (hds 5) lbl5_0) (n + 1) (l5_0H x1 x2 s7 s9 b1) (l5_0B x1 x2 s7 s9 b1)).run = some (.exit 0, [.top, .top, (.d (.sl (.int .i64) x2)), .top, (.ptr 0 0), .top, .top, (.d (.sl (.pair .str .str) s7)), (.sr 1 0 (List.length b1) 2 none), (.d (.int .i64 s9)), .top, .top, .top, .top, .top, .top, .top, .top, .top, .top, .top, .top, (.d (.int .i64 s9)), (.d (.sl (.int .i64) x2)), (.d (.int .i64 (((List.length x2) : Nat) : Int))), (.d (.bool (decide (s9 < (((List.length x2) : Nat) : Int))))), (.d (.bool (decide (s9 < (((List.length x2) : Nat) : Int))))), (.tup []), (.tup []), (.tup []), (.d (.bool false)), .top, .top, .top, .top, .top, .top, .top, .top, .top, .top, .top, .top, .top, .top, .top, .top, .top, .top, .top, .top, .top, .top, .top, .top, .top, .top, .top, .top, .top, .top, .top, .top, .top, .top, .top, .top, .top, .top, .top, .top, .top, .top, .top, .top, .top, .top, .top, .top, .top, .top, .top, .top, .top, .top, .top, .top, .top, .top, .top, .top, .top, .top, .top, .top, .top, .top, .top, .top, .top, .top, .top, .top, .top, .top, .top, .top, .top, .top, .top, .top, .top, .top, .top, .top, .top, .top, .top, .top, .top, .top], [(.cells [(.d (.sl (.int .i64) x1.1)), (.d (.sl (.int .i64) x1.2))]), (.arr (.pair .str .str) b1 true)]) := by
  exact turns_last (by simp) (M.run_of_path _ [false, false, false, false, false] _ _ (by kernel_rfl) (all_f c0 (all_f c0 (all_f c0 (all_f c0 (all_f Bool.false_ne_true all_nil)))))) 

set_option maxHeartbeats 20000000 in
theorem l5_0_step (m n : Nat) (ih : ∀ (x1 : (List Int) × (List Int)) (x2 : List Int) (s7 : List ((List UInt8) × (List UInt8))) (s9 : Int) (b1 : List ((List UInt8) × (List UInt8))) (q : Nat × Int × (List ((List UInt8) × (List UInt8)))), l5_0 m n x1 x2 s7 s9 b1 = some q → (turns (hds 5 916) 0 916 (evC byref (evCall F S21 (m + 24)) (m + 24) 0 (hds 5) lbl5_0) n (l5_0H x1 x2 s7 s9 b1) (l5_0B x1 x2 s7 s9 b1)).run = some (l5_0E (x1) (x2) (s7) (q.2.1) (q.2.2) q.1)) (x1 : (List Int) × (List Int)) (x2 : List Int) (s7 : List ((List UInt8) × (List UInt8))) (s9 : Int) (b1 : List ((List UInt8) × (List UInt8))) (q : Nat × Int × (List ((List UInt8) × (List UInt8)))) (h : l5_0 m (n + 1) x1 x2 s7 s9 b1 = some q) : (turns (hds 5 916) 0 916 (evC byref (evCall F S21 (m + 24)) (m + 24) 0 (hds 5) lbl5_0) (n + 1) (l5_0H x1 x2 s7 s9 b1) (l5_0B x1 x2 s7 s9 b1)).run = some (l5_0E (x1) (x2) (s7) (q.2.1) (q.2.2) q.1) := by
  rw [l5_0] at h
  refine ite_cases h (fun c0 h => ?_) (fun c0 h => ?_)
  · skip
    refine ite_cases h (fun c4 h => ?_) (fun c4 h => ?_)
    · skip
      refine ite_cases h (fun c5 h => ?_) (fun c5 h => ?_)
      · skip
        refine ite_cases h (fun c7 h => ?_) (fun c7 h => ?_)
        · skip
          refine ite_cases h (fun c8 h => ?_) (fun c8 h => ?_)
          · skip
            refine ite_cases h (fun c9 h => ?_) (fun c9 h => ?_)
            · skip
              refine ite_cases h (fun c10 h => ?_) (fun c10 h => ?_)
              · skip
                refine ite_cases h (fun c14 h => ?_) (fun c14 h => ?_)
                · skip
                  refine ite_cases h (fun c16 h => ?_) (fun c16 h => ?_)
                  · skip
                    refine ite_cases h (fun c17 h => ?_) (fun c17 h => ?_)
                    · skip
                      refine ite_cases h (fun c19 h => ?_) (fun c19 h => ?_)
                      · skip
                        refine ite_cases h (fun c20 h => ?_) (fun c20 h => ?_)
                        · skip
                          refine ite_cases h (fun c21 h => ?_) (fun c21 h => ?_)
                          · skip
                            refine ite_cases h (fun c22 h => ?_) (fun c22 h => ?_)
                            · skip
                              refine ite_cases h (fun c23 h => ?_) (fun c23 h => ?_)
                              · skip
                                exact l5_0_w0 m n x1 x2 s7 s9 b1 _ c0 c4 c5 c7 c8 c9 c10 c14 c16 c17 c19 c20 c21 c22 c23 (ih _ _ _ _ _ q h)
                              · skip
                                cases h
                            · skip
                              cases h
                          · skip
                            cases h
                        · skip
                          refine ite_cases h (fun c21 h => ?_) (fun c21 h => ?_)
                          · skip
                            refine ite_cases h (fun c22 h => ?_) (fun c22 h => ?_)
                            · skip
                              exact l5_0_w1 m n x1 x2 s7 s9 b1 _ c0 c4 c5 c7 c8 c9 c10 c14 c16 c17 c19 c20 c21 c22 (ih _ _ _ _ _ q h)
                            · skip
                              cases h
                          · skip
                            cases h
                      · skip
                        cases h
                    · skip
                      cases h
                  · skip
                    cases h
                · skip
                  cases h
              · skip
                cases h
            · skip
              cases h
          · skip
            cases h
        · skip
          cases h
      · skip
        cases h
    · skip
      cases h
      exact l5_0_w2 m n x1 x2 s7 s9 b1 c0 c4
  · skip
    cases h
    exact l5_0_w3 m n x1 x2 s7 s9 b1 c0
set_option maxHeartbeats 20000000 in
theorem l5_0_ok (m : Nat) : ∀ (n : Nat) (x1 : (List Int) × (List Int)) (x2 : List Int) (s7 : List ((List UInt8) × (List UInt8))) (s9 : Int) (b1 : List ((List UInt8) × (List UInt8))) (q : Nat × Int × (List ((List UInt8) × (List UInt8)))), l5_0 m n x1 x2 s7 s9 b1 = some q → (turns (hds 5 916) 0 916 (evC byref (evCall F S21 (m + 24)) (m + 24) 0 (hds 5) lbl5_0) n (l5_0H x1 x2 s7 s9 b1) (l5_0B x1 x2 s7 s9 b1)).run = some (l5_0E (x1) (x2) (s7) (q.2.1) (q.2.2) q.1)
  | 0, x1, x2, s7, s9, b1, q, h => by cases h
  | n + 1, x1, x2, s7, s9, b1, q, h => l5_0_step m n (l5_0_ok m n) x1 x2 s7 s9 b1 q h

def l5_1 (m : Nat) : Nat → (List Int) × (List Int) → List ((List UInt8) × (List UInt8)) → List ((List UInt8) × (List UInt8)) → Int → Int → List ((List UInt8) × (List UInt8)) → Option (Nat × (List ((List UInt8) × (List UInt8))) × Int)
  | 0, _, _, _, _, _, _ => none
  | n + 1, x1, s7, s11, s58, s59, b1 => if decide (s59 < s58) = true then
      if decide (0 ≤ s59) = true then
        if decide (s59 < (((List.length b1) : Nat) : Int)) = true then
          if decide ((0 + (Int.toNat s59)) < (List.length b1)) = true then
            if decide (List.length s11 ≤ 1000000) = true then
              l5_1 m n x1 s7 ((withG s11 (List.getD b1 (0 + (Int.toNat s59)) (([] : List UInt8), ([] : List UInt8))).1 (List.getD b1 (0 + (Int.toNat s59)) (([] : List UInt8), ([] : List UInt8))).2)) s58 ((IntKind.wrap .i64 (s59 + (1)))) b1
            else
              none
          else
            none
        else
          none
      else
        none
    else
      some (0, s11, s59)
def l5_1D : Nat × (List ((List UInt8) × (List UInt8))) × Int := (0, [], 0)
@[reducible] def l5_1R (m n : Nat) (x1 : (List Int) × (List Int)) (s7 : List ((List UInt8) × (List UInt8))) (s11 : List ((List UInt8) × (List UInt8))) (s58 : Int) (s59 : Int) (b1 : List ((List UInt8) × (List UInt8))) : Nat × (List ((List UInt8) × (List UInt8))) × Int := Option.getD (l5_1 m n x1 s7 s11 s58 s59 b1) l5_1D
def l5_1H (x1 : (List Int) × (List Int)) (s7 : List ((List UInt8) × (List UInt8))) (s11 : List ((List UInt8) × (List UInt8))) (s58 : Int) (s59 : Int) (b1 : List ((List UInt8) × (List UInt8))) : Env := [.top, .top, .top, .top, (.ptr 0 0), .top, .top, (.d (.sl (.pair .str .str) s7)), (.sr 1 0 (List.length b1) 2 none), .top, .top, (.d (.sl (.pair .str .str) s11)), .top, .top, .top, .top, .top, .top, .top, .top, .top, .top, .top, .top, .top, .top, .top, .top, .top, .top, .top, .top, .top, .top, .top, .top, .top, .top, .top, .top, .top, .top, .top, .top, .top, .top, .top, .top, .top, .top, .top, .top, .top, .top, .top, .top, .top, (.sr 1 0 (List.length b1) 2 none), (.d (.int .i64 s58)), (.d (.int .i64 s59)), .top, .top, .top, .top, .top, .top, .top, .top, .top, .top, .top, .top, .top, .top, .top, .top, .top, .top, .top, .top, .top, .top, .top, .top, .top, .top, .top, .top, .top, .top, .top, .top, .top, .top, .top, .top, .top, .top, .top, .top, .top, .top, .top, .top, .top, .top, .top, .top, .top, .top, .top, .top, .top, .top, .top, .top, .top, .top, .top, .top, .top]
def l5_1B (x1 : (List Int) × (List Int)) (s7 : List ((List UInt8) × (List UInt8))) (s11 : List ((List UInt8) × (List UInt8))) (s58 : Int) (s59 : Int) (b1 : List ((List UInt8) × (List UInt8))) : Boxes := [(.cells [(.d (.sl (.int .i64) x1.1)), (.d (.sl (.int .i64) x1.2))]), (.arr (.pair .str .str) b1 true)]
def l5_1E (x1 : (List Int) × (List Int)) (s7 : List ((List UInt8) × (List UInt8))) (s11 : List ((List UInt8) × (List UInt8))) (s58 : Int) (s59 : Int) (b1 : List ((List UInt8) × (List UInt8))) : Nat → AEx × Env × Boxes
  | _ => (.exit 2, [.top, .top, .top, .top, (.ptr 0 0), .top, .top, (.d (.sl (.pair .str .str) s7)), (.sr 1 0 (List.length b1) 2 none), .top, .top, (.d (.sl (.pair .str .str) s11)), .top, .top, .top, .top, .top, .top, .top, .top, .top, .top, .top, .top, .top, .top, .top, .top, .top, .top, .top, .top, .top, .top, .top, .top, .top, .top, .top, .top, .top, .top, .top, .top, .top, .top, .top, .top, .top, .top, .top, .top, .top, .top, .top, .top, .top, (.sr 1 0 (List.length b1) 2 none), (.d (.int .i64 s58)), (.d (.int .i64 s59)), (.d (.bool (decide (s59 < s58)))), .top, .top, .top, .top, .top, .top, .top, .top, .top, .top, .top, .top, .top, .top, .top, .top, .top, .top, .top, .top, .top, .top, .top, .top, .top, .top, .top, .top, .top, .top, .top, .top, .top, .top, .top, .top, .top, .top, .top, .top, .top, .top, .top, .top, .top, .top, .top, .top, .top, .top, .top, .top, .top, .top, .top, .top, .top, .top, .top, .top], [(.cells [(.d (.sl (.int .i64) x1.1)), (.d (.sl (.int .i64) x1.2))]), (.arr (.pair .str .str) b1 true)])
noncomputable def lbl5_1 : AC := loopBody 1008806316530993552 body5

set_option maxHeartbeats 20000000 in
theorem l5_1_w0 (m n : Nat) (x1 : (List Int) × (List Int)) (s7 : List ((List UInt8) × (List UInt8))) (s11 : List ((List UInt8) × (List UInt8))) (s58 : Int) (s59 : Int) (b1 : List ((List UInt8) × (List UInt8))) (r : AEx × Env × Boxes) (c0 : decide (s59 < s58) = true) (c1 : decide (0 ≤ s59) = true) (c2 : decide (s59 < (((List.length b1) : Nat) : Int)) = true) (c3 : decide ((0 + (Int.toNat s59)) < (List.length b1)) = true) (c4 : decide (List.length s11 ≤ 1000000) = true) (ih : (turns (hds 5 1008806316530993552) 0 1008806316530993552 (evC byref (evCall F S21 (m + 24)) (m + 24) 0 (hds 5) lbl5_1) n (l5_1H x1 s7 ((withG s11 (List.getD b1 (0 + (Int.toNat s59)) (([] : List UInt8), ([] : List UInt8))).1 (List.getD b1 (0 + (Int.toNat s59)) (([] : List UInt8), ([] : List UInt8))).2)) s58 ((IntKind.wrap .i64 (s59 + (1)))) b1) (l5_1B x1 s7 ((withG s11 (List.getD b1 (0 + (Int.toNat s59)) (([] : List UInt8), ([] : List UInt8))).1 (List.getD b1 (0 + (Int.toNat s59)) (([] : List UInt8), ([] : List UInt8))).2)) s58 ((IntKind.wrap .i64 (s59 + (1)))) b1)).run = some r) : (turns (hds 5 1008806316530993552) 0 1008806316530993552 (evC byref (evCall F S21 (m + 24)) (m + 24) 0 (hds 5) lbl5_1) (n + 1) (l5_1H x1 s7 s11 s58 s59 b1) (l5_1B x1 s7 s11 s58 s59 b1)).run = some r := by
  exact turns_step (M.run_of_path _ [true, true, true, true, true] _ _ (by kernel_rfl) (all_t c0 (all_t c1 (all_t c2 (all_t c3 (all_t c4 all_nil)))))) ih
set_option maxHeartbeats 20000000 in
theorem l5_1_w1 (m n : Nat) (x1 : (List Int) × (List Int)) (s7 : List ((List UInt8) × (List UInt8))) (s11 : List ((List UInt8) × (List UInt8))) (s58 : Int) (s59 : Int) (b1 : List ((List UInt8) × (List UInt8))) (c0 : ¬ decide (s59 < s58) = true) : (turns (hds 5 1008806316530993552) 0 1008806316530993552 (evC byref (evCall F S21 (m + 24)) (m + 24) 0 (hds 5) lbl5_1) (n + 1) (l5_1H x1 s7 s11 s58 s59 b1) (l5_1B x1 s7 s11 s58 s59 b1)).run = some (.exit 2, [.top, .top, .top, .top, (.ptr 0 0), .top, .top, (.d (.sl (.pair .str .str) s7)), (.sr 1 0 (List.length b1) 2 none), .top, .top, (.d (.sl (.pair .str .str) s11)), .top, .top, .top, .top, .top, .top, .top, .top, .top, .top, .top, .top, .top, .top, .top, .top, .top, .top, .top, .top, .top, .top, .top, .top, .top, .top, .top, .top, .top, .top, .top, .top, .top, .top, .top, .top, .top, .top, .top, .top, .top, .top, .top, .top, .top, (.sr 1 0 (List.length b1) 2 none), (.d (.int .i64 s58)), (.d (.int .i64 s59)), (.d (.bool (decide (s59 < s58)))), .top, .top, .top, .top, .top, .top, .top, .top, .top, .top, .top, .top, .top, .top, .top, .top, .top, .top, .top, .top, .top, .top, .top, .top, .top, .top, .top, .top, .top, .top, .top, .top, .top, .top, .top, .top, .top, .top, .top, .top, .top, .top, .top, .top, .top, .top, .top, .top, .top, .top, .top, .top, .top, .top, .top, .top, .top, .top, .top, .top], [(.cells [(.d (.sl (.int .i64) x1.1)), (.d (.sl (.int .i64) x1.2))]), (.arr (.pair .str .str) b1 true)]) := by
  exact turns_last (by simp) (M.run_of_path _ [false] _ _ (by kernel_rfl) (all_f c0 all_nil)) 

set_option maxHeartbeats 20000000 in
theorem l5_1_step (m n : Nat) (ih : ∀ (x1 : (List Int) × (List Int)) (s7 : List ((List UInt8) × (List UInt8))) (s11 : List ((List UInt8) × (List UInt8))) (s58 : Int) (s59 : Int) (b1 : List ((List UInt8) × (List UInt8))) (q : Nat × (List ((List UInt8) × (List UInt8))) × Int), l5_1 m n x1 s7 s11 s58 s59 b1 = some q → (turns (hds 5 1008806316530993552) 0 1008806316530993552 (evC byref (evCall F S21 (m + 24)) (m + 24) 0 (hds 5) lbl5_1) n (l5_1H x1 s7 s11 s58 s59 b1) (l5_1B x1 s7 s11 s58 s59 b1)).run = some (l5_1E (x1) (s7) (q.2.1) (s58) (q.2.2) (b1) q.1)) (x1 : (List Int) × (List Int)) (s7 : List ((List UInt8) × (List UInt8))) (s11 : List ((List UInt8) × (List UInt8))) (s58 : Int) (s59 : Int) (b1 : List ((List UInt8) × (List UInt8))) (q : Nat × (List ((List UInt8) × (List UInt8))) × Int) (h : l5_1 m (n + 1) x1 s7 s11 s58 s59 b1 = some q) : (turns (hds 5 1008806316530993552) 0 1008806316530993552 (evC byref (evCall F S21 (m + 24)) (m + 24) 0 (hds 5) lbl5_1) (n + 1) (l5_1H x1 s7 s11 s58 s59 b1) (l5_1B x1 s7 s11 s58 s59 b1)).run = some (l5_1E (x1) (s7) (q.2.1) (s58) (q.2.2) (b1) q.1) := by
  rw [l5_1] at h
  refine ite_cases h (fun c0 h => ?_) (fun c0 h => ?_)
  · skip
    refine ite_cases h (fun c1 h => ?_) (fun c1 h => ?_)
    · skip
      refine ite_cases h (fun c2 h => ?_) (fun c2 h => ?_)
      · skip
        refine ite_cases h (fun c3 h => ?_) (fun c3 h => ?_)
        · skip
          refine ite_cases h (fun c4 h => ?_) (fun c4 h => ?_)
          · skip
            exact l5_1_w0 m n x1 s7 s11 s58 s59 b1 _ c0 c1 c2 c3 c4 (ih _ _ _ _ _ _ q h)
          · skip
            cases h
        · skip
          cases h
      · skip
        cases h
    · skip
      cases h
  · skip
    cases h
    exact l5_1_w1 m n x1 s7 s11 s58 s59 b1 c0
set_option maxHeartbeats 20000000 in
theorem l5_1_ok (m : Nat) : ∀ (n : Nat) (x1 : (List Int) × (List Int)) (s7 : List ((List UInt8) × (List UInt8))) (s11 : List ((List UInt8) × (List UInt8))) (s58 : Int) (s59 : Int) (b1 : List ((List UInt8) × (List UInt8))) (q : Nat × (List ((List UInt8) × (List UInt8))) × Int), l5_1 m n x1 s7 s11 s58 s59 b1 = some q → (turns (hds 5 1008806316530993552) 0 1008806316530993552 (evC byref (evCall F S21 (m + 24)) (m + 24) 0 (hds 5) lbl5_1) n (l5_1H x1 s7 s11 s58 s59 b1) (l5_1B x1 s7 s11 s58 s59 b1)).run = some (l5_1E (x1) (s7) (q.2.1) (s58) (q.2.2) (b1) q.1)
  | 0, x1, s7, s11, s58, s59, b1, q, h => by cases h
  | n + 1, x1, s7, s11, s58, s59, b1, q, h => l5_1_step m n (l5_1_ok m n) x1 s7 s11 s58 s59 b1 q h

def l5_2 (m : Nat) : Nat → (List Int) × (List Int) → List ((List UInt8) × (List UInt8)) → List ((List UInt8) × (List UInt8)) → List ((List UInt8) × (List UInt8)) → Int → Int → Option (Nat × (List ((List UInt8) × (List UInt8))) × Int)
  | 0, _, _, _, _, _, _ => none
  | n + 1, x1, s7, s11, s74, s75, s76 => if decide (s76 < s75) = true then
      if decide (0 ≤ s76) = true then
        if decide (s76 < (((List.length s74) : Nat) : Int)) = true then
          if keepPre s11 [(List.getD s74 (Int.toNat s76) (([] : List UInt8), ([] : List UInt8))).1] = true then
            l5_2 m n x1 s7 ((List.take (List.length (dropG s11 [(List.getD s74 (Int.toNat s76) (([] : List UInt8), ([] : List UInt8))).1])) (List.drop 0 (dropG s11 [(List.getD s74 (Int.toNat s76) (([] : List UInt8), ([] : List UInt8))).1])))) s74 s75 ((IntKind.wrap .i64 (s76 + (1))))
          else
            none
        else
          none
      else
        none
    else
      some (0, s11, s76)
def l5_2D : Nat × (List ((List UInt8) × (List UInt8))) × Int := (0, [], 0)
@[reducible] def l5_2R (m n : Nat) (x1 : (List Int) × (List Int)) (s7 : List ((List UInt8) × (List UInt8))) (s11 : List ((List UInt8) × (List UInt8))) (s74 : List ((List UInt8) × (List UInt8))) (s75 : Int) (s76 : Int) : Nat × (List ((List UInt8) × (List UInt8))) × Int := Option.getD (l5_2 m n x1 s7 s11 s74 s75 s76) l5_2D
def l5_2H (x1 : (List Int) × (List Int)) (s7 : List ((List UInt8) × (List UInt8))) (s11 : List ((List UInt8) × (List UInt8))) (s74 : List ((List UInt8) × (List UInt8))) (s75 : Int) (s76 : Int) : Env := [.top, .top, .top, .top, (.ptr 0 0), .top, .top, (.d (.sl (.pair .str .str) s7)), .top, .top, .top, (.d (.sl (.pair .str .str) s11)), .top, .top, .top, .top, .top, .top, .top, .top, .top, .top, .top, .top, .top, .top, .top, .top, .top, .top, .top, .top, .top, .top, .top, .top, .top, .top, .top, .top, .top, .top, .top, .top, .top, .top, .top, .top, .top, .top, .top, .top, .top, .top, .top, .top, .top, .top, .top, .top, .top, .top, .top, .top, .top, .top, .top, .top, .top, .top, .top, .top, .top, .top, (.d (.sl (.pair .str .str) s74)), (.d (.int .i64 s75)), (.d (.int .i64 s76)), .top, .top, .top, .top, .top, .top, .top, .top, .top, .top, .top, .top, .top, .top, .top, .top, .top, .top, .top, .top, .top, .top, .top, .top, .top, .top, .top, .top, .top, .top, .top, .top, .top, .top, .top, .top, .top, .top, .top, .top, .top, .top, .top, .top]
def l5_2B (x1 : (List Int) × (List Int)) (s7 : List ((List UInt8) × (List UInt8))) (s11 : List ((List UInt8) × (List UInt8))) (s74 : List ((List UInt8) × (List UInt8))) (s75 : Int) (s76 : Int) : Boxes := [(.cells [(.d (.sl (.int .i64) x1.1)), (.d (.sl (.int .i64) x1.2))])]
def l5_2E (x1 : (List Int) × (List Int)) (s7 : List ((List UInt8) × (List UInt8))) (s11 : List ((List UInt8) × (List UInt8))) (s74 : List ((List UInt8) × (List UInt8))) (s75 : Int) (s76 : Int) : Nat → AEx × Env × Boxes
  | _ => (.exit 4, [.top, .top, .top, .top, (.ptr 0 0), .top, .top, (.d (.sl (.pair .str .str) s7)), .top, .top, .top, (.d (.sl (.pair .str .str) s11)), .top, .top, .top, .top, .top, .top, .top, .top, .top, .top, .top, .top, .top, .top, .top, .top, .top, .top, .top, .top, .top, .top, .top, .top, .top, .top, .top, .top, .top, .top, .top, .top, .top, .top, .top, .top, .top, .top, .top, .top, .top, .top, .top, .top, .top, .top, .top, .top, .top, .top, .top, .top, .top, .top, .top, .top, .top, .top, .top, .top, .top, .top, (.d (.sl (.pair .str .str) s74)), (.d (.int .i64 s75)), (.d (.int .i64 s76)), (.d (.bool (decide (s76 < s75)))), .top, .top, .top, .top, .top, .top, .top, .top, .top, .top, .top, .top, .top, .top, .top, .top, .top, .top, .top, .top, .top, .top, .top, .top, .top, .top, .top, .top, .top, .top, .top, .top, .top, .top, .top, .top, .top, .top, .top, .top, .top, .top, .top], [(.cells [(.d (.sl (.int .i64) x1.1)), (.d (.sl (.int .i64) x1.2))])])
noncomputable def lbl5_2 : AC := loopBody 132226261520350065985680 body5

set_option maxHeartbeats 20000000 in
theorem l5_2_w0 (m n : Nat) (x1 : (List Int) × (List Int)) (s7 : List ((List UInt8) × (List UInt8))) (s11 : List ((List UInt8) × (List UInt8))) (s74 : List ((List UInt8) × (List UInt8))) (s75 : Int) (s76 : Int) (r : AEx × Env × Boxes) (c0 : decide (s76 < s75) = true) (c1 : decide (0 ≤ s76) = true) (c2 : decide (s76 < (((List.length s74) : Nat) : Int)) = true) (c4 : keepPre s11 [(List.getD s74 (Int.toNat s76) (([] : List UInt8), ([] : List UInt8))).1] = true) (ih : (turns (hds 5 132226261520350065985680) 0 132226261520350065985680 (evC byref (evCall F S21 (m + 24)) (m + 24) 0 (hds 5) lbl5_2) n (l5_2H x1 s7 ((List.take (List.length (dropG s11 [(List.getD s74 (Int.toNat s76) (([] : List UInt8), ([] : List UInt8))).1])) (List.drop 0 (dropG s11 [(List.getD s74 (Int.toNat s76) (([] : List UInt8), ([] : List UInt8))).1])))) s74 s75 ((IntKind.wrap .i64 (s76 + (1))))) (l5_2B x1 s7 ((List.take (List.length (dropG s11 [(List.getD s74 (Int.toNat s76) (([] : List UInt8), ([] : List UInt8))).1])) (List.drop 0 (dropG s11 [(List.getD s74 (Int.toNat s76) (([] : List UInt8), ([] : List UInt8))).1])))) s74 s75 ((IntKind.wrap .i64 (s76 + (1)))))).run = some r) : (turns (hds 5 132226261520350065985680) 0 132226261520350065985680 (evC byref (evCall F S21 (m + 24)) (m + 24) 0 (hds 5) lbl5_2) (n + 1) (l5_2H x1 s7 s11 s74 s75 s76) (l5_2B x1 s7 s11 s74 s75 s76)).run = some r := by
  exact turns_step (M.run_of_path _ [true, true, true, true, true, true] _ _ (by kernel_rfl) (all_t c0 (all_t c1 (all_t c2 (all_t rfl (all_t c4 (all_t (show decide ((0 + (List.length (dropG s11 [(List.getD s74 (Int.toNat s76) (([] : List UInt8), ([] : List UInt8))).1]))) ≤ (List.length (dropG s11 [(List.getD s74 (Int.toNat s76) (([] : List UInt8), ([] : List UInt8))).1]))) = true from decide_eq_true (Nat.le_of_eq (Nat.zero_add _))) all_nil))))))) ih
set_option maxHeartbeats 20000000 in
theorem l5_2_w1 (m n : Nat) (x1 : (List Int) × (List Int)) (s7 : List ((List UInt8) × (List UInt8))) (s11 : List ((List UInt8) × (List UInt8))) (s74 : List ((List UInt8) × (List UInt8))) (s75 : Int) (s76 : Int) (c0 : ¬ decide (s76 < s75) = true) : (turns (hds 5 132226261520350065985680) 0 132226261520350065985680 (evC byref (evCall F S21 (m + 24)) (m + 24) 0 (hds 5) lbl5_2) (n + 1) (l5_2H x1 s7 s11 s74 s75 s76) (l5_2B x1 s7 s11 s74 s75 s76)).run = some (.exit 4, [.top, .top, .top, .top, (.ptr 0 0), .top, .top, (.d (.sl (.pair .str .str) s7)), .top, .top, .top, (.d (.sl (.pair .str .str) s11)), .top, .top, .top, .top, .top, .top, .top, .top, .top, .top, .top, .top, .top, .top, .top, .top, .top, .top, .top, .top, .top, .top, .top, .top, .top, .top, .top, .top, .top, .top, .top, .top, .top, .top, .top, .top, .top, .top, .top, .top, .top, .top, .top, .top, .top, .top, .top, .top, .top, .top, .top, .top, .top, .top, .top, .top, .top, .top, .top, .top, .top, .top, (.d (.sl (.pair .str .str) s74)), (.d (.int .i64 s75)), (.d (.int .i64 s76)), (.d (.bool (decide (s76 < s75)))), .top, .top, .top, .top, .top, .top, .top, .top, .top, .top, .top, .top, .top, .top, .top, .top, .top, .top, .top, .top, .top, .top, .top, .top, .top, .top, .top, .top, .top, .top, .top, .top, .top, .top, .top, .top, .top, .top, .top, .top, .top, .top, .top], [(.cells [(.d (.sl (.int .i64) x1.1)), (.d (.sl (.int .i64) x1.2))])]) := by
  exact turns_last (by simp) (M.run_of_path _ [false] _ _ (by kernel_rfl) (all_f c0 all_nil)) 

set_option maxHeartbeats 20000000 in
theorem l5_2_step (m n : Nat) (ih : ∀ (x1 : (List Int) × (List Int)) (s7 : List ((List UInt8) × (List UInt8))) (s11 : List ((List UInt8) × (List UInt8))) (s74 : List ((List UInt8) × (List UInt8))) (s75 : Int) (s76 : Int) (q : Nat × (List ((List UInt8) × (List UInt8))) × Int), l5_2 m n x1 s7 s11 s74 s75 s76 = some q → (turns (hds 5 132226261520350065985680) 0 132226261520350065985680 (evC byref (evCall F S21 (m + 24)) (m + 24) 0 (hds 5) lbl5_2) n (l5_2H x1 s7 s11 s74 s75 s76) (l5_2B x1 s7 s11 s74 s75 s76)).run = some (l5_2E (x1) (s7) (q.2.1) (s74) (s75) (q.2.2) q.1)) (x1 : (List Int) × (List Int)) (s7 : List ((List UInt8) × (List UInt8))) (s11 : List ((List UInt8) × (List UInt8))) (s74 : List ((List UInt8) × (List UInt8))) (s75 : Int) (s76 : Int) (q : Nat × (List ((List UInt8) × (List UInt8))) × Int) (h : l5_2 m (n + 1) x1 s7 s11 s74 s75 s76 = some q) : (turns (hds 5 132226261520350065985680) 0 132226261520350065985680 (evC byref (evCall F S21 (m + 24)) (m + 24) 0 (hds 5) lbl5_2) (n + 1) (l5_2H x1 s7 s11 s74 s75 s76) (l5_2B x1 s7 s11 s74 s75 s76)).run = some (l5_2E (x1) (s7) (q.2.1) (s74) (s75) (q.2.2) q.1) := by
  rw [l5_2] at h
  refine ite_cases h (fun c0 h => ?_) (fun c0 h => ?_)
  · skip
    refine ite_cases h (fun c1 h => ?_) (fun c1 h => ?_)
    · skip
      refine ite_cases h (fun c2 h => ?_) (fun c2 h => ?_)
      · skip
        refine ite_cases h (fun c4 h => ?_) (fun c4 h => ?_)
        · skip
          exact l5_2_w0 m n x1 s7 s11 s74 s75 s76 _ c0 c1 c2 c4 (ih _ _ _ _ _ _ q h)
        · skip
          cases h
      · skip
        cases h
    · skip
      cases h
  · skip
    cases h
    exact l5_2_w1 m n x1 s7 s11 s74 s75 s76 c0
set_option maxHeartbeats 20000000 in
theorem l5_2_ok (m : Nat) : ∀ (n : Nat) (x1 : (List Int) × (List Int)) (s7 : List ((List UInt8) × (List UInt8))) (s11 : List ((List UInt8) × (List UInt8))) (s74 : List ((List UInt8) × (List UInt8))) (s75 : Int) (s76 : Int) (q : Nat × (List ((List UInt8) × (List UInt8))) × Int), l5_2 m n x1 s7 s11 s74 s75 s76 = some q → (turns (hds 5 132226261520350065985680) 0 132226261520350065985680 (evC byref (evCall F S21 (m + 24)) (m + 24) 0 (hds 5) lbl5_2) n (l5_2H x1 s7 s11 s74 s75 s76) (l5_2B x1 s7 s11 s74 s75 s76)).run = some (l5_2E (x1) (s7) (q.2.1) (s74) (s75) (q.2.2) q.1)
  | 0, x1, s7, s11, s74, s75, s76, q, h => by cases h
  | n + 1, x1, s7, s11, s74, s75, s76, q, h => l5_2_step m n (l5_2_ok m n) x1 s7 s11 s74 s75 s76 q h

def lmerge (m : Nat) (x0 : (List Int) × (List Int)) (x1 : (List Int) × (List Int)) (x2 : List Int) : Option Unit :=
  if decide (((0 + (List.length (setG x0))) * 32) ≤ 70368744177664) = true then
    if (Option.isSome (l5_0 m (m + 24) x1 x2 ((setG x0)) 0 ((setG x0)))) = true then
      if ((l5_0R m (m + 24) x1 x2 ((setG x0)) 0 ((setG x0))).1 == 0) = true then
        if (Option.isSome (l5_1 m (m + 24) x1 (((setG x0))) (([] : List ((List UInt8) × (List UInt8)))) ((((List.length (l5_0R m (m + 24) x1 x2 ((setG x0)) 0 ((setG x0))).2.2) : Nat) : Int)) 0 ((l5_0R m (m + 24) x1 x2 ((setG x0)) 0 ((setG x0))).2.2))) = true then
          if decide (List.length (l5_1R m (m + 24) x1 (((setG x0))) (([] : List ((List UInt8) × (List UInt8)))) ((((List.length (l5_0R m (m + 24) x1 x2 ((setG x0)) 0 ((setG x0))).2.2) : Nat) : Int)) 0 ((l5_0R m (m + 24) x1 x2 ((setG x0)) 0 ((setG x0))).2.2)).2.1 < 4611686018427387904) = true then
            if ((show List ((List UInt8) × (List UInt8)) from (l5_1R m (m + 24) x1 (((setG x0))) (([] : List ((List UInt8) × (List UInt8)))) ((((List.length (l5_0R m (m + 24) x1 x2 ((setG x0)) 0 ((setG x0))).2.2) : Nat) : Int)) 0 ((l5_0R m (m + 24) x1 x2 ((setG x0)) 0 ((setG x0))).2.2)).2.1) == (((setG x0)))) = true then
              if (Option.isSome (l5_2 m (m + 24) x1 ((((setG x0)))) ((l5_1R m (m + 24) x1 (((setG x0))) (([] : List ((List UInt8) × (List UInt8)))) ((((List.length (l5_0R m (m + 24) x1 x2 ((setG x0)) 0 ((setG x0))).2.2) : Nat) : Int)) 0 ((l5_0R m (m + 24) x1 x2 ((setG x0)) 0 ((setG x0))).2.2)).2.1) ((List.take (List.length ((l5_0R m (m + 24) x1 x2 ((setG x0)) 0 ((setG x0))).2.2)) (List.drop 0 ((l5_0R m (m + 24) x1 x2 ((setG x0)) 0 ((setG x0))).2.2)))) ((((List.length ((l5_0R m (m + 24) x1 x2 ((setG x0)) 0 ((setG x0))).2.2)) : Nat) : Int)) 0)) = true then
                if ((((List.length (l5_2R m (m + 24) x1 ((((setG x0)))) ((l5_1R m (m + 24) x1 (((setG x0))) (([] : List ((List UInt8) × (List UInt8)))) ((((List.length (l5_0R m (m + 24) x1 x2 ((setG x0)) 0 ((setG x0))).2.2) : Nat) : Int)) 0 ((l5_0R m (m + 24) x1 x2 ((setG x0)) 0 ((setG x0))).2.2)).2.1) ((List.take (List.length ((l5_0R m (m + 24) x1 x2 ((setG x0)) 0 ((setG x0))).2.2)) (List.drop 0 ((l5_0R m (m + 24) x1 x2 ((setG x0)) 0 ((setG x0))).2.2)))) ((((List.length ((l5_0R m (m + 24) x1 x2 ((setG x0)) 0 ((setG x0))).2.2)) : Nat) : Int)) 0).2.1) : Nat) : Int) == (0)) = true then
                  if lrightPre ((((setG x0)))) = true then
                    if lrightPre (setG x1) = true then
                      if ((Lib.compareBytes (lprintG ((((setG x0))))) (lprintG (setG x1))) == (IntKind.wrap .i64 (0 - (Lib.compareBytes (lprintG (setG x1)) (lprintG ((((setG x0))))))))) = true then
                        if decide (List.length ((((setG x0)))) < 4611686018427387904) = true then
                          if (((Lib.compareBytes (lprintG ((((setG x0))))) (lprintG (setG x1))) == (0)) == ((show List ((List UInt8) × (List UInt8)) from ((((setG x0))))) == (setG x1))) = true then
                            if keepPre ((((setG x0)))) [([97] : List UInt8), ([98] : List UInt8), ([99] : List UInt8), ([110, 97, 109, 101] : List UInt8)] = true then
                              if decide (List.length (keepG ((((setG x0)))) [([97] : List UInt8), ([98] : List UInt8), ([99] : List UInt8), ([110, 97, 109, 101] : List UInt8)]) < 4611686018427387904) = true then
                                if ((show List ((List UInt8) × (List UInt8)) from (keepG ((((setG x0)))) [([97] : List UInt8), ([98] : List UInt8), ([99] : List UInt8), ([110, 97, 109, 101] : List UInt8)])) == ((((setG x0))))) = true then
                                  some ()
                                else
                                  none
                              else
                                none
                            else
                              none
                          else
                            none
                        else
                          none
                      else
                        none
                    else
                      none
                  else
                    none
                else
                  none
              else
                none
            else
              none
          else
            none
        else
          none
      else
        if ((l5_0R m (m + 24) x1 x2 ((setG x0)) 0 ((setG x0))).1 == 1) = true then
          if (Option.isSome (l5_1 m (m + 24) x1 (((setG x0))) (([] : List ((List UInt8) × (List UInt8)))) ((((List.length (l5_0R m (m + 24) x1 x2 ((setG x0)) 0 ((setG x0))).2.2) : Nat) : Int)) 0 ((l5_0R m (m + 24) x1 x2 ((setG x0)) 0 ((setG x0))).2.2))) = true then
            if decide (List.length (l5_1R m (m + 24) x1 (((setG x0))) (([] : List ((List UInt8) × (List UInt8)))) ((((List.length (l5_0R m (m + 24) x1 x2 ((setG x0)) 0 ((setG x0))).2.2) : Nat) : Int)) 0 ((l5_0R m (m + 24) x1 x2 ((setG x0)) 0 ((setG x0))).2.2)).2.1 < 4611686018427387904) = true then
              if ((show List ((List UInt8) × (List UInt8)) from (l5_1R m (m + 24) x1 (((setG x0))) (([] : List ((List UInt8) × (List UInt8)))) ((((List.length (l5_0R m (m + 24) x1 x2 ((setG x0)) 0 ((setG x0))).2.2) : Nat) : Int)) 0 ((l5_0R m (m + 24) x1 x2 ((setG x0)) 0 ((setG x0))).2.2)).2.1) == (((setG x0)))) = true then
                if (Option.isSome (l5_2 m (m + 24) x1 ((((setG x0)))) ((l5_1R m (m + 24) x1 (((setG x0))) (([] : List ((List UInt8) × (List UInt8)))) ((((List.length (l5_0R m (m + 24) x1 x2 ((setG x0)) 0 ((setG x0))).2.2) : Nat) : Int)) 0 ((l5_0R m (m + 24) x1 x2 ((setG x0)) 0 ((setG x0))).2.2)).2.1) ((List.take (List.length ((l5_0R m (m + 24) x1 x2 ((setG x0)) 0 ((setG x0))).2.2)) (List.drop 0 ((l5_0R m (m + 24) x1 x2 ((setG x0)) 0 ((setG x0))).2.2)))) ((((List.length ((l5_0R m (m + 24) x1 x2 ((setG x0)) 0 ((setG x0))).2.2)) : Nat) : Int)) 0)) = true then
                  if ((((List.length (l5_2R m (m + 24) x1 ((((setG x0)))) ((l5_1R m (m + 24) x1 (((setG x0))) (([] : List ((List UInt8) × (List UInt8)))) ((((List.length (l5_0R m (m + 24) x1 x2 ((setG x0)) 0 ((setG x0))).2.2) : Nat) : Int)) 0 ((l5_0R m (m + 24) x1 x2 ((setG x0)) 0 ((setG x0))).2.2)).2.1) ((List.take (List.length ((l5_0R m (m + 24) x1 x2 ((setG x0)) 0 ((setG x0))).2.2)) (List.drop 0 ((l5_0R m (m + 24) x1 x2 ((setG x0)) 0 ((setG x0))).2.2)))) ((((List.length ((l5_0R m (m + 24) x1 x2 ((setG x0)) 0 ((setG x0))).2.2)) : Nat) : Int)) 0).2.1) : Nat) : Int) == (0)) = true then
                    if lrightPre ((((setG x0)))) = true then
                      if lrightPre (setG x1) = true then
                        if ((Lib.compareBytes (lprintG ((((setG x0))))) (lprintG (setG x1))) == (IntKind.wrap .i64 (0 - (Lib.compareBytes (lprintG (setG x1)) (lprintG ((((setG x0))))))))) = true then
                          if decide (List.length ((((setG x0)))) < 4611686018427387904) = true then
                            if (((Lib.compareBytes (lprintG ((((setG x0))))) (lprintG (setG x1))) == (0)) == ((show List ((List UInt8) × (List UInt8)) from ((((setG x0))))) == (setG x1))) = true then
                              if keepPre ((((setG x0)))) [([97] : List UInt8), ([98] : List UInt8), ([99] : List UInt8), ([110, 97, 109, 101] : List UInt8)] = true then
                                if decide (List.length (keepG ((((setG x0)))) [([97] : List UInt8), ([98] : List UInt8), ([99] : List UInt8), ([110, 97, 109, 101] : List UInt8)]) < 4611686018427387904) = true then
                                  if ((show List ((List UInt8) × (List UInt8)) from (keepG ((((setG x0)))) [([97] : List UInt8), ([98] : List UInt8), ([99] : List UInt8), ([110, 97, 109, 101] : List UInt8)])) == ((((setG x0))))) = true then
                                    some ()
                                  else
                                    none
                                else
                                  none
                              else
                                none
                            else
                              none
                          else
                            none
                        else
                          none
                      else
                        none
                    else
                      none
                  else
                    none
                else
                  none
              else
                none
            else
              none
          else
            none
        else
          none
    else
      none
  else
    none

set_option maxHeartbeats 20000000 in
theorem lmerge_w0 (m : Nat) (x0 : (List Int) × (List Int)) (x1 : (List Int) × (List Int)) (x2 : List Int) (c1 : decide (((0 + (List.length (setG x0))) * 32) ≤ 70368744177664) = true) (c3 : (Option.isSome (l5_0 m (m + 24) x1 x2 ((setG x0)) 0 ((setG x0)))) = true) (c4 : ((l5_0R m (m + 24) x1 x2 ((setG x0)) 0 ((setG x0))).1 == 0) = true) (c6 : (Option.isSome (l5_1 m (m + 24) x1 (((setG x0))) (([] : List ((List UInt8) × (List UInt8)))) ((((List.length (l5_0R m (m + 24) x1 x2 ((setG x0)) 0 ((setG x0))).2.2) : Nat) : Int)) 0 ((l5_0R m (m + 24) x1 x2 ((setG x0)) 0 ((setG x0))).2.2))) = true) (c7 : decide (List.length (l5_1R m (m + 24) x1 (((setG x0))) (([] : List ((List UInt8) × (List UInt8)))) ((((List.length (l5_0R m (m + 24) x1 x2 ((setG x0)) 0 ((setG x0))).2.2) : Nat) : Int)) 0 ((l5_0R m (m + 24) x1 x2 ((setG x0)) 0 ((setG x0))).2.2)).2.1 < 4611686018427387904) = true) (c8 : ((show List ((List UInt8) × (List UInt8)) from (l5_1R m (m + 24) x1 (((setG x0))) (([] : List ((List UInt8) × (List UInt8)))) ((((List.length (l5_0R m (m + 24) x1 x2 ((setG x0)) 0 ((setG x0))).2.2) : Nat) : Int)) 0 ((l5_0R m (m + 24) x1 x2 ((setG x0)) 0 ((setG x0))).2.2)).2.1) == (((setG x0)))) = true) (c10 : (Option.isSome (l5_2 m (m + 24) x1 ((((setG x0)))) ((l5_1R m (m + 24) x1 (((setG x0))) (([] : List ((List UInt8) × (List UInt8)))) ((((List.length (l5_0R m (m + 24) x1 x2 ((setG x0)) 0 ((setG x0))).2.2) : Nat) : Int)) 0 ((l5_0R m (m + 24) x1 x2 ((setG x0)) 0 ((setG x0))).2.2)).2.1) ((List.take (List.length ((l5_0R m (m + 24) x1 x2 ((setG x0)) 0 ((setG x0))).2.2)) (List.drop 0 ((l5_0R m (m + 24) x1 x2 ((setG x0)) 0 ((setG x0))).2.2)))) ((((List.length ((l5_0R m (m + 24) x1 x2 ((setG x0)) 0 ((setG x0))).2.2)) : Nat) : Int)) 0)) = true) (c12 : ((((List.length (l5_2R m (m + 24) x1 ((((setG x0)))) ((l5_1R m (m + 24) x1 (((setG x0))) (([] : List ((List UInt8) × (List UInt8)))) ((((List.length (l5_0R m (m + 24) x1 x2 ((setG x0)) 0 ((setG x0))).2.2) : Nat) : Int)) 0 ((l5_0R m (m + 24) x1 x2 ((setG x0)) 0 ((setG x0))).2.2)).2.1) ((List.take (List.length ((l5_0R m (m + 24) x1 x2 ((setG x0)) 0 ((setG x0))).2.2)) (List.drop 0 ((l5_0R m (m + 24) x1 x2 ((setG x0)) 0 ((setG x0))).2.2)))) ((((List.length ((l5_0R m (m + 24) x1 x2 ((setG x0)) 0 ((setG x0))).2.2)) : Nat) : Int)) 0).2.1) : Nat) : Int) == (0)) = true) (c15 : lrightPre ((((setG x0)))) = true) (c16 : lrightPre (setG x1) = true) (c27 : ((Lib.compareBytes (lprintG ((((setG x0))))) (lprintG (setG x1))) == (IntKind.wrap .i64 (0 - (Lib.compareBytes (lprintG (setG x1)) (lprintG ((((setG x0))))))))) = true) (c37 : decide (List.length ((((setG x0)))) < 4611686018427387904) = true) (c40 : (((Lib.compareBytes (lprintG ((((setG x0))))) (lprintG (setG x1))) == (0)) == ((show List ((List UInt8) × (List UInt8)) from ((((setG x0))))) == (setG x1))) = true) (c44 : keepPre ((((setG x0)))) [([97] : List UInt8), ([98] : List UInt8), ([99] : List UInt8), ([110, 97, 109, 101] : List UInt8)] = true) (c47 : decide (List.length (keepG ((((setG x0)))) [([97] : List UInt8), ([98] : List UInt8), ([99] : List UInt8), ([110, 97, 109, 101] : List UInt8)]) < 4611686018427387904) = true) (c49 : ((show List ((List UInt8) × (List UInt8)) from (keepG ((((setG x0)))) [([97] : List UInt8), ([98] : List UInt8), ([99] : List UInt8), ([110, 97, 109, 101] : List UInt8)])) == ((((setG x0))))) = true) : (evCall F S21 (m + 25) 5 [(.agg [(.d (.sl (.int .i64) x0.1)), (.d (.sl (.int .i64) x0.2))]), (.agg [(.d (.sl (.int .i64) x1.1)), (.d (.sl (.int .i64) x1.2))]), (.d (.sl (.int .i64) x2))] []).run = some (.d (.bool true), []) := by
  refine runT_ok (LS := (fun k => if k = 916 then some (l5_0E x1 x2 (((setG x0))) ((l5_0R m (m + 24) x1 x2 ((setG x0)) 0 ((setG x0))).2.1) ((l5_0R m (m + 24) x1 x2 ((setG x0)) 0 ((setG x0))).2.2) 0) else if k = 1008806316530993552 then some (l5_1E x1 ((((setG x0)))) ((l5_1R m (m + 24) x1 (((setG x0))) (([] : List ((List UInt8) × (List UInt8)))) ((((List.length (l5_0R m (m + 24) x1 x2 ((setG x0)) 0 ((setG x0))).2.2) : Nat) : Int)) 0 ((l5_0R m (m + 24) x1 x2 ((setG x0)) 0 ((setG x0))).2.2)).2.1) (((((List.length (l5_0R m (m + 24) x1 x2 ((setG x0)) 0 ((setG x0))).2.2) : Nat) : Int))) ((l5_1R m (m + 24) x1 (((setG x0))) (([] : List ((List UInt8) × (List UInt8)))) ((((List.length (l5_0R m (m + 24) x1 x2 ((setG x0)) 0 ((setG x0))).2.2) : Nat) : Int)) 0 ((l5_0R m (m + 24) x1 x2 ((setG x0)) 0 ((setG x0))).2.2)).2.2) (((l5_0R m (m + 24) x1 x2 ((setG x0)) 0 ((setG x0))).2.2)) 0) else if k = 132226261520350065985680 then some (l5_2E x1 (((((setG x0))))) ((l5_2R m (m + 24) x1 ((((setG x0)))) ((l5_1R m (m + 24) x1 (((setG x0))) (([] : List ((List UInt8) × (List UInt8)))) ((((List.length (l5_0R m (m + 24) x1 x2 ((setG x0)) 0 ((setG x0))).2.2) : Nat) : Int)) 0 ((l5_0R m (m + 24) x1 x2 ((setG x0)) 0 ((setG x0))).2.2)).2.1) ((List.take (List.length ((l5_0R m (m + 24) x1 x2 ((setG x0)) 0 ((setG x0))).2.2)) (List.drop 0 ((l5_0R m (m + 24) x1 x2 ((setG x0)) 0 ((setG x0))).2.2)))) ((((List.length ((l5_0R m (m + 24) x1 x2 ((setG x0)) 0 ((setG x0))).2.2)) : Nat) : Int)) 0).2.1) (((List.take (List.length ((l5_0R m (m + 24) x1 x2 ((setG x0)) 0 ((setG x0))).2.2)) (List.drop 0 ((l5_0R m (m + 24) x1 x2 ((setG x0)) 0 ((setG x0))).2.2))))) (((((List.length ((l5_0R m (m + 24) x1 x2 ((setG x0)) 0 ((setG x0))).2.2)) : Nat) : Int))) ((l5_2R m (m + 24) x1 ((((setG x0)))) ((l5_1R m (m + 24) x1 (((setG x0))) (([] : List ((List UInt8) × (List UInt8)))) ((((List.length (l5_0R m (m + 24) x1 x2 ((setG x0)) 0 ((setG x0))).2.2) : Nat) : Int)) 0 ((l5_0R m (m + 24) x1 x2 ((setG x0)) 0 ((setG x0))).2.2)).2.1) ((List.take (List.length ((l5_0R m (m + 24) x1 x2 ((setG x0)) 0 ((setG x0))).2.2)) (List.drop 0 ((l5_0R m (m + 24) x1 x2 ((setG x0)) 0 ((setG x0))).2.2)))) ((((List.length ((l5_0R m (m + 24) x1 x2 ((setG x0)) 0 ((setG x0))).2.2)) : Nat) : Int)) 0).2.2) 0) else none)) (fn := fn5) (r := .d (.bool true)) (B' := []) (vis := [(916, [.top, .top, (.d (.sl (.int .i64) x2)), .top, (.ptr 0 0), .top, .top, (.d (.sl (.pair .str .str) (setG x0))), (.sr 1 0 (0 + (List.length (setG x0))) 2 none), (.d (.int .i64 (0))), .top, .top, .top, .top, .top, .top, .top, .top, .top, .top, .top, .top, .top, .top, .top, .top, .top, .top, .top, .top, .top, .top, .top, .top, .top, .top, .top, .top, .top, .top, .top, .top, .top, .top, .top, .top, .top, .top, .top, .top, .top, .top, .top, .top, .top, .top, .top, .top, .top, .top, .top, .top, .top, .top, .top, .top, .top, .top, .top, .top, .top, .top, .top, .top, .top, .top, .top, .top, .top, .top, .top, .top, .top, .top, .top, .top, .top, .top, .top, .top, .top, .top, .top, .top, .top, .top, .top, .top, .top, .top, .top, .top, .top, .top, .top, .top, .top, .top, .top, .top, .top, .top, .top, .top, .top, .top, .top, .top, .top, .top, .top], [(.cells [(.d (.sl (.int .i64) x1.1)), (.d (.sl (.int .i64) x1.2))]), (.arr (.pair .str .str) (setG x0) true)]), (1008806316530993552, l5_1H x1 (((setG x0))) (([] : List ((List UInt8) × (List UInt8)))) ((((List.length (l5_0R m (m + 24) x1 x2 ((setG x0)) 0 ((setG x0))).2.2) : Nat) : Int)) 0 ((l5_0R m (m + 24) x1 x2 ((setG x0)) 0 ((setG x0))).2.2), l5_1B x1 (((setG x0))) (([] : List ((List UInt8) × (List UInt8)))) ((((List.length (l5_0R m (m + 24) x1 x2 ((setG x0)) 0 ((setG x0))).2.2) : Nat) : Int)) 0 ((l5_0R m (m + 24) x1 x2 ((setG x0)) 0 ((setG x0))).2.2)), (132226261520350065985680, l5_2H x1 ((((setG x0)))) ((l5_1R m (m + 24) x1 (((setG x0))) (([] : List ((List UInt8) × (List UInt8)))) ((((List.length (l5_0R m (m + 24) x1 x2 ((setG x0)) 0 ((setG x0))).2.2) : Nat) : Int)) 0 ((l5_0R m (m + 24) x1 x2 ((setG x0)) 0 ((setG x0))).2.2)).2.1) ((List.take (List.length ((l5_0R m (m + 24) x1 x2 ((setG x0)) 0 ((setG x0))).2.2)) (List.drop 0 ((l5_0R m (m + 24) x1 x2 ((setG x0)) 0 ((setG x0))).2.2)))) ((((List.length ((l5_0R m (m + 24) x1 x2 ((setG x0)) 0 ((setG x0))).2.2)) : Nat) : Int)) 0, l5_2B x1 ((((setG x0)))) ((l5_1R m (m + 24) x1 (((setG x0))) (([] : List ((List UInt8) × (List UInt8)))) ((((List.length (l5_0R m (m + 24) x1 x2 ((setG x0)) 0 ((setG x0))).2.2) : Nat) : Int)) 0 ((l5_0R m (m + 24) x1 x2 ((setG x0)) 0 ((setG x0))).2.2)).2.1) ((List.take (List.length ((l5_0R m (m + 24) x1 x2 ((setG x0)) 0 ((setG x0))).2.2)) (List.drop 0 ((l5_0R m (m + 24) x1 x2 ((setG x0)) 0 ((setG x0))).2.2)))) ((((List.length ((l5_0R m (m + 24) x1 x2 ((setG x0)) 0 ((setG x0))).2.2)) : Nat) : Int)) 0)]) (by kernel_rfl) rfl (by kernel_rfl) (M.run_of_path _ [true, true, true, true, true, false, true, true, true, true, true, true, true, true, true, true, true, true, true, true, true, true, true, true, true, true, true, true, true, true, true, true, true, true, true, true, true, true, true, true, true, true, true, true, true, true, true] _ _ (by kernel_rfl) (all_t rfl (all_t c1 (all_t rfl (all_t rfl (all_t c7 (all_nt c8 (all_t (show decide ((0 + (List.length ((l5_0R m (m + 24) x1 x2 ((setG x0)) 0 ((setG x0))).2.2))) ≤ (List.length ((l5_0R m (m + 24) x1 x2 ((setG x0)) 0 ((setG x0))).2.2))) = true from decide_eq_true (Nat.le_of_eq (Nat.zero_add _))) (all_t rfl (all_t c12 (all_t c12 (all_t c12 (all_t c15 (all_t c16 (all_t rfl (all_t c12 (all_t c12 (all_t c12 (all_t c16 (all_t c15 (all_t rfl (all_t c12 (all_t c12 (all_t c12 (all_t c27 (all_t c27 (all_t c27 (all_t c15 (all_t c16 (all_t rfl (all_t c27 (all_t c27 (all_t c27 (all_t c27 (all_t c37 (all_t c27 (all_t c27 (all_t c40 (all_t c40 (all_t rfl (all_t c40 (all_t c44 (all_t c40 (all_t c40 (all_t c47 (all_t c40 (all_t c49 (all_t c49 all_nil)))))))))))))))))))))))))))))))))))))))))))))))) ?_
  intro p hp p2 hq
  rcases List.mem_cons.1 hp with rfl | hp
  · skip
    have h3 := l5_0_ok m (m + 24) x1 x2 ((setG x0)) 0 ((setG x0)) _ (some_getD (d := l5_0D) c3)
    have h3 := turns_eq (e := [.top, .top, (.d (.sl (.int .i64) x2)), .top, (.ptr 0 0), .top, .top, (.d (.sl (.pair .str .str) (setG x0))), (.sr 1 0 (0 + (List.length (setG x0))) 2 none), (.d (.int .i64 (0))), .top, .top, .top, .top, .top, .top, .top, .top, .top, .top, .top, .top, .top, .top, .top, .top, .top, .top, .top, .top, .top, .top, .top, .top, .top, .top, .top, .top, .top, .top, .top, .top, .top, .top, .top, .top, .top, .top, .top, .top, .top, .top, .top, .top, .top, .top, .top, .top, .top, .top, .top, .top, .top, .top, .top, .top, .top, .top, .top, .top, .top, .top, .top, .top, .top, .top, .top, .top, .top, .top, .top, .top, .top, .top, .top, .top, .top, .top, .top, .top, .top, .top, .top, .top, .top, .top, .top, .top, .top, .top, .top, .top, .top, .top, .top, .top, .top, .top, .top, .top, .top, .top, .top, .top, .top, .top, .top, .top, .top, .top, .top]) (B := [(.cells [(.d (.sl (.int .i64) x1.1)), (.d (.sl (.int .i64) x1.2))]), (.arr (.pair .str .str) (setG x0) true)]) (by unfold l5_0H; (try rw [show (0 + (List.length (setG x0))) = (List.length (setG x0)) from by simp])) rfl h3
    rw [eq_of_beq c4] at h3
    exact Eq.trans (Eq.mp (by kernel_rfl) h3) hq
  rcases List.mem_cons.1 hp with rfl | hp
  · skip
    have h3 := l5_1_ok m (m + 24) x1 (((setG x0))) (([] : List ((List UInt8) × (List UInt8)))) ((((List.length (l5_0R m (m + 24) x1 x2 ((setG x0)) 0 ((setG x0))).2.2) : Nat) : Int)) 0 ((l5_0R m (m + 24) x1 x2 ((setG x0)) 0 ((setG x0))).2.2) _ (some_getD (d := l5_1D) c6)
    exact Eq.trans (Eq.mp (by kernel_rfl) h3) hq
  rcases List.mem_cons.1 hp with rfl | hp
  · skip
    have h3 := l5_2_ok m (m + 24) x1 ((((setG x0)))) ((l5_1R m (m + 24) x1 (((setG x0))) (([] : List ((List UInt8) × (List UInt8)))) ((((List.length (l5_0R m (m + 24) x1 x2 ((setG x0)) 0 ((setG x0))).2.2) : Nat) : Int)) 0 ((l5_0R m (m + 24) x1 x2 ((setG x0)) 0 ((setG x0))).2.2)).2.1) ((List.take (List.length ((l5_0R m (m + 24) x1 x2 ((setG x0)) 0 ((setG x0))).2.2)) (List.drop 0 ((l5_0R m (m + 24) x1 x2 ((setG x0)) 0 ((setG x0))).2.2)))) ((((List.length ((l5_0R m (m + 24) x1 x2 ((setG x0)) 0 ((setG x0))).2.2)) : Nat) : Int)) 0 _ (some_getD (d := l5_2D) c10)
    exact Eq.trans (Eq.mp (by kernel_rfl) h3) hq
  cases hp

set_option maxHeartbeats 20000000 in
theorem lmerge_w1 (m : Nat) (x0 : (List Int) × (List Int)) (x1 : (List Int) × (List Int)) (x2 : List Int) (c1 : decide (((0 + (List.length (setG x0))) * 32) ≤ 70368744177664) = true) (c3 : (Option.isSome (l5_0 m (m + 24) x1 x2 ((setG x0)) 0 ((setG x0)))) = true) (c4 : ¬ ((l5_0R m (m + 24) x1 x2 ((setG x0)) 0 ((setG x0))).1 == 0) = true) (c5 : ((l5_0R m (m + 24) x1 x2 ((setG x0)) 0 ((setG x0))).1 == 1) = true) (c7 : (Option.isSome (l5_1 m (m + 24) x1 (((setG x0))) (([] : List ((List UInt8) × (List UInt8)))) ((((List.length (l5_0R m (m + 24) x1 x2 ((setG x0)) 0 ((setG x0))).2.2) : Nat) : Int)) 0 ((l5_0R m (m + 24) x1 x2 ((setG x0)) 0 ((setG x0))).2.2))) = true) (c8 : decide (List.length (l5_1R m (m + 24) x1 (((setG x0))) (([] : List ((List UInt8) × (List UInt8)))) ((((List.length (l5_0R m (m + 24) x1 x2 ((setG x0)) 0 ((setG x0))).2.2) : Nat) : Int)) 0 ((l5_0R m (m + 24) x1 x2 ((setG x0)) 0 ((setG x0))).2.2)).2.1 < 4611686018427387904) = true) (c9 : ((show List ((List UInt8) × (List UInt8)) from (l5_1R m (m + 24) x1 (((setG x0))) (([] : List ((List UInt8) × (List UInt8)))) ((((List.length (l5_0R m (m + 24) x1 x2 ((setG x0)) 0 ((setG x0))).2.2) : Nat) : Int)) 0 ((l5_0R m (m + 24) x1 x2 ((setG x0)) 0 ((setG x0))).2.2)).2.1) == (((setG x0)))) = true) (c11 : (Option.isSome (l5_2 m (m + 24) x1 ((((setG x0)))) ((l5_1R m (m + 24) x1 (((setG x0))) (([] : List ((List UInt8) × (List UInt8)))) ((((List.length (l5_0R m (m + 24) x1 x2 ((setG x0)) 0 ((setG x0))).2.2) : Nat) : Int)) 0 ((l5_0R m (m + 24) x1 x2 ((setG x0)) 0 ((setG x0))).2.2)).2.1) ((List.take (List.length ((l5_0R m (m + 24) x1 x2 ((setG x0)) 0 ((setG x0))).2.2)) (List.drop 0 ((l5_0R m (m + 24) x1 x2 ((setG x0)) 0 ((setG x0))).2.2)))) ((((List.length ((l5_0R m (m + 24) x1 x2 ((setG x0)) 0 ((setG x0))).2.2)) : Nat) : Int)) 0)) = true) (c13 : ((((List.length (l5_2R m (m + 24) x1 ((((setG x0)))) ((l5_1R m (m + 24) x1 (((setG x0))) (([] : List ((List UInt8) × (List UInt8)))) ((((List.length (l5_0R m (m + 24) x1 x2 ((setG x0)) 0 ((setG x0))).2.2) : Nat) : Int)) 0 ((l5_0R m (m + 24) x1 x2 ((setG x0)) 0 ((setG x0))).2.2)).2.1) ((List.take (List.length ((l5_0R m (m + 24) x1 x2 ((setG x0)) 0 ((setG x0))).2.2)) (List.drop 0 ((l5_0R m (m + 24) x1 x2 ((setG x0)) 0 ((setG x0))).2.2)))) ((((List.length ((l5_0R m (m + 24) x1 x2 ((setG x0)) 0 ((setG x0))).2.2)) : Nat) : Int)) 0).2.1) : Nat) : Int) == (0)) = true) (c16 : lrightPre ((((setG x0)))) = true) (c17 : lrightPre (setG x1) = true) (c28 : ((Lib.compareBytes (lprintG ((((setG x0))))) (lprintG (setG x1))) == (IntKind.wrap .i64 (0 - (Lib.compareBytes (lprintG (setG x1)) (lprintG ((((setG x0))))))))) = true) (c38 : decide (List.length ((((setG x0)))) < 4611686018427387904) = true) (c41 : (((Lib.compareBytes (lprintG ((((setG x0))))) (lprintG (setG x1))) == (0)) == ((show List ((List UInt8) × (List UInt8)) from ((((setG x0))))) == (setG x1))) = true) (c45 : keepPre ((((setG x0)))) [([97] : List UInt8), ([98] : List UInt8), ([99] : List UInt8), ([110, 97, 109, 101] : List UInt8)] = true) (c48 : decide (List.length (keepG ((((setG x0)))) [([97] : List UInt8), ([98] : List UInt8), ([99] : List UInt8), ([110, 97, 109, 101] : List UInt8)]) < 4611686018427387904) = true) (c50 : ((show List ((List UInt8) × (List UInt8)) from (keepG ((((setG x0)))) [([97] : List UInt8), ([98] : List UInt8), ([99] : List UInt8), ([110, 97, 109, 101] : List UInt8)])) == ((((setG x0))))) = true) : (evCall F S21 (m + 25) 5 [(.agg [(.d (.sl (.int .i64) x0.1)), (.d (.sl (.int .i64) x0.2))]), (.agg [(.d (.sl (.int .i64) x1.1)), (.d (.sl (.int .i64) x1.2))]), (.d (.sl (.int .i64) x2))] []).run = some (.d (.bool true), []) := by
  refine runT_ok (LS := (fun k => if k = 916 then some (l5_0E x1 x2 (((setG x0))) ((l5_0R m (m + 24) x1 x2 ((setG x0)) 0 ((setG x0))).2.1) ((l5_0R m (m + 24) x1 x2 ((setG x0)) 0 ((setG x0))).2.2) 1) else if k = 1008806316530993552 then some (l5_1E x1 ((((setG x0)))) ((l5_1R m (m + 24) x1 (((setG x0))) (([] : List ((List UInt8) × (List UInt8)))) ((((List.length (l5_0R m (m + 24) x1 x2 ((setG x0)) 0 ((setG x0))).2.2) : Nat) : Int)) 0 ((l5_0R m (m + 24) x1 x2 ((setG x0)) 0 ((setG x0))).2.2)).2.1) (((((List.length (l5_0R m (m + 24) x1 x2 ((setG x0)) 0 ((setG x0))).2.2) : Nat) : Int))) ((l5_1R m (m + 24) x1 (((setG x0))) (([] : List ((List UInt8) × (List UInt8)))) ((((List.length (l5_0R m (m + 24) x1 x2 ((setG x0)) 0 ((setG x0))).2.2) : Nat) : Int)) 0 ((l5_0R m (m + 24) x1 x2 ((setG x0)) 0 ((setG x0))).2.2)).2.2) (((l5_0R m (m + 24) x1 x2 ((setG x0)) 0 ((setG x0))).2.2)) 0) else if k = 132226261520350065985680 then some (l5_2E x1 (((((setG x0))))) ((l5_2R m (m + 24) x1 ((((setG x0)))) ((l5_1R m (m + 24) x1 (((setG x0))) (([] : List ((List UInt8) × (List UInt8)))) ((((List.length (l5_0R m (m + 24) x1 x2 ((setG x0)) 0 ((setG x0))).2.2) : Nat) : Int)) 0 ((l5_0R m (m + 24) x1 x2 ((setG x0)) 0 ((setG x0))).2.2)).2.1) ((List.take (List.length ((l5_0R m (m + 24) x1 x2 ((setG x0)) 0 ((setG x0))).2.2)) (List.drop 0 ((l5_0R m (m + 24) x1 x2 ((setG x0)) 0 ((setG x0))).2.2)))) ((((List.length ((l5_0R m (m + 24) x1 x2 ((setG x0)) 0 ((setG x0))).2.2)) : Nat) : Int)) 0).2.1) (((List.take (List.length ((l5_0R m (m + 24) x1 x2 ((setG x0)) 0 ((setG x0))).2.2)) (List.drop 0 ((l5_0R m (m + 24) x1 x2 ((setG x0)) 0 ((setG x0))).2.2))))) (((((List.length ((l5_0R m (m + 24) x1 x2 ((setG x0)) 0 ((setG x0))).2.2)) : Nat) : Int))) ((l5_2R m (m + 24) x1 ((((setG x0)))) ((l5_1R m (m + 24) x1 (((setG x0))) (([] : List ((List UInt8) × (List UInt8)))) ((((List.length (l5_0R m (m + 24) x1 x2 ((setG x0)) 0 ((setG x0))).2.2) : Nat) : Int)) 0 ((l5_0R m (m + 24) x1 x2 ((setG x0)) 0 ((setG x0))).2.2)).2.1) ((List.take (List.length ((l5_0R m (m + 24) x1 x2 ((setG x0)) 0 ((setG x0))).2.2)) (List.drop 0 ((l5_0R m (m + 24) x1 x2 ((setG x0)) 0 ((setG x0))).2.2)))) ((((List.length ((l5_0R m (m + 24) x1 x2 ((setG x0)) 0 ((setG x0))).2.2)) : Nat) : Int)) 0).2.2) 0) else none)) (fn := fn5) (r := .d (.bool true)) (B' := []) (vis := [(916, [.top, .top, (.d (.sl (.int .i64) x2)), .top, (.ptr 0 0), .top, .top, (.d (.sl (.pair .str .str) (setG x0))), (.sr 1 0 (0 + (List.length (setG x0))) 2 none), (.d (.int .i64 (0))), .top, .top, .top, .top, .top, .top, .top, .top, .top, .top, .top, .top, .top, .top, .top, .top, .top, .top, .top, .top, .top, .top, .top, .top, .top, .top, .top, .top, .top, .top, .top, .top, .top, .top, .top, .top, .top, .top, .top, .top, .top, .top, .top, .top, .top, .top, .top, .top, .top, .top, .top, .top, .top, .top, .top, .top, .top, .top, .top, .top, .top, .top, .top, .top, .top, .top, .top, .top, .top, .top, .top, .top, .top, .top, .top, .top, .top, .top, .top, .top, .top, .top, .top, .top, .top, .top, .top, .top, .top, .top, .top, .top, .top, .top, .top, .top, .top, .top, .top, .top, .top, .top, .top, .top, .top, .top, .top, .top, .top, .top, .top], [(.cells [(.d (.sl (.int .i64) x1.1)), (.d (.sl (.int .i64) x1.2))]), (.arr (.pair .str .str) (setG x0) true)]), (1008806316530993552, l5_1H x1 (((setG x0))) (([] : List ((List UInt8) × (List UInt8)))) ((((List.length (l5_0R m (m + 24) x1 x2 ((setG x0)) 0 ((setG x0))).2.2) : Nat) : Int)) 0 ((l5_0R m (m + 24) x1 x2 ((setG x0)) 0 ((setG x0))).2.2), l5_1B x1 (((setG x0))) (([] : List ((List UInt8) × (List UInt8)))) ((((List.length (l5_0R m (m + 24) x1 x2 ((setG x0)) 0 ((setG x0))).2.2) : Nat) : Int)) 0 ((l5_0R m (m + 24) x1 x2 ((setG x0)) 0 ((setG x0))).2.2)), (132226261520350065985680, l5_2H x1 ((((setG x0)))) ((l5_1R m (m + 24) x1 (((setG x0))) (([] : List ((List UInt8) × (List UInt8)))) ((((List.length (l5_0R m (m + 24) x1 x2 ((setG x0)) 0 ((setG x0))).2.2) : Nat) : Int)) 0 ((l5_0R m (m + 24) x1 x2 ((setG x0)) 0 ((setG x0))).2.2)).2.1) ((List.take (List.length ((l5_0R m (m + 24) x1 x2 ((setG x0)) 0 ((setG x0))).2.2)) (List.drop 0 ((l5_0R m (m + 24) x1 x2 ((setG x0)) 0 ((setG x0))).2.2)))) ((((List.length ((l5_0R m (m + 24) x1 x2 ((setG x0)) 0 ((setG x0))).2.2)) : Nat) : Int)) 0, l5_2B x1 ((((setG x0)))) ((l5_1R m (m + 24) x1 (((setG x0))) (([] : List ((List UInt8) × (List UInt8)))) ((((List.length (l5_0R m (m + 24) x1 x2 ((setG x0)) 0 ((setG x0))).2.2) : Nat) : Int)) 0 ((l5_0R m (m + 24) x1 x2 ((setG x0)) 0 ((setG x0))).2.2)).2.1) ((List.take (List.length ((l5_0R m (m + 24) x1 x2 ((setG x0)) 0 ((setG x0))).2.2)) (List.drop 0 ((l5_0R m (m + 24) x1 x2 ((setG x0)) 0 ((setG x0))).2.2)))) ((((List.length ((l5_0R m (m + 24) x1 x2 ((setG x0)) 0 ((setG x0))).2.2)) : Nat) : Int)) 0)]) (by kernel_rfl) rfl (by kernel_rfl) (M.run_of_path _ [true, true, true, true, true, false, true, true, true, true, true, true, true, true, true, true, true, true, true, true, true, true, true, true, true, true, true, true, true, true, true, true, true, true, true, true, true, true, true, true, true, true, true, true, true, true, true] _ _ (by kernel_rfl) (all_t rfl (all_t c1 (all_t rfl (all_t rfl (all_t c8 (all_nt c9 (all_t (show decide ((0 + (List.length ((l5_0R m (m + 24) x1 x2 ((setG x0)) 0 ((setG x0))).2.2))) ≤ (List.length ((l5_0R m (m + 24) x1 x2 ((setG x0)) 0 ((setG x0))).2.2))) = true from decide_eq_true (Nat.le_of_eq (Nat.zero_add _))) (all_t rfl (all_t c13 (all_t c13 (all_t c13 (all_t c16 (all_t c17 (all_t rfl (all_t c13 (all_t c13 (all_t c13 (all_t c17 (all_t c16 (all_t rfl (all_t c13 (all_t c13 (all_t c13 (all_t c28 (all_t c28 (all_t c28 (all_t c16 (all_t c17 (all_t rfl (all_t c28 (all_t c28 (all_t c28 (all_t c28 (all_t c38 (all_t c28 (all_t c28 (all_t c41 (all_t c41 (all_t rfl (all_t c41 (all_t c45 (all_t c41 (all_t c41 (all_t c48 (all_t c41 (all_t c50 (all_t c50 all_nil)))))))))))))))))))))))))))))))))))))))))))))))) ?_
  intro p hp p2 hq
  rcases List.mem_cons.1 hp with rfl | hp
  · skip
    have h3 := l5_0_ok m (m + 24) x1 x2 ((setG x0)) 0 ((setG x0)) _ (some_getD (d := l5_0D) c3)
    have h3 := turns_eq (e := [.top, .top, (.d (.sl (.int .i64) x2)), .top, (.ptr 0 0), .top, .top, (.d (.sl (.pair .str .str) (setG x0))), (.sr 1 0 (0 + (List.length (setG x0))) 2 none), (.d (.int .i64 (0))), .top, .top, .top, .top, .top, .top, .top, .top, .top, .top, .top, .top, .top, .top, .top, .top, .top, .top, .top, .top, .top, .top, .top, .top, .top, .top, .top, .top, .top, .top, .top, .top, .top, .top, .top, .top, .top, .top, .top, .top, .top, .top, .top, .top, .top, .top, .top, .top, .top, .top, .top, .top, .top, .top, .top, .top, .top, .top, .top, .top, .top, .top, .top, .top, .top, .top, .top, .top, .top, .top, .top, .top, .top, .top, .top, .top, .top, .top, .top, .top, .top, .top, .top, .top, .top, .top, .top, .top, .top, .top, .top, .top, .top, .top, .top, .top, .top, .top, .top, .top, .top, .top, .top, .top, .top, .top, .top, .top, .top, .top, .top]) (B := [(.cells [(.d (.sl (.int .i64) x1.1)), (.d (.sl (.int .i64) x1.2))]), (.arr (.pair .str .str) (setG x0) true)]) (by unfold l5_0H; (try rw [show (0 + (List.length (setG x0))) = (List.length (setG x0)) from by simp])) rfl h3
    rw [eq_of_beq c5] at h3
    exact Eq.trans (Eq.mp (by kernel_rfl) h3) hq
  rcases List.mem_cons.1 hp with rfl | hp
  · skip
    have h3 := l5_1_ok m (m + 24) x1 (((setG x0))) (([] : List ((List UInt8) × (List UInt8)))) ((((List.length (l5_0R m (m + 24) x1 x2 ((setG x0)) 0 ((setG x0))).2.2) : Nat) : Int)) 0 ((l5_0R m (m + 24) x1 x2 ((setG x0)) 0 ((setG x0))).2.2) _ (some_getD (d := l5_1D) c7)
    exact Eq.trans (Eq.mp (by kernel_rfl) h3) hq
  rcases List.mem_cons.1 hp with rfl | hp
  · skip
    have h3 := l5_2_ok m (m + 24) x1 ((((setG x0)))) ((l5_1R m (m + 24) x1 (((setG x0))) (([] : List ((List UInt8) × (List UInt8)))) ((((List.length (l5_0R m (m + 24) x1 x2 ((setG x0)) 0 ((setG x0))).2.2) : Nat) : Int)) 0 ((l5_0R m (m + 24) x1 x2 ((setG x0)) 0 ((setG x0))).2.2)).2.1) ((List.take (List.length ((l5_0R m (m + 24) x1 x2 ((setG x0)) 0 ((setG x0))).2.2)) (List.drop 0 ((l5_0R m (m + 24) x1 x2 ((setG x0)) 0 ((setG x0))).2.2)))) ((((List.length ((l5_0R m (m + 24) x1 x2 ((setG x0)) 0 ((setG x0))).2.2)) : Nat) : Int)) 0 _ (some_getD (d := l5_2D) c11)
    exact Eq.trans (Eq.mp (by kernel_rfl) h3) hq
  cases hp

set_option maxHeartbeats 20000000 in
theorem lmerge_ok (m : Nat) (x0 : (List Int) × (List Int)) (x1 : (List Int) × (List Int)) (x2 : List Int) (q : Unit) (h : lmerge m x0 x1 x2 = some q) : (evCall F S21 (m + 25) 5 [(.agg [(.d (.sl (.int .i64) x0.1)), (.d (.sl (.int .i64) x0.2))]), (.agg [(.d (.sl (.int .i64) x1.1)), (.d (.sl (.int .i64) x1.2))]), (.d (.sl (.int .i64) x2))] []).run = some (.d (.bool true), []) := by
  unfold lmerge at h
  refine ite_cases h (fun c1 h => ?_) (fun c1 h => ?_)
  · skip
    refine ite_cases h (fun c3 h => ?_) (fun c3 h => ?_)
    · skip
      refine ite_cases h (fun c4 h => ?_) (fun c4 h => ?_)
      · skip
        refine ite_cases h (fun c6 h => ?_) (fun c6 h => ?_)
        · skip
          refine ite_cases h (fun c7 h => ?_) (fun c7 h => ?_)
          · skip
            refine ite_cases h (fun c8 h => ?_) (fun c8 h => ?_)
            · skip
              refine ite_cases h (fun c10 h => ?_) (fun c10 h => ?_)
              · skip
                refine ite_cases h (fun c12 h => ?_) (fun c12 h => ?_)
                · skip
                  refine ite_cases h (fun c15 h => ?_) (fun c15 h => ?_)
                  · skip
                    refine ite_cases h (fun c16 h => ?_) (fun c16 h => ?_)
                    · skip
                      refine ite_cases h (fun c27 h => ?_) (fun c27 h => ?_)
                      · skip
                        refine ite_cases h (fun c37 h => ?_) (fun c37 h => ?_)
                        · skip
                          refine ite_cases h (fun c40 h => ?_) (fun c40 h => ?_)
                          · skip
                            refine ite_cases h (fun c44 h => ?_) (fun c44 h => ?_)
                            · skip
                              refine ite_cases h (fun c47 h => ?_) (fun c47 h => ?_)
                              · skip
                                refine ite_cases h (fun c49 h => ?_) (fun c49 h => ?_)
                                · skip
                                  cases h
                                  exact lmerge_w0 m x0 x1 x2 c1 c3 c4 c6 c7 c8 c10 c12 c15 c16 c27 c37 c40 c44 c47 c49
                                · skip
                                  cases h
                              · skip
                                cases h
                            · skip
                              cases h
                          · skip
                            cases h
                        · skip
                          cases h
                      · skip
                        cases h
                    · skip
                      cases h
                  · skip
                    cases h
                · skip
                  cases h
              · skip
                cases h
            · skip
              cases h
          · skip
            cases h
        · skip
          cases h
      · skip
        refine ite_cases h (fun c5 h => ?_) (fun c5 h => ?_)
        · skip
          refine ite_cases h (fun c7 h => ?_) (fun c7 h => ?_)
          · skip
            refine ite_cases h (fun c8 h => ?_) (fun c8 h => ?_)
            · skip
              refine ite_cases h (fun c9 h => ?_) (fun c9 h => ?_)
              · skip
                refine ite_cases h (fun c11 h => ?_) (fun c11 h => ?_)
                · skip
                  refine ite_cases h (fun c13 h => ?_) (fun c13 h => ?_)
                  · skip
                    refine ite_cases h (fun c16 h => ?_) (fun c16 h => ?_)
                    · skip
                      refine ite_cases h (fun c17 h => ?_) (fun c17 h => ?_)
                      · skip
                        refine ite_cases h (fun c28 h => ?_) (fun c28 h => ?_)
                        · skip
                          refine ite_cases h (fun c38 h => ?_) (fun c38 h => ?_)
                          · skip
                            refine ite_cases h (fun c41 h => ?_) (fun c41 h => ?_)
                            · skip
                              refine ite_cases h (fun c45 h => ?_) (fun c45 h => ?_)
                              · skip
                                refine ite_cases h (fun c48 h => ?_) (fun c48 h => ?_)
                                · skip
                                  refine ite_cases h (fun c50 h => ?_) (fun c50 h => ?_)
                                  · skip
                                    cases h
                                    exact lmerge_w1 m x0 x1 x2 c1 c3 c4 c5 c7 c8 c9 c11 c13 c16 c17 c28 c38 c41 c45 c48 c50
                                  · skip
                                    cases h
                                · skip
                                  cases h
                              · skip
                                cases h
                            · skip
                              cases h
                          · skip
                            cases h
                        · skip
                          cases h
                      · skip
                        cases h
                    · skip
                      cases h
                  · skip
                    cases h
                · skip
                  cases h
              · skip
                cases h
            · skip
              cases h
          · skip
            cases h
        · skip
          cases h
    · skip
      cases h
  · skip
    cases h
theorem lmerge_at (x0 : (List Int) × (List Int)) (x1 : (List Int) × (List Int)) (x2 : List Int) (h : ∃ m q, lmerge m x0 x1 x2 = some q) : ∃ g B', CallAt Tryd.prog 5 g ∧ (g [(.agg [(.d (.sl (.int .i64) x0.1)), (.d (.sl (.int .i64) x0.2))]), (.agg [(.d (.sl (.int .i64) x1.1)), (.d (.sl (.int .i64) x1.2))]), (.d (.sl (.int .i64) x2))] []).run = some (.d (.bool true), B') := by
  obtain ⟨m, q, h⟩ := h
  exact ⟨_, _, evCall_atH mixed kinds hds S21 S21_ok (m + 25) 5, lmerge_ok m x0 x1 x2 q h⟩

end Go.Proofs.YtcdpgldecikejaaDoor.Dec
namespace Go.Proofs.YtcdpgldecikejaaDoor.Dec
open Go.Ev
set_option linter.unusedVariables false
set_option linter.unusedSimpArgs false
set_option maxRecDepth 100000
/-- One label put in front. -/
def frontG (o : LB) (i : Nat) : LB := o.getD i (([] : List UInt8), ([] : List UInt8)) :: (o.take i ++ o.drop (i + 1))
theorem front_perm (o : LB) (i : Nat) (h : i < o.length) : (frontG o i).Perm o := by
  have e : o.take i ++ o.getD i (([] : List UInt8), ([] : List UInt8)) :: o.drop (i + 1) = o := by
    rw [← drop_getD o i _ h, List.take_append_drop]
  exact (List.perm_middle.symm).trans (List.Perm.of_eq e)
theorem order_loop (m : Nat) (x1 : List Int × List Int) (x2 : List Int) (s7 x : LB) (hx : x.length ≤ 4) (hb : x2.length ≤ 9223372036854775807) : ∀ (n k : Nat) (o : LB), k ≤ x2.length → x2.length - k < n → o.Perm x → ∃ e j o', l5_0 m n x1 x2 s7 ((k : Nat) : Int) o = some (e, j, o') ∧ (e = 0 ∨ e = 1) ∧ o'.Perm x
  | 0, k, _, _, h, _ => by omega
  | n + 1, k, o, h1, h2, hp => by
    rw [l5_0]
    by_cases hk : k < x2.length
    · have e1 : decide (((k : Nat) : Int) < (((List.length x2) : Nat) : Int)) = true := decide_eq_true (by omega)
      rw [if_pos e1]
      by_cases hl : 1 < o.length
      · have hlen := hp.length_eq
        have e2 : decide ((((List.length o) : Nat) : Int) > 1) = true := decide_eq_true (by omega)
        have e3 : decide ((0 : Int) ≤ ((k : Nat) : Int)) = true := decide_eq_true (by omega)
        have ew : IntKind.wrap .i64 ((((List.length o) : Nat) : Int) - (1)) = ((o.length - 1 : Nat) : Int) := by rw [wrap_id (by omega) (by omega)]; omega
        have e4 : ((decide (0 ≤ ((o.length - 1 : Nat) : Int)) && decide (((o.length - 1 : Nat) : Int) ≤ 2305843009213693951)) && decide ((((o.length - 1 : Nat) : Int) - (0)) ≤ 2305843009213693951)) = true := by simp; omega
        rw [if_pos e2, if_pos e3, ew, if_pos e4, show Int.toNat ((k : Nat) : Int) = k from rfl]
        obtain ⟨i, hi, hil⟩ : ∃ i : Nat, withinI (x2.getD k 0) 0 ((o.length - 1 : Nat) : Int) = ((i : Nat) : Int) ∧ i < o.length := by
          have : 0 ≤ withinI (x2.getD k 0) 0 ((o.length - 1 : Nat) : Int) ∧ withinI (x2.getD k 0) 0 ((o.length - 1 : Nat) : Int) ≤ ((o.length - 1 : Nat) : Int) := by
            have p : ((o.length - 1 : Nat) : Int) - 0 + 1 > 0 := by omega
            have q1 := Int.emod_nonneg (x2.getD k 0) (Int.ne_of_gt p)
            have q2 := Int.emod_lt_of_pos (x2.getD k 0) p
            unfold withinI
            generalize x2.getD k 0 % (((o.length - 1 : Nat) : Int) - 0 + 1) = y at *
            omega
          exact ⟨(withinI (x2.getD k 0) 0 ((o.length - 1 : Nat) : Int)).toNat, by omega, by omega⟩
        rw [hi, show Int.toNat ((i : Nat) : Int) = i from rfl]
        have f1 : decide (0 ≤ ((i : Nat) : Int)) = true := decide_eq_true (by omega)
        have f2 : decide (((i : Nat) : Int) < (((List.length o) : Nat) : Int)) = true := decide_eq_true (by omega)
        have f3 : decide ((0 + i) < (List.length o)) = true := decide_eq_true (by omega)
        have f4 : (decide (0 ≤ ((i : Nat) : Int)) && decide (((i : Nat) : Int) ≤ (((List.length o) : Nat) : Int))) = true := by rw [f1]; simp; omega
        have f4b : decide (((i : Nat) : Int) ≤ (((List.length o) : Nat) : Int)) = true := decide_eq_true (by omega)
        have f5 : decide ((0 + (i - 0)) ≤ (List.length o)) = true := decide_eq_true (by omega)
        have lt : (o.take i).length = i := by rw [List.length_take]; omega
        have ei : IntKind.wrap .i64 (((i : Nat) : Int) + (1)) = ((i + 1 : Nat) : Int) := by rw [wrap_id (by omega) (by omega)]; rfl
        have ek : IntKind.wrap .i64 (((k : Nat) : Int) + (1)) = ((k + 1 : Nat) : Int) := by rw [wrap_id (by omega) (by omega)]; rfl
        have tI : List.take (i - 0) (List.drop 0 o) = o.take i := by rw [List.drop_zero, Nat.sub_zero]
        have f6 : decide (((1 + (List.length (o.take i))) * 32) ≤ 70368744177664) = true := decide_eq_true (by rw [lt]; omega)
        have f7 : (decide (0 ≤ ((i + 1 : Nat) : Int)) && decide (((i + 1 : Nat) : Int) ≤ (((List.length o) : Nat) : Int))) = true := by simp; omega
        have z0 : 0 + i = i := by omega
        have z1 : 0 + (i + 1) = i + 1 := by omega
        have go := order_loop m x1 x2 s7 x hx hb n (k + 1) (frontG o i) (by omega) (by omega) ((front_perm o i hil).trans hp)
        have tD : List.take (List.length o - (i + 1)) (List.drop (i + 1) o) = o.drop (i + 1) := by rw [List.take_of_length_le (by rw [List.length_drop]; omega)]
        have lD : (o.drop (i + 1)).length = o.length - (i + 1) := by rw [List.length_drop]
        have f8 : decide ((i + 1) + (List.length o - (i + 1)) ≤ List.length o) = true := decide_eq_true (by omega)
        have f9 : decide ((1 + List.length (o.take i) + List.length (o.drop (i + 1))) * 32 ≤ 70368744177664) = true := decide_eq_true (by rw [lt, lD]; omega)
        have f10 : decide (1 + List.length (o.take i) = List.length ([o.getD i (([] : List UInt8), ([] : List UInt8))] ++ o.take i)) = true := decide_eq_true (by rw [List.length_append, List.length_singleton])
        have f11 : decide ((1 + List.length (o.take i) + 0) * 32 ≤ 70368744177664) = true := decide_eq_true (by rw [lt]; omega)
        have fr : [o.getD i (([] : List UInt8), ([] : List UInt8))] ++ o.take i ++ o.drop (i + 1) = frontG o i := by unfold frontG; simp
        simp only [tI, z0, ei, ek, f1, f2, f3, f4, f4b, Bool.and_self, f5, f6, f7, f10, ↓reduceIte, show Int.toNat ((i + 1 : Nat) : Int) = i + 1 from rfl, z1, tD, f8, f9, f11, fr, decide_true, show decide (i < List.length o) = true from decide_eq_true hil]
        by_cases hq : (decide (i + 1 < List.length o) || decide (i + 1 = 0)) = true
        · rw [if_pos hq]; exact go
        · rw [if_neg hq]
          have he : o.drop (i + 1) = [] := by
            apply List.drop_eq_nil_of_le
            simp at hq
            omega
          rw [he, List.append_nil] at fr
          rw [List.append_nil, fr]; exact go
      · have e2 : decide ((((List.length o) : Nat) : Int) > 1) = false := decide_eq_false (by omega)
        rw [e2, if_neg (by simp)]
        exact ⟨_, _, _, rfl, .inl rfl, hp⟩
    · have e1 : decide (((k : Nat) : Int) < (((List.length x2) : Nat) : Int)) = false := decide_eq_false (by omega)
      rw [e1, if_neg (by simp)]
      exact ⟨_, _, _, rfl, .inr rfl, hp⟩
def foldW (o l : LB) : LB := o.foldl (fun l y => withG l y.1 y.2) l
def foldD (o l : LB) : LB := o.foldl (fun l y => dropG l [y.1]) l
def hasN (o : LB) (n : List UInt8) : Bool := o.any fun y => y.1 == n
theorem hasN_perm {o x : LB} (h : o.Perm x) (n : List UInt8) : hasN o n = hasN x n := by
  unfold hasN
  rw [Bool.eq_iff_iff, List.any_eq_true, List.any_eq_true]
  constructor
  · rintro ⟨y, hy, e⟩; exact ⟨y, h.mem_iff.1 hy, e⟩
  · rintro ⟨y, hy, e⟩; exact ⟨y, h.mem_iff.2 hy, e⟩
theorem with4_0 (h0 h1 h2 h3 : Bool) (v0 v1 v2 v3 v : List UInt8) (hv : v ≠ []) : withG (set4 h0 h1 h2 h3 v0 v1 v2 v3) [97] v = set4 true h1 h2 h3 v v1 v2 v3 := by
  unfold withG; rw [if_neg hv]; cases h0 <;> cases h1 <;> cases h2 <;> cases h3 <;> rfl
theorem with4_1 (h0 h1 h2 h3 : Bool) (v0 v1 v2 v3 v : List UInt8) (hv : v ≠ []) : withG (set4 h0 h1 h2 h3 v0 v1 v2 v3) [98] v = set4 h0 true h2 h3 v0 v v2 v3 := by
  unfold withG; rw [if_neg hv]; cases h0 <;> cases h1 <;> cases h2 <;> cases h3 <;> rfl
theorem with4_2 (h0 h1 h2 h3 : Bool) (v0 v1 v2 v3 v : List UInt8) (hv : v ≠ []) : withG (set4 h0 h1 h2 h3 v0 v1 v2 v3) [99] v = set4 h0 h1 true h3 v0 v1 v v3 := by
  unfold withG; rw [if_neg hv]; cases h0 <;> cases h1 <;> cases h2 <;> cases h3 <;> rfl
theorem drop4_0 (h0 h1 h2 h3 : Bool) (v0 v1 v2 v3 : List UInt8) : dropG (set4 h0 h1 h2 h3 v0 v1 v2 v3) [[97]] = set4 false h1 h2 h3 v0 v1 v2 v3 := by
  cases h0 <;> cases h1 <;> cases h2 <;> cases h3 <;> rfl
theorem drop4_1 (h0 h1 h2 h3 : Bool) (v0 v1 v2 v3 : List UInt8) : dropG (set4 h0 h1 h2 h3 v0 v1 v2 v3) [[98]] = set4 h0 false h2 h3 v0 v1 v2 v3 := by
  cases h0 <;> cases h1 <;> cases h2 <;> cases h3 <;> rfl
theorem drop4_2 (h0 h1 h2 h3 : Bool) (v0 v1 v2 v3 : List UInt8) : dropG (set4 h0 h1 h2 h3 v0 v1 v2 v3) [[99]] = set4 h0 h1 false h3 v0 v1 v2 v3 := by
  cases h0 <;> cases h1 <;> cases h2 <;> cases h3 <;> rfl
def okE (v0 v1 v2 : List UInt8) (y : (List UInt8) × (List UInt8)) : Prop := y = ([97], v0) ∨ y = ([98], v1) ∨ y = ([99], v2)
theorem foldW_is {v0 v1 v2 : List UInt8} (n0 : v0 ≠ []) (n1 : v1 ≠ []) (n2 : v2 ≠ []) : ∀ (o : LB) (g0 g1 g2 : Bool), (∀ y ∈ o, okE v0 v1 v2 y) → foldW o (set4 g0 g1 g2 false v0 v1 v2 [120]) = set4 (g0 || hasN o [97]) (g1 || hasN o [98]) (g2 || hasN o [99]) false v0 v1 v2 [120]
  | [], g0, g1, g2, _ => by
    show set4 g0 g1 g2 false v0 v1 v2 [120] = set4 (g0 || false) (g1 || false) (g2 || false) false v0 v1 v2 [120]
    rw [Bool.or_false, Bool.or_false, Bool.or_false]
  | y :: o, g0, g1, g2, h => by
    have hs : foldW (y :: o) (set4 g0 g1 g2 false v0 v1 v2 [120]) = foldW o (withG (set4 g0 g1 g2 false v0 v1 v2 [120]) y.1 y.2) := rfl
    have ho := fun a b c => foldW_is n0 n1 n2 o a b c (fun z hz => h z (List.mem_cons_of_mem _ hz))
    have hh : ∀ n, hasN (y :: o) n = ((y.1 == n) || hasN o n) := fun n => rfl
    rw [hs, hh, hh, hh]
    rcases h y (List.mem_cons_self ..) with rfl | rfl | rfl
    · rw [with4_0 _ _ _ _ _ _ _ _ _ n0, ho]
      have a0 : (([97] : List UInt8) == [97]) = true := rfl
      have a1 : (([97] : List UInt8) == [98]) = false := rfl
      have a2 : (([97] : List UInt8) == [99]) = false := rfl
      rw [a0, a1, a2]; simp
    · rw [with4_1 _ _ _ _ _ _ _ _ _ n1, ho]
      have a0 : (([98] : List UInt8) == [97]) = false := rfl
      have a1 : (([98] : List UInt8) == [98]) = true := rfl
      have a2 : (([98] : List UInt8) == [99]) = false := rfl
      rw [a0, a1, a2]; simp
    · rw [with4_2 _ _ _ _ _ _ _ _ _ n2, ho]
      have a0 : (([99] : List UInt8) == [97]) = false := rfl
      have a1 : (([99] : List UInt8) == [98]) = false := rfl
      have a2 : (([99] : List UInt8) == [99]) = true := rfl
      rw [a0, a1, a2]; simp
theorem foldD_is {v0 v1 v2 : List UInt8} : ∀ (o : LB) (g0 g1 g2 : Bool), (∀ y ∈ o, okE v0 v1 v2 y) → foldD o (set4 g0 g1 g2 false v0 v1 v2 [120]) = set4 (g0 && !hasN o [97]) (g1 && !hasN o [98]) (g2 && !hasN o [99]) false v0 v1 v2 [120]
  | [], g0, g1, g2, _ => by
    show set4 g0 g1 g2 false v0 v1 v2 [120] = set4 (g0 && true) (g1 && true) (g2 && true) false v0 v1 v2 [120]
    rw [Bool.and_true, Bool.and_true, Bool.and_true]
  | y :: o, g0, g1, g2, h => by
    have hs : foldD (y :: o) (set4 g0 g1 g2 false v0 v1 v2 [120]) = foldD o (dropG (set4 g0 g1 g2 false v0 v1 v2 [120]) [y.1]) := rfl
    have ho := fun a b c => foldD_is (v0 := v0) (v1 := v1) (v2 := v2) o a b c (fun z hz => h z (List.mem_cons_of_mem _ hz))
    have hh : ∀ n, hasN (y :: o) n = ((y.1 == n) || hasN o n) := fun n => rfl
    rw [hs, hh, hh, hh]
    rcases h y (List.mem_cons_self ..) with rfl | rfl | rfl
    · rw [drop4_0, ho]
      have a0 : (([97] : List UInt8) == [97]) = true := rfl
      have a1 : (([97] : List UInt8) == [98]) = false := rfl
      have a2 : (([97] : List UInt8) == [99]) = false := rfl
      rw [a0, a1, a2]; simp
    · rw [drop4_1, ho]
      have a0 : (([98] : List UInt8) == [97]) = false := rfl
      have a1 : (([98] : List UInt8) == [98]) = true := rfl
      have a2 : (([98] : List UInt8) == [99]) = false := rfl
      rw [a0, a1, a2]; simp
    · rw [drop4_2, ho]
      have a0 : (([99] : List UInt8) == [97]) = false := rfl
      have a1 : (([99] : List UInt8) == [98]) = false := rfl
      have a2 : (([99] : List UInt8) == [99]) = true := rfl
      rw [a0, a1, a2]; simp
theorem mem_if {h : Bool} {n v : List UInt8} {y : (List UInt8) × (List UInt8)} (hy : y ∈ (if h then [(n, v)] else [])) : y = (n, v) := by
  cases h with
  | false => cases hy
  | true => exact List.mem_singleton.1 hy
theorem set4_mem (h0 h1 h2 : Bool) (v0 v1 v2 : List UInt8) : ∀ y ∈ set4 h0 h1 h2 false v0 v1 v2 [120], okE v0 v1 v2 y := by
  intro y hy
  unfold set4 at hy
  rcases List.mem_append.1 hy with hy | hy
  · rcases List.mem_append.1 hy with hy | hy
    · rcases List.mem_append.1 hy with hy | hy
      · exact .inl (mem_if hy)
      · exact .inr (.inl (mem_if hy))
    · exact .inr (.inr (mem_if hy))
  · cases hy
theorem set4_has (h0 h1 h2 : Bool) (v0 v1 v2 : List UInt8) : hasN (set4 h0 h1 h2 false v0 v1 v2 [120]) [97] = h0 ∧ hasN (set4 h0 h1 h2 false v0 v1 v2 [120]) [98] = h1 ∧ hasN (set4 h0 h1 h2 false v0 v1 v2 [120]) [99] = h2 := by
  refine ⟨?_, ?_, ?_⟩ <;> (cases h0 <;> cases h1 <;> cases h2 <;> rfl)
theorem ins_len (x : (List UInt8) × (List UInt8)) : ∀ o : LB, (insAt o x).length = o.length + 1
  | [] => rfl
  | y :: o => by
    rw [insAt]
    split
    · rw [List.length_cons, ins_len x o, List.length_cons]
    · rfl
theorem with_len (l : LB) (n v : List UInt8) : (withG l n v).length ≤ l.length + 1 := by
  unfold withG
  have := drop_len l [n]
  split
  · omega
  · rw [ins_len]; omega
theorem put_loop (m : Nat) (x1 : List Int × List Int) (s7 o : LB) (ho : o.length ≤ 1000) : ∀ (n k : Nat) (l : LB), k ≤ o.length → o.length - k < n → l.length ≤ k → ∃ j, l5_1 m n x1 s7 l ((o.length : Nat) : Int) ((k : Nat) : Int) o = some (0, foldW (o.drop k) l, j)
  | 0, k, _, _, h, _ => by omega
  | n + 1, k, l, h1, h2, h3 => by
    rw [l5_1]
    by_cases hk : k < o.length
    · have e1 : decide (((k : Nat) : Int) < (((List.length o) : Nat) : Int)) = true := decide_eq_true (by omega)
      have e2 : decide ((0 : Int) ≤ ((k : Nat) : Int)) = true := decide_eq_true (by omega)
      have e3 : decide (0 + k < List.length o) = true := decide_eq_true (by omega)
      have e4 : decide (List.length l ≤ 1000000) = true := decide_eq_true (by omega)
      have e7 : IntKind.wrap .i64 (((k : Nat) : Int) + (1)) = ((k + 1 : Nat) : Int) := by rw [wrap_id (by omega) (by omega)]; rfl
      have hw := with_len l (o.getD k (([] : List UInt8), ([] : List UInt8))).1 (o.getD k (([] : List UInt8), ([] : List UInt8))).2
      obtain ⟨j, go⟩ := put_loop m x1 s7 o ho n (k + 1) _ (by omega) (by omega) (Nat.le_trans hw (by omega))
      refine ⟨j, ?_⟩
      rw [drop_getD o k (([] : List UInt8), ([] : List UInt8)) hk, show Int.toNat ((k : Nat) : Int) = k from rfl, e7, if_pos e1, if_pos e2, if_pos e1, if_pos e3, if_pos e4, Nat.zero_add]
      exact go
    · have e1 : decide (((k : Nat) : Int) < (((List.length o) : Nat) : Int)) = false := decide_eq_false (by omega)
      rw [e1, if_neg (by simp), List.drop_eq_nil_of_le (by omega)]
      exact ⟨_, rfl⟩
theorem take_loop (m : Nat) (x1 : List Int × List Int) (s7 o : LB) (ho : o.length ≤ 1000) : ∀ (n k : Nat) (l : LB), k ≤ o.length → o.length - k < n → l.length ≤ 1000 → ∃ j, l5_2 m n x1 s7 l o ((o.length : Nat) : Int) ((k : Nat) : Int) = some (0, foldD (o.drop k) l, j)
  | 0, k, _, _, h, _ => by omega
  | n + 1, k, l, h1, h2, h3 => by
    rw [l5_2]
    by_cases hk : k < o.length
    · have e1 : decide (((k : Nat) : Int) < (((List.length o) : Nat) : Int)) = true := decide_eq_true (by omega)
      have e2 : decide ((0 : Int) ≤ ((k : Nat) : Int)) = true := decide_eq_true (by omega)
      have e4 : keepPre l [(o.getD k (([] : List UInt8), ([] : List UInt8))).1] = true := decide_eq_true ⟨by omega, by simp⟩
      have e7 : IntKind.wrap .i64 (((k : Nat) : Int) + (1)) = ((k + 1 : Nat) : Int) := by rw [wrap_id (by omega) (by omega)]; rfl
      have hw := drop_len l [(o.getD k (([] : List UInt8), ([] : List UInt8))).1]
      obtain ⟨j, go⟩ := take_loop m x1 s7 o ho n (k + 1) _ (by omega) (by omega) (Nat.le_trans hw (by omega))
      refine ⟨j, ?_⟩
      rw [drop_getD o k (([] : List UInt8), ([] : List UInt8)) hk, show Int.toNat ((k : Nat) : Int) = k from rfl, e7, if_pos e1, if_pos e2, if_pos e1, if_pos e4, List.drop_zero, List.take_length]
      exact go
    · have e1 : decide (((k : Nat) : Int) < (((List.length o) : Nat) : Int)) = false := decide_eq_false (by omega)
      rw [e1, if_neg (by simp), List.drop_eq_nil_of_le (by omega)]
      exact ⟨_, rfl⟩
theorem keep_names (h0 h1 h2 : Bool) (v0 v1 v2 : List UInt8) : keepG (set4 h0 h1 h2 false v0 v1 v2 [120]) [([97] : List UInt8), ([98] : List UInt8), ([99] : List UInt8), ([110, 97, 109, 101] : List UInt8)] = set4 h0 h1 h2 false v0 v1 v2 [120] := by
  cases h0 <;> cases h1 <;> cases h2 <;> rfl
theorem lmerge_pure (x0 x1 : List Int × List Int) (x2 : List Int) (hb : x2.length ≤ 9223372036854775807) : ∃ m q, lmerge m x0 x1 x2 = some q := by
  refine ⟨x2.length + 100, (), ?_⟩
  unfold lmerge
  skip
  obtain ⟨h0, h1, h2, v0, v1, v2, hl, b0, b1, b2⟩ := setG_of x0
  obtain ⟨g0, g1, g2, w0, w1, w2, hz, d0, d1, d2⟩ := setG_of x1
  have c0 := val_len b0
  have c1 := val_len b1
  have c2 := val_len b2
  have n0 : v0 ≠ [] := by intro e; rw [e] at c0; simp at c0
  have n1 : v1 ≠ [] := by intro e; rw [e] at c1; simp at c1
  have n2 : v2 ≠ [] := by intro e; rw [e] at c2; simp at c2
  have rx := set4_right h0 h1 h2 false (v3 := [120]) c0 c1 c2 ⟨by decide, by decide⟩
  have rz := set4_right g0 g1 g2 false (v3 := [120]) (val_len d0) (val_len d1) (val_len d2) ⟨by decide, by decide⟩
  have lx := set4_len h0 h1 h2 false v0 v1 v2 [120]
  have kn := keep_names h0 h1 h2 v0 v1 v2
  have all : ∀ o : LB, o.Perm (set4 h0 h1 h2 false v0 v1 v2 [120]) → foldW o [] = set4 h0 h1 h2 false v0 v1 v2 [120] ∧ foldD o (set4 h0 h1 h2 false v0 v1 v2 [120]) = [] := by
    intro o hp
    have hm : ∀ y ∈ o, okE v0 v1 v2 y := fun y hy => set4_mem h0 h1 h2 v0 v1 v2 y (hp.mem_iff.1 hy)
    obtain ⟨q0, q1, q2⟩ := set4_has h0 h1 h2 v0 v1 v2
    constructor
    · have := foldW_is n0 n1 n2 o false false false hm
      rw [hasN_perm hp, hasN_perm hp, hasN_perm hp, q0, q1, q2, Bool.false_or, Bool.false_or, Bool.false_or] at this
      exact this
    · have := foldD_is o h0 h1 h2 hm
      rw [hasN_perm hp, hasN_perm hp, hasN_perm hp, q0, q1, q2, Bool.and_not_self, Bool.and_not_self, Bool.and_not_self] at this
      exact this
  rw [hl, hz]
  generalize set4 h0 h1 h2 false v0 v1 v2 [120] = x at *
  generalize set4 g0 g1 g2 false w0 w1 w2 [120] = z at *
  obtain ⟨e, j, o, ho, hec, hp⟩ := order_loop (x2.length + 100) x1 x2 x x lx hb (x2.length + 100 + 24) 0 x (by omega) (by omega) (List.Perm.refl x)
  obtain ⟨fw, fd⟩ := all o hp
  have lo := hp.length_eq
  obtain ⟨j1, hj1⟩ := put_loop (x2.length + 100) x1 x o (by omega) (x2.length + 100 + 24) 0 [] (by omega) (by omega) (by simp)
  obtain ⟨j2, hj2⟩ := take_loop (x2.length + 100) x1 x o (by omega) (x2.length + 100 + 24) 0 x (by omega) (by omega) (by omega)
  rw [List.drop_zero, fw] at hj1
  rw [List.drop_zero, fd] at hj2
  rw [Int.natCast_zero] at hj1 hj2 ho
  have t1 : decide (((0 + (List.length x)) * 32) ≤ 70368744177664) = true := decide_eq_true (by omega)
  have t2 : decide (List.length x < 4611686018427387904) = true := decide_eq_true (by omega)
  have t3 : ((((List.length ([] : LB)) : Nat) : Int) == (0)) = true := rfl
  have p1 := set4_pre rx
  have p2 := set4_pre rz
  have q1 : (Lib.compareBytes (lprintG x) (lprintG z) == IntKind.wrap .i64 (0 - Lib.compareBytes (lprintG z) (lprintG x))) = true := by
    have := cmp_in (lprintG z) (lprintG x)
    rw [wrap_id (by omega) (by omega), beq_iff_eq, cmp_neg (lprintG x) (lprintG z)]
    omega
  have q2 : ((Lib.compareBytes (lprintG x) (lprintG z) == (0)) == ((show LB from x) == z)) = true := by
    rw [beq_iff_eq, Bool.eq_iff_iff, beq_iff_eq, beq_iff_eq, cmp_zero]
    exact ⟨fun h => lprint_inj rx rz h, fun h => by have h : x = z := h; rw [h]⟩
  have q3 : keepPre x [([97] : List UInt8), ([98] : List UInt8), ([99] : List UInt8), ([110, 97, 109, 101] : List UInt8)] = true := decide_eq_true ⟨by omega, by simp⟩
  rcases hec with rfl | rfl
  all_goals
    simp only [t1, l5_0R, ho, l5_1R, hj1, List.drop_zero, List.take_length, l5_2R, hj2, t2, t3, p1, p2, q1, q2, q3, kn, beq_self_eq_true, Option.isSome_some, Option.getD_some, ↓reduceIte]
  rfl
theorem lmerge_law (x0 x1 : List Int × List Int) (x2 : List Int) (_ : Ty.ok (.pair (.sl (.int .i64)) (.sl (.int .i64))) x0) (_ : Ty.ok (.pair (.sl (.int .i64)) (.sl (.int .i64))) x1) (ok2 : Ty.ok (.sl (.int .i64)) x2) : ∃ g B', CallAt Tryd.prog 5 g ∧ (g [argAV true (.pair (.sl (.int .i64)) (.sl (.int .i64))) x0, argAV true (.pair (.sl (.int .i64)) (.sl (.int .i64))) x1, argAV false (.sl (.int .i64)) x2] []).run = some (.d (.bool true), B') := lmerge_at x0 x1 x2 (lmerge_pure x0 x1 x2 ok2.1)

end Go.Proofs.YtcdpgldecikejaaDoor.Dec
