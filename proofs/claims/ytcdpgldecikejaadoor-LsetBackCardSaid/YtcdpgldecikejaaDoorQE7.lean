/- Parse. LsetBack, as a plain function. LsetBack: its plain law. -/
import Derived.Test.YtcdpgldecikejaaDoorQE6
import Derived.KernelRfl
namespace Go.Proofs.YtcdpgldecikejaaDoor.Dec
open Go.Ev
set_option linter.unusedVariables false
set_option linter.unusedSimpArgs false
set_option maxRecDepth 100000
noncomputable def fn16 : AFn := (F 16).getD ⟨0, [], .bad, false, false, noHd⟩
noncomputable def body16 : AC := fn16.body
def l16_0 (m : Nat) : Nat → List UInt8 → List UInt8 → List ((List UInt8) × (List UInt8)) → Option (Nat × (List UInt8) × (List ((List UInt8) × (List UInt8))))
  | 0, _, _, _ => none
  | n + 1, x0, s5, b0 => if (s5 == ([] : List UInt8)) = true then
      some (5, s5, b0)
    else
      if (s5 == ([125] : List UInt8)) = true then
        some (4, s5, b0)
      else
        if decide ((((List.length b0) : Nat) : Int) ≤ 6) = true then
          if (([61] : List UInt8) == s5) = true then
            if decide (0 ≤ (((List.length s5) : Nat) : Int)) = true then
              if decide (1 ≤ (((List.length s5) : Nat) : Int)) = true then
                if decide (List.length (List.drop 1 (List.take (List.length s5) s5)) ≤ 1000000) = true then
                  if (unqG (List.drop 1 (List.take (List.length s5) s5))).2.2 = true then
                    if decide ((((List.length b0) + 1) * 32) ≤ 70368744177664) = true then
                      if decide ((((List.length (unqG (List.drop 1 (List.take (List.length s5) s5))).2.1) : Nat) : Int) ≥ 1) = true then
                        if decide (1 ≤ (((List.length (unqG (List.drop 1 (List.take (List.length s5) s5))).2.1) : Nat) : Int)) = true then
                          if ((List.drop 0 (List.take 1 (unqG (List.drop 1 (List.take (List.length s5) s5))).2.1)) == ([44] : List UInt8)) = true then
                            l16_0 m n x0 ((List.drop 1 (List.take (List.length (unqG (List.drop 1 (List.take (List.length s5) s5))).2.1) (unqG (List.drop 1 (List.take (List.length s5) s5))).2.1))) ((b0 ++ [((List.drop 0 (List.take 0 s5)), (unqG (List.drop 1 (List.take (List.length s5) s5))).1)]))
                          else
                            l16_0 m n x0 ((unqG (List.drop 1 (List.take (List.length s5) s5))).2.1) ((b0 ++ [((List.drop 0 (List.take 0 s5)), (unqG (List.drop 1 (List.take (List.length s5) s5))).1)]))
                        else
                          none
                      else
                        l16_0 m n x0 ((unqG (List.drop 1 (List.take (List.length s5) s5))).2.1) ((b0 ++ [((List.drop 0 (List.take 0 s5)), (unqG (List.drop 1 (List.take (List.length s5) s5))).1)]))
                    else
                      none
                  else
                    some (0, s5, b0)
                else
                  none
              else
                none
            else
              none
          else
            if decide ((Lib.indexByte s5 (Nat.toUInt8 (Int.toNat ((UInt8.toNat (List.getD ([61] : List UInt8) 0 0) : Nat) : Int)))) ≥ 0) = true then
              if (decide (0 ≤ (Lib.indexByte s5 (Nat.toUInt8 (Int.toNat ((UInt8.toNat (List.getD ([61] : List UInt8) 0 0) : Nat) : Int))))) && decide ((Lib.indexByte s5 (Nat.toUInt8 (Int.toNat ((UInt8.toNat (List.getD ([61] : List UInt8) 0 0) : Nat) : Int)))) ≤ (((List.length s5) : Nat) : Int))) = true then
                if (decide (0 ≤ (IntKind.wrap .i64 ((Lib.indexByte s5 (Nat.toUInt8 (Int.toNat ((UInt8.toNat (List.getD ([61] : List UInt8) 0 0) : Nat) : Int)))) + (1)))) && decide ((IntKind.wrap .i64 ((Lib.indexByte s5 (Nat.toUInt8 (Int.toNat ((UInt8.toNat (List.getD ([61] : List UInt8) 0 0) : Nat) : Int)))) + (1))) ≤ (((List.length s5) : Nat) : Int))) = true then
                  if decide (List.length (List.drop (Int.toNat (IntKind.wrap .i64 ((Lib.indexByte s5 (Nat.toUInt8 (Int.toNat ((UInt8.toNat (List.getD ([61] : List UInt8) 0 0) : Nat) : Int)))) + (1)))) (List.take (List.length s5) s5)) ≤ 1000000) = true then
                    if (unqG (List.drop (Int.toNat (IntKind.wrap .i64 ((Lib.indexByte s5 (Nat.toUInt8 (Int.toNat ((UInt8.toNat (List.getD ([61] : List UInt8) 0 0) : Nat) : Int)))) + (1)))) (List.take (List.length s5) s5))).2.2 = true then
                      if decide ((((List.length b0) + 1) * 32) ≤ 70368744177664) = true then
                        if decide ((((List.length (unqG (List.drop (Int.toNat (IntKind.wrap .i64 ((Lib.indexByte s5 (Nat.toUInt8 (Int.toNat ((UInt8.toNat (List.getD ([61] : List UInt8) 0 0) : Nat) : Int)))) + (1)))) (List.take (List.length s5) s5))).2.1) : Nat) : Int) ≥ 1) = true then
                          if decide (1 ≤ (((List.length (unqG (List.drop (Int.toNat (IntKind.wrap .i64 ((Lib.indexByte s5 (Nat.toUInt8 (Int.toNat ((UInt8.toNat (List.getD ([61] : List UInt8) 0 0) : Nat) : Int)))) + (1)))) (List.take (List.length s5) s5))).2.1) : Nat) : Int)) = true then
                            if ((List.drop 0 (List.take 1 (unqG (List.drop (Int.toNat (IntKind.wrap .i64 ((Lib.indexByte s5 (Nat.toUInt8 (Int.toNat ((UInt8.toNat (List.getD ([61] : List UInt8) 0 0) : Nat) : Int)))) + (1)))) (List.take (List.length s5) s5))).2.1)) == ([44] : List UInt8)) = true then
                              l16_0 m n x0 ((List.drop 1 (List.take (List.length (unqG (List.drop (Int.toNat (IntKind.wrap .i64 ((Lib.indexByte s5 (Nat.toUInt8 (Int.toNat ((UInt8.toNat (List.getD ([61] : List UInt8) 0 0) : Nat) : Int)))) + (1)))) (List.take (List.length s5) s5))).2.1) (unqG (List.drop (Int.toNat (IntKind.wrap .i64 ((Lib.indexByte s5 (Nat.toUInt8 (Int.toNat ((UInt8.toNat (List.getD ([61] : List UInt8) 0 0) : Nat) : Int)))) + (1)))) (List.take (List.length s5) s5))).2.1))) ((b0 ++ [((List.drop 0 (List.take (Int.toNat (Lib.indexByte s5 (Nat.toUInt8 (Int.toNat ((UInt8.toNat (List.getD ([61] : List UInt8) 0 0) : Nat) : Int))))) s5)), (unqG (List.drop (Int.toNat (IntKind.wrap .i64 ((Lib.indexByte s5 (Nat.toUInt8 (Int.toNat ((UInt8.toNat (List.getD ([61] : List UInt8) 0 0) : Nat) : Int)))) + (1)))) (List.take (List.length s5) s5))).1)]))
                            else
                              l16_0 m n x0 ((unqG (List.drop (Int.toNat (IntKind.wrap .i64 ((Lib.indexByte s5 (Nat.toUInt8 (Int.toNat ((UInt8.toNat (List.getD ([61] : List UInt8) 0 0) : Nat) : Int)))) + (1)))) (List.take (List.length s5) s5))).2.1) ((b0 ++ [((List.drop 0 (List.take (Int.toNat (Lib.indexByte s5 (Nat.toUInt8 (Int.toNat ((UInt8.toNat (List.getD ([61] : List UInt8) 0 0) : Nat) : Int))))) s5)), (unqG (List.drop (Int.toNat (IntKind.wrap .i64 ((Lib.indexByte s5 (Nat.toUInt8 (Int.toNat ((UInt8.toNat (List.getD ([61] : List UInt8) 0 0) : Nat) : Int)))) + (1)))) (List.take (List.length s5) s5))).1)]))
                          else
                            none
                        else
                          l16_0 m n x0 ((unqG (List.drop (Int.toNat (IntKind.wrap .i64 ((Lib.indexByte s5 (Nat.toUInt8 (Int.toNat ((UInt8.toNat (List.getD ([61] : List UInt8) 0 0) : Nat) : Int)))) + (1)))) (List.take (List.length s5) s5))).2.1) ((b0 ++ [((List.drop 0 (List.take (Int.toNat (Lib.indexByte s5 (Nat.toUInt8 (Int.toNat ((UInt8.toNat (List.getD ([61] : List UInt8) 0 0) : Nat) : Int))))) s5)), (unqG (List.drop (Int.toNat (IntKind.wrap .i64 ((Lib.indexByte s5 (Nat.toUInt8 (Int.toNat ((UInt8.toNat (List.getD ([61] : List UInt8) 0 0) : Nat) : Int)))) + (1)))) (List.take (List.length s5) s5))).1)]))
                      else
                        none
                    else
                      some (1, s5, b0)
                  else
                    none
                else
                  none
              else
                none
            else
              if decide (List.length ([] : List UInt8) ≤ 1000000) = true then
                if (unqG ([] : List UInt8)).2.2 = true then
                  if decide ((((List.length b0) + 1) * 32) ≤ 70368744177664) = true then
                    if decide ((((List.length (unqG ([] : List UInt8)).2.1) : Nat) : Int) ≥ 1) = true then
                      if decide (1 ≤ (((List.length (unqG ([] : List UInt8)).2.1) : Nat) : Int)) = true then
                        if ((List.drop 0 (List.take 1 (unqG ([] : List UInt8)).2.1)) == ([44] : List UInt8)) = true then
                          l16_0 m n x0 ((List.drop 1 (List.take (List.length (unqG ([] : List UInt8)).2.1) (unqG ([] : List UInt8)).2.1))) ((b0 ++ [(s5, (unqG ([] : List UInt8)).1)]))
                        else
                          l16_0 m n x0 ((unqG ([] : List UInt8)).2.1) ((b0 ++ [(s5, (unqG ([] : List UInt8)).1)]))
                      else
                        none
                    else
                      l16_0 m n x0 ((unqG ([] : List UInt8)).2.1) ((b0 ++ [(s5, (unqG ([] : List UInt8)).1)]))
                  else
                    none
                else
                  some (2, s5, b0)
              else
                none
        else
          some (3, s5, b0)
def l16_0D : Nat × (List UInt8) × (List ((List UInt8) × (List UInt8))) := (0, [], [])
@[reducible] def l16_0R (m n : Nat) (x0 : List UInt8) (s5 : List UInt8) (b0 : List ((List UInt8) × (List UInt8))) : Nat × (List UInt8) × (List ((List UInt8) × (List UInt8))) := Option.getD (l16_0 m n x0 s5 b0) l16_0D
def l16_0H (x0 : List UInt8) (s5 : List UInt8) (b0 : List ((List UInt8) × (List UInt8))) : Env := [(.d (.str x0)), .top, .top, .top, (.sr 0 0 (List.length b0) 2 none), (.d (.str s5)), .top, .top, .top, .top, .top, .top, .top, .top, .top, .top, .top, .top, .top, .top, .top, .top, .top, .top, .top, .top, .top, .top, .top, .top, .top, .top, .top, .top, .top, .top, .top, .top, .top, .top, .top, .top, .top, .top, .top, .top, .top, .top, .top, .top, .top, .top, .top, .top, .top, .top]
def l16_0B (x0 : List UInt8) (s5 : List UInt8) (b0 : List ((List UInt8) × (List UInt8))) : Boxes := [(.arr (.pair .str .str) b0 true)]
def l16_0E (x0 : List UInt8) (s5 : List UInt8) (b0 : List ((List UInt8) × (List UInt8))) : Nat → AEx × Env × Boxes
  | 0 => (.ret, [(.d (.str x0)), .top, (.sr 1 0 0 2 none), (.d (.bool false)), (.sr 0 0 (List.length b0) 2 none), (.d (.str s5)), (.d (.str (List.drop 0 (List.take 0 s5)))), (.d (.str (List.drop 1 (List.take (List.length s5) s5)))), (.d (.bool true)), (.d (.str (unqG (List.drop 1 (List.take (List.length s5) s5))).1)), (.d (.str (unqG (List.drop 1 (List.take (List.length s5) s5))).2.1)), (.d (.bool (unqG (List.drop 1 (List.take (List.length s5) s5))).2.2)), .top, .top, (.d (.str s5)), (.d (.bool (!(s5 == ([] : List UInt8))))), (.d (.bool (!(s5 == ([] : List UInt8))))), (.d (.str s5)), (.d (.bool (!(s5 == ([125] : List UInt8))))), (.d (.bool (!(s5 == ([125] : List UInt8))))), (.d (.bool (!(s5 == ([125] : List UInt8))))), (.sr 0 0 (List.length b0) 2 none), (.d (.int .i64 (((List.length b0) : Nat) : Int))), (.d (.bool (decide ((((List.length b0) : Nat) : Int) ≤ 6)))), (.d (.bool (decide ((((List.length b0) : Nat) : Int) ≤ 6)))), (.tup [(.d (.str (List.drop 0 (List.take 0 s5)))), (.d (.str (List.drop 1 (List.take (List.length s5) s5)))), (.d (.bool true))]), (.d (.str s5)), (.tup [(.d (.str (List.drop 0 (List.take 0 s5)))), (.d (.str (List.drop 1 (List.take (List.length s5) s5)))), (.d (.bool true))]), (.d (.str (List.drop 0 (List.take 0 s5)))), (.d (.str (List.drop 1 (List.take (List.length s5) s5)))), (.d (.bool true)), (.tup [(.d (.str (unqG (List.drop 1 (List.take (List.length s5) s5))).1)), (.d (.str (unqG (List.drop 1 (List.take (List.length s5) s5))).2.1)), (.d (.bool (unqG (List.drop 1 (List.take (List.length s5) s5))).2.2))]), (.d (.str (List.drop 1 (List.take (List.length s5) s5)))), (.tup [(.d (.str (unqG (List.drop 1 (List.take (List.length s5) s5))).1)), (.d (.str (unqG (List.drop 1 (List.take (List.length s5) s5))).2.1)), (.d (.bool (unqG (List.drop 1 (List.take (List.length s5) s5))).2.2))]), (.d (.str (unqG (List.drop 1 (List.take (List.length s5) s5))).1)), (.d (.str (unqG (List.drop 1 (List.take (List.length s5) s5))).2.1)), (.d (.bool (unqG (List.drop 1 (List.take (List.length s5) s5))).2.2)), (.d (.bool (unqG (List.drop 1 (List.take (List.length s5) s5))).2.2)), (.d (.bool (!(unqG (List.drop 1 (List.take (List.length s5) s5))).2.2))), .top, .top, .top, .top, .top, .top, .top, .top, .top, .top, .top, .top, .top, .top, .top, .top, .top], [(.arr (.pair .str .str) b0 true), (.arr (.pair .str .str) ([] : List ((List UInt8) × (List UInt8))) true)])
  | 1 => (.ret, [(.d (.str x0)), .top, (.sr 1 0 0 2 none), (.d (.bool false)), (.sr 0 0 (List.length b0) 2 none), (.d (.str s5)), (.d (.str (List.drop 0 (List.take (Int.toNat (Lib.indexByte s5 (Nat.toUInt8 (Int.toNat ((UInt8.toNat (List.getD ([61] : List UInt8) 0 0) : Nat) : Int))))) s5)))), (.d (.str (List.drop (Int.toNat (IntKind.wrap .i64 ((Lib.indexByte s5 (Nat.toUInt8 (Int.toNat ((UInt8.toNat (List.getD ([61] : List UInt8) 0 0) : Nat) : Int)))) + (1)))) (List.take (List.length s5) s5)))), (.d (.bool true)), (.d (.str (unqG (List.drop (Int.toNat (IntKind.wrap .i64 ((Lib.indexByte s5 (Nat.toUInt8 (Int.toNat ((UInt8.toNat (List.getD ([61] : List UInt8) 0 0) : Nat) : Int)))) + (1)))) (List.take (List.length s5) s5))).1)), (.d (.str (unqG (List.drop (Int.toNat (IntKind.wrap .i64 ((Lib.indexByte s5 (Nat.toUInt8 (Int.toNat ((UInt8.toNat (List.getD ([61] : List UInt8) 0 0) : Nat) : Int)))) + (1)))) (List.take (List.length s5) s5))).2.1)), (.d (.bool (unqG (List.drop (Int.toNat (IntKind.wrap .i64 ((Lib.indexByte s5 (Nat.toUInt8 (Int.toNat ((UInt8.toNat (List.getD ([61] : List UInt8) 0 0) : Nat) : Int)))) + (1)))) (List.take (List.length s5) s5))).2.2)), .top, .top, (.d (.str s5)), (.d (.bool (!(s5 == ([] : List UInt8))))), (.d (.bool (!(s5 == ([] : List UInt8))))), (.d (.str s5)), (.d (.bool (!(s5 == ([125] : List UInt8))))), (.d (.bool (!(s5 == ([125] : List UInt8))))), (.d (.bool (!(s5 == ([125] : List UInt8))))), (.sr 0 0 (List.length b0) 2 none), (.d (.int .i64 (((List.length b0) : Nat) : Int))), (.d (.bool (decide ((((List.length b0) : Nat) : Int) ≤ 6)))), (.d (.bool (decide ((((List.length b0) : Nat) : Int) ≤ 6)))), (.tup [(.d (.str (List.drop 0 (List.take (Int.toNat (Lib.indexByte s5 (Nat.toUInt8 (Int.toNat ((UInt8.toNat (List.getD ([61] : List UInt8) 0 0) : Nat) : Int))))) s5)))), (.d (.str (List.drop (Int.toNat (IntKind.wrap .i64 ((Lib.indexByte s5 (Nat.toUInt8 (Int.toNat ((UInt8.toNat (List.getD ([61] : List UInt8) 0 0) : Nat) : Int)))) + (1)))) (List.take (List.length s5) s5)))), (.d (.bool true))]), (.d (.str s5)), (.tup [(.d (.str (List.drop 0 (List.take (Int.toNat (Lib.indexByte s5 (Nat.toUInt8 (Int.toNat ((UInt8.toNat (List.getD ([61] : List UInt8) 0 0) : Nat) : Int))))) s5)))), (.d (.str (List.drop (Int.toNat (IntKind.wrap .i64 ((Lib.indexByte s5 (Nat.toUInt8 (Int.toNat ((UInt8.toNat (List.getD ([61] : List UInt8) 0 0) : Nat) : Int)))) + (1)))) (List.take (List.length s5) s5)))), (.d (.bool true))]), (.d (.str (List.drop 0 (List.take (Int.toNat (Lib.indexByte s5 (Nat.toUInt8 (Int.toNat ((UInt8.toNat (List.getD ([61] : List UInt8) 0 0) : Nat) : Int))))) s5)))), (.d (.str (List.drop (Int.toNat (IntKind.wrap .i64 ((Lib.indexByte s5 (Nat.toUInt8 (Int.toNat ((UInt8.toNat (List.getD ([61] : List UInt8) 0 0) : Nat) : Int)))) + (1)))) (List.take (List.length s5) s5)))), (.d (.bool true)), (.tup [(.d (.str (unqG (List.drop (Int.toNat (IntKind.wrap .i64 ((Lib.indexByte s5 (Nat.toUInt8 (Int.toNat ((UInt8.toNat (List.getD ([61] : List UInt8) 0 0) : Nat) : Int)))) + (1)))) (List.take (List.length s5) s5))).1)), (.d (.str (unqG (List.drop (Int.toNat (IntKind.wrap .i64 ((Lib.indexByte s5 (Nat.toUInt8 (Int.toNat ((UInt8.toNat (List.getD ([61] : List UInt8) 0 0) : Nat) : Int)))) + (1)))) (List.take (List.length s5) s5))).2.1)), (.d (.bool (unqG (List.drop (Int.toNat (IntKind.wrap .i64 ((Lib.indexByte s5 (Nat.toUInt8 (Int.toNat ((UInt8.toNat (List.getD ([61] : List UInt8) 0 0) : Nat) : Int)))) + (1)))) (List.take (List.length s5) s5))).2.2))]), (.d (.str (List.drop (Int.toNat (IntKind.wrap .i64 ((Lib.indexByte s5 (Nat.toUInt8 (Int.toNat ((UInt8.toNat (List.getD ([61] : List UInt8) 0 0) : Nat) : Int)))) + (1)))) (List.take (List.length s5) s5)))), (.tup [(.d (.str (unqG (List.drop (Int.toNat (IntKind.wrap .i64 ((Lib.indexByte s5 (Nat.toUInt8 (Int.toNat ((UInt8.toNat (List.getD ([61] : List UInt8) 0 0) : Nat) : Int)))) + (1)))) (List.take (List.length s5) s5))).1)), (.d (.str (unqG (List.drop (Int.toNat (IntKind.wrap .i64 ((Lib.indexByte s5 (Nat.toUInt8 (Int.toNat ((UInt8.toNat (List.getD ([61] : List UInt8) 0 0) : Nat) : Int)))) + (1)))) (List.take (List.length s5) s5))).2.1)), (.d (.bool (unqG (List.drop (Int.toNat (IntKind.wrap .i64 ((Lib.indexByte s5 (Nat.toUInt8 (Int.toNat ((UInt8.toNat (List.getD ([61] : List UInt8) 0 0) : Nat) : Int)))) + (1)))) (List.take (List.length s5) s5))).2.2))]), (.d (.str (unqG (List.drop (Int.toNat (IntKind.wrap .i64 ((Lib.indexByte s5 (Nat.toUInt8 (Int.toNat ((UInt8.toNat (List.getD ([61] : List UInt8) 0 0) : Nat) : Int)))) + (1)))) (List.take (List.length s5) s5))).1)), (.d (.str (unqG (List.drop (Int.toNat (IntKind.wrap .i64 ((Lib.indexByte s5 (Nat.toUInt8 (Int.toNat ((UInt8.toNat (List.getD ([61] : List UInt8) 0 0) : Nat) : Int)))) + (1)))) (List.take (List.length s5) s5))).2.1)), (.d (.bool (unqG (List.drop (Int.toNat (IntKind.wrap .i64 ((Lib.indexByte s5 (Nat.toUInt8 (Int.toNat ((UInt8.toNat (List.getD ([61] : List UInt8) 0 0) : Nat) : Int)))) + (1)))) (List.take (List.length s5) s5))).2.2)), (.d (.bool (unqG (List.drop (Int.toNat (IntKind.wrap .i64 ((Lib.indexByte s5 (Nat.toUInt8 (Int.toNat ((UInt8.toNat (List.getD ([61] : List UInt8) 0 0) : Nat) : Int)))) + (1)))) (List.take (List.length s5) s5))).2.2)), (.d (.bool (!(unqG (List.drop (Int.toNat (IntKind.wrap .i64 ((Lib.indexByte s5 (Nat.toUInt8 (Int.toNat ((UInt8.toNat (List.getD ([61] : List UInt8) 0 0) : Nat) : Int)))) + (1)))) (List.take (List.length s5) s5))).2.2))), .top, .top, .top, .top, .top, .top, .top, .top, .top, .top, .top, .top, .top, .top, .top, .top, .top], [(.arr (.pair .str .str) b0 true), (.arr (.pair .str .str) ([] : List ((List UInt8) × (List UInt8))) true)])
  | 2 => (.ret, [(.d (.str x0)), .top, (.sr 1 0 0 2 none), (.d (.bool false)), (.sr 0 0 (List.length b0) 2 none), (.d (.str s5)), (.d (.str s5)), (.d (.str ([] : List UInt8))), (.d (.bool false)), (.d (.str (unqG ([] : List UInt8)).1)), (.d (.str (unqG ([] : List UInt8)).2.1)), (.d (.bool (unqG ([] : List UInt8)).2.2)), .top, .top, (.d (.str s5)), (.d (.bool (!(s5 == ([] : List UInt8))))), (.d (.bool (!(s5 == ([] : List UInt8))))), (.d (.str s5)), (.d (.bool (!(s5 == ([125] : List UInt8))))), (.d (.bool (!(s5 == ([125] : List UInt8))))), (.d (.bool (!(s5 == ([125] : List UInt8))))), (.sr 0 0 (List.length b0) 2 none), (.d (.int .i64 (((List.length b0) : Nat) : Int))), (.d (.bool (decide ((((List.length b0) : Nat) : Int) ≤ 6)))), (.d (.bool (decide ((((List.length b0) : Nat) : Int) ≤ 6)))), (.tup [(.d (.str s5)), (.d (.str ([] : List UInt8))), (.d (.bool false))]), (.d (.str s5)), (.tup [(.d (.str s5)), (.d (.str ([] : List UInt8))), (.d (.bool false))]), (.d (.str s5)), (.d (.str ([] : List UInt8))), (.d (.bool false)), (.tup [(.d (.str (unqG ([] : List UInt8)).1)), (.d (.str (unqG ([] : List UInt8)).2.1)), (.d (.bool (unqG ([] : List UInt8)).2.2))]), (.d (.str ([] : List UInt8))), (.tup [(.d (.str (unqG ([] : List UInt8)).1)), (.d (.str (unqG ([] : List UInt8)).2.1)), (.d (.bool (unqG ([] : List UInt8)).2.2))]), (.d (.str (unqG ([] : List UInt8)).1)), (.d (.str (unqG ([] : List UInt8)).2.1)), (.d (.bool (unqG ([] : List UInt8)).2.2)), (.d (.bool (unqG ([] : List UInt8)).2.2)), (.d (.bool (!(unqG ([] : List UInt8)).2.2))), .top, .top, .top, .top, .top, .top, .top, .top, .top, .top, .top, .top, .top, .top, .top, .top, .top], [(.arr (.pair .str .str) b0 true), (.arr (.pair .str .str) ([] : List ((List UInt8) × (List UInt8))) true)])
  | 3 => (.exit 0, [(.d (.str x0)), .top, .top, .top, (.sr 0 0 (List.length b0) 2 none), (.d (.str s5)), .top, .top, .top, .top, .top, .top, .top, .top, (.d (.str s5)), (.d (.bool (!(s5 == ([] : List UInt8))))), (.d (.bool (!(s5 == ([] : List UInt8))))), (.d (.str s5)), (.d (.bool (!(s5 == ([125] : List UInt8))))), (.d (.bool (!(s5 == ([125] : List UInt8))))), (.d (.bool (!(s5 == ([125] : List UInt8))))), (.sr 0 0 (List.length b0) 2 none), (.d (.int .i64 (((List.length b0) : Nat) : Int))), (.d (.bool (decide ((((List.length b0) : Nat) : Int) ≤ 6)))), (.d (.bool (decide ((((List.length b0) : Nat) : Int) ≤ 6)))), .top, .top, .top, .top, .top, .top, .top, .top, .top, .top, .top, .top, .top, .top, .top, .top, .top, .top, .top, .top, .top, .top, .top, .top, .top, .top, .top, .top, .top, .top, .top], [(.arr (.pair .str .str) b0 true)])
  | 4 => (.exit 0, [(.d (.str x0)), .top, .top, .top, (.sr 0 0 (List.length b0) 2 none), (.d (.str s5)), .top, .top, .top, .top, .top, .top, .top, .top, (.d (.str s5)), (.d (.bool (!(s5 == ([] : List UInt8))))), (.d (.bool (!(s5 == ([] : List UInt8))))), (.d (.str s5)), (.d (.bool (!(s5 == ([125] : List UInt8))))), (.d (.bool (!(s5 == ([125] : List UInt8))))), (.d (.bool (!(s5 == ([125] : List UInt8))))), (.tup []), (.tup []), (.tup []), (.d (.bool false)), .top, .top, .top, .top, .top, .top, .top, .top, .top, .top, .top, .top, .top, .top, .top, .top, .top, .top, .top, .top, .top, .top, .top, .top, .top, .top, .top, .top, .top, .top, .top], [(.arr (.pair .str .str) b0 true)])
  | _ => (.exit 0, [(.d (.str x0)), .top, .top, .top, (.sr 0 0 (List.length b0) 2 none), (.d (.str s5)), .top, .top, .top, .top, .top, .top, .top, .top, (.d (.str s5)), (.d (.bool (!(s5 == ([] : List UInt8))))), (.d (.bool (!(s5 == ([] : List UInt8))))), (.tup []), (.tup []), (.d (.bool false)), (.d (.bool false)), (.tup []), (.tup []), (.tup []), (.d (.bool false)), .top, .top, .top, .top, .top, .top, .top, .top, .top, .top, .top, .top, .top, .top, .top, .top, .top, .top, .top, .top, .top, .top, .top, .top, .top, .top, .top, .top, .top, .top, .top], [(.arr (.pair .str .str) b0 true)])
noncomputable def lbl16_0 : AC := loopBody 49 body16

set_option maxHeartbeats 20000000 in
theorem l16_0_w0 (m n : Nat) (x0 : List UInt8) (s5 : List UInt8) (b0 : List ((List UInt8) × (List UInt8))) (c0 : (s5 == ([] : List UInt8)) = true) : (turns (hds 16 49) 0 49 (evC byref (evCall F S17 (m + 24)) (m + 24) 0 (hds 16) lbl16_0) (n + 1) (l16_0H x0 s5 b0) (l16_0B x0 s5 b0)).run = some (.exit 0, [(.d (.str x0)), .top, .top, .top, (.sr 0 0 (List.length b0) 2 none), (.d (.str s5)), .top, .top, .top, .top, .top, .top, .top, .top, (.d (.str s5)), (.d (.bool (!(s5 == ([] : List UInt8))))), (.d (.bool (!(s5 == ([] : List UInt8))))), (.tup []), (.tup []), (.d (.bool false)), (.d (.bool false)), (.tup []), (.tup []), (.tup []), (.d (.bool false)), .top, .top, .top, .top, .top, .top, .top, .top, .top, .top, .top, .top, .top, .top, .top, .top, .top, .top, .top, .top, .top, .top, .top, .top, .top, .top, .top, .top, .top, .top, .top], [(.arr (.pair .str .str) b0 true)]) := by
  exact turns_last (by simp) (M.run_of_path _ [false, false, false, false, false, false, false, false] _ _ (by kernel_rfl) (all_nt c0 (all_nt c0 (all_nt c0 (all_f Bool.false_ne_true (all_f Bool.false_ne_true (all_f Bool.false_ne_true (all_f Bool.false_ne_true (all_f Bool.false_ne_true all_nil))))))))) 
set_option maxHeartbeats 20000000 in
theorem l16_0_w1 (m n : Nat) (x0 : List UInt8) (s5 : List UInt8) (b0 : List ((List UInt8) × (List UInt8))) (c0 : ¬ (s5 == ([] : List UInt8)) = true) (c3 : (s5 == ([125] : List UInt8)) = true) : (turns (hds 16 49) 0 49 (evC byref (evCall F S17 (m + 24)) (m + 24) 0 (hds 16) lbl16_0) (n + 1) (l16_0H x0 s5 b0) (l16_0B x0 s5 b0)).run = some (.exit 0, [(.d (.str x0)), .top, .top, .top, (.sr 0 0 (List.length b0) 2 none), (.d (.str s5)), .top, .top, .top, .top, .top, .top, .top, .top, (.d (.str s5)), (.d (.bool (!(s5 == ([] : List UInt8))))), (.d (.bool (!(s5 == ([] : List UInt8))))), (.d (.str s5)), (.d (.bool (!(s5 == ([125] : List UInt8))))), (.d (.bool (!(s5 == ([125] : List UInt8))))), (.d (.bool (!(s5 == ([125] : List UInt8))))), (.tup []), (.tup []), (.tup []), (.d (.bool false)), .top, .top, .top, .top, .top, .top, .top, .top, .top, .top, .top, .top, .top, .top, .top, .top, .top, .top, .top, .top, .top, .top, .top, .top, .top, .top, .top, .top, .top, .top, .top], [(.arr (.pair .str .str) b0 true)]) := by
  exact turns_last (by simp) (M.run_of_path _ [true, true, true, false, false, false, false, false] _ _ (by kernel_rfl) (all_nf c0 (all_nf c0 (all_nf c0 (all_nt c3 (all_nt c3 (all_nt c3 (all_nt c3 (all_f Bool.false_ne_true all_nil))))))))) 
set_option maxHeartbeats 20000000 in
theorem l16_0_w2 (m n : Nat) (x0 : List UInt8) (s5 : List UInt8) (b0 : List ((List UInt8) × (List UInt8))) (r : AEx × Env × Boxes) (c0 : ¬ (s5 == ([] : List UInt8)) = true) (c3 : ¬ (s5 == ([125] : List UInt8)) = true) (c7 : decide ((((List.length b0) : Nat) : Int) ≤ 6) = true) (c12 : (([61] : List UInt8) == s5) = true) (c14 : decide (0 ≤ (((List.length s5) : Nat) : Int)) = true) (c15 : decide (1 ≤ (((List.length s5) : Nat) : Int)) = true) (c16 : decide (List.length (List.drop 1 (List.take (List.length s5) s5)) ≤ 1000000) = true) (c17 : (unqG (List.drop 1 (List.take (List.length s5) s5))).2.2 = true) (c19 : decide ((((List.length b0) + 1) * 32) ≤ 70368744177664) = true) (c21 : decide ((((List.length (unqG (List.drop 1 (List.take (List.length s5) s5))).2.1) : Nat) : Int) ≥ 1) = true) (c25 : decide (1 ≤ (((List.length (unqG (List.drop 1 (List.take (List.length s5) s5))).2.1) : Nat) : Int)) = true) (c29 : ((List.drop 0 (List.take 1 (unqG (List.drop 1 (List.take (List.length s5) s5))).2.1)) == ([44] : List UInt8)) = true) (ih : (turns (hds 16 49) 0 49 (evC byref (evCall F S17 (m + 24)) (m + 24) 0 (hds 16) lbl16_0) n (l16_0H x0 ((List.drop 1 (List.take (List.length (unqG (List.drop 1 (List.take (List.length s5) s5))).2.1) (unqG (List.drop 1 (List.take (List.length s5) s5))).2.1))) ((b0 ++ [((List.drop 0 (List.take 0 s5)), (unqG (List.drop 1 (List.take (List.length s5) s5))).1)]))) (l16_0B x0 ((List.drop 1 (List.take (List.length (unqG (List.drop 1 (List.take (List.length s5) s5))).2.1) (unqG (List.drop 1 (List.take (List.length s5) s5))).2.1))) ((b0 ++ [((List.drop 0 (List.take 0 s5)), (unqG (List.drop 1 (List.take (List.length s5) s5))).1)])))).run = some r) : (turns (hds 16 49) 0 49 (evC byref (evCall F S17 (m + 24)) (m + 24) 0 (hds 16) lbl16_0) (n + 1) (l16_0H x0 s5 b0) (l16_0B x0 s5 b0)).run = some r := by
  have ht : (turn (hds 16 49) 0 49 (evC byref (evCall F S17 (m + 24)) (m + 24) 0 (hds 16) lbl16_0) (l16_0H x0 s5 b0) (l16_0B x0 s5 b0)).run = some (let r1 := (unqG (List.drop 1 (List.take (List.length s5) s5))); (.normal, [(.d (.str x0)), .top, .top, .top, (.sr 0 0 ((List.length b0) + 1) 2 none), (.d (.str (List.drop 1 (List.take (List.length r1.2.1) r1.2.1)))), .top, .top, .top, .top, .top, .top, .top, .top, .top, .top, .top, .top, .top, .top, .top, .top, .top, .top, .top, .top, .top, .top, .top, .top, .top, .top, .top, .top, .top, .top, .top, .top, .top, .top, .top, .top, .top, .top, .top, .top, .top, .top, .top, .top, .top, .top, .top, .top, .top, .top], [(.arr (.pair .str .str) (b0 ++ [((List.drop 0 (List.take 0 s5)), r1.1)]) true)])) := M.run_of_path _ [true, true, true, true, true, true, true, true, false, false, false, false, true, true, true, true, true, false, true, true, true, true, true, true, true, true, true, true, true, true, true] _ _ (by kernel_rfl) (all_nf c0 (all_nf c0 (all_nf c0 (all_nf c3 (all_nf c3 (all_nf c3 (all_nf c3 (all_t c7 (all_f Bool.false_ne_true (all_f Bool.false_ne_true (all_f Bool.false_ne_true (all_f Bool.false_ne_true (all_t c12 (all_t rfl (all_t c14 (all_t c15 (all_t c16 (all_nt c17 (all_t rfl (all_t c19 (all_t (show decide ((List.length b0) = (List.length b0)) = true from decide_eq_true rfl) (all_t c21 (all_t c21 (all_t c21 (all_t c21 (all_t c25 (all_t c21 (all_t c21 (all_t c21 (all_t c29 (all_t c25 all_nil)))))))))))))))))))))))))))))))
  refine turns_step ht (turns_eq ?_ ?_ ih)
  · unfold l16_0H
    first | (simp; done) | (simp [Nat.add_assoc]; done) | (simp; omega)
  · unfold l16_0B
    simp
set_option maxHeartbeats 20000000 in
theorem l16_0_w3 (m n : Nat) (x0 : List UInt8) (s5 : List UInt8) (b0 : List ((List UInt8) × (List UInt8))) (r : AEx × Env × Boxes) (c0 : ¬ (s5 == ([] : List UInt8)) = true) (c3 : ¬ (s5 == ([125] : List UInt8)) = true) (c7 : decide ((((List.length b0) : Nat) : Int) ≤ 6) = true) (c12 : (([61] : List UInt8) == s5) = true) (c14 : decide (0 ≤ (((List.length s5) : Nat) : Int)) = true) (c15 : decide (1 ≤ (((List.length s5) : Nat) : Int)) = true) (c16 : decide (List.length (List.drop 1 (List.take (List.length s5) s5)) ≤ 1000000) = true) (c17 : (unqG (List.drop 1 (List.take (List.length s5) s5))).2.2 = true) (c19 : decide ((((List.length b0) + 1) * 32) ≤ 70368744177664) = true) (c21 : decide ((((List.length (unqG (List.drop 1 (List.take (List.length s5) s5))).2.1) : Nat) : Int) ≥ 1) = true) (c25 : decide (1 ≤ (((List.length (unqG (List.drop 1 (List.take (List.length s5) s5))).2.1) : Nat) : Int)) = true) (c29 : ¬ ((List.drop 0 (List.take 1 (unqG (List.drop 1 (List.take (List.length s5) s5))).2.1)) == ([44] : List UInt8)) = true) (ih : (turns (hds 16 49) 0 49 (evC byref (evCall F S17 (m + 24)) (m + 24) 0 (hds 16) lbl16_0) n (l16_0H x0 ((unqG (List.drop 1 (List.take (List.length s5) s5))).2.1) ((b0 ++ [((List.drop 0 (List.take 0 s5)), (unqG (List.drop 1 (List.take (List.length s5) s5))).1)]))) (l16_0B x0 ((unqG (List.drop 1 (List.take (List.length s5) s5))).2.1) ((b0 ++ [((List.drop 0 (List.take 0 s5)), (unqG (List.drop 1 (List.take (List.length s5) s5))).1)])))).run = some r) : (turns (hds 16 49) 0 49 (evC byref (evCall F S17 (m + 24)) (m + 24) 0 (hds 16) lbl16_0) (n + 1) (l16_0H x0 s5 b0) (l16_0B x0 s5 b0)).run = some r := by
  have ht : (turn (hds 16 49) 0 49 (evC byref (evCall F S17 (m + 24)) (m + 24) 0 (hds 16) lbl16_0) (l16_0H x0 s5 b0) (l16_0B x0 s5 b0)).run = some (.normal, [(.d (.str x0)), .top, .top, .top, (.sr 0 0 ((List.length b0) + 1) 2 none), (.d (.str (unqG (List.drop 1 (List.take (List.length s5) s5))).2.1)), .top, .top, .top, .top, .top, .top, .top, .top, .top, .top, .top, .top, .top, .top, .top, .top, .top, .top, .top, .top, .top, .top, .top, .top, .top, .top, .top, .top, .top, .top, .top, .top, .top, .top, .top, .top, .top, .top, .top, .top, .top, .top, .top, .top, .top, .top, .top, .top, .top, .top], [(.arr (.pair .str .str) (b0 ++ [((List.drop 0 (List.take 0 s5)), (unqG (List.drop 1 (List.take (List.length s5) s5))).1)]) true)]) := M.run_of_path _ [true, true, true, true, true, true, true, true, false, false, false, false, true, true, true, true, true, false, true, true, true, true, true, true, true, true, true, true, true, false] _ _ (by kernel_rfl) (all_nf c0 (all_nf c0 (all_nf c0 (all_nf c3 (all_nf c3 (all_nf c3 (all_nf c3 (all_t c7 (all_f Bool.false_ne_true (all_f Bool.false_ne_true (all_f Bool.false_ne_true (all_f Bool.false_ne_true (all_t c12 (all_t rfl (all_t c14 (all_t c15 (all_t c16 (all_nt c17 (all_t rfl (all_t c19 (all_t (show decide ((List.length b0) = (List.length b0)) = true from decide_eq_true rfl) (all_t c21 (all_t c21 (all_t c21 (all_t c21 (all_t c25 (all_t c21 (all_t c21 (all_t c21 (all_f c29 all_nil))))))))))))))))))))))))))))))
  refine turns_step ht (turns_eq ?_ ?_ ih)
  · unfold l16_0H
    first | (simp; done) | (simp [Nat.add_assoc]; done) | (simp; omega)
  · unfold l16_0B
    simp
set_option maxHeartbeats 20000000 in
theorem l16_0_w4 (m n : Nat) (x0 : List UInt8) (s5 : List UInt8) (b0 : List ((List UInt8) × (List UInt8))) (r : AEx × Env × Boxes) (c0 : ¬ (s5 == ([] : List UInt8)) = true) (c3 : ¬ (s5 == ([125] : List UInt8)) = true) (c7 : decide ((((List.length b0) : Nat) : Int) ≤ 6) = true) (c12 : (([61] : List UInt8) == s5) = true) (c14 : decide (0 ≤ (((List.length s5) : Nat) : Int)) = true) (c15 : decide (1 ≤ (((List.length s5) : Nat) : Int)) = true) (c16 : decide (List.length (List.drop 1 (List.take (List.length s5) s5)) ≤ 1000000) = true) (c17 : (unqG (List.drop 1 (List.take (List.length s5) s5))).2.2 = true) (c19 : decide ((((List.length b0) + 1) * 32) ≤ 70368744177664) = true) (c21 : ¬ decide ((((List.length (unqG (List.drop 1 (List.take (List.length s5) s5))).2.1) : Nat) : Int) ≥ 1) = true) (ih : (turns (hds 16 49) 0 49 (evC byref (evCall F S17 (m + 24)) (m + 24) 0 (hds 16) lbl16_0) n (l16_0H x0 ((unqG (List.drop 1 (List.take (List.length s5) s5))).2.1) ((b0 ++ [((List.drop 0 (List.take 0 s5)), (unqG (List.drop 1 (List.take (List.length s5) s5))).1)]))) (l16_0B x0 ((unqG (List.drop 1 (List.take (List.length s5) s5))).2.1) ((b0 ++ [((List.drop 0 (List.take 0 s5)), (unqG (List.drop 1 (List.take (List.length s5) s5))).1)])))).run = some r) : (turns (hds 16 49) 0 49 (evC byref (evCall F S17 (m + 24)) (m + 24) 0 (hds 16) lbl16_0) (n + 1) (l16_0H x0 s5 b0) (l16_0B x0 s5 b0)).run = some r := by
  have ht : (turn (hds 16 49) 0 49 (evC byref (evCall F S17 (m + 24)) (m + 24) 0 (hds 16) lbl16_0) (l16_0H x0 s5 b0) (l16_0B x0 s5 b0)).run = some (.normal, [(.d (.str x0)), .top, .top, .top, (.sr 0 0 ((List.length b0) + 1) 2 none), (.d (.str (unqG (List.drop 1 (List.take (List.length s5) s5))).2.1)), .top, .top, .top, .top, .top, .top, .top, .top, .top, .top, .top, .top, .top, .top, .top, .top, .top, .top, .top, .top, .top, .top, .top, .top, .top, .top, .top, .top, .top, .top, .top, .top, .top, .top, .top, .top, .top, .top, .top, .top, .top, .top, .top, .top, .top, .top, .top, .top, .top, .top], [(.arr (.pair .str .str) (b0 ++ [((List.drop 0 (List.take 0 s5)), (unqG (List.drop 1 (List.take (List.length s5) s5))).1)]) true)]) := M.run_of_path _ [true, true, true, true, true, true, true, true, false, false, false, false, true, true, true, true, true, false, true, true, true, false, false, false, false, false, false, false, false] _ _ (by kernel_rfl) (all_nf c0 (all_nf c0 (all_nf c0 (all_nf c3 (all_nf c3 (all_nf c3 (all_nf c3 (all_t c7 (all_f Bool.false_ne_true (all_f Bool.false_ne_true (all_f Bool.false_ne_true (all_f Bool.false_ne_true (all_t c12 (all_t rfl (all_t c14 (all_t c15 (all_t c16 (all_nt c17 (all_t rfl (all_t c19 (all_t (show decide ((List.length b0) = (List.length b0)) = true from decide_eq_true rfl) (all_f c21 (all_f c21 (all_f c21 (all_f c21 (all_f c21 (all_f c21 (all_f c21 (all_f Bool.false_ne_true all_nil)))))))))))))))))))))))))))))
  refine turns_step ht (turns_eq ?_ ?_ ih)
  · unfold l16_0H
    first | (simp; done) | (simp [Nat.add_assoc]; done) | (simp; omega)
  · unfold l16_0B
    simp
set_option maxHeartbeats 20000000 in
theorem l16_0_w5 (m n : Nat) (x0 : List UInt8) (s5 : List UInt8) (b0 : List ((List UInt8) × (List UInt8))) (c0 : ¬ (s5 == ([] : List UInt8)) = true) (c3 : ¬ (s5 == ([125] : List UInt8)) = true) (c7 : decide ((((List.length b0) : Nat) : Int) ≤ 6) = true) (c12 : (([61] : List UInt8) == s5) = true) (c14 : decide (0 ≤ (((List.length s5) : Nat) : Int)) = true) (c15 : decide (1 ≤ (((List.length s5) : Nat) : Int)) = true) (c16 : decide (List.length (List.drop 1 (List.take (List.length s5) s5)) ≤ 1000000) = true) (c17 : ¬ (unqG (List.drop 1 (List.take (List.length s5) s5))).2.2 = true) : (turns (hds 16 49) 0 49 (evC byref (evCall F S17 (m + 24)) (m + 24) 0 (hds 16) lbl16_0) (n + 1) (l16_0H x0 s5 b0) (l16_0B x0 s5 b0)).run = some (let r1 := (unqG (List.drop 1 (List.take (List.length s5) s5))); (.ret, [(.d (.str x0)), .top, (.sr 1 0 0 2 none), (.d (.bool false)), (.sr 0 0 (List.length b0) 2 none), (.d (.str s5)), (.d (.str (List.drop 0 (List.take 0 s5)))), (.d (.str (List.drop 1 (List.take (List.length s5) s5)))), (.d (.bool true)), (.d (.str r1.1)), (.d (.str r1.2.1)), (.d (.bool r1.2.2)), .top, .top, (.d (.str s5)), (.d (.bool (!(s5 == ([] : List UInt8))))), (.d (.bool (!(s5 == ([] : List UInt8))))), (.d (.str s5)), (.d (.bool (!(s5 == ([125] : List UInt8))))), (.d (.bool (!(s5 == ([125] : List UInt8))))), (.d (.bool (!(s5 == ([125] : List UInt8))))), (.sr 0 0 (List.length b0) 2 none), (.d (.int .i64 (((List.length b0) : Nat) : Int))), (.d (.bool (decide ((((List.length b0) : Nat) : Int) ≤ 6)))), (.d (.bool (decide ((((List.length b0) : Nat) : Int) ≤ 6)))), (.tup [(.d (.str (List.drop 0 (List.take 0 s5)))), (.d (.str (List.drop 1 (List.take (List.length s5) s5)))), (.d (.bool true))]), (.d (.str s5)), (.tup [(.d (.str (List.drop 0 (List.take 0 s5)))), (.d (.str (List.drop 1 (List.take (List.length s5) s5)))), (.d (.bool true))]), (.d (.str (List.drop 0 (List.take 0 s5)))), (.d (.str (List.drop 1 (List.take (List.length s5) s5)))), (.d (.bool true)), (.tup [(.d (.str r1.1)), (.d (.str r1.2.1)), (.d (.bool r1.2.2))]), (.d (.str (List.drop 1 (List.take (List.length s5) s5)))), (.tup [(.d (.str r1.1)), (.d (.str r1.2.1)), (.d (.bool r1.2.2))]), (.d (.str r1.1)), (.d (.str r1.2.1)), (.d (.bool r1.2.2)), (.d (.bool r1.2.2)), (.d (.bool (!r1.2.2))), .top, .top, .top, .top, .top, .top, .top, .top, .top, .top, .top, .top, .top, .top, .top, .top, .top], [(.arr (.pair .str .str) b0 true), (.arr (.pair .str .str) ([] : List ((List UInt8) × (List UInt8))) true)])) := by
  exact turns_last (by simp) (M.run_of_path _ [true, true, true, true, true, true, true, true, false, false, false, false, true, true, true, true, true, true] _ _ (by kernel_rfl) (all_nf c0 (all_nf c0 (all_nf c0 (all_nf c3 (all_nf c3 (all_nf c3 (all_nf c3 (all_t c7 (all_f Bool.false_ne_true (all_f Bool.false_ne_true (all_f Bool.false_ne_true (all_f Bool.false_ne_true (all_t c12 (all_t rfl (all_t c14 (all_t c15 (all_t c16 (all_nf c17 all_nil))))))))))))))))))) 
set_option maxHeartbeats 20000000 in
theorem l16_0_w6 (m n : Nat) (x0 : List UInt8) (s5 : List UInt8) (b0 : List ((List UInt8) × (List UInt8))) (r : AEx × Env × Boxes) (c0 : ¬ (s5 == ([] : List UInt8)) = true) (c3 : ¬ (s5 == ([125] : List UInt8)) = true) (c7 : decide ((((List.length b0) : Nat) : Int) ≤ 6) = true) (c12 : ¬ (([61] : List UInt8) == s5) = true) (c16 : decide ((Lib.indexByte s5 (Nat.toUInt8 (Int.toNat ((UInt8.toNat (List.getD ([61] : List UInt8) 0 0) : Nat) : Int)))) ≥ 0) = true) (c17 : (decide (0 ≤ (Lib.indexByte s5 (Nat.toUInt8 (Int.toNat ((UInt8.toNat (List.getD ([61] : List UInt8) 0 0) : Nat) : Int))))) && decide ((Lib.indexByte s5 (Nat.toUInt8 (Int.toNat ((UInt8.toNat (List.getD ([61] : List UInt8) 0 0) : Nat) : Int)))) ≤ (((List.length s5) : Nat) : Int))) = true) (c18 : (decide (0 ≤ (IntKind.wrap .i64 ((Lib.indexByte s5 (Nat.toUInt8 (Int.toNat ((UInt8.toNat (List.getD ([61] : List UInt8) 0 0) : Nat) : Int)))) + (1)))) && decide ((IntKind.wrap .i64 ((Lib.indexByte s5 (Nat.toUInt8 (Int.toNat ((UInt8.toNat (List.getD ([61] : List UInt8) 0 0) : Nat) : Int)))) + (1))) ≤ (((List.length s5) : Nat) : Int))) = true) (c19 : decide (List.length (List.drop (Int.toNat (IntKind.wrap .i64 ((Lib.indexByte s5 (Nat.toUInt8 (Int.toNat ((UInt8.toNat (List.getD ([61] : List UInt8) 0 0) : Nat) : Int)))) + (1)))) (List.take (List.length s5) s5)) ≤ 1000000) = true) (c20 : (unqG (List.drop (Int.toNat (IntKind.wrap .i64 ((Lib.indexByte s5 (Nat.toUInt8 (Int.toNat ((UInt8.toNat (List.getD ([61] : List UInt8) 0 0) : Nat) : Int)))) + (1)))) (List.take (List.length s5) s5))).2.2 = true) (c22 : decide ((((List.length b0) + 1) * 32) ≤ 70368744177664) = true) (c24 : decide ((((List.length (unqG (List.drop (Int.toNat (IntKind.wrap .i64 ((Lib.indexByte s5 (Nat.toUInt8 (Int.toNat ((UInt8.toNat (List.getD ([61] : List UInt8) 0 0) : Nat) : Int)))) + (1)))) (List.take (List.length s5) s5))).2.1) : Nat) : Int) ≥ 1) = true) (c28 : decide (1 ≤ (((List.length (unqG (List.drop (Int.toNat (IntKind.wrap .i64 ((Lib.indexByte s5 (Nat.toUInt8 (Int.toNat ((UInt8.toNat (List.getD ([61] : List UInt8) 0 0) : Nat) : Int)))) + (1)))) (List.take (List.length s5) s5))).2.1) : Nat) : Int)) = true) (c32 : ((List.drop 0 (List.take 1 (unqG (List.drop (Int.toNat (IntKind.wrap .i64 ((Lib.indexByte s5 (Nat.toUInt8 (Int.toNat ((UInt8.toNat (List.getD ([61] : List UInt8) 0 0) : Nat) : Int)))) + (1)))) (List.take (List.length s5) s5))).2.1)) == ([44] : List UInt8)) = true) (ih : (turns (hds 16 49) 0 49 (evC byref (evCall F S17 (m + 24)) (m + 24) 0 (hds 16) lbl16_0) n (l16_0H x0 ((List.drop 1 (List.take (List.length (unqG (List.drop (Int.toNat (IntKind.wrap .i64 ((Lib.indexByte s5 (Nat.toUInt8 (Int.toNat ((UInt8.toNat (List.getD ([61] : List UInt8) 0 0) : Nat) : Int)))) + (1)))) (List.take (List.length s5) s5))).2.1) (unqG (List.drop (Int.toNat (IntKind.wrap .i64 ((Lib.indexByte s5 (Nat.toUInt8 (Int.toNat ((UInt8.toNat (List.getD ([61] : List UInt8) 0 0) : Nat) : Int)))) + (1)))) (List.take (List.length s5) s5))).2.1))) ((b0 ++ [((List.drop 0 (List.take (Int.toNat (Lib.indexByte s5 (Nat.toUInt8 (Int.toNat ((UInt8.toNat (List.getD ([61] : List UInt8) 0 0) : Nat) : Int))))) s5)), (unqG (List.drop (Int.toNat (IntKind.wrap .i64 ((Lib.indexByte s5 (Nat.toUInt8 (Int.toNat ((UInt8.toNat (List.getD ([61] : List UInt8) 0 0) : Nat) : Int)))) + (1)))) (List.take (List.length s5) s5))).1)]))) (l16_0B x0 ((List.drop 1 (List.take (List.length (unqG (List.drop (Int.toNat (IntKind.wrap .i64 ((Lib.indexByte s5 (Nat.toUInt8 (Int.toNat ((UInt8.toNat (List.getD ([61] : List UInt8) 0 0) : Nat) : Int)))) + (1)))) (List.take (List.length s5) s5))).2.1) (unqG (List.drop (Int.toNat (IntKind.wrap .i64 ((Lib.indexByte s5 (Nat.toUInt8 (Int.toNat ((UInt8.toNat (List.getD ([61] : List UInt8) 0 0) : Nat) : Int)))) + (1)))) (List.take (List.length s5) s5))).2.1))) ((b0 ++ [((List.drop 0 (List.take (Int.toNat (Lib.indexByte s5 (Nat.toUInt8 (Int.toNat ((UInt8.toNat (List.getD ([61] : List UInt8) 0 0) : Nat) : Int))))) s5)), (unqG (List.drop (Int.toNat (IntKind.wrap .i64 ((Lib.indexByte s5 (Nat.toUInt8 (Int.toNat ((UInt8.toNat (List.getD ([61] : List UInt8) 0 0) : Nat) : Int)))) + (1)))) (List.take (List.length s5) s5))).1)])))).run = some r) : (turns (hds 16 49) 0 49 (evC byref (evCall F S17 (m + 24)) (m + 24) 0 (hds 16) lbl16_0) (n + 1) (l16_0H x0 s5 b0) (l16_0B x0 s5 b0)).run = some r := by
  have ht : (turn (hds 16 49) 0 49 (evC byref (evCall F S17 (m + 24)) (m + 24) 0 (hds 16) lbl16_0) (l16_0H x0 s5 b0) (l16_0B x0 s5 b0)).run = some (let r1 := (unqG (List.drop (Int.toNat (IntKind.wrap .i64 ((Lib.indexByte s5 (Nat.toUInt8 (Int.toNat ((UInt8.toNat (List.getD ([61] : List UInt8) 0 0) : Nat) : Int)))) + (1)))) (List.take (List.length s5) s5))); (.normal, [(.d (.str x0)), .top, .top, .top, (.sr 0 0 ((List.length b0) + 1) 2 none), (.d (.str (List.drop 1 (List.take (List.length r1.2.1) r1.2.1)))), .top, .top, .top, .top, .top, .top, .top, .top, .top, .top, .top, .top, .top, .top, .top, .top, .top, .top, .top, .top, .top, .top, .top, .top, .top, .top, .top, .top, .top, .top, .top, .top, .top, .top, .top, .top, .top, .top, .top, .top, .top, .top, .top, .top, .top, .top, .top, .top, .top, .top], [(.arr (.pair .str .str) (b0 ++ [((List.drop 0 (List.take (Int.toNat (Lib.indexByte s5 (Nat.toUInt8 (Int.toNat ((UInt8.toNat (List.getD ([61] : List UInt8) 0 0) : Nat) : Int))))) s5)), r1.1)]) true)])) := M.run_of_path _ [true, true, true, true, true, true, true, true, false, false, false, false, false, true, true, true, true, true, true, true, false, true, true, true, true, true, true, true, true, true, true, true, true, true] _ _ (by kernel_rfl) (all_nf c0 (all_nf c0 (all_nf c0 (all_nf c3 (all_nf c3 (all_nf c3 (all_nf c3 (all_t c7 (all_f Bool.false_ne_true (all_f Bool.false_ne_true (all_f Bool.false_ne_true (all_f Bool.false_ne_true (all_f c12 (all_t rfl (all_t rfl (all_t rfl (all_t c16 (all_t c17 (all_t c18 (all_t c19 (all_nt c20 (all_t rfl (all_t c22 (all_t (show decide ((List.length b0) = (List.length b0)) = true from decide_eq_true rfl) (all_t c24 (all_t c24 (all_t c24 (all_t c24 (all_t c28 (all_t c24 (all_t c24 (all_t c24 (all_t c32 (all_t c28 all_nil))))))))))))))))))))))))))))))))))
  refine turns_step ht (turns_eq ?_ ?_ ih)
  · unfold l16_0H
    first | (simp; done) | (simp [Nat.add_assoc]; done) | (simp; omega)
  · unfold l16_0B
    simp
set_option maxHeartbeats 20000000 in
theorem l16_0_w7 (m n : Nat) (x0 : List UInt8) (s5 : List UInt8) (b0 : List ((List UInt8) × (List UInt8))) (r : AEx × Env × Boxes) (c0 : ¬ (s5 == ([] : List UInt8)) = true) (c3 : ¬ (s5 == ([125] : List UInt8)) = true) (c7 : decide ((((List.length b0) : Nat) : Int) ≤ 6) = true) (c12 : ¬ (([61] : List UInt8) == s5) = true) (c16 : decide ((Lib.indexByte s5 (Nat.toUInt8 (Int.toNat ((UInt8.toNat (List.getD ([61] : List UInt8) 0 0) : Nat) : Int)))) ≥ 0) = true) (c17 : (decide (0 ≤ (Lib.indexByte s5 (Nat.toUInt8 (Int.toNat ((UInt8.toNat (List.getD ([61] : List UInt8) 0 0) : Nat) : Int))))) && decide ((Lib.indexByte s5 (Nat.toUInt8 (Int.toNat ((UInt8.toNat (List.getD ([61] : List UInt8) 0 0) : Nat) : Int)))) ≤ (((List.length s5) : Nat) : Int))) = true) (c18 : (decide (0 ≤ (IntKind.wrap .i64 ((Lib.indexByte s5 (Nat.toUInt8 (Int.toNat ((UInt8.toNat (List.getD ([61] : List UInt8) 0 0) : Nat) : Int)))) + (1)))) && decide ((IntKind.wrap .i64 ((Lib.indexByte s5 (Nat.toUInt8 (Int.toNat ((UInt8.toNat (List.getD ([61] : List UInt8) 0 0) : Nat) : Int)))) + (1))) ≤ (((List.length s5) : Nat) : Int))) = true) (c19 : decide (List.length (List.drop (Int.toNat (IntKind.wrap .i64 ((Lib.indexByte s5 (Nat.toUInt8 (Int.toNat ((UInt8.toNat (List.getD ([61] : List UInt8) 0 0) : Nat) : Int)))) + (1)))) (List.take (List.length s5) s5)) ≤ 1000000) = true) (c20 : (unqG (List.drop (Int.toNat (IntKind.wrap .i64 ((Lib.indexByte s5 (Nat.toUInt8 (Int.toNat ((UInt8.toNat (List.getD ([61] : List UInt8) 0 0) : Nat) : Int)))) + (1)))) (List.take (List.length s5) s5))).2.2 = true) (c22 : decide ((((List.length b0) + 1) * 32) ≤ 70368744177664) = true) (c24 : decide ((((List.length (unqG (List.drop (Int.toNat (IntKind.wrap .i64 ((Lib.indexByte s5 (Nat.toUInt8 (Int.toNat ((UInt8.toNat (List.getD ([61] : List UInt8) 0 0) : Nat) : Int)))) + (1)))) (List.take (List.length s5) s5))).2.1) : Nat) : Int) ≥ 1) = true) (c28 : decide (1 ≤ (((List.length (unqG (List.drop (Int.toNat (IntKind.wrap .i64 ((Lib.indexByte s5 (Nat.toUInt8 (Int.toNat ((UInt8.toNat (List.getD ([61] : List UInt8) 0 0) : Nat) : Int)))) + (1)))) (List.take (List.length s5) s5))).2.1) : Nat) : Int)) = true) (c32 : ¬ ((List.drop 0 (List.take 1 (unqG (List.drop (Int.toNat (IntKind.wrap .i64 ((Lib.indexByte s5 (Nat.toUInt8 (Int.toNat ((UInt8.toNat (List.getD ([61] : List UInt8) 0 0) : Nat) : Int)))) + (1)))) (List.take (List.length s5) s5))).2.1)) == ([44] : List UInt8)) = true) (ih : (turns (hds 16 49) 0 49 (evC byref (evCall F S17 (m + 24)) (m + 24) 0 (hds 16) lbl16_0) n (l16_0H x0 ((unqG (List.drop (Int.toNat (IntKind.wrap .i64 ((Lib.indexByte s5 (Nat.toUInt8 (Int.toNat ((UInt8.toNat (List.getD ([61] : List UInt8) 0 0) : Nat) : Int)))) + (1)))) (List.take (List.length s5) s5))).2.1) ((b0 ++ [((List.drop 0 (List.take (Int.toNat (Lib.indexByte s5 (Nat.toUInt8 (Int.toNat ((UInt8.toNat (List.getD ([61] : List UInt8) 0 0) : Nat) : Int))))) s5)), (unqG (List.drop (Int.toNat (IntKind.wrap .i64 ((Lib.indexByte s5 (Nat.toUInt8 (Int.toNat ((UInt8.toNat (List.getD ([61] : List UInt8) 0 0) : Nat) : Int)))) + (1)))) (List.take (List.length s5) s5))).1)]))) (l16_0B x0 ((unqG (List.drop (Int.toNat (IntKind.wrap .i64 ((Lib.indexByte s5 (Nat.toUInt8 (Int.toNat ((UInt8.toNat (List.getD ([61] : List UInt8) 0 0) : Nat) : Int)))) + (1)))) (List.take (List.length s5) s5))).2.1) ((b0 ++ [((List.drop 0 (List.take (Int.toNat (Lib.indexByte s5 (Nat.toUInt8 (Int.toNat ((UInt8.toNat (List.getD ([61] : List UInt8) 0 0) : Nat) : Int))))) s5)), (unqG (List.drop (Int.toNat (IntKind.wrap .i64 ((Lib.indexByte s5 (Nat.toUInt8 (Int.toNat ((UInt8.toNat (List.getD ([61] : List UInt8) 0 0) : Nat) : Int)))) + (1)))) (List.take (List.length s5) s5))).1)])))).run = some r) : (turns (hds 16 49) 0 49 (evC byref (evCall F S17 (m + 24)) (m + 24) 0 (hds 16) lbl16_0) (n + 1) (l16_0H x0 s5 b0) (l16_0B x0 s5 b0)).run = some r := by
  have ht : (turn (hds 16 49) 0 49 (evC byref (evCall F S17 (m + 24)) (m + 24) 0 (hds 16) lbl16_0) (l16_0H x0 s5 b0) (l16_0B x0 s5 b0)).run = some (let r1 := (unqG (List.drop (Int.toNat (IntKind.wrap .i64 ((Lib.indexByte s5 (Nat.toUInt8 (Int.toNat ((UInt8.toNat (List.getD ([61] : List UInt8) 0 0) : Nat) : Int)))) + (1)))) (List.take (List.length s5) s5))); (.normal, [(.d (.str x0)), .top, .top, .top, (.sr 0 0 ((List.length b0) + 1) 2 none), (.d (.str r1.2.1)), .top, .top, .top, .top, .top, .top, .top, .top, .top, .top, .top, .top, .top, .top, .top, .top, .top, .top, .top, .top, .top, .top, .top, .top, .top, .top, .top, .top, .top, .top, .top, .top, .top, .top, .top, .top, .top, .top, .top, .top, .top, .top, .top, .top, .top, .top, .top, .top, .top, .top], [(.arr (.pair .str .str) (b0 ++ [((List.drop 0 (List.take (Int.toNat (Lib.indexByte s5 (Nat.toUInt8 (Int.toNat ((UInt8.toNat (List.getD ([61] : List UInt8) 0 0) : Nat) : Int))))) s5)), r1.1)]) true)])) := M.run_of_path _ [true, true, true, true, true, true, true, true, false, false, false, false, false, true, true, true, true, true, true, true, false, true, true, true, true, true, true, true, true, true, true, true, false] _ _ (by kernel_rfl) (all_nf c0 (all_nf c0 (all_nf c0 (all_nf c3 (all_nf c3 (all_nf c3 (all_nf c3 (all_t c7 (all_f Bool.false_ne_true (all_f Bool.false_ne_true (all_f Bool.false_ne_true (all_f Bool.false_ne_true (all_f c12 (all_t rfl (all_t rfl (all_t rfl (all_t c16 (all_t c17 (all_t c18 (all_t c19 (all_nt c20 (all_t rfl (all_t c22 (all_t (show decide ((List.length b0) = (List.length b0)) = true from decide_eq_true rfl) (all_t c24 (all_t c24 (all_t c24 (all_t c24 (all_t c28 (all_t c24 (all_t c24 (all_t c24 (all_f c32 all_nil)))))))))))))))))))))))))))))))))
  refine turns_step ht (turns_eq ?_ ?_ ih)
  · unfold l16_0H
    first | (simp; done) | (simp [Nat.add_assoc]; done) | (simp; omega)
  · unfold l16_0B
    simp
set_option maxHeartbeats 20000000 in
theorem l16_0_w8 (m n : Nat) (x0 : List UInt8) (s5 : List UInt8) (b0 : List ((List UInt8) × (List UInt8))) (r : AEx × Env × Boxes) (c0 : ¬ (s5 == ([] : List UInt8)) = true) (c3 : ¬ (s5 == ([125] : List UInt8)) = true) (c7 : decide ((((List.length b0) : Nat) : Int) ≤ 6) = true) (c12 : ¬ (([61] : List UInt8) == s5) = true) (c16 : decide ((Lib.indexByte s5 (Nat.toUInt8 (Int.toNat ((UInt8.toNat (List.getD ([61] : List UInt8) 0 0) : Nat) : Int)))) ≥ 0) = true) (c17 : (decide (0 ≤ (Lib.indexByte s5 (Nat.toUInt8 (Int.toNat ((UInt8.toNat (List.getD ([61] : List UInt8) 0 0) : Nat) : Int))))) && decide ((Lib.indexByte s5 (Nat.toUInt8 (Int.toNat ((UInt8.toNat (List.getD ([61] : List UInt8) 0 0) : Nat) : Int)))) ≤ (((List.length s5) : Nat) : Int))) = true) (c18 : (decide (0 ≤ (IntKind.wrap .i64 ((Lib.indexByte s5 (Nat.toUInt8 (Int.toNat ((UInt8.toNat (List.getD ([61] : List UInt8) 0 0) : Nat) : Int)))) + (1)))) && decide ((IntKind.wrap .i64 ((Lib.indexByte s5 (Nat.toUInt8 (Int.toNat ((UInt8.toNat (List.getD ([61] : List UInt8) 0 0) : Nat) : Int)))) + (1))) ≤ (((List.length s5) : Nat) : Int))) = true) (c19 : decide (List.length (List.drop (Int.toNat (IntKind.wrap .i64 ((Lib.indexByte s5 (Nat.toUInt8 (Int.toNat ((UInt8.toNat (List.getD ([61] : List UInt8) 0 0) : Nat) : Int)))) + (1)))) (List.take (List.length s5) s5)) ≤ 1000000) = true) (c20 : (unqG (List.drop (Int.toNat (IntKind.wrap .i64 ((Lib.indexByte s5 (Nat.toUInt8 (Int.toNat ((UInt8.toNat (List.getD ([61] : List UInt8) 0 0) : Nat) : Int)))) + (1)))) (List.take (List.length s5) s5))).2.2 = true) (c22 : decide ((((List.length b0) + 1) * 32) ≤ 70368744177664) = true) (c24 : ¬ decide ((((List.length (unqG (List.drop (Int.toNat (IntKind.wrap .i64 ((Lib.indexByte s5 (Nat.toUInt8 (Int.toNat ((UInt8.toNat (List.getD ([61] : List UInt8) 0 0) : Nat) : Int)))) + (1)))) (List.take (List.length s5) s5))).2.1) : Nat) : Int) ≥ 1) = true) (ih : (turns (hds 16 49) 0 49 (evC byref (evCall F S17 (m + 24)) (m + 24) 0 (hds 16) lbl16_0) n (l16_0H x0 ((unqG (List.drop (Int.toNat (IntKind.wrap .i64 ((Lib.indexByte s5 (Nat.toUInt8 (Int.toNat ((UInt8.toNat (List.getD ([61] : List UInt8) 0 0) : Nat) : Int)))) + (1)))) (List.take (List.length s5) s5))).2.1) ((b0 ++ [((List.drop 0 (List.take (Int.toNat (Lib.indexByte s5 (Nat.toUInt8 (Int.toNat ((UInt8.toNat (List.getD ([61] : List UInt8) 0 0) : Nat) : Int))))) s5)), (unqG (List.drop (Int.toNat (IntKind.wrap .i64 ((Lib.indexByte s5 (Nat.toUInt8 (Int.toNat ((UInt8.toNat (List.getD ([61] : List UInt8) 0 0) : Nat) : Int)))) + (1)))) (List.take (List.length s5) s5))).1)]))) (l16_0B x0 ((unqG (List.drop (Int.toNat (IntKind.wrap .i64 ((Lib.indexByte s5 (Nat.toUInt8 (Int.toNat ((UInt8.toNat (List.getD ([61] : List UInt8) 0 0) : Nat) : Int)))) + (1)))) (List.take (List.length s5) s5))).2.1) ((b0 ++ [((List.drop 0 (List.take (Int.toNat (Lib.indexByte s5 (Nat.toUInt8 (Int.toNat ((UInt8.toNat (List.getD ([61] : List UInt8) 0 0) : Nat) : Int))))) s5)), (unqG (List.drop (Int.toNat (IntKind.wrap .i64 ((Lib.indexByte s5 (Nat.toUInt8 (Int.toNat ((UInt8.toNat (List.getD ([61] : List UInt8) 0 0) : Nat) : Int)))) + (1)))) (List.take (List.length s5) s5))).1)])))).run = some r) : (turns (hds 16 49) 0 49 (evC byref (evCall F S17 (m + 24)) (m + 24) 0 (hds 16) lbl16_0) (n + 1) (l16_0H x0 s5 b0) (l16_0B x0 s5 b0)).run = some r := by
  have ht : (turn (hds 16 49) 0 49 (evC byref (evCall F S17 (m + 24)) (m + 24) 0 (hds 16) lbl16_0) (l16_0H x0 s5 b0) (l16_0B x0 s5 b0)).run = some (let r1 := (unqG (List.drop (Int.toNat (IntKind.wrap .i64 ((Lib.indexByte s5 (Nat.toUInt8 (Int.toNat ((UInt8.toNat (List.getD ([61] : List UInt8) 0 0) : Nat) : Int)))) + (1)))) (List.take (List.length s5) s5))); (.normal, [(.d (.str x0)), .top, .top, .top, (.sr 0 0 ((List.length b0) + 1) 2 none), (.d (.str r1.2.1)), .top, .top, .top, .top, .top, .top, .top, .top, .top, .top, .top, .top, .top, .top, .top, .top, .top, .top, .top, .top, .top, .top, .top, .top, .top, .top, .top, .top, .top, .top, .top, .top, .top, .top, .top, .top, .top, .top, .top, .top, .top, .top, .top, .top, .top, .top, .top, .top, .top, .top], [(.arr (.pair .str .str) (b0 ++ [((List.drop 0 (List.take (Int.toNat (Lib.indexByte s5 (Nat.toUInt8 (Int.toNat ((UInt8.toNat (List.getD ([61] : List UInt8) 0 0) : Nat) : Int))))) s5)), r1.1)]) true)])) := M.run_of_path _ [true, true, true, true, true, true, true, true, false, false, false, false, false, true, true, true, true, true, true, true, false, true, true, true, false, false, false, false, false, false, false, false] _ _ (by kernel_rfl) (all_nf c0 (all_nf c0 (all_nf c0 (all_nf c3 (all_nf c3 (all_nf c3 (all_nf c3 (all_t c7 (all_f Bool.false_ne_true (all_f Bool.false_ne_true (all_f Bool.false_ne_true (all_f Bool.false_ne_true (all_f c12 (all_t rfl (all_t rfl (all_t rfl (all_t c16 (all_t c17 (all_t c18 (all_t c19 (all_nt c20 (all_t rfl (all_t c22 (all_t (show decide ((List.length b0) = (List.length b0)) = true from decide_eq_true rfl) (all_f c24 (all_f c24 (all_f c24 (all_f c24 (all_f c24 (all_f c24 (all_f c24 (all_f Bool.false_ne_true all_nil))))))))))))))))))))))))))))))))
  refine turns_step ht (turns_eq ?_ ?_ ih)
  · unfold l16_0H
    first | (simp; done) | (simp [Nat.add_assoc]; done) | (simp; omega)
  · unfold l16_0B
    simp
set_option maxHeartbeats 20000000 in
theorem l16_0_w9 (m n : Nat) (x0 : List UInt8) (s5 : List UInt8) (b0 : List ((List UInt8) × (List UInt8))) (c0 : ¬ (s5 == ([] : List UInt8)) = true) (c3 : ¬ (s5 == ([125] : List UInt8)) = true) (c7 : decide ((((List.length b0) : Nat) : Int) ≤ 6) = true) (c12 : ¬ (([61] : List UInt8) == s5) = true) (c16 : decide ((Lib.indexByte s5 (Nat.toUInt8 (Int.toNat ((UInt8.toNat (List.getD ([61] : List UInt8) 0 0) : Nat) : Int)))) ≥ 0) = true) (c17 : (decide (0 ≤ (Lib.indexByte s5 (Nat.toUInt8 (Int.toNat ((UInt8.toNat (List.getD ([61] : List UInt8) 0 0) : Nat) : Int))))) && decide ((Lib.indexByte s5 (Nat.toUInt8 (Int.toNat ((UInt8.toNat (List.getD ([61] : List UInt8) 0 0) : Nat) : Int)))) ≤ (((List.length s5) : Nat) : Int))) = true) (c18 : (decide (0 ≤ (IntKind.wrap .i64 ((Lib.indexByte s5 (Nat.toUInt8 (Int.toNat ((UInt8.toNat (List.getD ([61] : List UInt8) 0 0) : Nat) : Int)))) + (1)))) && decide ((IntKind.wrap .i64 ((Lib.indexByte s5 (Nat.toUInt8 (Int.toNat ((UInt8.toNat (List.getD ([61] : List UInt8) 0 0) : Nat) : Int)))) + (1))) ≤ (((List.length s5) : Nat) : Int))) = true) (c19 : decide (List.length (List.drop (Int.toNat (IntKind.wrap .i64 ((Lib.indexByte s5 (Nat.toUInt8 (Int.toNat ((UInt8.toNat (List.getD ([61] : List UInt8) 0 0) : Nat) : Int)))) + (1)))) (List.take (List.length s5) s5)) ≤ 1000000) = true) (c20 : ¬ (unqG (List.drop (Int.toNat (IntKind.wrap .i64 ((Lib.indexByte s5 (Nat.toUInt8 (Int.toNat ((UInt8.toNat (List.getD ([61] : List UInt8) 0 0) : Nat) : Int)))) + (1)))) (List.take (List.length s5) s5))).2.2 = true) : (turns (hds 16 49) 0 49 (evC byref (evCall F S17 (m + 24)) (m + 24) 0 (hds 16) lbl16_0) (n + 1) (l16_0H x0 s5 b0) (l16_0B x0 s5 b0)).run = some (let r1 := (unqG (List.drop (Int.toNat (IntKind.wrap .i64 ((Lib.indexByte s5 (Nat.toUInt8 (Int.toNat ((UInt8.toNat (List.getD ([61] : List UInt8) 0 0) : Nat) : Int)))) + (1)))) (List.take (List.length s5) s5))); (.ret, [(.d (.str x0)), .top, (.sr 1 0 0 2 none), (.d (.bool false)), (.sr 0 0 (List.length b0) 2 none), (.d (.str s5)), (.d (.str (List.drop 0 (List.take (Int.toNat (Lib.indexByte s5 (Nat.toUInt8 (Int.toNat ((UInt8.toNat (List.getD ([61] : List UInt8) 0 0) : Nat) : Int))))) s5)))), (.d (.str (List.drop (Int.toNat (IntKind.wrap .i64 ((Lib.indexByte s5 (Nat.toUInt8 (Int.toNat ((UInt8.toNat (List.getD ([61] : List UInt8) 0 0) : Nat) : Int)))) + (1)))) (List.take (List.length s5) s5)))), (.d (.bool true)), (.d (.str r1.1)), (.d (.str r1.2.1)), (.d (.bool r1.2.2)), .top, .top, (.d (.str s5)), (.d (.bool (!(s5 == ([] : List UInt8))))), (.d (.bool (!(s5 == ([] : List UInt8))))), (.d (.str s5)), (.d (.bool (!(s5 == ([125] : List UInt8))))), (.d (.bool (!(s5 == ([125] : List UInt8))))), (.d (.bool (!(s5 == ([125] : List UInt8))))), (.sr 0 0 (List.length b0) 2 none), (.d (.int .i64 (((List.length b0) : Nat) : Int))), (.d (.bool (decide ((((List.length b0) : Nat) : Int) ≤ 6)))), (.d (.bool (decide ((((List.length b0) : Nat) : Int) ≤ 6)))), (.tup [(.d (.str (List.drop 0 (List.take (Int.toNat (Lib.indexByte s5 (Nat.toUInt8 (Int.toNat ((UInt8.toNat (List.getD ([61] : List UInt8) 0 0) : Nat) : Int))))) s5)))), (.d (.str (List.drop (Int.toNat (IntKind.wrap .i64 ((Lib.indexByte s5 (Nat.toUInt8 (Int.toNat ((UInt8.toNat (List.getD ([61] : List UInt8) 0 0) : Nat) : Int)))) + (1)))) (List.take (List.length s5) s5)))), (.d (.bool true))]), (.d (.str s5)), (.tup [(.d (.str (List.drop 0 (List.take (Int.toNat (Lib.indexByte s5 (Nat.toUInt8 (Int.toNat ((UInt8.toNat (List.getD ([61] : List UInt8) 0 0) : Nat) : Int))))) s5)))), (.d (.str (List.drop (Int.toNat (IntKind.wrap .i64 ((Lib.indexByte s5 (Nat.toUInt8 (Int.toNat ((UInt8.toNat (List.getD ([61] : List UInt8) 0 0) : Nat) : Int)))) + (1)))) (List.take (List.length s5) s5)))), (.d (.bool true))]), (.d (.str (List.drop 0 (List.take (Int.toNat (Lib.indexByte s5 (Nat.toUInt8 (Int.toNat ((UInt8.toNat (List.getD ([61] : List UInt8) 0 0) : Nat) : Int))))) s5)))), (.d (.str (List.drop (Int.toNat (IntKind.wrap .i64 ((Lib.indexByte s5 (Nat.toUInt8 (Int.toNat ((UInt8.toNat (List.getD ([61] : List UInt8) 0 0) : Nat) : Int)))) + (1)))) (List.take (List.length s5) s5)))), (.d (.bool true)), (.tup [(.d (.str r1.1)), (.d (.str r1.2.1)), (.d (.bool r1.2.2))]), (.d (.str (List.drop (Int.toNat (IntKind.wrap .i64 ((Lib.indexByte s5 (Nat.toUInt8 (Int.toNat ((UInt8.toNat (List.getD ([61] : List UInt8) 0 0) : Nat) : Int)))) + (1)))) (List.take (List.length s5) s5)))), (.tup [(.d (.str r1.1)), (.d (.str r1.2.1)), (.d (.bool r1.2.2))]), (.d (.str r1.1)), (.d (.str r1.2.1)), (.d (.bool r1.2.2)), (.d (.bool r1.2.2)), (.d (.bool (!r1.2.2))), .top, .top, .top, .top, .top, .top, .top, .top, .top, .top, .top, .top, .top, .top, .top, .top, .top], [(.arr (.pair .str .str) b0 true), (.arr (.pair .str .str) ([] : List ((List UInt8) × (List UInt8))) true)])) := by
  exact turns_last (by simp) (M.run_of_path _ [true, true, true, true, true, true, true, true, false, false, false, false, false, true, true, true, true, true, true, true, true] _ _ (by kernel_rfl) (all_nf c0 (all_nf c0 (all_nf c0 (all_nf c3 (all_nf c3 (all_nf c3 (all_nf c3 (all_t c7 (all_f Bool.false_ne_true (all_f Bool.false_ne_true (all_f Bool.false_ne_true (all_f Bool.false_ne_true (all_f c12 (all_t rfl (all_t rfl (all_t rfl (all_t c16 (all_t c17 (all_t c18 (all_t c19 (all_nf c20 all_nil)))))))))))))))))))))) 
set_option maxHeartbeats 20000000 in
theorem l16_0_w10 (m n : Nat) (x0 : List UInt8) (s5 : List UInt8) (b0 : List ((List UInt8) × (List UInt8))) (r : AEx × Env × Boxes) (c0 : ¬ (s5 == ([] : List UInt8)) = true) (c3 : ¬ (s5 == ([125] : List UInt8)) = true) (c7 : decide ((((List.length b0) : Nat) : Int) ≤ 6) = true) (c12 : ¬ (([61] : List UInt8) == s5) = true) (c16 : ¬ decide ((Lib.indexByte s5 (Nat.toUInt8 (Int.toNat ((UInt8.toNat (List.getD ([61] : List UInt8) 0 0) : Nat) : Int)))) ≥ 0) = true) (c17 : decide (List.length ([] : List UInt8) ≤ 1000000) = true) (c18 : (unqG ([] : List UInt8)).2.2 = true) (c20 : decide ((((List.length b0) + 1) * 32) ≤ 70368744177664) = true) (c22 : decide ((((List.length (unqG ([] : List UInt8)).2.1) : Nat) : Int) ≥ 1) = true) (c26 : decide (1 ≤ (((List.length (unqG ([] : List UInt8)).2.1) : Nat) : Int)) = true) (c30 : ((List.drop 0 (List.take 1 (unqG ([] : List UInt8)).2.1)) == ([44] : List UInt8)) = true) (ih : (turns (hds 16 49) 0 49 (evC byref (evCall F S17 (m + 24)) (m + 24) 0 (hds 16) lbl16_0) n (l16_0H x0 ((List.drop 1 (List.take (List.length (unqG ([] : List UInt8)).2.1) (unqG ([] : List UInt8)).2.1))) ((b0 ++ [(s5, (unqG ([] : List UInt8)).1)]))) (l16_0B x0 ((List.drop 1 (List.take (List.length (unqG ([] : List UInt8)).2.1) (unqG ([] : List UInt8)).2.1))) ((b0 ++ [(s5, (unqG ([] : List UInt8)).1)])))).run = some r) : (turns (hds 16 49) 0 49 (evC byref (evCall F S17 (m + 24)) (m + 24) 0 (hds 16) lbl16_0) (n + 1) (l16_0H x0 s5 b0) (l16_0B x0 s5 b0)).run = some r := by
  have ht : (turn (hds 16 49) 0 49 (evC byref (evCall F S17 (m + 24)) (m + 24) 0 (hds 16) lbl16_0) (l16_0H x0 s5 b0) (l16_0B x0 s5 b0)).run = some (.normal, [(.d (.str x0)), .top, .top, .top, (.sr 0 0 ((List.length b0) + 1) 2 none), (.d (.str (List.drop 1 (List.take (List.length (unqG ([] : List UInt8)).2.1) (unqG ([] : List UInt8)).2.1)))), .top, .top, .top, .top, .top, .top, .top, .top, .top, .top, .top, .top, .top, .top, .top, .top, .top, .top, .top, .top, .top, .top, .top, .top, .top, .top, .top, .top, .top, .top, .top, .top, .top, .top, .top, .top, .top, .top, .top, .top, .top, .top, .top, .top, .top, .top, .top, .top, .top, .top], [(.arr (.pair .str .str) (b0 ++ [(s5, (unqG ([] : List UInt8)).1)]) true)]) := M.run_of_path _ [true, true, true, true, true, true, true, true, false, false, false, false, false, true, true, true, false, true, false, true, true, true, true, true, true, true, true, true, true, true, true, true] _ _ (by kernel_rfl) (all_nf c0 (all_nf c0 (all_nf c0 (all_nf c3 (all_nf c3 (all_nf c3 (all_nf c3 (all_t c7 (all_f Bool.false_ne_true (all_f Bool.false_ne_true (all_f Bool.false_ne_true (all_f Bool.false_ne_true (all_f c12 (all_t rfl (all_t rfl (all_t rfl (all_f c16 (all_t c17 (all_nt c18 (all_t rfl (all_t c20 (all_t (show decide ((List.length b0) = (List.length b0)) = true from decide_eq_true rfl) (all_t c22 (all_t c22 (all_t c22 (all_t c22 (all_t c26 (all_t c22 (all_t c22 (all_t c22 (all_t c30 (all_t c26 all_nil))))))))))))))))))))))))))))))))
  refine turns_step ht (turns_eq ?_ ?_ ih)
  · unfold l16_0H
    first | (simp; done) | (simp [Nat.add_assoc]; done) | (simp; omega)
  · unfold l16_0B
    simp
set_option maxHeartbeats 20000000 in
theorem l16_0_w11 (m n : Nat) (x0 : List UInt8) (s5 : List UInt8) (b0 : List ((List UInt8) × (List UInt8))) (r : AEx × Env × Boxes) (c0 : ¬ (s5 == ([] : List UInt8)) = true) (c3 : ¬ (s5 == ([125] : List UInt8)) = true) (c7 : decide ((((List.length b0) : Nat) : Int) ≤ 6) = true) (c12 : ¬ (([61] : List UInt8) == s5) = true) (c16 : ¬ decide ((Lib.indexByte s5 (Nat.toUInt8 (Int.toNat ((UInt8.toNat (List.getD ([61] : List UInt8) 0 0) : Nat) : Int)))) ≥ 0) = true) (c17 : decide (List.length ([] : List UInt8) ≤ 1000000) = true) (c18 : (unqG ([] : List UInt8)).2.2 = true) (c20 : decide ((((List.length b0) + 1) * 32) ≤ 70368744177664) = true) (c22 : decide ((((List.length (unqG ([] : List UInt8)).2.1) : Nat) : Int) ≥ 1) = true) (c26 : decide (1 ≤ (((List.length (unqG ([] : List UInt8)).2.1) : Nat) : Int)) = true) (c30 : ¬ ((List.drop 0 (List.take 1 (unqG ([] : List UInt8)).2.1)) == ([44] : List UInt8)) = true) (ih : (turns (hds 16 49) 0 49 (evC byref (evCall F S17 (m + 24)) (m + 24) 0 (hds 16) lbl16_0) n (l16_0H x0 ((unqG ([] : List UInt8)).2.1) ((b0 ++ [(s5, (unqG ([] : List UInt8)).1)]))) (l16_0B x0 ((unqG ([] : List UInt8)).2.1) ((b0 ++ [(s5, (unqG ([] : List UInt8)).1)])))).run = some r) : (turns (hds 16 49) 0 49 (evC byref (evCall F S17 (m + 24)) (m + 24) 0 (hds 16) lbl16_0) (n + 1) (l16_0H x0 s5 b0) (l16_0B x0 s5 b0)).run = some r := by
  have ht : (turn (hds 16 49) 0 49 (evC byref (evCall F S17 (m + 24)) (m + 24) 0 (hds 16) lbl16_0) (l16_0H x0 s5 b0) (l16_0B x0 s5 b0)).run = some (.normal, [(.d (.str x0)), .top, .top, .top, (.sr 0 0 ((List.length b0) + 1) 2 none), (.d (.str (unqG ([] : List UInt8)).2.1)), .top, .top, .top, .top, .top, .top, .top, .top, .top, .top, .top, .top, .top, .top, .top, .top, .top, .top, .top, .top, .top, .top, .top, .top, .top, .top, .top, .top, .top, .top, .top, .top, .top, .top, .top, .top, .top, .top, .top, .top, .top, .top, .top, .top, .top, .top, .top, .top, .top, .top], [(.arr (.pair .str .str) (b0 ++ [(s5, (unqG ([] : List UInt8)).1)]) true)]) := M.run_of_path _ [true, true, true, true, true, true, true, true, false, false, false, false, false, true, true, true, false, true, false, true, true, true, true, true, true, true, true, true, true, true, false] _ _ (by kernel_rfl) (all_nf c0 (all_nf c0 (all_nf c0 (all_nf c3 (all_nf c3 (all_nf c3 (all_nf c3 (all_t c7 (all_f Bool.false_ne_true (all_f Bool.false_ne_true (all_f Bool.false_ne_true (all_f Bool.false_ne_true (all_f c12 (all_t rfl (all_t rfl (all_t rfl (all_f c16 (all_t c17 (all_nt c18 (all_t rfl (all_t c20 (all_t (show decide ((List.length b0) = (List.length b0)) = true from decide_eq_true rfl) (all_t c22 (all_t c22 (all_t c22 (all_t c22 (all_t c26 (all_t c22 (all_t c22 (all_t c22 (all_f c30 all_nil)))))))))))))))))))))))))))))))
  refine turns_step ht (turns_eq ?_ ?_ ih)
  · unfold l16_0H
    first | (simp; done) | (simp [Nat.add_assoc]; done) | (simp; omega)
  · unfold l16_0B
    simp
set_option maxHeartbeats 20000000 in
theorem l16_0_w12 (m n : Nat) (x0 : List UInt8) (s5 : List UInt8) (b0 : List ((List UInt8) × (List UInt8))) (r : AEx × Env × Boxes) (c0 : ¬ (s5 == ([] : List UInt8)) = true) (c3 : ¬ (s5 == ([125] : List UInt8)) = true) (c7 : decide ((((List.length b0) : Nat) : Int) ≤ 6) = true) (c12 : ¬ (([61] : List UInt8) == s5) = true) (c16 : ¬ decide ((Lib.indexByte s5 (Nat.toUInt8 (Int.toNat ((UInt8.toNat (List.getD ([61] : List UInt8) 0 0) : Nat) : Int)))) ≥ 0) = true) (c17 : decide (List.length ([] : List UInt8) ≤ 1000000) = true) (c18 : (unqG ([] : List UInt8)).2.2 = true) (c20 : decide ((((List.length b0) + 1) * 32) ≤ 70368744177664) = true) (c22 : ¬ decide ((((List.length (unqG ([] : List UInt8)).2.1) : Nat) : Int) ≥ 1) = true) (ih : (turns (hds 16 49) 0 49 (evC byref (evCall F S17 (m + 24)) (m + 24) 0 (hds 16) lbl16_0) n (l16_0H x0 ((unqG ([] : List UInt8)).2.1) ((b0 ++ [(s5, (unqG ([] : List UInt8)).1)]))) (l16_0B x0 ((unqG ([] : List UInt8)).2.1) ((b0 ++ [(s5, (unqG ([] : List UInt8)).1)])))).run = some r) : (turns (hds 16 49) 0 49 (evC byref (evCall F S17 (m + 24)) (m + 24) 0 (hds 16) lbl16_0) (n + 1) (l16_0H x0 s5 b0) (l16_0B x0 s5 b0)).run = some r := by
  have ht : (turn (hds 16 49) 0 49 (evC byref (evCall F S17 (m + 24)) (m + 24) 0 (hds 16) lbl16_0) (l16_0H x0 s5 b0) (l16_0B x0 s5 b0)).run = some (.normal, [(.d (.str x0)), .top, .top, .top, (.sr 0 0 ((List.length b0) + 1) 2 none), (.d (.str (unqG ([] : List UInt8)).2.1)), .top, .top, .top, .top, .top, .top, .top, .top, .top, .top, .top, .top, .top, .top, .top, .top, .top, .top, .top, .top, .top, .top, .top, .top, .top, .top, .top, .top, .top, .top, .top, .top, .top, .top, .top, .top, .top, .top, .top, .top, .top, .top, .top, .top, .top, .top, .top, .top, .top, .top], [(.arr (.pair .str .str) (b0 ++ [(s5, (unqG ([] : List UInt8)).1)]) true)]) := M.run_of_path _ [true, true, true, true, true, true, true, true, false, false, false, false, false, true, true, true, false, true, false, true, true, true, false, false, false, false, false, false, false, false] _ _ (by kernel_rfl) (all_nf c0 (all_nf c0 (all_nf c0 (all_nf c3 (all_nf c3 (all_nf c3 (all_nf c3 (all_t c7 (all_f Bool.false_ne_true (all_f Bool.false_ne_true (all_f Bool.false_ne_true (all_f Bool.false_ne_true (all_f c12 (all_t rfl (all_t rfl (all_t rfl (all_f c16 (all_t c17 (all_nt c18 (all_t rfl (all_t c20 (all_t (show decide ((List.length b0) = (List.length b0)) = true from decide_eq_true rfl) (all_f c22 (all_f c22 (all_f c22 (all_f c22 (all_f c22 (all_f c22 (all_f c22 (all_f Bool.false_ne_true all_nil))))))))))))))))))))))))))))))
  refine turns_step ht (turns_eq ?_ ?_ ih)
  · unfold l16_0H
    first | (simp; done) | (simp [Nat.add_assoc]; done) | (simp; omega)
  · unfold l16_0B
    simp
set_option maxHeartbeats 20000000 in
theorem l16_0_w13 (m n : Nat) (x0 : List UInt8) (s5 : List UInt8) (b0 : List ((List UInt8) × (List UInt8))) (c0 : ¬ (s5 == ([] : List UInt8)) = true) (c3 : ¬ (s5 == ([125] : List UInt8)) = true) (c7 : decide ((((List.length b0) : Nat) : Int) ≤ 6) = true) (c12 : ¬ (([61] : List UInt8) == s5) = true) (c16 : ¬ decide ((Lib.indexByte s5 (Nat.toUInt8 (Int.toNat ((UInt8.toNat (List.getD ([61] : List UInt8) 0 0) : Nat) : Int)))) ≥ 0) = true) (c17 : decide (List.length ([] : List UInt8) ≤ 1000000) = true) (c18 : ¬ (unqG ([] : List UInt8)).2.2 = true) : (turns (hds 16 49) 0 49 (evC byref (evCall F S17 (m + 24)) (m + 24) 0 (hds 16) lbl16_0) (n + 1) (l16_0H x0 s5 b0) (l16_0B x0 s5 b0)).run = some (.ret, [(.d (.str x0)), .top, (.sr 1 0 0 2 none), (.d (.bool false)), (.sr 0 0 (List.length b0) 2 none), (.d (.str s5)), (.d (.str s5)), (.d (.str ([] : List UInt8))), (.d (.bool false)), (.d (.str (unqG ([] : List UInt8)).1)), (.d (.str (unqG ([] : List UInt8)).2.1)), (.d (.bool (unqG ([] : List UInt8)).2.2)), .top, .top, (.d (.str s5)), (.d (.bool (!(s5 == ([] : List UInt8))))), (.d (.bool (!(s5 == ([] : List UInt8))))), (.d (.str s5)), (.d (.bool (!(s5 == ([125] : List UInt8))))), (.d (.bool (!(s5 == ([125] : List UInt8))))), (.d (.bool (!(s5 == ([125] : List UInt8))))), (.sr 0 0 (List.length b0) 2 none), (.d (.int .i64 (((List.length b0) : Nat) : Int))), (.d (.bool (decide ((((List.length b0) : Nat) : Int) ≤ 6)))), (.d (.bool (decide ((((List.length b0) : Nat) : Int) ≤ 6)))), (.tup [(.d (.str s5)), (.d (.str ([] : List UInt8))), (.d (.bool false))]), (.d (.str s5)), (.tup [(.d (.str s5)), (.d (.str ([] : List UInt8))), (.d (.bool false))]), (.d (.str s5)), (.d (.str ([] : List UInt8))), (.d (.bool false)), (.tup [(.d (.str (unqG ([] : List UInt8)).1)), (.d (.str (unqG ([] : List UInt8)).2.1)), (.d (.bool (unqG ([] : List UInt8)).2.2))]), (.d (.str ([] : List UInt8))), (.tup [(.d (.str (unqG ([] : List UInt8)).1)), (.d (.str (unqG ([] : List UInt8)).2.1)), (.d (.bool (unqG ([] : List UInt8)).2.2))]), (.d (.str (unqG ([] : List UInt8)).1)), (.d (.str (unqG ([] : List UInt8)).2.1)), (.d (.bool (unqG ([] : List UInt8)).2.2)), (.d (.bool (unqG ([] : List UInt8)).2.2)), (.d (.bool (!(unqG ([] : List UInt8)).2.2))), .top, .top, .top, .top, .top, .top, .top, .top, .top, .top, .top, .top, .top, .top, .top, .top, .top], [(.arr (.pair .str .str) b0 true), (.arr (.pair .str .str) ([] : List ((List UInt8) × (List UInt8))) true)]) := by
  exact turns_last (by simp) (M.run_of_path _ [true, true, true, true, true, true, true, true, false, false, false, false, false, true, true, true, false, true, true] _ _ (by kernel_rfl) (all_nf c0 (all_nf c0 (all_nf c0 (all_nf c3 (all_nf c3 (all_nf c3 (all_nf c3 (all_t c7 (all_f Bool.false_ne_true (all_f Bool.false_ne_true (all_f Bool.false_ne_true (all_f Bool.false_ne_true (all_f c12 (all_t rfl (all_t rfl (all_t rfl (all_f c16 (all_t c17 (all_nf c18 all_nil)))))))))))))))))))) 
set_option maxHeartbeats 20000000 in
theorem l16_0_w14 (m n : Nat) (x0 : List UInt8) (s5 : List UInt8) (b0 : List ((List UInt8) × (List UInt8))) (c0 : ¬ (s5 == ([] : List UInt8)) = true) (c3 : ¬ (s5 == ([125] : List UInt8)) = true) (c7 : ¬ decide ((((List.length b0) : Nat) : Int) ≤ 6) = true) : (turns (hds 16 49) 0 49 (evC byref (evCall F S17 (m + 24)) (m + 24) 0 (hds 16) lbl16_0) (n + 1) (l16_0H x0 s5 b0) (l16_0B x0 s5 b0)).run = some (.exit 0, [(.d (.str x0)), .top, .top, .top, (.sr 0 0 (List.length b0) 2 none), (.d (.str s5)), .top, .top, .top, .top, .top, .top, .top, .top, (.d (.str s5)), (.d (.bool (!(s5 == ([] : List UInt8))))), (.d (.bool (!(s5 == ([] : List UInt8))))), (.d (.str s5)), (.d (.bool (!(s5 == ([125] : List UInt8))))), (.d (.bool (!(s5 == ([125] : List UInt8))))), (.d (.bool (!(s5 == ([125] : List UInt8))))), (.sr 0 0 (List.length b0) 2 none), (.d (.int .i64 (((List.length b0) : Nat) : Int))), (.d (.bool (decide ((((List.length b0) : Nat) : Int) ≤ 6)))), (.d (.bool (decide ((((List.length b0) : Nat) : Int) ≤ 6)))), .top, .top, .top, .top, .top, .top, .top, .top, .top, .top, .top, .top, .top, .top, .top, .top, .top, .top, .top, .top, .top, .top, .top, .top, .top, .top, .top, .top, .top, .top, .top], [(.arr (.pair .str .str) b0 true)]) := by
  exact turns_last (by simp) (M.run_of_path _ [true, true, true, true, true, true, true, false] _ _ (by kernel_rfl) (all_nf c0 (all_nf c0 (all_nf c0 (all_nf c3 (all_nf c3 (all_nf c3 (all_nf c3 (all_f c7 all_nil))))))))) 

set_option maxHeartbeats 20000000 in
theorem l16_0_step (m n : Nat) (ih : ∀ (x0 : List UInt8) (s5 : List UInt8) (b0 : List ((List UInt8) × (List UInt8))) (q : Nat × (List UInt8) × (List ((List UInt8) × (List UInt8)))), l16_0 m n x0 s5 b0 = some q → (turns (hds 16 49) 0 49 (evC byref (evCall F S17 (m + 24)) (m + 24) 0 (hds 16) lbl16_0) n (l16_0H x0 s5 b0) (l16_0B x0 s5 b0)).run = some (l16_0E (x0) (q.2.1) (q.2.2) q.1)) (x0 : List UInt8) (s5 : List UInt8) (b0 : List ((List UInt8) × (List UInt8))) (q : Nat × (List UInt8) × (List ((List UInt8) × (List UInt8)))) (h : l16_0 m (n + 1) x0 s5 b0 = some q) : (turns (hds 16 49) 0 49 (evC byref (evCall F S17 (m + 24)) (m + 24) 0 (hds 16) lbl16_0) (n + 1) (l16_0H x0 s5 b0) (l16_0B x0 s5 b0)).run = some (l16_0E (x0) (q.2.1) (q.2.2) q.1) := by
  rw [l16_0] at h
  refine ite_cases h (fun c0 h => ?_) (fun c0 h => ?_)
  · skip
    cases h
    exact l16_0_w0 m n x0 s5 b0 c0
  · skip
    refine ite_cases h (fun c3 h => ?_) (fun c3 h => ?_)
    · skip
      cases h
      exact l16_0_w1 m n x0 s5 b0 c0 c3
    · skip
      refine ite_cases h (fun c7 h => ?_) (fun c7 h => ?_)
      · skip
        refine ite_cases h (fun c12 h => ?_) (fun c12 h => ?_)
        · skip
          refine ite_cases h (fun c14 h => ?_) (fun c14 h => ?_)
          · skip
            refine ite_cases h (fun c15 h => ?_) (fun c15 h => ?_)
            · skip
              refine ite_cases h (fun c16 h => ?_) (fun c16 h => ?_)
              · skip
                refine ite_cases h (fun c17 h => ?_) (fun c17 h => ?_)
                · skip
                  refine ite_cases h (fun c19 h => ?_) (fun c19 h => ?_)
                  · skip
                    refine ite_cases h (fun c21 h => ?_) (fun c21 h => ?_)
                    · skip
                      refine ite_cases h (fun c25 h => ?_) (fun c25 h => ?_)
                      · skip
                        refine ite_cases h (fun c29 h => ?_) (fun c29 h => ?_)
                        · skip
                          exact l16_0_w2 m n x0 s5 b0 _ c0 c3 c7 c12 c14 c15 c16 c17 c19 c21 c25 c29 (ih _ _ _ q h)
                        · skip
                          exact l16_0_w3 m n x0 s5 b0 _ c0 c3 c7 c12 c14 c15 c16 c17 c19 c21 c25 c29 (ih _ _ _ q h)
                      · skip
                        cases h
                    · skip
                      exact l16_0_w4 m n x0 s5 b0 _ c0 c3 c7 c12 c14 c15 c16 c17 c19 c21 (ih _ _ _ q h)
                  · skip
                    cases h
                · skip
                  cases h
                  exact l16_0_w5 m n x0 s5 b0 c0 c3 c7 c12 c14 c15 c16 c17
              · skip
                cases h
            · skip
              cases h
          · skip
            cases h
        · skip
          refine ite_cases h (fun c16 h => ?_) (fun c16 h => ?_)
          · skip
            refine ite_cases h (fun c17 h => ?_) (fun c17 h => ?_)
            · skip
              refine ite_cases h (fun c18 h => ?_) (fun c18 h => ?_)
              · skip
                refine ite_cases h (fun c19 h => ?_) (fun c19 h => ?_)
                · skip
                  refine ite_cases h (fun c20 h => ?_) (fun c20 h => ?_)
                  · skip
                    refine ite_cases h (fun c22 h => ?_) (fun c22 h => ?_)
                    · skip
                      refine ite_cases h (fun c24 h => ?_) (fun c24 h => ?_)
                      · skip
                        refine ite_cases h (fun c28 h => ?_) (fun c28 h => ?_)
                        · skip
                          refine ite_cases h (fun c32 h => ?_) (fun c32 h => ?_)
                          · skip
                            exact l16_0_w6 m n x0 s5 b0 _ c0 c3 c7 c12 c16 c17 c18 c19 c20 c22 c24 c28 c32 (ih _ _ _ q h)
                          · skip
                            exact l16_0_w7 m n x0 s5 b0 _ c0 c3 c7 c12 c16 c17 c18 c19 c20 c22 c24 c28 c32 (ih _ _ _ q h)
                        · skip
                          cases h
                      · skip
                        exact l16_0_w8 m n x0 s5 b0 _ c0 c3 c7 c12 c16 c17 c18 c19 c20 c22 c24 (ih _ _ _ q h)
                    · skip
                      cases h
                  · skip
                    cases h
                    exact l16_0_w9 m n x0 s5 b0 c0 c3 c7 c12 c16 c17 c18 c19 c20
                · skip
                  cases h
              · skip
                cases h
            · skip
              cases h
          · skip
            refine ite_cases h (fun c17 h => ?_) (fun c17 h => ?_)
            · skip
              refine ite_cases h (fun c18 h => ?_) (fun c18 h => ?_)
              · skip
                refine ite_cases h (fun c20 h => ?_) (fun c20 h => ?_)
                · skip
                  refine ite_cases h (fun c22 h => ?_) (fun c22 h => ?_)
                  · skip
                    refine ite_cases h (fun c26 h => ?_) (fun c26 h => ?_)
                    · skip
                      refine ite_cases h (fun c30 h => ?_) (fun c30 h => ?_)
                      · skip
                        exact l16_0_w10 m n x0 s5 b0 _ c0 c3 c7 c12 c16 c17 c18 c20 c22 c26 c30 (ih _ _ _ q h)
                      · skip
                        exact l16_0_w11 m n x0 s5 b0 _ c0 c3 c7 c12 c16 c17 c18 c20 c22 c26 c30 (ih _ _ _ q h)
                    · skip
                      cases h
                  · skip
                    exact l16_0_w12 m n x0 s5 b0 _ c0 c3 c7 c12 c16 c17 c18 c20 c22 (ih _ _ _ q h)
                · skip
                  cases h
              · skip
                cases h
                exact l16_0_w13 m n x0 s5 b0 c0 c3 c7 c12 c16 c17 c18
            · skip
              cases h
      · skip
        cases h
        exact l16_0_w14 m n x0 s5 b0 c0 c3 c7
set_option maxHeartbeats 20000000 in
theorem l16_0_ok (m : Nat) : ∀ (n : Nat) (x0 : List UInt8) (s5 : List UInt8) (b0 : List ((List UInt8) × (List UInt8))) (q : Nat × (List UInt8) × (List ((List UInt8) × (List UInt8)))), l16_0 m n x0 s5 b0 = some q → (turns (hds 16 49) 0 49 (evC byref (evCall F S17 (m + 24)) (m + 24) 0 (hds 16) lbl16_0) n (l16_0H x0 s5 b0) (l16_0B x0 s5 b0)).run = some (l16_0E (x0) (q.2.1) (q.2.2) q.1)
  | 0, x0, s5, b0, q, h => by cases h
  | n + 1, x0, s5, b0, q, h => l16_0_step m n (l16_0_ok m n) x0 s5 b0 q h

def p16 (m : Nat) (x0 : List UInt8) : Option ((List ((List UInt8) × (List UInt8))) × Bool) :=
  if decide ((((List.length x0) : Nat) : Int) ≥ 1) = true then
    if decide (1 ≤ (((List.length x0) : Nat) : Int)) = true then
      if ((List.drop 0 (List.take 1 x0)) == ([123] : List UInt8)) = true then
        if (Option.isSome (l16_0 m (m + 24) x0 ((List.drop 1 (List.take (List.length x0) x0))) (([] : List ((List UInt8) × (List UInt8)))))) = true then
          if ((l16_0R m (m + 24) x0 ((List.drop 1 (List.take (List.length x0) x0))) (([] : List ((List UInt8) × (List UInt8))))).1 == 0) = true then
            some (([] : List ((List UInt8) × (List UInt8))), false)
          else
            if ((l16_0R m (m + 24) x0 ((List.drop 1 (List.take (List.length x0) x0))) (([] : List ((List UInt8) × (List UInt8))))).1 == 1) = true then
              some (([] : List ((List UInt8) × (List UInt8))), false)
            else
              if ((l16_0R m (m + 24) x0 ((List.drop 1 (List.take (List.length x0) x0))) (([] : List ((List UInt8) × (List UInt8))))).1 == 2) = true then
                some (([] : List ((List UInt8) × (List UInt8))), false)
              else
                if ((l16_0R m (m + 24) x0 ((List.drop 1 (List.take (List.length x0) x0))) (([] : List ((List UInt8) × (List UInt8))))).1 == 3) = true then
                  if (x0 == ([] : List UInt8)) = true then
                    some (([] : List ((List UInt8) × (List UInt8))), false)
                  else
                    if lrightPre (List.take (List.length (l16_0R m (m + 24) x0 ((List.drop 1 (List.take (List.length x0) x0))) (([] : List ((List UInt8) × (List UInt8))))).2.2) (List.drop 0 (l16_0R m (m + 24) x0 ((List.drop 1 (List.take (List.length x0) x0))) (([] : List ((List UInt8) × (List UInt8))))).2.2)) = true then
                      if ((lprintG (List.take (List.length (l16_0R m (m + 24) x0 ((List.drop 1 (List.take (List.length x0) x0))) (([] : List ((List UInt8) × (List UInt8))))).2.2) (List.drop 0 (l16_0R m (m + 24) x0 ((List.drop 1 (List.take (List.length x0) x0))) (([] : List ((List UInt8) × (List UInt8))))).2.2))) == x0) = true then
                        some ((List.take (List.length (l16_0R m (m + 24) x0 ((List.drop 1 (List.take (List.length x0) x0))) (([] : List ((List UInt8) × (List UInt8))))).2.2) (List.drop 0 (l16_0R m (m + 24) x0 ((List.drop 1 (List.take (List.length x0) x0))) (([] : List ((List UInt8) × (List UInt8))))).2.2)), true)
                      else
                        some (([] : List ((List UInt8) × (List UInt8))), false)
                    else
                      none
                else
                  if ((l16_0R m (m + 24) x0 ((List.drop 1 (List.take (List.length x0) x0))) (([] : List ((List UInt8) × (List UInt8))))).1 == 4) = true then
                    if (x0 == ([] : List UInt8)) = true then
                      some (([] : List ((List UInt8) × (List UInt8))), false)
                    else
                      if lrightPre (List.take (List.length (l16_0R m (m + 24) x0 ((List.drop 1 (List.take (List.length x0) x0))) (([] : List ((List UInt8) × (List UInt8))))).2.2) (List.drop 0 (l16_0R m (m + 24) x0 ((List.drop 1 (List.take (List.length x0) x0))) (([] : List ((List UInt8) × (List UInt8))))).2.2)) = true then
                        if ((lprintG (List.take (List.length (l16_0R m (m + 24) x0 ((List.drop 1 (List.take (List.length x0) x0))) (([] : List ((List UInt8) × (List UInt8))))).2.2) (List.drop 0 (l16_0R m (m + 24) x0 ((List.drop 1 (List.take (List.length x0) x0))) (([] : List ((List UInt8) × (List UInt8))))).2.2))) == x0) = true then
                          some ((List.take (List.length (l16_0R m (m + 24) x0 ((List.drop 1 (List.take (List.length x0) x0))) (([] : List ((List UInt8) × (List UInt8))))).2.2) (List.drop 0 (l16_0R m (m + 24) x0 ((List.drop 1 (List.take (List.length x0) x0))) (([] : List ((List UInt8) × (List UInt8))))).2.2)), true)
                        else
                          some (([] : List ((List UInt8) × (List UInt8))), false)
                      else
                        none
                  else
                    if ((l16_0R m (m + 24) x0 ((List.drop 1 (List.take (List.length x0) x0))) (([] : List ((List UInt8) × (List UInt8))))).1 == 5) = true then
                      if (x0 == ([] : List UInt8)) = true then
                        some (([] : List ((List UInt8) × (List UInt8))), false)
                      else
                        if lrightPre (List.take (List.length (l16_0R m (m + 24) x0 ((List.drop 1 (List.take (List.length x0) x0))) (([] : List ((List UInt8) × (List UInt8))))).2.2) (List.drop 0 (l16_0R m (m + 24) x0 ((List.drop 1 (List.take (List.length x0) x0))) (([] : List ((List UInt8) × (List UInt8))))).2.2)) = true then
                          if ((lprintG (List.take (List.length (l16_0R m (m + 24) x0 ((List.drop 1 (List.take (List.length x0) x0))) (([] : List ((List UInt8) × (List UInt8))))).2.2) (List.drop 0 (l16_0R m (m + 24) x0 ((List.drop 1 (List.take (List.length x0) x0))) (([] : List ((List UInt8) × (List UInt8))))).2.2))) == x0) = true then
                            some ((List.take (List.length (l16_0R m (m + 24) x0 ((List.drop 1 (List.take (List.length x0) x0))) (([] : List ((List UInt8) × (List UInt8))))).2.2) (List.drop 0 (l16_0R m (m + 24) x0 ((List.drop 1 (List.take (List.length x0) x0))) (([] : List ((List UInt8) × (List UInt8))))).2.2)), true)
                          else
                            some (([] : List ((List UInt8) × (List UInt8))), false)
                        else
                          none
                    else
                      none
        else
          none
      else
        if (Option.isSome (l16_0 m (m + 24) x0 x0 (([] : List ((List UInt8) × (List UInt8)))))) = true then
          if ((l16_0R m (m + 24) x0 x0 (([] : List ((List UInt8) × (List UInt8))))).1 == 0) = true then
            some (([] : List ((List UInt8) × (List UInt8))), false)
          else
            if ((l16_0R m (m + 24) x0 x0 (([] : List ((List UInt8) × (List UInt8))))).1 == 1) = true then
              some (([] : List ((List UInt8) × (List UInt8))), false)
            else
              if ((l16_0R m (m + 24) x0 x0 (([] : List ((List UInt8) × (List UInt8))))).1 == 2) = true then
                some (([] : List ((List UInt8) × (List UInt8))), false)
              else
                if ((l16_0R m (m + 24) x0 x0 (([] : List ((List UInt8) × (List UInt8))))).1 == 3) = true then
                  if (x0 == ([] : List UInt8)) = true then
                    some (([] : List ((List UInt8) × (List UInt8))), false)
                  else
                    if lrightPre (List.take (List.length (l16_0R m (m + 24) x0 x0 (([] : List ((List UInt8) × (List UInt8))))).2.2) (List.drop 0 (l16_0R m (m + 24) x0 x0 (([] : List ((List UInt8) × (List UInt8))))).2.2)) = true then
                      if ((lprintG (List.take (List.length (l16_0R m (m + 24) x0 x0 (([] : List ((List UInt8) × (List UInt8))))).2.2) (List.drop 0 (l16_0R m (m + 24) x0 x0 (([] : List ((List UInt8) × (List UInt8))))).2.2))) == x0) = true then
                        some ((List.take (List.length (l16_0R m (m + 24) x0 x0 (([] : List ((List UInt8) × (List UInt8))))).2.2) (List.drop 0 (l16_0R m (m + 24) x0 x0 (([] : List ((List UInt8) × (List UInt8))))).2.2)), true)
                      else
                        some (([] : List ((List UInt8) × (List UInt8))), false)
                    else
                      none
                else
                  if ((l16_0R m (m + 24) x0 x0 (([] : List ((List UInt8) × (List UInt8))))).1 == 4) = true then
                    if (x0 == ([] : List UInt8)) = true then
                      some (([] : List ((List UInt8) × (List UInt8))), false)
                    else
                      if lrightPre (List.take (List.length (l16_0R m (m + 24) x0 x0 (([] : List ((List UInt8) × (List UInt8))))).2.2) (List.drop 0 (l16_0R m (m + 24) x0 x0 (([] : List ((List UInt8) × (List UInt8))))).2.2)) = true then
                        if ((lprintG (List.take (List.length (l16_0R m (m + 24) x0 x0 (([] : List ((List UInt8) × (List UInt8))))).2.2) (List.drop 0 (l16_0R m (m + 24) x0 x0 (([] : List ((List UInt8) × (List UInt8))))).2.2))) == x0) = true then
                          some ((List.take (List.length (l16_0R m (m + 24) x0 x0 (([] : List ((List UInt8) × (List UInt8))))).2.2) (List.drop 0 (l16_0R m (m + 24) x0 x0 (([] : List ((List UInt8) × (List UInt8))))).2.2)), true)
                        else
                          some (([] : List ((List UInt8) × (List UInt8))), false)
                      else
                        none
                  else
                    if ((l16_0R m (m + 24) x0 x0 (([] : List ((List UInt8) × (List UInt8))))).1 == 5) = true then
                      if (x0 == ([] : List UInt8)) = true then
                        some (([] : List ((List UInt8) × (List UInt8))), false)
                      else
                        if lrightPre (List.take (List.length (l16_0R m (m + 24) x0 x0 (([] : List ((List UInt8) × (List UInt8))))).2.2) (List.drop 0 (l16_0R m (m + 24) x0 x0 (([] : List ((List UInt8) × (List UInt8))))).2.2)) = true then
                          if ((lprintG (List.take (List.length (l16_0R m (m + 24) x0 x0 (([] : List ((List UInt8) × (List UInt8))))).2.2) (List.drop 0 (l16_0R m (m + 24) x0 x0 (([] : List ((List UInt8) × (List UInt8))))).2.2))) == x0) = true then
                            some ((List.take (List.length (l16_0R m (m + 24) x0 x0 (([] : List ((List UInt8) × (List UInt8))))).2.2) (List.drop 0 (l16_0R m (m + 24) x0 x0 (([] : List ((List UInt8) × (List UInt8))))).2.2)), true)
                          else
                            some (([] : List ((List UInt8) × (List UInt8))), false)
                        else
                          none
                    else
                      none
        else
          none
    else
      none
  else
    if (Option.isSome (l16_0 m (m + 24) x0 x0 (([] : List ((List UInt8) × (List UInt8)))))) = true then
      if ((l16_0R m (m + 24) x0 x0 (([] : List ((List UInt8) × (List UInt8))))).1 == 0) = true then
        some (([] : List ((List UInt8) × (List UInt8))), false)
      else
        if ((l16_0R m (m + 24) x0 x0 (([] : List ((List UInt8) × (List UInt8))))).1 == 1) = true then
          some (([] : List ((List UInt8) × (List UInt8))), false)
        else
          if ((l16_0R m (m + 24) x0 x0 (([] : List ((List UInt8) × (List UInt8))))).1 == 2) = true then
            some (([] : List ((List UInt8) × (List UInt8))), false)
          else
            if ((l16_0R m (m + 24) x0 x0 (([] : List ((List UInt8) × (List UInt8))))).1 == 3) = true then
              if (x0 == ([] : List UInt8)) = true then
                some (([] : List ((List UInt8) × (List UInt8))), false)
              else
                if lrightPre (List.take (List.length (l16_0R m (m + 24) x0 x0 (([] : List ((List UInt8) × (List UInt8))))).2.2) (List.drop 0 (l16_0R m (m + 24) x0 x0 (([] : List ((List UInt8) × (List UInt8))))).2.2)) = true then
                  if ((lprintG (List.take (List.length (l16_0R m (m + 24) x0 x0 (([] : List ((List UInt8) × (List UInt8))))).2.2) (List.drop 0 (l16_0R m (m + 24) x0 x0 (([] : List ((List UInt8) × (List UInt8))))).2.2))) == x0) = true then
                    some ((List.take (List.length (l16_0R m (m + 24) x0 x0 (([] : List ((List UInt8) × (List UInt8))))).2.2) (List.drop 0 (l16_0R m (m + 24) x0 x0 (([] : List ((List UInt8) × (List UInt8))))).2.2)), true)
                  else
                    some (([] : List ((List UInt8) × (List UInt8))), false)
                else
                  none
            else
              if ((l16_0R m (m + 24) x0 x0 (([] : List ((List UInt8) × (List UInt8))))).1 == 4) = true then
                if (x0 == ([] : List UInt8)) = true then
                  some (([] : List ((List UInt8) × (List UInt8))), false)
                else
                  if lrightPre (List.take (List.length (l16_0R m (m + 24) x0 x0 (([] : List ((List UInt8) × (List UInt8))))).2.2) (List.drop 0 (l16_0R m (m + 24) x0 x0 (([] : List ((List UInt8) × (List UInt8))))).2.2)) = true then
                    if ((lprintG (List.take (List.length (l16_0R m (m + 24) x0 x0 (([] : List ((List UInt8) × (List UInt8))))).2.2) (List.drop 0 (l16_0R m (m + 24) x0 x0 (([] : List ((List UInt8) × (List UInt8))))).2.2))) == x0) = true then
                      some ((List.take (List.length (l16_0R m (m + 24) x0 x0 (([] : List ((List UInt8) × (List UInt8))))).2.2) (List.drop 0 (l16_0R m (m + 24) x0 x0 (([] : List ((List UInt8) × (List UInt8))))).2.2)), true)
                    else
                      some (([] : List ((List UInt8) × (List UInt8))), false)
                  else
                    none
              else
                if ((l16_0R m (m + 24) x0 x0 (([] : List ((List UInt8) × (List UInt8))))).1 == 5) = true then
                  if (x0 == ([] : List UInt8)) = true then
                    some (([] : List ((List UInt8) × (List UInt8))), false)
                  else
                    if lrightPre (List.take (List.length (l16_0R m (m + 24) x0 x0 (([] : List ((List UInt8) × (List UInt8))))).2.2) (List.drop 0 (l16_0R m (m + 24) x0 x0 (([] : List ((List UInt8) × (List UInt8))))).2.2)) = true then
                      if ((lprintG (List.take (List.length (l16_0R m (m + 24) x0 x0 (([] : List ((List UInt8) × (List UInt8))))).2.2) (List.drop 0 (l16_0R m (m + 24) x0 x0 (([] : List ((List UInt8) × (List UInt8))))).2.2))) == x0) = true then
                        some ((List.take (List.length (l16_0R m (m + 24) x0 x0 (([] : List ((List UInt8) × (List UInt8))))).2.2) (List.drop 0 (l16_0R m (m + 24) x0 x0 (([] : List ((List UInt8) × (List UInt8))))).2.2)), true)
                      else
                        some (([] : List ((List UInt8) × (List UInt8))), false)
                    else
                      none
                else
                  none
    else
      none
set_option maxHeartbeats 20000000 in
theorem p16_ok (m : Nat) (x0 : List UInt8) (q : (List ((List UInt8) × (List UInt8))) × Bool) (h : p16 m x0 = some q) : ∃ r B1, (evCall F S17 (m + 25) 16 [(.d (.str x0))] []).run = some (r, B1) ∧ 0 ≤ B1.length ∧ wkR B1 [] r (.tup [(.d (.sl (.pair .str .str) q.1)), (.d (.bool (q.2)))]) ∧ wkBs B1 [] 0 [] := by
  unfold p16 at h
  refine ite_cases h (fun c0 h => ?_) (fun c0 h => ?_)
  · skip
    refine ite_cases h (fun c4 h => ?_) (fun c4 h => ?_)
    · skip
      refine ite_cases h (fun c8 h => ?_) (fun c8 h => ?_)
      · skip
        refine ite_cases h (fun c10 h => ?_) (fun c10 h => ?_)
        · skip
          refine ite_cases h (fun c11 h => ?_) (fun c11 h => ?_)
          · skip
            cases h
            refine ⟨(.tup [(.d (.sl (.pair .str .str) ([] : List ((List UInt8) × (List UInt8))))), (.d (.bool false))]), [], runT_ok (LS := (fun k => if k = 49 then some (l16_0E x0 ((l16_0R m (m + 24) x0 ((List.drop 1 (List.take (List.length x0) x0))) (([] : List ((List UInt8) × (List UInt8))))).2.1) ((l16_0R m (m + 24) x0 ((List.drop 1 (List.take (List.length x0) x0))) (([] : List ((List UInt8) × (List UInt8))))).2.2) 0) else none)) (fn := fn16) (vis := [(49, l16_0H x0 ((List.drop 1 (List.take (List.length x0) x0))) (([] : List ((List UInt8) × (List UInt8)))), l16_0B x0 ((List.drop 1 (List.take (List.length x0) x0))) (([] : List ((List UInt8) × (List UInt8)))))]) (by kernel_rfl) rfl (by kernel_rfl) (M.run_of_path _ [true, true, true, true, true, true, true, true, true, true, true] _ _ (by kernel_rfl) (all_t c0 (all_t c0 (all_t c0 (all_t c0 (all_t c4 (all_t c0 (all_t c0 (all_t c0 (all_t c8 (all_t c4 (all_t rfl all_nil)))))))))))) ?_, by simp, (wkR.tup (wkVs.cons (wkV.one (wk1.eq rfl)) (wkVs.cons (wkV.one (wk1.eq rfl)) wkVs.nil))), trivial⟩
            intro p hp p2 hq
            rcases List.mem_cons.1 hp with rfl | hp
            · skip
              have h3 := l16_0_ok m (m + 24) x0 ((List.drop 1 (List.take (List.length x0) x0))) (([] : List ((List UInt8) × (List UInt8)))) _ (some_getD (d := l16_0D) c10)
              rw [eq_of_beq c11] at h3
              exact Eq.trans (Eq.mp (by kernel_rfl) h3) hq
            cases hp
          · skip
            refine ite_cases h (fun c12 h => ?_) (fun c12 h => ?_)
            · skip
              cases h
              refine ⟨(.tup [(.d (.sl (.pair .str .str) ([] : List ((List UInt8) × (List UInt8))))), (.d (.bool false))]), [], runT_ok (LS := (fun k => if k = 49 then some (l16_0E x0 ((l16_0R m (m + 24) x0 ((List.drop 1 (List.take (List.length x0) x0))) (([] : List ((List UInt8) × (List UInt8))))).2.1) ((l16_0R m (m + 24) x0 ((List.drop 1 (List.take (List.length x0) x0))) (([] : List ((List UInt8) × (List UInt8))))).2.2) 1) else none)) (fn := fn16) (vis := [(49, l16_0H x0 ((List.drop 1 (List.take (List.length x0) x0))) (([] : List ((List UInt8) × (List UInt8)))), l16_0B x0 ((List.drop 1 (List.take (List.length x0) x0))) (([] : List ((List UInt8) × (List UInt8)))))]) (by kernel_rfl) rfl (by kernel_rfl) (M.run_of_path _ [true, true, true, true, true, true, true, true, true, true, true] _ _ (by kernel_rfl) (all_t c0 (all_t c0 (all_t c0 (all_t c0 (all_t c4 (all_t c0 (all_t c0 (all_t c0 (all_t c8 (all_t c4 (all_t rfl all_nil)))))))))))) ?_, by simp, (wkR.tup (wkVs.cons (wkV.one (wk1.eq rfl)) (wkVs.cons (wkV.one (wk1.eq rfl)) wkVs.nil))), trivial⟩
              intro p hp p2 hq
              rcases List.mem_cons.1 hp with rfl | hp
              · skip
                have h3 := l16_0_ok m (m + 24) x0 ((List.drop 1 (List.take (List.length x0) x0))) (([] : List ((List UInt8) × (List UInt8)))) _ (some_getD (d := l16_0D) c10)
                rw [eq_of_beq c12] at h3
                exact Eq.trans (Eq.mp (by kernel_rfl) h3) hq
              cases hp
            · skip
              refine ite_cases h (fun c13 h => ?_) (fun c13 h => ?_)
              · skip
                cases h
                refine ⟨(.tup [(.d (.sl (.pair .str .str) ([] : List ((List UInt8) × (List UInt8))))), (.d (.bool false))]), [], runT_ok (LS := (fun k => if k = 49 then some (l16_0E x0 ((l16_0R m (m + 24) x0 ((List.drop 1 (List.take (List.length x0) x0))) (([] : List ((List UInt8) × (List UInt8))))).2.1) ((l16_0R m (m + 24) x0 ((List.drop 1 (List.take (List.length x0) x0))) (([] : List ((List UInt8) × (List UInt8))))).2.2) 2) else none)) (fn := fn16) (vis := [(49, l16_0H x0 ((List.drop 1 (List.take (List.length x0) x0))) (([] : List ((List UInt8) × (List UInt8)))), l16_0B x0 ((List.drop 1 (List.take (List.length x0) x0))) (([] : List ((List UInt8) × (List UInt8)))))]) (by kernel_rfl) rfl (by kernel_rfl) (M.run_of_path _ [true, true, true, true, true, true, true, true, true, true, true] _ _ (by kernel_rfl) (all_t c0 (all_t c0 (all_t c0 (all_t c0 (all_t c4 (all_t c0 (all_t c0 (all_t c0 (all_t c8 (all_t c4 (all_t rfl all_nil)))))))))))) ?_, by simp, (wkR.tup (wkVs.cons (wkV.one (wk1.eq rfl)) (wkVs.cons (wkV.one (wk1.eq rfl)) wkVs.nil))), trivial⟩
                intro p hp p2 hq
                rcases List.mem_cons.1 hp with rfl | hp
                · skip
                  have h3 := l16_0_ok m (m + 24) x0 ((List.drop 1 (List.take (List.length x0) x0))) (([] : List ((List UInt8) × (List UInt8)))) _ (some_getD (d := l16_0D) c10)
                  rw [eq_of_beq c13] at h3
                  exact Eq.trans (Eq.mp (by kernel_rfl) h3) hq
                cases hp
              · skip
                refine ite_cases h (fun c14 h => ?_) (fun c14 h => ?_)
                · skip
                  refine ite_cases h (fun c15 h => ?_) (fun c15 h => ?_)
                  · skip
                    cases h
                    refine ⟨(.tup [(.d (.sl (.pair .str .str) ([] : List ((List UInt8) × (List UInt8))))), (.d (.bool false))]), [], runT_ok (LS := (fun k => if k = 49 then some (l16_0E x0 ((l16_0R m (m + 24) x0 ((List.drop 1 (List.take (List.length x0) x0))) (([] : List ((List UInt8) × (List UInt8))))).2.1) ((l16_0R m (m + 24) x0 ((List.drop 1 (List.take (List.length x0) x0))) (([] : List ((List UInt8) × (List UInt8))))).2.2) 3) else none)) (fn := fn16) (vis := [(49, l16_0H x0 ((List.drop 1 (List.take (List.length x0) x0))) (([] : List ((List UInt8) × (List UInt8)))), l16_0B x0 ((List.drop 1 (List.take (List.length x0) x0))) (([] : List ((List UInt8) × (List UInt8)))))]) (by kernel_rfl) rfl (by kernel_rfl) (M.run_of_path _ [true, true, true, true, true, true, true, true, true, true, true, true, true, true, true, true, true] _ _ (by kernel_rfl) (all_t c0 (all_t c0 (all_t c0 (all_t c0 (all_t c4 (all_t c0 (all_t c0 (all_t c0 (all_t c8 (all_t c4 (all_t c15 (all_t c15 (all_t c15 (all_t c15 (all_t c15 (all_t rfl (all_t rfl all_nil)))))))))))))))))) ?_, by simp, (wkR.tup (wkVs.cons (wkV.one (wk1.eq rfl)) (wkVs.cons (wkV.one (wk1.eq rfl)) wkVs.nil))), trivial⟩
                    intro p hp p2 hq
                    rcases List.mem_cons.1 hp with rfl | hp
                    · skip
                      have h3 := l16_0_ok m (m + 24) x0 ((List.drop 1 (List.take (List.length x0) x0))) (([] : List ((List UInt8) × (List UInt8)))) _ (some_getD (d := l16_0D) c10)
                      rw [eq_of_beq c14] at h3
                      exact Eq.trans (Eq.mp (by kernel_rfl) h3) hq
                    cases hp
                  · skip
                    refine ite_cases h (fun c18 h => ?_) (fun c18 h => ?_)
                    · skip
                      refine ite_cases h (fun c22 h => ?_) (fun c22 h => ?_)
                      · skip
                        cases h
                        refine ⟨(.tup [(.d (.sl (.pair .str .str) (List.take (List.length (l16_0R m (m + 24) x0 ((List.drop 1 (List.take (List.length x0) x0))) (([] : List ((List UInt8) × (List UInt8))))).2.2) (List.drop 0 (l16_0R m (m + 24) x0 ((List.drop 1 (List.take (List.length x0) x0))) (([] : List ((List UInt8) × (List UInt8))))).2.2)))), (.d (.bool true))]), [], runT_ok (LS := (fun k => if k = 49 then some (l16_0E x0 ((l16_0R m (m + 24) x0 ((List.drop 1 (List.take (List.length x0) x0))) (([] : List ((List UInt8) × (List UInt8))))).2.1) ((l16_0R m (m + 24) x0 ((List.drop 1 (List.take (List.length x0) x0))) (([] : List ((List UInt8) × (List UInt8))))).2.2) 3) else none)) (fn := fn16) (vis := [(49, l16_0H x0 ((List.drop 1 (List.take (List.length x0) x0))) (([] : List ((List UInt8) × (List UInt8)))), l16_0B x0 ((List.drop 1 (List.take (List.length x0) x0))) (([] : List ((List UInt8) × (List UInt8)))))]) (by kernel_rfl) rfl (by kernel_rfl) (M.run_of_path _ [true, true, true, true, true, true, true, true, true, true, false, false, true, true, false, false, false, false, true] _ _ (by kernel_rfl) (all_t c0 (all_t c0 (all_t c0 (all_t c0 (all_t c4 (all_t c0 (all_t c0 (all_t c0 (all_t c8 (all_t c4 (all_f c15 (all_f c15 (all_t (show decide ((0 + (List.length (l16_0R m (m + 24) x0 ((List.drop 1 (List.take (List.length x0) x0))) (([] : List ((List UInt8) × (List UInt8))))).2.2)) ≤ (List.length (l16_0R m (m + 24) x0 ((List.drop 1 (List.take (List.length x0) x0))) (([] : List ((List UInt8) × (List UInt8))))).2.2)) = true from decide_eq_true (Nat.le_of_eq (Nat.zero_add _))) (all_t c18 (all_f c15 (all_f c15 (all_f c15 (all_nt c22 (all_t (show decide ((0 + (List.length (l16_0R m (m + 24) x0 ((List.drop 1 (List.take (List.length x0) x0))) (([] : List ((List UInt8) × (List UInt8))))).2.2)) ≤ (List.length (l16_0R m (m + 24) x0 ((List.drop 1 (List.take (List.length x0) x0))) (([] : List ((List UInt8) × (List UInt8))))).2.2)) = true from decide_eq_true (Nat.le_of_eq (Nat.zero_add _))) all_nil)))))))))))))))))))) ?_, by simp, (wkR.tup (wkVs.cons (wkV.one (wk1.eq rfl)) (wkVs.cons (wkV.one (wk1.eq rfl)) wkVs.nil))), trivial⟩
                        intro p hp p2 hq
                        rcases List.mem_cons.1 hp with rfl | hp
                        · skip
                          have h3 := l16_0_ok m (m + 24) x0 ((List.drop 1 (List.take (List.length x0) x0))) (([] : List ((List UInt8) × (List UInt8)))) _ (some_getD (d := l16_0D) c10)
                          rw [eq_of_beq c14] at h3
                          exact Eq.trans (Eq.mp (by kernel_rfl) h3) hq
                        cases hp
                      · skip
                        cases h
                        refine ⟨(.tup [(.d (.sl (.pair .str .str) ([] : List ((List UInt8) × (List UInt8))))), (.d (.bool false))]), [], runT_ok (LS := (fun k => if k = 49 then some (l16_0E x0 ((l16_0R m (m + 24) x0 ((List.drop 1 (List.take (List.length x0) x0))) (([] : List ((List UInt8) × (List UInt8))))).2.1) ((l16_0R m (m + 24) x0 ((List.drop 1 (List.take (List.length x0) x0))) (([] : List ((List UInt8) × (List UInt8))))).2.2) 3) else none)) (fn := fn16) (vis := [(49, l16_0H x0 ((List.drop 1 (List.take (List.length x0) x0))) (([] : List ((List UInt8) × (List UInt8)))), l16_0B x0 ((List.drop 1 (List.take (List.length x0) x0))) (([] : List ((List UInt8) × (List UInt8)))))]) (by kernel_rfl) rfl (by kernel_rfl) (M.run_of_path _ [true, true, true, true, true, true, true, true, true, true, false, false, true, true, false, false, false, true, true] _ _ (by kernel_rfl) (all_t c0 (all_t c0 (all_t c0 (all_t c0 (all_t c4 (all_t c0 (all_t c0 (all_t c0 (all_t c8 (all_t c4 (all_f c15 (all_f c15 (all_t (show decide ((0 + (List.length (l16_0R m (m + 24) x0 ((List.drop 1 (List.take (List.length x0) x0))) (([] : List ((List UInt8) × (List UInt8))))).2.2)) ≤ (List.length (l16_0R m (m + 24) x0 ((List.drop 1 (List.take (List.length x0) x0))) (([] : List ((List UInt8) × (List UInt8))))).2.2)) = true from decide_eq_true (Nat.le_of_eq (Nat.zero_add _))) (all_t c18 (all_f c15 (all_f c15 (all_f c15 (all_nf c22 (all_t rfl all_nil)))))))))))))))))))) ?_, by simp, (wkR.tup (wkVs.cons (wkV.one (wk1.eq rfl)) (wkVs.cons (wkV.one (wk1.eq rfl)) wkVs.nil))), trivial⟩
                        intro p hp p2 hq
                        rcases List.mem_cons.1 hp with rfl | hp
                        · skip
                          have h3 := l16_0_ok m (m + 24) x0 ((List.drop 1 (List.take (List.length x0) x0))) (([] : List ((List UInt8) × (List UInt8)))) _ (some_getD (d := l16_0D) c10)
                          rw [eq_of_beq c14] at h3
                          exact Eq.trans (Eq.mp (by kernel_rfl) h3) hq
                        cases hp
                    · skip
                      cases h
                · skip
                  refine ite_cases h (fun c15 h => ?_) (fun c15 h => ?_)
                  · skip
                    refine ite_cases h (fun c16 h => ?_) (fun c16 h => ?_)
                    · skip
                      cases h
                      refine ⟨(.tup [(.d (.sl (.pair .str .str) ([] : List ((List UInt8) × (List UInt8))))), (.d (.bool false))]), [], runT_ok (LS := (fun k => if k = 49 then some (l16_0E x0 ((l16_0R m (m + 24) x0 ((List.drop 1 (List.take (List.length x0) x0))) (([] : List ((List UInt8) × (List UInt8))))).2.1) ((l16_0R m (m + 24) x0 ((List.drop 1 (List.take (List.length x0) x0))) (([] : List ((List UInt8) × (List UInt8))))).2.2) 4) else none)) (fn := fn16) (vis := [(49, l16_0H x0 ((List.drop 1 (List.take (List.length x0) x0))) (([] : List ((List UInt8) × (List UInt8)))), l16_0B x0 ((List.drop 1 (List.take (List.length x0) x0))) (([] : List ((List UInt8) × (List UInt8)))))]) (by kernel_rfl) rfl (by kernel_rfl) (M.run_of_path _ [true, true, true, true, true, true, true, true, true, true, true, true, true, true, true, true, true] _ _ (by kernel_rfl) (all_t c0 (all_t c0 (all_t c0 (all_t c0 (all_t c4 (all_t c0 (all_t c0 (all_t c0 (all_t c8 (all_t c4 (all_t c16 (all_t c16 (all_t c16 (all_t c16 (all_t c16 (all_t rfl (all_t rfl all_nil)))))))))))))))))) ?_, by simp, (wkR.tup (wkVs.cons (wkV.one (wk1.eq rfl)) (wkVs.cons (wkV.one (wk1.eq rfl)) wkVs.nil))), trivial⟩
                      intro p hp p2 hq
                      rcases List.mem_cons.1 hp with rfl | hp
                      · skip
                        have h3 := l16_0_ok m (m + 24) x0 ((List.drop 1 (List.take (List.length x0) x0))) (([] : List ((List UInt8) × (List UInt8)))) _ (some_getD (d := l16_0D) c10)
                        rw [eq_of_beq c15] at h3
                        exact Eq.trans (Eq.mp (by kernel_rfl) h3) hq
                      cases hp
                    · skip
                      refine ite_cases h (fun c19 h => ?_) (fun c19 h => ?_)
                      · skip
                        refine ite_cases h (fun c23 h => ?_) (fun c23 h => ?_)
                        · skip
                          cases h
                          refine ⟨(.tup [(.d (.sl (.pair .str .str) (List.take (List.length (l16_0R m (m + 24) x0 ((List.drop 1 (List.take (List.length x0) x0))) (([] : List ((List UInt8) × (List UInt8))))).2.2) (List.drop 0 (l16_0R m (m + 24) x0 ((List.drop 1 (List.take (List.length x0) x0))) (([] : List ((List UInt8) × (List UInt8))))).2.2)))), (.d (.bool true))]), [], runT_ok (LS := (fun k => if k = 49 then some (l16_0E x0 ((l16_0R m (m + 24) x0 ((List.drop 1 (List.take (List.length x0) x0))) (([] : List ((List UInt8) × (List UInt8))))).2.1) ((l16_0R m (m + 24) x0 ((List.drop 1 (List.take (List.length x0) x0))) (([] : List ((List UInt8) × (List UInt8))))).2.2) 4) else none)) (fn := fn16) (vis := [(49, l16_0H x0 ((List.drop 1 (List.take (List.length x0) x0))) (([] : List ((List UInt8) × (List UInt8)))), l16_0B x0 ((List.drop 1 (List.take (List.length x0) x0))) (([] : List ((List UInt8) × (List UInt8)))))]) (by kernel_rfl) rfl (by kernel_rfl) (M.run_of_path _ [true, true, true, true, true, true, true, true, true, true, false, false, true, true, false, false, false, false, true] _ _ (by kernel_rfl) (all_t c0 (all_t c0 (all_t c0 (all_t c0 (all_t c4 (all_t c0 (all_t c0 (all_t c0 (all_t c8 (all_t c4 (all_f c16 (all_f c16 (all_t (show decide ((0 + (List.length (l16_0R m (m + 24) x0 ((List.drop 1 (List.take (List.length x0) x0))) (([] : List ((List UInt8) × (List UInt8))))).2.2)) ≤ (List.length (l16_0R m (m + 24) x0 ((List.drop 1 (List.take (List.length x0) x0))) (([] : List ((List UInt8) × (List UInt8))))).2.2)) = true from decide_eq_true (Nat.le_of_eq (Nat.zero_add _))) (all_t c19 (all_f c16 (all_f c16 (all_f c16 (all_nt c23 (all_t (show decide ((0 + (List.length (l16_0R m (m + 24) x0 ((List.drop 1 (List.take (List.length x0) x0))) (([] : List ((List UInt8) × (List UInt8))))).2.2)) ≤ (List.length (l16_0R m (m + 24) x0 ((List.drop 1 (List.take (List.length x0) x0))) (([] : List ((List UInt8) × (List UInt8))))).2.2)) = true from decide_eq_true (Nat.le_of_eq (Nat.zero_add _))) all_nil)))))))))))))))))))) ?_, by simp, (wkR.tup (wkVs.cons (wkV.one (wk1.eq rfl)) (wkVs.cons (wkV.one (wk1.eq rfl)) wkVs.nil))), trivial⟩
                          intro p hp p2 hq
                          rcases List.mem_cons.1 hp with rfl | hp
                          · skip
                            have h3 := l16_0_ok m (m + 24) x0 ((List.drop 1 (List.take (List.length x0) x0))) (([] : List ((List UInt8) × (List UInt8)))) _ (some_getD (d := l16_0D) c10)
                            rw [eq_of_beq c15] at h3
                            exact Eq.trans (Eq.mp (by kernel_rfl) h3) hq
                          cases hp
                        · skip
                          cases h
                          refine ⟨(.tup [(.d (.sl (.pair .str .str) ([] : List ((List UInt8) × (List UInt8))))), (.d (.bool false))]), [], runT_ok (LS := (fun k => if k = 49 then some (l16_0E x0 ((l16_0R m (m + 24) x0 ((List.drop 1 (List.take (List.length x0) x0))) (([] : List ((List UInt8) × (List UInt8))))).2.1) ((l16_0R m (m + 24) x0 ((List.drop 1 (List.take (List.length x0) x0))) (([] : List ((List UInt8) × (List UInt8))))).2.2) 4) else none)) (fn := fn16) (vis := [(49, l16_0H x0 ((List.drop 1 (List.take (List.length x0) x0))) (([] : List ((List UInt8) × (List UInt8)))), l16_0B x0 ((List.drop 1 (List.take (List.length x0) x0))) (([] : List ((List UInt8) × (List UInt8)))))]) (by kernel_rfl) rfl (by kernel_rfl) (M.run_of_path _ [true, true, true, true, true, true, true, true, true, true, false, false, true, true, false, false, false, true, true] _ _ (by kernel_rfl) (all_t c0 (all_t c0 (all_t c0 (all_t c0 (all_t c4 (all_t c0 (all_t c0 (all_t c0 (all_t c8 (all_t c4 (all_f c16 (all_f c16 (all_t (show decide ((0 + (List.length (l16_0R m (m + 24) x0 ((List.drop 1 (List.take (List.length x0) x0))) (([] : List ((List UInt8) × (List UInt8))))).2.2)) ≤ (List.length (l16_0R m (m + 24) x0 ((List.drop 1 (List.take (List.length x0) x0))) (([] : List ((List UInt8) × (List UInt8))))).2.2)) = true from decide_eq_true (Nat.le_of_eq (Nat.zero_add _))) (all_t c19 (all_f c16 (all_f c16 (all_f c16 (all_nf c23 (all_t rfl all_nil)))))))))))))))))))) ?_, by simp, (wkR.tup (wkVs.cons (wkV.one (wk1.eq rfl)) (wkVs.cons (wkV.one (wk1.eq rfl)) wkVs.nil))), trivial⟩
                          intro p hp p2 hq
                          rcases List.mem_cons.1 hp with rfl | hp
                          · skip
                            have h3 := l16_0_ok m (m + 24) x0 ((List.drop 1 (List.take (List.length x0) x0))) (([] : List ((List UInt8) × (List UInt8)))) _ (some_getD (d := l16_0D) c10)
                            rw [eq_of_beq c15] at h3
                            exact Eq.trans (Eq.mp (by kernel_rfl) h3) hq
                          cases hp
                      · skip
                        cases h
                  · skip
                    refine ite_cases h (fun c16 h => ?_) (fun c16 h => ?_)
                    · skip
                      refine ite_cases h (fun c17 h => ?_) (fun c17 h => ?_)
                      · skip
                        cases h
                        refine ⟨(.tup [(.d (.sl (.pair .str .str) ([] : List ((List UInt8) × (List UInt8))))), (.d (.bool false))]), [], runT_ok (LS := (fun k => if k = 49 then some (l16_0E x0 ((l16_0R m (m + 24) x0 ((List.drop 1 (List.take (List.length x0) x0))) (([] : List ((List UInt8) × (List UInt8))))).2.1) ((l16_0R m (m + 24) x0 ((List.drop 1 (List.take (List.length x0) x0))) (([] : List ((List UInt8) × (List UInt8))))).2.2) 5) else none)) (fn := fn16) (vis := [(49, l16_0H x0 ((List.drop 1 (List.take (List.length x0) x0))) (([] : List ((List UInt8) × (List UInt8)))), l16_0B x0 ((List.drop 1 (List.take (List.length x0) x0))) (([] : List ((List UInt8) × (List UInt8)))))]) (by kernel_rfl) rfl (by kernel_rfl) (M.run_of_path _ [true, true, true, true, true, true, true, true, true, true, true, true, true, true, true, true, true] _ _ (by kernel_rfl) (all_t c0 (all_t c0 (all_t c0 (all_t c0 (all_t c4 (all_t c0 (all_t c0 (all_t c0 (all_t c8 (all_t c4 (all_t c17 (all_t c17 (all_t c17 (all_t c17 (all_t c17 (all_t rfl (all_t rfl all_nil)))))))))))))))))) ?_, by simp, (wkR.tup (wkVs.cons (wkV.one (wk1.eq rfl)) (wkVs.cons (wkV.one (wk1.eq rfl)) wkVs.nil))), trivial⟩
                        intro p hp p2 hq
                        rcases List.mem_cons.1 hp with rfl | hp
                        · skip
                          have h3 := l16_0_ok m (m + 24) x0 ((List.drop 1 (List.take (List.length x0) x0))) (([] : List ((List UInt8) × (List UInt8)))) _ (some_getD (d := l16_0D) c10)
                          rw [eq_of_beq c16] at h3
                          exact Eq.trans (Eq.mp (by kernel_rfl) h3) hq
                        cases hp
                      · skip
                        refine ite_cases h (fun c20 h => ?_) (fun c20 h => ?_)
                        · skip
                          refine ite_cases h (fun c24 h => ?_) (fun c24 h => ?_)
                          · skip
                            cases h
                            refine ⟨(.tup [(.d (.sl (.pair .str .str) (List.take (List.length (l16_0R m (m + 24) x0 ((List.drop 1 (List.take (List.length x0) x0))) (([] : List ((List UInt8) × (List UInt8))))).2.2) (List.drop 0 (l16_0R m (m + 24) x0 ((List.drop 1 (List.take (List.length x0) x0))) (([] : List ((List UInt8) × (List UInt8))))).2.2)))), (.d (.bool true))]), [], runT_ok (LS := (fun k => if k = 49 then some (l16_0E x0 ((l16_0R m (m + 24) x0 ((List.drop 1 (List.take (List.length x0) x0))) (([] : List ((List UInt8) × (List UInt8))))).2.1) ((l16_0R m (m + 24) x0 ((List.drop 1 (List.take (List.length x0) x0))) (([] : List ((List UInt8) × (List UInt8))))).2.2) 5) else none)) (fn := fn16) (vis := [(49, l16_0H x0 ((List.drop 1 (List.take (List.length x0) x0))) (([] : List ((List UInt8) × (List UInt8)))), l16_0B x0 ((List.drop 1 (List.take (List.length x0) x0))) (([] : List ((List UInt8) × (List UInt8)))))]) (by kernel_rfl) rfl (by kernel_rfl) (M.run_of_path _ [true, true, true, true, true, true, true, true, true, true, false, false, true, true, false, false, false, false, true] _ _ (by kernel_rfl) (all_t c0 (all_t c0 (all_t c0 (all_t c0 (all_t c4 (all_t c0 (all_t c0 (all_t c0 (all_t c8 (all_t c4 (all_f c17 (all_f c17 (all_t (show decide ((0 + (List.length (l16_0R m (m + 24) x0 ((List.drop 1 (List.take (List.length x0) x0))) (([] : List ((List UInt8) × (List UInt8))))).2.2)) ≤ (List.length (l16_0R m (m + 24) x0 ((List.drop 1 (List.take (List.length x0) x0))) (([] : List ((List UInt8) × (List UInt8))))).2.2)) = true from decide_eq_true (Nat.le_of_eq (Nat.zero_add _))) (all_t c20 (all_f c17 (all_f c17 (all_f c17 (all_nt c24 (all_t (show decide ((0 + (List.length (l16_0R m (m + 24) x0 ((List.drop 1 (List.take (List.length x0) x0))) (([] : List ((List UInt8) × (List UInt8))))).2.2)) ≤ (List.length (l16_0R m (m + 24) x0 ((List.drop 1 (List.take (List.length x0) x0))) (([] : List ((List UInt8) × (List UInt8))))).2.2)) = true from decide_eq_true (Nat.le_of_eq (Nat.zero_add _))) all_nil)))))))))))))))))))) ?_, by simp, (wkR.tup (wkVs.cons (wkV.one (wk1.eq rfl)) (wkVs.cons (wkV.one (wk1.eq rfl)) wkVs.nil))), trivial⟩
                            intro p hp p2 hq
                            rcases List.mem_cons.1 hp with rfl | hp
                            · skip
                              have h3 := l16_0_ok m (m + 24) x0 ((List.drop 1 (List.take (List.length x0) x0))) (([] : List ((List UInt8) × (List UInt8)))) _ (some_getD (d := l16_0D) c10)
                              rw [eq_of_beq c16] at h3
                              exact Eq.trans (Eq.mp (by kernel_rfl) h3) hq
                            cases hp
                          · skip
                            cases h
                            refine ⟨(.tup [(.d (.sl (.pair .str .str) ([] : List ((List UInt8) × (List UInt8))))), (.d (.bool false))]), [], runT_ok (LS := (fun k => if k = 49 then some (l16_0E x0 ((l16_0R m (m + 24) x0 ((List.drop 1 (List.take (List.length x0) x0))) (([] : List ((List UInt8) × (List UInt8))))).2.1) ((l16_0R m (m + 24) x0 ((List.drop 1 (List.take (List.length x0) x0))) (([] : List ((List UInt8) × (List UInt8))))).2.2) 5) else none)) (fn := fn16) (vis := [(49, l16_0H x0 ((List.drop 1 (List.take (List.length x0) x0))) (([] : List ((List UInt8) × (List UInt8)))), l16_0B x0 ((List.drop 1 (List.take (List.length x0) x0))) (([] : List ((List UInt8) × (List UInt8)))))]) (by kernel_rfl) rfl (by kernel_rfl) (M.run_of_path _ [true, true, true, true, true, true, true, true, true, true, false, false, true, true, false, false, false, true, true] _ _ (by kernel_rfl) (all_t c0 (all_t c0 (all_t c0 (all_t c0 (all_t c4 (all_t c0 (all_t c0 (all_t c0 (all_t c8 (all_t c4 (all_f c17 (all_f c17 (all_t (show decide ((0 + (List.length (l16_0R m (m + 24) x0 ((List.drop 1 (List.take (List.length x0) x0))) (([] : List ((List UInt8) × (List UInt8))))).2.2)) ≤ (List.length (l16_0R m (m + 24) x0 ((List.drop 1 (List.take (List.length x0) x0))) (([] : List ((List UInt8) × (List UInt8))))).2.2)) = true from decide_eq_true (Nat.le_of_eq (Nat.zero_add _))) (all_t c20 (all_f c17 (all_f c17 (all_f c17 (all_nf c24 (all_t rfl all_nil)))))))))))))))))))) ?_, by simp, (wkR.tup (wkVs.cons (wkV.one (wk1.eq rfl)) (wkVs.cons (wkV.one (wk1.eq rfl)) wkVs.nil))), trivial⟩
                            intro p hp p2 hq
                            rcases List.mem_cons.1 hp with rfl | hp
                            · skip
                              have h3 := l16_0_ok m (m + 24) x0 ((List.drop 1 (List.take (List.length x0) x0))) (([] : List ((List UInt8) × (List UInt8)))) _ (some_getD (d := l16_0D) c10)
                              rw [eq_of_beq c16] at h3
                              exact Eq.trans (Eq.mp (by kernel_rfl) h3) hq
                            cases hp
                        · skip
                          cases h
                    · skip
                      cases h
        · skip
          cases h
      · skip
        refine ite_cases h (fun c9 h => ?_) (fun c9 h => ?_)
        · skip
          refine ite_cases h (fun c10 h => ?_) (fun c10 h => ?_)
          · skip
            cases h
            refine ⟨(.tup [(.d (.sl (.pair .str .str) ([] : List ((List UInt8) × (List UInt8))))), (.d (.bool false))]), [], runT_ok (LS := (fun k => if k = 49 then some (l16_0E x0 ((l16_0R m (m + 24) x0 x0 (([] : List ((List UInt8) × (List UInt8))))).2.1) ((l16_0R m (m + 24) x0 x0 (([] : List ((List UInt8) × (List UInt8))))).2.2) 0) else none)) (fn := fn16) (vis := [(49, l16_0H x0 x0 (([] : List ((List UInt8) × (List UInt8)))), l16_0B x0 x0 (([] : List ((List UInt8) × (List UInt8)))))]) (by kernel_rfl) rfl (by kernel_rfl) (M.run_of_path _ [true, true, true, true, true, true, true, true, false, true] _ _ (by kernel_rfl) (all_t c0 (all_t c0 (all_t c0 (all_t c0 (all_t c4 (all_t c0 (all_t c0 (all_t c0 (all_f c8 (all_t rfl all_nil))))))))))) ?_, by simp, (wkR.tup (wkVs.cons (wkV.one (wk1.eq rfl)) (wkVs.cons (wkV.one (wk1.eq rfl)) wkVs.nil))), trivial⟩
            intro p hp p2 hq
            rcases List.mem_cons.1 hp with rfl | hp
            · skip
              have h3 := l16_0_ok m (m + 24) x0 x0 (([] : List ((List UInt8) × (List UInt8)))) _ (some_getD (d := l16_0D) c9)
              rw [eq_of_beq c10] at h3
              exact Eq.trans (Eq.mp (by kernel_rfl) h3) hq
            cases hp
          · skip
            refine ite_cases h (fun c11 h => ?_) (fun c11 h => ?_)
            · skip
              cases h
              refine ⟨(.tup [(.d (.sl (.pair .str .str) ([] : List ((List UInt8) × (List UInt8))))), (.d (.bool false))]), [], runT_ok (LS := (fun k => if k = 49 then some (l16_0E x0 ((l16_0R m (m + 24) x0 x0 (([] : List ((List UInt8) × (List UInt8))))).2.1) ((l16_0R m (m + 24) x0 x0 (([] : List ((List UInt8) × (List UInt8))))).2.2) 1) else none)) (fn := fn16) (vis := [(49, l16_0H x0 x0 (([] : List ((List UInt8) × (List UInt8)))), l16_0B x0 x0 (([] : List ((List UInt8) × (List UInt8)))))]) (by kernel_rfl) rfl (by kernel_rfl) (M.run_of_path _ [true, true, true, true, true, true, true, true, false, true] _ _ (by kernel_rfl) (all_t c0 (all_t c0 (all_t c0 (all_t c0 (all_t c4 (all_t c0 (all_t c0 (all_t c0 (all_f c8 (all_t rfl all_nil))))))))))) ?_, by simp, (wkR.tup (wkVs.cons (wkV.one (wk1.eq rfl)) (wkVs.cons (wkV.one (wk1.eq rfl)) wkVs.nil))), trivial⟩
              intro p hp p2 hq
              rcases List.mem_cons.1 hp with rfl | hp
              · skip
                have h3 := l16_0_ok m (m + 24) x0 x0 (([] : List ((List UInt8) × (List UInt8)))) _ (some_getD (d := l16_0D) c9)
                rw [eq_of_beq c11] at h3
                exact Eq.trans (Eq.mp (by kernel_rfl) h3) hq
              cases hp
            · skip
              refine ite_cases h (fun c12 h => ?_) (fun c12 h => ?_)
              · skip
                cases h
                refine ⟨(.tup [(.d (.sl (.pair .str .str) ([] : List ((List UInt8) × (List UInt8))))), (.d (.bool false))]), [], runT_ok (LS := (fun k => if k = 49 then some (l16_0E x0 ((l16_0R m (m + 24) x0 x0 (([] : List ((List UInt8) × (List UInt8))))).2.1) ((l16_0R m (m + 24) x0 x0 (([] : List ((List UInt8) × (List UInt8))))).2.2) 2) else none)) (fn := fn16) (vis := [(49, l16_0H x0 x0 (([] : List ((List UInt8) × (List UInt8)))), l16_0B x0 x0 (([] : List ((List UInt8) × (List UInt8)))))]) (by kernel_rfl) rfl (by kernel_rfl) (M.run_of_path _ [true, true, true, true, true, true, true, true, false, true] _ _ (by kernel_rfl) (all_t c0 (all_t c0 (all_t c0 (all_t c0 (all_t c4 (all_t c0 (all_t c0 (all_t c0 (all_f c8 (all_t rfl all_nil))))))))))) ?_, by simp, (wkR.tup (wkVs.cons (wkV.one (wk1.eq rfl)) (wkVs.cons (wkV.one (wk1.eq rfl)) wkVs.nil))), trivial⟩
                intro p hp p2 hq
                rcases List.mem_cons.1 hp with rfl | hp
                · skip
                  have h3 := l16_0_ok m (m + 24) x0 x0 (([] : List ((List UInt8) × (List UInt8)))) _ (some_getD (d := l16_0D) c9)
                  rw [eq_of_beq c12] at h3
                  exact Eq.trans (Eq.mp (by kernel_rfl) h3) hq
                cases hp
              · skip
                refine ite_cases h (fun c13 h => ?_) (fun c13 h => ?_)
                · skip
                  refine ite_cases h (fun c14 h => ?_) (fun c14 h => ?_)
                  · skip
                    cases h
                    refine ⟨(.tup [(.d (.sl (.pair .str .str) ([] : List ((List UInt8) × (List UInt8))))), (.d (.bool false))]), [], runT_ok (LS := (fun k => if k = 49 then some (l16_0E x0 ((l16_0R m (m + 24) x0 x0 (([] : List ((List UInt8) × (List UInt8))))).2.1) ((l16_0R m (m + 24) x0 x0 (([] : List ((List UInt8) × (List UInt8))))).2.2) 3) else none)) (fn := fn16) (vis := [(49, l16_0H x0 x0 (([] : List ((List UInt8) × (List UInt8)))), l16_0B x0 x0 (([] : List ((List UInt8) × (List UInt8)))))]) (by kernel_rfl) rfl (by kernel_rfl) (M.run_of_path _ [true, true, true, true, true, true, true, true, false, true, true, true, true, true, true, true] _ _ (by kernel_rfl) (all_t c0 (all_t c0 (all_t c0 (all_t c0 (all_t c4 (all_t c0 (all_t c0 (all_t c0 (all_f c8 (all_t c14 (all_t c14 (all_t c14 (all_t c14 (all_t c14 (all_t rfl (all_t rfl all_nil))))))))))))))))) ?_, by simp, (wkR.tup (wkVs.cons (wkV.one (wk1.eq rfl)) (wkVs.cons (wkV.one (wk1.eq rfl)) wkVs.nil))), trivial⟩
                    intro p hp p2 hq
                    rcases List.mem_cons.1 hp with rfl | hp
                    · skip
                      have h3 := l16_0_ok m (m + 24) x0 x0 (([] : List ((List UInt8) × (List UInt8)))) _ (some_getD (d := l16_0D) c9)
                      rw [eq_of_beq c13] at h3
                      exact Eq.trans (Eq.mp (by kernel_rfl) h3) hq
                    cases hp
                  · skip
                    refine ite_cases h (fun c17 h => ?_) (fun c17 h => ?_)
                    · skip
                      refine ite_cases h (fun c21 h => ?_) (fun c21 h => ?_)
                      · skip
                        cases h
                        refine ⟨(.tup [(.d (.sl (.pair .str .str) (List.take (List.length (l16_0R m (m + 24) x0 x0 (([] : List ((List UInt8) × (List UInt8))))).2.2) (List.drop 0 (l16_0R m (m + 24) x0 x0 (([] : List ((List UInt8) × (List UInt8))))).2.2)))), (.d (.bool true))]), [], runT_ok (LS := (fun k => if k = 49 then some (l16_0E x0 ((l16_0R m (m + 24) x0 x0 (([] : List ((List UInt8) × (List UInt8))))).2.1) ((l16_0R m (m + 24) x0 x0 (([] : List ((List UInt8) × (List UInt8))))).2.2) 3) else none)) (fn := fn16) (vis := [(49, l16_0H x0 x0 (([] : List ((List UInt8) × (List UInt8)))), l16_0B x0 x0 (([] : List ((List UInt8) × (List UInt8)))))]) (by kernel_rfl) rfl (by kernel_rfl) (M.run_of_path _ [true, true, true, true, true, true, true, true, false, false, false, true, true, false, false, false, false, true] _ _ (by kernel_rfl) (all_t c0 (all_t c0 (all_t c0 (all_t c0 (all_t c4 (all_t c0 (all_t c0 (all_t c0 (all_f c8 (all_f c14 (all_f c14 (all_t (show decide ((0 + (List.length (l16_0R m (m + 24) x0 x0 (([] : List ((List UInt8) × (List UInt8))))).2.2)) ≤ (List.length (l16_0R m (m + 24) x0 x0 (([] : List ((List UInt8) × (List UInt8))))).2.2)) = true from decide_eq_true (Nat.le_of_eq (Nat.zero_add _))) (all_t c17 (all_f c14 (all_f c14 (all_f c14 (all_nt c21 (all_t (show decide ((0 + (List.length (l16_0R m (m + 24) x0 x0 (([] : List ((List UInt8) × (List UInt8))))).2.2)) ≤ (List.length (l16_0R m (m + 24) x0 x0 (([] : List ((List UInt8) × (List UInt8))))).2.2)) = true from decide_eq_true (Nat.le_of_eq (Nat.zero_add _))) all_nil))))))))))))))))))) ?_, by simp, (wkR.tup (wkVs.cons (wkV.one (wk1.eq rfl)) (wkVs.cons (wkV.one (wk1.eq rfl)) wkVs.nil))), trivial⟩
                        intro p hp p2 hq
                        rcases List.mem_cons.1 hp with rfl | hp
                        · skip
                          have h3 := l16_0_ok m (m + 24) x0 x0 (([] : List ((List UInt8) × (List UInt8)))) _ (some_getD (d := l16_0D) c9)
                          rw [eq_of_beq c13] at h3
                          exact Eq.trans (Eq.mp (by kernel_rfl) h3) hq
                        cases hp
                      · skip
                        cases h
                        refine ⟨(.tup [(.d (.sl (.pair .str .str) ([] : List ((List UInt8) × (List UInt8))))), (.d (.bool false))]), [], runT_ok (LS := (fun k => if k = 49 then some (l16_0E x0 ((l16_0R m (m + 24) x0 x0 (([] : List ((List UInt8) × (List UInt8))))).2.1) ((l16_0R m (m + 24) x0 x0 (([] : List ((List UInt8) × (List UInt8))))).2.2) 3) else none)) (fn := fn16) (vis := [(49, l16_0H x0 x0 (([] : List ((List UInt8) × (List UInt8)))), l16_0B x0 x0 (([] : List ((List UInt8) × (List UInt8)))))]) (by kernel_rfl) rfl (by kernel_rfl) (M.run_of_path _ [true, true, true, true, true, true, true, true, false, false, false, true, true, false, false, false, true, true] _ _ (by kernel_rfl) (all_t c0 (all_t c0 (all_t c0 (all_t c0 (all_t c4 (all_t c0 (all_t c0 (all_t c0 (all_f c8 (all_f c14 (all_f c14 (all_t (show decide ((0 + (List.length (l16_0R m (m + 24) x0 x0 (([] : List ((List UInt8) × (List UInt8))))).2.2)) ≤ (List.length (l16_0R m (m + 24) x0 x0 (([] : List ((List UInt8) × (List UInt8))))).2.2)) = true from decide_eq_true (Nat.le_of_eq (Nat.zero_add _))) (all_t c17 (all_f c14 (all_f c14 (all_f c14 (all_nf c21 (all_t rfl all_nil))))))))))))))))))) ?_, by simp, (wkR.tup (wkVs.cons (wkV.one (wk1.eq rfl)) (wkVs.cons (wkV.one (wk1.eq rfl)) wkVs.nil))), trivial⟩
                        intro p hp p2 hq
                        rcases List.mem_cons.1 hp with rfl | hp
                        · skip
                          have h3 := l16_0_ok m (m + 24) x0 x0 (([] : List ((List UInt8) × (List UInt8)))) _ (some_getD (d := l16_0D) c9)
                          rw [eq_of_beq c13] at h3
                          exact Eq.trans (Eq.mp (by kernel_rfl) h3) hq
                        cases hp
                    · skip
                      cases h
                · skip
                  refine ite_cases h (fun c14 h => ?_) (fun c14 h => ?_)
                  · skip
                    refine ite_cases h (fun c15 h => ?_) (fun c15 h => ?_)
                    · skip
                      cases h
                      refine ⟨(.tup [(.d (.sl (.pair .str .str) ([] : List ((List UInt8) × (List UInt8))))), (.d (.bool false))]), [], runT_ok (LS := (fun k => if k = 49 then some (l16_0E x0 ((l16_0R m (m + 24) x0 x0 (([] : List ((List UInt8) × (List UInt8))))).2.1) ((l16_0R m (m + 24) x0 x0 (([] : List ((List UInt8) × (List UInt8))))).2.2) 4) else none)) (fn := fn16) (vis := [(49, l16_0H x0 x0 (([] : List ((List UInt8) × (List UInt8)))), l16_0B x0 x0 (([] : List ((List UInt8) × (List UInt8)))))]) (by kernel_rfl) rfl (by kernel_rfl) (M.run_of_path _ [true, true, true, true, true, true, true, true, false, true, true, true, true, true, true, true] _ _ (by kernel_rfl) (all_t c0 (all_t c0 (all_t c0 (all_t c0 (all_t c4 (all_t c0 (all_t c0 (all_t c0 (all_f c8 (all_t c15 (all_t c15 (all_t c15 (all_t c15 (all_t c15 (all_t rfl (all_t rfl all_nil))))))))))))))))) ?_, by simp, (wkR.tup (wkVs.cons (wkV.one (wk1.eq rfl)) (wkVs.cons (wkV.one (wk1.eq rfl)) wkVs.nil))), trivial⟩
                      intro p hp p2 hq
                      rcases List.mem_cons.1 hp with rfl | hp
                      · skip
                        have h3 := l16_0_ok m (m + 24) x0 x0 (([] : List ((List UInt8) × (List UInt8)))) _ (some_getD (d := l16_0D) c9)
                        rw [eq_of_beq c14] at h3
                        exact Eq.trans (Eq.mp (by kernel_rfl) h3) hq
                      cases hp
                    · skip
                      refine ite_cases h (fun c18 h => ?_) (fun c18 h => ?_)
                      · skip
                        refine ite_cases h (fun c22 h => ?_) (fun c22 h => ?_)
                        · skip
                          cases h
                          refine ⟨(.tup [(.d (.sl (.pair .str .str) (List.take (List.length (l16_0R m (m + 24) x0 x0 (([] : List ((List UInt8) × (List UInt8))))).2.2) (List.drop 0 (l16_0R m (m + 24) x0 x0 (([] : List ((List UInt8) × (List UInt8))))).2.2)))), (.d (.bool true))]), [], runT_ok (LS := (fun k => if k = 49 then some (l16_0E x0 ((l16_0R m (m + 24) x0 x0 (([] : List ((List UInt8) × (List UInt8))))).2.1) ((l16_0R m (m + 24) x0 x0 (([] : List ((List UInt8) × (List UInt8))))).2.2) 4) else none)) (fn := fn16) (vis := [(49, l16_0H x0 x0 (([] : List ((List UInt8) × (List UInt8)))), l16_0B x0 x0 (([] : List ((List UInt8) × (List UInt8)))))]) (by kernel_rfl) rfl (by kernel_rfl) (M.run_of_path _ [true, true, true, true, true, true, true, true, false, false, false, true, true, false, false, false, false, true] _ _ (by kernel_rfl) (all_t c0 (all_t c0 (all_t c0 (all_t c0 (all_t c4 (all_t c0 (all_t c0 (all_t c0 (all_f c8 (all_f c15 (all_f c15 (all_t (show decide ((0 + (List.length (l16_0R m (m + 24) x0 x0 (([] : List ((List UInt8) × (List UInt8))))).2.2)) ≤ (List.length (l16_0R m (m + 24) x0 x0 (([] : List ((List UInt8) × (List UInt8))))).2.2)) = true from decide_eq_true (Nat.le_of_eq (Nat.zero_add _))) (all_t c18 (all_f c15 (all_f c15 (all_f c15 (all_nt c22 (all_t (show decide ((0 + (List.length (l16_0R m (m + 24) x0 x0 (([] : List ((List UInt8) × (List UInt8))))).2.2)) ≤ (List.length (l16_0R m (m + 24) x0 x0 (([] : List ((List UInt8) × (List UInt8))))).2.2)) = true from decide_eq_true (Nat.le_of_eq (Nat.zero_add _))) all_nil))))))))))))))))))) ?_, by simp, (wkR.tup (wkVs.cons (wkV.one (wk1.eq rfl)) (wkVs.cons (wkV.one (wk1.eq rfl)) wkVs.nil))), trivial⟩
                          intro p hp p2 hq
                          rcases List.mem_cons.1 hp with rfl | hp
                          · skip
                            have h3 := l16_0_ok m (m + 24) x0 x0 (([] : List ((List UInt8) × (List UInt8)))) _ (some_getD (d := l16_0D) c9)
                            rw [eq_of_beq c14] at h3
                            exact Eq.trans (Eq.mp (by kernel_rfl) h3) hq
                          cases hp
                        · skip
                          cases h
                          refine ⟨(.tup [(.d (.sl (.pair .str .str) ([] : List ((List UInt8) × (List UInt8))))), (.d (.bool false))]), [], runT_ok (LS := (fun k => if k = 49 then some (l16_0E x0 ((l16_0R m (m + 24) x0 x0 (([] : List ((List UInt8) × (List UInt8))))).2.1) ((l16_0R m (m + 24) x0 x0 (([] : List ((List UInt8) × (List UInt8))))).2.2) 4) else none)) (fn := fn16) (vis := [(49, l16_0H x0 x0 (([] : List ((List UInt8) × (List UInt8)))), l16_0B x0 x0 (([] : List ((List UInt8) × (List UInt8)))))]) (by kernel_rfl) rfl (by kernel_rfl) (M.run_of_path _ [true, true, true, true, true, true, true, true, false, false, false, true, true, false, false, false, true, true] _ _ (by kernel_rfl) (all_t c0 (all_t c0 (all_t c0 (all_t c0 (all_t c4 (all_t c0 (all_t c0 (all_t c0 (all_f c8 (all_f c15 (all_f c15 (all_t (show decide ((0 + (List.length (l16_0R m (m + 24) x0 x0 (([] : List ((List UInt8) × (List UInt8))))).2.2)) ≤ (List.length (l16_0R m (m + 24) x0 x0 (([] : List ((List UInt8) × (List UInt8))))).2.2)) = true from decide_eq_true (Nat.le_of_eq (Nat.zero_add _))) (all_t c18 (all_f c15 (all_f c15 (all_f c15 (all_nf c22 (all_t rfl all_nil))))))))))))))))))) ?_, by simp, (wkR.tup (wkVs.cons (wkV.one (wk1.eq rfl)) (wkVs.cons (wkV.one (wk1.eq rfl)) wkVs.nil))), trivial⟩
                          intro p hp p2 hq
                          rcases List.mem_cons.1 hp with rfl | hp
                          · skip
                            have h3 := l16_0_ok m (m + 24) x0 x0 (([] : List ((List UInt8) × (List UInt8)))) _ (some_getD (d := l16_0D) c9)
                            rw [eq_of_beq c14] at h3
                            exact Eq.trans (Eq.mp (by kernel_rfl) h3) hq
                          cases hp
                      · skip
                        cases h
                  · skip
                    refine ite_cases h (fun c15 h => ?_) (fun c15 h => ?_)
                    · skip
                      refine ite_cases h (fun c16 h => ?_) (fun c16 h => ?_)
                      · skip
                        cases h
                        refine ⟨(.tup [(.d (.sl (.pair .str .str) ([] : List ((List UInt8) × (List UInt8))))), (.d (.bool false))]), [], runT_ok (LS := (fun k => if k = 49 then some (l16_0E x0 ((l16_0R m (m + 24) x0 x0 (([] : List ((List UInt8) × (List UInt8))))).2.1) ((l16_0R m (m + 24) x0 x0 (([] : List ((List UInt8) × (List UInt8))))).2.2) 5) else none)) (fn := fn16) (vis := [(49, l16_0H x0 x0 (([] : List ((List UInt8) × (List UInt8)))), l16_0B x0 x0 (([] : List ((List UInt8) × (List UInt8)))))]) (by kernel_rfl) rfl (by kernel_rfl) (M.run_of_path _ [true, true, true, true, true, true, true, true, false, true, true, true, true, true, true, true] _ _ (by kernel_rfl) (all_t c0 (all_t c0 (all_t c0 (all_t c0 (all_t c4 (all_t c0 (all_t c0 (all_t c0 (all_f c8 (all_t c16 (all_t c16 (all_t c16 (all_t c16 (all_t c16 (all_t rfl (all_t rfl all_nil))))))))))))))))) ?_, by simp, (wkR.tup (wkVs.cons (wkV.one (wk1.eq rfl)) (wkVs.cons (wkV.one (wk1.eq rfl)) wkVs.nil))), trivial⟩
                        intro p hp p2 hq
                        rcases List.mem_cons.1 hp with rfl | hp
                        · skip
                          have h3 := l16_0_ok m (m + 24) x0 x0 (([] : List ((List UInt8) × (List UInt8)))) _ (some_getD (d := l16_0D) c9)
                          rw [eq_of_beq c15] at h3
                          exact Eq.trans (Eq.mp (by kernel_rfl) h3) hq
                        cases hp
                      · skip
                        refine ite_cases h (fun c19 h => ?_) (fun c19 h => ?_)
                        · skip
                          refine ite_cases h (fun c23 h => ?_) (fun c23 h => ?_)
                          · skip
                            cases h
                            refine ⟨(.tup [(.d (.sl (.pair .str .str) (List.take (List.length (l16_0R m (m + 24) x0 x0 (([] : List ((List UInt8) × (List UInt8))))).2.2) (List.drop 0 (l16_0R m (m + 24) x0 x0 (([] : List ((List UInt8) × (List UInt8))))).2.2)))), (.d (.bool true))]), [], runT_ok (LS := (fun k => if k = 49 then some (l16_0E x0 ((l16_0R m (m + 24) x0 x0 (([] : List ((List UInt8) × (List UInt8))))).2.1) ((l16_0R m (m + 24) x0 x0 (([] : List ((List UInt8) × (List UInt8))))).2.2) 5) else none)) (fn := fn16) (vis := [(49, l16_0H x0 x0 (([] : List ((List UInt8) × (List UInt8)))), l16_0B x0 x0 (([] : List ((List UInt8) × (List UInt8)))))]) (by kernel_rfl) rfl (by kernel_rfl) (M.run_of_path _ [true, true, true, true, true, true, true, true, false, false, false, true, true, false, false, false, false, true] _ _ (by kernel_rfl) (all_t c0 (all_t c0 (all_t c0 (all_t c0 (all_t c4 (all_t c0 (all_t c0 (all_t c0 (all_f c8 (all_f c16 (all_f c16 (all_t (show decide ((0 + (List.length (l16_0R m (m + 24) x0 x0 (([] : List ((List UInt8) × (List UInt8))))).2.2)) ≤ (List.length (l16_0R m (m + 24) x0 x0 (([] : List ((List UInt8) × (List UInt8))))).2.2)) = true from decide_eq_true (Nat.le_of_eq (Nat.zero_add _))) (all_t c19 (all_f c16 (all_f c16 (all_f c16 (all_nt c23 (all_t (show decide ((0 + (List.length (l16_0R m (m + 24) x0 x0 (([] : List ((List UInt8) × (List UInt8))))).2.2)) ≤ (List.length (l16_0R m (m + 24) x0 x0 (([] : List ((List UInt8) × (List UInt8))))).2.2)) = true from decide_eq_true (Nat.le_of_eq (Nat.zero_add _))) all_nil))))))))))))))))))) ?_, by simp, (wkR.tup (wkVs.cons (wkV.one (wk1.eq rfl)) (wkVs.cons (wkV.one (wk1.eq rfl)) wkVs.nil))), trivial⟩
                            intro p hp p2 hq
                            rcases List.mem_cons.1 hp with rfl | hp
                            · skip
                              have h3 := l16_0_ok m (m + 24) x0 x0 (([] : List ((List UInt8) × (List UInt8)))) _ (some_getD (d := l16_0D) c9)
                              rw [eq_of_beq c15] at h3
                              exact Eq.trans (Eq.mp (by kernel_rfl) h3) hq
                            cases hp
                          · skip
                            cases h
                            refine ⟨(.tup [(.d (.sl (.pair .str .str) ([] : List ((List UInt8) × (List UInt8))))), (.d (.bool false))]), [], runT_ok (LS := (fun k => if k = 49 then some (l16_0E x0 ((l16_0R m (m + 24) x0 x0 (([] : List ((List UInt8) × (List UInt8))))).2.1) ((l16_0R m (m + 24) x0 x0 (([] : List ((List UInt8) × (List UInt8))))).2.2) 5) else none)) (fn := fn16) (vis := [(49, l16_0H x0 x0 (([] : List ((List UInt8) × (List UInt8)))), l16_0B x0 x0 (([] : List ((List UInt8) × (List UInt8)))))]) (by kernel_rfl) rfl (by kernel_rfl) (M.run_of_path _ [true, true, true, true, true, true, true, true, false, false, false, true, true, false, false, false, true, true] _ _ (by kernel_rfl) (all_t c0 (all_t c0 (all_t c0 (all_t c0 (all_t c4 (all_t c0 (all_t c0 (all_t c0 (all_f c8 (all_f c16 (all_f c16 (all_t (show decide ((0 + (List.length (l16_0R m (m + 24) x0 x0 (([] : List ((List UInt8) × (List UInt8))))).2.2)) ≤ (List.length (l16_0R m (m + 24) x0 x0 (([] : List ((List UInt8) × (List UInt8))))).2.2)) = true from decide_eq_true (Nat.le_of_eq (Nat.zero_add _))) (all_t c19 (all_f c16 (all_f c16 (all_f c16 (all_nf c23 (all_t rfl all_nil))))))))))))))))))) ?_, by simp, (wkR.tup (wkVs.cons (wkV.one (wk1.eq rfl)) (wkVs.cons (wkV.one (wk1.eq rfl)) wkVs.nil))), trivial⟩
                            intro p hp p2 hq
                            rcases List.mem_cons.1 hp with rfl | hp
                            · skip
                              have h3 := l16_0_ok m (m + 24) x0 x0 (([] : List ((List UInt8) × (List UInt8)))) _ (some_getD (d := l16_0D) c9)
                              rw [eq_of_beq c15] at h3
                              exact Eq.trans (Eq.mp (by kernel_rfl) h3) hq
                            cases hp
                        · skip
                          cases h
                    · skip
                      cases h
        · skip
          cases h
    · skip
      cases h
  · skip
    refine ite_cases h (fun c8 h => ?_) (fun c8 h => ?_)
    · skip
      refine ite_cases h (fun c9 h => ?_) (fun c9 h => ?_)
      · skip
        cases h
        refine ⟨(.tup [(.d (.sl (.pair .str .str) ([] : List ((List UInt8) × (List UInt8))))), (.d (.bool false))]), [], runT_ok (LS := (fun k => if k = 49 then some (l16_0E x0 ((l16_0R m (m + 24) x0 x0 (([] : List ((List UInt8) × (List UInt8))))).2.1) ((l16_0R m (m + 24) x0 x0 (([] : List ((List UInt8) × (List UInt8))))).2.2) 0) else none)) (fn := fn16) (vis := [(49, l16_0H x0 x0 (([] : List ((List UInt8) × (List UInt8)))), l16_0B x0 x0 (([] : List ((List UInt8) × (List UInt8)))))]) (by kernel_rfl) rfl (by kernel_rfl) (M.run_of_path _ [false, false, false, false, false, false, false, false, true] _ _ (by kernel_rfl) (all_f c0 (all_f c0 (all_f c0 (all_f c0 (all_f c0 (all_f c0 (all_f c0 (all_f Bool.false_ne_true (all_t rfl all_nil)))))))))) ?_, by simp, (wkR.tup (wkVs.cons (wkV.one (wk1.eq rfl)) (wkVs.cons (wkV.one (wk1.eq rfl)) wkVs.nil))), trivial⟩
        intro p hp p2 hq
        rcases List.mem_cons.1 hp with rfl | hp
        · skip
          have h3 := l16_0_ok m (m + 24) x0 x0 (([] : List ((List UInt8) × (List UInt8)))) _ (some_getD (d := l16_0D) c8)
          rw [eq_of_beq c9] at h3
          exact Eq.trans (Eq.mp (by kernel_rfl) h3) hq
        cases hp
      · skip
        refine ite_cases h (fun c10 h => ?_) (fun c10 h => ?_)
        · skip
          cases h
          refine ⟨(.tup [(.d (.sl (.pair .str .str) ([] : List ((List UInt8) × (List UInt8))))), (.d (.bool false))]), [], runT_ok (LS := (fun k => if k = 49 then some (l16_0E x0 ((l16_0R m (m + 24) x0 x0 (([] : List ((List UInt8) × (List UInt8))))).2.1) ((l16_0R m (m + 24) x0 x0 (([] : List ((List UInt8) × (List UInt8))))).2.2) 1) else none)) (fn := fn16) (vis := [(49, l16_0H x0 x0 (([] : List ((List UInt8) × (List UInt8)))), l16_0B x0 x0 (([] : List ((List UInt8) × (List UInt8)))))]) (by kernel_rfl) rfl (by kernel_rfl) (M.run_of_path _ [false, false, false, false, false, false, false, false, true] _ _ (by kernel_rfl) (all_f c0 (all_f c0 (all_f c0 (all_f c0 (all_f c0 (all_f c0 (all_f c0 (all_f Bool.false_ne_true (all_t rfl all_nil)))))))))) ?_, by simp, (wkR.tup (wkVs.cons (wkV.one (wk1.eq rfl)) (wkVs.cons (wkV.one (wk1.eq rfl)) wkVs.nil))), trivial⟩
          intro p hp p2 hq
          rcases List.mem_cons.1 hp with rfl | hp
          · skip
            have h3 := l16_0_ok m (m + 24) x0 x0 (([] : List ((List UInt8) × (List UInt8)))) _ (some_getD (d := l16_0D) c8)
            rw [eq_of_beq c10] at h3
            exact Eq.trans (Eq.mp (by kernel_rfl) h3) hq
          cases hp
        · skip
          refine ite_cases h (fun c11 h => ?_) (fun c11 h => ?_)
          · skip
            cases h
            refine ⟨(.tup [(.d (.sl (.pair .str .str) ([] : List ((List UInt8) × (List UInt8))))), (.d (.bool false))]), [], runT_ok (LS := (fun k => if k = 49 then some (l16_0E x0 ((l16_0R m (m + 24) x0 x0 (([] : List ((List UInt8) × (List UInt8))))).2.1) ((l16_0R m (m + 24) x0 x0 (([] : List ((List UInt8) × (List UInt8))))).2.2) 2) else none)) (fn := fn16) (vis := [(49, l16_0H x0 x0 (([] : List ((List UInt8) × (List UInt8)))), l16_0B x0 x0 (([] : List ((List UInt8) × (List UInt8)))))]) (by kernel_rfl) rfl (by kernel_rfl) (M.run_of_path _ [false, false, false, false, false, false, false, false, true] _ _ (by kernel_rfl) (all_f c0 (all_f c0 (all_f c0 (all_f c0 (all_f c0 (all_f c0 (all_f c0 (all_f Bool.false_ne_true (all_t rfl all_nil)))))))))) ?_, by simp, (wkR.tup (wkVs.cons (wkV.one (wk1.eq rfl)) (wkVs.cons (wkV.one (wk1.eq rfl)) wkVs.nil))), trivial⟩
            intro p hp p2 hq
            rcases List.mem_cons.1 hp with rfl | hp
            · skip
              have h3 := l16_0_ok m (m + 24) x0 x0 (([] : List ((List UInt8) × (List UInt8)))) _ (some_getD (d := l16_0D) c8)
              rw [eq_of_beq c11] at h3
              exact Eq.trans (Eq.mp (by kernel_rfl) h3) hq
            cases hp
          · skip
            refine ite_cases h (fun c12 h => ?_) (fun c12 h => ?_)
            · skip
              refine ite_cases h (fun c13 h => ?_) (fun c13 h => ?_)
              · skip
                cases h
                refine ⟨(.tup [(.d (.sl (.pair .str .str) ([] : List ((List UInt8) × (List UInt8))))), (.d (.bool false))]), [], runT_ok (LS := (fun k => if k = 49 then some (l16_0E x0 ((l16_0R m (m + 24) x0 x0 (([] : List ((List UInt8) × (List UInt8))))).2.1) ((l16_0R m (m + 24) x0 x0 (([] : List ((List UInt8) × (List UInt8))))).2.2) 3) else none)) (fn := fn16) (vis := [(49, l16_0H x0 x0 (([] : List ((List UInt8) × (List UInt8)))), l16_0B x0 x0 (([] : List ((List UInt8) × (List UInt8)))))]) (by kernel_rfl) rfl (by kernel_rfl) (M.run_of_path _ [false, false, false, false, false, false, false, false, true, true, true, true, true, true, true] _ _ (by kernel_rfl) (all_f c0 (all_f c0 (all_f c0 (all_f c0 (all_f c0 (all_f c0 (all_f c0 (all_f Bool.false_ne_true (all_t c13 (all_t c13 (all_t c13 (all_t c13 (all_t c13 (all_t rfl (all_t rfl all_nil)))))))))))))))) ?_, by simp, (wkR.tup (wkVs.cons (wkV.one (wk1.eq rfl)) (wkVs.cons (wkV.one (wk1.eq rfl)) wkVs.nil))), trivial⟩
                intro p hp p2 hq
                rcases List.mem_cons.1 hp with rfl | hp
                · skip
                  have h3 := l16_0_ok m (m + 24) x0 x0 (([] : List ((List UInt8) × (List UInt8)))) _ (some_getD (d := l16_0D) c8)
                  rw [eq_of_beq c12] at h3
                  exact Eq.trans (Eq.mp (by kernel_rfl) h3) hq
                cases hp
              · skip
                refine ite_cases h (fun c16 h => ?_) (fun c16 h => ?_)
                · skip
                  refine ite_cases h (fun c20 h => ?_) (fun c20 h => ?_)
                  · skip
                    cases h
                    refine ⟨(.tup [(.d (.sl (.pair .str .str) (List.take (List.length (l16_0R m (m + 24) x0 x0 (([] : List ((List UInt8) × (List UInt8))))).2.2) (List.drop 0 (l16_0R m (m + 24) x0 x0 (([] : List ((List UInt8) × (List UInt8))))).2.2)))), (.d (.bool true))]), [], runT_ok (LS := (fun k => if k = 49 then some (l16_0E x0 ((l16_0R m (m + 24) x0 x0 (([] : List ((List UInt8) × (List UInt8))))).2.1) ((l16_0R m (m + 24) x0 x0 (([] : List ((List UInt8) × (List UInt8))))).2.2) 3) else none)) (fn := fn16) (vis := [(49, l16_0H x0 x0 (([] : List ((List UInt8) × (List UInt8)))), l16_0B x0 x0 (([] : List ((List UInt8) × (List UInt8)))))]) (by kernel_rfl) rfl (by kernel_rfl) (M.run_of_path _ [false, false, false, false, false, false, false, false, false, false, true, true, false, false, false, false, true] _ _ (by kernel_rfl) (all_f c0 (all_f c0 (all_f c0 (all_f c0 (all_f c0 (all_f c0 (all_f c0 (all_f Bool.false_ne_true (all_f c13 (all_f c13 (all_t (show decide ((0 + (List.length (l16_0R m (m + 24) x0 x0 (([] : List ((List UInt8) × (List UInt8))))).2.2)) ≤ (List.length (l16_0R m (m + 24) x0 x0 (([] : List ((List UInt8) × (List UInt8))))).2.2)) = true from decide_eq_true (Nat.le_of_eq (Nat.zero_add _))) (all_t c16 (all_f c13 (all_f c13 (all_f c13 (all_nt c20 (all_t (show decide ((0 + (List.length (l16_0R m (m + 24) x0 x0 (([] : List ((List UInt8) × (List UInt8))))).2.2)) ≤ (List.length (l16_0R m (m + 24) x0 x0 (([] : List ((List UInt8) × (List UInt8))))).2.2)) = true from decide_eq_true (Nat.le_of_eq (Nat.zero_add _))) all_nil)))))))))))))))))) ?_, by simp, (wkR.tup (wkVs.cons (wkV.one (wk1.eq rfl)) (wkVs.cons (wkV.one (wk1.eq rfl)) wkVs.nil))), trivial⟩
                    intro p hp p2 hq
                    rcases List.mem_cons.1 hp with rfl | hp
                    · skip
                      have h3 := l16_0_ok m (m + 24) x0 x0 (([] : List ((List UInt8) × (List UInt8)))) _ (some_getD (d := l16_0D) c8)
                      rw [eq_of_beq c12] at h3
                      exact Eq.trans (Eq.mp (by kernel_rfl) h3) hq
                    cases hp
                  · skip
                    cases h
                    refine ⟨(.tup [(.d (.sl (.pair .str .str) ([] : List ((List UInt8) × (List UInt8))))), (.d (.bool false))]), [], runT_ok (LS := (fun k => if k = 49 then some (l16_0E x0 ((l16_0R m (m + 24) x0 x0 (([] : List ((List UInt8) × (List UInt8))))).2.1) ((l16_0R m (m + 24) x0 x0 (([] : List ((List UInt8) × (List UInt8))))).2.2) 3) else none)) (fn := fn16) (vis := [(49, l16_0H x0 x0 (([] : List ((List UInt8) × (List UInt8)))), l16_0B x0 x0 (([] : List ((List UInt8) × (List UInt8)))))]) (by kernel_rfl) rfl (by kernel_rfl) (M.run_of_path _ [false, false, false, false, false, false, false, false, false, false, true, true, false, false, false, true, true] _ _ (by kernel_rfl) (all_f c0 (all_f c0 (all_f c0 (all_f c0 (all_f c0 (all_f c0 (all_f c0 (all_f Bool.false_ne_true (all_f c13 (all_f c13 (all_t (show decide ((0 + (List.length (l16_0R m (m + 24) x0 x0 (([] : List ((List UInt8) × (List UInt8))))).2.2)) ≤ (List.length (l16_0R m (m + 24) x0 x0 (([] : List ((List UInt8) × (List UInt8))))).2.2)) = true from decide_eq_true (Nat.le_of_eq (Nat.zero_add _))) (all_t c16 (all_f c13 (all_f c13 (all_f c13 (all_nf c20 (all_t rfl all_nil)))))))))))))))))) ?_, by simp, (wkR.tup (wkVs.cons (wkV.one (wk1.eq rfl)) (wkVs.cons (wkV.one (wk1.eq rfl)) wkVs.nil))), trivial⟩
                    intro p hp p2 hq
                    rcases List.mem_cons.1 hp with rfl | hp
                    · skip
                      have h3 := l16_0_ok m (m + 24) x0 x0 (([] : List ((List UInt8) × (List UInt8)))) _ (some_getD (d := l16_0D) c8)
                      rw [eq_of_beq c12] at h3
                      exact Eq.trans (Eq.mp (by kernel_rfl) h3) hq
                    cases hp
                · skip
                  cases h
            · skip
              refine ite_cases h (fun c13 h => ?_) (fun c13 h => ?_)
              · skip
                refine ite_cases h (fun c14 h => ?_) (fun c14 h => ?_)
                · skip
                  cases h
                  refine ⟨(.tup [(.d (.sl (.pair .str .str) ([] : List ((List UInt8) × (List UInt8))))), (.d (.bool false))]), [], runT_ok (LS := (fun k => if k = 49 then some (l16_0E x0 ((l16_0R m (m + 24) x0 x0 (([] : List ((List UInt8) × (List UInt8))))).2.1) ((l16_0R m (m + 24) x0 x0 (([] : List ((List UInt8) × (List UInt8))))).2.2) 4) else none)) (fn := fn16) (vis := [(49, l16_0H x0 x0 (([] : List ((List UInt8) × (List UInt8)))), l16_0B x0 x0 (([] : List ((List UInt8) × (List UInt8)))))]) (by kernel_rfl) rfl (by kernel_rfl) (M.run_of_path _ [false, false, false, false, false, false, false, false, true, true, true, true, true, true, true] _ _ (by kernel_rfl) (all_f c0 (all_f c0 (all_f c0 (all_f c0 (all_f c0 (all_f c0 (all_f c0 (all_f Bool.false_ne_true (all_t c14 (all_t c14 (all_t c14 (all_t c14 (all_t c14 (all_t rfl (all_t rfl all_nil)))))))))))))))) ?_, by simp, (wkR.tup (wkVs.cons (wkV.one (wk1.eq rfl)) (wkVs.cons (wkV.one (wk1.eq rfl)) wkVs.nil))), trivial⟩
                  intro p hp p2 hq
                  rcases List.mem_cons.1 hp with rfl | hp
                  · skip
                    have h3 := l16_0_ok m (m + 24) x0 x0 (([] : List ((List UInt8) × (List UInt8)))) _ (some_getD (d := l16_0D) c8)
                    rw [eq_of_beq c13] at h3
                    exact Eq.trans (Eq.mp (by kernel_rfl) h3) hq
                  cases hp
                · skip
                  refine ite_cases h (fun c17 h => ?_) (fun c17 h => ?_)
                  · skip
                    refine ite_cases h (fun c21 h => ?_) (fun c21 h => ?_)
                    · skip
                      cases h
                      refine ⟨(.tup [(.d (.sl (.pair .str .str) (List.take (List.length (l16_0R m (m + 24) x0 x0 (([] : List ((List UInt8) × (List UInt8))))).2.2) (List.drop 0 (l16_0R m (m + 24) x0 x0 (([] : List ((List UInt8) × (List UInt8))))).2.2)))), (.d (.bool true))]), [], runT_ok (LS := (fun k => if k = 49 then some (l16_0E x0 ((l16_0R m (m + 24) x0 x0 (([] : List ((List UInt8) × (List UInt8))))).2.1) ((l16_0R m (m + 24) x0 x0 (([] : List ((List UInt8) × (List UInt8))))).2.2) 4) else none)) (fn := fn16) (vis := [(49, l16_0H x0 x0 (([] : List ((List UInt8) × (List UInt8)))), l16_0B x0 x0 (([] : List ((List UInt8) × (List UInt8)))))]) (by kernel_rfl) rfl (by kernel_rfl) (M.run_of_path _ [false, false, false, false, false, false, false, false, false, false, true, true, false, false, false, false, true] _ _ (by kernel_rfl) (all_f c0 (all_f c0 (all_f c0 (all_f c0 (all_f c0 (all_f c0 (all_f c0 (all_f Bool.false_ne_true (all_f c14 (all_f c14 (all_t (show decide ((0 + (List.length (l16_0R m (m + 24) x0 x0 (([] : List ((List UInt8) × (List UInt8))))).2.2)) ≤ (List.length (l16_0R m (m + 24) x0 x0 (([] : List ((List UInt8) × (List UInt8))))).2.2)) = true from decide_eq_true (Nat.le_of_eq (Nat.zero_add _))) (all_t c17 (all_f c14 (all_f c14 (all_f c14 (all_nt c21 (all_t (show decide ((0 + (List.length (l16_0R m (m + 24) x0 x0 (([] : List ((List UInt8) × (List UInt8))))).2.2)) ≤ (List.length (l16_0R m (m + 24) x0 x0 (([] : List ((List UInt8) × (List UInt8))))).2.2)) = true from decide_eq_true (Nat.le_of_eq (Nat.zero_add _))) all_nil)))))))))))))))))) ?_, by simp, (wkR.tup (wkVs.cons (wkV.one (wk1.eq rfl)) (wkVs.cons (wkV.one (wk1.eq rfl)) wkVs.nil))), trivial⟩
                      intro p hp p2 hq
                      rcases List.mem_cons.1 hp with rfl | hp
                      · skip
                        have h3 := l16_0_ok m (m + 24) x0 x0 (([] : List ((List UInt8) × (List UInt8)))) _ (some_getD (d := l16_0D) c8)
                        rw [eq_of_beq c13] at h3
                        exact Eq.trans (Eq.mp (by kernel_rfl) h3) hq
                      cases hp
                    · skip
                      cases h
                      refine ⟨(.tup [(.d (.sl (.pair .str .str) ([] : List ((List UInt8) × (List UInt8))))), (.d (.bool false))]), [], runT_ok (LS := (fun k => if k = 49 then some (l16_0E x0 ((l16_0R m (m + 24) x0 x0 (([] : List ((List UInt8) × (List UInt8))))).2.1) ((l16_0R m (m + 24) x0 x0 (([] : List ((List UInt8) × (List UInt8))))).2.2) 4) else none)) (fn := fn16) (vis := [(49, l16_0H x0 x0 (([] : List ((List UInt8) × (List UInt8)))), l16_0B x0 x0 (([] : List ((List UInt8) × (List UInt8)))))]) (by kernel_rfl) rfl (by kernel_rfl) (M.run_of_path _ [false, false, false, false, false, false, false, false, false, false, true, true, false, false, false, true, true] _ _ (by kernel_rfl) (all_f c0 (all_f c0 (all_f c0 (all_f c0 (all_f c0 (all_f c0 (all_f c0 (all_f Bool.false_ne_true (all_f c14 (all_f c14 (all_t (show decide ((0 + (List.length (l16_0R m (m + 24) x0 x0 (([] : List ((List UInt8) × (List UInt8))))).2.2)) ≤ (List.length (l16_0R m (m + 24) x0 x0 (([] : List ((List UInt8) × (List UInt8))))).2.2)) = true from decide_eq_true (Nat.le_of_eq (Nat.zero_add _))) (all_t c17 (all_f c14 (all_f c14 (all_f c14 (all_nf c21 (all_t rfl all_nil)))))))))))))))))) ?_, by simp, (wkR.tup (wkVs.cons (wkV.one (wk1.eq rfl)) (wkVs.cons (wkV.one (wk1.eq rfl)) wkVs.nil))), trivial⟩
                      intro p hp p2 hq
                      rcases List.mem_cons.1 hp with rfl | hp
                      · skip
                        have h3 := l16_0_ok m (m + 24) x0 x0 (([] : List ((List UInt8) × (List UInt8)))) _ (some_getD (d := l16_0D) c8)
                        rw [eq_of_beq c13] at h3
                        exact Eq.trans (Eq.mp (by kernel_rfl) h3) hq
                      cases hp
                  · skip
                    cases h
              · skip
                refine ite_cases h (fun c14 h => ?_) (fun c14 h => ?_)
                · skip
                  refine ite_cases h (fun c15 h => ?_) (fun c15 h => ?_)
                  · skip
                    cases h
                    refine ⟨(.tup [(.d (.sl (.pair .str .str) ([] : List ((List UInt8) × (List UInt8))))), (.d (.bool false))]), [], runT_ok (LS := (fun k => if k = 49 then some (l16_0E x0 ((l16_0R m (m + 24) x0 x0 (([] : List ((List UInt8) × (List UInt8))))).2.1) ((l16_0R m (m + 24) x0 x0 (([] : List ((List UInt8) × (List UInt8))))).2.2) 5) else none)) (fn := fn16) (vis := [(49, l16_0H x0 x0 (([] : List ((List UInt8) × (List UInt8)))), l16_0B x0 x0 (([] : List ((List UInt8) × (List UInt8)))))]) (by kernel_rfl) rfl (by kernel_rfl) (M.run_of_path _ [false, false, false, false, false, false, false, false, true, true, true, true, true, true, true] _ _ (by kernel_rfl) (all_f c0 (all_f c0 (all_f c0 (all_f c0 (all_f c0 (all_f c0 (all_f c0 (all_f Bool.false_ne_true (all_t c15 (all_t c15 (all_t c15 (all_t c15 (all_t c15 (all_t rfl (all_t rfl all_nil)))))))))))))))) ?_, by simp, (wkR.tup (wkVs.cons (wkV.one (wk1.eq rfl)) (wkVs.cons (wkV.one (wk1.eq rfl)) wkVs.nil))), trivial⟩
                    intro p hp p2 hq
                    rcases List.mem_cons.1 hp with rfl | hp
                    · skip
                      have h3 := l16_0_ok m (m + 24) x0 x0 (([] : List ((List UInt8) × (List UInt8)))) _ (some_getD (d := l16_0D) c8)
                      rw [eq_of_beq c14] at h3
                      exact Eq.trans (Eq.mp (by kernel_rfl) h3) hq
                    cases hp
                  · skip
                    refine ite_cases h (fun c18 h => ?_) (fun c18 h => ?_)
                    · skip
                      refine ite_cases h (fun c22 h => ?_) (fun c22 h => ?_)
                      · skip
                        cases h
                        refine ⟨(.tup [(.d (.sl (.pair .str .str) (List.take (List.length (l16_0R m (m + 24) x0 x0 (([] : List ((List UInt8) × (List UInt8))))).2.2) (List.drop 0 (l16_0R m (m + 24) x0 x0 (([] : List ((List UInt8) × (List UInt8))))).2.2)))), (.d (.bool true))]), [], runT_ok (LS := (fun k => if k = 49 then some (l16_0E x0 ((l16_0R m (m + 24) x0 x0 (([] : List ((List UInt8) × (List UInt8))))).2.1) ((l16_0R m (m + 24) x0 x0 (([] : List ((List UInt8) × (List UInt8))))).2.2) 5) else none)) (fn := fn16) (vis := [(49, l16_0H x0 x0 (([] : List ((List UInt8) × (List UInt8)))), l16_0B x0 x0 (([] : List ((List UInt8) × (List UInt8)))))]) (by kernel_rfl) rfl (by kernel_rfl) (M.run_of_path _ [false, false, false, false, false, false, false, false, false, false, true, true, false, false, false, false, true] _ _ (by kernel_rfl) (all_f c0 (all_f c0 (all_f c0 (all_f c0 (all_f c0 (all_f c0 (all_f c0 (all_f Bool.false_ne_true (all_f c15 (all_f c15 (all_t (show decide ((0 + (List.length (l16_0R m (m + 24) x0 x0 (([] : List ((List UInt8) × (List UInt8))))).2.2)) ≤ (List.length (l16_0R m (m + 24) x0 x0 (([] : List ((List UInt8) × (List UInt8))))).2.2)) = true from decide_eq_true (Nat.le_of_eq (Nat.zero_add _))) (all_t c18 (all_f c15 (all_f c15 (all_f c15 (all_nt c22 (all_t (show decide ((0 + (List.length (l16_0R m (m + 24) x0 x0 (([] : List ((List UInt8) × (List UInt8))))).2.2)) ≤ (List.length (l16_0R m (m + 24) x0 x0 (([] : List ((List UInt8) × (List UInt8))))).2.2)) = true from decide_eq_true (Nat.le_of_eq (Nat.zero_add _))) all_nil)))))))))))))))))) ?_, by simp, (wkR.tup (wkVs.cons (wkV.one (wk1.eq rfl)) (wkVs.cons (wkV.one (wk1.eq rfl)) wkVs.nil))), trivial⟩
                        intro p hp p2 hq
                        rcases List.mem_cons.1 hp with rfl | hp
                        · skip
                          have h3 := l16_0_ok m (m + 24) x0 x0 (([] : List ((List UInt8) × (List UInt8)))) _ (some_getD (d := l16_0D) c8)
                          rw [eq_of_beq c14] at h3
                          exact Eq.trans (Eq.mp (by kernel_rfl) h3) hq
                        cases hp
                      · skip
                        cases h
                        refine ⟨(.tup [(.d (.sl (.pair .str .str) ([] : List ((List UInt8) × (List UInt8))))), (.d (.bool false))]), [], runT_ok (LS := (fun k => if k = 49 then some (l16_0E x0 ((l16_0R m (m + 24) x0 x0 (([] : List ((List UInt8) × (List UInt8))))).2.1) ((l16_0R m (m + 24) x0 x0 (([] : List ((List UInt8) × (List UInt8))))).2.2) 5) else none)) (fn := fn16) (vis := [(49, l16_0H x0 x0 (([] : List ((List UInt8) × (List UInt8)))), l16_0B x0 x0 (([] : List ((List UInt8) × (List UInt8)))))]) (by kernel_rfl) rfl (by kernel_rfl) (M.run_of_path _ [false, false, false, false, false, false, false, false, false, false, true, true, false, false, false, true, true] _ _ (by kernel_rfl) (all_f c0 (all_f c0 (all_f c0 (all_f c0 (all_f c0 (all_f c0 (all_f c0 (all_f Bool.false_ne_true (all_f c15 (all_f c15 (all_t (show decide ((0 + (List.length (l16_0R m (m + 24) x0 x0 (([] : List ((List UInt8) × (List UInt8))))).2.2)) ≤ (List.length (l16_0R m (m + 24) x0 x0 (([] : List ((List UInt8) × (List UInt8))))).2.2)) = true from decide_eq_true (Nat.le_of_eq (Nat.zero_add _))) (all_t c18 (all_f c15 (all_f c15 (all_f c15 (all_nf c22 (all_t rfl all_nil)))))))))))))))))) ?_, by simp, (wkR.tup (wkVs.cons (wkV.one (wk1.eq rfl)) (wkVs.cons (wkV.one (wk1.eq rfl)) wkVs.nil))), trivial⟩
                        intro p hp p2 hq
                        rcases List.mem_cons.1 hp with rfl | hp
                        · skip
                          have h3 := l16_0_ok m (m + 24) x0 x0 (([] : List ((List UInt8) × (List UInt8)))) _ (some_getD (d := l16_0D) c8)
                          rw [eq_of_beq c14] at h3
                          exact Eq.trans (Eq.mp (by kernel_rfl) h3) hq
                        cases hp
                    · skip
                      cases h
                · skip
                  cases h
    · skip
      cases h

def cutE : List UInt8 → (List UInt8) × (List UInt8)
  | [] => ([], [])
  | c :: s => if (c == 61) = true then ([], s) else (c :: (cutE s).1, (cutE s).2)
def trimC (s : List UInt8) : List UInt8 := if (List.take 1 s == ([44] : List UInt8)) = true then s.drop 1 else s
def trimP (s : List UInt8) : List UInt8 := if (List.take 1 s == ([123] : List UInt8)) = true then s.drop 1 else s
def parR : Nat → List UInt8 → LB → Option LB
  | 0, _, l => some l
  | n + 1, s, l => if s = [] ∨ s = [125] ∨ 6 < l.length then some l else
      if (unqG (cutE s).2).2.2 = true then parR n (trimC (unqG (cutE s).2).2.1) (l ++ [((cutE s).1, (unqG (cutE s).2).1)]) else none
/-- The set of a text. -/
def parseG (s : List UInt8) : LB × Bool := match parR 8 (trimP s) [] with
  | none => ([], false)
  | some l => if (s == ([] : List UInt8)) = true then ([], false) else if (lprintG l == s) = true then (l, true) else ([], false)
theorem cut_idx : ∀ s : List UInt8, (Lib.indexByte s 61 = -1 ∧ cutE s = (s, [])) ∨ (∃ i : Nat, Lib.indexByte s 61 = ((i : Nat) : Int) ∧ i < s.length ∧ cutE s = (s.take i, s.drop (i + 1)))
  | [] => .inl ⟨rfl, rfl⟩
  | c :: s => by
    rw [Lib.indexByte, cutE]
    by_cases hc : (c == 61) = true
    · rw [if_pos hc, if_pos hc]
      exact .inr ⟨0, rfl, by simp, rfl⟩
    · rw [if_neg hc, if_neg hc]
      rcases cut_idx s with ⟨h1, h2⟩ | ⟨i, h1, h2, h3⟩
      · rw [h1, h2, if_pos (by decide)]
        exact .inl ⟨rfl, rfl⟩
      · rw [h1, h3, if_neg (by rw [beq_iff_eq]; omega)]
        exact .inr ⟨i + 1, rfl, by rw [List.length_cons]; omega, rfl⟩
theorem unqT_le : ∀ (s acc v r : List UInt8), unqT s acc = some (v, r) → r.length ≤ s.length
  | [], _, _, _, h => by rw [unqT] at h; cases h
  | [c], acc, v, r, h => by
    rw [unqT] at h
    split at h
    · cases h; simp
    · cases h
  | c :: d :: s, acc, v, r, h => by
    rw [unqT] at h
    split at h
    · cases h; simp
    · split at h
      · have := unqT_le s _ _ _ h
        simp only [List.length_cons]; omega
      · have := unqT_le (d :: s) _ _ _ h
        simp only [List.length_cons] at *; omega
theorem unqG_le (s : List UInt8) : (unqG s).2.1.length ≤ s.length := by
  cases s with
  | nil => exact Nat.le_refl _
  | cons q t =>
    rw [unqG]
    cases hu : unqT t [] with
    | none => exact Nat.zero_le _
    | some w =>
      have := unqT_le t [] w.1 w.2 hu
      show w.2.length ≤ _
      rw [List.length_cons]; omega
theorem trimC_le (s : List UInt8) : (trimC s).length ≤ s.length := by
  unfold trimC
  split
  · rw [List.length_drop]; omega
  · exact Nat.le_refl _
theorem par_loop (m : Nat) (x0 : List UInt8) : ∀ (j n : Nat) (s : List UInt8) (b : LB), b.length + j = 7 → j < n → s.length ≤ 1000000 → (∀ z ∈ b, z.1.length ≤ 1000000) →
    ∃ e s' b', l16_0 m n x0 s b = some (e, s', b') ∧ (((e = 0 ∨ e = 1 ∨ e = 2) ∧ parR (j + 1) s b = none) ∨ ((e = 3 ∨ e = 4 ∨ e = 5) ∧ parR (j + 1) s b = some b' ∧ b'.length ≤ 7 ∧ ∀ z ∈ b', z.1.length ≤ 1000000))
  | _, 0, _, _, _, h, _, _ => by omega
  | j, n + 1, s, b, h1, h2, h3, h4 => by
    rw [l16_0, parR]
    by_cases c1 : s = []
    · rw [if_pos (by rw [c1]; rfl), if_pos (.inl c1)]
      exact ⟨5, s, b, rfl, .inr ⟨.inr (.inr rfl), rfl, by omega, h4⟩⟩
    · rw [if_neg (by rw [beq_iff_eq]; exact c1)]
      by_cases c2 : s = [125]
      · rw [if_pos (by rw [c2]; rfl), if_pos (.inr (.inl c2))]
        exact ⟨4, s, b, rfl, .inr ⟨.inr (.inl rfl), rfl, by omega, h4⟩⟩
      · rw [if_neg (by rw [beq_iff_eq]; exact c2)]
        by_cases c3 : b.length ≤ 6
        · have hP : ¬ (s = [] ∨ s = [125] ∨ 6 < List.length b) := by
            rintro (h | h | h)
            · exact c1 h
            · exact c2 h
            · omega
          rw [if_pos (decide_eq_true (by omega)), if_neg hP]
          have e61 : Nat.toUInt8 (Int.toNat ((UInt8.toNat (List.getD ([61] : List UInt8) 0 0) : Nat) : Int)) = 61 := by decide
          simp only [e61, List.take_length, List.drop_zero]
          cases j with
          | zero => omega
          | succ j =>
            have a1 : decide ((((List.length b) + 1) * 32) ≤ 70368744177664) = true := decide_eq_true (by omega)
            have T : ∀ (u : (List UInt8) × (List UInt8) × Bool) (nm : List UInt8), (if decide ((((List.length b) + 1) * 32) ≤ 70368744177664) = true then
                (if decide ((((List.length u.2.1) : Nat) : Int) ≥ 1) = true then
                  (if decide (1 ≤ (((List.length u.2.1) : Nat) : Int)) = true then
                    (if ((List.take 1 u.2.1) == ([44] : List UInt8)) = true then l16_0 m n x0 (List.drop 1 u.2.1) (b ++ [(nm, u.1)]) else l16_0 m n x0 u.2.1 (b ++ [(nm, u.1)])) else none)
                  else l16_0 m n x0 u.2.1 (b ++ [(nm, u.1)])) else none) = l16_0 m n x0 (trimC u.2.1) (b ++ [(nm, u.1)]) := by
              intro u nm
              rw [if_pos a1]
              unfold trimC
              by_cases hl : 1 ≤ u.2.1.length
              · rw [if_pos (decide_eq_true (by omega)), if_pos (decide_eq_true (by omega))]
                split <;> rfl
              · rw [if_neg (by rw [decide_eq_true_eq]; omega)]
                have : u.2.1 = [] := List.length_eq_zero_iff.1 (by omega)
                rw [this]; rfl
            have G : ∀ (u : (List UInt8) × (List UInt8) × Bool) (nm : List UInt8), u.2.1.length ≤ 1000000 → nm.length ≤ 1000000 → ∃ e s' b', l16_0 m n x0 (trimC u.2.1) (b ++ [(nm, u.1)]) = some (e, s', b') ∧ (((e = 0 ∨ e = 1 ∨ e = 2) ∧ parR (j + 1) (trimC u.2.1) (b ++ [(nm, u.1)]) = none) ∨ ((e = 3 ∨ e = 4 ∨ e = 5) ∧ parR (j + 1) (trimC u.2.1) (b ++ [(nm, u.1)]) = some b' ∧ b'.length ≤ 7 ∧ ∀ z ∈ b', z.1.length ≤ 1000000)) := by
              intro u nm hu hn
              refine par_loop m x0 j n _ _ (by rw [List.length_append, List.length_singleton]; omega) (by omega) (by have := trimC_le u.2.1; omega) ?_
              intro z hz
              rcases List.mem_append.1 hz with hz | hz
              · exact h4 z hz
              · rw [List.mem_singleton] at hz
                rw [hz]; exact hn
            by_cases c4 : s = [61]
            · subst c4
              rw [if_pos (by decide), if_pos (by decide), if_pos (by decide), if_pos (by decide), if_neg (by decide), if_neg (by decide)]
              exact ⟨0, _, _, rfl, .inl ⟨.inl rfl, rfl⟩⟩
            · rw [if_neg (by rw [beq_iff_eq]; exact fun h => c4 h.symm)]
              rcases cut_idx s with ⟨i1, i2⟩ | ⟨i, i1, i2, i3⟩
              · rw [i1, i2, if_neg (by decide), if_pos (by decide), if_neg (by decide), if_neg (by show ¬ (unqG []).2.2 = true; decide)]
                exact ⟨2, _, _, rfl, .inl ⟨.inr (.inr rfl), rfl⟩⟩
              · have w1 : IntKind.wrap .i64 (((i : Nat) : Int) + (1)) = ((i + 1 : Nat) : Int) := by rw [wrap_id (by omega) (by omega)]; rfl
                have ud := unqG_le (s.drop (i + 1))
                have ld : (s.drop (i + 1)).length ≤ 1000000 := by rw [List.length_drop]; omega
                have lt : (s.take i).length ≤ 1000000 := by rw [List.length_take]; omega
                rw [i1, i3, if_pos (decide_eq_true (by omega)), if_pos (by rw [Bool.and_eq_true, decide_eq_true_eq, decide_eq_true_eq]; omega), w1]
                simp only [show Int.toNat ((i : Nat) : Int) = i from rfl, show Int.toNat ((i + 1 : Nat) : Int) = i + 1 from rfl]
                rw [if_pos (by rw [Bool.and_eq_true, decide_eq_true_eq, decide_eq_true_eq]; omega), if_pos (decide_eq_true ld)]
                generalize unqG (s.drop (i + 1)) = u at *
                by_cases c5 : u.2.2 = true
                · rw [if_pos c5, if_pos c5, T]
                  exact G u _ (by omega) lt
                · rw [if_neg c5, if_neg c5]
                  exact ⟨1, _, _, rfl, .inl ⟨.inr (.inl rfl), rfl⟩⟩
        · rw [if_neg (by rw [decide_eq_true_eq]; omega), if_pos (.inr (.inr (by omega)))]
          exact ⟨3, s, b, rfl, .inr ⟨.inl rfl, rfl, by omega, h4⟩⟩
theorem trimP_le (s : List UInt8) : (trimP s).length ≤ s.length := by
  unfold trimP
  split
  · rw [List.length_drop]; omega
  · exact Nat.le_refl _
theorem par16 (s : List UInt8) (h : decide (s.length ≤ 1000000) = true) : ∃ m, p16 m s = some (parseG s) := by
  have h := of_decide_eq_true h
  refine ⟨100, ?_⟩
  obtain ⟨e, s', b', hl, hh⟩ := par_loop 100 s 7 (100 + 24) (trimP s) [] rfl (by omega) (by have := trimP_le s; omega) (fun z hz => by cases hz)
  have ht : trimP s = if (List.take 1 s == ([123] : List UInt8)) = true then s.drop 1 else s := rfl
  unfold p16 parseG
  simp only [List.take_length, List.drop_zero]
  by_cases h1 : 1 ≤ s.length
  · rw [if_pos (decide_eq_true (by omega)), if_pos (decide_eq_true (by omega))]
    by_cases h2 : (List.take 1 s == ([123] : List UInt8)) = true
    · rw [if_pos h2] at ht
      rw [if_pos h2, ← ht]
      simp only [l16_0R, hl, Option.isSome_some, Option.getD_some, ↓reduceIte, List.take_length, List.drop_zero]
      rcases hh with ⟨he, hn⟩ | ⟨he, hs, hb, hz⟩
      · rw [hn]
        rcases he with rfl | rfl | rfl <;> rfl
      · have hp : lrightPre b' = true := decide_eq_true ⟨by omega, fun z hz' => by have := hz z hz'; omega⟩
        simp only [hs, hp, ↓reduceIte]
        rcases he with rfl | rfl | rfl <;>
          (simp only [Nat.reduceBEq, Bool.false_eq_true, ↓reduceIte]
           split
           · rfl
           · split <;> rfl)
    · rw [if_neg h2] at ht
      rw [if_neg h2]
      rw [ht] at hl
      simp only [l16_0R, hl, Option.isSome_some, Option.getD_some, ↓reduceIte, List.take_length, List.drop_zero]
      rcases hh with ⟨he, hn⟩ | ⟨he, hs, hb, hz⟩
      · rw [hn]
        rcases he with rfl | rfl | rfl <;> rfl
      · have hp : lrightPre b' = true := decide_eq_true ⟨by omega, fun z hz' => by have := hz z hz'; omega⟩
        simp only [hs, hp, ↓reduceIte]
        rcases he with rfl | rfl | rfl <;>
          (simp only [Nat.reduceBEq, Bool.false_eq_true, ↓reduceIte]
           split
           · rfl
           · split <;> rfl)
  · have h0 : s = [] := List.length_eq_zero_iff.1 (by omega)
    · rw [if_neg (by rw [decide_eq_true_eq]; omega)]
      have ht : trimP s = s := by rw [h0]; rfl
      rw [ht] at hl
      simp only [l16_0R, hl, Option.isSome_some, Option.getD_some, ↓reduceIte, List.take_length, List.drop_zero]
      rcases hh with ⟨he, hn⟩ | ⟨he, hs, hb, hz⟩
      · rw [hn]
        rcases he with rfl | rfl | rfl <;> rfl
      · have hp : lrightPre b' = true := decide_eq_true ⟨by omega, fun z hz' => by have := hz z hz'; omega⟩
        simp only [hs, hp, ↓reduceIte]
        rcases he with rfl | rfl | rfl <;>
          (simp only [Nat.reduceBEq, Bool.false_eq_true, ↓reduceIte]
           split
           · rfl
           · split <;> rfl)
def s16 : List AV → Boxes → M (AV × Boxes) := normS [.val .str] [] fun xs B => match xs, B with
  | [(.d (.str c1))], [] => .chk (decide (List.length c1 ≤ 1000000)) (.ret ((.tup [(.d (.sl (.pair .str .str) (parseG c1).1)), (.d (.bool (parseG c1).2))]), []))
  | _, _ => .fail
theorem s16_at : CallAt Tryd.prog 16 s16 := by
  refine CallAt.norm (CallAt.weakE (g := fun n => evCall F S17 n 16) (fun n => evCall_atH mixed kinds hds S17 S17_ok n 16) fun xs B r' B' hr => ?_) _ _
  split at hr
  · rename_i c1
    obtain ⟨hp, hr⟩ := (M.run_chk _ _ _).1 hr
    simp only [M.run, Option.some.injEq, Prod.mk.injEq] at hr
    obtain ⟨rfl, rfl⟩ := hr
    obtain ⟨m, hm⟩ := par16 c1 hp
    obtain ⟨r, B1, h1, h2, h3, h4⟩ := p16_ok m c1 _ hm
    exact ⟨m + 25, r, B1, h1, by simp, h2, h3, h4⟩
  · simp [M.run] at hr
noncomputable def S18 : FuncId → Option (List AV → Boxes → M (AV × Boxes)) := fun f => if f = 16 then some s16 else S17 f
set_option maxHeartbeats 20000000 in
theorem S18_ok : ∀ f s, S18 f = some s → CallAt Tryd.prog f s := by
  intro f s h
  unfold S18 at h
  split at h
  · rename_i e; subst e; cases h; exact s16_at
  · exact S17_ok f s h

noncomputable def fn18 : AFn := (F 18).getD ⟨0, [], .bad, false, false, noHd⟩
noncomputable def body18 : AC := fn18.body
def p18 (m : Nat) (x0 : List ((List UInt8) × (List UInt8))) (x1 : List ((List UInt8) × (List UInt8))) : Option (Int) :=
  if lrightPre x0 = true then
    if lrightPre x1 = true then
      some ((Lib.compareBytes (lprintG x0) (lprintG x1)))
    else
      none
  else
    none
set_option maxHeartbeats 20000000 in
theorem p18_ok (m : Nat) (x0 : List ((List UInt8) × (List UInt8))) (x1 : List ((List UInt8) × (List UInt8))) (q : Int) (h : p18 m x0 x1 = some q) : ∃ r B1, (evCall F S18 (m + 25) 18 [(.d (.sl (.pair .str .str) x0)), (.d (.sl (.pair .str .str) x1))] []).run = some (r, B1) ∧ 0 ≤ B1.length ∧ wkR B1 [] r (.d (.int .i64 q)) ∧ wkBs B1 [] 0 [] := by
  unfold p18 at h
  refine ite_cases h (fun c0 h => ?_) (fun c0 h => ?_)
  · skip
    refine ite_cases h (fun c1 h => ?_) (fun c1 h => ?_)
    · skip
      cases h
      refine ⟨(.d (.int .i64 (Lib.compareBytes (lprintG x0) (lprintG x1)))), [], runT_ok (LS := (fun k => none)) (fn := fn18) (vis := []) (by kernel_rfl) rfl (by kernel_rfl) (M.run_of_path _ [true, true, true] _ _ (by kernel_rfl) (all_t c0 (all_t c1 (all_t rfl all_nil)))) ?_, by simp, (wkR.one (wkV.one (wk1.eq rfl))), trivial⟩
      intro p hp; cases hp
    · skip
      cases h
  · skip
    cases h

end Go.Proofs.YtcdpgldecikejaaDoor.Dec
namespace Go.Proofs.YtcdpgldecikejaaDoor.Dec
open Go.Ev
set_option linter.unusedVariables false
set_option linter.unusedSimpArgs false
set_option maxRecDepth 100000
noncomputable def fn4 : AFn := (F 4).getD ⟨0, [], .bad, false, false, noHd⟩
noncomputable def body4 : AC := fn4.body
def lback (m : Nat) (x0 : (List Int) × (List Int)) (x1 : (List Int) × (List Int)) (x2 : List UInt8) : Option Unit :=
  if lrightPre (setG x0) = true then
    if lrightPre (setG x1) = true then
      if decide (List.length (lprintG (setG x0)) ≤ 1000000) = true then
        if (parseG (lprintG (setG x0))).2 = true then
          if decide (List.length (parseG (lprintG (setG x0))).1 < 4611686018427387904) = true then
            if ((show List ((List UInt8) × (List UInt8)) from (parseG (lprintG (setG x0))).1) == (setG x0)) = true then
              if decide (List.length (setG x0) < 4611686018427387904) = true then
                if (((lprintG (setG x0)) == (lprintG (setG x1))) == ((show List ((List UInt8) × (List UInt8)) from (setG x0)) == (setG x1))) = true then
                  if (Op.bytesLess (lprintG (setG x0)) (lprintG (setG x1))) = true then
                    if (decide (0 ≤ (if (80) < (((List.length x2) : Nat) : Int) then (80) else (((List.length x2) : Nat) : Int))) && decide ((if (80) < (((List.length x2) : Nat) : Int) then (80) else (((List.length x2) : Nat) : Int)) ≤ (((List.length x2) : Nat) : Int))) = true then
                      if decide (List.length (List.drop 0 (List.take (Int.toNat (if (80) < (((List.length x2) : Nat) : Int) then (80) else (((List.length x2) : Nat) : Int))) x2)) ≤ 1000000) = true then
                        if ((Lib.compareBytes (lprintG (setG x0)) (lprintG (setG x1))) == (-1)) = true then
                          if ((Lib.compareBytes (lprintG (setG x0)) (lprintG (setG x0))) == (0)) = true then
                            if lrightPre (parseG (List.drop 0 (List.take (Int.toNat (if (80) < (((List.length x2) : Nat) : Int) then (80) else (((List.length x2) : Nat) : Int))) x2))).1 = true then
                              if ((lprintG (parseG (List.drop 0 (List.take (Int.toNat (if (80) < (((List.length x2) : Nat) : Int) then (80) else (((List.length x2) : Nat) : Int))) x2))).1) == (List.drop 0 (List.take (Int.toNat (if (80) < (((List.length x2) : Nat) : Int) then (80) else (((List.length x2) : Nat) : Int))) x2))) = true then
                                if ((parseG (List.drop 0 (List.take (Int.toNat (if (80) < (((List.length x2) : Nat) : Int) then (80) else (((List.length x2) : Nat) : Int))) x2))).2 == (!((List.drop 0 (List.take (Int.toNat (if (80) < (((List.length x2) : Nat) : Int) then (80) else (((List.length x2) : Nat) : Int))) x2)) == ([] : List UInt8)))) = true then
                                  if (parseG (List.drop 0 (List.take (Int.toNat (if (80) < (((List.length x2) : Nat) : Int) then (80) else (((List.length x2) : Nat) : Int))) x2))).2 = true then
                                    some ()
                                  else
                                    if ((((List.length (parseG (List.drop 0 (List.take (Int.toNat (if (80) < (((List.length x2) : Nat) : Int) then (80) else (((List.length x2) : Nat) : Int))) x2))).1) : Nat) : Int) == (0)) = true then
                                      some ()
                                    else
                                      none
                                else
                                  none
                              else
                                if ((parseG (List.drop 0 (List.take (Int.toNat (if (80) < (((List.length x2) : Nat) : Int) then (80) else (((List.length x2) : Nat) : Int))) x2))).2 == false) = true then
                                  if (parseG (List.drop 0 (List.take (Int.toNat (if (80) < (((List.length x2) : Nat) : Int) then (80) else (((List.length x2) : Nat) : Int))) x2))).2 = true then
                                    some ()
                                  else
                                    if ((((List.length (parseG (List.drop 0 (List.take (Int.toNat (if (80) < (((List.length x2) : Nat) : Int) then (80) else (((List.length x2) : Nat) : Int))) x2))).1) : Nat) : Int) == (0)) = true then
                                      some ()
                                    else
                                      none
                                else
                                  none
                            else
                              none
                          else
                            none
                        else
                          none
                      else
                        none
                    else
                      none
                  else
                    if (Op.bytesLess (lprintG (setG x0)) (lprintG (setG x1)) || (lprintG (setG x0)) == (lprintG (setG x1))) = true then
                      if (decide (0 ≤ (if (80) < (((List.length x2) : Nat) : Int) then (80) else (((List.length x2) : Nat) : Int))) && decide ((if (80) < (((List.length x2) : Nat) : Int) then (80) else (((List.length x2) : Nat) : Int)) ≤ (((List.length x2) : Nat) : Int))) = true then
                        if decide (List.length (List.drop 0 (List.take (Int.toNat (if (80) < (((List.length x2) : Nat) : Int) then (80) else (((List.length x2) : Nat) : Int))) x2)) ≤ 1000000) = true then
                          if ((Lib.compareBytes (lprintG (setG x0)) (lprintG (setG x1))) == (0)) = true then
                            if ((Lib.compareBytes (lprintG (setG x0)) (lprintG (setG x0))) == (0)) = true then
                              if lrightPre (parseG (List.drop 0 (List.take (Int.toNat (if (80) < (((List.length x2) : Nat) : Int) then (80) else (((List.length x2) : Nat) : Int))) x2))).1 = true then
                                if ((lprintG (parseG (List.drop 0 (List.take (Int.toNat (if (80) < (((List.length x2) : Nat) : Int) then (80) else (((List.length x2) : Nat) : Int))) x2))).1) == (List.drop 0 (List.take (Int.toNat (if (80) < (((List.length x2) : Nat) : Int) then (80) else (((List.length x2) : Nat) : Int))) x2))) = true then
                                  if ((parseG (List.drop 0 (List.take (Int.toNat (if (80) < (((List.length x2) : Nat) : Int) then (80) else (((List.length x2) : Nat) : Int))) x2))).2 == (!((List.drop 0 (List.take (Int.toNat (if (80) < (((List.length x2) : Nat) : Int) then (80) else (((List.length x2) : Nat) : Int))) x2)) == ([] : List UInt8)))) = true then
                                    if (parseG (List.drop 0 (List.take (Int.toNat (if (80) < (((List.length x2) : Nat) : Int) then (80) else (((List.length x2) : Nat) : Int))) x2))).2 = true then
                                      some ()
                                    else
                                      if ((((List.length (parseG (List.drop 0 (List.take (Int.toNat (if (80) < (((List.length x2) : Nat) : Int) then (80) else (((List.length x2) : Nat) : Int))) x2))).1) : Nat) : Int) == (0)) = true then
                                        some ()
                                      else
                                        none
                                  else
                                    none
                                else
                                  if ((parseG (List.drop 0 (List.take (Int.toNat (if (80) < (((List.length x2) : Nat) : Int) then (80) else (((List.length x2) : Nat) : Int))) x2))).2 == false) = true then
                                    if (parseG (List.drop 0 (List.take (Int.toNat (if (80) < (((List.length x2) : Nat) : Int) then (80) else (((List.length x2) : Nat) : Int))) x2))).2 = true then
                                      some ()
                                    else
                                      if ((((List.length (parseG (List.drop 0 (List.take (Int.toNat (if (80) < (((List.length x2) : Nat) : Int) then (80) else (((List.length x2) : Nat) : Int))) x2))).1) : Nat) : Int) == (0)) = true then
                                        some ()
                                      else
                                        none
                                  else
                                    none
                              else
                                none
                            else
                              none
                          else
                            none
                        else
                          none
                      else
                        none
                    else
                      if (decide (0 ≤ (if (80) < (((List.length x2) : Nat) : Int) then (80) else (((List.length x2) : Nat) : Int))) && decide ((if (80) < (((List.length x2) : Nat) : Int) then (80) else (((List.length x2) : Nat) : Int)) ≤ (((List.length x2) : Nat) : Int))) = true then
                        if decide (List.length (List.drop 0 (List.take (Int.toNat (if (80) < (((List.length x2) : Nat) : Int) then (80) else (((List.length x2) : Nat) : Int))) x2)) ≤ 1000000) = true then
                          if ((Lib.compareBytes (lprintG (setG x0)) (lprintG (setG x1))) == (1)) = true then
                            if ((Lib.compareBytes (lprintG (setG x0)) (lprintG (setG x0))) == (0)) = true then
                              if lrightPre (parseG (List.drop 0 (List.take (Int.toNat (if (80) < (((List.length x2) : Nat) : Int) then (80) else (((List.length x2) : Nat) : Int))) x2))).1 = true then
                                if ((lprintG (parseG (List.drop 0 (List.take (Int.toNat (if (80) < (((List.length x2) : Nat) : Int) then (80) else (((List.length x2) : Nat) : Int))) x2))).1) == (List.drop 0 (List.take (Int.toNat (if (80) < (((List.length x2) : Nat) : Int) then (80) else (((List.length x2) : Nat) : Int))) x2))) = true then
                                  if ((parseG (List.drop 0 (List.take (Int.toNat (if (80) < (((List.length x2) : Nat) : Int) then (80) else (((List.length x2) : Nat) : Int))) x2))).2 == (!((List.drop 0 (List.take (Int.toNat (if (80) < (((List.length x2) : Nat) : Int) then (80) else (((List.length x2) : Nat) : Int))) x2)) == ([] : List UInt8)))) = true then
                                    if (parseG (List.drop 0 (List.take (Int.toNat (if (80) < (((List.length x2) : Nat) : Int) then (80) else (((List.length x2) : Nat) : Int))) x2))).2 = true then
                                      some ()
                                    else
                                      if ((((List.length (parseG (List.drop 0 (List.take (Int.toNat (if (80) < (((List.length x2) : Nat) : Int) then (80) else (((List.length x2) : Nat) : Int))) x2))).1) : Nat) : Int) == (0)) = true then
                                        some ()
                                      else
                                        none
                                  else
                                    none
                                else
                                  if ((parseG (List.drop 0 (List.take (Int.toNat (if (80) < (((List.length x2) : Nat) : Int) then (80) else (((List.length x2) : Nat) : Int))) x2))).2 == false) = true then
                                    if (parseG (List.drop 0 (List.take (Int.toNat (if (80) < (((List.length x2) : Nat) : Int) then (80) else (((List.length x2) : Nat) : Int))) x2))).2 = true then
                                      some ()
                                    else
                                      if ((((List.length (parseG (List.drop 0 (List.take (Int.toNat (if (80) < (((List.length x2) : Nat) : Int) then (80) else (((List.length x2) : Nat) : Int))) x2))).1) : Nat) : Int) == (0)) = true then
                                        some ()
                                      else
                                        none
                                  else
                                    none
                              else
                                none
                            else
                              none
                          else
                            none
                        else
                          none
                      else
                        none
                else
                  none
              else
                none
            else
              none
          else
            none
        else
          none
      else
        none
    else
      none
  else
    none

set_option maxHeartbeats 20000000 in
theorem lback_w0 (m : Nat) (x0 : (List Int) × (List Int)) (x1 : (List Int) × (List Int)) (x2 : List UInt8) (c2 : lrightPre (setG x0) = true) (c3 : lrightPre (setG x1) = true) (c4 : decide (List.length (lprintG (setG x0)) ≤ 1000000) = true) (c5 : (parseG (lprintG (setG x0))).2 = true) (c8 : decide (List.length (parseG (lprintG (setG x0))).1 < 4611686018427387904) = true) (c11 : ((show List ((List UInt8) × (List UInt8)) from (parseG (lprintG (setG x0))).1) == (setG x0)) = true) (c17 : decide (List.length (setG x0) < 4611686018427387904) = true) (c20 : (((lprintG (setG x0)) == (lprintG (setG x1))) == ((show List ((List UInt8) × (List UInt8)) from (setG x0)) == (setG x1))) = true) (c21 : (Op.bytesLess (lprintG (setG x0)) (lprintG (setG x1))) = true) (c22 : (decide (0 ≤ (if (80) < (((List.length x2) : Nat) : Int) then (80) else (((List.length x2) : Nat) : Int))) && decide ((if (80) < (((List.length x2) : Nat) : Int) then (80) else (((List.length x2) : Nat) : Int)) ≤ (((List.length x2) : Nat) : Int))) = true) (c23 : decide (List.length (List.drop 0 (List.take (Int.toNat (if (80) < (((List.length x2) : Nat) : Int) then (80) else (((List.length x2) : Nat) : Int))) x2)) ≤ 1000000) = true) (c27 : ((Lib.compareBytes (lprintG (setG x0)) (lprintG (setG x1))) == (-1)) = true) (c35 : ((Lib.compareBytes (lprintG (setG x0)) (lprintG (setG x0))) == (0)) = true) (c38 : lrightPre (parseG (List.drop 0 (List.take (Int.toNat (if (80) < (((List.length x2) : Nat) : Int) then (80) else (((List.length x2) : Nat) : Int))) x2))).1 = true) (c42 : ((lprintG (parseG (List.drop 0 (List.take (Int.toNat (if (80) < (((List.length x2) : Nat) : Int) then (80) else (((List.length x2) : Nat) : Int))) x2))).1) == (List.drop 0 (List.take (Int.toNat (if (80) < (((List.length x2) : Nat) : Int) then (80) else (((List.length x2) : Nat) : Int))) x2))) = true) (c48 : ((parseG (List.drop 0 (List.take (Int.toNat (if (80) < (((List.length x2) : Nat) : Int) then (80) else (((List.length x2) : Nat) : Int))) x2))).2 == (!((List.drop 0 (List.take (Int.toNat (if (80) < (((List.length x2) : Nat) : Int) then (80) else (((List.length x2) : Nat) : Int))) x2)) == ([] : List UInt8)))) = true) (c50 : (parseG (List.drop 0 (List.take (Int.toNat (if (80) < (((List.length x2) : Nat) : Int) then (80) else (((List.length x2) : Nat) : Int))) x2))).2 = true) : (evCall F S18 (m + 25) 4 [(.agg [(.d (.sl (.int .i64) x0.1)), (.d (.sl (.int .i64) x0.2))]), (.agg [(.d (.sl (.int .i64) x1.1)), (.d (.sl (.int .i64) x1.2))]), (.d (.str x2))] []).run = some (.d (.bool true), []) := by
  refine runT_ok (LS := (fun k => none)) (fn := fn4) (r := .d (.bool true)) (B' := []) (vis := []) (by kernel_rfl) rfl (by kernel_rfl) (M.run_of_path _ [true, true, true, true, true, false, false, false, true, false, false, false, false, false, false, false, false, true, false, false, false, true, true, true, true, true, true, true, true, true, true, true, true, true, true, true, true, true, true, true, true, true, true, true, true, true, true, true, true, true, true, true, true, true, true, true, true, true] _ _ (by kernel_rfl) (all_t rfl (all_t rfl (all_t c2 (all_t c3 (all_t c4 (all_nt c5 (all_nt c5 (all_nt c5 (all_t c8 (all_nt c5 (all_nt c5 (all_nt c11 (all_nt c11 (all_nt c11 (all_nt c11 (all_nt c11 (all_nt c11 (all_t c17 (all_nt c11 (all_nt c11 (all_nt c20 (all_t c21 (all_t c22 (all_t c23 (all_t c2 (all_t c3 (all_t rfl (all_t c27 (all_t c27 (all_t c27 (all_t c2 (all_t c2 (all_t rfl (all_t c27 (all_t c27 (all_t c35 (all_t c35 (all_t c35 (all_t c38 (all_t c35 (all_t c35 (all_t c35 (all_t c42 (all_t c42 (all_t c35 (all_t c42 (all_t c35 (all_t c35 (all_t c48 (all_t c48 (all_t c50 (all_t c50 (all_t c50 (all_t c48 (all_t c50 (all_t c48 (all_t rfl (all_t rfl all_nil))))))))))))))))))))))))))))))))))))))))))))))))))))))))))) ?_
  intro p hp; cases hp

set_option maxHeartbeats 20000000 in
theorem lback_w1 (m : Nat) (x0 : (List Int) × (List Int)) (x1 : (List Int) × (List Int)) (x2 : List UInt8) (c2 : lrightPre (setG x0) = true) (c3 : lrightPre (setG x1) = true) (c4 : decide (List.length (lprintG (setG x0)) ≤ 1000000) = true) (c5 : (parseG (lprintG (setG x0))).2 = true) (c8 : decide (List.length (parseG (lprintG (setG x0))).1 < 4611686018427387904) = true) (c11 : ((show List ((List UInt8) × (List UInt8)) from (parseG (lprintG (setG x0))).1) == (setG x0)) = true) (c17 : decide (List.length (setG x0) < 4611686018427387904) = true) (c20 : (((lprintG (setG x0)) == (lprintG (setG x1))) == ((show List ((List UInt8) × (List UInt8)) from (setG x0)) == (setG x1))) = true) (c21 : (Op.bytesLess (lprintG (setG x0)) (lprintG (setG x1))) = true) (c22 : (decide (0 ≤ (if (80) < (((List.length x2) : Nat) : Int) then (80) else (((List.length x2) : Nat) : Int))) && decide ((if (80) < (((List.length x2) : Nat) : Int) then (80) else (((List.length x2) : Nat) : Int)) ≤ (((List.length x2) : Nat) : Int))) = true) (c23 : decide (List.length (List.drop 0 (List.take (Int.toNat (if (80) < (((List.length x2) : Nat) : Int) then (80) else (((List.length x2) : Nat) : Int))) x2)) ≤ 1000000) = true) (c27 : ((Lib.compareBytes (lprintG (setG x0)) (lprintG (setG x1))) == (-1)) = true) (c35 : ((Lib.compareBytes (lprintG (setG x0)) (lprintG (setG x0))) == (0)) = true) (c38 : lrightPre (parseG (List.drop 0 (List.take (Int.toNat (if (80) < (((List.length x2) : Nat) : Int) then (80) else (((List.length x2) : Nat) : Int))) x2))).1 = true) (c42 : ((lprintG (parseG (List.drop 0 (List.take (Int.toNat (if (80) < (((List.length x2) : Nat) : Int) then (80) else (((List.length x2) : Nat) : Int))) x2))).1) == (List.drop 0 (List.take (Int.toNat (if (80) < (((List.length x2) : Nat) : Int) then (80) else (((List.length x2) : Nat) : Int))) x2))) = true) (c48 : ((parseG (List.drop 0 (List.take (Int.toNat (if (80) < (((List.length x2) : Nat) : Int) then (80) else (((List.length x2) : Nat) : Int))) x2))).2 == (!((List.drop 0 (List.take (Int.toNat (if (80) < (((List.length x2) : Nat) : Int) then (80) else (((List.length x2) : Nat) : Int))) x2)) == ([] : List UInt8)))) = true) (c50 : ¬ (parseG (List.drop 0 (List.take (Int.toNat (if (80) < (((List.length x2) : Nat) : Int) then (80) else (((List.length x2) : Nat) : Int))) x2))).2 = true) (c56 : ((((List.length (parseG (List.drop 0 (List.take (Int.toNat (if (80) < (((List.length x2) : Nat) : Int) then (80) else (((List.length x2) : Nat) : Int))) x2))).1) : Nat) : Int) == (0)) = true) : (evCall F S18 (m + 25) 4 [(.agg [(.d (.sl (.int .i64) x0.1)), (.d (.sl (.int .i64) x0.2))]), (.agg [(.d (.sl (.int .i64) x1.1)), (.d (.sl (.int .i64) x1.2))]), (.d (.str x2))] []).run = some (.d (.bool true), []) := by
  refine runT_ok (LS := (fun k => none)) (fn := fn4) (r := .d (.bool true)) (B' := []) (vis := []) (by kernel_rfl) rfl (by kernel_rfl) (M.run_of_path _ [true, true, true, true, true, false, false, false, true, false, false, false, false, false, false, false, false, true, false, false, false, true, true, true, true, true, true, true, true, true, true, true, true, true, true, true, true, true, true, true, true, true, true, true, true, true, true, true, true, true, false, false, false, true, false, true, true, true] _ _ (by kernel_rfl) (all_t rfl (all_t rfl (all_t c2 (all_t c3 (all_t c4 (all_nt c5 (all_nt c5 (all_nt c5 (all_t c8 (all_nt c5 (all_nt c5 (all_nt c11 (all_nt c11 (all_nt c11 (all_nt c11 (all_nt c11 (all_nt c11 (all_t c17 (all_nt c11 (all_nt c11 (all_nt c20 (all_t c21 (all_t c22 (all_t c23 (all_t c2 (all_t c3 (all_t rfl (all_t c27 (all_t c27 (all_t c27 (all_t c2 (all_t c2 (all_t rfl (all_t c27 (all_t c27 (all_t c35 (all_t c35 (all_t c35 (all_t c38 (all_t c35 (all_t c35 (all_t c35 (all_t c42 (all_t c42 (all_t c35 (all_t c42 (all_t c35 (all_t c35 (all_t c48 (all_t c48 (all_f c50 (all_f c50 (all_f c50 (all_t c48 (all_f c50 (all_t c48 (all_t c56 (all_t c56 all_nil))))))))))))))))))))))))))))))))))))))))))))))))))))))))))) ?_
  intro p hp; cases hp

set_option maxHeartbeats 20000000 in
theorem lback_w2 (m : Nat) (x0 : (List Int) × (List Int)) (x1 : (List Int) × (List Int)) (x2 : List UInt8) (c2 : lrightPre (setG x0) = true) (c3 : lrightPre (setG x1) = true) (c4 : decide (List.length (lprintG (setG x0)) ≤ 1000000) = true) (c5 : (parseG (lprintG (setG x0))).2 = true) (c8 : decide (List.length (parseG (lprintG (setG x0))).1 < 4611686018427387904) = true) (c11 : ((show List ((List UInt8) × (List UInt8)) from (parseG (lprintG (setG x0))).1) == (setG x0)) = true) (c17 : decide (List.length (setG x0) < 4611686018427387904) = true) (c20 : (((lprintG (setG x0)) == (lprintG (setG x1))) == ((show List ((List UInt8) × (List UInt8)) from (setG x0)) == (setG x1))) = true) (c21 : (Op.bytesLess (lprintG (setG x0)) (lprintG (setG x1))) = true) (c22 : (decide (0 ≤ (if (80) < (((List.length x2) : Nat) : Int) then (80) else (((List.length x2) : Nat) : Int))) && decide ((if (80) < (((List.length x2) : Nat) : Int) then (80) else (((List.length x2) : Nat) : Int)) ≤ (((List.length x2) : Nat) : Int))) = true) (c23 : decide (List.length (List.drop 0 (List.take (Int.toNat (if (80) < (((List.length x2) : Nat) : Int) then (80) else (((List.length x2) : Nat) : Int))) x2)) ≤ 1000000) = true) (c27 : ((Lib.compareBytes (lprintG (setG x0)) (lprintG (setG x1))) == (-1)) = true) (c35 : ((Lib.compareBytes (lprintG (setG x0)) (lprintG (setG x0))) == (0)) = true) (c38 : lrightPre (parseG (List.drop 0 (List.take (Int.toNat (if (80) < (((List.length x2) : Nat) : Int) then (80) else (((List.length x2) : Nat) : Int))) x2))).1 = true) (c42 : ¬ ((lprintG (parseG (List.drop 0 (List.take (Int.toNat (if (80) < (((List.length x2) : Nat) : Int) then (80) else (((List.length x2) : Nat) : Int))) x2))).1) == (List.drop 0 (List.take (Int.toNat (if (80) < (((List.length x2) : Nat) : Int) then (80) else (((List.length x2) : Nat) : Int))) x2))) = true) (c48 : ((parseG (List.drop 0 (List.take (Int.toNat (if (80) < (((List.length x2) : Nat) : Int) then (80) else (((List.length x2) : Nat) : Int))) x2))).2 == false) = true) (c50 : (parseG (List.drop 0 (List.take (Int.toNat (if (80) < (((List.length x2) : Nat) : Int) then (80) else (((List.length x2) : Nat) : Int))) x2))).2 = true) : (evCall F S18 (m + 25) 4 [(.agg [(.d (.sl (.int .i64) x0.1)), (.d (.sl (.int .i64) x0.2))]), (.agg [(.d (.sl (.int .i64) x1.1)), (.d (.sl (.int .i64) x1.2))]), (.d (.str x2))] []).run = some (.d (.bool true), []) := by
  refine runT_ok (LS := (fun k => none)) (fn := fn4) (r := .d (.bool true)) (B' := []) (vis := []) (by kernel_rfl) rfl (by kernel_rfl) (M.run_of_path _ [true, true, true, true, true, false, false, false, true, false, false, false, false, false, false, false, false, true, false, false, false, true, true, true, true, true, true, true, true, true, true, true, true, true, true, true, true, true, true, true, true, true, false, false, true, false, true, true, true, true, true, true, true, true, true, true, true, true] _ _ (by kernel_rfl) (all_t rfl (all_t rfl (all_t c2 (all_t c3 (all_t c4 (all_nt c5 (all_nt c5 (all_nt c5 (all_t c8 (all_nt c5 (all_nt c5 (all_nt c11 (all_nt c11 (all_nt c11 (all_nt c11 (all_nt c11 (all_nt c11 (all_t c17 (all_nt c11 (all_nt c11 (all_nt c20 (all_t c21 (all_t c22 (all_t c23 (all_t c2 (all_t c3 (all_t rfl (all_t c27 (all_t c27 (all_t c27 (all_t c2 (all_t c2 (all_t rfl (all_t c27 (all_t c27 (all_t c35 (all_t c35 (all_t c35 (all_t c38 (all_t c35 (all_t c35 (all_t c35 (all_f c42 (all_f c42 (all_t c35 (all_f c42 (all_t c35 (all_t c35 (all_t c48 (all_t c48 (all_t c50 (all_t c50 (all_t c50 (all_t c48 (all_t c50 (all_t c48 (all_t rfl (all_t rfl all_nil))))))))))))))))))))))))))))))))))))))))))))))))))))))))))) ?_
  intro p hp; cases hp

set_option maxHeartbeats 20000000 in
theorem lback_w3 (m : Nat) (x0 : (List Int) × (List Int)) (x1 : (List Int) × (List Int)) (x2 : List UInt8) (c2 : lrightPre (setG x0) = true) (c3 : lrightPre (setG x1) = true) (c4 : decide (List.length (lprintG (setG x0)) ≤ 1000000) = true) (c5 : (parseG (lprintG (setG x0))).2 = true) (c8 : decide (List.length (parseG (lprintG (setG x0))).1 < 4611686018427387904) = true) (c11 : ((show List ((List UInt8) × (List UInt8)) from (parseG (lprintG (setG x0))).1) == (setG x0)) = true) (c17 : decide (List.length (setG x0) < 4611686018427387904) = true) (c20 : (((lprintG (setG x0)) == (lprintG (setG x1))) == ((show List ((List UInt8) × (List UInt8)) from (setG x0)) == (setG x1))) = true) (c21 : (Op.bytesLess (lprintG (setG x0)) (lprintG (setG x1))) = true) (c22 : (decide (0 ≤ (if (80) < (((List.length x2) : Nat) : Int) then (80) else (((List.length x2) : Nat) : Int))) && decide ((if (80) < (((List.length x2) : Nat) : Int) then (80) else (((List.length x2) : Nat) : Int)) ≤ (((List.length x2) : Nat) : Int))) = true) (c23 : decide (List.length (List.drop 0 (List.take (Int.toNat (if (80) < (((List.length x2) : Nat) : Int) then (80) else (((List.length x2) : Nat) : Int))) x2)) ≤ 1000000) = true) (c27 : ((Lib.compareBytes (lprintG (setG x0)) (lprintG (setG x1))) == (-1)) = true) (c35 : ((Lib.compareBytes (lprintG (setG x0)) (lprintG (setG x0))) == (0)) = true) (c38 : lrightPre (parseG (List.drop 0 (List.take (Int.toNat (if (80) < (((List.length x2) : Nat) : Int) then (80) else (((List.length x2) : Nat) : Int))) x2))).1 = true) (c42 : ¬ ((lprintG (parseG (List.drop 0 (List.take (Int.toNat (if (80) < (((List.length x2) : Nat) : Int) then (80) else (((List.length x2) : Nat) : Int))) x2))).1) == (List.drop 0 (List.take (Int.toNat (if (80) < (((List.length x2) : Nat) : Int) then (80) else (((List.length x2) : Nat) : Int))) x2))) = true) (c48 : ((parseG (List.drop 0 (List.take (Int.toNat (if (80) < (((List.length x2) : Nat) : Int) then (80) else (((List.length x2) : Nat) : Int))) x2))).2 == false) = true) (c50 : ¬ (parseG (List.drop 0 (List.take (Int.toNat (if (80) < (((List.length x2) : Nat) : Int) then (80) else (((List.length x2) : Nat) : Int))) x2))).2 = true) (c56 : ((((List.length (parseG (List.drop 0 (List.take (Int.toNat (if (80) < (((List.length x2) : Nat) : Int) then (80) else (((List.length x2) : Nat) : Int))) x2))).1) : Nat) : Int) == (0)) = true) : (evCall F S18 (m + 25) 4 [(.agg [(.d (.sl (.int .i64) x0.1)), (.d (.sl (.int .i64) x0.2))]), (.agg [(.d (.sl (.int .i64) x1.1)), (.d (.sl (.int .i64) x1.2))]), (.d (.str x2))] []).run = some (.d (.bool true), []) := by
  refine runT_ok (LS := (fun k => none)) (fn := fn4) (r := .d (.bool true)) (B' := []) (vis := []) (by kernel_rfl) rfl (by kernel_rfl) (M.run_of_path _ [true, true, true, true, true, false, false, false, true, false, false, false, false, false, false, false, false, true, false, false, false, true, true, true, true, true, true, true, true, true, true, true, true, true, true, true, true, true, true, true, true, true, false, false, true, false, true, true, true, true, false, false, false, true, false, true, true, true] _ _ (by kernel_rfl) (all_t rfl (all_t rfl (all_t c2 (all_t c3 (all_t c4 (all_nt c5 (all_nt c5 (all_nt c5 (all_t c8 (all_nt c5 (all_nt c5 (all_nt c11 (all_nt c11 (all_nt c11 (all_nt c11 (all_nt c11 (all_nt c11 (all_t c17 (all_nt c11 (all_nt c11 (all_nt c20 (all_t c21 (all_t c22 (all_t c23 (all_t c2 (all_t c3 (all_t rfl (all_t c27 (all_t c27 (all_t c27 (all_t c2 (all_t c2 (all_t rfl (all_t c27 (all_t c27 (all_t c35 (all_t c35 (all_t c35 (all_t c38 (all_t c35 (all_t c35 (all_t c35 (all_f c42 (all_f c42 (all_t c35 (all_f c42 (all_t c35 (all_t c35 (all_t c48 (all_t c48 (all_f c50 (all_f c50 (all_f c50 (all_t c48 (all_f c50 (all_t c48 (all_t c56 (all_t c56 all_nil))))))))))))))))))))))))))))))))))))))))))))))))))))))))))) ?_
  intro p hp; cases hp

set_option maxHeartbeats 20000000 in
theorem lback_w4 (m : Nat) (x0 : (List Int) × (List Int)) (x1 : (List Int) × (List Int)) (x2 : List UInt8) (c2 : lrightPre (setG x0) = true) (c3 : lrightPre (setG x1) = true) (c4 : decide (List.length (lprintG (setG x0)) ≤ 1000000) = true) (c5 : (parseG (lprintG (setG x0))).2 = true) (c8 : decide (List.length (parseG (lprintG (setG x0))).1 < 4611686018427387904) = true) (c11 : ((show List ((List UInt8) × (List UInt8)) from (parseG (lprintG (setG x0))).1) == (setG x0)) = true) (c17 : decide (List.length (setG x0) < 4611686018427387904) = true) (c20 : (((lprintG (setG x0)) == (lprintG (setG x1))) == ((show List ((List UInt8) × (List UInt8)) from (setG x0)) == (setG x1))) = true) (c21 : ¬ (Op.bytesLess (lprintG (setG x0)) (lprintG (setG x1))) = true) (c22 : (Op.bytesLess (lprintG (setG x0)) (lprintG (setG x1)) || (lprintG (setG x0)) == (lprintG (setG x1))) = true) (c23 : (decide (0 ≤ (if (80) < (((List.length x2) : Nat) : Int) then (80) else (((List.length x2) : Nat) : Int))) && decide ((if (80) < (((List.length x2) : Nat) : Int) then (80) else (((List.length x2) : Nat) : Int)) ≤ (((List.length x2) : Nat) : Int))) = true) (c24 : decide (List.length (List.drop 0 (List.take (Int.toNat (if (80) < (((List.length x2) : Nat) : Int) then (80) else (((List.length x2) : Nat) : Int))) x2)) ≤ 1000000) = true) (c28 : ((Lib.compareBytes (lprintG (setG x0)) (lprintG (setG x1))) == (0)) = true) (c36 : ((Lib.compareBytes (lprintG (setG x0)) (lprintG (setG x0))) == (0)) = true) (c39 : lrightPre (parseG (List.drop 0 (List.take (Int.toNat (if (80) < (((List.length x2) : Nat) : Int) then (80) else (((List.length x2) : Nat) : Int))) x2))).1 = true) (c43 : ((lprintG (parseG (List.drop 0 (List.take (Int.toNat (if (80) < (((List.length x2) : Nat) : Int) then (80) else (((List.length x2) : Nat) : Int))) x2))).1) == (List.drop 0 (List.take (Int.toNat (if (80) < (((List.length x2) : Nat) : Int) then (80) else (((List.length x2) : Nat) : Int))) x2))) = true) (c49 : ((parseG (List.drop 0 (List.take (Int.toNat (if (80) < (((List.length x2) : Nat) : Int) then (80) else (((List.length x2) : Nat) : Int))) x2))).2 == (!((List.drop 0 (List.take (Int.toNat (if (80) < (((List.length x2) : Nat) : Int) then (80) else (((List.length x2) : Nat) : Int))) x2)) == ([] : List UInt8)))) = true) (c51 : (parseG (List.drop 0 (List.take (Int.toNat (if (80) < (((List.length x2) : Nat) : Int) then (80) else (((List.length x2) : Nat) : Int))) x2))).2 = true) : (evCall F S18 (m + 25) 4 [(.agg [(.d (.sl (.int .i64) x0.1)), (.d (.sl (.int .i64) x0.2))]), (.agg [(.d (.sl (.int .i64) x1.1)), (.d (.sl (.int .i64) x1.2))]), (.d (.str x2))] []).run = some (.d (.bool true), []) := by
  refine runT_ok (LS := (fun k => none)) (fn := fn4) (r := .d (.bool true)) (B' := []) (vis := []) (by kernel_rfl) rfl (by kernel_rfl) (M.run_of_path _ [true, true, true, true, true, false, false, false, true, false, false, false, false, false, false, false, false, true, false, false, false, false, false, true, true, true, true, true, true, true, true, true, true, true, true, true, true, true, true, true, true, true, true, true, true, true, true, true, true, true, true, true, true, true, true, true, true, true, true] _ _ (by kernel_rfl) (all_t rfl (all_t rfl (all_t c2 (all_t c3 (all_t c4 (all_nt c5 (all_nt c5 (all_nt c5 (all_t c8 (all_nt c5 (all_nt c5 (all_nt c11 (all_nt c11 (all_nt c11 (all_nt c11 (all_nt c11 (all_nt c11 (all_t c17 (all_nt c11 (all_nt c11 (all_nt c20 (all_f c21 (all_nt c22 (all_t c23 (all_t c24 (all_t c2 (all_t c3 (all_t rfl (all_t c28 (all_t c28 (all_t c28 (all_t c2 (all_t c2 (all_t rfl (all_t c28 (all_t c28 (all_t c36 (all_t c36 (all_t c36 (all_t c39 (all_t c36 (all_t c36 (all_t c36 (all_t c43 (all_t c43 (all_t c36 (all_t c43 (all_t c36 (all_t c36 (all_t c49 (all_t c49 (all_t c51 (all_t c51 (all_t c51 (all_t c49 (all_t c51 (all_t c49 (all_t rfl (all_t rfl all_nil)))))))))))))))))))))))))))))))))))))))))))))))))))))))))))) ?_
  intro p hp; cases hp

set_option maxHeartbeats 20000000 in
theorem lback_w5 (m : Nat) (x0 : (List Int) × (List Int)) (x1 : (List Int) × (List Int)) (x2 : List UInt8) (c2 : lrightPre (setG x0) = true) (c3 : lrightPre (setG x1) = true) (c4 : decide (List.length (lprintG (setG x0)) ≤ 1000000) = true) (c5 : (parseG (lprintG (setG x0))).2 = true) (c8 : decide (List.length (parseG (lprintG (setG x0))).1 < 4611686018427387904) = true) (c11 : ((show List ((List UInt8) × (List UInt8)) from (parseG (lprintG (setG x0))).1) == (setG x0)) = true) (c17 : decide (List.length (setG x0) < 4611686018427387904) = true) (c20 : (((lprintG (setG x0)) == (lprintG (setG x1))) == ((show List ((List UInt8) × (List UInt8)) from (setG x0)) == (setG x1))) = true) (c21 : ¬ (Op.bytesLess (lprintG (setG x0)) (lprintG (setG x1))) = true) (c22 : (Op.bytesLess (lprintG (setG x0)) (lprintG (setG x1)) || (lprintG (setG x0)) == (lprintG (setG x1))) = true) (c23 : (decide (0 ≤ (if (80) < (((List.length x2) : Nat) : Int) then (80) else (((List.length x2) : Nat) : Int))) && decide ((if (80) < (((List.length x2) : Nat) : Int) then (80) else (((List.length x2) : Nat) : Int)) ≤ (((List.length x2) : Nat) : Int))) = true) (c24 : decide (List.length (List.drop 0 (List.take (Int.toNat (if (80) < (((List.length x2) : Nat) : Int) then (80) else (((List.length x2) : Nat) : Int))) x2)) ≤ 1000000) = true) (c28 : ((Lib.compareBytes (lprintG (setG x0)) (lprintG (setG x1))) == (0)) = true) (c36 : ((Lib.compareBytes (lprintG (setG x0)) (lprintG (setG x0))) == (0)) = true) (c39 : lrightPre (parseG (List.drop 0 (List.take (Int.toNat (if (80) < (((List.length x2) : Nat) : Int) then (80) else (((List.length x2) : Nat) : Int))) x2))).1 = true) (c43 : ((lprintG (parseG (List.drop 0 (List.take (Int.toNat (if (80) < (((List.length x2) : Nat) : Int) then (80) else (((List.length x2) : Nat) : Int))) x2))).1) == (List.drop 0 (List.take (Int.toNat (if (80) < (((List.length x2) : Nat) : Int) then (80) else (((List.length x2) : Nat) : Int))) x2))) = true) (c49 : ((parseG (List.drop 0 (List.take (Int.toNat (if (80) < (((List.length x2) : Nat) : Int) then (80) else (((List.length x2) : Nat) : Int))) x2))).2 == (!((List.drop 0 (List.take (Int.toNat (if (80) < (((List.length x2) : Nat) : Int) then (80) else (((List.length x2) : Nat) : Int))) x2)) == ([] : List UInt8)))) = true) (c51 : ¬ (parseG (List.drop 0 (List.take (Int.toNat (if (80) < (((List.length x2) : Nat) : Int) then (80) else (((List.length x2) : Nat) : Int))) x2))).2 = true) (c57 : ((((List.length (parseG (List.drop 0 (List.take (Int.toNat (if (80) < (((List.length x2) : Nat) : Int) then (80) else (((List.length x2) : Nat) : Int))) x2))).1) : Nat) : Int) == (0)) = true) : (evCall F S18 (m + 25) 4 [(.agg [(.d (.sl (.int .i64) x0.1)), (.d (.sl (.int .i64) x0.2))]), (.agg [(.d (.sl (.int .i64) x1.1)), (.d (.sl (.int .i64) x1.2))]), (.d (.str x2))] []).run = some (.d (.bool true), []) := by
  refine runT_ok (LS := (fun k => none)) (fn := fn4) (r := .d (.bool true)) (B' := []) (vis := []) (by kernel_rfl) rfl (by kernel_rfl) (M.run_of_path _ [true, true, true, true, true, false, false, false, true, false, false, false, false, false, false, false, false, true, false, false, false, false, false, true, true, true, true, true, true, true, true, true, true, true, true, true, true, true, true, true, true, true, true, true, true, true, true, true, true, true, true, false, false, false, true, false, true, true, true] _ _ (by kernel_rfl) (all_t rfl (all_t rfl (all_t c2 (all_t c3 (all_t c4 (all_nt c5 (all_nt c5 (all_nt c5 (all_t c8 (all_nt c5 (all_nt c5 (all_nt c11 (all_nt c11 (all_nt c11 (all_nt c11 (all_nt c11 (all_nt c11 (all_t c17 (all_nt c11 (all_nt c11 (all_nt c20 (all_f c21 (all_nt c22 (all_t c23 (all_t c24 (all_t c2 (all_t c3 (all_t rfl (all_t c28 (all_t c28 (all_t c28 (all_t c2 (all_t c2 (all_t rfl (all_t c28 (all_t c28 (all_t c36 (all_t c36 (all_t c36 (all_t c39 (all_t c36 (all_t c36 (all_t c36 (all_t c43 (all_t c43 (all_t c36 (all_t c43 (all_t c36 (all_t c36 (all_t c49 (all_t c49 (all_f c51 (all_f c51 (all_f c51 (all_t c49 (all_f c51 (all_t c49 (all_t c57 (all_t c57 all_nil)))))))))))))))))))))))))))))))))))))))))))))))))))))))))))) ?_
  intro p hp; cases hp

set_option maxHeartbeats 20000000 in
theorem lback_w6 (m : Nat) (x0 : (List Int) × (List Int)) (x1 : (List Int) × (List Int)) (x2 : List UInt8) (c2 : lrightPre (setG x0) = true) (c3 : lrightPre (setG x1) = true) (c4 : decide (List.length (lprintG (setG x0)) ≤ 1000000) = true) (c5 : (parseG (lprintG (setG x0))).2 = true) (c8 : decide (List.length (parseG (lprintG (setG x0))).1 < 4611686018427387904) = true) (c11 : ((show List ((List UInt8) × (List UInt8)) from (parseG (lprintG (setG x0))).1) == (setG x0)) = true) (c17 : decide (List.length (setG x0) < 4611686018427387904) = true) (c20 : (((lprintG (setG x0)) == (lprintG (setG x1))) == ((show List ((List UInt8) × (List UInt8)) from (setG x0)) == (setG x1))) = true) (c21 : ¬ (Op.bytesLess (lprintG (setG x0)) (lprintG (setG x1))) = true) (c22 : (Op.bytesLess (lprintG (setG x0)) (lprintG (setG x1)) || (lprintG (setG x0)) == (lprintG (setG x1))) = true) (c23 : (decide (0 ≤ (if (80) < (((List.length x2) : Nat) : Int) then (80) else (((List.length x2) : Nat) : Int))) && decide ((if (80) < (((List.length x2) : Nat) : Int) then (80) else (((List.length x2) : Nat) : Int)) ≤ (((List.length x2) : Nat) : Int))) = true) (c24 : decide (List.length (List.drop 0 (List.take (Int.toNat (if (80) < (((List.length x2) : Nat) : Int) then (80) else (((List.length x2) : Nat) : Int))) x2)) ≤ 1000000) = true) (c28 : ((Lib.compareBytes (lprintG (setG x0)) (lprintG (setG x1))) == (0)) = true) (c36 : ((Lib.compareBytes (lprintG (setG x0)) (lprintG (setG x0))) == (0)) = true) (c39 : lrightPre (parseG (List.drop 0 (List.take (Int.toNat (if (80) < (((List.length x2) : Nat) : Int) then (80) else (((List.length x2) : Nat) : Int))) x2))).1 = true) (c43 : ¬ ((lprintG (parseG (List.drop 0 (List.take (Int.toNat (if (80) < (((List.length x2) : Nat) : Int) then (80) else (((List.length x2) : Nat) : Int))) x2))).1) == (List.drop 0 (List.take (Int.toNat (if (80) < (((List.length x2) : Nat) : Int) then (80) else (((List.length x2) : Nat) : Int))) x2))) = true) (c49 : ((parseG (List.drop 0 (List.take (Int.toNat (if (80) < (((List.length x2) : Nat) : Int) then (80) else (((List.length x2) : Nat) : Int))) x2))).2 == false) = true) (c51 : (parseG (List.drop 0 (List.take (Int.toNat (if (80) < (((List.length x2) : Nat) : Int) then (80) else (((List.length x2) : Nat) : Int))) x2))).2 = true) : (evCall F S18 (m + 25) 4 [(.agg [(.d (.sl (.int .i64) x0.1)), (.d (.sl (.int .i64) x0.2))]), (.agg [(.d (.sl (.int .i64) x1.1)), (.d (.sl (.int .i64) x1.2))]), (.d (.str x2))] []).run = some (.d (.bool true), []) := by
  refine runT_ok (LS := (fun k => none)) (fn := fn4) (r := .d (.bool true)) (B' := []) (vis := []) (by kernel_rfl) rfl (by kernel_rfl) (M.run_of_path _ [true, true, true, true, true, false, false, false, true, false, false, false, false, false, false, false, false, true, false, false, false, false, false, true, true, true, true, true, true, true, true, true, true, true, true, true, true, true, true, true, true, true, true, false, false, true, false, true, true, true, true, true, true, true, true, true, true, true, true] _ _ (by kernel_rfl) (all_t rfl (all_t rfl (all_t c2 (all_t c3 (all_t c4 (all_nt c5 (all_nt c5 (all_nt c5 (all_t c8 (all_nt c5 (all_nt c5 (all_nt c11 (all_nt c11 (all_nt c11 (all_nt c11 (all_nt c11 (all_nt c11 (all_t c17 (all_nt c11 (all_nt c11 (all_nt c20 (all_f c21 (all_nt c22 (all_t c23 (all_t c24 (all_t c2 (all_t c3 (all_t rfl (all_t c28 (all_t c28 (all_t c28 (all_t c2 (all_t c2 (all_t rfl (all_t c28 (all_t c28 (all_t c36 (all_t c36 (all_t c36 (all_t c39 (all_t c36 (all_t c36 (all_t c36 (all_f c43 (all_f c43 (all_t c36 (all_f c43 (all_t c36 (all_t c36 (all_t c49 (all_t c49 (all_t c51 (all_t c51 (all_t c51 (all_t c49 (all_t c51 (all_t c49 (all_t rfl (all_t rfl all_nil)))))))))))))))))))))))))))))))))))))))))))))))))))))))))))) ?_
  intro p hp; cases hp

set_option maxHeartbeats 20000000 in
theorem lback_w7 (m : Nat) (x0 : (List Int) × (List Int)) (x1 : (List Int) × (List Int)) (x2 : List UInt8) (c2 : lrightPre (setG x0) = true) (c3 : lrightPre (setG x1) = true) (c4 : decide (List.length (lprintG (setG x0)) ≤ 1000000) = true) (c5 : (parseG (lprintG (setG x0))).2 = true) (c8 : decide (List.length (parseG (lprintG (setG x0))).1 < 4611686018427387904) = true) (c11 : ((show List ((List UInt8) × (List UInt8)) from (parseG (lprintG (setG x0))).1) == (setG x0)) = true) (c17 : decide (List.length (setG x0) < 4611686018427387904) = true) (c20 : (((lprintG (setG x0)) == (lprintG (setG x1))) == ((show List ((List UInt8) × (List UInt8)) from (setG x0)) == (setG x1))) = true) (c21 : ¬ (Op.bytesLess (lprintG (setG x0)) (lprintG (setG x1))) = true) (c22 : (Op.bytesLess (lprintG (setG x0)) (lprintG (setG x1)) || (lprintG (setG x0)) == (lprintG (setG x1))) = true) (c23 : (decide (0 ≤ (if (80) < (((List.length x2) : Nat) : Int) then (80) else (((List.length x2) : Nat) : Int))) && decide ((if (80) < (((List.length x2) : Nat) : Int) then (80) else (((List.length x2) : Nat) : Int)) ≤ (((List.length x2) : Nat) : Int))) = true) (c24 : decide (List.length (List.drop 0 (List.take (Int.toNat (if (80) < (((List.length x2) : Nat) : Int) then (80) else (((List.length x2) : Nat) : Int))) x2)) ≤ 1000000) = true) (c28 : ((Lib.compareBytes (lprintG (setG x0)) (lprintG (setG x1))) == (0)) = true) (c36 : ((Lib.compareBytes (lprintG (setG x0)) (lprintG (setG x0))) == (0)) = true) (c39 : lrightPre (parseG (List.drop 0 (List.take (Int.toNat (if (80) < (((List.length x2) : Nat) : Int) then (80) else (((List.length x2) : Nat) : Int))) x2))).1 = true) (c43 : ¬ ((lprintG (parseG (List.drop 0 (List.take (Int.toNat (if (80) < (((List.length x2) : Nat) : Int) then (80) else (((List.length x2) : Nat) : Int))) x2))).1) == (List.drop 0 (List.take (Int.toNat (if (80) < (((List.length x2) : Nat) : Int) then (80) else (((List.length x2) : Nat) : Int))) x2))) = true) (c49 : ((parseG (List.drop 0 (List.take (Int.toNat (if (80) < (((List.length x2) : Nat) : Int) then (80) else (((List.length x2) : Nat) : Int))) x2))).2 == false) = true) (c51 : ¬ (parseG (List.drop 0 (List.take (Int.toNat (if (80) < (((List.length x2) : Nat) : Int) then (80) else (((List.length x2) : Nat) : Int))) x2))).2 = true) (c57 : ((((List.length (parseG (List.drop 0 (List.take (Int.toNat (if (80) < (((List.length x2) : Nat) : Int) then (80) else (((List.length x2) : Nat) : Int))) x2))).1) : Nat) : Int) == (0)) = true) : (evCall F S18 (m + 25) 4 [(.agg [(.d (.sl (.int .i64) x0.1)), (.d (.sl (.int .i64) x0.2))]), (.agg [(.d (.sl (.int .i64) x1.1)), (.d (.sl (.int .i64) x1.2))]), (.d (.str x2))] []).run = some (.d (.bool true), []) := by
  refine runT_ok (LS := (fun k => none)) (fn := fn4) (r := .d (.bool true)) (B' := []) (vis := []) (by kernel_rfl) rfl (by kernel_rfl) (M.run_of_path _ [true, true, true, true, true, false, false, false, true, false, false, false, false, false, false, false, false, true, false, false, false, false, false, true, true, true, true, true, true, true, true, true, true, true, true, true, true, true, true, true, true, true, true, false, false, true, false, true, true, true, true, false, false, false, true, false, true, true, true] _ _ (by kernel_rfl) (all_t rfl (all_t rfl (all_t c2 (all_t c3 (all_t c4 (all_nt c5 (all_nt c5 (all_nt c5 (all_t c8 (all_nt c5 (all_nt c5 (all_nt c11 (all_nt c11 (all_nt c11 (all_nt c11 (all_nt c11 (all_nt c11 (all_t c17 (all_nt c11 (all_nt c11 (all_nt c20 (all_f c21 (all_nt c22 (all_t c23 (all_t c24 (all_t c2 (all_t c3 (all_t rfl (all_t c28 (all_t c28 (all_t c28 (all_t c2 (all_t c2 (all_t rfl (all_t c28 (all_t c28 (all_t c36 (all_t c36 (all_t c36 (all_t c39 (all_t c36 (all_t c36 (all_t c36 (all_f c43 (all_f c43 (all_t c36 (all_f c43 (all_t c36 (all_t c36 (all_t c49 (all_t c49 (all_f c51 (all_f c51 (all_f c51 (all_t c49 (all_f c51 (all_t c49 (all_t c57 (all_t c57 all_nil)))))))))))))))))))))))))))))))))))))))))))))))))))))))))))) ?_
  intro p hp; cases hp

set_option maxHeartbeats 20000000 in
theorem lback_w8 (m : Nat) (x0 : (List Int) × (List Int)) (x1 : (List Int) × (List Int)) (x2 : List UInt8) (c2 : lrightPre (setG x0) = true) (c3 : lrightPre (setG x1) = true) (c4 : decide (List.length (lprintG (setG x0)) ≤ 1000000) = true) (c5 : (parseG (lprintG (setG x0))).2 = true) (c8 : decide (List.length (parseG (lprintG (setG x0))).1 < 4611686018427387904) = true) (c11 : ((show List ((List UInt8) × (List UInt8)) from (parseG (lprintG (setG x0))).1) == (setG x0)) = true) (c17 : decide (List.length (setG x0) < 4611686018427387904) = true) (c20 : (((lprintG (setG x0)) == (lprintG (setG x1))) == ((show List ((List UInt8) × (List UInt8)) from (setG x0)) == (setG x1))) = true) (c21 : ¬ (Op.bytesLess (lprintG (setG x0)) (lprintG (setG x1))) = true) (c22 : ¬ (Op.bytesLess (lprintG (setG x0)) (lprintG (setG x1)) || (lprintG (setG x0)) == (lprintG (setG x1))) = true) (c23 : (decide (0 ≤ (if (80) < (((List.length x2) : Nat) : Int) then (80) else (((List.length x2) : Nat) : Int))) && decide ((if (80) < (((List.length x2) : Nat) : Int) then (80) else (((List.length x2) : Nat) : Int)) ≤ (((List.length x2) : Nat) : Int))) = true) (c24 : decide (List.length (List.drop 0 (List.take (Int.toNat (if (80) < (((List.length x2) : Nat) : Int) then (80) else (((List.length x2) : Nat) : Int))) x2)) ≤ 1000000) = true) (c28 : ((Lib.compareBytes (lprintG (setG x0)) (lprintG (setG x1))) == (1)) = true) (c36 : ((Lib.compareBytes (lprintG (setG x0)) (lprintG (setG x0))) == (0)) = true) (c39 : lrightPre (parseG (List.drop 0 (List.take (Int.toNat (if (80) < (((List.length x2) : Nat) : Int) then (80) else (((List.length x2) : Nat) : Int))) x2))).1 = true) (c43 : ((lprintG (parseG (List.drop 0 (List.take (Int.toNat (if (80) < (((List.length x2) : Nat) : Int) then (80) else (((List.length x2) : Nat) : Int))) x2))).1) == (List.drop 0 (List.take (Int.toNat (if (80) < (((List.length x2) : Nat) : Int) then (80) else (((List.length x2) : Nat) : Int))) x2))) = true) (c49 : ((parseG (List.drop 0 (List.take (Int.toNat (if (80) < (((List.length x2) : Nat) : Int) then (80) else (((List.length x2) : Nat) : Int))) x2))).2 == (!((List.drop 0 (List.take (Int.toNat (if (80) < (((List.length x2) : Nat) : Int) then (80) else (((List.length x2) : Nat) : Int))) x2)) == ([] : List UInt8)))) = true) (c51 : (parseG (List.drop 0 (List.take (Int.toNat (if (80) < (((List.length x2) : Nat) : Int) then (80) else (((List.length x2) : Nat) : Int))) x2))).2 = true) : (evCall F S18 (m + 25) 4 [(.agg [(.d (.sl (.int .i64) x0.1)), (.d (.sl (.int .i64) x0.2))]), (.agg [(.d (.sl (.int .i64) x1.1)), (.d (.sl (.int .i64) x1.2))]), (.d (.str x2))] []).run = some (.d (.bool true), []) := by
  refine runT_ok (LS := (fun k => none)) (fn := fn4) (r := .d (.bool true)) (B' := []) (vis := []) (by kernel_rfl) rfl (by kernel_rfl) (M.run_of_path _ [true, true, true, true, true, false, false, false, true, false, false, false, false, false, false, false, false, true, false, false, false, false, true, true, true, true, true, true, true, true, true, true, true, true, true, true, true, true, true, true, true, true, true, true, true, true, true, true, true, true, true, true, true, true, true, true, true, true, true] _ _ (by kernel_rfl) (all_t rfl (all_t rfl (all_t c2 (all_t c3 (all_t c4 (all_nt c5 (all_nt c5 (all_nt c5 (all_t c8 (all_nt c5 (all_nt c5 (all_nt c11 (all_nt c11 (all_nt c11 (all_nt c11 (all_nt c11 (all_nt c11 (all_t c17 (all_nt c11 (all_nt c11 (all_nt c20 (all_f c21 (all_nf c22 (all_t c23 (all_t c24 (all_t c2 (all_t c3 (all_t rfl (all_t c28 (all_t c28 (all_t c28 (all_t c2 (all_t c2 (all_t rfl (all_t c28 (all_t c28 (all_t c36 (all_t c36 (all_t c36 (all_t c39 (all_t c36 (all_t c36 (all_t c36 (all_t c43 (all_t c43 (all_t c36 (all_t c43 (all_t c36 (all_t c36 (all_t c49 (all_t c49 (all_t c51 (all_t c51 (all_t c51 (all_t c49 (all_t c51 (all_t c49 (all_t rfl (all_t rfl all_nil)))))))))))))))))))))))))))))))))))))))))))))))))))))))))))) ?_
  intro p hp; cases hp

set_option maxHeartbeats 20000000 in
theorem lback_w9 (m : Nat) (x0 : (List Int) × (List Int)) (x1 : (List Int) × (List Int)) (x2 : List UInt8) (c2 : lrightPre (setG x0) = true) (c3 : lrightPre (setG x1) = true) (c4 : decide (List.length (lprintG (setG x0)) ≤ 1000000) = true) (c5 : (parseG (lprintG (setG x0))).2 = true) (c8 : decide (List.length (parseG (lprintG (setG x0))).1 < 4611686018427387904) = true) (c11 : ((show List ((List UInt8) × (List UInt8)) from (parseG (lprintG (setG x0))).1) == (setG x0)) = true) (c17 : decide (List.length (setG x0) < 4611686018427387904) = true) (c20 : (((lprintG (setG x0)) == (lprintG (setG x1))) == ((show List ((List UInt8) × (List UInt8)) from (setG x0)) == (setG x1))) = true) (c21 : ¬ (Op.bytesLess (lprintG (setG x0)) (lprintG (setG x1))) = true) (c22 : ¬ (Op.bytesLess (lprintG (setG x0)) (lprintG (setG x1)) || (lprintG (setG x0)) == (lprintG (setG x1))) = true) (c23 : (decide (0 ≤ (if (80) < (((List.length x2) : Nat) : Int) then (80) else (((List.length x2) : Nat) : Int))) && decide ((if (80) < (((List.length x2) : Nat) : Int) then (80) else (((List.length x2) : Nat) : Int)) ≤ (((List.length x2) : Nat) : Int))) = true) (c24 : decide (List.length (List.drop 0 (List.take (Int.toNat (if (80) < (((List.length x2) : Nat) : Int) then (80) else (((List.length x2) : Nat) : Int))) x2)) ≤ 1000000) = true) (c28 : ((Lib.compareBytes (lprintG (setG x0)) (lprintG (setG x1))) == (1)) = true) (c36 : ((Lib.compareBytes (lprintG (setG x0)) (lprintG (setG x0))) == (0)) = true) (c39 : lrightPre (parseG (List.drop 0 (List.take (Int.toNat (if (80) < (((List.length x2) : Nat) : Int) then (80) else (((List.length x2) : Nat) : Int))) x2))).1 = true) (c43 : ((lprintG (parseG (List.drop 0 (List.take (Int.toNat (if (80) < (((List.length x2) : Nat) : Int) then (80) else (((List.length x2) : Nat) : Int))) x2))).1) == (List.drop 0 (List.take (Int.toNat (if (80) < (((List.length x2) : Nat) : Int) then (80) else (((List.length x2) : Nat) : Int))) x2))) = true) (c49 : ((parseG (List.drop 0 (List.take (Int.toNat (if (80) < (((List.length x2) : Nat) : Int) then (80) else (((List.length x2) : Nat) : Int))) x2))).2 == (!((List.drop 0 (List.take (Int.toNat (if (80) < (((List.length x2) : Nat) : Int) then (80) else (((List.length x2) : Nat) : Int))) x2)) == ([] : List UInt8)))) = true) (c51 : ¬ (parseG (List.drop 0 (List.take (Int.toNat (if (80) < (((List.length x2) : Nat) : Int) then (80) else (((List.length x2) : Nat) : Int))) x2))).2 = true) (c57 : ((((List.length (parseG (List.drop 0 (List.take (Int.toNat (if (80) < (((List.length x2) : Nat) : Int) then (80) else (((List.length x2) : Nat) : Int))) x2))).1) : Nat) : Int) == (0)) = true) : (evCall F S18 (m + 25) 4 [(.agg [(.d (.sl (.int .i64) x0.1)), (.d (.sl (.int .i64) x0.2))]), (.agg [(.d (.sl (.int .i64) x1.1)), (.d (.sl (.int .i64) x1.2))]), (.d (.str x2))] []).run = some (.d (.bool true), []) := by
  refine runT_ok (LS := (fun k => none)) (fn := fn4) (r := .d (.bool true)) (B' := []) (vis := []) (by kernel_rfl) rfl (by kernel_rfl) (M.run_of_path _ [true, true, true, true, true, false, false, false, true, false, false, false, false, false, false, false, false, true, false, false, false, false, true, true, true, true, true, true, true, true, true, true, true, true, true, true, true, true, true, true, true, true, true, true, true, true, true, true, true, true, true, false, false, false, true, false, true, true, true] _ _ (by kernel_rfl) (all_t rfl (all_t rfl (all_t c2 (all_t c3 (all_t c4 (all_nt c5 (all_nt c5 (all_nt c5 (all_t c8 (all_nt c5 (all_nt c5 (all_nt c11 (all_nt c11 (all_nt c11 (all_nt c11 (all_nt c11 (all_nt c11 (all_t c17 (all_nt c11 (all_nt c11 (all_nt c20 (all_f c21 (all_nf c22 (all_t c23 (all_t c24 (all_t c2 (all_t c3 (all_t rfl (all_t c28 (all_t c28 (all_t c28 (all_t c2 (all_t c2 (all_t rfl (all_t c28 (all_t c28 (all_t c36 (all_t c36 (all_t c36 (all_t c39 (all_t c36 (all_t c36 (all_t c36 (all_t c43 (all_t c43 (all_t c36 (all_t c43 (all_t c36 (all_t c36 (all_t c49 (all_t c49 (all_f c51 (all_f c51 (all_f c51 (all_t c49 (all_f c51 (all_t c49 (all_t c57 (all_t c57 all_nil)))))))))))))))))))))))))))))))))))))))))))))))))))))))))))) ?_
  intro p hp; cases hp

set_option maxHeartbeats 20000000 in
theorem lback_w10 (m : Nat) (x0 : (List Int) × (List Int)) (x1 : (List Int) × (List Int)) (x2 : List UInt8) (c2 : lrightPre (setG x0) = true) (c3 : lrightPre (setG x1) = true) (c4 : decide (List.length (lprintG (setG x0)) ≤ 1000000) = true) (c5 : (parseG (lprintG (setG x0))).2 = true) (c8 : decide (List.length (parseG (lprintG (setG x0))).1 < 4611686018427387904) = true) (c11 : ((show List ((List UInt8) × (List UInt8)) from (parseG (lprintG (setG x0))).1) == (setG x0)) = true) (c17 : decide (List.length (setG x0) < 4611686018427387904) = true) (c20 : (((lprintG (setG x0)) == (lprintG (setG x1))) == ((show List ((List UInt8) × (List UInt8)) from (setG x0)) == (setG x1))) = true) (c21 : ¬ (Op.bytesLess (lprintG (setG x0)) (lprintG (setG x1))) = true) (c22 : ¬ (Op.bytesLess (lprintG (setG x0)) (lprintG (setG x1)) || (lprintG (setG x0)) == (lprintG (setG x1))) = true) (c23 : (decide (0 ≤ (if (80) < (((List.length x2) : Nat) : Int) then (80) else (((List.length x2) : Nat) : Int))) && decide ((if (80) < (((List.length x2) : Nat) : Int) then (80) else (((List.length x2) : Nat) : Int)) ≤ (((List.length x2) : Nat) : Int))) = true) (c24 : decide (List.length (List.drop 0 (List.take (Int.toNat (if (80) < (((List.length x2) : Nat) : Int) then (80) else (((List.length x2) : Nat) : Int))) x2)) ≤ 1000000) = true) (c28 : ((Lib.compareBytes (lprintG (setG x0)) (lprintG (setG x1))) == (1)) = true) (c36 : ((Lib.compareBytes (lprintG (setG x0)) (lprintG (setG x0))) == (0)) = true) (c39 : lrightPre (parseG (List.drop 0 (List.take (Int.toNat (if (80) < (((List.length x2) : Nat) : Int) then (80) else (((List.length x2) : Nat) : Int))) x2))).1 = true) (c43 : ¬ ((lprintG (parseG (List.drop 0 (List.take (Int.toNat (if (80) < (((List.length x2) : Nat) : Int) then (80) else (((List.length x2) : Nat) : Int))) x2))).1) == (List.drop 0 (List.take (Int.toNat (if (80) < (((List.length x2) : Nat) : Int) then (80) else (((List.length x2) : Nat) : Int))) x2))) = true) (c49 : ((parseG (List.drop 0 (List.take (Int.toNat (if (80) < (((List.length x2) : Nat) : Int) then (80) else (((List.length x2) : Nat) : Int))) x2))).2 == false) = true) (c51 : (parseG (List.drop 0 (List.take (Int.toNat (if (80) < (((List.length x2) : Nat) : Int) then (80) else (((List.length x2) : Nat) : Int))) x2))).2 = true) : (evCall F S18 (m + 25) 4 [(.agg [(.d (.sl (.int .i64) x0.1)), (.d (.sl (.int .i64) x0.2))]), (.agg [(.d (.sl (.int .i64) x1.1)), (.d (.sl (.int .i64) x1.2))]), (.d (.str x2))] []).run = some (.d (.bool true), []) := by
  refine runT_ok (LS := (fun k => none)) (fn := fn4) (r := .d (.bool true)) (B' := []) (vis := []) (by kernel_rfl) rfl (by kernel_rfl) (M.run_of_path _ [true, true, true, true, true, false, false, false, true, false, false, false, false, false, false, false, false, true, false, false, false, false, true, true, true, true, true, true, true, true, true, true, true, true, true, true, true, true, true, true, true, true, true, false, false, true, false, true, true, true, true, true, true, true, true, true, true, true, true] _ _ (by kernel_rfl) (all_t rfl (all_t rfl (all_t c2 (all_t c3 (all_t c4 (all_nt c5 (all_nt c5 (all_nt c5 (all_t c8 (all_nt c5 (all_nt c5 (all_nt c11 (all_nt c11 (all_nt c11 (all_nt c11 (all_nt c11 (all_nt c11 (all_t c17 (all_nt c11 (all_nt c11 (all_nt c20 (all_f c21 (all_nf c22 (all_t c23 (all_t c24 (all_t c2 (all_t c3 (all_t rfl (all_t c28 (all_t c28 (all_t c28 (all_t c2 (all_t c2 (all_t rfl (all_t c28 (all_t c28 (all_t c36 (all_t c36 (all_t c36 (all_t c39 (all_t c36 (all_t c36 (all_t c36 (all_f c43 (all_f c43 (all_t c36 (all_f c43 (all_t c36 (all_t c36 (all_t c49 (all_t c49 (all_t c51 (all_t c51 (all_t c51 (all_t c49 (all_t c51 (all_t c49 (all_t rfl (all_t rfl all_nil)))))))))))))))))))))))))))))))))))))))))))))))))))))))))))) ?_
  intro p hp; cases hp

set_option maxHeartbeats 20000000 in
theorem lback_w11 (m : Nat) (x0 : (List Int) × (List Int)) (x1 : (List Int) × (List Int)) (x2 : List UInt8) (c2 : lrightPre (setG x0) = true) (c3 : lrightPre (setG x1) = true) (c4 : decide (List.length (lprintG (setG x0)) ≤ 1000000) = true) (c5 : (parseG (lprintG (setG x0))).2 = true) (c8 : decide (List.length (parseG (lprintG (setG x0))).1 < 4611686018427387904) = true) (c11 : ((show List ((List UInt8) × (List UInt8)) from (parseG (lprintG (setG x0))).1) == (setG x0)) = true) (c17 : decide (List.length (setG x0) < 4611686018427387904) = true) (c20 : (((lprintG (setG x0)) == (lprintG (setG x1))) == ((show List ((List UInt8) × (List UInt8)) from (setG x0)) == (setG x1))) = true) (c21 : ¬ (Op.bytesLess (lprintG (setG x0)) (lprintG (setG x1))) = true) (c22 : ¬ (Op.bytesLess (lprintG (setG x0)) (lprintG (setG x1)) || (lprintG (setG x0)) == (lprintG (setG x1))) = true) (c23 : (decide (0 ≤ (if (80) < (((List.length x2) : Nat) : Int) then (80) else (((List.length x2) : Nat) : Int))) && decide ((if (80) < (((List.length x2) : Nat) : Int) then (80) else (((List.length x2) : Nat) : Int)) ≤ (((List.length x2) : Nat) : Int))) = true) (c24 : decide (List.length (List.drop 0 (List.take (Int.toNat (if (80) < (((List.length x2) : Nat) : Int) then (80) else (((List.length x2) : Nat) : Int))) x2)) ≤ 1000000) = true) (c28 : ((Lib.compareBytes (lprintG (setG x0)) (lprintG (setG x1))) == (1)) = true) (c36 : ((Lib.compareBytes (lprintG (setG x0)) (lprintG (setG x0))) == (0)) = true) (c39 : lrightPre (parseG (List.drop 0 (List.take (Int.toNat (if (80) < (((List.length x2) : Nat) : Int) then (80) else (((List.length x2) : Nat) : Int))) x2))).1 = true) (c43 : ¬ ((lprintG (parseG (List.drop 0 (List.take (Int.toNat (if (80) < (((List.length x2) : Nat) : Int) then (80) else (((List.length x2) : Nat) : Int))) x2))).1) == (List.drop 0 (List.take (Int.toNat (if (80) < (((List.length x2) : Nat) : Int) then (80) else (((List.length x2) : Nat) : Int))) x2))) = true) (c49 : ((parseG (List.drop 0 (List.take (Int.toNat (if (80) < (((List.length x2) : Nat) : Int) then (80) else (((List.length x2) : Nat) : Int))) x2))).2 == false) = true) (c51 : ¬ (parseG (List.drop 0 (List.take (Int.toNat (if (80) < (((List.length x2) : Nat) : Int) then (80) else (((List.length x2) : Nat) : Int))) x2))).2 = true) (c57 : ((((List.length (parseG (List.drop 0 (List.take (Int.toNat (if (80) < (((List.length x2) : Nat) : Int) then (80) else (((List.length x2) : Nat) : Int))) x2))).1) : Nat) : Int) == (0)) = true) : (evCall F S18 (m + 25) 4 [(.agg [(.d (.sl (.int .i64) x0.1)), (.d (.sl (.int .i64) x0.2))]), (.agg [(.d (.sl (.int .i64) x1.1)), (.d (.sl (.int .i64) x1.2))]), (.d (.str x2))] []).run = some (.d (.bool true), []) := by
  refine runT_ok (LS := (fun k => none)) (fn := fn4) (r := .d (.bool true)) (B' := []) (vis := []) (by kernel_rfl) rfl (by kernel_rfl) (M.run_of_path _ [true, true, true, true, true, false, false, false, true, false, false, false, false, false, false, false, false, true, false, false, false, false, true, true, true, true, true, true, true, true, true, true, true, true, true, true, true, true, true, true, true, true, true, false, false, true, false, true, true, true, true, false, false, false, true, false, true, true, true] _ _ (by kernel_rfl) (all_t rfl (all_t rfl (all_t c2 (all_t c3 (all_t c4 (all_nt c5 (all_nt c5 (all_nt c5 (all_t c8 (all_nt c5 (all_nt c5 (all_nt c11 (all_nt c11 (all_nt c11 (all_nt c11 (all_nt c11 (all_nt c11 (all_t c17 (all_nt c11 (all_nt c11 (all_nt c20 (all_f c21 (all_nf c22 (all_t c23 (all_t c24 (all_t c2 (all_t c3 (all_t rfl (all_t c28 (all_t c28 (all_t c28 (all_t c2 (all_t c2 (all_t rfl (all_t c28 (all_t c28 (all_t c36 (all_t c36 (all_t c36 (all_t c39 (all_t c36 (all_t c36 (all_t c36 (all_f c43 (all_f c43 (all_t c36 (all_f c43 (all_t c36 (all_t c36 (all_t c49 (all_t c49 (all_f c51 (all_f c51 (all_f c51 (all_t c49 (all_f c51 (all_t c49 (all_t c57 (all_t c57 all_nil)))))))))))))))))))))))))))))))))))))))))))))))))))))))))))) ?_
  intro p hp; cases hp

set_option maxHeartbeats 20000000 in
theorem lback_ok (m : Nat) (x0 : (List Int) × (List Int)) (x1 : (List Int) × (List Int)) (x2 : List UInt8) (q : Unit) (h : lback m x0 x1 x2 = some q) : (evCall F S18 (m + 25) 4 [(.agg [(.d (.sl (.int .i64) x0.1)), (.d (.sl (.int .i64) x0.2))]), (.agg [(.d (.sl (.int .i64) x1.1)), (.d (.sl (.int .i64) x1.2))]), (.d (.str x2))] []).run = some (.d (.bool true), []) := by
  unfold lback at h
  refine ite_cases h (fun c2 h => ?_) (fun c2 h => ?_)
  · skip
    refine ite_cases h (fun c3 h => ?_) (fun c3 h => ?_)
    · skip
      refine ite_cases h (fun c4 h => ?_) (fun c4 h => ?_)
      · skip
        refine ite_cases h (fun c5 h => ?_) (fun c5 h => ?_)
        · skip
          refine ite_cases h (fun c8 h => ?_) (fun c8 h => ?_)
          · skip
            refine ite_cases h (fun c11 h => ?_) (fun c11 h => ?_)
            · skip
              refine ite_cases h (fun c17 h => ?_) (fun c17 h => ?_)
              · skip
                refine ite_cases h (fun c20 h => ?_) (fun c20 h => ?_)
                · skip
                  refine ite_cases h (fun c21 h => ?_) (fun c21 h => ?_)
                  · skip
                    refine ite_cases h (fun c22 h => ?_) (fun c22 h => ?_)
                    · skip
                      refine ite_cases h (fun c23 h => ?_) (fun c23 h => ?_)
                      · skip
                        refine ite_cases h (fun c27 h => ?_) (fun c27 h => ?_)
                        · skip
                          refine ite_cases h (fun c35 h => ?_) (fun c35 h => ?_)
                          · skip
                            refine ite_cases h (fun c38 h => ?_) (fun c38 h => ?_)
                            · skip
                              refine ite_cases h (fun c42 h => ?_) (fun c42 h => ?_)
                              · skip
                                refine ite_cases h (fun c48 h => ?_) (fun c48 h => ?_)
                                · skip
                                  refine ite_cases h (fun c50 h => ?_) (fun c50 h => ?_)
                                  · skip
                                    cases h
                                    exact lback_w0 m x0 x1 x2 c2 c3 c4 c5 c8 c11 c17 c20 c21 c22 c23 c27 c35 c38 c42 c48 c50
                                  · skip
                                    refine ite_cases h (fun c56 h => ?_) (fun c56 h => ?_)
                                    · skip
                                      cases h
                                      exact lback_w1 m x0 x1 x2 c2 c3 c4 c5 c8 c11 c17 c20 c21 c22 c23 c27 c35 c38 c42 c48 c50 c56
                                    · skip
                                      cases h
                                · skip
                                  cases h
                              · skip
                                refine ite_cases h (fun c48 h => ?_) (fun c48 h => ?_)
                                · skip
                                  refine ite_cases h (fun c50 h => ?_) (fun c50 h => ?_)
                                  · skip
                                    cases h
                                    exact lback_w2 m x0 x1 x2 c2 c3 c4 c5 c8 c11 c17 c20 c21 c22 c23 c27 c35 c38 c42 c48 c50
                                  · skip
                                    refine ite_cases h (fun c56 h => ?_) (fun c56 h => ?_)
                                    · skip
                                      cases h
                                      exact lback_w3 m x0 x1 x2 c2 c3 c4 c5 c8 c11 c17 c20 c21 c22 c23 c27 c35 c38 c42 c48 c50 c56
                                    · skip
                                      cases h
                                · skip
                                  cases h
                            · skip
                              cases h
                          · skip
                            cases h
                        · skip
                          cases h
                      · skip
                        cases h
                    · skip
                      cases h
                  · skip
                    refine ite_cases h (fun c22 h => ?_) (fun c22 h => ?_)
                    · skip
                      refine ite_cases h (fun c23 h => ?_) (fun c23 h => ?_)
                      · skip
                        refine ite_cases h (fun c24 h => ?_) (fun c24 h => ?_)
                        · skip
                          refine ite_cases h (fun c28 h => ?_) (fun c28 h => ?_)
                          · skip
                            refine ite_cases h (fun c36 h => ?_) (fun c36 h => ?_)
                            · skip
                              refine ite_cases h (fun c39 h => ?_) (fun c39 h => ?_)
                              · skip
                                refine ite_cases h (fun c43 h => ?_) (fun c43 h => ?_)
                                · skip
                                  refine ite_cases h (fun c49 h => ?_) (fun c49 h => ?_)
                                  · skip
                                    refine ite_cases h (fun c51 h => ?_) (fun c51 h => ?_)
                                    · skip
                                      cases h
                                      exact lback_w4 m x0 x1 x2 c2 c3 c4 c5 c8 c11 c17 c20 c21 c22 c23 c24 c28 c36 c39 c43 c49 c51
                                    · skip
                                      refine ite_cases h (fun c57 h => ?_) (fun c57 h => ?_)
                                      · skip
                                        cases h
                                        exact lback_w5 m x0 x1 x2 c2 c3 c4 c5 c8 c11 c17 c20 c21 c22 c23 c24 c28 c36 c39 c43 c49 c51 c57
                                      · skip
                                        cases h
                                  · skip
                                    cases h
                                · skip
                                  refine ite_cases h (fun c49 h => ?_) (fun c49 h => ?_)
                                  · skip
                                    refine ite_cases h (fun c51 h => ?_) (fun c51 h => ?_)
                                    · skip
                                      cases h
                                      exact lback_w6 m x0 x1 x2 c2 c3 c4 c5 c8 c11 c17 c20 c21 c22 c23 c24 c28 c36 c39 c43 c49 c51
                                    · skip
                                      refine ite_cases h (fun c57 h => ?_) (fun c57 h => ?_)
                                      · skip
                                        cases h
                                        exact lback_w7 m x0 x1 x2 c2 c3 c4 c5 c8 c11 c17 c20 c21 c22 c23 c24 c28 c36 c39 c43 c49 c51 c57
                                      · skip
                                        cases h
                                  · skip
                                    cases h
                              · skip
                                cases h
                            · skip
                              cases h
                          · skip
                            cases h
                        · skip
                          cases h
                      · skip
                        cases h
                    · skip
                      refine ite_cases h (fun c23 h => ?_) (fun c23 h => ?_)
                      · skip
                        refine ite_cases h (fun c24 h => ?_) (fun c24 h => ?_)
                        · skip
                          refine ite_cases h (fun c28 h => ?_) (fun c28 h => ?_)
                          · skip
                            refine ite_cases h (fun c36 h => ?_) (fun c36 h => ?_)
                            · skip
                              refine ite_cases h (fun c39 h => ?_) (fun c39 h => ?_)
                              · skip
                                refine ite_cases h (fun c43 h => ?_) (fun c43 h => ?_)
                                · skip
                                  refine ite_cases h (fun c49 h => ?_) (fun c49 h => ?_)
                                  · skip
                                    refine ite_cases h (fun c51 h => ?_) (fun c51 h => ?_)
                                    · skip
                                      cases h
                                      exact lback_w8 m x0 x1 x2 c2 c3 c4 c5 c8 c11 c17 c20 c21 c22 c23 c24 c28 c36 c39 c43 c49 c51
                                    · skip
                                      refine ite_cases h (fun c57 h => ?_) (fun c57 h => ?_)
                                      · skip
                                        cases h
                                        exact lback_w9 m x0 x1 x2 c2 c3 c4 c5 c8 c11 c17 c20 c21 c22 c23 c24 c28 c36 c39 c43 c49 c51 c57
                                      · skip
                                        cases h
                                  · skip
                                    cases h
                                · skip
                                  refine ite_cases h (fun c49 h => ?_) (fun c49 h => ?_)
                                  · skip
                                    refine ite_cases h (fun c51 h => ?_) (fun c51 h => ?_)
                                    · skip
                                      cases h
                                      exact lback_w10 m x0 x1 x2 c2 c3 c4 c5 c8 c11 c17 c20 c21 c22 c23 c24 c28 c36 c39 c43 c49 c51
                                    · skip
                                      refine ite_cases h (fun c57 h => ?_) (fun c57 h => ?_)
                                      · skip
                                        cases h
                                        exact lback_w11 m x0 x1 x2 c2 c3 c4 c5 c8 c11 c17 c20 c21 c22 c23 c24 c28 c36 c39 c43 c49 c51 c57
                                      · skip
                                        cases h
                                  · skip
                                    cases h
                              · skip
                                cases h
                            · skip
                              cases h
                          · skip
                            cases h
                        · skip
                          cases h
                      · skip
                        cases h
                · skip
                  cases h
              · skip
                cases h
            · skip
              cases h
          · skip
            cases h
        · skip
          cases h
      · skip
        cases h
    · skip
      cases h
  · skip
    cases h
theorem lback_at (x0 : (List Int) × (List Int)) (x1 : (List Int) × (List Int)) (x2 : List UInt8) (h : ∃ m q, lback m x0 x1 x2 = some q) : ∃ g B', CallAt Tryd.prog 4 g ∧ (g [(.agg [(.d (.sl (.int .i64) x0.1)), (.d (.sl (.int .i64) x0.2))]), (.agg [(.d (.sl (.int .i64) x1.1)), (.d (.sl (.int .i64) x1.2))]), (.d (.str x2))] []).run = some (.d (.bool true), B') := by
  obtain ⟨m, q, h⟩ := h
  exact ⟨_, _, evCall_atH mixed kinds hds S18 S18_ok (m + 25) 4, lback_ok m x0 x1 x2 q h⟩

end Go.Proofs.YtcdpgldecikejaaDoor.Dec
namespace Go.Proofs.YtcdpgldecikejaaDoor.Dec
open Go.Ev
set_option linter.unusedVariables false
set_option linter.unusedSimpArgs false
set_option maxRecDepth 100000
theorem less_cmp : ∀ a b : List UInt8, Op.bytesLess a b = decide (Lib.compareBytes a b = -1)
  | [], [] => rfl
  | [], _ :: _ => rfl
  | _ :: _, [] => rfl
  | a :: x, b :: y => by
    rw [Op.bytesLess, Lib.compareBytes]
    by_cases h1 : a < b
    · rw [if_pos h1, decide_eq_true h1]; rfl
    · by_cases h2 : b < a
      · have e : (a == b) = false := by
          rw [beq_eq_false_iff_ne]; intro e; rw [e, UInt8.lt_iff_toNat_lt] at h2; omega
        rw [if_neg h1, if_pos h2, decide_eq_false h1, e]; rfl
      · have e : a = b := by
          rw [UInt8.lt_iff_toNat_lt] at h1 h2
          exact UInt8.toNat_inj.1 (by omega)
        rw [if_neg h1, if_neg h2, ← less_cmp x y, decide_eq_false h1, e, beq_self_eq_true, Bool.false_or, Bool.true_and]
theorem cut_name : ∀ (n r : List UInt8), n.all innerB = true → cutE (n ++ 61 :: r) = (n, r)
  | [], r, _ => by rw [List.nil_append, cutE, if_pos (by decide)]
  | c :: n, r, h => by
    rw [List.all_cons, Bool.and_eq_true] at h
    have hc : (c == 61) = false := by
      rw [beq_eq_false_iff_ne]; intro e; rw [e] at h; exact absurd h.1 (by decide)
    rw [List.cons_append, cutE, if_neg (by rw [hc]; decide), cut_name n r h.2]
theorem unqT_esc : ∀ (v r acc : List UInt8), unqT (v.flatMap escB ++ 34 :: r) acc = some (acc ++ v, r)
  | [], r, acc => by rw [List.flatMap_nil, List.nil_append, unqT_q (by decide), List.append_nil]
  | c :: v, r, acc => by
    rw [List.flatMap_cons, List.append_assoc]
    by_cases hc : UInt8.toNat c = 34 ∨ UInt8.toNat c = 92
    · rw [escB_sp hc]
      show unqT (92 :: c :: (v.flatMap escB ++ 34 :: r)) acc = _
      rw [unqT_b (by decide), unqT_esc v, List.append_assoc]; rfl
    · rw [escB_no hc]
      show unqT (c :: (v.flatMap escB ++ 34 :: r)) acc = _
      rw [unqT_o (fun e => hc (.inl e)) (fun e => hc (.inr e)), unqT_esc v, List.append_assoc]; rfl
theorem unqG_quote (v r : List UInt8) : unqG (quoteG v ++ r) = (v, r, true) := by
  rw [quote_app, unqG, unqT_esc]
  rfl
theorem item_cut (x : (List UInt8) × (List UInt8)) (r : List UInt8) (h : wordG x.1 = true) : cutE (litemG x ++ r) = (x.1, quoteG x.2 ++ r) := by
  unfold litemG
  rw [List.append_assoc, List.append_assoc]
  exact cut_name _ _ (word_inner h).1
theorem item_ne (x : (List UInt8) × (List UInt8)) (r : List UInt8) (l : LB) (h : wordG x.1 = true) (hl : l.length ≤ 6) : ¬ (litemG x ++ r = [] ∨ litemG x ++ r = [125] ∨ 6 < l.length) := by
  obtain ⟨a, t, e, ha⟩ := litem_hd x h
  rw [e]
  rintro (h | h | h)
  · cases h
  · rw [(List.cons.inj h).1] at ha
    revert ha; decide
  · omega
theorem par_join : ∀ (xs : LB) (j : Nat) (l : LB), xs.length < j → l.length + xs.length ≤ 6 → (∀ x ∈ xs, wordG x.1 = true) → parR j (tailJ litemG xs []) l = some (l ++ xs)
  | _, 0, _, h, _, _ => by omega
  | [], j + 1, l, _, _, _ => by rw [parR, tailJ_nil, if_pos (.inr (.inl rfl)), List.append_nil]
  | [x], j + 1, l, h1, h2, h3 => by
    have hw := h3 x (List.mem_cons_self ..)
    rw [List.length_singleton] at h1 h2
    cases j with
    | zero => omega
    | succ j =>
      rw [tailJ_one, parR, if_neg (item_ne x _ l hw (by omega)), item_cut x _ hw, unqG_quote, if_pos rfl]
      show parR (j + 1) [125] (l ++ [x]) = _
      rw [parR, if_pos (.inr (.inl rfl))]
  | x :: y :: xs, j + 1, l, h1, h2, h3 => by
    have hw := h3 x (List.mem_cons_self ..)
    rw [List.length_cons] at h1 h2
    rw [tailJ_two, parR, if_neg (item_ne x _ l hw (by omega)), item_cut x _ hw, unqG_quote, if_pos rfl]
    show parR j (tailJ litemG (y :: xs) []) (l ++ [x]) = _
    rw [par_join (y :: xs) j (l ++ [x]) (by omega) (by rw [List.length_append, List.length_singleton]; omega) (fun z hz => h3 z (List.mem_cons_of_mem _ hz)), List.append_assoc]
    rfl
theorem parse_print {l : LB} (h : lrightG l = true) : parseG (lprintG l) = (l, true) := by
  have h6 := (lright_all h).1
  have e : trimP (lprintG l) = tailJ litemG l [] := by
    rw [lprint_eq h]; rfl
  have ne : (lprintG l == ([] : List UInt8)) = false := by rw [lprint_eq h]; rfl
  unfold parseG
  rw [e, par_join l 8 [] (by omega) (by rw [List.length_nil]; omega) (lright_words h), List.nil_append]
  show (if (lprintG l == ([] : List UInt8)) = true then (([] : LB), false) else if (lprintG l == lprintG l) = true then (l, true) else (([] : LB), false)) = _
  rw [ne, if_neg (by decide), if_pos (beq_self_eq_true _)]
theorem lprint_len {l : LB} (h : lrightG l = true) : (lprintG l).length ≤ 1000000 := by
  have ha := lright_all h
  have := inter_le [44] 100 (l.map litemG) (by
    intro z hz
    obtain ⟨x, hx, rfl⟩ := List.mem_map.1 hz
    exact litem_le (ha.2 x hx))
  rw [List.length_map, List.length_singleton] at this
  unfold lprintG
  rw [if_pos h, List.length_append, List.length_append, List.length_singleton, List.length_singleton]
  have : l.length * (100 + 1) ≤ 6 * (100 + 1) := Nat.mul_le_mul_right _ ha.1
  omega
theorem parse_fact (s : List UInt8) : lrightPre (parseG s).1 = true ∧ (((parseG s).2 = true ∧ (lprintG (parseG s).1 == s) = true ∧ (s == ([] : List UInt8)) = false) ∨ ((parseG s).2 = false ∧ (lprintG (parseG s).1 == s) = false ∧ (parseG s).1 = [])) := by
  have h0 : parseG [123, 125] = ([], true) := by decide
  have no : (parseG s).2 = false → (parseG s).1 = [] → lrightPre (parseG s).1 = true ∧ (((parseG s).2 = true ∧ (lprintG (parseG s).1 == s) = true ∧ (s == ([] : List UInt8)) = false) ∨ ((parseG s).2 = false ∧ (lprintG (parseG s).1 == s) = false ∧ (parseG s).1 = [])) := by
    intro a b
    rw [b]
    refine ⟨rfl, .inr ⟨a, ?_, rfl⟩⟩
    rw [beq_eq_false_iff_ne]
    intro e
    have e1 : lprintG [] = [123, 125] := by decide
    rw [e1] at e
    rw [← e, h0] at a
    cases a
  generalize hw : parseG s = w at *
  unfold parseG at hw
  cases hp : parR 8 (trimP s) [] with
  | none => rw [hp] at hw; subst hw; exact no rfl rfl
  | some l =>
    rw [hp] at hw
    replace hw : (if (s == ([] : List UInt8)) = true then (([] : LB), false) else if (lprintG l == s) = true then (l, true) else (([] : LB), false)) = w := hw
    cases c1 : s == ([] : List UInt8) with
    | true => rw [c1, if_pos rfl] at hw; subst hw; rw [c1] at no; exact no rfl rfl
    | false =>
      rw [c1, if_neg (by decide)] at hw
      cases c2 : lprintG l == s with
      | false => rw [c2, if_neg (by decide)] at hw; subst hw; rw [c1] at no; exact no rfl rfl
      | true =>
        rw [c2, if_pos rfl] at hw
        subst hw
        refine ⟨?_, .inl ⟨rfl, c2, rfl⟩⟩
        have hr : lrightG l = true := by
          cases hr : lrightG l with
          | true => rfl
          | false =>
            have : lprintG l = [] := by unfold lprintG; rw [hr]; rfl
            rw [this, beq_iff_eq] at c2
            rw [← c2] at c1
            cases c1
        exact set4_pre hr
theorem lback_pure (x0 x1 : List Int × List Int) (x2 : List UInt8) : ∃ m q, lback m x0 x1 x2 = some q := by
  refine ⟨100, (), ?_⟩
  unfold lback
  skip
  have hR : ∀ k : List Int × List Int, lrightG (setG k) = true := by
    intro k
    obtain ⟨h0, h1, h2, v0, v1, v2, hl, b0, b1, b2⟩ := setG_of k
    rw [hl]
    exact set4_right h0 h1 h2 false (v3 := [120]) (val_len b0) (val_len b1) (val_len b2) ⟨by decide, by decide⟩
  have rX := hR x0
  have rY := hR x1
  have c2 : (decide (0 ≤ (if (80) < (((List.length x2) : Nat) : Int) then (80) else (((List.length x2) : Nat) : Int))) && decide ((if (80) < (((List.length x2) : Nat) : Int) then (80) else (((List.length x2) : Nat) : Int)) ≤ (((List.length x2) : Nat) : Int))) = true := by
    split <;> simp <;> omega
  have hO : List.drop 0 (List.take (Int.toNat (if (80) < (((List.length x2) : Nat) : Int) then (80) else (((List.length x2) : Nat) : Int))) x2) = x2.take 80 := by
    rw [List.drop_zero]
    split
    · rfl
    · rw [Int.toNat_natCast, List.take_length, List.take_of_length_le (by omega)]
  have ls : (x2.take 80).length ≤ 80 := by rw [List.length_take]; omega
  simp only [hO, c2]
  generalize x2.take 80 = s at *
  generalize setG x0 = X at *
  generalize setG x1 = Y at *
  have a1 := set4_pre rX
  have a2 := set4_pre rY
  have a3 : decide ((lprintG X).length ≤ 1000000) = true := decide_eq_true (lprint_len rX)
  have a4 := parse_print rX
  have a5 : decide (X.length < 4611686018427387904) = true := decide_eq_true (by have := (lright_all rX).1; omega)
  have a6 : ((lprintG X == lprintG Y) == (X == Y)) = true := by
    rw [beq_iff_eq, Bool.eq_iff_iff, beq_iff_eq, beq_iff_eq]
    exact ⟨fun h => lprint_inj rX rY h, fun h => by rw [h]⟩
  have a7 : decide (s.length ≤ 1000000) = true := decide_eq_true (by omega)
  have a8 : (Lib.compareBytes (lprintG X) (lprintG X) == (0)) = true := by rw [beq_iff_eq]; exact (cmp_zero _ _).2 rfl
  have fin : ∀ o : Bool, o = true → (if lrightPre (parseG s).1 = true then
      (if ((lprintG (parseG s).1) == s) = true then
        (if ((parseG s).2 == (!(s == ([] : List UInt8)))) = true then (if (parseG s).2 = true then some () else (if ((((List.length (parseG s).1) : Nat) : Int) == (0)) = true then some () else none)) else none)
       else
        (if ((parseG s).2 == false) = true then (if (parseG s).2 = true then some () else (if ((((List.length (parseG s).1) : Nat) : Int) == (0)) = true then some () else none)) else none))
      else none) = some () := by
    intro o _
    obtain ⟨f0, ⟨f1, f2, f3⟩ | ⟨f1, f2, f3⟩⟩ := parse_fact s
    · rw [f0, f1, f2, f3]; rfl
    · rw [f0, f1, f2, f3]; rfl
  have fin := fin true rfl
  have cz := cmp_zero (lprintG X) (lprintG Y)
  have ci := cmp_in (lprintG X) (lprintG Y)
  have cl := less_cmp (lprintG X) (lprintG Y)
  simp only [a1, a2, a3, a4, a5, a6, a7, a8, beq_self_eq_true, ↓reduceIte]
  generalize Lib.compareBytes (lprintG X) (lprintG Y) = c at *
  rw [cl]
  by_cases k1 : c = -1
  · rw [decide_eq_true k1, if_pos rfl, if_pos (by rw [beq_iff_eq]; exact k1)]
    exact fin
  · rw [decide_eq_false k1, if_neg (by decide), Bool.false_or]
    by_cases k2 : c = 0
    · rw [if_pos (by rw [beq_iff_eq]; exact cz.1 k2), if_pos (by rw [beq_iff_eq]; exact k2)]
      exact fin
    · rw [if_neg (by rw [beq_iff_eq]; exact fun h => k2 (cz.2 h)), if_pos (by rw [beq_iff_eq]; omega)]
      exact fin
theorem lback_law (x0 x1 : List Int × List Int) (x2 : List UInt8) (_ : Ty.ok (.pair (.sl (.int .i64)) (.sl (.int .i64))) x0) (_ : Ty.ok (.pair (.sl (.int .i64)) (.sl (.int .i64))) x1) (_ : Ty.ok .str x2) : ∃ g B', CallAt Tryd.prog 4 g ∧ (g [argAV true (.pair (.sl (.int .i64)) (.sl (.int .i64))) x0, argAV true (.pair (.sl (.int .i64)) (.sl (.int .i64))) x1, argAV false .str x2] []).run = some (.d (.bool true), B') := lback_at x0 x1 x2 (lback_pure x0 x1 x2)

end Go.Proofs.YtcdpgldecikejaaDoor.Dec
