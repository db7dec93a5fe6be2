/- Next. Put, and the document's own. Get. BlockRuns, reckoned. -/
import Derived.Test.YtghkbjflejgieaaQT5
import Derived.KernelRfl
namespace Go.Proofs.Ytghkbjflejgieaa.Dec
open Go.Ev
set_option linter.unusedVariables false
set_option linter.unusedSimpArgs false
set_option maxRecDepth 100000
noncomputable def fn18 : AFn := (F 18).getD ⟨0, [], .bad, false, false, noHd⟩
noncomputable def body18 : AC := fn18.body
def l18_0 (m : Nat) : Nat → List Int → Int → Int → Int → Option (Nat × Int × Int)
  | 0, _, _, _, _ => none
  | n + 1, x0, s4, s8, s9 => if decide (s9 < s8) = true then
      if decide (0 ≤ s9) = true then
        if decide (s9 < (((List.length x0) : Nat) : Int)) = true then
          if (s9 == (10)) = true then
            some (0, s4, s9)
          else
            if (s9 == (9)) = true then
              if decide ((List.getD x0 (Int.toNat s9) 0) > 1) = true then
                some (1, s4, s9)
              else
                if decide (s9 > 0) = true then
                  if ((List.getD x0 (Int.toNat s9) 0) == (0)) = true then
                    some (2, s4, s9)
                  else
                    if decide (0 ≤ (IntKind.wrap .i64 ((7) * s9))) = true then
                      if decide ((List.getD x0 (Int.toNat s9) 0) < 128) = true then
                        some (3, s4, s9)
                      else
                        l18_0 m n x0 ((IntKind.wrap .u64 ((((BitVec.ofInt 64 s4 ||| BitVec.ofInt 64 (IntKind.wrap .u64 ((IntKind.wrap .u64 (IntKind.wrap .u8 ((((BitVec.ofInt 8 (List.getD x0 (Int.toNat s9) 0) &&& BitVec.ofInt 8 (127)).toNat : Nat) : Int)))) * 2 ^ (min (Int.toNat (IntKind.wrap .i64 ((7) * s9))) 64)))).toNat : Nat) : Int)))) s8 ((IntKind.wrap .i64 (s9 + (1))))
                    else
                      none
                else
                  if decide (0 ≤ (IntKind.wrap .i64 ((7) * s9))) = true then
                    if decide ((List.getD x0 (Int.toNat s9) 0) < 128) = true then
                      some (4, s4, s9)
                    else
                      l18_0 m n x0 ((IntKind.wrap .u64 ((((BitVec.ofInt 64 s4 ||| BitVec.ofInt 64 (IntKind.wrap .u64 ((IntKind.wrap .u64 (IntKind.wrap .u8 ((((BitVec.ofInt 8 (List.getD x0 (Int.toNat s9) 0) &&& BitVec.ofInt 8 (127)).toNat : Nat) : Int)))) * 2 ^ (min (Int.toNat (IntKind.wrap .i64 ((7) * s9))) 64)))).toNat : Nat) : Int)))) s8 ((IntKind.wrap .i64 (s9 + (1))))
                  else
                    none
            else
              if decide (s9 > 0) = true then
                if ((List.getD x0 (Int.toNat s9) 0) == (0)) = true then
                  some (5, s4, s9)
                else
                  if decide (0 ≤ (IntKind.wrap .i64 ((7) * s9))) = true then
                    if decide ((List.getD x0 (Int.toNat s9) 0) < 128) = true then
                      some (6, s4, s9)
                    else
                      l18_0 m n x0 ((IntKind.wrap .u64 ((((BitVec.ofInt 64 s4 ||| BitVec.ofInt 64 (IntKind.wrap .u64 ((IntKind.wrap .u64 (IntKind.wrap .u8 ((((BitVec.ofInt 8 (List.getD x0 (Int.toNat s9) 0) &&& BitVec.ofInt 8 (127)).toNat : Nat) : Int)))) * 2 ^ (min (Int.toNat (IntKind.wrap .i64 ((7) * s9))) 64)))).toNat : Nat) : Int)))) s8 ((IntKind.wrap .i64 (s9 + (1))))
                  else
                    none
              else
                if decide (0 ≤ (IntKind.wrap .i64 ((7) * s9))) = true then
                  if decide ((List.getD x0 (Int.toNat s9) 0) < 128) = true then
                    some (7, s4, s9)
                  else
                    l18_0 m n x0 ((IntKind.wrap .u64 ((((BitVec.ofInt 64 s4 ||| BitVec.ofInt 64 (IntKind.wrap .u64 ((IntKind.wrap .u64 (IntKind.wrap .u8 ((((BitVec.ofInt 8 (List.getD x0 (Int.toNat s9) 0) &&& BitVec.ofInt 8 (127)).toNat : Nat) : Int)))) * 2 ^ (min (Int.toNat (IntKind.wrap .i64 ((7) * s9))) 64)))).toNat : Nat) : Int)))) s8 ((IntKind.wrap .i64 (s9 + (1))))
                else
                  none
        else
          none
      else
        none
    else
      some (8, s4, s9)
def l18_0D : Nat × Int × Int := (0, 0, 0)
@[reducible] def l18_0R (m n : Nat) (x0 : List Int) (s4 : Int) (s8 : Int) (s9 : Int) : Nat × Int × Int := Option.getD (l18_0 m n x0 s4 s8 s9) l18_0D
def l18_0H (x0 : List Int) (s4 : Int) (s8 : Int) (s9 : Int) : Env := [.top, .top, .top, .top, (.d (.int .u64 s4)), .top, .top, (.d (.sl (.int .u8) x0)), (.d (.int .i64 s8)), (.d (.int .i64 s9)), .top, .top, .top, .top, .top, .top, .top, .top, .top, .top, .top, .top, .top, .top, .top, .top, .top, .top, .top, .top, .top, .top, .top, .top, .top, .top, .top, .top, .top, .top, .top, .top, .top, .top, .top, .top, .top, .top, .top, .top, .top, .top, .top]
def l18_0B (x0 : List Int) (s4 : Int) (s8 : Int) (s9 : Int) : Boxes := []
def l18_0E (x0 : List Int) (s4 : Int) (s8 : Int) (s9 : Int) : Nat → AEx × Env × Boxes
  | 0 => (.ret, [.top, .top, (.d (.int .i64 (0))), (.d (.int .i64 (0))), (.d (.int .u64 s4)), (.d (.int .i64 s9)), (.d (.int .u8 (List.getD x0 (Int.toNat s9) 0))), (.d (.sl (.int .u8) x0)), (.d (.int .i64 s8)), (.d (.int .i64 s9)), (.d (.bool (decide (s9 < s8)))), (.d (.int .i64 s9)), (.cptr [(.int .u8 (List.getD x0 (Int.toNat s9) 0))] 0), (.d (.int .u8 (List.getD x0 (Int.toNat s9) 0))), (.d (.int .i64 s9)), (.d (.bool (s9 == (10)))), (.d (.bool (s9 == (10)))), (.tup []), (.tup []), (.tup []), (.tup []), (.tup []), (.tup []), (.d (.bool true)), (.d (.bool true)), (.tup []), (.tup []), (.tup []), (.tup []), (.tup []), (.tup []), (.d (.bool true)), .top, .top, .top, .top, .top, .top, .top, .top, .top, .top, .top, .top, .top, .top, .top, .top, .top, .top, .top, .top, .top], [])
  | 1 => (.ret, [.top, .top, (.d (.int .i64 (0))), (.d (.int .i64 (0))), (.d (.int .u64 s4)), (.d (.int .i64 s9)), (.d (.int .u8 (List.getD x0 (Int.toNat s9) 0))), (.d (.sl (.int .u8) x0)), (.d (.int .i64 s8)), (.d (.int .i64 s9)), (.d (.bool (decide (s9 < s8)))), (.d (.int .i64 s9)), (.cptr [(.int .u8 (List.getD x0 (Int.toNat s9) 0))] 0), (.d (.int .u8 (List.getD x0 (Int.toNat s9) 0))), (.d (.int .i64 s9)), (.d (.bool (s9 == (10)))), (.d (.bool (s9 == (10)))), (.d (.int .i64 s9)), (.d (.bool (s9 == (9)))), (.d (.bool (s9 == (9)))), (.d (.int .u8 (List.getD x0 (Int.toNat s9) 0))), (.d (.bool (decide ((List.getD x0 (Int.toNat s9) 0) > 1)))), (.d (.bool (decide ((List.getD x0 (Int.toNat s9) 0) > 1)))), (.d (.bool (decide ((List.getD x0 (Int.toNat s9) 0) > 1)))), (.d (.bool (decide ((List.getD x0 (Int.toNat s9) 0) > 1)))), (.tup []), (.tup []), (.tup []), (.tup []), (.tup []), (.tup []), (.d (.bool true)), .top, .top, .top, .top, .top, .top, .top, .top, .top, .top, .top, .top, .top, .top, .top, .top, .top, .top, .top, .top, .top], [])
  | 2 => (.ret, [.top, .top, (.d (.int .i64 (0))), (.d (.int .i64 (0))), (.d (.int .u64 s4)), (.d (.int .i64 s9)), (.d (.int .u8 (List.getD x0 (Int.toNat s9) 0))), (.d (.sl (.int .u8) x0)), (.d (.int .i64 s8)), (.d (.int .i64 s9)), (.d (.bool (decide (s9 < s8)))), (.d (.int .i64 s9)), (.cptr [(.int .u8 (List.getD x0 (Int.toNat s9) 0))] 0), (.d (.int .u8 (List.getD x0 (Int.toNat s9) 0))), (.d (.int .i64 s9)), (.d (.bool (s9 == (10)))), (.d (.bool (s9 == (10)))), (.d (.int .i64 s9)), (.d (.bool (s9 == (9)))), (.d (.bool (s9 == (9)))), (.d (.int .u8 (List.getD x0 (Int.toNat s9) 0))), (.d (.bool (decide ((List.getD x0 (Int.toNat s9) 0) > 1)))), (.d (.bool (decide ((List.getD x0 (Int.toNat s9) 0) > 1)))), (.d (.bool (decide ((List.getD x0 (Int.toNat s9) 0) > 1)))), (.d (.bool (decide ((List.getD x0 (Int.toNat s9) 0) > 1)))), (.d (.int .i64 s9)), (.d (.bool (decide (s9 > 0)))), (.d (.bool (decide (s9 > 0)))), (.d (.int .u8 (List.getD x0 (Int.toNat s9) 0))), (.d (.bool ((List.getD x0 (Int.toNat s9) 0) == (0)))), (.d (.bool ((List.getD x0 (Int.toNat s9) 0) == (0)))), (.d (.bool ((List.getD x0 (Int.toNat s9) 0) == (0)))), .top, .top, .top, .top, .top, .top, .top, .top, .top, .top, .top, .top, .top, .top, .top, .top, .top, .top, .top, .top, .top], [])
  | 3 => (.ret, [.top, .top, (.d (.int .i64 (IntKind.wrap .i64 ((((BitVec.ofInt 64 (IntKind.wrap .i64 (Int.fdiv (IntKind.wrap .u64 ((((BitVec.ofInt 64 s4 ||| BitVec.ofInt 64 (IntKind.wrap .u64 ((IntKind.wrap .u64 (IntKind.wrap .u8 ((((BitVec.ofInt 8 (List.getD x0 (Int.toNat s9) 0) &&& BitVec.ofInt 8 (127)).toNat : Nat) : Int)))) * 2 ^ (min (Int.toNat (IntKind.wrap .i64 ((7) * s9))) 64)))).toNat : Nat) : Int))) (2 ^ 1))) ^^^ BitVec.ofInt 64 (IntKind.wrap .i64 (0 - (IntKind.wrap .i64 (IntKind.wrap .u64 ((((BitVec.ofInt 64 (IntKind.wrap .u64 ((((BitVec.ofInt 64 s4 ||| BitVec.ofInt 64 (IntKind.wrap .u64 ((IntKind.wrap .u64 (IntKind.wrap .u8 ((((BitVec.ofInt 8 (List.getD x0 (Int.toNat s9) 0) &&& BitVec.ofInt 8 (127)).toNat : Nat) : Int)))) * 2 ^ (min (Int.toNat (IntKind.wrap .i64 ((7) * s9))) 64)))).toNat : Nat) : Int))) &&& BitVec.ofInt 64 (1)).toNat : Nat) : Int))))))).toNat : Nat) : Int))))), (.d (.int .i64 (IntKind.wrap .i64 (s9 + (1))))), (.d (.int .u64 (IntKind.wrap .u64 ((((BitVec.ofInt 64 s4 ||| BitVec.ofInt 64 (IntKind.wrap .u64 ((IntKind.wrap .u64 (IntKind.wrap .u8 ((((BitVec.ofInt 8 (List.getD x0 (Int.toNat s9) 0) &&& BitVec.ofInt 8 (127)).toNat : Nat) : Int)))) * 2 ^ (min (Int.toNat (IntKind.wrap .i64 ((7) * s9))) 64)))).toNat : Nat) : Int))))), (.d (.int .i64 s9)), (.d (.int .u8 (List.getD x0 (Int.toNat s9) 0))), (.d (.sl (.int .u8) x0)), (.d (.int .i64 s8)), (.d (.int .i64 s9)), (.d (.bool (decide (s9 < s8)))), (.d (.int .i64 s9)), (.cptr [(.int .u8 (List.getD x0 (Int.toNat s9) 0))] 0), (.d (.int .u8 (List.getD x0 (Int.toNat s9) 0))), (.d (.int .i64 s9)), (.d (.bool (s9 == (10)))), (.d (.bool (s9 == (10)))), (.d (.int .i64 s9)), (.d (.bool (s9 == (9)))), (.d (.bool (s9 == (9)))), (.d (.int .u8 (List.getD x0 (Int.toNat s9) 0))), (.d (.bool (decide ((List.getD x0 (Int.toNat s9) 0) > 1)))), (.d (.bool (decide ((List.getD x0 (Int.toNat s9) 0) > 1)))), (.d (.bool (decide ((List.getD x0 (Int.toNat s9) 0) > 1)))), (.d (.bool (decide ((List.getD x0 (Int.toNat s9) 0) > 1)))), (.d (.int .i64 s9)), (.d (.bool (decide (s9 > 0)))), (.d (.bool (decide (s9 > 0)))), (.d (.int .u8 (List.getD x0 (Int.toNat s9) 0))), (.d (.bool ((List.getD x0 (Int.toNat s9) 0) == (0)))), (.d (.bool ((List.getD x0 (Int.toNat s9) 0) == (0)))), (.d (.bool ((List.getD x0 (Int.toNat s9) 0) == (0)))), (.d (.int .u64 s4)), (.d (.int .u8 (List.getD x0 (Int.toNat s9) 0))), (.d (.int .u8 (IntKind.wrap .u8 ((((BitVec.ofInt 8 (List.getD x0 (Int.toNat s9) 0) &&& BitVec.ofInt 8 (127)).toNat : Nat) : Int))))), (.d (.int .u64 (IntKind.wrap .u64 (IntKind.wrap .u8 ((((BitVec.ofInt 8 (List.getD x0 (Int.toNat s9) 0) &&& BitVec.ofInt 8 (127)).toNat : Nat) : Int)))))), (.d (.int .i64 s9)), (.d (.int .i64 (IntKind.wrap .i64 ((7) * s9)))), (.d (.int .u64 (IntKind.wrap .u64 ((IntKind.wrap .u64 (IntKind.wrap .u8 ((((BitVec.ofInt 8 (List.getD x0 (Int.toNat s9) 0) &&& BitVec.ofInt 8 (127)).toNat : Nat) : Int)))) * 2 ^ (min (Int.toNat (IntKind.wrap .i64 ((7) * s9))) 64))))), (.d (.int .u64 (IntKind.wrap .u64 ((((BitVec.ofInt 64 s4 ||| BitVec.ofInt 64 (IntKind.wrap .u64 ((IntKind.wrap .u64 (IntKind.wrap .u8 ((((BitVec.ofInt 8 (List.getD x0 (Int.toNat s9) 0) &&& BitVec.ofInt 8 (127)).toNat : Nat) : Int)))) * 2 ^ (min (Int.toNat (IntKind.wrap .i64 ((7) * s9))) 64)))).toNat : Nat) : Int))))), (.d (.int .u8 (List.getD x0 (Int.toNat s9) 0))), (.d (.bool (decide ((List.getD x0 (Int.toNat s9) 0) < 128)))), (.d (.int .u64 (IntKind.wrap .u64 ((((BitVec.ofInt 64 s4 ||| BitVec.ofInt 64 (IntKind.wrap .u64 ((IntKind.wrap .u64 (IntKind.wrap .u8 ((((BitVec.ofInt 8 (List.getD x0 (Int.toNat s9) 0) &&& BitVec.ofInt 8 (127)).toNat : Nat) : Int)))) * 2 ^ (min (Int.toNat (IntKind.wrap .i64 ((7) * s9))) 64)))).toNat : Nat) : Int))))), (.d (.int .u64 (Int.fdiv (IntKind.wrap .u64 ((((BitVec.ofInt 64 s4 ||| BitVec.ofInt 64 (IntKind.wrap .u64 ((IntKind.wrap .u64 (IntKind.wrap .u8 ((((BitVec.ofInt 8 (List.getD x0 (Int.toNat s9) 0) &&& BitVec.ofInt 8 (127)).toNat : Nat) : Int)))) * 2 ^ (min (Int.toNat (IntKind.wrap .i64 ((7) * s9))) 64)))).toNat : Nat) : Int))) (2 ^ 1)))), (.d (.int .i64 (IntKind.wrap .i64 (Int.fdiv (IntKind.wrap .u64 ((((BitVec.ofInt 64 s4 ||| BitVec.ofInt 64 (IntKind.wrap .u64 ((IntKind.wrap .u64 (IntKind.wrap .u8 ((((BitVec.ofInt 8 (List.getD x0 (Int.toNat s9) 0) &&& BitVec.ofInt 8 (127)).toNat : Nat) : Int)))) * 2 ^ (min (Int.toNat (IntKind.wrap .i64 ((7) * s9))) 64)))).toNat : Nat) : Int))) (2 ^ 1))))), (.d (.int .u64 (IntKind.wrap .u64 ((((BitVec.ofInt 64 s4 ||| BitVec.ofInt 64 (IntKind.wrap .u64 ((IntKind.wrap .u64 (IntKind.wrap .u8 ((((BitVec.ofInt 8 (List.getD x0 (Int.toNat s9) 0) &&& BitVec.ofInt 8 (127)).toNat : Nat) : Int)))) * 2 ^ (min (Int.toNat (IntKind.wrap .i64 ((7) * s9))) 64)))).toNat : Nat) : Int))))), (.d (.int .u64 (IntKind.wrap .u64 ((((BitVec.ofInt 64 (IntKind.wrap .u64 ((((BitVec.ofInt 64 s4 ||| BitVec.ofInt 64 (IntKind.wrap .u64 ((IntKind.wrap .u64 (IntKind.wrap .u8 ((((BitVec.ofInt 8 (List.getD x0 (Int.toNat s9) 0) &&& BitVec.ofInt 8 (127)).toNat : Nat) : Int)))) * 2 ^ (min (Int.toNat (IntKind.wrap .i64 ((7) * s9))) 64)))).toNat : Nat) : Int))) &&& BitVec.ofInt 64 (1)).toNat : Nat) : Int))))), (.d (.int .i64 (IntKind.wrap .i64 (IntKind.wrap .u64 ((((BitVec.ofInt 64 (IntKind.wrap .u64 ((((BitVec.ofInt 64 s4 ||| BitVec.ofInt 64 (IntKind.wrap .u64 ((IntKind.wrap .u64 (IntKind.wrap .u8 ((((BitVec.ofInt 8 (List.getD x0 (Int.toNat s9) 0) &&& BitVec.ofInt 8 (127)).toNat : Nat) : Int)))) * 2 ^ (min (Int.toNat (IntKind.wrap .i64 ((7) * s9))) 64)))).toNat : Nat) : Int))) &&& BitVec.ofInt 64 (1)).toNat : Nat) : Int)))))), (.d (.int .i64 (IntKind.wrap .i64 (0 - (IntKind.wrap .i64 (IntKind.wrap .u64 ((((BitVec.ofInt 64 (IntKind.wrap .u64 ((((BitVec.ofInt 64 s4 ||| BitVec.ofInt 64 (IntKind.wrap .u64 ((IntKind.wrap .u64 (IntKind.wrap .u8 ((((BitVec.ofInt 8 (List.getD x0 (Int.toNat s9) 0) &&& BitVec.ofInt 8 (127)).toNat : Nat) : Int)))) * 2 ^ (min (Int.toNat (IntKind.wrap .i64 ((7) * s9))) 64)))).toNat : Nat) : Int))) &&& BitVec.ofInt 64 (1)).toNat : Nat) : Int)))))))), (.d (.int .i64 (IntKind.wrap .i64 ((((BitVec.ofInt 64 (IntKind.wrap .i64 (Int.fdiv (IntKind.wrap .u64 ((((BitVec.ofInt 64 s4 ||| BitVec.ofInt 64 (IntKind.wrap .u64 ((IntKind.wrap .u64 (IntKind.wrap .u8 ((((BitVec.ofInt 8 (List.getD x0 (Int.toNat s9) 0) &&& BitVec.ofInt 8 (127)).toNat : Nat) : Int)))) * 2 ^ (min (Int.toNat (IntKind.wrap .i64 ((7) * s9))) 64)))).toNat : Nat) : Int))) (2 ^ 1))) ^^^ BitVec.ofInt 64 (IntKind.wrap .i64 (0 - (IntKind.wrap .i64 (IntKind.wrap .u64 ((((BitVec.ofInt 64 (IntKind.wrap .u64 ((((BitVec.ofInt 64 s4 ||| BitVec.ofInt 64 (IntKind.wrap .u64 ((IntKind.wrap .u64 (IntKind.wrap .u8 ((((BitVec.ofInt 8 (List.getD x0 (Int.toNat s9) 0) &&& BitVec.ofInt 8 (127)).toNat : Nat) : Int)))) * 2 ^ (min (Int.toNat (IntKind.wrap .i64 ((7) * s9))) 64)))).toNat : Nat) : Int))) &&& BitVec.ofInt 64 (1)).toNat : Nat) : Int))))))).toNat : Nat) : Int))))), (.d (.int .i64 s9)), (.d (.int .i64 (IntKind.wrap .i64 (s9 + (1))))), .top], [])
  | 4 => (.ret, [.top, .top, (.d (.int .i64 (IntKind.wrap .i64 ((((BitVec.ofInt 64 (IntKind.wrap .i64 (Int.fdiv (IntKind.wrap .u64 ((((BitVec.ofInt 64 s4 ||| BitVec.ofInt 64 (IntKind.wrap .u64 ((IntKind.wrap .u64 (IntKind.wrap .u8 ((((BitVec.ofInt 8 (List.getD x0 (Int.toNat s9) 0) &&& BitVec.ofInt 8 (127)).toNat : Nat) : Int)))) * 2 ^ (min (Int.toNat (IntKind.wrap .i64 ((7) * s9))) 64)))).toNat : Nat) : Int))) (2 ^ 1))) ^^^ BitVec.ofInt 64 (IntKind.wrap .i64 (0 - (IntKind.wrap .i64 (IntKind.wrap .u64 ((((BitVec.ofInt 64 (IntKind.wrap .u64 ((((BitVec.ofInt 64 s4 ||| BitVec.ofInt 64 (IntKind.wrap .u64 ((IntKind.wrap .u64 (IntKind.wrap .u8 ((((BitVec.ofInt 8 (List.getD x0 (Int.toNat s9) 0) &&& BitVec.ofInt 8 (127)).toNat : Nat) : Int)))) * 2 ^ (min (Int.toNat (IntKind.wrap .i64 ((7) * s9))) 64)))).toNat : Nat) : Int))) &&& BitVec.ofInt 64 (1)).toNat : Nat) : Int))))))).toNat : Nat) : Int))))), (.d (.int .i64 (IntKind.wrap .i64 (s9 + (1))))), (.d (.int .u64 (IntKind.wrap .u64 ((((BitVec.ofInt 64 s4 ||| BitVec.ofInt 64 (IntKind.wrap .u64 ((IntKind.wrap .u64 (IntKind.wrap .u8 ((((BitVec.ofInt 8 (List.getD x0 (Int.toNat s9) 0) &&& BitVec.ofInt 8 (127)).toNat : Nat) : Int)))) * 2 ^ (min (Int.toNat (IntKind.wrap .i64 ((7) * s9))) 64)))).toNat : Nat) : Int))))), (.d (.int .i64 s9)), (.d (.int .u8 (List.getD x0 (Int.toNat s9) 0))), (.d (.sl (.int .u8) x0)), (.d (.int .i64 s8)), (.d (.int .i64 s9)), (.d (.bool (decide (s9 < s8)))), (.d (.int .i64 s9)), (.cptr [(.int .u8 (List.getD x0 (Int.toNat s9) 0))] 0), (.d (.int .u8 (List.getD x0 (Int.toNat s9) 0))), (.d (.int .i64 s9)), (.d (.bool (s9 == (10)))), (.d (.bool (s9 == (10)))), (.d (.int .i64 s9)), (.d (.bool (s9 == (9)))), (.d (.bool (s9 == (9)))), (.d (.int .u8 (List.getD x0 (Int.toNat s9) 0))), (.d (.bool (decide ((List.getD x0 (Int.toNat s9) 0) > 1)))), (.d (.bool (decide ((List.getD x0 (Int.toNat s9) 0) > 1)))), (.d (.bool (decide ((List.getD x0 (Int.toNat s9) 0) > 1)))), (.d (.bool (decide ((List.getD x0 (Int.toNat s9) 0) > 1)))), (.d (.int .i64 s9)), (.d (.bool (decide (s9 > 0)))), (.d (.bool (decide (s9 > 0)))), (.tup []), (.tup []), (.d (.bool false)), (.d (.bool false)), (.d (.int .u64 s4)), (.d (.int .u8 (List.getD x0 (Int.toNat s9) 0))), (.d (.int .u8 (IntKind.wrap .u8 ((((BitVec.ofInt 8 (List.getD x0 (Int.toNat s9) 0) &&& BitVec.ofInt 8 (127)).toNat : Nat) : Int))))), (.d (.int .u64 (IntKind.wrap .u64 (IntKind.wrap .u8 ((((BitVec.ofInt 8 (List.getD x0 (Int.toNat s9) 0) &&& BitVec.ofInt 8 (127)).toNat : Nat) : Int)))))), (.d (.int .i64 s9)), (.d (.int .i64 (IntKind.wrap .i64 ((7) * s9)))), (.d (.int .u64 (IntKind.wrap .u64 ((IntKind.wrap .u64 (IntKind.wrap .u8 ((((BitVec.ofInt 8 (List.getD x0 (Int.toNat s9) 0) &&& BitVec.ofInt 8 (127)).toNat : Nat) : Int)))) * 2 ^ (min (Int.toNat (IntKind.wrap .i64 ((7) * s9))) 64))))), (.d (.int .u64 (IntKind.wrap .u64 ((((BitVec.ofInt 64 s4 ||| BitVec.ofInt 64 (IntKind.wrap .u64 ((IntKind.wrap .u64 (IntKind.wrap .u8 ((((BitVec.ofInt 8 (List.getD x0 (Int.toNat s9) 0) &&& BitVec.ofInt 8 (127)).toNat : Nat) : Int)))) * 2 ^ (min (Int.toNat (IntKind.wrap .i64 ((7) * s9))) 64)))).toNat : Nat) : Int))))), (.d (.int .u8 (List.getD x0 (Int.toNat s9) 0))), (.d (.bool (decide ((List.getD x0 (Int.toNat s9) 0) < 128)))), (.d (.int .u64 (IntKind.wrap .u64 ((((BitVec.ofInt 64 s4 ||| BitVec.ofInt 64 (IntKind.wrap .u64 ((IntKind.wrap .u64 (IntKind.wrap .u8 ((((BitVec.ofInt 8 (List.getD x0 (Int.toNat s9) 0) &&& BitVec.ofInt 8 (127)).toNat : Nat) : Int)))) * 2 ^ (min (Int.toNat (IntKind.wrap .i64 ((7) * s9))) 64)))).toNat : Nat) : Int))))), (.d (.int .u64 (Int.fdiv (IntKind.wrap .u64 ((((BitVec.ofInt 64 s4 ||| BitVec.ofInt 64 (IntKind.wrap .u64 ((IntKind.wrap .u64 (IntKind.wrap .u8 ((((BitVec.ofInt 8 (List.getD x0 (Int.toNat s9) 0) &&& BitVec.ofInt 8 (127)).toNat : Nat) : Int)))) * 2 ^ (min (Int.toNat (IntKind.wrap .i64 ((7) * s9))) 64)))).toNat : Nat) : Int))) (2 ^ 1)))), (.d (.int .i64 (IntKind.wrap .i64 (Int.fdiv (IntKind.wrap .u64 ((((BitVec.ofInt 64 s4 ||| BitVec.ofInt 64 (IntKind.wrap .u64 ((IntKind.wrap .u64 (IntKind.wrap .u8 ((((BitVec.ofInt 8 (List.getD x0 (Int.toNat s9) 0) &&& BitVec.ofInt 8 (127)).toNat : Nat) : Int)))) * 2 ^ (min (Int.toNat (IntKind.wrap .i64 ((7) * s9))) 64)))).toNat : Nat) : Int))) (2 ^ 1))))), (.d (.int .u64 (IntKind.wrap .u64 ((((BitVec.ofInt 64 s4 ||| BitVec.ofInt 64 (IntKind.wrap .u64 ((IntKind.wrap .u64 (IntKind.wrap .u8 ((((BitVec.ofInt 8 (List.getD x0 (Int.toNat s9) 0) &&& BitVec.ofInt 8 (127)).toNat : Nat) : Int)))) * 2 ^ (min (Int.toNat (IntKind.wrap .i64 ((7) * s9))) 64)))).toNat : Nat) : Int))))), (.d (.int .u64 (IntKind.wrap .u64 ((((BitVec.ofInt 64 (IntKind.wrap .u64 ((((BitVec.ofInt 64 s4 ||| BitVec.ofInt 64 (IntKind.wrap .u64 ((IntKind.wrap .u64 (IntKind.wrap .u8 ((((BitVec.ofInt 8 (List.getD x0 (Int.toNat s9) 0) &&& BitVec.ofInt 8 (127)).toNat : Nat) : Int)))) * 2 ^ (min (Int.toNat (IntKind.wrap .i64 ((7) * s9))) 64)))).toNat : Nat) : Int))) &&& BitVec.ofInt 64 (1)).toNat : Nat) : Int))))), (.d (.int .i64 (IntKind.wrap .i64 (IntKind.wrap .u64 ((((BitVec.ofInt 64 (IntKind.wrap .u64 ((((BitVec.ofInt 64 s4 ||| BitVec.ofInt 64 (IntKind.wrap .u64 ((IntKind.wrap .u64 (IntKind.wrap .u8 ((((BitVec.ofInt 8 (List.getD x0 (Int.toNat s9) 0) &&& BitVec.ofInt 8 (127)).toNat : Nat) : Int)))) * 2 ^ (min (Int.toNat (IntKind.wrap .i64 ((7) * s9))) 64)))).toNat : Nat) : Int))) &&& BitVec.ofInt 64 (1)).toNat : Nat) : Int)))))), (.d (.int .i64 (IntKind.wrap .i64 (0 - (IntKind.wrap .i64 (IntKind.wrap .u64 ((((BitVec.ofInt 64 (IntKind.wrap .u64 ((((BitVec.ofInt 64 s4 ||| BitVec.ofInt 64 (IntKind.wrap .u64 ((IntKind.wrap .u64 (IntKind.wrap .u8 ((((BitVec.ofInt 8 (List.getD x0 (Int.toNat s9) 0) &&& BitVec.ofInt 8 (127)).toNat : Nat) : Int)))) * 2 ^ (min (Int.toNat (IntKind.wrap .i64 ((7) * s9))) 64)))).toNat : Nat) : Int))) &&& BitVec.ofInt 64 (1)).toNat : Nat) : Int)))))))), (.d (.int .i64 (IntKind.wrap .i64 ((((BitVec.ofInt 64 (IntKind.wrap .i64 (Int.fdiv (IntKind.wrap .u64 ((((BitVec.ofInt 64 s4 ||| BitVec.ofInt 64 (IntKind.wrap .u64 ((IntKind.wrap .u64 (IntKind.wrap .u8 ((((BitVec.ofInt 8 (List.getD x0 (Int.toNat s9) 0) &&& BitVec.ofInt 8 (127)).toNat : Nat) : Int)))) * 2 ^ (min (Int.toNat (IntKind.wrap .i64 ((7) * s9))) 64)))).toNat : Nat) : Int))) (2 ^ 1))) ^^^ BitVec.ofInt 64 (IntKind.wrap .i64 (0 - (IntKind.wrap .i64 (IntKind.wrap .u64 ((((BitVec.ofInt 64 (IntKind.wrap .u64 ((((BitVec.ofInt 64 s4 ||| BitVec.ofInt 64 (IntKind.wrap .u64 ((IntKind.wrap .u64 (IntKind.wrap .u8 ((((BitVec.ofInt 8 (List.getD x0 (Int.toNat s9) 0) &&& BitVec.ofInt 8 (127)).toNat : Nat) : Int)))) * 2 ^ (min (Int.toNat (IntKind.wrap .i64 ((7) * s9))) 64)))).toNat : Nat) : Int))) &&& BitVec.ofInt 64 (1)).toNat : Nat) : Int))))))).toNat : Nat) : Int))))), (.d (.int .i64 s9)), (.d (.int .i64 (IntKind.wrap .i64 (s9 + (1))))), .top], [])
  | 5 => (.ret, [.top, .top, (.d (.int .i64 (0))), (.d (.int .i64 (0))), (.d (.int .u64 s4)), (.d (.int .i64 s9)), (.d (.int .u8 (List.getD x0 (Int.toNat s9) 0))), (.d (.sl (.int .u8) x0)), (.d (.int .i64 s8)), (.d (.int .i64 s9)), (.d (.bool (decide (s9 < s8)))), (.d (.int .i64 s9)), (.cptr [(.int .u8 (List.getD x0 (Int.toNat s9) 0))] 0), (.d (.int .u8 (List.getD x0 (Int.toNat s9) 0))), (.d (.int .i64 s9)), (.d (.bool (s9 == (10)))), (.d (.bool (s9 == (10)))), (.d (.int .i64 s9)), (.d (.bool (s9 == (9)))), (.d (.bool (s9 == (9)))), (.tup []), (.tup []), (.d (.bool false)), (.d (.bool false)), (.d (.bool false)), (.d (.int .i64 s9)), (.d (.bool (decide (s9 > 0)))), (.d (.bool (decide (s9 > 0)))), (.d (.int .u8 (List.getD x0 (Int.toNat s9) 0))), (.d (.bool ((List.getD x0 (Int.toNat s9) 0) == (0)))), (.d (.bool ((List.getD x0 (Int.toNat s9) 0) == (0)))), (.d (.bool ((List.getD x0 (Int.toNat s9) 0) == (0)))), .top, .top, .top, .top, .top, .top, .top, .top, .top, .top, .top, .top, .top, .top, .top, .top, .top, .top, .top, .top, .top], [])
  | 6 => (.ret, [.top, .top, (.d (.int .i64 (IntKind.wrap .i64 ((((BitVec.ofInt 64 (IntKind.wrap .i64 (Int.fdiv (IntKind.wrap .u64 ((((BitVec.ofInt 64 s4 ||| BitVec.ofInt 64 (IntKind.wrap .u64 ((IntKind.wrap .u64 (IntKind.wrap .u8 ((((BitVec.ofInt 8 (List.getD x0 (Int.toNat s9) 0) &&& BitVec.ofInt 8 (127)).toNat : Nat) : Int)))) * 2 ^ (min (Int.toNat (IntKind.wrap .i64 ((7) * s9))) 64)))).toNat : Nat) : Int))) (2 ^ 1))) ^^^ BitVec.ofInt 64 (IntKind.wrap .i64 (0 - (IntKind.wrap .i64 (IntKind.wrap .u64 ((((BitVec.ofInt 64 (IntKind.wrap .u64 ((((BitVec.ofInt 64 s4 ||| BitVec.ofInt 64 (IntKind.wrap .u64 ((IntKind.wrap .u64 (IntKind.wrap .u8 ((((BitVec.ofInt 8 (List.getD x0 (Int.toNat s9) 0) &&& BitVec.ofInt 8 (127)).toNat : Nat) : Int)))) * 2 ^ (min (Int.toNat (IntKind.wrap .i64 ((7) * s9))) 64)))).toNat : Nat) : Int))) &&& BitVec.ofInt 64 (1)).toNat : Nat) : Int))))))).toNat : Nat) : Int))))), (.d (.int .i64 (IntKind.wrap .i64 (s9 + (1))))), (.d (.int .u64 (IntKind.wrap .u64 ((((BitVec.ofInt 64 s4 ||| BitVec.ofInt 64 (IntKind.wrap .u64 ((IntKind.wrap .u64 (IntKind.wrap .u8 ((((BitVec.ofInt 8 (List.getD x0 (Int.toNat s9) 0) &&& BitVec.ofInt 8 (127)).toNat : Nat) : Int)))) * 2 ^ (min (Int.toNat (IntKind.wrap .i64 ((7) * s9))) 64)))).toNat : Nat) : Int))))), (.d (.int .i64 s9)), (.d (.int .u8 (List.getD x0 (Int.toNat s9) 0))), (.d (.sl (.int .u8) x0)), (.d (.int .i64 s8)), (.d (.int .i64 s9)), (.d (.bool (decide (s9 < s8)))), (.d (.int .i64 s9)), (.cptr [(.int .u8 (List.getD x0 (Int.toNat s9) 0))] 0), (.d (.int .u8 (List.getD x0 (Int.toNat s9) 0))), (.d (.int .i64 s9)), (.d (.bool (s9 == (10)))), (.d (.bool (s9 == (10)))), (.d (.int .i64 s9)), (.d (.bool (s9 == (9)))), (.d (.bool (s9 == (9)))), (.tup []), (.tup []), (.d (.bool false)), (.d (.bool false)), (.d (.bool false)), (.d (.int .i64 s9)), (.d (.bool (decide (s9 > 0)))), (.d (.bool (decide (s9 > 0)))), (.d (.int .u8 (List.getD x0 (Int.toNat s9) 0))), (.d (.bool ((List.getD x0 (Int.toNat s9) 0) == (0)))), (.d (.bool ((List.getD x0 (Int.toNat s9) 0) == (0)))), (.d (.bool ((List.getD x0 (Int.toNat s9) 0) == (0)))), (.d (.int .u64 s4)), (.d (.int .u8 (List.getD x0 (Int.toNat s9) 0))), (.d (.int .u8 (IntKind.wrap .u8 ((((BitVec.ofInt 8 (List.getD x0 (Int.toNat s9) 0) &&& BitVec.ofInt 8 (127)).toNat : Nat) : Int))))), (.d (.int .u64 (IntKind.wrap .u64 (IntKind.wrap .u8 ((((BitVec.ofInt 8 (List.getD x0 (Int.toNat s9) 0) &&& BitVec.ofInt 8 (127)).toNat : Nat) : Int)))))), (.d (.int .i64 s9)), (.d (.int .i64 (IntKind.wrap .i64 ((7) * s9)))), (.d (.int .u64 (IntKind.wrap .u64 ((IntKind.wrap .u64 (IntKind.wrap .u8 ((((BitVec.ofInt 8 (List.getD x0 (Int.toNat s9) 0) &&& BitVec.ofInt 8 (127)).toNat : Nat) : Int)))) * 2 ^ (min (Int.toNat (IntKind.wrap .i64 ((7) * s9))) 64))))), (.d (.int .u64 (IntKind.wrap .u64 ((((BitVec.ofInt 64 s4 ||| BitVec.ofInt 64 (IntKind.wrap .u64 ((IntKind.wrap .u64 (IntKind.wrap .u8 ((((BitVec.ofInt 8 (List.getD x0 (Int.toNat s9) 0) &&& BitVec.ofInt 8 (127)).toNat : Nat) : Int)))) * 2 ^ (min (Int.toNat (IntKind.wrap .i64 ((7) * s9))) 64)))).toNat : Nat) : Int))))), (.d (.int .u8 (List.getD x0 (Int.toNat s9) 0))), (.d (.bool (decide ((List.getD x0 (Int.toNat s9) 0) < 128)))), (.d (.int .u64 (IntKind.wrap .u64 ((((BitVec.ofInt 64 s4 ||| BitVec.ofInt 64 (IntKind.wrap .u64 ((IntKind.wrap .u64 (IntKind.wrap .u8 ((((BitVec.ofInt 8 (List.getD x0 (Int.toNat s9) 0) &&& BitVec.ofInt 8 (127)).toNat : Nat) : Int)))) * 2 ^ (min (Int.toNat (IntKind.wrap .i64 ((7) * s9))) 64)))).toNat : Nat) : Int))))), (.d (.int .u64 (Int.fdiv (IntKind.wrap .u64 ((((BitVec.ofInt 64 s4 ||| BitVec.ofInt 64 (IntKind.wrap .u64 ((IntKind.wrap .u64 (IntKind.wrap .u8 ((((BitVec.ofInt 8 (List.getD x0 (Int.toNat s9) 0) &&& BitVec.ofInt 8 (127)).toNat : Nat) : Int)))) * 2 ^ (min (Int.toNat (IntKind.wrap .i64 ((7) * s9))) 64)))).toNat : Nat) : Int))) (2 ^ 1)))), (.d (.int .i64 (IntKind.wrap .i64 (Int.fdiv (IntKind.wrap .u64 ((((BitVec.ofInt 64 s4 ||| BitVec.ofInt 64 (IntKind.wrap .u64 ((IntKind.wrap .u64 (IntKind.wrap .u8 ((((BitVec.ofInt 8 (List.getD x0 (Int.toNat s9) 0) &&& BitVec.ofInt 8 (127)).toNat : Nat) : Int)))) * 2 ^ (min (Int.toNat (IntKind.wrap .i64 ((7) * s9))) 64)))).toNat : Nat) : Int))) (2 ^ 1))))), (.d (.int .u64 (IntKind.wrap .u64 ((((BitVec.ofInt 64 s4 ||| BitVec.ofInt 64 (IntKind.wrap .u64 ((IntKind.wrap .u64 (IntKind.wrap .u8 ((((BitVec.ofInt 8 (List.getD x0 (Int.toNat s9) 0) &&& BitVec.ofInt 8 (127)).toNat : Nat) : Int)))) * 2 ^ (min (Int.toNat (IntKind.wrap .i64 ((7) * s9))) 64)))).toNat : Nat) : Int))))), (.d (.int .u64 (IntKind.wrap .u64 ((((BitVec.ofInt 64 (IntKind.wrap .u64 ((((BitVec.ofInt 64 s4 ||| BitVec.ofInt 64 (IntKind.wrap .u64 ((IntKind.wrap .u64 (IntKind.wrap .u8 ((((BitVec.ofInt 8 (List.getD x0 (Int.toNat s9) 0) &&& BitVec.ofInt 8 (127)).toNat : Nat) : Int)))) * 2 ^ (min (Int.toNat (IntKind.wrap .i64 ((7) * s9))) 64)))).toNat : Nat) : Int))) &&& BitVec.ofInt 64 (1)).toNat : Nat) : Int))))), (.d (.int .i64 (IntKind.wrap .i64 (IntKind.wrap .u64 ((((BitVec.ofInt 64 (IntKind.wrap .u64 ((((BitVec.ofInt 64 s4 ||| BitVec.ofInt 64 (IntKind.wrap .u64 ((IntKind.wrap .u64 (IntKind.wrap .u8 ((((BitVec.ofInt 8 (List.getD x0 (Int.toNat s9) 0) &&& BitVec.ofInt 8 (127)).toNat : Nat) : Int)))) * 2 ^ (min (Int.toNat (IntKind.wrap .i64 ((7) * s9))) 64)))).toNat : Nat) : Int))) &&& BitVec.ofInt 64 (1)).toNat : Nat) : Int)))))), (.d (.int .i64 (IntKind.wrap .i64 (0 - (IntKind.wrap .i64 (IntKind.wrap .u64 ((((BitVec.ofInt 64 (IntKind.wrap .u64 ((((BitVec.ofInt 64 s4 ||| BitVec.ofInt 64 (IntKind.wrap .u64 ((IntKind.wrap .u64 (IntKind.wrap .u8 ((((BitVec.ofInt 8 (List.getD x0 (Int.toNat s9) 0) &&& BitVec.ofInt 8 (127)).toNat : Nat) : Int)))) * 2 ^ (min (Int.toNat (IntKind.wrap .i64 ((7) * s9))) 64)))).toNat : Nat) : Int))) &&& BitVec.ofInt 64 (1)).toNat : Nat) : Int)))))))), (.d (.int .i64 (IntKind.wrap .i64 ((((BitVec.ofInt 64 (IntKind.wrap .i64 (Int.fdiv (IntKind.wrap .u64 ((((BitVec.ofInt 64 s4 ||| BitVec.ofInt 64 (IntKind.wrap .u64 ((IntKind.wrap .u64 (IntKind.wrap .u8 ((((BitVec.ofInt 8 (List.getD x0 (Int.toNat s9) 0) &&& BitVec.ofInt 8 (127)).toNat : Nat) : Int)))) * 2 ^ (min (Int.toNat (IntKind.wrap .i64 ((7) * s9))) 64)))).toNat : Nat) : Int))) (2 ^ 1))) ^^^ BitVec.ofInt 64 (IntKind.wrap .i64 (0 - (IntKind.wrap .i64 (IntKind.wrap .u64 ((((BitVec.ofInt 64 (IntKind.wrap .u64 ((((BitVec.ofInt 64 s4 ||| BitVec.ofInt 64 (IntKind.wrap .u64 ((IntKind.wrap .u64 (IntKind.wrap .u8 ((((BitVec.ofInt 8 (List.getD x0 (Int.toNat s9) 0) &&& BitVec.ofInt 8 (127)).toNat : Nat) : Int)))) * 2 ^ (min (Int.toNat (IntKind.wrap .i64 ((7) * s9))) 64)))).toNat : Nat) : Int))) &&& BitVec.ofInt 64 (1)).toNat : Nat) : Int))))))).toNat : Nat) : Int))))), (.d (.int .i64 s9)), (.d (.int .i64 (IntKind.wrap .i64 (s9 + (1))))), .top], [])
  | 7 => (.ret, [.top, .top, (.d (.int .i64 (IntKind.wrap .i64 ((((BitVec.ofInt 64 (IntKind.wrap .i64 (Int.fdiv (IntKind.wrap .u64 ((((BitVec.ofInt 64 s4 ||| BitVec.ofInt 64 (IntKind.wrap .u64 ((IntKind.wrap .u64 (IntKind.wrap .u8 ((((BitVec.ofInt 8 (List.getD x0 (Int.toNat s9) 0) &&& BitVec.ofInt 8 (127)).toNat : Nat) : Int)))) * 2 ^ (min (Int.toNat (IntKind.wrap .i64 ((7) * s9))) 64)))).toNat : Nat) : Int))) (2 ^ 1))) ^^^ BitVec.ofInt 64 (IntKind.wrap .i64 (0 - (IntKind.wrap .i64 (IntKind.wrap .u64 ((((BitVec.ofInt 64 (IntKind.wrap .u64 ((((BitVec.ofInt 64 s4 ||| BitVec.ofInt 64 (IntKind.wrap .u64 ((IntKind.wrap .u64 (IntKind.wrap .u8 ((((BitVec.ofInt 8 (List.getD x0 (Int.toNat s9) 0) &&& BitVec.ofInt 8 (127)).toNat : Nat) : Int)))) * 2 ^ (min (Int.toNat (IntKind.wrap .i64 ((7) * s9))) 64)))).toNat : Nat) : Int))) &&& BitVec.ofInt 64 (1)).toNat : Nat) : Int))))))).toNat : Nat) : Int))))), (.d (.int .i64 (IntKind.wrap .i64 (s9 + (1))))), (.d (.int .u64 (IntKind.wrap .u64 ((((BitVec.ofInt 64 s4 ||| BitVec.ofInt 64 (IntKind.wrap .u64 ((IntKind.wrap .u64 (IntKind.wrap .u8 ((((BitVec.ofInt 8 (List.getD x0 (Int.toNat s9) 0) &&& BitVec.ofInt 8 (127)).toNat : Nat) : Int)))) * 2 ^ (min (Int.toNat (IntKind.wrap .i64 ((7) * s9))) 64)))).toNat : Nat) : Int))))), (.d (.int .i64 s9)), (.d (.int .u8 (List.getD x0 (Int.toNat s9) 0))), (.d (.sl (.int .u8) x0)), (.d (.int .i64 s8)), (.d (.int .i64 s9)), (.d (.bool (decide (s9 < s8)))), (.d (.int .i64 s9)), (.cptr [(.int .u8 (List.getD x0 (Int.toNat s9) 0))] 0), (.d (.int .u8 (List.getD x0 (Int.toNat s9) 0))), (.d (.int .i64 s9)), (.d (.bool (s9 == (10)))), (.d (.bool (s9 == (10)))), (.d (.int .i64 s9)), (.d (.bool (s9 == (9)))), (.d (.bool (s9 == (9)))), (.tup []), (.tup []), (.d (.bool false)), (.d (.bool false)), (.d (.bool false)), (.d (.int .i64 s9)), (.d (.bool (decide (s9 > 0)))), (.d (.bool (decide (s9 > 0)))), (.tup []), (.tup []), (.d (.bool false)), (.d (.bool false)), (.d (.int .u64 s4)), (.d (.int .u8 (List.getD x0 (Int.toNat s9) 0))), (.d (.int .u8 (IntKind.wrap .u8 ((((BitVec.ofInt 8 (List.getD x0 (Int.toNat s9) 0) &&& BitVec.ofInt 8 (127)).toNat : Nat) : Int))))), (.d (.int .u64 (IntKind.wrap .u64 (IntKind.wrap .u8 ((((BitVec.ofInt 8 (List.getD x0 (Int.toNat s9) 0) &&& BitVec.ofInt 8 (127)).toNat : Nat) : Int)))))), (.d (.int .i64 s9)), (.d (.int .i64 (IntKind.wrap .i64 ((7) * s9)))), (.d (.int .u64 (IntKind.wrap .u64 ((IntKind.wrap .u64 (IntKind.wrap .u8 ((((BitVec.ofInt 8 (List.getD x0 (Int.toNat s9) 0) &&& BitVec.ofInt 8 (127)).toNat : Nat) : Int)))) * 2 ^ (min (Int.toNat (IntKind.wrap .i64 ((7) * s9))) 64))))), (.d (.int .u64 (IntKind.wrap .u64 ((((BitVec.ofInt 64 s4 ||| BitVec.ofInt 64 (IntKind.wrap .u64 ((IntKind.wrap .u64 (IntKind.wrap .u8 ((((BitVec.ofInt 8 (List.getD x0 (Int.toNat s9) 0) &&& BitVec.ofInt 8 (127)).toNat : Nat) : Int)))) * 2 ^ (min (Int.toNat (IntKind.wrap .i64 ((7) * s9))) 64)))).toNat : Nat) : Int))))), (.d (.int .u8 (List.getD x0 (Int.toNat s9) 0))), (.d (.bool (decide ((List.getD x0 (Int.toNat s9) 0) < 128)))), (.d (.int .u64 (IntKind.wrap .u64 ((((BitVec.ofInt 64 s4 ||| BitVec.ofInt 64 (IntKind.wrap .u64 ((IntKind.wrap .u64 (IntKind.wrap .u8 ((((BitVec.ofInt 8 (List.getD x0 (Int.toNat s9) 0) &&& BitVec.ofInt 8 (127)).toNat : Nat) : Int)))) * 2 ^ (min (Int.toNat (IntKind.wrap .i64 ((7) * s9))) 64)))).toNat : Nat) : Int))))), (.d (.int .u64 (Int.fdiv (IntKind.wrap .u64 ((((BitVec.ofInt 64 s4 ||| BitVec.ofInt 64 (IntKind.wrap .u64 ((IntKind.wrap .u64 (IntKind.wrap .u8 ((((BitVec.ofInt 8 (List.getD x0 (Int.toNat s9) 0) &&& BitVec.ofInt 8 (127)).toNat : Nat) : Int)))) * 2 ^ (min (Int.toNat (IntKind.wrap .i64 ((7) * s9))) 64)))).toNat : Nat) : Int))) (2 ^ 1)))), (.d (.int .i64 (IntKind.wrap .i64 (Int.fdiv (IntKind.wrap .u64 ((((BitVec.ofInt 64 s4 ||| BitVec.ofInt 64 (IntKind.wrap .u64 ((IntKind.wrap .u64 (IntKind.wrap .u8 ((((BitVec.ofInt 8 (List.getD x0 (Int.toNat s9) 0) &&& BitVec.ofInt 8 (127)).toNat : Nat) : Int)))) * 2 ^ (min (Int.toNat (IntKind.wrap .i64 ((7) * s9))) 64)))).toNat : Nat) : Int))) (2 ^ 1))))), (.d (.int .u64 (IntKind.wrap .u64 ((((BitVec.ofInt 64 s4 ||| BitVec.ofInt 64 (IntKind.wrap .u64 ((IntKind.wrap .u64 (IntKind.wrap .u8 ((((BitVec.ofInt 8 (List.getD x0 (Int.toNat s9) 0) &&& BitVec.ofInt 8 (127)).toNat : Nat) : Int)))) * 2 ^ (min (Int.toNat (IntKind.wrap .i64 ((7) * s9))) 64)))).toNat : Nat) : Int))))), (.d (.int .u64 (IntKind.wrap .u64 ((((BitVec.ofInt 64 (IntKind.wrap .u64 ((((BitVec.ofInt 64 s4 ||| BitVec.ofInt 64 (IntKind.wrap .u64 ((IntKind.wrap .u64 (IntKind.wrap .u8 ((((BitVec.ofInt 8 (List.getD x0 (Int.toNat s9) 0) &&& BitVec.ofInt 8 (127)).toNat : Nat) : Int)))) * 2 ^ (min (Int.toNat (IntKind.wrap .i64 ((7) * s9))) 64)))).toNat : Nat) : Int))) &&& BitVec.ofInt 64 (1)).toNat : Nat) : Int))))), (.d (.int .i64 (IntKind.wrap .i64 (IntKind.wrap .u64 ((((BitVec.ofInt 64 (IntKind.wrap .u64 ((((BitVec.ofInt 64 s4 ||| BitVec.ofInt 64 (IntKind.wrap .u64 ((IntKind.wrap .u64 (IntKind.wrap .u8 ((((BitVec.ofInt 8 (List.getD x0 (Int.toNat s9) 0) &&& BitVec.ofInt 8 (127)).toNat : Nat) : Int)))) * 2 ^ (min (Int.toNat (IntKind.wrap .i64 ((7) * s9))) 64)))).toNat : Nat) : Int))) &&& BitVec.ofInt 64 (1)).toNat : Nat) : Int)))))), (.d (.int .i64 (IntKind.wrap .i64 (0 - (IntKind.wrap .i64 (IntKind.wrap .u64 ((((BitVec.ofInt 64 (IntKind.wrap .u64 ((((BitVec.ofInt 64 s4 ||| BitVec.ofInt 64 (IntKind.wrap .u64 ((IntKind.wrap .u64 (IntKind.wrap .u8 ((((BitVec.ofInt 8 (List.getD x0 (Int.toNat s9) 0) &&& BitVec.ofInt 8 (127)).toNat : Nat) : Int)))) * 2 ^ (min (Int.toNat (IntKind.wrap .i64 ((7) * s9))) 64)))).toNat : Nat) : Int))) &&& BitVec.ofInt 64 (1)).toNat : Nat) : Int)))))))), (.d (.int .i64 (IntKind.wrap .i64 ((((BitVec.ofInt 64 (IntKind.wrap .i64 (Int.fdiv (IntKind.wrap .u64 ((((BitVec.ofInt 64 s4 ||| BitVec.ofInt 64 (IntKind.wrap .u64 ((IntKind.wrap .u64 (IntKind.wrap .u8 ((((BitVec.ofInt 8 (List.getD x0 (Int.toNat s9) 0) &&& BitVec.ofInt 8 (127)).toNat : Nat) : Int)))) * 2 ^ (min (Int.toNat (IntKind.wrap .i64 ((7) * s9))) 64)))).toNat : Nat) : Int))) (2 ^ 1))) ^^^ BitVec.ofInt 64 (IntKind.wrap .i64 (0 - (IntKind.wrap .i64 (IntKind.wrap .u64 ((((BitVec.ofInt 64 (IntKind.wrap .u64 ((((BitVec.ofInt 64 s4 ||| BitVec.ofInt 64 (IntKind.wrap .u64 ((IntKind.wrap .u64 (IntKind.wrap .u8 ((((BitVec.ofInt 8 (List.getD x0 (Int.toNat s9) 0) &&& BitVec.ofInt 8 (127)).toNat : Nat) : Int)))) * 2 ^ (min (Int.toNat (IntKind.wrap .i64 ((7) * s9))) 64)))).toNat : Nat) : Int))) &&& BitVec.ofInt 64 (1)).toNat : Nat) : Int))))))).toNat : Nat) : Int))))), (.d (.int .i64 s9)), (.d (.int .i64 (IntKind.wrap .i64 (s9 + (1))))), .top], [])
  | _ => (.exit 0, [.top, .top, .top, .top, (.d (.int .u64 s4)), .top, .top, (.d (.sl (.int .u8) x0)), (.d (.int .i64 s8)), (.d (.int .i64 s9)), (.d (.bool (decide (s9 < s8)))), .top, .top, .top, .top, .top, .top, .top, .top, .top, .top, .top, .top, .top, .top, .top, .top, .top, .top, .top, .top, .top, .top, .top, .top, .top, .top, .top, .top, .top, .top, .top, .top, .top, .top, .top, .top, .top, .top, .top, .top, .top, .top], [])
noncomputable def lbl18_0 : AC := loopBody 912 body18

set_option maxHeartbeats 20000000 in
theorem l18_0_w0 (m n : Nat) (x0 : List Int) (s4 : Int) (s8 : Int) (s9 : Int) (c0 : decide (s9 < s8) = true) (c1 : decide (0 ≤ s9) = true) (c2 : decide (s9 < (((List.length x0) : Nat) : Int)) = true) (c3 : (s9 == (10)) = true) : (turns (hds 18 912) 0 912 (evC byref (evCall F S9 (m + 24)) (m + 24) 0 (hds 18) lbl18_0) (n + 1) (l18_0H x0 s4 s8 s9) (l18_0B x0 s4 s8 s9)).run = some (.ret, [.top, .top, (.d (.int .i64 (0))), (.d (.int .i64 (0))), (.d (.int .u64 s4)), (.d (.int .i64 s9)), (.d (.int .u8 (List.getD x0 (Int.toNat s9) 0))), (.d (.sl (.int .u8) x0)), (.d (.int .i64 s8)), (.d (.int .i64 s9)), (.d (.bool (decide (s9 < s8)))), (.d (.int .i64 s9)), (.cptr [(.int .u8 (List.getD x0 (Int.toNat s9) 0))] 0), (.d (.int .u8 (List.getD x0 (Int.toNat s9) 0))), (.d (.int .i64 s9)), (.d (.bool (s9 == (10)))), (.d (.bool (s9 == (10)))), (.tup []), (.tup []), (.tup []), (.tup []), (.tup []), (.tup []), (.d (.bool true)), (.d (.bool true)), (.tup []), (.tup []), (.tup []), (.tup []), (.tup []), (.tup []), (.d (.bool true)), .top, .top, .top, .top, .top, .top, .top, .top, .top, .top, .top, .top, .top, .top, .top, .top, .top, .top, .top, .top, .top], []) := by
  exact turns_last (by simp) (M.run_of_path _ [true, true, true, true, true, true, true, true, true, true, true, true, true, true] _ _ (by kernel_rfl) (all_t c0 (all_t c1 (all_t c2 (all_t c3 (all_t c3 (all_t c3 (all_t c3 (all_t c3 (all_t rfl (all_t rfl (all_t rfl (all_t rfl (all_t rfl (all_t rfl all_nil))))))))))))))) 
set_option maxHeartbeats 20000000 in
theorem l18_0_w1 (m n : Nat) (x0 : List Int) (s4 : Int) (s8 : Int) (s9 : Int) (c0 : decide (s9 < s8) = true) (c1 : decide (0 ≤ s9) = true) (c2 : decide (s9 < (((List.length x0) : Nat) : Int)) = true) (c3 : ¬ (s9 == (10)) = true) (c6 : (s9 == (9)) = true) (c11 : decide ((List.getD x0 (Int.toNat s9) 0) > 1) = true) : (turns (hds 18 912) 0 912 (evC byref (evCall F S9 (m + 24)) (m + 24) 0 (hds 18) lbl18_0) (n + 1) (l18_0H x0 s4 s8 s9) (l18_0B x0 s4 s8 s9)).run = some (.ret, [.top, .top, (.d (.int .i64 (0))), (.d (.int .i64 (0))), (.d (.int .u64 s4)), (.d (.int .i64 s9)), (.d (.int .u8 (List.getD x0 (Int.toNat s9) 0))), (.d (.sl (.int .u8) x0)), (.d (.int .i64 s8)), (.d (.int .i64 s9)), (.d (.bool (decide (s9 < s8)))), (.d (.int .i64 s9)), (.cptr [(.int .u8 (List.getD x0 (Int.toNat s9) 0))] 0), (.d (.int .u8 (List.getD x0 (Int.toNat s9) 0))), (.d (.int .i64 s9)), (.d (.bool (s9 == (10)))), (.d (.bool (s9 == (10)))), (.d (.int .i64 s9)), (.d (.bool (s9 == (9)))), (.d (.bool (s9 == (9)))), (.d (.int .u8 (List.getD x0 (Int.toNat s9) 0))), (.d (.bool (decide ((List.getD x0 (Int.toNat s9) 0) > 1)))), (.d (.bool (decide ((List.getD x0 (Int.toNat s9) 0) > 1)))), (.d (.bool (decide ((List.getD x0 (Int.toNat s9) 0) > 1)))), (.d (.bool (decide ((List.getD x0 (Int.toNat s9) 0) > 1)))), (.tup []), (.tup []), (.tup []), (.tup []), (.tup []), (.tup []), (.d (.bool true)), .top, .top, .top, .top, .top, .top, .top, .top, .top, .top, .top, .top, .top, .top, .top, .top, .top, .top, .top, .top, .top], []) := by
  exact turns_last (by simp) (M.run_of_path _ [true, true, true, false, false, false, true, true, false, true, false, true, true, true, true, true, true] _ _ (by kernel_rfl) (all_t c0 (all_t c1 (all_t c2 (all_f c3 (all_f c3 (all_f c3 (all_t c6 (all_t c6 (all_f c3 (all_t c6 (all_f c3 (all_t c11 (all_t c11 (all_t c11 (all_t c11 (all_t c11 (all_t rfl all_nil)))))))))))))))))) 
set_option maxHeartbeats 20000000 in
theorem l18_0_w2 (m n : Nat) (x0 : List Int) (s4 : Int) (s8 : Int) (s9 : Int) (c0 : decide (s9 < s8) = true) (c1 : decide (0 ≤ s9) = true) (c2 : decide (s9 < (((List.length x0) : Nat) : Int)) = true) (c3 : ¬ (s9 == (10)) = true) (c6 : (s9 == (9)) = true) (c11 : ¬ decide ((List.getD x0 (Int.toNat s9) 0) > 1) = true) (c14 : decide (s9 > 0) = true) (c19 : ((List.getD x0 (Int.toNat s9) 0) == (0)) = true) : (turns (hds 18 912) 0 912 (evC byref (evCall F S9 (m + 24)) (m + 24) 0 (hds 18) lbl18_0) (n + 1) (l18_0H x0 s4 s8 s9) (l18_0B x0 s4 s8 s9)).run = some (.ret, [.top, .top, (.d (.int .i64 (0))), (.d (.int .i64 (0))), (.d (.int .u64 s4)), (.d (.int .i64 s9)), (.d (.int .u8 (List.getD x0 (Int.toNat s9) 0))), (.d (.sl (.int .u8) x0)), (.d (.int .i64 s8)), (.d (.int .i64 s9)), (.d (.bool (decide (s9 < s8)))), (.d (.int .i64 s9)), (.cptr [(.int .u8 (List.getD x0 (Int.toNat s9) 0))] 0), (.d (.int .u8 (List.getD x0 (Int.toNat s9) 0))), (.d (.int .i64 s9)), (.d (.bool (s9 == (10)))), (.d (.bool (s9 == (10)))), (.d (.int .i64 s9)), (.d (.bool (s9 == (9)))), (.d (.bool (s9 == (9)))), (.d (.int .u8 (List.getD x0 (Int.toNat s9) 0))), (.d (.bool (decide ((List.getD x0 (Int.toNat s9) 0) > 1)))), (.d (.bool (decide ((List.getD x0 (Int.toNat s9) 0) > 1)))), (.d (.bool (decide ((List.getD x0 (Int.toNat s9) 0) > 1)))), (.d (.bool (decide ((List.getD x0 (Int.toNat s9) 0) > 1)))), (.d (.int .i64 s9)), (.d (.bool (decide (s9 > 0)))), (.d (.bool (decide (s9 > 0)))), (.d (.int .u8 (List.getD x0 (Int.toNat s9) 0))), (.d (.bool ((List.getD x0 (Int.toNat s9) 0) == (0)))), (.d (.bool ((List.getD x0 (Int.toNat s9) 0) == (0)))), (.d (.bool ((List.getD x0 (Int.toNat s9) 0) == (0)))), .top, .top, .top, .top, .top, .top, .top, .top, .top, .top, .top, .top, .top, .top, .top, .top, .top, .top, .top, .top, .top], []) := by
  exact turns_last (by simp) (M.run_of_path _ [true, true, true, false, false, false, true, true, false, true, false, false, false, false, true, true, false, true, false, true] _ _ (by kernel_rfl) (all_t c0 (all_t c1 (all_t c2 (all_f c3 (all_f c3 (all_f c3 (all_t c6 (all_t c6 (all_f c3 (all_t c6 (all_f c3 (all_f c11 (all_f c11 (all_f c11 (all_t c14 (all_t c14 (all_f c11 (all_t c14 (all_f c11 (all_t c19 all_nil))))))))))))))))))))) 
set_option maxHeartbeats 20000000 in
theorem l18_0_w3 (m n : Nat) (x0 : List Int) (s4 : Int) (s8 : Int) (s9 : Int) (c0 : decide (s9 < s8) = true) (c1 : decide (0 ≤ s9) = true) (c2 : decide (s9 < (((List.length x0) : Nat) : Int)) = true) (c3 : ¬ (s9 == (10)) = true) (c6 : (s9 == (9)) = true) (c11 : ¬ decide ((List.getD x0 (Int.toNat s9) 0) > 1) = true) (c14 : decide (s9 > 0) = true) (c19 : ¬ ((List.getD x0 (Int.toNat s9) 0) == (0)) = true) (c20 : decide (0 ≤ (IntKind.wrap .i64 ((7) * s9))) = true) (c21 : decide ((List.getD x0 (Int.toNat s9) 0) < 128) = true) : (turns (hds 18 912) 0 912 (evC byref (evCall F S9 (m + 24)) (m + 24) 0 (hds 18) lbl18_0) (n + 1) (l18_0H x0 s4 s8 s9) (l18_0B x0 s4 s8 s9)).run = some (.ret, [.top, .top, (.d (.int .i64 (IntKind.wrap .i64 ((((BitVec.ofInt 64 (IntKind.wrap .i64 (Int.fdiv (IntKind.wrap .u64 ((((BitVec.ofInt 64 s4 ||| BitVec.ofInt 64 (IntKind.wrap .u64 ((IntKind.wrap .u64 (IntKind.wrap .u8 ((((BitVec.ofInt 8 (List.getD x0 (Int.toNat s9) 0) &&& BitVec.ofInt 8 (127)).toNat : Nat) : Int)))) * 2 ^ (min (Int.toNat (IntKind.wrap .i64 ((7) * s9))) 64)))).toNat : Nat) : Int))) (2 ^ 1))) ^^^ BitVec.ofInt 64 (IntKind.wrap .i64 (0 - (IntKind.wrap .i64 (IntKind.wrap .u64 ((((BitVec.ofInt 64 (IntKind.wrap .u64 ((((BitVec.ofInt 64 s4 ||| BitVec.ofInt 64 (IntKind.wrap .u64 ((IntKind.wrap .u64 (IntKind.wrap .u8 ((((BitVec.ofInt 8 (List.getD x0 (Int.toNat s9) 0) &&& BitVec.ofInt 8 (127)).toNat : Nat) : Int)))) * 2 ^ (min (Int.toNat (IntKind.wrap .i64 ((7) * s9))) 64)))).toNat : Nat) : Int))) &&& BitVec.ofInt 64 (1)).toNat : Nat) : Int))))))).toNat : Nat) : Int))))), (.d (.int .i64 (IntKind.wrap .i64 (s9 + (1))))), (.d (.int .u64 (IntKind.wrap .u64 ((((BitVec.ofInt 64 s4 ||| BitVec.ofInt 64 (IntKind.wrap .u64 ((IntKind.wrap .u64 (IntKind.wrap .u8 ((((BitVec.ofInt 8 (List.getD x0 (Int.toNat s9) 0) &&& BitVec.ofInt 8 (127)).toNat : Nat) : Int)))) * 2 ^ (min (Int.toNat (IntKind.wrap .i64 ((7) * s9))) 64)))).toNat : Nat) : Int))))), (.d (.int .i64 s9)), (.d (.int .u8 (List.getD x0 (Int.toNat s9) 0))), (.d (.sl (.int .u8) x0)), (.d (.int .i64 s8)), (.d (.int .i64 s9)), (.d (.bool (decide (s9 < s8)))), (.d (.int .i64 s9)), (.cptr [(.int .u8 (List.getD x0 (Int.toNat s9) 0))] 0), (.d (.int .u8 (List.getD x0 (Int.toNat s9) 0))), (.d (.int .i64 s9)), (.d (.bool (s9 == (10)))), (.d (.bool (s9 == (10)))), (.d (.int .i64 s9)), (.d (.bool (s9 == (9)))), (.d (.bool (s9 == (9)))), (.d (.int .u8 (List.getD x0 (Int.toNat s9) 0))), (.d (.bool (decide ((List.getD x0 (Int.toNat s9) 0) > 1)))), (.d (.bool (decide ((List.getD x0 (Int.toNat s9) 0) > 1)))), (.d (.bool (decide ((List.getD x0 (Int.toNat s9) 0) > 1)))), (.d (.bool (decide ((List.getD x0 (Int.toNat s9) 0) > 1)))), (.d (.int .i64 s9)), (.d (.bool (decide (s9 > 0)))), (.d (.bool (decide (s9 > 0)))), (.d (.int .u8 (List.getD x0 (Int.toNat s9) 0))), (.d (.bool ((List.getD x0 (Int.toNat s9) 0) == (0)))), (.d (.bool ((List.getD x0 (Int.toNat s9) 0) == (0)))), (.d (.bool ((List.getD x0 (Int.toNat s9) 0) == (0)))), (.d (.int .u64 s4)), (.d (.int .u8 (List.getD x0 (Int.toNat s9) 0))), (.d (.int .u8 (IntKind.wrap .u8 ((((BitVec.ofInt 8 (List.getD x0 (Int.toNat s9) 0) &&& BitVec.ofInt 8 (127)).toNat : Nat) : Int))))), (.d (.int .u64 (IntKind.wrap .u64 (IntKind.wrap .u8 ((((BitVec.ofInt 8 (List.getD x0 (Int.toNat s9) 0) &&& BitVec.ofInt 8 (127)).toNat : Nat) : Int)))))), (.d (.int .i64 s9)), (.d (.int .i64 (IntKind.wrap .i64 ((7) * s9)))), (.d (.int .u64 (IntKind.wrap .u64 ((IntKind.wrap .u64 (IntKind.wrap .u8 ((((BitVec.ofInt 8 (List.getD x0 (Int.toNat s9) 0) &&& BitVec.ofInt 8 (127)).toNat : Nat) : Int)))) * 2 ^ (min (Int.toNat (IntKind.wrap .i64 ((7) * s9))) 64))))), (.d (.int .u64 (IntKind.wrap .u64 ((((BitVec.ofInt 64 s4 ||| BitVec.ofInt 64 (IntKind.wrap .u64 ((IntKind.wrap .u64 (IntKind.wrap .u8 ((((BitVec.ofInt 8 (List.getD x0 (Int.toNat s9) 0) &&& BitVec.ofInt 8 (127)).toNat : Nat) : Int)))) * 2 ^ (min (Int.toNat (IntKind.wrap .i64 ((7) * s9))) 64)))).toNat : Nat) : Int))))), (.d (.int .u8 (List.getD x0 (Int.toNat s9) 0))), (.d (.bool (decide ((List.getD x0 (Int.toNat s9) 0) < 128)))), (.d (.int .u64 (IntKind.wrap .u64 ((((BitVec.ofInt 64 s4 ||| BitVec.ofInt 64 (IntKind.wrap .u64 ((IntKind.wrap .u64 (IntKind.wrap .u8 ((((BitVec.ofInt 8 (List.getD x0 (Int.toNat s9) 0) &&& BitVec.ofInt 8 (127)).toNat : Nat) : Int)))) * 2 ^ (min (Int.toNat (IntKind.wrap .i64 ((7) * s9))) 64)))).toNat : Nat) : Int))))), (.d (.int .u64 (Int.fdiv (IntKind.wrap .u64 ((((BitVec.ofInt 64 s4 ||| BitVec.ofInt 64 (IntKind.wrap .u64 ((IntKind.wrap .u64 (IntKind.wrap .u8 ((((BitVec.ofInt 8 (List.getD x0 (Int.toNat s9) 0) &&& BitVec.ofInt 8 (127)).toNat : Nat) : Int)))) * 2 ^ (min (Int.toNat (IntKind.wrap .i64 ((7) * s9))) 64)))).toNat : Nat) : Int))) (2 ^ 1)))), (.d (.int .i64 (IntKind.wrap .i64 (Int.fdiv (IntKind.wrap .u64 ((((BitVec.ofInt 64 s4 ||| BitVec.ofInt 64 (IntKind.wrap .u64 ((IntKind.wrap .u64 (IntKind.wrap .u8 ((((BitVec.ofInt 8 (List.getD x0 (Int.toNat s9) 0) &&& BitVec.ofInt 8 (127)).toNat : Nat) : Int)))) * 2 ^ (min (Int.toNat (IntKind.wrap .i64 ((7) * s9))) 64)))).toNat : Nat) : Int))) (2 ^ 1))))), (.d (.int .u64 (IntKind.wrap .u64 ((((BitVec.ofInt 64 s4 ||| BitVec.ofInt 64 (IntKind.wrap .u64 ((IntKind.wrap .u64 (IntKind.wrap .u8 ((((BitVec.ofInt 8 (List.getD x0 (Int.toNat s9) 0) &&& BitVec.ofInt 8 (127)).toNat : Nat) : Int)))) * 2 ^ (min (Int.toNat (IntKind.wrap .i64 ((7) * s9))) 64)))).toNat : Nat) : Int))))), (.d (.int .u64 (IntKind.wrap .u64 ((((BitVec.ofInt 64 (IntKind.wrap .u64 ((((BitVec.ofInt 64 s4 ||| BitVec.ofInt 64 (IntKind.wrap .u64 ((IntKind.wrap .u64 (IntKind.wrap .u8 ((((BitVec.ofInt 8 (List.getD x0 (Int.toNat s9) 0) &&& BitVec.ofInt 8 (127)).toNat : Nat) : Int)))) * 2 ^ (min (Int.toNat (IntKind.wrap .i64 ((7) * s9))) 64)))).toNat : Nat) : Int))) &&& BitVec.ofInt 64 (1)).toNat : Nat) : Int))))), (.d (.int .i64 (IntKind.wrap .i64 (IntKind.wrap .u64 ((((BitVec.ofInt 64 (IntKind.wrap .u64 ((((BitVec.ofInt 64 s4 ||| BitVec.ofInt 64 (IntKind.wrap .u64 ((IntKind.wrap .u64 (IntKind.wrap .u8 ((((BitVec.ofInt 8 (List.getD x0 (Int.toNat s9) 0) &&& BitVec.ofInt 8 (127)).toNat : Nat) : Int)))) * 2 ^ (min (Int.toNat (IntKind.wrap .i64 ((7) * s9))) 64)))).toNat : Nat) : Int))) &&& BitVec.ofInt 64 (1)).toNat : Nat) : Int)))))), (.d (.int .i64 (IntKind.wrap .i64 (0 - (IntKind.wrap .i64 (IntKind.wrap .u64 ((((BitVec.ofInt 64 (IntKind.wrap .u64 ((((BitVec.ofInt 64 s4 ||| BitVec.ofInt 64 (IntKind.wrap .u64 ((IntKind.wrap .u64 (IntKind.wrap .u8 ((((BitVec.ofInt 8 (List.getD x0 (Int.toNat s9) 0) &&& BitVec.ofInt 8 (127)).toNat : Nat) : Int)))) * 2 ^ (min (Int.toNat (IntKind.wrap .i64 ((7) * s9))) 64)))).toNat : Nat) : Int))) &&& BitVec.ofInt 64 (1)).toNat : Nat) : Int)))))))), (.d (.int .i64 (IntKind.wrap .i64 ((((BitVec.ofInt 64 (IntKind.wrap .i64 (Int.fdiv (IntKind.wrap .u64 ((((BitVec.ofInt 64 s4 ||| BitVec.ofInt 64 (IntKind.wrap .u64 ((IntKind.wrap .u64 (IntKind.wrap .u8 ((((BitVec.ofInt 8 (List.getD x0 (Int.toNat s9) 0) &&& BitVec.ofInt 8 (127)).toNat : Nat) : Int)))) * 2 ^ (min (Int.toNat (IntKind.wrap .i64 ((7) * s9))) 64)))).toNat : Nat) : Int))) (2 ^ 1))) ^^^ BitVec.ofInt 64 (IntKind.wrap .i64 (0 - (IntKind.wrap .i64 (IntKind.wrap .u64 ((((BitVec.ofInt 64 (IntKind.wrap .u64 ((((BitVec.ofInt 64 s4 ||| BitVec.ofInt 64 (IntKind.wrap .u64 ((IntKind.wrap .u64 (IntKind.wrap .u8 ((((BitVec.ofInt 8 (List.getD x0 (Int.toNat s9) 0) &&& BitVec.ofInt 8 (127)).toNat : Nat) : Int)))) * 2 ^ (min (Int.toNat (IntKind.wrap .i64 ((7) * s9))) 64)))).toNat : Nat) : Int))) &&& BitVec.ofInt 64 (1)).toNat : Nat) : Int))))))).toNat : Nat) : Int))))), (.d (.int .i64 s9)), (.d (.int .i64 (IntKind.wrap .i64 (s9 + (1))))), .top], []) := by
  exact turns_last (by simp) (M.run_of_path _ [true, true, true, false, false, false, true, true, false, true, false, false, false, false, true, true, false, true, false, false, true, true, true] _ _ (by kernel_rfl) (all_t c0 (all_t c1 (all_t c2 (all_f c3 (all_f c3 (all_f c3 (all_t c6 (all_t c6 (all_f c3 (all_t c6 (all_f c3 (all_f c11 (all_f c11 (all_f c11 (all_t c14 (all_t c14 (all_f c11 (all_t c14 (all_f c11 (all_f c19 (all_t c20 (all_t c21 (all_t rfl all_nil)))))))))))))))))))))))) 
set_option maxHeartbeats 20000000 in
theorem l18_0_w4 (m n : Nat) (x0 : List Int) (s4 : Int) (s8 : Int) (s9 : Int) (r : AEx × Env × Boxes) (c0 : decide (s9 < s8) = true) (c1 : decide (0 ≤ s9) = true) (c2 : decide (s9 < (((List.length x0) : Nat) : Int)) = true) (c3 : ¬ (s9 == (10)) = true) (c6 : (s9 == (9)) = true) (c11 : ¬ decide ((List.getD x0 (Int.toNat s9) 0) > 1) = true) (c14 : decide (s9 > 0) = true) (c19 : ¬ ((List.getD x0 (Int.toNat s9) 0) == (0)) = true) (c20 : decide (0 ≤ (IntKind.wrap .i64 ((7) * s9))) = true) (c21 : ¬ decide ((List.getD x0 (Int.toNat s9) 0) < 128) = true) (ih : (turns (hds 18 912) 0 912 (evC byref (evCall F S9 (m + 24)) (m + 24) 0 (hds 18) lbl18_0) n (l18_0H x0 ((IntKind.wrap .u64 ((((BitVec.ofInt 64 s4 ||| BitVec.ofInt 64 (IntKind.wrap .u64 ((IntKind.wrap .u64 (IntKind.wrap .u8 ((((BitVec.ofInt 8 (List.getD x0 (Int.toNat s9) 0) &&& BitVec.ofInt 8 (127)).toNat : Nat) : Int)))) * 2 ^ (min (Int.toNat (IntKind.wrap .i64 ((7) * s9))) 64)))).toNat : Nat) : Int)))) s8 ((IntKind.wrap .i64 (s9 + (1))))) (l18_0B x0 ((IntKind.wrap .u64 ((((BitVec.ofInt 64 s4 ||| BitVec.ofInt 64 (IntKind.wrap .u64 ((IntKind.wrap .u64 (IntKind.wrap .u8 ((((BitVec.ofInt 8 (List.getD x0 (Int.toNat s9) 0) &&& BitVec.ofInt 8 (127)).toNat : Nat) : Int)))) * 2 ^ (min (Int.toNat (IntKind.wrap .i64 ((7) * s9))) 64)))).toNat : Nat) : Int)))) s8 ((IntKind.wrap .i64 (s9 + (1)))))).run = some r) : (turns (hds 18 912) 0 912 (evC byref (evCall F S9 (m + 24)) (m + 24) 0 (hds 18) lbl18_0) (n + 1) (l18_0H x0 s4 s8 s9) (l18_0B x0 s4 s8 s9)).run = some r := by
  exact turns_step (M.run_of_path _ [true, true, true, false, false, false, true, true, false, true, false, false, false, false, true, true, false, true, false, false, true, false] _ _ (by kernel_rfl) (all_t c0 (all_t c1 (all_t c2 (all_f c3 (all_f c3 (all_f c3 (all_t c6 (all_t c6 (all_f c3 (all_t c6 (all_f c3 (all_f c11 (all_f c11 (all_f c11 (all_t c14 (all_t c14 (all_f c11 (all_t c14 (all_f c11 (all_f c19 (all_t c20 (all_f c21 all_nil))))))))))))))))))))))) ih
set_option maxHeartbeats 20000000 in
theorem l18_0_w5 (m n : Nat) (x0 : List Int) (s4 : Int) (s8 : Int) (s9 : Int) (c0 : decide (s9 < s8) = true) (c1 : decide (0 ≤ s9) = true) (c2 : decide (s9 < (((List.length x0) : Nat) : Int)) = true) (c3 : ¬ (s9 == (10)) = true) (c6 : (s9 == (9)) = true) (c11 : ¬ decide ((List.getD x0 (Int.toNat s9) 0) > 1) = true) (c14 : ¬ decide (s9 > 0) = true) (c20 : decide (0 ≤ (IntKind.wrap .i64 ((7) * s9))) = true) (c21 : decide ((List.getD x0 (Int.toNat s9) 0) < 128) = true) : (turns (hds 18 912) 0 912 (evC byref (evCall F S9 (m + 24)) (m + 24) 0 (hds 18) lbl18_0) (n + 1) (l18_0H x0 s4 s8 s9) (l18_0B x0 s4 s8 s9)).run = some (.ret, [.top, .top, (.d (.int .i64 (IntKind.wrap .i64 ((((BitVec.ofInt 64 (IntKind.wrap .i64 (Int.fdiv (IntKind.wrap .u64 ((((BitVec.ofInt 64 s4 ||| BitVec.ofInt 64 (IntKind.wrap .u64 ((IntKind.wrap .u64 (IntKind.wrap .u8 ((((BitVec.ofInt 8 (List.getD x0 (Int.toNat s9) 0) &&& BitVec.ofInt 8 (127)).toNat : Nat) : Int)))) * 2 ^ (min (Int.toNat (IntKind.wrap .i64 ((7) * s9))) 64)))).toNat : Nat) : Int))) (2 ^ 1))) ^^^ BitVec.ofInt 64 (IntKind.wrap .i64 (0 - (IntKind.wrap .i64 (IntKind.wrap .u64 ((((BitVec.ofInt 64 (IntKind.wrap .u64 ((((BitVec.ofInt 64 s4 ||| BitVec.ofInt 64 (IntKind.wrap .u64 ((IntKind.wrap .u64 (IntKind.wrap .u8 ((((BitVec.ofInt 8 (List.getD x0 (Int.toNat s9) 0) &&& BitVec.ofInt 8 (127)).toNat : Nat) : Int)))) * 2 ^ (min (Int.toNat (IntKind.wrap .i64 ((7) * s9))) 64)))).toNat : Nat) : Int))) &&& BitVec.ofInt 64 (1)).toNat : Nat) : Int))))))).toNat : Nat) : Int))))), (.d (.int .i64 (IntKind.wrap .i64 (s9 + (1))))), (.d (.int .u64 (IntKind.wrap .u64 ((((BitVec.ofInt 64 s4 ||| BitVec.ofInt 64 (IntKind.wrap .u64 ((IntKind.wrap .u64 (IntKind.wrap .u8 ((((BitVec.ofInt 8 (List.getD x0 (Int.toNat s9) 0) &&& BitVec.ofInt 8 (127)).toNat : Nat) : Int)))) * 2 ^ (min (Int.toNat (IntKind.wrap .i64 ((7) * s9))) 64)))).toNat : Nat) : Int))))), (.d (.int .i64 s9)), (.d (.int .u8 (List.getD x0 (Int.toNat s9) 0))), (.d (.sl (.int .u8) x0)), (.d (.int .i64 s8)), (.d (.int .i64 s9)), (.d (.bool (decide (s9 < s8)))), (.d (.int .i64 s9)), (.cptr [(.int .u8 (List.getD x0 (Int.toNat s9) 0))] 0), (.d (.int .u8 (List.getD x0 (Int.toNat s9) 0))), (.d (.int .i64 s9)), (.d (.bool (s9 == (10)))), (.d (.bool (s9 == (10)))), (.d (.int .i64 s9)), (.d (.bool (s9 == (9)))), (.d (.bool (s9 == (9)))), (.d (.int .u8 (List.getD x0 (Int.toNat s9) 0))), (.d (.bool (decide ((List.getD x0 (Int.toNat s9) 0) > 1)))), (.d (.bool (decide ((List.getD x0 (Int.toNat s9) 0) > 1)))), (.d (.bool (decide ((List.getD x0 (Int.toNat s9) 0) > 1)))), (.d (.bool (decide ((List.getD x0 (Int.toNat s9) 0) > 1)))), (.d (.int .i64 s9)), (.d (.bool (decide (s9 > 0)))), (.d (.bool (decide (s9 > 0)))), (.tup []), (.tup []), (.d (.bool false)), (.d (.bool false)), (.d (.int .u64 s4)), (.d (.int .u8 (List.getD x0 (Int.toNat s9) 0))), (.d (.int .u8 (IntKind.wrap .u8 ((((BitVec.ofInt 8 (List.getD x0 (Int.toNat s9) 0) &&& BitVec.ofInt 8 (127)).toNat : Nat) : Int))))), (.d (.int .u64 (IntKind.wrap .u64 (IntKind.wrap .u8 ((((BitVec.ofInt 8 (List.getD x0 (Int.toNat s9) 0) &&& BitVec.ofInt 8 (127)).toNat : Nat) : Int)))))), (.d (.int .i64 s9)), (.d (.int .i64 (IntKind.wrap .i64 ((7) * s9)))), (.d (.int .u64 (IntKind.wrap .u64 ((IntKind.wrap .u64 (IntKind.wrap .u8 ((((BitVec.ofInt 8 (List.getD x0 (Int.toNat s9) 0) &&& BitVec.ofInt 8 (127)).toNat : Nat) : Int)))) * 2 ^ (min (Int.toNat (IntKind.wrap .i64 ((7) * s9))) 64))))), (.d (.int .u64 (IntKind.wrap .u64 ((((BitVec.ofInt 64 s4 ||| BitVec.ofInt 64 (IntKind.wrap .u64 ((IntKind.wrap .u64 (IntKind.wrap .u8 ((((BitVec.ofInt 8 (List.getD x0 (Int.toNat s9) 0) &&& BitVec.ofInt 8 (127)).toNat : Nat) : Int)))) * 2 ^ (min (Int.toNat (IntKind.wrap .i64 ((7) * s9))) 64)))).toNat : Nat) : Int))))), (.d (.int .u8 (List.getD x0 (Int.toNat s9) 0))), (.d (.bool (decide ((List.getD x0 (Int.toNat s9) 0) < 128)))), (.d (.int .u64 (IntKind.wrap .u64 ((((BitVec.ofInt 64 s4 ||| BitVec.ofInt 64 (IntKind.wrap .u64 ((IntKind.wrap .u64 (IntKind.wrap .u8 ((((BitVec.ofInt 8 (List.getD x0 (Int.toNat s9) 0) &&& BitVec.ofInt 8 (127)).toNat : Nat) : Int)))) * 2 ^ (min (Int.toNat (IntKind.wrap .i64 ((7) * s9))) 64)))).toNat : Nat) : Int))))), (.d (.int .u64 (Int.fdiv (IntKind.wrap .u64 ((((BitVec.ofInt 64 s4 ||| BitVec.ofInt 64 (IntKind.wrap .u64 ((IntKind.wrap .u64 (IntKind.wrap .u8 ((((BitVec.ofInt 8 (List.getD x0 (Int.toNat s9) 0) &&& BitVec.ofInt 8 (127)).toNat : Nat) : Int)))) * 2 ^ (min (Int.toNat (IntKind.wrap .i64 ((7) * s9))) 64)))).toNat : Nat) : Int))) (2 ^ 1)))), (.d (.int .i64 (IntKind.wrap .i64 (Int.fdiv (IntKind.wrap .u64 ((((BitVec.ofInt 64 s4 ||| BitVec.ofInt 64 (IntKind.wrap .u64 ((IntKind.wrap .u64 (IntKind.wrap .u8 ((((BitVec.ofInt 8 (List.getD x0 (Int.toNat s9) 0) &&& BitVec.ofInt 8 (127)).toNat : Nat) : Int)))) * 2 ^ (min (Int.toNat (IntKind.wrap .i64 ((7) * s9))) 64)))).toNat : Nat) : Int))) (2 ^ 1))))), (.d (.int .u64 (IntKind.wrap .u64 ((((BitVec.ofInt 64 s4 ||| BitVec.ofInt 64 (IntKind.wrap .u64 ((IntKind.wrap .u64 (IntKind.wrap .u8 ((((BitVec.ofInt 8 (List.getD x0 (Int.toNat s9) 0) &&& BitVec.ofInt 8 (127)).toNat : Nat) : Int)))) * 2 ^ (min (Int.toNat (IntKind.wrap .i64 ((7) * s9))) 64)))).toNat : Nat) : Int))))), (.d (.int .u64 (IntKind.wrap .u64 ((((BitVec.ofInt 64 (IntKind.wrap .u64 ((((BitVec.ofInt 64 s4 ||| BitVec.ofInt 64 (IntKind.wrap .u64 ((IntKind.wrap .u64 (IntKind.wrap .u8 ((((BitVec.ofInt 8 (List.getD x0 (Int.toNat s9) 0) &&& BitVec.ofInt 8 (127)).toNat : Nat) : Int)))) * 2 ^ (min (Int.toNat (IntKind.wrap .i64 ((7) * s9))) 64)))).toNat : Nat) : Int))) &&& BitVec.ofInt 64 (1)).toNat : Nat) : Int))))), (.d (.int .i64 (IntKind.wrap .i64 (IntKind.wrap .u64 ((((BitVec.ofInt 64 (IntKind.wrap .u64 ((((BitVec.ofInt 64 s4 ||| BitVec.ofInt 64 (IntKind.wrap .u64 ((IntKind.wrap .u64 (IntKind.wrap .u8 ((((BitVec.ofInt 8 (List.getD x0 (Int.toNat s9) 0) &&& BitVec.ofInt 8 (127)).toNat : Nat) : Int)))) * 2 ^ (min (Int.toNat (IntKind.wrap .i64 ((7) * s9))) 64)))).toNat : Nat) : Int))) &&& BitVec.ofInt 64 (1)).toNat : Nat) : Int)))))), (.d (.int .i64 (IntKind.wrap .i64 (0 - (IntKind.wrap .i64 (IntKind.wrap .u64 ((((BitVec.ofInt 64 (IntKind.wrap .u64 ((((BitVec.ofInt 64 s4 ||| BitVec.ofInt 64 (IntKind.wrap .u64 ((IntKind.wrap .u64 (IntKind.wrap .u8 ((((BitVec.ofInt 8 (List.getD x0 (Int.toNat s9) 0) &&& BitVec.ofInt 8 (127)).toNat : Nat) : Int)))) * 2 ^ (min (Int.toNat (IntKind.wrap .i64 ((7) * s9))) 64)))).toNat : Nat) : Int))) &&& BitVec.ofInt 64 (1)).toNat : Nat) : Int)))))))), (.d (.int .i64 (IntKind.wrap .i64 ((((BitVec.ofInt 64 (IntKind.wrap .i64 (Int.fdiv (IntKind.wrap .u64 ((((BitVec.ofInt 64 s4 ||| BitVec.ofInt 64 (IntKind.wrap .u64 ((IntKind.wrap .u64 (IntKind.wrap .u8 ((((BitVec.ofInt 8 (List.getD x0 (Int.toNat s9) 0) &&& BitVec.ofInt 8 (127)).toNat : Nat) : Int)))) * 2 ^ (min (Int.toNat (IntKind.wrap .i64 ((7) * s9))) 64)))).toNat : Nat) : Int))) (2 ^ 1))) ^^^ BitVec.ofInt 64 (IntKind.wrap .i64 (0 - (IntKind.wrap .i64 (IntKind.wrap .u64 ((((BitVec.ofInt 64 (IntKind.wrap .u64 ((((BitVec.ofInt 64 s4 ||| BitVec.ofInt 64 (IntKind.wrap .u64 ((IntKind.wrap .u64 (IntKind.wrap .u8 ((((BitVec.ofInt 8 (List.getD x0 (Int.toNat s9) 0) &&& BitVec.ofInt 8 (127)).toNat : Nat) : Int)))) * 2 ^ (min (Int.toNat (IntKind.wrap .i64 ((7) * s9))) 64)))).toNat : Nat) : Int))) &&& BitVec.ofInt 64 (1)).toNat : Nat) : Int))))))).toNat : Nat) : Int))))), (.d (.int .i64 s9)), (.d (.int .i64 (IntKind.wrap .i64 (s9 + (1))))), .top], []) := by
  exact turns_last (by simp) (M.run_of_path _ [true, true, true, false, false, false, true, true, false, true, false, false, false, false, false, false, false, false, false, false, true, true, true] _ _ (by kernel_rfl) (all_t c0 (all_t c1 (all_t c2 (all_f c3 (all_f c3 (all_f c3 (all_t c6 (all_t c6 (all_f c3 (all_t c6 (all_f c3 (all_f c11 (all_f c11 (all_f c11 (all_f c14 (all_f c14 (all_f c11 (all_f c14 (all_f c11 (all_f Bool.false_ne_true (all_t c20 (all_t c21 (all_t rfl all_nil)))))))))))))))))))))))) 
set_option maxHeartbeats 20000000 in
theorem l18_0_w6 (m n : Nat) (x0 : List Int) (s4 : Int) (s8 : Int) (s9 : Int) (r : AEx × Env × Boxes) (c0 : decide (s9 < s8) = true) (c1 : decide (0 ≤ s9) = true) (c2 : decide (s9 < (((List.length x0) : Nat) : Int)) = true) (c3 : ¬ (s9 == (10)) = true) (c6 : (s9 == (9)) = true) (c11 : ¬ decide ((List.getD x0 (Int.toNat s9) 0) > 1) = true) (c14 : ¬ decide (s9 > 0) = true) (c20 : decide (0 ≤ (IntKind.wrap .i64 ((7) * s9))) = true) (c21 : ¬ decide ((List.getD x0 (Int.toNat s9) 0) < 128) = true) (ih : (turns (hds 18 912) 0 912 (evC byref (evCall F S9 (m + 24)) (m + 24) 0 (hds 18) lbl18_0) n (l18_0H x0 ((IntKind.wrap .u64 ((((BitVec.ofInt 64 s4 ||| BitVec.ofInt 64 (IntKind.wrap .u64 ((IntKind.wrap .u64 (IntKind.wrap .u8 ((((BitVec.ofInt 8 (List.getD x0 (Int.toNat s9) 0) &&& BitVec.ofInt 8 (127)).toNat : Nat) : Int)))) * 2 ^ (min (Int.toNat (IntKind.wrap .i64 ((7) * s9))) 64)))).toNat : Nat) : Int)))) s8 ((IntKind.wrap .i64 (s9 + (1))))) (l18_0B x0 ((IntKind.wrap .u64 ((((BitVec.ofInt 64 s4 ||| BitVec.ofInt 64 (IntKind.wrap .u64 ((IntKind.wrap .u64 (IntKind.wrap .u8 ((((BitVec.ofInt 8 (List.getD x0 (Int.toNat s9) 0) &&& BitVec.ofInt 8 (127)).toNat : Nat) : Int)))) * 2 ^ (min (Int.toNat (IntKind.wrap .i64 ((7) * s9))) 64)))).toNat : Nat) : Int)))) s8 ((IntKind.wrap .i64 (s9 + (1)))))).run = some r) : (turns (hds 18 912) 0 912 (evC byref (evCall F S9 (m + 24)) (m + 24) 0 (hds 18) lbl18_0) (n + 1) (l18_0H x0 s4 s8 s9) (l18_0B x0 s4 s8 s9)).run = some r := by
  exact turns_step (M.run_of_path _ [true, true, true, false, false, false, true, true, false, true, false, false, false, false, false, false, false, false, false, false, true, false] _ _ (by kernel_rfl) (all_t c0 (all_t c1 (all_t c2 (all_f c3 (all_f c3 (all_f c3 (all_t c6 (all_t c6 (all_f c3 (all_t c6 (all_f c3 (all_f c11 (all_f c11 (all_f c11 (all_f c14 (all_f c14 (all_f c11 (all_f c14 (all_f c11 (all_f Bool.false_ne_true (all_t c20 (all_f c21 all_nil))))))))))))))))))))))) ih
set_option maxHeartbeats 20000000 in
theorem l18_0_w7 (m n : Nat) (x0 : List Int) (s4 : Int) (s8 : Int) (s9 : Int) (c0 : decide (s9 < s8) = true) (c1 : decide (0 ≤ s9) = true) (c2 : decide (s9 < (((List.length x0) : Nat) : Int)) = true) (c3 : ¬ (s9 == (10)) = true) (c6 : ¬ (s9 == (9)) = true) (c14 : decide (s9 > 0) = true) (c19 : ((List.getD x0 (Int.toNat s9) 0) == (0)) = true) : (turns (hds 18 912) 0 912 (evC byref (evCall F S9 (m + 24)) (m + 24) 0 (hds 18) lbl18_0) (n + 1) (l18_0H x0 s4 s8 s9) (l18_0B x0 s4 s8 s9)).run = some (.ret, [.top, .top, (.d (.int .i64 (0))), (.d (.int .i64 (0))), (.d (.int .u64 s4)), (.d (.int .i64 s9)), (.d (.int .u8 (List.getD x0 (Int.toNat s9) 0))), (.d (.sl (.int .u8) x0)), (.d (.int .i64 s8)), (.d (.int .i64 s9)), (.d (.bool (decide (s9 < s8)))), (.d (.int .i64 s9)), (.cptr [(.int .u8 (List.getD x0 (Int.toNat s9) 0))] 0), (.d (.int .u8 (List.getD x0 (Int.toNat s9) 0))), (.d (.int .i64 s9)), (.d (.bool (s9 == (10)))), (.d (.bool (s9 == (10)))), (.d (.int .i64 s9)), (.d (.bool (s9 == (9)))), (.d (.bool (s9 == (9)))), (.tup []), (.tup []), (.d (.bool false)), (.d (.bool false)), (.d (.bool false)), (.d (.int .i64 s9)), (.d (.bool (decide (s9 > 0)))), (.d (.bool (decide (s9 > 0)))), (.d (.int .u8 (List.getD x0 (Int.toNat s9) 0))), (.d (.bool ((List.getD x0 (Int.toNat s9) 0) == (0)))), (.d (.bool ((List.getD x0 (Int.toNat s9) 0) == (0)))), (.d (.bool ((List.getD x0 (Int.toNat s9) 0) == (0)))), .top, .top, .top, .top, .top, .top, .top, .top, .top, .top, .top, .top, .top, .top, .top, .top, .top, .top, .top, .top, .top], []) := by
  exact turns_last (by simp) (M.run_of_path _ [true, true, true, false, false, false, false, false, false, false, false, false, false, false, true, true, false, true, false, true] _ _ (by kernel_rfl) (all_t c0 (all_t c1 (all_t c2 (all_f c3 (all_f c3 (all_f c3 (all_f c6 (all_f c6 (all_f c3 (all_f c6 (all_f c3 (all_f Bool.false_ne_true (all_f Bool.false_ne_true (all_f Bool.false_ne_true (all_t c14 (all_t c14 (all_f Bool.false_ne_true (all_t c14 (all_f Bool.false_ne_true (all_t c19 all_nil))))))))))))))))))))) 
set_option maxHeartbeats 20000000 in
theorem l18_0_w8 (m n : Nat) (x0 : List Int) (s4 : Int) (s8 : Int) (s9 : Int) (c0 : decide (s9 < s8) = true) (c1 : decide (0 ≤ s9) = true) (c2 : decide (s9 < (((List.length x0) : Nat) : Int)) = true) (c3 : ¬ (s9 == (10)) = true) (c6 : ¬ (s9 == (9)) = true) (c14 : decide (s9 > 0) = true) (c19 : ¬ ((List.getD x0 (Int.toNat s9) 0) == (0)) = true) (c20 : decide (0 ≤ (IntKind.wrap .i64 ((7) * s9))) = true) (c21 : decide ((List.getD x0 (Int.toNat s9) 0) < 128) = true) : (turns (hds 18 912) 0 912 (evC byref (evCall F S9 (m + 24)) (m + 24) 0 (hds 18) lbl18_0) (n + 1) (l18_0H x0 s4 s8 s9) (l18_0B x0 s4 s8 s9)).run = some (.ret, [.top, .top, (.d (.int .i64 (IntKind.wrap .i64 ((((BitVec.ofInt 64 (IntKind.wrap .i64 (Int.fdiv (IntKind.wrap .u64 ((((BitVec.ofInt 64 s4 ||| BitVec.ofInt 64 (IntKind.wrap .u64 ((IntKind.wrap .u64 (IntKind.wrap .u8 ((((BitVec.ofInt 8 (List.getD x0 (Int.toNat s9) 0) &&& BitVec.ofInt 8 (127)).toNat : Nat) : Int)))) * 2 ^ (min (Int.toNat (IntKind.wrap .i64 ((7) * s9))) 64)))).toNat : Nat) : Int))) (2 ^ 1))) ^^^ BitVec.ofInt 64 (IntKind.wrap .i64 (0 - (IntKind.wrap .i64 (IntKind.wrap .u64 ((((BitVec.ofInt 64 (IntKind.wrap .u64 ((((BitVec.ofInt 64 s4 ||| BitVec.ofInt 64 (IntKind.wrap .u64 ((IntKind.wrap .u64 (IntKind.wrap .u8 ((((BitVec.ofInt 8 (List.getD x0 (Int.toNat s9) 0) &&& BitVec.ofInt 8 (127)).toNat : Nat) : Int)))) * 2 ^ (min (Int.toNat (IntKind.wrap .i64 ((7) * s9))) 64)))).toNat : Nat) : Int))) &&& BitVec.ofInt 64 (1)).toNat : Nat) : Int))))))).toNat : Nat) : Int))))), (.d (.int .i64 (IntKind.wrap .i64 (s9 + (1))))), (.d (.int .u64 (IntKind.wrap .u64 ((((BitVec.ofInt 64 s4 ||| BitVec.ofInt 64 (IntKind.wrap .u64 ((IntKind.wrap .u64 (IntKind.wrap .u8 ((((BitVec.ofInt 8 (List.getD x0 (Int.toNat s9) 0) &&& BitVec.ofInt 8 (127)).toNat : Nat) : Int)))) * 2 ^ (min (Int.toNat (IntKind.wrap .i64 ((7) * s9))) 64)))).toNat : Nat) : Int))))), (.d (.int .i64 s9)), (.d (.int .u8 (List.getD x0 (Int.toNat s9) 0))), (.d (.sl (.int .u8) x0)), (.d (.int .i64 s8)), (.d (.int .i64 s9)), (.d (.bool (decide (s9 < s8)))), (.d (.int .i64 s9)), (.cptr [(.int .u8 (List.getD x0 (Int.toNat s9) 0))] 0), (.d (.int .u8 (List.getD x0 (Int.toNat s9) 0))), (.d (.int .i64 s9)), (.d (.bool (s9 == (10)))), (.d (.bool (s9 == (10)))), (.d (.int .i64 s9)), (.d (.bool (s9 == (9)))), (.d (.bool (s9 == (9)))), (.tup []), (.tup []), (.d (.bool false)), (.d (.bool false)), (.d (.bool false)), (.d (.int .i64 s9)), (.d (.bool (decide (s9 > 0)))), (.d (.bool (decide (s9 > 0)))), (.d (.int .u8 (List.getD x0 (Int.toNat s9) 0))), (.d (.bool ((List.getD x0 (Int.toNat s9) 0) == (0)))), (.d (.bool ((List.getD x0 (Int.toNat s9) 0) == (0)))), (.d (.bool ((List.getD x0 (Int.toNat s9) 0) == (0)))), (.d (.int .u64 s4)), (.d (.int .u8 (List.getD x0 (Int.toNat s9) 0))), (.d (.int .u8 (IntKind.wrap .u8 ((((BitVec.ofInt 8 (List.getD x0 (Int.toNat s9) 0) &&& BitVec.ofInt 8 (127)).toNat : Nat) : Int))))), (.d (.int .u64 (IntKind.wrap .u64 (IntKind.wrap .u8 ((((BitVec.ofInt 8 (List.getD x0 (Int.toNat s9) 0) &&& BitVec.ofInt 8 (127)).toNat : Nat) : Int)))))), (.d (.int .i64 s9)), (.d (.int .i64 (IntKind.wrap .i64 ((7) * s9)))), (.d (.int .u64 (IntKind.wrap .u64 ((IntKind.wrap .u64 (IntKind.wrap .u8 ((((BitVec.ofInt 8 (List.getD x0 (Int.toNat s9) 0) &&& BitVec.ofInt 8 (127)).toNat : Nat) : Int)))) * 2 ^ (min (Int.toNat (IntKind.wrap .i64 ((7) * s9))) 64))))), (.d (.int .u64 (IntKind.wrap .u64 ((((BitVec.ofInt 64 s4 ||| BitVec.ofInt 64 (IntKind.wrap .u64 ((IntKind.wrap .u64 (IntKind.wrap .u8 ((((BitVec.ofInt 8 (List.getD x0 (Int.toNat s9) 0) &&& BitVec.ofInt 8 (127)).toNat : Nat) : Int)))) * 2 ^ (min (Int.toNat (IntKind.wrap .i64 ((7) * s9))) 64)))).toNat : Nat) : Int))))), (.d (.int .u8 (List.getD x0 (Int.toNat s9) 0))), (.d (.bool (decide ((List.getD x0 (Int.toNat s9) 0) < 128)))), (.d (.int .u64 (IntKind.wrap .u64 ((((BitVec.ofInt 64 s4 ||| BitVec.ofInt 64 (IntKind.wrap .u64 ((IntKind.wrap .u64 (IntKind.wrap .u8 ((((BitVec.ofInt 8 (List.getD x0 (Int.toNat s9) 0) &&& BitVec.ofInt 8 (127)).toNat : Nat) : Int)))) * 2 ^ (min (Int.toNat (IntKind.wrap .i64 ((7) * s9))) 64)))).toNat : Nat) : Int))))), (.d (.int .u64 (Int.fdiv (IntKind.wrap .u64 ((((BitVec.ofInt 64 s4 ||| BitVec.ofInt 64 (IntKind.wrap .u64 ((IntKind.wrap .u64 (IntKind.wrap .u8 ((((BitVec.ofInt 8 (List.getD x0 (Int.toNat s9) 0) &&& BitVec.ofInt 8 (127)).toNat : Nat) : Int)))) * 2 ^ (min (Int.toNat (IntKind.wrap .i64 ((7) * s9))) 64)))).toNat : Nat) : Int))) (2 ^ 1)))), (.d (.int .i64 (IntKind.wrap .i64 (Int.fdiv (IntKind.wrap .u64 ((((BitVec.ofInt 64 s4 ||| BitVec.ofInt 64 (IntKind.wrap .u64 ((IntKind.wrap .u64 (IntKind.wrap .u8 ((((BitVec.ofInt 8 (List.getD x0 (Int.toNat s9) 0) &&& BitVec.ofInt 8 (127)).toNat : Nat) : Int)))) * 2 ^ (min (Int.toNat (IntKind.wrap .i64 ((7) * s9))) 64)))).toNat : Nat) : Int))) (2 ^ 1))))), (.d (.int .u64 (IntKind.wrap .u64 ((((BitVec.ofInt 64 s4 ||| BitVec.ofInt 64 (IntKind.wrap .u64 ((IntKind.wrap .u64 (IntKind.wrap .u8 ((((BitVec.ofInt 8 (List.getD x0 (Int.toNat s9) 0) &&& BitVec.ofInt 8 (127)).toNat : Nat) : Int)))) * 2 ^ (min (Int.toNat (IntKind.wrap .i64 ((7) * s9))) 64)))).toNat : Nat) : Int))))), (.d (.int .u64 (IntKind.wrap .u64 ((((BitVec.ofInt 64 (IntKind.wrap .u64 ((((BitVec.ofInt 64 s4 ||| BitVec.ofInt 64 (IntKind.wrap .u64 ((IntKind.wrap .u64 (IntKind.wrap .u8 ((((BitVec.ofInt 8 (List.getD x0 (Int.toNat s9) 0) &&& BitVec.ofInt 8 (127)).toNat : Nat) : Int)))) * 2 ^ (min (Int.toNat (IntKind.wrap .i64 ((7) * s9))) 64)))).toNat : Nat) : Int))) &&& BitVec.ofInt 64 (1)).toNat : Nat) : Int))))), (.d (.int .i64 (IntKind.wrap .i64 (IntKind.wrap .u64 ((((BitVec.ofInt 64 (IntKind.wrap .u64 ((((BitVec.ofInt 64 s4 ||| BitVec.ofInt 64 (IntKind.wrap .u64 ((IntKind.wrap .u64 (IntKind.wrap .u8 ((((BitVec.ofInt 8 (List.getD x0 (Int.toNat s9) 0) &&& BitVec.ofInt 8 (127)).toNat : Nat) : Int)))) * 2 ^ (min (Int.toNat (IntKind.wrap .i64 ((7) * s9))) 64)))).toNat : Nat) : Int))) &&& BitVec.ofInt 64 (1)).toNat : Nat) : Int)))))), (.d (.int .i64 (IntKind.wrap .i64 (0 - (IntKind.wrap .i64 (IntKind.wrap .u64 ((((BitVec.ofInt 64 (IntKind.wrap .u64 ((((BitVec.ofInt 64 s4 ||| BitVec.ofInt 64 (IntKind.wrap .u64 ((IntKind.wrap .u64 (IntKind.wrap .u8 ((((BitVec.ofInt 8 (List.getD x0 (Int.toNat s9) 0) &&& BitVec.ofInt 8 (127)).toNat : Nat) : Int)))) * 2 ^ (min (Int.toNat (IntKind.wrap .i64 ((7) * s9))) 64)))).toNat : Nat) : Int))) &&& BitVec.ofInt 64 (1)).toNat : Nat) : Int)))))))), (.d (.int .i64 (IntKind.wrap .i64 ((((BitVec.ofInt 64 (IntKind.wrap .i64 (Int.fdiv (IntKind.wrap .u64 ((((BitVec.ofInt 64 s4 ||| BitVec.ofInt 64 (IntKind.wrap .u64 ((IntKind.wrap .u64 (IntKind.wrap .u8 ((((BitVec.ofInt 8 (List.getD x0 (Int.toNat s9) 0) &&& BitVec.ofInt 8 (127)).toNat : Nat) : Int)))) * 2 ^ (min (Int.toNat (IntKind.wrap .i64 ((7) * s9))) 64)))).toNat : Nat) : Int))) (2 ^ 1))) ^^^ BitVec.ofInt 64 (IntKind.wrap .i64 (0 - (IntKind.wrap .i64 (IntKind.wrap .u64 ((((BitVec.ofInt 64 (IntKind.wrap .u64 ((((BitVec.ofInt 64 s4 ||| BitVec.ofInt 64 (IntKind.wrap .u64 ((IntKind.wrap .u64 (IntKind.wrap .u8 ((((BitVec.ofInt 8 (List.getD x0 (Int.toNat s9) 0) &&& BitVec.ofInt 8 (127)).toNat : Nat) : Int)))) * 2 ^ (min (Int.toNat (IntKind.wrap .i64 ((7) * s9))) 64)))).toNat : Nat) : Int))) &&& BitVec.ofInt 64 (1)).toNat : Nat) : Int))))))).toNat : Nat) : Int))))), (.d (.int .i64 s9)), (.d (.int .i64 (IntKind.wrap .i64 (s9 + (1))))), .top], []) := by
  exact turns_last (by simp) (M.run_of_path _ [true, true, true, false, false, false, false, false, false, false, false, false, false, false, true, true, false, true, false, false, true, true, true] _ _ (by kernel_rfl) (all_t c0 (all_t c1 (all_t c2 (all_f c3 (all_f c3 (all_f c3 (all_f c6 (all_f c6 (all_f c3 (all_f c6 (all_f c3 (all_f Bool.false_ne_true (all_f Bool.false_ne_true (all_f Bool.false_ne_true (all_t c14 (all_t c14 (all_f Bool.false_ne_true (all_t c14 (all_f Bool.false_ne_true (all_f c19 (all_t c20 (all_t c21 (all_t rfl all_nil)))))))))))))))))))))))) 
set_option maxHeartbeats 20000000 in
theorem l18_0_w9 (m n : Nat) (x0 : List Int) (s4 : Int) (s8 : Int) (s9 : Int) (r : AEx × Env × Boxes) (c0 : decide (s9 < s8) = true) (c1 : decide (0 ≤ s9) = true) (c2 : decide (s9 < (((List.length x0) : Nat) : Int)) = true) (c3 : ¬ (s9 == (10)) = true) (c6 : ¬ (s9 == (9)) = true) (c14 : decide (s9 > 0) = true) (c19 : ¬ ((List.getD x0 (Int.toNat s9) 0) == (0)) = true) (c20 : decide (0 ≤ (IntKind.wrap .i64 ((7) * s9))) = true) (c21 : ¬ decide ((List.getD x0 (Int.toNat s9) 0) < 128) = true) (ih : (turns (hds 18 912) 0 912 (evC byref (evCall F S9 (m + 24)) (m + 24) 0 (hds 18) lbl18_0) n (l18_0H x0 ((IntKind.wrap .u64 ((((BitVec.ofInt 64 s4 ||| BitVec.ofInt 64 (IntKind.wrap .u64 ((IntKind.wrap .u64 (IntKind.wrap .u8 ((((BitVec.ofInt 8 (List.getD x0 (Int.toNat s9) 0) &&& BitVec.ofInt 8 (127)).toNat : Nat) : Int)))) * 2 ^ (min (Int.toNat (IntKind.wrap .i64 ((7) * s9))) 64)))).toNat : Nat) : Int)))) s8 ((IntKind.wrap .i64 (s9 + (1))))) (l18_0B x0 ((IntKind.wrap .u64 ((((BitVec.ofInt 64 s4 ||| BitVec.ofInt 64 (IntKind.wrap .u64 ((IntKind.wrap .u64 (IntKind.wrap .u8 ((((BitVec.ofInt 8 (List.getD x0 (Int.toNat s9) 0) &&& BitVec.ofInt 8 (127)).toNat : Nat) : Int)))) * 2 ^ (min (Int.toNat (IntKind.wrap .i64 ((7) * s9))) 64)))).toNat : Nat) : Int)))) s8 ((IntKind.wrap .i64 (s9 + (1)))))).run = some r) : (turns (hds 18 912) 0 912 (evC byref (evCall F S9 (m + 24)) (m + 24) 0 (hds 18) lbl18_0) (n + 1) (l18_0H x0 s4 s8 s9) (l18_0B x0 s4 s8 s9)).run = some r := by
  exact turns_step (M.run_of_path _ [true, true, true, false, false, false, false, false, false, false, false, false, false, false, true, true, false, true, false, false, true, false] _ _ (by kernel_rfl) (all_t c0 (all_t c1 (all_t c2 (all_f c3 (all_f c3 (all_f c3 (all_f c6 (all_f c6 (all_f c3 (all_f c6 (all_f c3 (all_f Bool.false_ne_true (all_f Bool.false_ne_true (all_f Bool.false_ne_true (all_t c14 (all_t c14 (all_f Bool.false_ne_true (all_t c14 (all_f Bool.false_ne_true (all_f c19 (all_t c20 (all_f c21 all_nil))))))))))))))))))))))) ih
set_option maxHeartbeats 20000000 in
theorem l18_0_w10 (m n : Nat) (x0 : List Int) (s4 : Int) (s8 : Int) (s9 : Int) (c0 : decide (s9 < s8) = true) (c1 : decide (0 ≤ s9) = true) (c2 : decide (s9 < (((List.length x0) : Nat) : Int)) = true) (c3 : ¬ (s9 == (10)) = true) (c6 : ¬ (s9 == (9)) = true) (c14 : ¬ decide (s9 > 0) = true) (c20 : decide (0 ≤ (IntKind.wrap .i64 ((7) * s9))) = true) (c21 : decide ((List.getD x0 (Int.toNat s9) 0) < 128) = true) : (turns (hds 18 912) 0 912 (evC byref (evCall F S9 (m + 24)) (m + 24) 0 (hds 18) lbl18_0) (n + 1) (l18_0H x0 s4 s8 s9) (l18_0B x0 s4 s8 s9)).run = some (.ret, [.top, .top, (.d (.int .i64 (IntKind.wrap .i64 ((((BitVec.ofInt 64 (IntKind.wrap .i64 (Int.fdiv (IntKind.wrap .u64 ((((BitVec.ofInt 64 s4 ||| BitVec.ofInt 64 (IntKind.wrap .u64 ((IntKind.wrap .u64 (IntKind.wrap .u8 ((((BitVec.ofInt 8 (List.getD x0 (Int.toNat s9) 0) &&& BitVec.ofInt 8 (127)).toNat : Nat) : Int)))) * 2 ^ (min (Int.toNat (IntKind.wrap .i64 ((7) * s9))) 64)))).toNat : Nat) : Int))) (2 ^ 1))) ^^^ BitVec.ofInt 64 (IntKind.wrap .i64 (0 - (IntKind.wrap .i64 (IntKind.wrap .u64 ((((BitVec.ofInt 64 (IntKind.wrap .u64 ((((BitVec.ofInt 64 s4 ||| BitVec.ofInt 64 (IntKind.wrap .u64 ((IntKind.wrap .u64 (IntKind.wrap .u8 ((((BitVec.ofInt 8 (List.getD x0 (Int.toNat s9) 0) &&& BitVec.ofInt 8 (127)).toNat : Nat) : Int)))) * 2 ^ (min (Int.toNat (IntKind.wrap .i64 ((7) * s9))) 64)))).toNat : Nat) : Int))) &&& BitVec.ofInt 64 (1)).toNat : Nat) : Int))))))).toNat : Nat) : Int))))), (.d (.int .i64 (IntKind.wrap .i64 (s9 + (1))))), (.d (.int .u64 (IntKind.wrap .u64 ((((BitVec.ofInt 64 s4 ||| BitVec.ofInt 64 (IntKind.wrap .u64 ((IntKind.wrap .u64 (IntKind.wrap .u8 ((((BitVec.ofInt 8 (List.getD x0 (Int.toNat s9) 0) &&& BitVec.ofInt 8 (127)).toNat : Nat) : Int)))) * 2 ^ (min (Int.toNat (IntKind.wrap .i64 ((7) * s9))) 64)))).toNat : Nat) : Int))))), (.d (.int .i64 s9)), (.d (.int .u8 (List.getD x0 (Int.toNat s9) 0))), (.d (.sl (.int .u8) x0)), (.d (.int .i64 s8)), (.d (.int .i64 s9)), (.d (.bool (decide (s9 < s8)))), (.d (.int .i64 s9)), (.cptr [(.int .u8 (List.getD x0 (Int.toNat s9) 0))] 0), (.d (.int .u8 (List.getD x0 (Int.toNat s9) 0))), (.d (.int .i64 s9)), (.d (.bool (s9 == (10)))), (.d (.bool (s9 == (10)))), (.d (.int .i64 s9)), (.d (.bool (s9 == (9)))), (.d (.bool (s9 == (9)))), (.tup []), (.tup []), (.d (.bool false)), (.d (.bool false)), (.d (.bool false)), (.d (.int .i64 s9)), (.d (.bool (decide (s9 > 0)))), (.d (.bool (decide (s9 > 0)))), (.tup []), (.tup []), (.d (.bool false)), (.d (.bool false)), (.d (.int .u64 s4)), (.d (.int .u8 (List.getD x0 (Int.toNat s9) 0))), (.d (.int .u8 (IntKind.wrap .u8 ((((BitVec.ofInt 8 (List.getD x0 (Int.toNat s9) 0) &&& BitVec.ofInt 8 (127)).toNat : Nat) : Int))))), (.d (.int .u64 (IntKind.wrap .u64 (IntKind.wrap .u8 ((((BitVec.ofInt 8 (List.getD x0 (Int.toNat s9) 0) &&& BitVec.ofInt 8 (127)).toNat : Nat) : Int)))))), (.d (.int .i64 s9)), (.d (.int .i64 (IntKind.wrap .i64 ((7) * s9)))), (.d (.int .u64 (IntKind.wrap .u64 ((IntKind.wrap .u64 (IntKind.wrap .u8 ((((BitVec.ofInt 8 (List.getD x0 (Int.toNat s9) 0) &&& BitVec.ofInt 8 (127)).toNat : Nat) : Int)))) * 2 ^ (min (Int.toNat (IntKind.wrap .i64 ((7) * s9))) 64))))), (.d (.int .u64 (IntKind.wrap .u64 ((((BitVec.ofInt 64 s4 ||| BitVec.ofInt 64 (IntKind.wrap .u64 ((IntKind.wrap .u64 (IntKind.wrap .u8 ((((BitVec.ofInt 8 (List.getD x0 (Int.toNat s9) 0) &&& BitVec.ofInt 8 (127)).toNat : Nat) : Int)))) * 2 ^ (min (Int.toNat (IntKind.wrap .i64 ((7) * s9))) 64)))).toNat : Nat) : Int))))), (.d (.int .u8 (List.getD x0 (Int.toNat s9) 0))), (.d (.bool (decide ((List.getD x0 (Int.toNat s9) 0) < 128)))), (.d (.int .u64 (IntKind.wrap .u64 ((((BitVec.ofInt 64 s4 ||| BitVec.ofInt 64 (IntKind.wrap .u64 ((IntKind.wrap .u64 (IntKind.wrap .u8 ((((BitVec.ofInt 8 (List.getD x0 (Int.toNat s9) 0) &&& BitVec.ofInt 8 (127)).toNat : Nat) : Int)))) * 2 ^ (min (Int.toNat (IntKind.wrap .i64 ((7) * s9))) 64)))).toNat : Nat) : Int))))), (.d (.int .u64 (Int.fdiv (IntKind.wrap .u64 ((((BitVec.ofInt 64 s4 ||| BitVec.ofInt 64 (IntKind.wrap .u64 ((IntKind.wrap .u64 (IntKind.wrap .u8 ((((BitVec.ofInt 8 (List.getD x0 (Int.toNat s9) 0) &&& BitVec.ofInt 8 (127)).toNat : Nat) : Int)))) * 2 ^ (min (Int.toNat (IntKind.wrap .i64 ((7) * s9))) 64)))).toNat : Nat) : Int))) (2 ^ 1)))), (.d (.int .i64 (IntKind.wrap .i64 (Int.fdiv (IntKind.wrap .u64 ((((BitVec.ofInt 64 s4 ||| BitVec.ofInt 64 (IntKind.wrap .u64 ((IntKind.wrap .u64 (IntKind.wrap .u8 ((((BitVec.ofInt 8 (List.getD x0 (Int.toNat s9) 0) &&& BitVec.ofInt 8 (127)).toNat : Nat) : Int)))) * 2 ^ (min (Int.toNat (IntKind.wrap .i64 ((7) * s9))) 64)))).toNat : Nat) : Int))) (2 ^ 1))))), (.d (.int .u64 (IntKind.wrap .u64 ((((BitVec.ofInt 64 s4 ||| BitVec.ofInt 64 (IntKind.wrap .u64 ((IntKind.wrap .u64 (IntKind.wrap .u8 ((((BitVec.ofInt 8 (List.getD x0 (Int.toNat s9) 0) &&& BitVec.ofInt 8 (127)).toNat : Nat) : Int)))) * 2 ^ (min (Int.toNat (IntKind.wrap .i64 ((7) * s9))) 64)))).toNat : Nat) : Int))))), (.d (.int .u64 (IntKind.wrap .u64 ((((BitVec.ofInt 64 (IntKind.wrap .u64 ((((BitVec.ofInt 64 s4 ||| BitVec.ofInt 64 (IntKind.wrap .u64 ((IntKind.wrap .u64 (IntKind.wrap .u8 ((((BitVec.ofInt 8 (List.getD x0 (Int.toNat s9) 0) &&& BitVec.ofInt 8 (127)).toNat : Nat) : Int)))) * 2 ^ (min (Int.toNat (IntKind.wrap .i64 ((7) * s9))) 64)))).toNat : Nat) : Int))) &&& BitVec.ofInt 64 (1)).toNat : Nat) : Int))))), (.d (.int .i64 (IntKind.wrap .i64 (IntKind.wrap .u64 ((((BitVec.ofInt 64 (IntKind.wrap .u64 ((((BitVec.ofInt 64 s4 ||| BitVec.ofInt 64 (IntKind.wrap .u64 ((IntKind.wrap .u64 (IntKind.wrap .u8 ((((BitVec.ofInt 8 (List.getD x0 (Int.toNat s9) 0) &&& BitVec.ofInt 8 (127)).toNat : Nat) : Int)))) * 2 ^ (min (Int.toNat (IntKind.wrap .i64 ((7) * s9))) 64)))).toNat : Nat) : Int))) &&& BitVec.ofInt 64 (1)).toNat : Nat) : Int)))))), (.d (.int .i64 (IntKind.wrap .i64 (0 - (IntKind.wrap .i64 (IntKind.wrap .u64 ((((BitVec.ofInt 64 (IntKind.wrap .u64 ((((BitVec.ofInt 64 s4 ||| BitVec.ofInt 64 (IntKind.wrap .u64 ((IntKind.wrap .u64 (IntKind.wrap .u8 ((((BitVec.ofInt 8 (List.getD x0 (Int.toNat s9) 0) &&& BitVec.ofInt 8 (127)).toNat : Nat) : Int)))) * 2 ^ (min (Int.toNat (IntKind.wrap .i64 ((7) * s9))) 64)))).toNat : Nat) : Int))) &&& BitVec.ofInt 64 (1)).toNat : Nat) : Int)))))))), (.d (.int .i64 (IntKind.wrap .i64 ((((BitVec.ofInt 64 (IntKind.wrap .i64 (Int.fdiv (IntKind.wrap .u64 ((((BitVec.ofInt 64 s4 ||| BitVec.ofInt 64 (IntKind.wrap .u64 ((IntKind.wrap .u64 (IntKind.wrap .u8 ((((BitVec.ofInt 8 (List.getD x0 (Int.toNat s9) 0) &&& BitVec.ofInt 8 (127)).toNat : Nat) : Int)))) * 2 ^ (min (Int.toNat (IntKind.wrap .i64 ((7) * s9))) 64)))).toNat : Nat) : Int))) (2 ^ 1))) ^^^ BitVec.ofInt 64 (IntKind.wrap .i64 (0 - (IntKind.wrap .i64 (IntKind.wrap .u64 ((((BitVec.ofInt 64 (IntKind.wrap .u64 ((((BitVec.ofInt 64 s4 ||| BitVec.ofInt 64 (IntKind.wrap .u64 ((IntKind.wrap .u64 (IntKind.wrap .u8 ((((BitVec.ofInt 8 (List.getD x0 (Int.toNat s9) 0) &&& BitVec.ofInt 8 (127)).toNat : Nat) : Int)))) * 2 ^ (min (Int.toNat (IntKind.wrap .i64 ((7) * s9))) 64)))).toNat : Nat) : Int))) &&& BitVec.ofInt 64 (1)).toNat : Nat) : Int))))))).toNat : Nat) : Int))))), (.d (.int .i64 s9)), (.d (.int .i64 (IntKind.wrap .i64 (s9 + (1))))), .top], []) := by
  exact turns_last (by simp) (M.run_of_path _ [true, true, true, false, false, false, false, false, false, false, false, false, false, false, false, false, false, false, false, false, true, true, true] _ _ (by kernel_rfl) (all_t c0 (all_t c1 (all_t c2 (all_f c3 (all_f c3 (all_f c3 (all_f c6 (all_f c6 (all_f c3 (all_f c6 (all_f c3 (all_f Bool.false_ne_true (all_f Bool.false_ne_true (all_f Bool.false_ne_true (all_f c14 (all_f c14 (all_f Bool.false_ne_true (all_f c14 (all_f Bool.false_ne_true (all_f Bool.false_ne_true (all_t c20 (all_t c21 (all_t rfl all_nil)))))))))))))))))))))))) 
set_option maxHeartbeats 20000000 in
theorem l18_0_w11 (m n : Nat) (x0 : List Int) (s4 : Int) (s8 : Int) (s9 : Int) (r : AEx × Env × Boxes) (c0 : decide (s9 < s8) = true) (c1 : decide (0 ≤ s9) = true) (c2 : decide (s9 < (((List.length x0) : Nat) : Int)) = true) (c3 : ¬ (s9 == (10)) = true) (c6 : ¬ (s9 == (9)) = true) (c14 : ¬ decide (s9 > 0) = true) (c20 : decide (0 ≤ (IntKind.wrap .i64 ((7) * s9))) = true) (c21 : ¬ decide ((List.getD x0 (Int.toNat s9) 0) < 128) = true) (ih : (turns (hds 18 912) 0 912 (evC byref (evCall F S9 (m + 24)) (m + 24) 0 (hds 18) lbl18_0) n (l18_0H x0 ((IntKind.wrap .u64 ((((BitVec.ofInt 64 s4 ||| BitVec.ofInt 64 (IntKind.wrap .u64 ((IntKind.wrap .u64 (IntKind.wrap .u8 ((((BitVec.ofInt 8 (List.getD x0 (Int.toNat s9) 0) &&& BitVec.ofInt 8 (127)).toNat : Nat) : Int)))) * 2 ^ (min (Int.toNat (IntKind.wrap .i64 ((7) * s9))) 64)))).toNat : Nat) : Int)))) s8 ((IntKind.wrap .i64 (s9 + (1))))) (l18_0B x0 ((IntKind.wrap .u64 ((((BitVec.ofInt 64 s4 ||| BitVec.ofInt 64 (IntKind.wrap .u64 ((IntKind.wrap .u64 (IntKind.wrap .u8 ((((BitVec.ofInt 8 (List.getD x0 (Int.toNat s9) 0) &&& BitVec.ofInt 8 (127)).toNat : Nat) : Int)))) * 2 ^ (min (Int.toNat (IntKind.wrap .i64 ((7) * s9))) 64)))).toNat : Nat) : Int)))) s8 ((IntKind.wrap .i64 (s9 + (1)))))).run = some r) : (turns (hds 18 912) 0 912 (evC byref (evCall F S9 (m + 24)) (m + 24) 0 (hds 18) lbl18_0) (n + 1) (l18_0H x0 s4 s8 s9) (l18_0B x0 s4 s8 s9)).run = some r := by
  exact turns_step (M.run_of_path _ [true, true, true, false, false, false, false, false, false, false, false, false, false, false, false, false, false, false, false, false, true, false] _ _ (by kernel_rfl) (all_t c0 (all_t c1 (all_t c2 (all_f c3 (all_f c3 (all_f c3 (all_f c6 (all_f c6 (all_f c3 (all_f c6 (all_f c3 (all_f Bool.false_ne_true (all_f Bool.false_ne_true (all_f Bool.false_ne_true (all_f c14 (all_f c14 (all_f Bool.false_ne_true (all_f c14 (all_f Bool.false_ne_true (all_f Bool.false_ne_true (all_t c20 (all_f c21 all_nil))))))))))))))))))))))) ih
set_option maxHeartbeats 20000000 in
theorem l18_0_w12 (m n : Nat) (x0 : List Int) (s4 : Int) (s8 : Int) (s9 : Int) (c0 : ¬ decide (s9 < s8) = true) : (turns (hds 18 912) 0 912 (evC byref (evCall F S9 (m + 24)) (m + 24) 0 (hds 18) lbl18_0) (n + 1) (l18_0H x0 s4 s8 s9) (l18_0B x0 s4 s8 s9)).run = some (.exit 0, [.top, .top, .top, .top, (.d (.int .u64 s4)), .top, .top, (.d (.sl (.int .u8) x0)), (.d (.int .i64 s8)), (.d (.int .i64 s9)), (.d (.bool (decide (s9 < s8)))), .top, .top, .top, .top, .top, .top, .top, .top, .top, .top, .top, .top, .top, .top, .top, .top, .top, .top, .top, .top, .top, .top, .top, .top, .top, .top, .top, .top, .top, .top, .top, .top, .top, .top, .top, .top, .top, .top, .top, .top, .top, .top], []) := by
  exact turns_last (by simp) (M.run_of_path _ [false] _ _ (by kernel_rfl) (all_f c0 all_nil)) 

set_option maxHeartbeats 20000000 in
theorem l18_0_step (m n : Nat) (ih : ∀ (x0 : List Int) (s4 : Int) (s8 : Int) (s9 : Int) (q : Nat × Int × Int), l18_0 m n x0 s4 s8 s9 = some q → (turns (hds 18 912) 0 912 (evC byref (evCall F S9 (m + 24)) (m + 24) 0 (hds 18) lbl18_0) n (l18_0H x0 s4 s8 s9) (l18_0B x0 s4 s8 s9)).run = some (l18_0E (x0) (q.2.1) (s8) (q.2.2) q.1)) (x0 : List Int) (s4 : Int) (s8 : Int) (s9 : Int) (q : Nat × Int × Int) (h : l18_0 m (n + 1) x0 s4 s8 s9 = some q) : (turns (hds 18 912) 0 912 (evC byref (evCall F S9 (m + 24)) (m + 24) 0 (hds 18) lbl18_0) (n + 1) (l18_0H x0 s4 s8 s9) (l18_0B x0 s4 s8 s9)).run = some (l18_0E (x0) (q.2.1) (s8) (q.2.2) q.1) := by
  rw [l18_0] at h
  refine ite_cases h (fun c0 h => ?_) (fun c0 h => ?_)
  · skip
    refine ite_cases h (fun c1 h => ?_) (fun c1 h => ?_)
    · skip
      refine ite_cases h (fun c2 h => ?_) (fun c2 h => ?_)
      · skip
        refine ite_cases h (fun c3 h => ?_) (fun c3 h => ?_)
        · skip
          cases h
          exact l18_0_w0 m n x0 s4 s8 s9 c0 c1 c2 c3
        · skip
          refine ite_cases h (fun c6 h => ?_) (fun c6 h => ?_)
          · skip
            refine ite_cases h (fun c11 h => ?_) (fun c11 h => ?_)
            · skip
              cases h
              exact l18_0_w1 m n x0 s4 s8 s9 c0 c1 c2 c3 c6 c11
            · skip
              refine ite_cases h (fun c14 h => ?_) (fun c14 h => ?_)
              · skip
                refine ite_cases h (fun c19 h => ?_) (fun c19 h => ?_)
                · skip
                  cases h
                  exact l18_0_w2 m n x0 s4 s8 s9 c0 c1 c2 c3 c6 c11 c14 c19
                · skip
                  refine ite_cases h (fun c20 h => ?_) (fun c20 h => ?_)
                  · skip
                    refine ite_cases h (fun c21 h => ?_) (fun c21 h => ?_)
                    · skip
                      cases h
                      exact l18_0_w3 m n x0 s4 s8 s9 c0 c1 c2 c3 c6 c11 c14 c19 c20 c21
                    · skip
                      exact l18_0_w4 m n x0 s4 s8 s9 _ c0 c1 c2 c3 c6 c11 c14 c19 c20 c21 (ih _ _ _ _ q h)
                  · skip
                    cases h
              · skip
                refine ite_cases h (fun c20 h => ?_) (fun c20 h => ?_)
                · skip
                  refine ite_cases h (fun c21 h => ?_) (fun c21 h => ?_)
                  · skip
                    cases h
                    exact l18_0_w5 m n x0 s4 s8 s9 c0 c1 c2 c3 c6 c11 c14 c20 c21
                  · skip
                    exact l18_0_w6 m n x0 s4 s8 s9 _ c0 c1 c2 c3 c6 c11 c14 c20 c21 (ih _ _ _ _ q h)
                · skip
                  cases h
          · skip
            refine ite_cases h (fun c14 h => ?_) (fun c14 h => ?_)
            · skip
              refine ite_cases h (fun c19 h => ?_) (fun c19 h => ?_)
              · skip
                cases h
                exact l18_0_w7 m n x0 s4 s8 s9 c0 c1 c2 c3 c6 c14 c19
              · skip
                refine ite_cases h (fun c20 h => ?_) (fun c20 h => ?_)
                · skip
                  refine ite_cases h (fun c21 h => ?_) (fun c21 h => ?_)
                  · skip
                    cases h
                    exact l18_0_w8 m n x0 s4 s8 s9 c0 c1 c2 c3 c6 c14 c19 c20 c21
                  · skip
                    exact l18_0_w9 m n x0 s4 s8 s9 _ c0 c1 c2 c3 c6 c14 c19 c20 c21 (ih _ _ _ _ q h)
                · skip
                  cases h
            · skip
              refine ite_cases h (fun c20 h => ?_) (fun c20 h => ?_)
              · skip
                refine ite_cases h (fun c21 h => ?_) (fun c21 h => ?_)
                · skip
                  cases h
                  exact l18_0_w10 m n x0 s4 s8 s9 c0 c1 c2 c3 c6 c14 c20 c21
                · skip
                  exact l18_0_w11 m n x0 s4 s8 s9 _ c0 c1 c2 c3 c6 c14 c20 c21 (ih _ _ _ _ q h)
              · skip
                cases h
      · skip
        cases h
    · skip
      cases h
  · skip
    cases h
    exact l18_0_w12 m n x0 s4 s8 s9 c0
set_option maxHeartbeats 20000000 in
theorem l18_0_ok (m : Nat) : ∀ (n : Nat) (x0 : List Int) (s4 : Int) (s8 : Int) (s9 : Int) (q : Nat × Int × Int), l18_0 m n x0 s4 s8 s9 = some q → (turns (hds 18 912) 0 912 (evC byref (evCall F S9 (m + 24)) (m + 24) 0 (hds 18) lbl18_0) n (l18_0H x0 s4 s8 s9) (l18_0B x0 s4 s8 s9)).run = some (l18_0E (x0) (q.2.1) (s8) (q.2.2) q.1)
  | 0, x0, s4, s8, s9, q, h => by cases h
  | n + 1, x0, s4, s8, s9, q, h => l18_0_step m n (l18_0_ok m n) x0 s4 s8 s9 q h

def p18 (m : Nat) (x0 : List Int) : Option (Int × Int) :=
  if (Option.isSome (l18_0 m (m + 24) x0 0 ((((List.length x0) : Nat) : Int)) 0)) = true then
    if ((l18_0R m (m + 24) x0 0 ((((List.length x0) : Nat) : Int)) 0).1 == 0) = true then
      some ((0), (0))
    else
      if ((l18_0R m (m + 24) x0 0 ((((List.length x0) : Nat) : Int)) 0).1 == 1) = true then
        some ((0), (0))
      else
        if ((l18_0R m (m + 24) x0 0 ((((List.length x0) : Nat) : Int)) 0).1 == 2) = true then
          some ((0), (0))
        else
          if ((l18_0R m (m + 24) x0 0 ((((List.length x0) : Nat) : Int)) 0).1 == 3) = true then
            some ((IntKind.wrap .i64 ((((BitVec.ofInt 64 (IntKind.wrap .i64 (Int.fdiv (IntKind.wrap .u64 ((((BitVec.ofInt 64 (l18_0R m (m + 24) x0 0 ((((List.length x0) : Nat) : Int)) 0).2.1 ||| BitVec.ofInt 64 (IntKind.wrap .u64 ((IntKind.wrap .u64 (IntKind.wrap .u8 ((((BitVec.ofInt 8 (List.getD x0 (Int.toNat (l18_0R m (m + 24) x0 0 ((((List.length x0) : Nat) : Int)) 0).2.2) 0) &&& BitVec.ofInt 8 (127)).toNat : Nat) : Int)))) * 2 ^ (min (Int.toNat (IntKind.wrap .i64 ((7) * (l18_0R m (m + 24) x0 0 ((((List.length x0) : Nat) : Int)) 0).2.2))) 64)))).toNat : Nat) : Int))) (2 ^ 1))) ^^^ BitVec.ofInt 64 (IntKind.wrap .i64 (0 - (IntKind.wrap .i64 (IntKind.wrap .u64 ((((BitVec.ofInt 64 (IntKind.wrap .u64 ((((BitVec.ofInt 64 (l18_0R m (m + 24) x0 0 ((((List.length x0) : Nat) : Int)) 0).2.1 ||| BitVec.ofInt 64 (IntKind.wrap .u64 ((IntKind.wrap .u64 (IntKind.wrap .u8 ((((BitVec.ofInt 8 (List.getD x0 (Int.toNat (l18_0R m (m + 24) x0 0 ((((List.length x0) : Nat) : Int)) 0).2.2) 0) &&& BitVec.ofInt 8 (127)).toNat : Nat) : Int)))) * 2 ^ (min (Int.toNat (IntKind.wrap .i64 ((7) * (l18_0R m (m + 24) x0 0 ((((List.length x0) : Nat) : Int)) 0).2.2))) 64)))).toNat : Nat) : Int))) &&& BitVec.ofInt 64 (1)).toNat : Nat) : Int))))))).toNat : Nat) : Int))), (IntKind.wrap .i64 ((l18_0R m (m + 24) x0 0 ((((List.length x0) : Nat) : Int)) 0).2.2 + (1))))
          else
            if ((l18_0R m (m + 24) x0 0 ((((List.length x0) : Nat) : Int)) 0).1 == 4) = true then
              some ((IntKind.wrap .i64 ((((BitVec.ofInt 64 (IntKind.wrap .i64 (Int.fdiv (IntKind.wrap .u64 ((((BitVec.ofInt 64 (l18_0R m (m + 24) x0 0 ((((List.length x0) : Nat) : Int)) 0).2.1 ||| BitVec.ofInt 64 (IntKind.wrap .u64 ((IntKind.wrap .u64 (IntKind.wrap .u8 ((((BitVec.ofInt 8 (List.getD x0 (Int.toNat (l18_0R m (m + 24) x0 0 ((((List.length x0) : Nat) : Int)) 0).2.2) 0) &&& BitVec.ofInt 8 (127)).toNat : Nat) : Int)))) * 2 ^ (min (Int.toNat (IntKind.wrap .i64 ((7) * (l18_0R m (m + 24) x0 0 ((((List.length x0) : Nat) : Int)) 0).2.2))) 64)))).toNat : Nat) : Int))) (2 ^ 1))) ^^^ BitVec.ofInt 64 (IntKind.wrap .i64 (0 - (IntKind.wrap .i64 (IntKind.wrap .u64 ((((BitVec.ofInt 64 (IntKind.wrap .u64 ((((BitVec.ofInt 64 (l18_0R m (m + 24) x0 0 ((((List.length x0) : Nat) : Int)) 0).2.1 ||| BitVec.ofInt 64 (IntKind.wrap .u64 ((IntKind.wrap .u64 (IntKind.wrap .u8 ((((BitVec.ofInt 8 (List.getD x0 (Int.toNat (l18_0R m (m + 24) x0 0 ((((List.length x0) : Nat) : Int)) 0).2.2) 0) &&& BitVec.ofInt 8 (127)).toNat : Nat) : Int)))) * 2 ^ (min (Int.toNat (IntKind.wrap .i64 ((7) * (l18_0R m (m + 24) x0 0 ((((List.length x0) : Nat) : Int)) 0).2.2))) 64)))).toNat : Nat) : Int))) &&& BitVec.ofInt 64 (1)).toNat : Nat) : Int))))))).toNat : Nat) : Int))), (IntKind.wrap .i64 ((l18_0R m (m + 24) x0 0 ((((List.length x0) : Nat) : Int)) 0).2.2 + (1))))
            else
              if ((l18_0R m (m + 24) x0 0 ((((List.length x0) : Nat) : Int)) 0).1 == 5) = true then
                some ((0), (0))
              else
                if ((l18_0R m (m + 24) x0 0 ((((List.length x0) : Nat) : Int)) 0).1 == 6) = true then
                  some ((IntKind.wrap .i64 ((((BitVec.ofInt 64 (IntKind.wrap .i64 (Int.fdiv (IntKind.wrap .u64 ((((BitVec.ofInt 64 (l18_0R m (m + 24) x0 0 ((((List.length x0) : Nat) : Int)) 0).2.1 ||| BitVec.ofInt 64 (IntKind.wrap .u64 ((IntKind.wrap .u64 (IntKind.wrap .u8 ((((BitVec.ofInt 8 (List.getD x0 (Int.toNat (l18_0R m (m + 24) x0 0 ((((List.length x0) : Nat) : Int)) 0).2.2) 0) &&& BitVec.ofInt 8 (127)).toNat : Nat) : Int)))) * 2 ^ (min (Int.toNat (IntKind.wrap .i64 ((7) * (l18_0R m (m + 24) x0 0 ((((List.length x0) : Nat) : Int)) 0).2.2))) 64)))).toNat : Nat) : Int))) (2 ^ 1))) ^^^ BitVec.ofInt 64 (IntKind.wrap .i64 (0 - (IntKind.wrap .i64 (IntKind.wrap .u64 ((((BitVec.ofInt 64 (IntKind.wrap .u64 ((((BitVec.ofInt 64 (l18_0R m (m + 24) x0 0 ((((List.length x0) : Nat) : Int)) 0).2.1 ||| BitVec.ofInt 64 (IntKind.wrap .u64 ((IntKind.wrap .u64 (IntKind.wrap .u8 ((((BitVec.ofInt 8 (List.getD x0 (Int.toNat (l18_0R m (m + 24) x0 0 ((((List.length x0) : Nat) : Int)) 0).2.2) 0) &&& BitVec.ofInt 8 (127)).toNat : Nat) : Int)))) * 2 ^ (min (Int.toNat (IntKind.wrap .i64 ((7) * (l18_0R m (m + 24) x0 0 ((((List.length x0) : Nat) : Int)) 0).2.2))) 64)))).toNat : Nat) : Int))) &&& BitVec.ofInt 64 (1)).toNat : Nat) : Int))))))).toNat : Nat) : Int))), (IntKind.wrap .i64 ((l18_0R m (m + 24) x0 0 ((((List.length x0) : Nat) : Int)) 0).2.2 + (1))))
                else
                  if ((l18_0R m (m + 24) x0 0 ((((List.length x0) : Nat) : Int)) 0).1 == 7) = true then
                    some ((IntKind.wrap .i64 ((((BitVec.ofInt 64 (IntKind.wrap .i64 (Int.fdiv (IntKind.wrap .u64 ((((BitVec.ofInt 64 (l18_0R m (m + 24) x0 0 ((((List.length x0) : Nat) : Int)) 0).2.1 ||| BitVec.ofInt 64 (IntKind.wrap .u64 ((IntKind.wrap .u64 (IntKind.wrap .u8 ((((BitVec.ofInt 8 (List.getD x0 (Int.toNat (l18_0R m (m + 24) x0 0 ((((List.length x0) : Nat) : Int)) 0).2.2) 0) &&& BitVec.ofInt 8 (127)).toNat : Nat) : Int)))) * 2 ^ (min (Int.toNat (IntKind.wrap .i64 ((7) * (l18_0R m (m + 24) x0 0 ((((List.length x0) : Nat) : Int)) 0).2.2))) 64)))).toNat : Nat) : Int))) (2 ^ 1))) ^^^ BitVec.ofInt 64 (IntKind.wrap .i64 (0 - (IntKind.wrap .i64 (IntKind.wrap .u64 ((((BitVec.ofInt 64 (IntKind.wrap .u64 ((((BitVec.ofInt 64 (l18_0R m (m + 24) x0 0 ((((List.length x0) : Nat) : Int)) 0).2.1 ||| BitVec.ofInt 64 (IntKind.wrap .u64 ((IntKind.wrap .u64 (IntKind.wrap .u8 ((((BitVec.ofInt 8 (List.getD x0 (Int.toNat (l18_0R m (m + 24) x0 0 ((((List.length x0) : Nat) : Int)) 0).2.2) 0) &&& BitVec.ofInt 8 (127)).toNat : Nat) : Int)))) * 2 ^ (min (Int.toNat (IntKind.wrap .i64 ((7) * (l18_0R m (m + 24) x0 0 ((((List.length x0) : Nat) : Int)) 0).2.2))) 64)))).toNat : Nat) : Int))) &&& BitVec.ofInt 64 (1)).toNat : Nat) : Int))))))).toNat : Nat) : Int))), (IntKind.wrap .i64 ((l18_0R m (m + 24) x0 0 ((((List.length x0) : Nat) : Int)) 0).2.2 + (1))))
                  else
                    if ((l18_0R m (m + 24) x0 0 ((((List.length x0) : Nat) : Int)) 0).1 == 8) = true then
                      some ((0), (0))
                    else
                      none
  else
    none
set_option maxHeartbeats 20000000 in
theorem p18_ok (m : Nat) (x0 : List Int) (q : Int × Int) (h : p18 m x0 = some q) : ∃ r B1, (evCall F S9 (m + 25) 18 [(.d (.sl (.int .u8) x0))] []).run = some (r, B1) ∧ 0 ≤ B1.length ∧ wkR B1 [] r (.tup [(.d (.int .i64 q.1)), (.d (.int .i64 q.2))]) ∧ wkBs B1 [] 0 [] := by
  unfold p18 at h
  refine ite_cases h (fun c0 h => ?_) (fun c0 h => ?_)
  · skip
    refine ite_cases h (fun c1 h => ?_) (fun c1 h => ?_)
    · skip
      cases h
      refine ⟨(.tup [(.d (.int .i64 (0))), (.d (.int .i64 (0)))]), [], runT_ok (LS := (fun k => if k = 912 then some (l18_0E x0 ((l18_0R m (m + 24) x0 0 ((((List.length x0) : Nat) : Int)) 0).2.1) (((((List.length x0) : Nat) : Int))) ((l18_0R m (m + 24) x0 0 ((((List.length x0) : Nat) : Int)) 0).2.2) 0) else none)) (fn := fn18) (vis := [(912, l18_0H x0 0 ((((List.length x0) : Nat) : Int)) 0, l18_0B x0 0 ((((List.length x0) : Nat) : Int)) 0)]) (by kernel_rfl) rfl (by kernel_rfl) (M.run_of_path _ [] _ _ (by kernel_rfl) all_nil) ?_, by simp, (wkR.tup (wkVs.cons (wkV.one (wk1.eq rfl)) (wkVs.cons (wkV.one (wk1.eq rfl)) wkVs.nil))), trivial⟩
      intro p hp p2 hq
      rcases List.mem_cons.1 hp with rfl | hp
      · skip
        have h3 := l18_0_ok m (m + 24) x0 0 ((((List.length x0) : Nat) : Int)) 0 _ (some_getD (d := l18_0D) c0)
        rw [eq_of_beq c1] at h3
        exact Eq.trans (Eq.mp (by kernel_rfl) h3) hq
      cases hp
    · skip
      refine ite_cases h (fun c2 h => ?_) (fun c2 h => ?_)
      · skip
        cases h
        refine ⟨(.tup [(.d (.int .i64 (0))), (.d (.int .i64 (0)))]), [], runT_ok (LS := (fun k => if k = 912 then some (l18_0E x0 ((l18_0R m (m + 24) x0 0 ((((List.length x0) : Nat) : Int)) 0).2.1) (((((List.length x0) : Nat) : Int))) ((l18_0R m (m + 24) x0 0 ((((List.length x0) : Nat) : Int)) 0).2.2) 1) else none)) (fn := fn18) (vis := [(912, l18_0H x0 0 ((((List.length x0) : Nat) : Int)) 0, l18_0B x0 0 ((((List.length x0) : Nat) : Int)) 0)]) (by kernel_rfl) rfl (by kernel_rfl) (M.run_of_path _ [] _ _ (by kernel_rfl) all_nil) ?_, by simp, (wkR.tup (wkVs.cons (wkV.one (wk1.eq rfl)) (wkVs.cons (wkV.one (wk1.eq rfl)) wkVs.nil))), trivial⟩
        intro p hp p2 hq
        rcases List.mem_cons.1 hp with rfl | hp
        · skip
          have h3 := l18_0_ok m (m + 24) x0 0 ((((List.length x0) : Nat) : Int)) 0 _ (some_getD (d := l18_0D) c0)
          rw [eq_of_beq c2] at h3
          exact Eq.trans (Eq.mp (by kernel_rfl) h3) hq
        cases hp
      · skip
        refine ite_cases h (fun c3 h => ?_) (fun c3 h => ?_)
        · skip
          cases h
          refine ⟨(.tup [(.d (.int .i64 (0))), (.d (.int .i64 (0)))]), [], runT_ok (LS := (fun k => if k = 912 then some (l18_0E x0 ((l18_0R m (m + 24) x0 0 ((((List.length x0) : Nat) : Int)) 0).2.1) (((((List.length x0) : Nat) : Int))) ((l18_0R m (m + 24) x0 0 ((((List.length x0) : Nat) : Int)) 0).2.2) 2) else none)) (fn := fn18) (vis := [(912, l18_0H x0 0 ((((List.length x0) : Nat) : Int)) 0, l18_0B x0 0 ((((List.length x0) : Nat) : Int)) 0)]) (by kernel_rfl) rfl (by kernel_rfl) (M.run_of_path _ [] _ _ (by kernel_rfl) all_nil) ?_, by simp, (wkR.tup (wkVs.cons (wkV.one (wk1.eq rfl)) (wkVs.cons (wkV.one (wk1.eq rfl)) wkVs.nil))), trivial⟩
          intro p hp p2 hq
          rcases List.mem_cons.1 hp with rfl | hp
          · skip
            have h3 := l18_0_ok m (m + 24) x0 0 ((((List.length x0) : Nat) : Int)) 0 _ (some_getD (d := l18_0D) c0)
            rw [eq_of_beq c3] at h3
            exact Eq.trans (Eq.mp (by kernel_rfl) h3) hq
          cases hp
        · skip
          refine ite_cases h (fun c4 h => ?_) (fun c4 h => ?_)
          · skip
            cases h
            refine ⟨(.tup [(.d (.int .i64 (IntKind.wrap .i64 ((((BitVec.ofInt 64 (IntKind.wrap .i64 (Int.fdiv (IntKind.wrap .u64 ((((BitVec.ofInt 64 (l18_0R m (m + 24) x0 0 ((((List.length x0) : Nat) : Int)) 0).2.1 ||| BitVec.ofInt 64 (IntKind.wrap .u64 ((IntKind.wrap .u64 (IntKind.wrap .u8 ((((BitVec.ofInt 8 (List.getD x0 (Int.toNat (l18_0R m (m + 24) x0 0 ((((List.length x0) : Nat) : Int)) 0).2.2) 0) &&& BitVec.ofInt 8 (127)).toNat : Nat) : Int)))) * 2 ^ (min (Int.toNat (IntKind.wrap .i64 ((7) * (l18_0R m (m + 24) x0 0 ((((List.length x0) : Nat) : Int)) 0).2.2))) 64)))).toNat : Nat) : Int))) (2 ^ 1))) ^^^ BitVec.ofInt 64 (IntKind.wrap .i64 (0 - (IntKind.wrap .i64 (IntKind.wrap .u64 ((((BitVec.ofInt 64 (IntKind.wrap .u64 ((((BitVec.ofInt 64 (l18_0R m (m + 24) x0 0 ((((List.length x0) : Nat) : Int)) 0).2.1 ||| BitVec.ofInt 64 (IntKind.wrap .u64 ((IntKind.wrap .u64 (IntKind.wrap .u8 ((((BitVec.ofInt 8 (List.getD x0 (Int.toNat (l18_0R m (m + 24) x0 0 ((((List.length x0) : Nat) : Int)) 0).2.2) 0) &&& BitVec.ofInt 8 (127)).toNat : Nat) : Int)))) * 2 ^ (min (Int.toNat (IntKind.wrap .i64 ((7) * (l18_0R m (m + 24) x0 0 ((((List.length x0) : Nat) : Int)) 0).2.2))) 64)))).toNat : Nat) : Int))) &&& BitVec.ofInt 64 (1)).toNat : Nat) : Int))))))).toNat : Nat) : Int))))), (.d (.int .i64 (IntKind.wrap .i64 ((l18_0R m (m + 24) x0 0 ((((List.length x0) : Nat) : Int)) 0).2.2 + (1)))))]), [], runT_ok (LS := (fun k => if k = 912 then some (l18_0E x0 ((l18_0R m (m + 24) x0 0 ((((List.length x0) : Nat) : Int)) 0).2.1) (((((List.length x0) : Nat) : Int))) ((l18_0R m (m + 24) x0 0 ((((List.length x0) : Nat) : Int)) 0).2.2) 3) else none)) (fn := fn18) (vis := [(912, l18_0H x0 0 ((((List.length x0) : Nat) : Int)) 0, l18_0B x0 0 ((((List.length x0) : Nat) : Int)) 0)]) (by kernel_rfl) rfl (by kernel_rfl) (M.run_of_path _ [] _ _ (by kernel_rfl) all_nil) ?_, by simp, (wkR.tup (wkVs.cons (wkV.one (wk1.eq rfl)) (wkVs.cons (wkV.one (wk1.eq rfl)) wkVs.nil))), trivial⟩
            intro p hp p2 hq
            rcases List.mem_cons.1 hp with rfl | hp
            · skip
              have h3 := l18_0_ok m (m + 24) x0 0 ((((List.length x0) : Nat) : Int)) 0 _ (some_getD (d := l18_0D) c0)
              rw [eq_of_beq c4] at h3
              exact Eq.trans (Eq.mp (by kernel_rfl) h3) hq
            cases hp
          · skip
            refine ite_cases h (fun c5 h => ?_) (fun c5 h => ?_)
            · skip
              cases h
              refine ⟨(.tup [(.d (.int .i64 (IntKind.wrap .i64 ((((BitVec.ofInt 64 (IntKind.wrap .i64 (Int.fdiv (IntKind.wrap .u64 ((((BitVec.ofInt 64 (l18_0R m (m + 24) x0 0 ((((List.length x0) : Nat) : Int)) 0).2.1 ||| BitVec.ofInt 64 (IntKind.wrap .u64 ((IntKind.wrap .u64 (IntKind.wrap .u8 ((((BitVec.ofInt 8 (List.getD x0 (Int.toNat (l18_0R m (m + 24) x0 0 ((((List.length x0) : Nat) : Int)) 0).2.2) 0) &&& BitVec.ofInt 8 (127)).toNat : Nat) : Int)))) * 2 ^ (min (Int.toNat (IntKind.wrap .i64 ((7) * (l18_0R m (m + 24) x0 0 ((((List.length x0) : Nat) : Int)) 0).2.2))) 64)))).toNat : Nat) : Int))) (2 ^ 1))) ^^^ BitVec.ofInt 64 (IntKind.wrap .i64 (0 - (IntKind.wrap .i64 (IntKind.wrap .u64 ((((BitVec.ofInt 64 (IntKind.wrap .u64 ((((BitVec.ofInt 64 (l18_0R m (m + 24) x0 0 ((((List.length x0) : Nat) : Int)) 0).2.1 ||| BitVec.ofInt 64 (IntKind.wrap .u64 ((IntKind.wrap .u64 (IntKind.wrap .u8 ((((BitVec.ofInt 8 (List.getD x0 (Int.toNat (l18_0R m (m + 24) x0 0 ((((List.length x0) : Nat) : Int)) 0).2.2) 0) &&& BitVec.ofInt 8 (127)).toNat : Nat) : Int)))) * 2 ^ (min (Int.toNat (IntKind.wrap .i64 ((7) * (l18_0R m (m + 24) x0 0 ((((List.length x0) : Nat) : Int)) 0).2.2))) 64)))).toNat : Nat) : Int))) &&& BitVec.ofInt 64 (1)).toNat : Nat) : Int))))))).toNat : Nat) : Int))))), (.d (.int .i64 (IntKind.wrap .i64 ((l18_0R m (m + 24) x0 0 ((((List.length x0) : Nat) : Int)) 0).2.2 + (1)))))]), [], runT_ok (LS := (fun k => if k = 912 then some (l18_0E x0 ((l18_0R m (m + 24) x0 0 ((((List.length x0) : Nat) : Int)) 0).2.1) (((((List.length x0) : Nat) : Int))) ((l18_0R m (m + 24) x0 0 ((((List.length x0) : Nat) : Int)) 0).2.2) 4) else none)) (fn := fn18) (vis := [(912, l18_0H x0 0 ((((List.length x0) : Nat) : Int)) 0, l18_0B x0 0 ((((List.length x0) : Nat) : Int)) 0)]) (by kernel_rfl) rfl (by kernel_rfl) (M.run_of_path _ [] _ _ (by kernel_rfl) all_nil) ?_, by simp, (wkR.tup (wkVs.cons (wkV.one (wk1.eq rfl)) (wkVs.cons (wkV.one (wk1.eq rfl)) wkVs.nil))), trivial⟩
              intro p hp p2 hq
              rcases List.mem_cons.1 hp with rfl | hp
              · skip
                have h3 := l18_0_ok m (m + 24) x0 0 ((((List.length x0) : Nat) : Int)) 0 _ (some_getD (d := l18_0D) c0)
                rw [eq_of_beq c5] at h3
                exact Eq.trans (Eq.mp (by kernel_rfl) h3) hq
              cases hp
            · skip
              refine ite_cases h (fun c6 h => ?_) (fun c6 h => ?_)
              · skip
                cases h
                refine ⟨(.tup [(.d (.int .i64 (0))), (.d (.int .i64 (0)))]), [], runT_ok (LS := (fun k => if k = 912 then some (l18_0E x0 ((l18_0R m (m + 24) x0 0 ((((List.length x0) : Nat) : Int)) 0).2.1) (((((List.length x0) : Nat) : Int))) ((l18_0R m (m + 24) x0 0 ((((List.length x0) : Nat) : Int)) 0).2.2) 5) else none)) (fn := fn18) (vis := [(912, l18_0H x0 0 ((((List.length x0) : Nat) : Int)) 0, l18_0B x0 0 ((((List.length x0) : Nat) : Int)) 0)]) (by kernel_rfl) rfl (by kernel_rfl) (M.run_of_path _ [] _ _ (by kernel_rfl) all_nil) ?_, by simp, (wkR.tup (wkVs.cons (wkV.one (wk1.eq rfl)) (wkVs.cons (wkV.one (wk1.eq rfl)) wkVs.nil))), trivial⟩
                intro p hp p2 hq
                rcases List.mem_cons.1 hp with rfl | hp
                · skip
                  have h3 := l18_0_ok m (m + 24) x0 0 ((((List.length x0) : Nat) : Int)) 0 _ (some_getD (d := l18_0D) c0)
                  rw [eq_of_beq c6] at h3
                  exact Eq.trans (Eq.mp (by kernel_rfl) h3) hq
                cases hp
              · skip
                refine ite_cases h (fun c7 h => ?_) (fun c7 h => ?_)
                · skip
                  cases h
                  refine ⟨(.tup [(.d (.int .i64 (IntKind.wrap .i64 ((((BitVec.ofInt 64 (IntKind.wrap .i64 (Int.fdiv (IntKind.wrap .u64 ((((BitVec.ofInt 64 (l18_0R m (m + 24) x0 0 ((((List.length x0) : Nat) : Int)) 0).2.1 ||| BitVec.ofInt 64 (IntKind.wrap .u64 ((IntKind.wrap .u64 (IntKind.wrap .u8 ((((BitVec.ofInt 8 (List.getD x0 (Int.toNat (l18_0R m (m + 24) x0 0 ((((List.length x0) : Nat) : Int)) 0).2.2) 0) &&& BitVec.ofInt 8 (127)).toNat : Nat) : Int)))) * 2 ^ (min (Int.toNat (IntKind.wrap .i64 ((7) * (l18_0R m (m + 24) x0 0 ((((List.length x0) : Nat) : Int)) 0).2.2))) 64)))).toNat : Nat) : Int))) (2 ^ 1))) ^^^ BitVec.ofInt 64 (IntKind.wrap .i64 (0 - (IntKind.wrap .i64 (IntKind.wrap .u64 ((((BitVec.ofInt 64 (IntKind.wrap .u64 ((((BitVec.ofInt 64 (l18_0R m (m + 24) x0 0 ((((List.length x0) : Nat) : Int)) 0).2.1 ||| BitVec.ofInt 64 (IntKind.wrap .u64 ((IntKind.wrap .u64 (IntKind.wrap .u8 ((((BitVec.ofInt 8 (List.getD x0 (Int.toNat (l18_0R m (m + 24) x0 0 ((((List.length x0) : Nat) : Int)) 0).2.2) 0) &&& BitVec.ofInt 8 (127)).toNat : Nat) : Int)))) * 2 ^ (min (Int.toNat (IntKind.wrap .i64 ((7) * (l18_0R m (m + 24) x0 0 ((((List.length x0) : Nat) : Int)) 0).2.2))) 64)))).toNat : Nat) : Int))) &&& BitVec.ofInt 64 (1)).toNat : Nat) : Int))))))).toNat : Nat) : Int))))), (.d (.int .i64 (IntKind.wrap .i64 ((l18_0R m (m + 24) x0 0 ((((List.length x0) : Nat) : Int)) 0).2.2 + (1)))))]), [], runT_ok (LS := (fun k => if k = 912 then some (l18_0E x0 ((l18_0R m (m + 24) x0 0 ((((List.length x0) : Nat) : Int)) 0).2.1) (((((List.length x0) : Nat) : Int))) ((l18_0R m (m + 24) x0 0 ((((List.length x0) : Nat) : Int)) 0).2.2) 6) else none)) (fn := fn18) (vis := [(912, l18_0H x0 0 ((((List.length x0) : Nat) : Int)) 0, l18_0B x0 0 ((((List.length x0) : Nat) : Int)) 0)]) (by kernel_rfl) rfl (by kernel_rfl) (M.run_of_path _ [] _ _ (by kernel_rfl) all_nil) ?_, by simp, (wkR.tup (wkVs.cons (wkV.one (wk1.eq rfl)) (wkVs.cons (wkV.one (wk1.eq rfl)) wkVs.nil))), trivial⟩
                  intro p hp p2 hq
                  rcases List.mem_cons.1 hp with rfl | hp
                  · skip
                    have h3 := l18_0_ok m (m + 24) x0 0 ((((List.length x0) : Nat) : Int)) 0 _ (some_getD (d := l18_0D) c0)
                    rw [eq_of_beq c7] at h3
                    exact Eq.trans (Eq.mp (by kernel_rfl) h3) hq
                  cases hp
                · skip
                  refine ite_cases h (fun c8 h => ?_) (fun c8 h => ?_)
                  · skip
                    cases h
                    refine ⟨(.tup [(.d (.int .i64 (IntKind.wrap .i64 ((((BitVec.ofInt 64 (IntKind.wrap .i64 (Int.fdiv (IntKind.wrap .u64 ((((BitVec.ofInt 64 (l18_0R m (m + 24) x0 0 ((((List.length x0) : Nat) : Int)) 0).2.1 ||| BitVec.ofInt 64 (IntKind.wrap .u64 ((IntKind.wrap .u64 (IntKind.wrap .u8 ((((BitVec.ofInt 8 (List.getD x0 (Int.toNat (l18_0R m (m + 24) x0 0 ((((List.length x0) : Nat) : Int)) 0).2.2) 0) &&& BitVec.ofInt 8 (127)).toNat : Nat) : Int)))) * 2 ^ (min (Int.toNat (IntKind.wrap .i64 ((7) * (l18_0R m (m + 24) x0 0 ((((List.length x0) : Nat) : Int)) 0).2.2))) 64)))).toNat : Nat) : Int))) (2 ^ 1))) ^^^ BitVec.ofInt 64 (IntKind.wrap .i64 (0 - (IntKind.wrap .i64 (IntKind.wrap .u64 ((((BitVec.ofInt 64 (IntKind.wrap .u64 ((((BitVec.ofInt 64 (l18_0R m (m + 24) x0 0 ((((List.length x0) : Nat) : Int)) 0).2.1 ||| BitVec.ofInt 64 (IntKind.wrap .u64 ((IntKind.wrap .u64 (IntKind.wrap .u8 ((((BitVec.ofInt 8 (List.getD x0 (Int.toNat (l18_0R m (m + 24) x0 0 ((((List.length x0) : Nat) : Int)) 0).2.2) 0) &&& BitVec.ofInt 8 (127)).toNat : Nat) : Int)))) * 2 ^ (min (Int.toNat (IntKind.wrap .i64 ((7) * (l18_0R m (m + 24) x0 0 ((((List.length x0) : Nat) : Int)) 0).2.2))) 64)))).toNat : Nat) : Int))) &&& BitVec.ofInt 64 (1)).toNat : Nat) : Int))))))).toNat : Nat) : Int))))), (.d (.int .i64 (IntKind.wrap .i64 ((l18_0R m (m + 24) x0 0 ((((List.length x0) : Nat) : Int)) 0).2.2 + (1)))))]), [], runT_ok (LS := (fun k => if k = 912 then some (l18_0E x0 ((l18_0R m (m + 24) x0 0 ((((List.length x0) : Nat) : Int)) 0).2.1) (((((List.length x0) : Nat) : Int))) ((l18_0R m (m + 24) x0 0 ((((List.length x0) : Nat) : Int)) 0).2.2) 7) else none)) (fn := fn18) (vis := [(912, l18_0H x0 0 ((((List.length x0) : Nat) : Int)) 0, l18_0B x0 0 ((((List.length x0) : Nat) : Int)) 0)]) (by kernel_rfl) rfl (by kernel_rfl) (M.run_of_path _ [] _ _ (by kernel_rfl) all_nil) ?_, by simp, (wkR.tup (wkVs.cons (wkV.one (wk1.eq rfl)) (wkVs.cons (wkV.one (wk1.eq rfl)) wkVs.nil))), trivial⟩
                    intro p hp p2 hq
                    rcases List.mem_cons.1 hp with rfl | hp
                    · skip
                      have h3 := l18_0_ok m (m + 24) x0 0 ((((List.length x0) : Nat) : Int)) 0 _ (some_getD (d := l18_0D) c0)
                      rw [eq_of_beq c8] at h3
                      exact Eq.trans (Eq.mp (by kernel_rfl) h3) hq
                    cases hp
                  · skip
                    refine ite_cases h (fun c9 h => ?_) (fun c9 h => ?_)
                    · skip
                      cases h
                      refine ⟨(.tup [(.d (.int .i64 (0))), (.d (.int .i64 (0)))]), [], runT_ok (LS := (fun k => if k = 912 then some (l18_0E x0 ((l18_0R m (m + 24) x0 0 ((((List.length x0) : Nat) : Int)) 0).2.1) (((((List.length x0) : Nat) : Int))) ((l18_0R m (m + 24) x0 0 ((((List.length x0) : Nat) : Int)) 0).2.2) 8) else none)) (fn := fn18) (vis := [(912, l18_0H x0 0 ((((List.length x0) : Nat) : Int)) 0, l18_0B x0 0 ((((List.length x0) : Nat) : Int)) 0)]) (by kernel_rfl) rfl (by kernel_rfl) (M.run_of_path _ [] _ _ (by kernel_rfl) all_nil) ?_, by simp, (wkR.tup (wkVs.cons (wkV.one (wk1.eq rfl)) (wkVs.cons (wkV.one (wk1.eq rfl)) wkVs.nil))), trivial⟩
                      intro p hp p2 hq
                      rcases List.mem_cons.1 hp with rfl | hp
                      · skip
                        have h3 := l18_0_ok m (m + 24) x0 0 ((((List.length x0) : Nat) : Int)) 0 _ (some_getD (d := l18_0D) c0)
                        rw [eq_of_beq c9] at h3
                        exact Eq.trans (Eq.mp (by kernel_rfl) h3) hq
                      cases hp
                    · skip
                      cases h
  · skip
    cases h

theorem next_loop (m : Nat) (b : List Int) (hb : b.length ≤ 1000000) (hx : ∀ x ∈ b, 0 ≤ x ∧ x ≤ 255) : ∀ (n i u : Nat), i ≤ 10 → (i ≤ 9 → u < 2 ^ (7 * i)) → i ≤ b.length → 11 - i ≤ n →
    ∃ e u' j, l18_0 m n b ((u : Nat) : Int) (b.length : Nat) (i : Nat) = some (e, ((u' : Nat) : Int), ((j : Nat) : Int)) ∧
      (((e = 0 ∨ e = 1 ∨ e = 2 ∨ e = 5 ∨ e = 8) ∧ decG i u (b.drop i) = none) ∨ ((e = 3 ∨ e = 4 ∨ e = 6 ∨ e = 7) ∧ j < b.length ∧ u' < 2 ^ (7 * j) ∧ (j ≤ 8 ∨ (j = 9 ∧ b.getD j 0 ≤ 1)) ∧ decG i u (b.drop i) = some (u' + (b.getD j 0).toNat % 128 * 2 ^ (7 * j), j + 1)))
  | 0, i, u, h, _, _, h2 => by omega
  | n + 1, i, u, h0, hu, h1, h2 => by
    rw [l18_0]
    by_cases hi : i < b.length
    · have e1 : decide (((i : Nat) : Int) < (((List.length b) : Nat) : Int)) = true := decide_eq_true (by omega)
      have e2 : decide ((0 : Int) ≤ ((i : Nat) : Int)) = true := decide_eq_true (by omega)
      have hxi := hx _ (getD_mem b i 0 hi)
      rw [drop_getD b i 0 hi]
      simp only [show Int.toNat ((i : Nat) : Int) = i from rfl, e1, e2, ↓reduceIte]
      by_cases h10 : i = 10
      · subst h10
        exact ⟨0, u, 10, rfl, .inl ⟨.inl rfl, by simp [decG]⟩⟩
      · have f1 : (((i : Nat) : Int) == (10)) = false := by simp; omega
        have e7 : IntKind.wrap .i64 (((i : Nat) : Int) + (1)) = ((i + 1 : Nat) : Int) := by rw [wrap_id (by omega) (by omega)]; rfl
        have e8 : decide (0 ≤ (IntKind.wrap .i64 ((7) * ((i : Nat) : Int)))) = true := by rw [wrap_id (by omega) (by omega)]; exact decide_eq_true (by omega)
        have hu' := hu (by omega)
        simp only [f1, e7, e8, ↓reduceIte, Bool.false_eq_true]
        generalize hg : List.getD b i 0 = x at hxi
        have stop : ∀ e : Nat, (e = 0 ∨ e = 1 ∨ e = 2 ∨ e = 5 ∨ e = 8) → decG i u (x :: b.drop (i + 1)) = none → ∃ e' u' j, (some (e, ((u : Nat) : Int), ((i : Nat) : Int)) : Option (Nat × Int × Int)) = some (e', ((u' : Nat) : Int), ((j : Nat) : Int)) ∧
            (((e' = 0 ∨ e' = 1 ∨ e' = 2 ∨ e' = 5 ∨ e' = 8) ∧ decG i u (x :: b.drop (i + 1)) = none) ∨ ((e' = 3 ∨ e' = 4 ∨ e' = 6 ∨ e' = 7) ∧ j < b.length ∧ u' < 2 ^ (7 * j) ∧ (j ≤ 8 ∨ (j = 9 ∧ b.getD j 0 ≤ 1)) ∧ decG i u (x :: b.drop (i + 1)) = some (u' + (b.getD j 0).toNat % 128 * 2 ^ (7 * j), j + 1))) :=
          fun e h h' => ⟨e, u, i, rfl, .inl ⟨h, h'⟩⟩
        by_cases c9 : i = 9 ∧ x > 1
        · have f2 : (((i : Nat) : Int) == (9)) = true := by simp; omega
          have f3 : decide (x > 1) = true := decide_eq_true c9.2
          simp only [f2, f3, ↓reduceIte]
          exact stop 1 (by simp) (by unfold decG; rw [if_neg h10, if_pos c9])
        · by_cases c0 : 0 < i ∧ x = 0
          · have f4 : decide (((i : Nat) : Int) > 0) = true := decide_eq_true (by omega)
            have f5 : (x == (0)) = true := by simp [c0.2]
            have nn : decG i u (x :: b.drop (i + 1)) = none := by unfold decG; rw [if_neg h10, if_neg c9, if_pos c0]
            by_cases i9 : i = 9
            · have f2 : (((i : Nat) : Int) == (9)) = true := by simp; omega
              have f3 : decide (x > 1) = false := decide_eq_false fun h => c9 ⟨i9, h⟩
              simp only [f2, f3, f4, f5, ↓reduceIte, Bool.false_eq_true]
              exact stop 2 (by simp) nn
            · have f2 : (((i : Nat) : Int) == (9)) = false := by simp; omega
              simp only [f2, f4, f5, ↓reduceIte, Bool.false_eq_true]
              exact stop 5 (by simp) nn
          · have hor : i ≤ 8 ∨ (i = 9 ∧ x ≤ 1) := by
              by_cases i9 : i = 9
              · exact .inr ⟨i9, by have : ¬ x > 1 := fun h => c9 ⟨i9, h⟩
                                   omega⟩
              · exact .inl (by omega)
            have ho := orstep hu' hxi.1 hxi.2 hor
            by_cases cx : x < 128
            · have f6 : decide (x < 128) = true := decide_eq_true cx
              have nn : decG i u (x :: b.drop (i + 1)) = some (u + x.toNat % 128 * 2 ^ (7 * i), i + 1) := by unfold decG; rw [if_neg h10, if_neg c9, if_neg c0, if_pos cx]
              have fin : ∀ e : Nat, (e = 3 ∨ e = 4 ∨ e = 6 ∨ e = 7) → ∃ e' u' j, (some (e, ((u : Nat) : Int), ((i : Nat) : Int)) : Option (Nat × Int × Int)) = some (e', ((u' : Nat) : Int), ((j : Nat) : Int)) ∧
                (((e' = 0 ∨ e' = 1 ∨ e' = 2 ∨ e' = 5 ∨ e' = 8) ∧ decG i u (x :: b.drop (i + 1)) = none) ∨ ((e' = 3 ∨ e' = 4 ∨ e' = 6 ∨ e' = 7) ∧ j < b.length ∧ u' < 2 ^ (7 * j) ∧ (j ≤ 8 ∨ (j = 9 ∧ b.getD j 0 ≤ 1)) ∧ decG i u (x :: b.drop (i + 1)) = some (u' + (b.getD j 0).toNat % 128 * 2 ^ (7 * j), j + 1))) :=
                fun e h => ⟨e, u, i, rfl, .inr ⟨h, hi, hu', by rw [hg]; exact hor, by rw [hg]; exact nn⟩⟩
              by_cases i9 : i = 9
              · have f2 : (((i : Nat) : Int) == (9)) = true := by simp; omega
                have f3 : decide (x > 1) = false := decide_eq_false fun h => c9 ⟨i9, h⟩
                have f4 : decide (((i : Nat) : Int) > 0) = true := decide_eq_true (by omega)
                have f5 : (x == (0)) = false := by
                  rw [beq_eq_false_iff_ne]; exact fun h => c0 ⟨by omega, h⟩
                simp only [f2, f3, f4, f5, f6, ↓reduceIte, Bool.false_eq_true]
                exact fin 3 (by simp)
              · have f2 : (((i : Nat) : Int) == (9)) = false := by simp; omega
                by_cases i0 : 0 < i
                · have f4 : decide (((i : Nat) : Int) > 0) = true := decide_eq_true (by omega)
                  have f5 : (x == (0)) = false := by
                    rw [beq_eq_false_iff_ne]; exact fun h => c0 ⟨i0, h⟩
                  simp only [f2, f4, f5, f6, ↓reduceIte, Bool.false_eq_true]
                  exact fin 6 (by simp)
                · have f4 : decide (((i : Nat) : Int) > 0) = false := decide_eq_false (by omega)
                  simp only [f2, f4, f6, ↓reduceIte, Bool.false_eq_true]
                  exact fin 7 (by simp)
            · have f6 : decide (x < 128) = false := decide_eq_false cx
              have nn : decG i u (x :: b.drop (i + 1)) = decG (i + 1) (u + x.toNat % 128 * 2 ^ (7 * i)) (b.drop (i + 1)) := by
                conv => lhs; unfold decG
                rw [if_neg h10, if_neg c9, if_neg c0, if_neg cx]
              have hlt : i + 1 ≤ 9 → u + x.toNat % 128 * 2 ^ (7 * i) < 2 ^ (7 * (i + 1)) := by
                intro _
                have e4 : 2 ^ (7 * (i + 1)) = 128 * 2 ^ (7 * i) := by rw [show 7 * (i + 1) = 7 * i + 7 by omega, Nat.pow_add, Nat.mul_comm]
                have : (x.toNat % 128 + 1) * 2 ^ (7 * i) ≤ 128 * 2 ^ (7 * i) := Nat.mul_le_mul_right _ (by omega)
                rw [Nat.add_mul] at this
                omega
              have go := next_loop m b hb hx n (i + 1) (u + x.toNat % 128 * 2 ^ (7 * i)) (by omega) hlt (by omega) (by omega)
              rw [nn]
              by_cases i9 : i = 9
              · exfalso
                rcases hor with h | ⟨_, h⟩ <;> omega
              · have f2 : (((i : Nat) : Int) == (9)) = false := by simp; omega
                by_cases i0 : 0 < i
                · have f4 : decide (((i : Nat) : Int) > 0) = true := decide_eq_true (by omega)
                  have f5 : (x == (0)) = false := by
                    rw [beq_eq_false_iff_ne]; exact fun h => c0 ⟨i0, h⟩
                  simp only [f2, f4, f5, f6, ho, ↓reduceIte, Bool.false_eq_true]
                  exact go
                · have f4 : decide (((i : Nat) : Int) > 0) = false := decide_eq_false (by omega)
                  simp only [f2, f4, f6, ho, ↓reduceIte, Bool.false_eq_true]
                  exact go
    · have e1 : decide (((i : Nat) : Int) < (((List.length b) : Nat) : Int)) = false := decide_eq_false (by omega)
      rw [e1, if_neg (by simp), List.drop_eq_nil_of_le (by omega)]
      exact ⟨8, u, i, rfl, .inl ⟨by simp, rfl⟩⟩
theorem next18 (b : List Int) (h : bytesOK b = true) : ∃ m, p18 m b = some ((nextG b).1, (nextG b).2) := by
  have ⟨h1, h2⟩ := of_decide_eq_true h
  refine ⟨0, ?_⟩
  obtain ⟨e, u, j, hr, hc⟩ := next_loop 0 b h1 h2 24 0 0 (by omega) (by simp) (by omega) (by omega)
  rw [List.drop_zero, Int.natCast_zero] at *
  unfold p18 nextG
  simp only [l18_0R, Nat.zero_add, hr, Option.isSome_some, Option.getD_some, ↓reduceIte]
  rcases hc with ⟨he, hd⟩ | ⟨he, hj, hu, ho, hd⟩
  · rw [hd]
    rcases he with rfl | rfl | rfl | rfl | rfl <;> rfl
  · rw [hd]
    have hxj := h2 _ (getD_mem b j 0 hj)
    have hs := orstep hu hxj.1 hxj.2 ho
    have hU : u + (b.getD j 0).toNat % 128 * 2 ^ (7 * j) < 18446744073709551616 := by
      have hP : 2 ^ (7 * j) ≤ 9223372036854775808 := Nat.le_trans (Nat.pow_le_pow_right (by omega) (show 7 * j ≤ 63 by omega)) (by decide)
      rcases ho with h | ⟨h, hx⟩
      · have h1 := pow_le7 h
        have : (b.getD j 0).toNat % 128 * 2 ^ (7 * j) ≤ 127 * 72057594037927936 := Nat.mul_le_mul (by omega) h1
        omega
      · have : (b.getD j 0).toNat % 128 * 2 ^ (7 * j) ≤ 1 * 9223372036854775808 := Nat.mul_le_mul (by omega) hP
        omega
    have e7 : IntKind.wrap .i64 (((j : Nat) : Int) + (1)) = ((j + 1 : Nat) : Int) := by rw [wrap_id (by omega) (by omega)]; rfl
    have hz := zag hU
    rw [← hs] at hz
    rcases he with rfl | rfl | rfl | rfl <;> simp only [show Int.toNat ((j : Nat) : Int) = j from rfl, hz, e7] <;> rfl
def s18 : List AV → Boxes → M (AV × Boxes) := normS [.val (.sl (.int .u8))] [] fun xs B => match xs, B with
  | [(.d (.sl (.int .u8) c1))], [] => .chk (bytesOK c1) (.ret ((.tup [(.d (.int .i64 (nextG c1).1)), (.d (.int .i64 (nextG c1).2))]), []))
  | _, _ => .fail
theorem s18_at : CallAt Try.prog 18 s18 := by
  refine CallAt.norm (CallAt.weakE (g := fun n => evCall F S9 n 18) (fun n => evCall_atH mixed kinds hds S9 S9_ok n 18) fun xs B r' B' hr => ?_) _ _
  split at hr
  · rename_i c1
    obtain ⟨hp, hr⟩ := (M.run_chk _ _ _).1 hr
    simp only [M.run, Option.some.injEq, Prod.mk.injEq] at hr
    obtain ⟨rfl, rfl⟩ := hr
    obtain ⟨m, hm⟩ := next18 c1 hp
    obtain ⟨r, B1, h1, h2, h3, h4⟩ := p18_ok m c1 _ hm
    exact ⟨m + 25, r, B1, h1, by simp, h2, h3, h4⟩
  · simp [M.run] at hr
noncomputable def S10 : FuncId → Option (List AV → Boxes → M (AV × Boxes)) := fun f => if f = 18 then some s18 else S9 f
set_option maxHeartbeats 20000000 in
theorem S10_ok : ∀ f s, S10 f = some s → CallAt Try.prog f s := by
  intro f s h
  unfold S10 at h
  split at h
  · rename_i e; subst e; cases h; exact s18_at
  · exact S9_ok f s h

end Go.Proofs.Ytghkbjflejgieaa.Dec
namespace Go.Proofs.Ytghkbjflejgieaa.Dec
open Go.Ev
set_option linter.unusedVariables false
set_option linter.unusedSimpArgs false
set_option maxRecDepth 100000
noncomputable def fn8 : AFn := (F 8).getD ⟨0, [], .bad, false, false, noHd⟩
noncomputable def body8 : AC := fn8.body
def l8_0 (m : Nat) : Nat → List (Int × Int) → Int → Int → Int → List Int → Int × Int → Option (Nat × Int × Int × (List Int) × (Int × Int))
  | 0, _, _, _, _, _, _ => none
  | n + 1, x0, s6, s18, s19, b0, b1 => if decide (s19 < s18) = true then
      if decide (0 ≤ s19) = true then
        if decide (s19 < (((List.length x0) : Nat) : Int)) = true then
          if numPre [(IntKind.wrap .i64 ((IntKind.wrap .i64 ((List.getD x0 (Int.toNat s19) (0, 0)).1 - b1.1)) - s6)), (IntKind.wrap .i64 ((List.getD x0 (Int.toNat s19) (0, 0)).2 - b1.2))] = true then
            if decide ((((List.length b0) + (List.length (List.take (List.length (numG [(IntKind.wrap .i64 ((IntKind.wrap .i64 ((List.getD x0 (Int.toNat s19) (0, 0)).1 - b1.1)) - s6)), (IntKind.wrap .i64 ((List.getD x0 (Int.toNat s19) (0, 0)).2 - b1.2))])) (List.drop 0 (numG [(IntKind.wrap .i64 ((IntKind.wrap .i64 ((List.getD x0 (Int.toNat s19) (0, 0)).1 - b1.1)) - s6)), (IntKind.wrap .i64 ((List.getD x0 (Int.toNat s19) (0, 0)).2 - b1.2))]))))) * 1) ≤ 70368744177664) = true then
              l8_0 m n x0 ((IntKind.wrap .i64 ((List.getD x0 (Int.toNat s19) (0, 0)).1 - b1.1))) s18 ((IntKind.wrap .i64 (s19 + (1)))) ((b0 ++ (List.take (List.length (numG [(IntKind.wrap .i64 ((IntKind.wrap .i64 ((List.getD x0 (Int.toNat s19) (0, 0)).1 - b1.1)) - s6)), (IntKind.wrap .i64 ((List.getD x0 (Int.toNat s19) (0, 0)).2 - b1.2))])) (List.drop 0 (numG [(IntKind.wrap .i64 ((IntKind.wrap .i64 ((List.getD x0 (Int.toNat s19) (0, 0)).1 - b1.1)) - s6)), (IntKind.wrap .i64 ((List.getD x0 (Int.toNat s19) (0, 0)).2 - b1.2))]))))) ((List.getD x0 (Int.toNat s19) (0, 0)))
            else
              none
          else
            none
        else
          none
      else
        none
    else
      some (0, s6, s19, b0, b1)
def l8_0D : Nat × Int × Int × (List Int) × (Int × Int) := (0, 0, 0, [], (0, 0))
@[reducible] def l8_0R (m n : Nat) (x0 : List (Int × Int)) (s6 : Int) (s18 : Int) (s19 : Int) (b0 : List Int) (b1 : Int × Int) : Nat × Int × Int × (List Int) × (Int × Int) := Option.getD (l8_0 m n x0 s6 s18 s19 b0 b1) l8_0D
def l8_0H (x0 : List (Int × Int)) (s6 : Int) (s18 : Int) (s19 : Int) (b0 : List Int) (b1 : Int × Int) : Env := [.top, .top, .top, .top, (.sr 0 0 (List.length b0) 1 none), (.ptr 1 0), (.d (.int .i64 s6)), .top, .top, .top, .top, .top, .top, .top, .top, .top, .top, (.d (.sl (.pair (.int .i64) (.int .i64)) x0)), (.d (.int .i64 s18)), (.d (.int .i64 s19)), .top, .top, .top, .top, .top, .top, .top, .top, .top, .top, .top, .top, .top, .top, .top, .top, .top, .top, .top, .top, .top, .top, .top, .top]
def l8_0B (x0 : List (Int × Int)) (s6 : Int) (s18 : Int) (s19 : Int) (b0 : List Int) (b1 : Int × Int) : Boxes := [(.arr (.int .u8) b0 true), (.cells [(.d (.int .i64 b1.1)), (.d (.int .i64 b1.2))])]
def l8_0E (x0 : List (Int × Int)) (s6 : Int) (s18 : Int) (s19 : Int) (b0 : List Int) (b1 : Int × Int) : Nat → AEx × Env × Boxes
  | _ => (.exit 0, [.top, .top, .top, .top, (.sr 0 0 (List.length b0) 1 none), (.ptr 1 0), (.d (.int .i64 s6)), .top, .top, .top, .top, .top, .top, .top, .top, .top, .top, (.d (.sl (.pair (.int .i64) (.int .i64)) x0)), (.d (.int .i64 s18)), (.d (.int .i64 s19)), (.d (.bool (decide (s19 < s18)))), .top, .top, .top, .top, .top, .top, .top, .top, .top, .top, .top, .top, .top, .top, .top, .top, .top, .top, .top, .top, .top, .top, .top], [(.arr (.int .u8) b0 true), (.cells [(.d (.int .i64 b1.1)), (.d (.int .i64 b1.2))])])
noncomputable def lbl8_0 : AC := loopBody 917616 body8

set_option maxHeartbeats 20000000 in
theorem l8_0_w0 (m n : Nat) (x0 : List (Int × Int)) (s6 : Int) (s18 : Int) (s19 : Int) (b0 : List Int) (b1 : Int × Int) (r : AEx × Env × Boxes) (c0 : decide (s19 < s18) = true) (c1 : decide (0 ≤ s19) = true) (c2 : decide (s19 < (((List.length x0) : Nat) : Int)) = true) (c4 : numPre [(IntKind.wrap .i64 ((IntKind.wrap .i64 ((List.getD x0 (Int.toNat s19) (0, 0)).1 - b1.1)) - s6)), (IntKind.wrap .i64 ((List.getD x0 (Int.toNat s19) (0, 0)).2 - b1.2))] = true) (c6 : decide ((((List.length b0) + (List.length (List.take (List.length (numG [(IntKind.wrap .i64 ((IntKind.wrap .i64 ((List.getD x0 (Int.toNat s19) (0, 0)).1 - b1.1)) - s6)), (IntKind.wrap .i64 ((List.getD x0 (Int.toNat s19) (0, 0)).2 - b1.2))])) (List.drop 0 (numG [(IntKind.wrap .i64 ((IntKind.wrap .i64 ((List.getD x0 (Int.toNat s19) (0, 0)).1 - b1.1)) - s6)), (IntKind.wrap .i64 ((List.getD x0 (Int.toNat s19) (0, 0)).2 - b1.2))]))))) * 1) ≤ 70368744177664) = true) (ih : (turns (hds 8 917616) 0 917616 (evC byref (evCall F S10 (m + 24)) (m + 24) 0 (hds 8) lbl8_0) n (l8_0H x0 ((IntKind.wrap .i64 ((List.getD x0 (Int.toNat s19) (0, 0)).1 - b1.1))) s18 ((IntKind.wrap .i64 (s19 + (1)))) ((b0 ++ (List.take (List.length (numG [(IntKind.wrap .i64 ((IntKind.wrap .i64 ((List.getD x0 (Int.toNat s19) (0, 0)).1 - b1.1)) - s6)), (IntKind.wrap .i64 ((List.getD x0 (Int.toNat s19) (0, 0)).2 - b1.2))])) (List.drop 0 (numG [(IntKind.wrap .i64 ((IntKind.wrap .i64 ((List.getD x0 (Int.toNat s19) (0, 0)).1 - b1.1)) - s6)), (IntKind.wrap .i64 ((List.getD x0 (Int.toNat s19) (0, 0)).2 - b1.2))]))))) ((List.getD x0 (Int.toNat s19) (0, 0)))) (l8_0B x0 ((IntKind.wrap .i64 ((List.getD x0 (Int.toNat s19) (0, 0)).1 - b1.1))) s18 ((IntKind.wrap .i64 (s19 + (1)))) ((b0 ++ (List.take (List.length (numG [(IntKind.wrap .i64 ((IntKind.wrap .i64 ((List.getD x0 (Int.toNat s19) (0, 0)).1 - b1.1)) - s6)), (IntKind.wrap .i64 ((List.getD x0 (Int.toNat s19) (0, 0)).2 - b1.2))])) (List.drop 0 (numG [(IntKind.wrap .i64 ((IntKind.wrap .i64 ((List.getD x0 (Int.toNat s19) (0, 0)).1 - b1.1)) - s6)), (IntKind.wrap .i64 ((List.getD x0 (Int.toNat s19) (0, 0)).2 - b1.2))]))))) ((List.getD x0 (Int.toNat s19) (0, 0))))).run = some r) : (turns (hds 8 917616) 0 917616 (evC byref (evCall F S10 (m + 24)) (m + 24) 0 (hds 8) lbl8_0) (n + 1) (l8_0H x0 s6 s18 s19 b0 b1) (l8_0B x0 s6 s18 s19 b0 b1)).run = some r := by
  have ht : (turn (hds 8 917616) 0 917616 (evC byref (evCall F S10 (m + 24)) (m + 24) 0 (hds 8) lbl8_0) (l8_0H x0 s6 s18 s19 b0 b1) (l8_0B x0 s6 s18 s19 b0 b1)).run = some (let r1 := (numG [(IntKind.wrap .i64 ((IntKind.wrap .i64 ((List.getD x0 (Int.toNat s19) (0, 0)).1 - b1.1)) - s6)), (IntKind.wrap .i64 ((List.getD x0 (Int.toNat s19) (0, 0)).2 - b1.2))]); (.normal, [.top, .top, .top, .top, (.sr 0 0 ((List.length b0) + (List.length (List.take (List.length r1) (List.drop 0 r1)))) 1 none), (.ptr 1 0), (.d (.int .i64 (IntKind.wrap .i64 ((List.getD x0 (Int.toNat s19) (0, 0)).1 - b1.1)))), .top, .top, .top, .top, .top, .top, .top, .top, .top, .top, (.d (.sl (.pair (.int .i64) (.int .i64)) x0)), (.d (.int .i64 s18)), (.d (.int .i64 (IntKind.wrap .i64 (s19 + (1))))), .top, .top, .top, .top, .top, .top, .top, .top, .top, .top, .top, .top, .top, .top, .top, .top, .top, .top, .top, .top, .top, .top, .top, .top], [(.arr (.int .u8) (b0 ++ (List.take (List.length r1) (List.drop 0 r1))) true), (.cells [(.d (.int .i64 (List.getD x0 (Int.toNat s19) (0, 0)).1)), (.d (.int .i64 (List.getD x0 (Int.toNat s19) (0, 0)).2))])])) := M.run_of_path _ [true, true, true, true, true, true, true, true] _ _ (by kernel_rfl) (all_t c0 (all_t c1 (all_t c2 (all_t rfl (all_t c4 (all_t (show decide ((0 + (List.length (numG [(IntKind.wrap .i64 ((IntKind.wrap .i64 ((List.getD x0 (Int.toNat s19) (0, 0)).1 - b1.1)) - s6)), (IntKind.wrap .i64 ((List.getD x0 (Int.toNat s19) (0, 0)).2 - b1.2))]))) ≤ (List.length (numG [(IntKind.wrap .i64 ((IntKind.wrap .i64 ((List.getD x0 (Int.toNat s19) (0, 0)).1 - b1.1)) - s6)), (IntKind.wrap .i64 ((List.getD x0 (Int.toNat s19) (0, 0)).2 - b1.2))]))) = true from decide_eq_true (Nat.le_of_eq (Nat.zero_add _))) (all_t c6 (all_t (show decide ((List.length b0) = (List.length b0)) = true from decide_eq_true rfl) all_nil))))))))
  refine turns_step ht (turns_eq ?_ ?_ ih)
  · unfold l8_0H
    first | (simp; done) | (simp [Nat.add_assoc]; done)
  · unfold l8_0B
    simp
set_option maxHeartbeats 20000000 in
theorem l8_0_w1 (m n : Nat) (x0 : List (Int × Int)) (s6 : Int) (s18 : Int) (s19 : Int) (b0 : List Int) (b1 : Int × Int) (c0 : ¬ decide (s19 < s18) = true) : (turns (hds 8 917616) 0 917616 (evC byref (evCall F S10 (m + 24)) (m + 24) 0 (hds 8) lbl8_0) (n + 1) (l8_0H x0 s6 s18 s19 b0 b1) (l8_0B x0 s6 s18 s19 b0 b1)).run = some (.exit 0, [.top, .top, .top, .top, (.sr 0 0 (List.length b0) 1 none), (.ptr 1 0), (.d (.int .i64 s6)), .top, .top, .top, .top, .top, .top, .top, .top, .top, .top, (.d (.sl (.pair (.int .i64) (.int .i64)) x0)), (.d (.int .i64 s18)), (.d (.int .i64 s19)), (.d (.bool (decide (s19 < s18)))), .top, .top, .top, .top, .top, .top, .top, .top, .top, .top, .top, .top, .top, .top, .top, .top, .top, .top, .top, .top, .top, .top, .top], [(.arr (.int .u8) b0 true), (.cells [(.d (.int .i64 b1.1)), (.d (.int .i64 b1.2))])]) := by
  exact turns_last (by simp) (M.run_of_path _ [false] _ _ (by kernel_rfl) (all_f c0 all_nil)) 

set_option maxHeartbeats 20000000 in
theorem l8_0_step (m n : Nat) (ih : ∀ (x0 : List (Int × Int)) (s6 : Int) (s18 : Int) (s19 : Int) (b0 : List Int) (b1 : Int × Int) (q : Nat × Int × Int × (List Int) × (Int × Int)), l8_0 m n x0 s6 s18 s19 b0 b1 = some q → (turns (hds 8 917616) 0 917616 (evC byref (evCall F S10 (m + 24)) (m + 24) 0 (hds 8) lbl8_0) n (l8_0H x0 s6 s18 s19 b0 b1) (l8_0B x0 s6 s18 s19 b0 b1)).run = some (l8_0E (x0) (q.2.1) (s18) (q.2.2.1) (q.2.2.2.1) (q.2.2.2.2) q.1)) (x0 : List (Int × Int)) (s6 : Int) (s18 : Int) (s19 : Int) (b0 : List Int) (b1 : Int × Int) (q : Nat × Int × Int × (List Int) × (Int × Int)) (h : l8_0 m (n + 1) x0 s6 s18 s19 b0 b1 = some q) : (turns (hds 8 917616) 0 917616 (evC byref (evCall F S10 (m + 24)) (m + 24) 0 (hds 8) lbl8_0) (n + 1) (l8_0H x0 s6 s18 s19 b0 b1) (l8_0B x0 s6 s18 s19 b0 b1)).run = some (l8_0E (x0) (q.2.1) (s18) (q.2.2.1) (q.2.2.2.1) (q.2.2.2.2) q.1) := by
  rw [l8_0] at h
  refine ite_cases h (fun c0 h => ?_) (fun c0 h => ?_)
  · skip
    refine ite_cases h (fun c1 h => ?_) (fun c1 h => ?_)
    · skip
      refine ite_cases h (fun c2 h => ?_) (fun c2 h => ?_)
      · skip
        refine ite_cases h (fun c4 h => ?_) (fun c4 h => ?_)
        · skip
          refine ite_cases h (fun c6 h => ?_) (fun c6 h => ?_)
          · skip
            exact l8_0_w0 m n x0 s6 s18 s19 b0 b1 _ c0 c1 c2 c4 c6 (ih _ _ _ _ _ _ q h)
          · skip
            cases h
        · skip
          cases h
      · skip
        cases h
    · skip
      cases h
  · skip
    cases h
    exact l8_0_w1 m n x0 s6 s18 s19 b0 b1 c0
set_option maxHeartbeats 20000000 in
theorem l8_0_ok (m : Nat) : ∀ (n : Nat) (x0 : List (Int × Int)) (s6 : Int) (s18 : Int) (s19 : Int) (b0 : List Int) (b1 : Int × Int) (q : Nat × Int × Int × (List Int) × (Int × Int)), l8_0 m n x0 s6 s18 s19 b0 b1 = some q → (turns (hds 8 917616) 0 917616 (evC byref (evCall F S10 (m + 24)) (m + 24) 0 (hds 8) lbl8_0) n (l8_0H x0 s6 s18 s19 b0 b1) (l8_0B x0 s6 s18 s19 b0 b1)).run = some (l8_0E (x0) (q.2.1) (s18) (q.2.2.1) (q.2.2.2.1) (q.2.2.2.2) q.1)
  | 0, x0, s6, s18, s19, b0, b1, q, h => by cases h
  | n + 1, x0, s6, s18, s19, b0, b1, q, h => l8_0_step m n (l8_0_ok m n) x0 s6 s18 s19 b0 b1 q h

def p8 (m : Nat) (x0 : List (Int × Int)) : Option ((List Int)) :=
  if decide (List.length ([] : List (Int × Int)) ≤ 200 ∧ List.length x0 < 4611686018427387904) = true then
    if ((addG ([] : List (Int × Int)) x0).1 != (0)) = true then
      some (([] : List Int))
    else
      if numPre [(((List.length x0) : Nat) : Int)] = true then
        if (Option.isSome (l8_0 m (m + 24) x0 0 ((((List.length x0) : Nat) : Int)) 0 ((numG [(((List.length x0) : Nat) : Int)])) (((0), (0))))) = true then
          some ((List.take (List.length (l8_0R m (m + 24) x0 0 ((((List.length x0) : Nat) : Int)) 0 ((numG [(((List.length x0) : Nat) : Int)])) (((0), (0)))).2.2.2.1) (List.drop 0 (l8_0R m (m + 24) x0 0 ((((List.length x0) : Nat) : Int)) 0 ((numG [(((List.length x0) : Nat) : Int)])) (((0), (0)))).2.2.2.1)))
        else
          none
      else
        none
  else
    none
set_option maxHeartbeats 20000000 in
theorem p8_ok (m : Nat) (x0 : List (Int × Int)) (q : (List Int)) (h : p8 m x0 = some q) : ∃ r B1, (evCall F S10 (m + 25) 8 [(.d (.sl (.pair (.int .i64) (.int .i64)) x0))] []).run = some (r, B1) ∧ 0 ≤ B1.length ∧ wkR B1 [] r (.d (.sl (.int .u8) q)) ∧ wkBs B1 [] 0 [] := by
  unfold p8 at h
  refine ite_cases h (fun c0 h => ?_) (fun c0 h => ?_)
  · skip
    refine ite_cases h (fun c1 h => ?_) (fun c1 h => ?_)
    · skip
      cases h
      refine ⟨(.d (.sl (.int .u8) ([] : List Int))), [], runT_ok (LS := (fun k => none)) (fn := fn8) (vis := []) (by kernel_rfl) rfl (by kernel_rfl) (M.run_of_path _ [true, true, true] _ _ (by kernel_rfl) (all_t c0 (all_t c1 (all_t rfl all_nil)))) ?_, by simp, (wkR.one (wkV.one (wk1.eq rfl))), trivial⟩
      intro p hp; cases hp
    · skip
      refine ite_cases h (fun c3 h => ?_) (fun c3 h => ?_)
      · skip
        refine ite_cases h (fun c4 h => ?_) (fun c4 h => ?_)
        · skip
          cases h
          refine ⟨(.d (.sl (.int .u8) (List.take (List.length (l8_0R m (m + 24) x0 0 ((((List.length x0) : Nat) : Int)) 0 ((numG [(((List.length x0) : Nat) : Int)])) (((0), (0)))).2.2.2.1) (List.drop 0 (l8_0R m (m + 24) x0 0 ((((List.length x0) : Nat) : Int)) 0 ((numG [(((List.length x0) : Nat) : Int)])) (((0), (0)))).2.2.2.1)))), [], runT_ok (LS := (fun k => if k = 917616 then some (l8_0E x0 ((l8_0R m (m + 24) x0 0 ((((List.length x0) : Nat) : Int)) 0 ((numG [(((List.length x0) : Nat) : Int)])) (((0), (0)))).2.1) (((((List.length x0) : Nat) : Int))) ((l8_0R m (m + 24) x0 0 ((((List.length x0) : Nat) : Int)) 0 ((numG [(((List.length x0) : Nat) : Int)])) (((0), (0)))).2.2.1) ((l8_0R m (m + 24) x0 0 ((((List.length x0) : Nat) : Int)) 0 ((numG [(((List.length x0) : Nat) : Int)])) (((0), (0)))).2.2.2.1) ((l8_0R m (m + 24) x0 0 ((((List.length x0) : Nat) : Int)) 0 ((numG [(((List.length x0) : Nat) : Int)])) (((0), (0)))).2.2.2.2) 0) else none)) (fn := fn8) (vis := [(917616, l8_0H x0 0 ((((List.length x0) : Nat) : Int)) 0 ((numG [(((List.length x0) : Nat) : Int)])) (((0), (0))), l8_0B x0 0 ((((List.length x0) : Nat) : Int)) 0 ((numG [(((List.length x0) : Nat) : Int)])) (((0), (0))))]) (by kernel_rfl) rfl (by kernel_rfl) (M.run_of_path _ [true, false, true, true, true] _ _ (by kernel_rfl) (all_t c0 (all_f c1 (all_t rfl (all_t c3 (all_t (show decide ((0 + (List.length (l8_0R m (m + 24) x0 0 ((((List.length x0) : Nat) : Int)) 0 ((numG [(((List.length x0) : Nat) : Int)])) (((0), (0)))).2.2.2.1)) ≤ (List.length (l8_0R m (m + 24) x0 0 ((((List.length x0) : Nat) : Int)) 0 ((numG [(((List.length x0) : Nat) : Int)])) (((0), (0)))).2.2.2.1)) = true from decide_eq_true (Nat.le_of_eq (Nat.zero_add _))) all_nil)))))) ?_, by simp, (wkR.one (wkV.one (wk1.eq rfl))), trivial⟩
          intro p hp p2 hq
          rcases List.mem_cons.1 hp with rfl | hp
          · skip
            have h3 := l8_0_ok m (m + 24) x0 0 ((((List.length x0) : Nat) : Int)) 0 ((numG [(((List.length x0) : Nat) : Int)])) (((0), (0))) _ (some_getD (d := l8_0D) c4)
            exact Eq.trans (Eq.mp (by kernel_rfl) h3) hq
          cases hp
        · skip
          cases h
      · skip
        cases h
  · skip
    cases h

/-- Samples one behind the other, as steps. -/
def putR (t v s : Int) : SL → List Int
  | [] => []
  | x :: xs => numG [IntKind.wrap .i64 (IntKind.wrap .i64 (x.1 - t) - s), IntKind.wrap .i64 (x.2 - v)] ++ putR x.1 x.2 (IntKind.wrap .i64 (x.1 - t)) xs
def blockG (l : SL) : List Int := numG [((l.length : Nat) : Int)] ++ putR 0 0 0 l
def putG (l : SL) : List Int := if (addG [] l).1 = 0 then blockG l else []
theorem inR_len {α : Type} (l : List α) (h : l.length ≤ 1000000) : inR ((l.length : Nat) : Int) = true := decide_eq_true (by omega)
theorem numPre1 {n : Int} (h : inR n = true) : numPre [n] = true := decide_eq_true ⟨by simp, by simpa using h⟩
theorem numPre2 (a b : Int) : numPre [IntKind.wrap .i64 a, IntKind.wrap .i64 b] = true := decide_eq_true ⟨by simp, by simp [inR_wrap]⟩
theorem numG_len2 (a b : Int) : (numG [IntKind.wrap .i64 a, IntKind.wrap .i64 b]).length ≤ 20 := (numG_len _ (by simp [inR_wrap])).2
theorem put_loop (m : Nat) (l : SL) (hl : l.length ≤ 1000000) : ∀ (n k : Nat) (s : Int) (b : List Int) (z : Int × Int), k ≤ l.length → l.length - k < n → b.length ≤ 10 + 20 * k → ∃ s' j z', l8_0 m n l s (l.length : Nat) (k : Nat) b z = some (0, s', j, b ++ putR z.1 z.2 s (l.drop k), z')
  | 0, k, s, b, z, _, h, _ => by omega
  | n + 1, k, s, b, z, h1, h2, h3 => by
    rw [l8_0]
    by_cases hk : k < l.length
    · have e1 : decide (((k : Nat) : Int) < (((List.length l) : Nat) : Int)) = true := decide_eq_true (by omega)
      have e2 : decide ((0 : Int) ≤ ((k : Nat) : Int)) = true := decide_eq_true (by omega)
      have e7 : IntKind.wrap .i64 (((k : Nat) : Int) + (1)) = ((k + 1 : Nat) : Int) := by rw [wrap_id (by omega) (by omega)]; rfl
      rw [drop_getD l k (0, 0) hk, show Int.toNat ((k : Nat) : Int) = k from rfl, e7, if_pos e1, if_pos e2, if_pos e1]
      generalize l.getD k (0, 0) = x
      rw [if_pos (numPre2 _ _), List.drop_zero, List.take_length]
      have hn := numG_len2 (IntKind.wrap .i64 (x.1 - z.1) - s) (x.2 - z.2)
      have e3 : decide (((List.length b) + (List.length (numG [IntKind.wrap .i64 (IntKind.wrap .i64 (x.1 - z.1) - s), IntKind.wrap .i64 (x.2 - z.2)]))) * 1 ≤ 70368744177664) = true := decide_eq_true (by omega)
      rw [if_pos e3]
      obtain ⟨s', j, z', hr⟩ := put_loop m l hl n (k + 1) (IntKind.wrap .i64 (x.1 - z.1)) (b ++ numG [IntKind.wrap .i64 (IntKind.wrap .i64 (x.1 - z.1) - s), IntKind.wrap .i64 (x.2 - z.2)]) x (by omega) (by omega) (by rw [List.length_append]; omega)
      exact ⟨s', j, z', by rw [hr, putR, List.append_assoc]⟩
    · have e1 : decide (((k : Nat) : Int) < (((List.length l) : Nat) : Int)) = false := decide_eq_false (by omega)
      rw [e1, if_neg (by simp), List.drop_eq_nil_of_le (by omega)]
      exact ⟨s, ((k : Nat) : Int), z, by simp [putR]⟩
theorem put8 (l : SL) (h : decide (List.length l ≤ 1000000) = true) : ∃ m, p8 m l = some (putG l) := by
  have h := of_decide_eq_true h
  refine ⟨l.length, ?_⟩
  have e1 : decide (List.length ([] : List (Int × Int)) ≤ 200 ∧ List.length l < 4611686018427387904) = true := decide_eq_true ⟨by simp, by omega⟩
  unfold p8 putG
  rw [if_pos e1]
  by_cases h0 : (addG [] l).1 = 0
  · have e2 : ((addG ([] : List (Int × Int)) l).1 != (0)) = false := by rw [h0]; rfl
    have hn := (numG_len [((l.length : Nat) : Int)] (by simpa using inR_len l h)).2
    obtain ⟨s', j, z', hr⟩ := put_loop l.length l h (l.length + 24) 0 0 (numG [((l.length : Nat) : Int)]) (0, 0) (by omega) (by omega) (by simpa using hn)
    simp only [Int.natCast_zero, List.drop_zero] at hr
    rw [e2, if_neg (by simp), if_pos (numPre1 (inR_len l h)), if_pos h0]
    simp only [l8_0R, hr, Option.isSome_some, Option.getD_some, ↓reduceIte]
    rw [List.drop_zero, List.take_length]
    rfl
  · have e2 : ((addG ([] : List (Int × Int)) l).1 != (0)) = true := by simpa using h0
    rw [if_pos e2, if_neg h0]
def s8 : List AV → Boxes → M (AV × Boxes) := normS [.val (.sl (.pair (.int .i64) (.int .i64)))] [] fun xs B => match xs, B with
  | [(.d (.sl (.pair (.int .i64) (.int .i64)) c1))], [] => .chk (decide (List.length c1 ≤ 1000000)) (.ret ((.d (.sl (.int .u8) (putG c1))), []))
  | _, _ => .fail
theorem s8_at : CallAt Try.prog 8 s8 := by
  refine CallAt.norm (CallAt.weakE (g := fun n => evCall F S10 n 8) (fun n => evCall_atH mixed kinds hds S10 S10_ok n 8) fun xs B r' B' hr => ?_) _ _
  split at hr
  · rename_i c1
    obtain ⟨hp, hr⟩ := (M.run_chk _ _ _).1 hr
    simp only [M.run, Option.some.injEq, Prod.mk.injEq] at hr
    obtain ⟨rfl, rfl⟩ := hr
    obtain ⟨m, hm⟩ := put8 c1 hp
    obtain ⟨r, B1, h1, h2, h3, h4⟩ := p8_ok m c1 _ hm
    exact ⟨m + 25, r, B1, h1, by simp, h2, h3, h4⟩
  · simp [M.run] at hr
noncomputable def S11 : FuncId → Option (List AV → Boxes → M (AV × Boxes)) := fun f => if f = 8 then some s8 else S10 f
set_option maxHeartbeats 20000000 in
theorem S11_ok : ∀ f s, S11 f = some s → CallAt Try.prog f s := by
  intro f s h
  unfold S11 at h
  split at h
  · rename_i e; subst e; cases h; exact s8_at
  · exact S10_ok f s h

noncomputable def fn15 : AFn := (F 15).getD ⟨0, [], .bad, false, false, noHd⟩
noncomputable def body15 : AC := fn15.body
def l15_0 (m : Nat) : Nat → List (Int × Int) → Int → Int → Int → Int → Int → List Int → Option (Nat × Int × Int × Int × Int × (List Int))
  | 0, _, _, _, _, _, _, _ => none
  | n + 1, x0, s4, s5, s6, s14, s15, b0 => if decide (s15 < s14) = true then
      if decide (0 ≤ s15) = true then
        if decide (s15 < (((List.length x0) : Nat) : Int)) = true then
          if inR (IntKind.wrap .i64 ((IntKind.wrap .i64 ((List.getD x0 (Int.toNat s15) (0, 0)).1 - s4)) - s5)) = true then
            if decide ((((List.length b0) + (List.length (List.take (List.length (numG [(IntKind.wrap .i64 ((IntKind.wrap .i64 ((List.getD x0 (Int.toNat s15) (0, 0)).1 - s4)) - s5))])) (List.drop 0 (numG [(IntKind.wrap .i64 ((IntKind.wrap .i64 ((List.getD x0 (Int.toNat s15) (0, 0)).1 - s4)) - s5))]))))) * 1) ≤ 70368744177664) = true then
              if inR (IntKind.wrap .i64 ((List.getD x0 (Int.toNat s15) (0, 0)).2 - s6)) = true then
                if decide (((((List.length b0) + (List.length (List.take (List.length (numG [(IntKind.wrap .i64 ((IntKind.wrap .i64 ((List.getD x0 (Int.toNat s15) (0, 0)).1 - s4)) - s5))])) (List.drop 0 (numG [(IntKind.wrap .i64 ((IntKind.wrap .i64 ((List.getD x0 (Int.toNat s15) (0, 0)).1 - s4)) - s5))]))))) + (List.length (List.take (List.length (numG [(IntKind.wrap .i64 ((List.getD x0 (Int.toNat s15) (0, 0)).2 - s6))])) (List.drop 0 (numG [(IntKind.wrap .i64 ((List.getD x0 (Int.toNat s15) (0, 0)).2 - s6))]))))) * 1) ≤ 70368744177664) = true then
                  if decide (((List.length b0) + (List.length (List.take (List.length (numG [(IntKind.wrap .i64 ((IntKind.wrap .i64 ((List.getD x0 (Int.toNat s15) (0, 0)).1 - s4)) - s5))])) (List.drop 0 (numG [(IntKind.wrap .i64 ((IntKind.wrap .i64 ((List.getD x0 (Int.toNat s15) (0, 0)).1 - s4)) - s5))]))))) = (List.length (b0 ++ (List.take (List.length (numG [(IntKind.wrap .i64 ((IntKind.wrap .i64 ((List.getD x0 (Int.toNat s15) (0, 0)).1 - s4)) - s5))])) (List.drop 0 (numG [(IntKind.wrap .i64 ((IntKind.wrap .i64 ((List.getD x0 (Int.toNat s15) (0, 0)).1 - s4)) - s5))])))))) = true then
                    l15_0 m n x0 ((List.getD x0 (Int.toNat s15) (0, 0)).1) ((IntKind.wrap .i64 ((List.getD x0 (Int.toNat s15) (0, 0)).1 - s4))) ((List.getD x0 (Int.toNat s15) (0, 0)).2) s14 ((IntKind.wrap .i64 (s15 + (1)))) (((b0 ++ (List.take (List.length (numG [(IntKind.wrap .i64 ((IntKind.wrap .i64 ((List.getD x0 (Int.toNat s15) (0, 0)).1 - s4)) - s5))])) (List.drop 0 (numG [(IntKind.wrap .i64 ((IntKind.wrap .i64 ((List.getD x0 (Int.toNat s15) (0, 0)).1 - s4)) - s5))])))) ++ (List.take (List.length (numG [(IntKind.wrap .i64 ((List.getD x0 (Int.toNat s15) (0, 0)).2 - s6))])) (List.drop 0 (numG [(IntKind.wrap .i64 ((List.getD x0 (Int.toNat s15) (0, 0)).2 - s6))])))))
                  else
                    none
                else
                  none
              else
                none
            else
              none
          else
            none
        else
          none
      else
        none
    else
      some (0, s4, s5, s6, s15, b0)
def l15_0D : Nat × Int × Int × Int × Int × (List Int) := (0, 0, 0, 0, 0, [])
@[reducible] def l15_0R (m n : Nat) (x0 : List (Int × Int)) (s4 : Int) (s5 : Int) (s6 : Int) (s14 : Int) (s15 : Int) (b0 : List Int) : Nat × Int × Int × Int × Int × (List Int) := Option.getD (l15_0 m n x0 s4 s5 s6 s14 s15 b0) l15_0D
def l15_0H (x0 : List (Int × Int)) (s4 : Int) (s5 : Int) (s6 : Int) (s14 : Int) (s15 : Int) (b0 : List Int) : Env := [.top, .top, .top, (.sr 0 0 (List.length b0) 1 none), (.d (.int .i64 s4)), (.d (.int .i64 s5)), (.d (.int .i64 s6)), .top, .top, .top, .top, .top, .top, (.d (.sl (.pair (.int .i64) (.int .i64)) x0)), (.d (.int .i64 s14)), (.d (.int .i64 s15)), .top, .top, .top, .top, .top, .top, .top, .top, .top, .top, .top, .top, .top, .top, .top, .top, .top, .top, .top, .top, .top, .top, .top, .top, .top, .top]
def l15_0B (x0 : List (Int × Int)) (s4 : Int) (s5 : Int) (s6 : Int) (s14 : Int) (s15 : Int) (b0 : List Int) : Boxes := [(.arr (.int .u8) b0 true)]
def l15_0E (x0 : List (Int × Int)) (s4 : Int) (s5 : Int) (s6 : Int) (s14 : Int) (s15 : Int) (b0 : List Int) : Nat → AEx × Env × Boxes
  | _ => (.exit 0, [.top, .top, .top, (.sr 0 0 (List.length b0) 1 none), (.d (.int .i64 s4)), (.d (.int .i64 s5)), (.d (.int .i64 s6)), .top, .top, .top, .top, .top, .top, (.d (.sl (.pair (.int .i64) (.int .i64)) x0)), (.d (.int .i64 s14)), (.d (.int .i64 s15)), (.d (.bool (decide (s15 < s14)))), .top, .top, .top, .top, .top, .top, .top, .top, .top, .top, .top, .top, .top, .top, .top, .top, .top, .top, .top, .top, .top, .top, .top, .top, .top], [(.arr (.int .u8) b0 true)])
noncomputable def lbl15_0 : AC := loopBody 57464 body15

set_option maxHeartbeats 20000000 in
theorem l15_0_w0 (m n : Nat) (x0 : List (Int × Int)) (s4 : Int) (s5 : Int) (s6 : Int) (s14 : Int) (s15 : Int) (b0 : List Int) (r : AEx × Env × Boxes) (c0 : decide (s15 < s14) = true) (c1 : decide (0 ≤ s15) = true) (c2 : decide (s15 < (((List.length x0) : Nat) : Int)) = true) (c3 : inR (IntKind.wrap .i64 ((IntKind.wrap .i64 ((List.getD x0 (Int.toNat s15) (0, 0)).1 - s4)) - s5)) = true) (c5 : decide ((((List.length b0) + (List.length (List.take (List.length (numG [(IntKind.wrap .i64 ((IntKind.wrap .i64 ((List.getD x0 (Int.toNat s15) (0, 0)).1 - s4)) - s5))])) (List.drop 0 (numG [(IntKind.wrap .i64 ((IntKind.wrap .i64 ((List.getD x0 (Int.toNat s15) (0, 0)).1 - s4)) - s5))]))))) * 1) ≤ 70368744177664) = true) (c7 : inR (IntKind.wrap .i64 ((List.getD x0 (Int.toNat s15) (0, 0)).2 - s6)) = true) (c9 : decide (((((List.length b0) + (List.length (List.take (List.length (numG [(IntKind.wrap .i64 ((IntKind.wrap .i64 ((List.getD x0 (Int.toNat s15) (0, 0)).1 - s4)) - s5))])) (List.drop 0 (numG [(IntKind.wrap .i64 ((IntKind.wrap .i64 ((List.getD x0 (Int.toNat s15) (0, 0)).1 - s4)) - s5))]))))) + (List.length (List.take (List.length (numG [(IntKind.wrap .i64 ((List.getD x0 (Int.toNat s15) (0, 0)).2 - s6))])) (List.drop 0 (numG [(IntKind.wrap .i64 ((List.getD x0 (Int.toNat s15) (0, 0)).2 - s6))]))))) * 1) ≤ 70368744177664) = true) (c10 : decide (((List.length b0) + (List.length (List.take (List.length (numG [(IntKind.wrap .i64 ((IntKind.wrap .i64 ((List.getD x0 (Int.toNat s15) (0, 0)).1 - s4)) - s5))])) (List.drop 0 (numG [(IntKind.wrap .i64 ((IntKind.wrap .i64 ((List.getD x0 (Int.toNat s15) (0, 0)).1 - s4)) - s5))]))))) = (List.length (b0 ++ (List.take (List.length (numG [(IntKind.wrap .i64 ((IntKind.wrap .i64 ((List.getD x0 (Int.toNat s15) (0, 0)).1 - s4)) - s5))])) (List.drop 0 (numG [(IntKind.wrap .i64 ((IntKind.wrap .i64 ((List.getD x0 (Int.toNat s15) (0, 0)).1 - s4)) - s5))])))))) = true) (ih : (turns (hds 15 57464) 0 57464 (evC byref (evCall F S11 (m + 24)) (m + 24) 0 (hds 15) lbl15_0) n (l15_0H x0 ((List.getD x0 (Int.toNat s15) (0, 0)).1) ((IntKind.wrap .i64 ((List.getD x0 (Int.toNat s15) (0, 0)).1 - s4))) ((List.getD x0 (Int.toNat s15) (0, 0)).2) s14 ((IntKind.wrap .i64 (s15 + (1)))) (((b0 ++ (List.take (List.length (numG [(IntKind.wrap .i64 ((IntKind.wrap .i64 ((List.getD x0 (Int.toNat s15) (0, 0)).1 - s4)) - s5))])) (List.drop 0 (numG [(IntKind.wrap .i64 ((IntKind.wrap .i64 ((List.getD x0 (Int.toNat s15) (0, 0)).1 - s4)) - s5))])))) ++ (List.take (List.length (numG [(IntKind.wrap .i64 ((List.getD x0 (Int.toNat s15) (0, 0)).2 - s6))])) (List.drop 0 (numG [(IntKind.wrap .i64 ((List.getD x0 (Int.toNat s15) (0, 0)).2 - s6))])))))) (l15_0B x0 ((List.getD x0 (Int.toNat s15) (0, 0)).1) ((IntKind.wrap .i64 ((List.getD x0 (Int.toNat s15) (0, 0)).1 - s4))) ((List.getD x0 (Int.toNat s15) (0, 0)).2) s14 ((IntKind.wrap .i64 (s15 + (1)))) (((b0 ++ (List.take (List.length (numG [(IntKind.wrap .i64 ((IntKind.wrap .i64 ((List.getD x0 (Int.toNat s15) (0, 0)).1 - s4)) - s5))])) (List.drop 0 (numG [(IntKind.wrap .i64 ((IntKind.wrap .i64 ((List.getD x0 (Int.toNat s15) (0, 0)).1 - s4)) - s5))])))) ++ (List.take (List.length (numG [(IntKind.wrap .i64 ((List.getD x0 (Int.toNat s15) (0, 0)).2 - s6))])) (List.drop 0 (numG [(IntKind.wrap .i64 ((List.getD x0 (Int.toNat s15) (0, 0)).2 - s6))]))))))).run = some r) : (turns (hds 15 57464) 0 57464 (evC byref (evCall F S11 (m + 24)) (m + 24) 0 (hds 15) lbl15_0) (n + 1) (l15_0H x0 s4 s5 s6 s14 s15 b0) (l15_0B x0 s4 s5 s6 s14 s15 b0)).run = some r := by
  have ht : (turn (hds 15 57464) 0 57464 (evC byref (evCall F S11 (m + 24)) (m + 24) 0 (hds 15) lbl15_0) (l15_0H x0 s4 s5 s6 s14 s15 b0) (l15_0B x0 s4 s5 s6 s14 s15 b0)).run = some (let r2 := (numG [(IntKind.wrap .i64 ((List.getD x0 (Int.toNat s15) (0, 0)).2 - s6))]); let r1 := (numG [(IntKind.wrap .i64 ((IntKind.wrap .i64 ((List.getD x0 (Int.toNat s15) (0, 0)).1 - s4)) - s5))]); (.normal, [.top, .top, .top, (.sr 0 0 (((List.length b0) + (List.length (List.take (List.length r1) (List.drop 0 r1)))) + (List.length (List.take (List.length r2) (List.drop 0 r2)))) 1 none), (.d (.int .i64 (List.getD x0 (Int.toNat s15) (0, 0)).1)), (.d (.int .i64 (IntKind.wrap .i64 ((List.getD x0 (Int.toNat s15) (0, 0)).1 - s4)))), (.d (.int .i64 (List.getD x0 (Int.toNat s15) (0, 0)).2)), .top, .top, .top, .top, .top, .top, (.d (.sl (.pair (.int .i64) (.int .i64)) x0)), (.d (.int .i64 s14)), (.d (.int .i64 (IntKind.wrap .i64 (s15 + (1))))), .top, .top, .top, .top, .top, .top, .top, .top, .top, .top, .top, .top, .top, .top, .top, .top, .top, .top, .top, .top, .top, .top, .top, .top, .top, .top], [(.arr (.int .u8) ((b0 ++ (List.take (List.length r1) (List.drop 0 r1))) ++ (List.take (List.length r2) (List.drop 0 r2))) true)])) := M.run_of_path _ [true, true, true, true, true, true, true, true, true, true, true] _ _ (by kernel_rfl) (all_t c0 (all_t c1 (all_t c2 (all_t c3 (all_t (show decide ((0 + (List.length (numG [(IntKind.wrap .i64 ((IntKind.wrap .i64 ((List.getD x0 (Int.toNat s15) (0, 0)).1 - s4)) - s5))]))) ≤ (List.length (numG [(IntKind.wrap .i64 ((IntKind.wrap .i64 ((List.getD x0 (Int.toNat s15) (0, 0)).1 - s4)) - s5))]))) = true from decide_eq_true (Nat.le_of_eq (Nat.zero_add _))) (all_t c5 (all_t (show decide ((List.length b0) = (List.length b0)) = true from decide_eq_true rfl) (all_t c7 (all_t (show decide ((0 + (List.length (numG [(IntKind.wrap .i64 ((List.getD x0 (Int.toNat s15) (0, 0)).2 - s6))]))) ≤ (List.length (numG [(IntKind.wrap .i64 ((List.getD x0 (Int.toNat s15) (0, 0)).2 - s6))]))) = true from decide_eq_true (Nat.le_of_eq (Nat.zero_add _))) (all_t c9 (all_t c10 all_nil)))))))))))
  refine turns_step ht (turns_eq ?_ ?_ ih)
  · unfold l15_0H
    first | (simp; done) | (simp [Nat.add_assoc]; done)
  · unfold l15_0B
    simp
set_option maxHeartbeats 20000000 in
theorem l15_0_w1 (m n : Nat) (x0 : List (Int × Int)) (s4 : Int) (s5 : Int) (s6 : Int) (s14 : Int) (s15 : Int) (b0 : List Int) (c0 : ¬ decide (s15 < s14) = true) : (turns (hds 15 57464) 0 57464 (evC byref (evCall F S11 (m + 24)) (m + 24) 0 (hds 15) lbl15_0) (n + 1) (l15_0H x0 s4 s5 s6 s14 s15 b0) (l15_0B x0 s4 s5 s6 s14 s15 b0)).run = some (.exit 0, [.top, .top, .top, (.sr 0 0 (List.length b0) 1 none), (.d (.int .i64 s4)), (.d (.int .i64 s5)), (.d (.int .i64 s6)), .top, .top, .top, .top, .top, .top, (.d (.sl (.pair (.int .i64) (.int .i64)) x0)), (.d (.int .i64 s14)), (.d (.int .i64 s15)), (.d (.bool (decide (s15 < s14)))), .top, .top, .top, .top, .top, .top, .top, .top, .top, .top, .top, .top, .top, .top, .top, .top, .top, .top, .top, .top, .top, .top, .top, .top, .top], [(.arr (.int .u8) b0 true)]) := by
  exact turns_last (by simp) (M.run_of_path _ [false] _ _ (by kernel_rfl) (all_f c0 all_nil)) 

set_option maxHeartbeats 20000000 in
theorem l15_0_step (m n : Nat) (ih : ∀ (x0 : List (Int × Int)) (s4 : Int) (s5 : Int) (s6 : Int) (s14 : Int) (s15 : Int) (b0 : List Int) (q : Nat × Int × Int × Int × Int × (List Int)), l15_0 m n x0 s4 s5 s6 s14 s15 b0 = some q → (turns (hds 15 57464) 0 57464 (evC byref (evCall F S11 (m + 24)) (m + 24) 0 (hds 15) lbl15_0) n (l15_0H x0 s4 s5 s6 s14 s15 b0) (l15_0B x0 s4 s5 s6 s14 s15 b0)).run = some (l15_0E (x0) (q.2.1) (q.2.2.1) (q.2.2.2.1) (s14) (q.2.2.2.2.1) (q.2.2.2.2.2) q.1)) (x0 : List (Int × Int)) (s4 : Int) (s5 : Int) (s6 : Int) (s14 : Int) (s15 : Int) (b0 : List Int) (q : Nat × Int × Int × Int × Int × (List Int)) (h : l15_0 m (n + 1) x0 s4 s5 s6 s14 s15 b0 = some q) : (turns (hds 15 57464) 0 57464 (evC byref (evCall F S11 (m + 24)) (m + 24) 0 (hds 15) lbl15_0) (n + 1) (l15_0H x0 s4 s5 s6 s14 s15 b0) (l15_0B x0 s4 s5 s6 s14 s15 b0)).run = some (l15_0E (x0) (q.2.1) (q.2.2.1) (q.2.2.2.1) (s14) (q.2.2.2.2.1) (q.2.2.2.2.2) q.1) := by
  rw [l15_0] at h
  refine ite_cases h (fun c0 h => ?_) (fun c0 h => ?_)
  · skip
    refine ite_cases h (fun c1 h => ?_) (fun c1 h => ?_)
    · skip
      refine ite_cases h (fun c2 h => ?_) (fun c2 h => ?_)
      · skip
        refine ite_cases h (fun c3 h => ?_) (fun c3 h => ?_)
        · skip
          refine ite_cases h (fun c5 h => ?_) (fun c5 h => ?_)
          · skip
            refine ite_cases h (fun c7 h => ?_) (fun c7 h => ?_)
            · skip
              refine ite_cases h (fun c9 h => ?_) (fun c9 h => ?_)
              · skip
                refine ite_cases h (fun c10 h => ?_) (fun c10 h => ?_)
                · skip
                  exact l15_0_w0 m n x0 s4 s5 s6 s14 s15 b0 _ c0 c1 c2 c3 c5 c7 c9 c10 (ih _ _ _ _ _ _ _ q h)
                · skip
                  cases h
              · skip
                cases h
            · skip
              cases h
          · skip
            cases h
        · skip
          cases h
      · skip
        cases h
    · skip
      cases h
  · skip
    cases h
    exact l15_0_w1 m n x0 s4 s5 s6 s14 s15 b0 c0
set_option maxHeartbeats 20000000 in
theorem l15_0_ok (m : Nat) : ∀ (n : Nat) (x0 : List (Int × Int)) (s4 : Int) (s5 : Int) (s6 : Int) (s14 : Int) (s15 : Int) (b0 : List Int) (q : Nat × Int × Int × Int × Int × (List Int)), l15_0 m n x0 s4 s5 s6 s14 s15 b0 = some q → (turns (hds 15 57464) 0 57464 (evC byref (evCall F S11 (m + 24)) (m + 24) 0 (hds 15) lbl15_0) n (l15_0H x0 s4 s5 s6 s14 s15 b0) (l15_0B x0 s4 s5 s6 s14 s15 b0)).run = some (l15_0E (x0) (q.2.1) (q.2.2.1) (q.2.2.2.1) (s14) (q.2.2.2.2.1) (q.2.2.2.2.2) q.1)
  | 0, x0, s4, s5, s6, s14, s15, b0, q, h => by cases h
  | n + 1, x0, s4, s5, s6, s14, s15, b0, q, h => l15_0_step m n (l15_0_ok m n) x0 s4 s5 s6 s14 s15 b0 q h

def p15 (m : Nat) (x0 : List (Int × Int)) : Option ((List Int)) :=
  if inR (((List.length x0) : Nat) : Int) = true then
    if (Option.isSome (l15_0 m (m + 24) x0 0 0 0 ((((List.length x0) : Nat) : Int)) 0 ((numG [(((List.length x0) : Nat) : Int)])))) = true then
      some ((List.take (List.length (l15_0R m (m + 24) x0 0 0 0 ((((List.length x0) : Nat) : Int)) 0 ((numG [(((List.length x0) : Nat) : Int)]))).2.2.2.2.2) (List.drop 0 (l15_0R m (m + 24) x0 0 0 0 ((((List.length x0) : Nat) : Int)) 0 ((numG [(((List.length x0) : Nat) : Int)]))).2.2.2.2.2)))
    else
      none
  else
    none
set_option maxHeartbeats 20000000 in
theorem p15_ok (m : Nat) (x0 : List (Int × Int)) (q : (List Int)) (h : p15 m x0 = some q) : ∃ r B1, (evCall F S11 (m + 25) 15 [(.d (.sl (.pair (.int .i64) (.int .i64)) x0))] []).run = some (r, B1) ∧ 0 ≤ B1.length ∧ wkR B1 [] r (.d (.sl (.int .u8) q)) ∧ wkBs B1 [] 0 [] := by
  unfold p15 at h
  refine ite_cases h (fun c0 h => ?_) (fun c0 h => ?_)
  · skip
    refine ite_cases h (fun c1 h => ?_) (fun c1 h => ?_)
    · skip
      cases h
      refine ⟨(.d (.sl (.int .u8) (List.take (List.length (l15_0R m (m + 24) x0 0 0 0 ((((List.length x0) : Nat) : Int)) 0 ((numG [(((List.length x0) : Nat) : Int)]))).2.2.2.2.2) (List.drop 0 (l15_0R m (m + 24) x0 0 0 0 ((((List.length x0) : Nat) : Int)) 0 ((numG [(((List.length x0) : Nat) : Int)]))).2.2.2.2.2)))), [], runT_ok (LS := (fun k => if k = 57464 then some (l15_0E x0 ((l15_0R m (m + 24) x0 0 0 0 ((((List.length x0) : Nat) : Int)) 0 ((numG [(((List.length x0) : Nat) : Int)]))).2.1) ((l15_0R m (m + 24) x0 0 0 0 ((((List.length x0) : Nat) : Int)) 0 ((numG [(((List.length x0) : Nat) : Int)]))).2.2.1) ((l15_0R m (m + 24) x0 0 0 0 ((((List.length x0) : Nat) : Int)) 0 ((numG [(((List.length x0) : Nat) : Int)]))).2.2.2.1) (((((List.length x0) : Nat) : Int))) ((l15_0R m (m + 24) x0 0 0 0 ((((List.length x0) : Nat) : Int)) 0 ((numG [(((List.length x0) : Nat) : Int)]))).2.2.2.2.1) ((l15_0R m (m + 24) x0 0 0 0 ((((List.length x0) : Nat) : Int)) 0 ((numG [(((List.length x0) : Nat) : Int)]))).2.2.2.2.2) 0) else none)) (fn := fn15) (vis := [(57464, l15_0H x0 0 0 0 ((((List.length x0) : Nat) : Int)) 0 ((numG [(((List.length x0) : Nat) : Int)])), l15_0B x0 0 0 0 ((((List.length x0) : Nat) : Int)) 0 ((numG [(((List.length x0) : Nat) : Int)])))]) (by kernel_rfl) rfl (by kernel_rfl) (M.run_of_path _ [true, true] _ _ (by kernel_rfl) (all_t c0 (all_t (show decide ((0 + (List.length (l15_0R m (m + 24) x0 0 0 0 ((((List.length x0) : Nat) : Int)) 0 ((numG [(((List.length x0) : Nat) : Int)]))).2.2.2.2.2)) ≤ (List.length (l15_0R m (m + 24) x0 0 0 0 ((((List.length x0) : Nat) : Int)) 0 ((numG [(((List.length x0) : Nat) : Int)]))).2.2.2.2.2)) = true from decide_eq_true (Nat.le_of_eq (Nat.zero_add _))) all_nil))) ?_, by simp, (wkR.one (wkV.one (wk1.eq rfl))), trivial⟩
      intro p hp p2 hq
      rcases List.mem_cons.1 hp with rfl | hp
      · skip
        have h3 := l15_0_ok m (m + 24) x0 0 0 0 ((((List.length x0) : Nat) : Int)) 0 ((numG [(((List.length x0) : Nat) : Int)])) _ (some_getD (d := l15_0D) c1)
        exact Eq.trans (Eq.mp (by kernel_rfl) h3) hq
      cases hp
    · skip
      cases h
  · skip
    cases h

theorem block_loop (m : Nat) (l : SL) (hl : l.length ≤ 1000000) : ∀ (n k : Nat) (t s v : Int) (b : List Int), k ≤ l.length → l.length - k < n → b.length ≤ 10 + 20 * k → ∃ t' s' v' j, l15_0 m n l t s v (l.length : Nat) (k : Nat) b = some (0, t', s', v', j, b ++ putR t v s (l.drop k))
  | 0, k, t, s, v, b, _, h, _ => by omega
  | n + 1, k, t, s, v, b, h1, h2, h3 => by
    rw [l15_0]
    by_cases hk : k < l.length
    · have e1 : decide (((k : Nat) : Int) < (((List.length l) : Nat) : Int)) = true := decide_eq_true (by omega)
      have e2 : decide ((0 : Int) ≤ ((k : Nat) : Int)) = true := decide_eq_true (by omega)
      have e7 : IntKind.wrap .i64 (((k : Nat) : Int) + (1)) = ((k + 1 : Nat) : Int) := by rw [wrap_id (by omega) (by omega)]; rfl
      rw [drop_getD l k (0, 0) hk, show Int.toNat ((k : Nat) : Int) = k from rfl, e7, if_pos e1, if_pos e2, if_pos e1]
      generalize l.getD k (0, 0) = x
      rw [if_pos (inR_wrap _), if_pos (inR_wrap _)]
      have n1 := (numG_len [IntKind.wrap .i64 (IntKind.wrap .i64 (x.1 - t) - s)] (by simp [inR_wrap])).2
      have n2 := (numG_len [IntKind.wrap .i64 (x.2 - v)] (by simp [inR_wrap])).2
      simp only [List.length_singleton] at n1 n2
      have ej : putR t v s (x :: l.drop (k + 1)) = (numG [IntKind.wrap .i64 (IntKind.wrap .i64 (x.1 - t) - s)] ++ numG [IntKind.wrap .i64 (x.2 - v)]) ++ putR x.1 x.2 (IntKind.wrap .i64 (x.1 - t)) (l.drop (k + 1)) := by
        simp [putR, numG]
      rw [ej]
      generalize numG [IntKind.wrap .i64 (IntKind.wrap .i64 (x.1 - t) - s)] = A at *
      generalize numG [IntKind.wrap .i64 (x.2 - v)] = C at *
      have a1 : List.take A.length (List.drop 0 A) = A := by rw [List.drop_zero, List.take_length]
      have a2 : List.take C.length (List.drop 0 C) = C := by rw [List.drop_zero, List.take_length]
      rw [a1, a2]
      have e3 : decide (((List.length b) + (List.length A)) * 1 ≤ 70368744177664) = true := decide_eq_true (by omega)
      have e4 : decide ((((List.length b) + (List.length A)) + (List.length C)) * 1 ≤ 70368744177664) = true := decide_eq_true (by omega)
      have e5 : decide (((List.length b) + (List.length A)) = (List.length (b ++ A))) = true := decide_eq_true (by rw [List.length_append])
      rw [if_pos e3, if_pos e4, if_pos e5]
      obtain ⟨t', s', v', j, hr⟩ := block_loop m l hl n (k + 1) x.1 (IntKind.wrap .i64 (x.1 - t)) x.2 ((b ++ A) ++ C) (by omega) (by omega) (by simp only [List.length_append]; omega)
      exact ⟨t', s', v', j, by rw [hr]; simp⟩
    · have e1 : decide (((k : Nat) : Int) < (((List.length l) : Nat) : Int)) = false := decide_eq_false (by omega)
      rw [e1, if_neg (by simp), List.drop_eq_nil_of_le (by omega)]
      exact ⟨t, s, v, ((k : Nat) : Int), by simp [putR]⟩
theorem block15 (l : SL) (h : decide (List.length l ≤ 1000000) = true) : ∃ m, p15 m l = some (blockG l) := by
  have h := of_decide_eq_true h
  refine ⟨l.length, ?_⟩
  have hn := (numG_len [((l.length : Nat) : Int)] (by simpa using inR_len l h)).2
  obtain ⟨t', s', v', j, hr⟩ := block_loop l.length l h (l.length + 24) 0 0 0 0 (numG [((l.length : Nat) : Int)]) (by omega) (by omega) (by simpa using hn)
  simp only [Int.natCast_zero, List.drop_zero] at hr
  unfold p15 blockG
  rw [if_pos (inR_len l h)]
  simp only [l15_0R, hr, Option.isSome_some, Option.getD_some, ↓reduceIte]
  rw [List.drop_zero, List.take_length]
def s15 : List AV → Boxes → M (AV × Boxes) := normS [.val (.sl (.pair (.int .i64) (.int .i64)))] [] fun xs B => match xs, B with
  | [(.d (.sl (.pair (.int .i64) (.int .i64)) c1))], [] => .chk (decide (List.length c1 ≤ 1000000)) (.ret ((.d (.sl (.int .u8) (blockG c1))), []))
  | _, _ => .fail
theorem s15_at : CallAt Try.prog 15 s15 := by
  refine CallAt.norm (CallAt.weakE (g := fun n => evCall F S11 n 15) (fun n => evCall_atH mixed kinds hds S11 S11_ok n 15) fun xs B r' B' hr => ?_) _ _
  split at hr
  · rename_i c1
    obtain ⟨hp, hr⟩ := (M.run_chk _ _ _).1 hr
    simp only [M.run, Option.some.injEq, Prod.mk.injEq] at hr
    obtain ⟨rfl, rfl⟩ := hr
    obtain ⟨m, hm⟩ := block15 c1 hp
    obtain ⟨r, B1, h1, h2, h3, h4⟩ := p15_ok m c1 _ hm
    exact ⟨m + 25, r, B1, h1, by simp, h2, h3, h4⟩
  · simp [M.run] at hr
noncomputable def S12 : FuncId → Option (List AV → Boxes → M (AV × Boxes)) := fun f => if f = 15 then some s15 else S11 f
set_option maxHeartbeats 20000000 in
theorem S12_ok : ∀ f s, S12 f = some s → CallAt Try.prog f s := by
  intro f s h
  unfold S12 at h
  split at h
  · rename_i e; subst e; cases h; exact s15_at
  · exact S11_ok f s h

end Go.Proofs.Ytghkbjflejgieaa.Dec
namespace Go.Proofs.Ytghkbjflejgieaa.Dec
open Go.Ev
set_option linter.unusedVariables false
set_option linter.unusedSimpArgs false
set_option maxRecDepth 100000
noncomputable def fn23 : AFn := (F 23).getD ⟨0, [], .bad, false, false, noHd⟩
noncomputable def body23 : AC := fn23.body
def l23_0 (m : Nat) : Nat → List Int → Int → Int → Int → List (Int × Int) → Int × Int → Option (Nat × (List Int) × Int × Int × (List (Int × Int)) × (Int × Int))
  | 0, _, _, _, _, _, _ => none
  | n + 1, s0, s8, s31, s32, b0, b1 => if decide (s32 < s31) = true then
      if bytesOK s0 = true then
        if (decide (0 ≤ (nextG s0).2) && decide ((nextG s0).2 ≤ (((List.length s0) : Nat) : Int))) = true then
          if bytesOK (List.drop (Int.toNat (nextG s0).2) (List.take (List.length s0) s0)) = true then
            if ((nextG s0).2 == (0)) = true then
              some (0, s0, s8, s32, b0, b1)
            else
              if ((nextG (List.drop (Int.toNat (nextG s0).2) (List.take (List.length s0) s0))).2 == (0)) = true then
                some (1, s0, s8, s32, b0, b1)
              else
                if (decide (0 ≤ (IntKind.wrap .i64 ((nextG s0).2 + (nextG (List.drop (Int.toNat (nextG s0).2) (List.take (List.length s0) s0))).2))) && decide ((IntKind.wrap .i64 ((nextG s0).2 + (nextG (List.drop (Int.toNat (nextG s0).2) (List.take (List.length s0) s0))).2)) ≤ (((List.length s0) : Nat) : Int))) = true then
                  if decide ((((List.length b0) + 1) * 16) ≤ 70368744177664) = true then
                    l23_0 m n ((List.drop (Int.toNat (IntKind.wrap .i64 ((nextG s0).2 + (nextG (List.drop (Int.toNat (nextG s0).2) (List.take (List.length s0) s0))).2))) (List.take (List.length s0) s0))) ((IntKind.wrap .i64 (s8 + (nextG s0).1))) s31 ((IntKind.wrap .i64 (s32 + (1)))) ((b0 ++ [((IntKind.wrap .i64 (b1.1 + (IntKind.wrap .i64 (s8 + (nextG s0).1)))), (IntKind.wrap .i64 (b1.2 + (nextG (List.drop (Int.toNat (nextG s0).2) (List.take (List.length s0) s0))).1)))])) (((IntKind.wrap .i64 (b1.1 + (IntKind.wrap .i64 (s8 + (nextG s0).1)))), (IntKind.wrap .i64 (b1.2 + (nextG (List.drop (Int.toNat (nextG s0).2) (List.take (List.length s0) s0))).1))))
                  else
                    none
                else
                  none
          else
            none
        else
          none
      else
        none
    else
      some (2, s0, s8, s32, b0, b1)
def l23_0D : Nat × (List Int) × Int × Int × (List (Int × Int)) × (Int × Int) := (0, [], 0, 0, [], (0, 0))
@[reducible] def l23_0R (m n : Nat) (s0 : List Int) (s8 : Int) (s31 : Int) (s32 : Int) (b0 : List (Int × Int)) (b1 : Int × Int) : Nat × (List Int) × Int × Int × (List (Int × Int)) × (Int × Int) := Option.getD (l23_0 m n s0 s8 s31 s32 b0 b1) l23_0D
def l23_0H (s0 : List Int) (s8 : Int) (s31 : Int) (s32 : Int) (b0 : List (Int × Int)) (b1 : Int × Int) : Env := [(.d (.sl (.int .u8) s0)), .top, .top, .top, .top, .top, (.sr 0 0 (List.length b0) 2 none), (.ptr 1 0), (.d (.int .i64 s8)), .top, .top, .top, .top, .top, .top, .top, .top, .top, .top, .top, .top, .top, .top, .top, .top, .top, .top, .top, .top, .top, .top, (.d (.int .i64 s31)), (.d (.int .i64 s32)), .top, .top, .top, .top, .top, .top, .top, .top, .top, .top, .top, .top, .top, .top, .top, .top, .top, .top, .top, .top, .top, .top, .top, .top, .top, .top, .top, .top, .top, .top, .top, .top, .top, .top, .top, .top, .top, .top, .top, .top, .top, .top]
def l23_0B (s0 : List Int) (s8 : Int) (s31 : Int) (s32 : Int) (b0 : List (Int × Int)) (b1 : Int × Int) : Boxes := [(.arr (.pair (.int .i64) (.int .i64)) b0 true), (.cells [(.d (.int .i64 b1.1)), (.d (.int .i64 b1.2))])]
def l23_0E (s0 : List Int) (s8 : Int) (s31 : Int) (s32 : Int) (b0 : List (Int × Int)) (b1 : Int × Int) : Nat → AEx × Env × Boxes
  | 0 => (.ret, [(.d (.sl (.int .u8) s0)), .top, (.sr 2 0 0 2 none), (.d (.bool false)), .top, .top, (.sr 0 0 (List.length b0) 2 none), (.ptr 1 0), (.d (.int .i64 s8)), (.d (.int .i64 (nextG s0).1)), (.d (.int .i64 (nextG s0).2)), (.d (.int .i64 (nextG (List.drop (Int.toNat (nextG s0).2) (List.take (List.length s0) s0))).1)), (.d (.int .i64 (nextG (List.drop (Int.toNat (nextG s0).2) (List.take (List.length s0) s0))).2)), .top, .top, .top, .top, .top, .top, .top, .top, .top, .top, .top, .top, .top, .top, .top, .top, .top, .top, (.d (.int .i64 s31)), (.d (.int .i64 s32)), (.d (.bool (decide (s32 < s31)))), (.tup [(.d (.int .i64 (nextG s0).1)), (.d (.int .i64 (nextG s0).2))]), (.d (.sl (.int .u8) s0)), (.tup [(.d (.int .i64 (nextG s0).1)), (.d (.int .i64 (nextG s0).2))]), (.d (.int .i64 (nextG s0).1)), (.d (.int .i64 (nextG s0).2)), (.tup [(.d (.int .i64 (nextG (List.drop (Int.toNat (nextG s0).2) (List.take (List.length s0) s0))).1)), (.d (.int .i64 (nextG (List.drop (Int.toNat (nextG s0).2) (List.take (List.length s0) s0))).2))]), (.d (.sl (.int .u8) s0)), (.d (.int .i64 (nextG s0).2)), (.d (.sl (.int .u8) (List.drop (Int.toNat (nextG s0).2) (List.take (List.length s0) s0)))), (.tup [(.d (.int .i64 (nextG (List.drop (Int.toNat (nextG s0).2) (List.take (List.length s0) s0))).1)), (.d (.int .i64 (nextG (List.drop (Int.toNat (nextG s0).2) (List.take (List.length s0) s0))).2))]), (.d (.int .i64 (nextG (List.drop (Int.toNat (nextG s0).2) (List.take (List.length s0) s0))).1)), (.d (.int .i64 (nextG (List.drop (Int.toNat (nextG s0).2) (List.take (List.length s0) s0))).2)), (.d (.int .i64 (nextG s0).2)), (.d (.bool ((nextG s0).2 == (0)))), (.d (.bool ((nextG s0).2 == (0)))), (.tup []), (.tup []), (.d (.bool true)), .top, .top, .top, .top, .top, .top, .top, .top, .top, .top, .top, .top, .top, .top, .top, .top, .top, .top, .top, .top, .top, .top, .top], [(.arr (.pair (.int .i64) (.int .i64)) b0 true), (.cells [(.d (.int .i64 b1.1)), (.d (.int .i64 b1.2))]), (.arr (.pair (.int .i64) (.int .i64)) ([] : List (Int × Int)) true)])
  | 1 => (.ret, [(.d (.sl (.int .u8) s0)), .top, (.sr 2 0 0 2 none), (.d (.bool false)), .top, .top, (.sr 0 0 (List.length b0) 2 none), (.ptr 1 0), (.d (.int .i64 s8)), (.d (.int .i64 (nextG s0).1)), (.d (.int .i64 (nextG s0).2)), (.d (.int .i64 (nextG (List.drop (Int.toNat (nextG s0).2) (List.take (List.length s0) s0))).1)), (.d (.int .i64 (nextG (List.drop (Int.toNat (nextG s0).2) (List.take (List.length s0) s0))).2)), .top, .top, .top, .top, .top, .top, .top, .top, .top, .top, .top, .top, .top, .top, .top, .top, .top, .top, (.d (.int .i64 s31)), (.d (.int .i64 s32)), (.d (.bool (decide (s32 < s31)))), (.tup [(.d (.int .i64 (nextG s0).1)), (.d (.int .i64 (nextG s0).2))]), (.d (.sl (.int .u8) s0)), (.tup [(.d (.int .i64 (nextG s0).1)), (.d (.int .i64 (nextG s0).2))]), (.d (.int .i64 (nextG s0).1)), (.d (.int .i64 (nextG s0).2)), (.tup [(.d (.int .i64 (nextG (List.drop (Int.toNat (nextG s0).2) (List.take (List.length s0) s0))).1)), (.d (.int .i64 (nextG (List.drop (Int.toNat (nextG s0).2) (List.take (List.length s0) s0))).2))]), (.d (.sl (.int .u8) s0)), (.d (.int .i64 (nextG s0).2)), (.d (.sl (.int .u8) (List.drop (Int.toNat (nextG s0).2) (List.take (List.length s0) s0)))), (.tup [(.d (.int .i64 (nextG (List.drop (Int.toNat (nextG s0).2) (List.take (List.length s0) s0))).1)), (.d (.int .i64 (nextG (List.drop (Int.toNat (nextG s0).2) (List.take (List.length s0) s0))).2))]), (.d (.int .i64 (nextG (List.drop (Int.toNat (nextG s0).2) (List.take (List.length s0) s0))).1)), (.d (.int .i64 (nextG (List.drop (Int.toNat (nextG s0).2) (List.take (List.length s0) s0))).2)), (.d (.int .i64 (nextG s0).2)), (.d (.bool ((nextG s0).2 == (0)))), (.d (.bool ((nextG s0).2 == (0)))), (.d (.int .i64 (nextG (List.drop (Int.toNat (nextG s0).2) (List.take (List.length s0) s0))).2)), (.d (.bool ((nextG (List.drop (Int.toNat (nextG s0).2) (List.take (List.length s0) s0))).2 == (0)))), (.d (.bool ((nextG (List.drop (Int.toNat (nextG s0).2) (List.take (List.length s0) s0))).2 == (0)))), .top, .top, .top, .top, .top, .top, .top, .top, .top, .top, .top, .top, .top, .top, .top, .top, .top, .top, .top, .top, .top, .top, .top], [(.arr (.pair (.int .i64) (.int .i64)) b0 true), (.cells [(.d (.int .i64 b1.1)), (.d (.int .i64 b1.2))]), (.arr (.pair (.int .i64) (.int .i64)) ([] : List (Int × Int)) true)])
  | _ => (.exit 0, [(.d (.sl (.int .u8) s0)), .top, .top, .top, .top, .top, (.sr 0 0 (List.length b0) 2 none), (.ptr 1 0), (.d (.int .i64 s8)), .top, .top, .top, .top, .top, .top, .top, .top, .top, .top, .top, .top, .top, .top, .top, .top, .top, .top, .top, .top, .top, .top, (.d (.int .i64 s31)), (.d (.int .i64 s32)), (.d (.bool (decide (s32 < s31)))), .top, .top, .top, .top, .top, .top, .top, .top, .top, .top, .top, .top, .top, .top, .top, .top, .top, .top, .top, .top, .top, .top, .top, .top, .top, .top, .top, .top, .top, .top, .top, .top, .top, .top, .top, .top, .top, .top, .top, .top, .top], [(.arr (.pair (.int .i64) (.int .i64)) b0 true), (.cells [(.d (.int .i64 b1.1)), (.d (.int .i64 b1.2))])])
noncomputable def lbl23_0 : AC := loopBody 6442451393 body23

set_option maxHeartbeats 20000000 in
theorem l23_0_w0 (m n : Nat) (s0 : List Int) (s8 : Int) (s31 : Int) (s32 : Int) (b0 : List (Int × Int)) (b1 : Int × Int) (c0 : decide (s32 < s31) = true) (c1 : bytesOK s0 = true) (c2 : (decide (0 ≤ (nextG s0).2) && decide ((nextG s0).2 ≤ (((List.length s0) : Nat) : Int))) = true) (c3 : bytesOK (List.drop (Int.toNat (nextG s0).2) (List.take (List.length s0) s0)) = true) (c4 : ((nextG s0).2 == (0)) = true) : (turns (hds 23 6442451393) 0 6442451393 (evC byref (evCall F S12 (m + 24)) (m + 24) 0 (hds 23) lbl23_0) (n + 1) (l23_0H s0 s8 s31 s32 b0 b1) (l23_0B s0 s8 s31 s32 b0 b1)).run = some (let r1 := (nextG (List.drop (Int.toNat (nextG s0).2) (List.take (List.length s0) s0))); (.ret, [(.d (.sl (.int .u8) s0)), .top, (.sr 2 0 0 2 none), (.d (.bool false)), .top, .top, (.sr 0 0 (List.length b0) 2 none), (.ptr 1 0), (.d (.int .i64 s8)), (.d (.int .i64 (nextG s0).1)), (.d (.int .i64 (nextG s0).2)), (.d (.int .i64 r1.1)), (.d (.int .i64 r1.2)), .top, .top, .top, .top, .top, .top, .top, .top, .top, .top, .top, .top, .top, .top, .top, .top, .top, .top, (.d (.int .i64 s31)), (.d (.int .i64 s32)), (.d (.bool (decide (s32 < s31)))), (.tup [(.d (.int .i64 (nextG s0).1)), (.d (.int .i64 (nextG s0).2))]), (.d (.sl (.int .u8) s0)), (.tup [(.d (.int .i64 (nextG s0).1)), (.d (.int .i64 (nextG s0).2))]), (.d (.int .i64 (nextG s0).1)), (.d (.int .i64 (nextG s0).2)), (.tup [(.d (.int .i64 r1.1)), (.d (.int .i64 r1.2))]), (.d (.sl (.int .u8) s0)), (.d (.int .i64 (nextG s0).2)), (.d (.sl (.int .u8) (List.drop (Int.toNat (nextG s0).2) (List.take (List.length s0) s0)))), (.tup [(.d (.int .i64 r1.1)), (.d (.int .i64 r1.2))]), (.d (.int .i64 r1.1)), (.d (.int .i64 r1.2)), (.d (.int .i64 (nextG s0).2)), (.d (.bool ((nextG s0).2 == (0)))), (.d (.bool ((nextG s0).2 == (0)))), (.tup []), (.tup []), (.d (.bool true)), .top, .top, .top, .top, .top, .top, .top, .top, .top, .top, .top, .top, .top, .top, .top, .top, .top, .top, .top, .top, .top, .top, .top], [(.arr (.pair (.int .i64) (.int .i64)) b0 true), (.cells [(.d (.int .i64 b1.1)), (.d (.int .i64 b1.2))]), (.arr (.pair (.int .i64) (.int .i64)) ([] : List (Int × Int)) true)])) := by
  exact turns_last (by simp) (M.run_of_path _ [true, true, true, true, true, true, true, true] _ _ (by kernel_rfl) (all_t c0 (all_t c1 (all_t c2 (all_t c3 (all_t c4 (all_t c4 (all_t c4 (all_t rfl all_nil))))))))) 
set_option maxHeartbeats 20000000 in
theorem l23_0_w1 (m n : Nat) (s0 : List Int) (s8 : Int) (s31 : Int) (s32 : Int) (b0 : List (Int × Int)) (b1 : Int × Int) (c0 : decide (s32 < s31) = true) (c1 : bytesOK s0 = true) (c2 : (decide (0 ≤ (nextG s0).2) && decide ((nextG s0).2 ≤ (((List.length s0) : Nat) : Int))) = true) (c3 : bytesOK (List.drop (Int.toNat (nextG s0).2) (List.take (List.length s0) s0)) = true) (c4 : ¬ ((nextG s0).2 == (0)) = true) (c7 : ((nextG (List.drop (Int.toNat (nextG s0).2) (List.take (List.length s0) s0))).2 == (0)) = true) : (turns (hds 23 6442451393) 0 6442451393 (evC byref (evCall F S12 (m + 24)) (m + 24) 0 (hds 23) lbl23_0) (n + 1) (l23_0H s0 s8 s31 s32 b0 b1) (l23_0B s0 s8 s31 s32 b0 b1)).run = some (let r1 := (nextG (List.drop (Int.toNat (nextG s0).2) (List.take (List.length s0) s0))); (.ret, [(.d (.sl (.int .u8) s0)), .top, (.sr 2 0 0 2 none), (.d (.bool false)), .top, .top, (.sr 0 0 (List.length b0) 2 none), (.ptr 1 0), (.d (.int .i64 s8)), (.d (.int .i64 (nextG s0).1)), (.d (.int .i64 (nextG s0).2)), (.d (.int .i64 r1.1)), (.d (.int .i64 r1.2)), .top, .top, .top, .top, .top, .top, .top, .top, .top, .top, .top, .top, .top, .top, .top, .top, .top, .top, (.d (.int .i64 s31)), (.d (.int .i64 s32)), (.d (.bool (decide (s32 < s31)))), (.tup [(.d (.int .i64 (nextG s0).1)), (.d (.int .i64 (nextG s0).2))]), (.d (.sl (.int .u8) s0)), (.tup [(.d (.int .i64 (nextG s0).1)), (.d (.int .i64 (nextG s0).2))]), (.d (.int .i64 (nextG s0).1)), (.d (.int .i64 (nextG s0).2)), (.tup [(.d (.int .i64 r1.1)), (.d (.int .i64 r1.2))]), (.d (.sl (.int .u8) s0)), (.d (.int .i64 (nextG s0).2)), (.d (.sl (.int .u8) (List.drop (Int.toNat (nextG s0).2) (List.take (List.length s0) s0)))), (.tup [(.d (.int .i64 r1.1)), (.d (.int .i64 r1.2))]), (.d (.int .i64 r1.1)), (.d (.int .i64 r1.2)), (.d (.int .i64 (nextG s0).2)), (.d (.bool ((nextG s0).2 == (0)))), (.d (.bool ((nextG s0).2 == (0)))), (.d (.int .i64 r1.2)), (.d (.bool (r1.2 == (0)))), (.d (.bool (r1.2 == (0)))), .top, .top, .top, .top, .top, .top, .top, .top, .top, .top, .top, .top, .top, .top, .top, .top, .top, .top, .top, .top, .top, .top, .top], [(.arr (.pair (.int .i64) (.int .i64)) b0 true), (.cells [(.d (.int .i64 b1.1)), (.d (.int .i64 b1.2))]), (.arr (.pair (.int .i64) (.int .i64)) ([] : List (Int × Int)) true)])) := by
  exact turns_last (by simp) (M.run_of_path _ [true, true, true, true, false, false, false, true] _ _ (by kernel_rfl) (all_t c0 (all_t c1 (all_t c2 (all_t c3 (all_f c4 (all_f c4 (all_f c4 (all_t c7 all_nil))))))))) 
set_option maxHeartbeats 20000000 in
theorem l23_0_w2 (m n : Nat) (s0 : List Int) (s8 : Int) (s31 : Int) (s32 : Int) (b0 : List (Int × Int)) (b1 : Int × Int) (r : AEx × Env × Boxes) (c0 : decide (s32 < s31) = true) (c1 : bytesOK s0 = true) (c2 : (decide (0 ≤ (nextG s0).2) && decide ((nextG s0).2 ≤ (((List.length s0) : Nat) : Int))) = true) (c3 : bytesOK (List.drop (Int.toNat (nextG s0).2) (List.take (List.length s0) s0)) = true) (c4 : ¬ ((nextG s0).2 == (0)) = true) (c7 : ¬ ((nextG (List.drop (Int.toNat (nextG s0).2) (List.take (List.length s0) s0))).2 == (0)) = true) (c8 : (decide (0 ≤ (IntKind.wrap .i64 ((nextG s0).2 + (nextG (List.drop (Int.toNat (nextG s0).2) (List.take (List.length s0) s0))).2))) && decide ((IntKind.wrap .i64 ((nextG s0).2 + (nextG (List.drop (Int.toNat (nextG s0).2) (List.take (List.length s0) s0))).2)) ≤ (((List.length s0) : Nat) : Int))) = true) (c10 : decide ((((List.length b0) + 1) * 16) ≤ 70368744177664) = true) (ih : (turns (hds 23 6442451393) 0 6442451393 (evC byref (evCall F S12 (m + 24)) (m + 24) 0 (hds 23) lbl23_0) n (l23_0H ((List.drop (Int.toNat (IntKind.wrap .i64 ((nextG s0).2 + (nextG (List.drop (Int.toNat (nextG s0).2) (List.take (List.length s0) s0))).2))) (List.take (List.length s0) s0))) ((IntKind.wrap .i64 (s8 + (nextG s0).1))) s31 ((IntKind.wrap .i64 (s32 + (1)))) ((b0 ++ [((IntKind.wrap .i64 (b1.1 + (IntKind.wrap .i64 (s8 + (nextG s0).1)))), (IntKind.wrap .i64 (b1.2 + (nextG (List.drop (Int.toNat (nextG s0).2) (List.take (List.length s0) s0))).1)))])) (((IntKind.wrap .i64 (b1.1 + (IntKind.wrap .i64 (s8 + (nextG s0).1)))), (IntKind.wrap .i64 (b1.2 + (nextG (List.drop (Int.toNat (nextG s0).2) (List.take (List.length s0) s0))).1))))) (l23_0B ((List.drop (Int.toNat (IntKind.wrap .i64 ((nextG s0).2 + (nextG (List.drop (Int.toNat (nextG s0).2) (List.take (List.length s0) s0))).2))) (List.take (List.length s0) s0))) ((IntKind.wrap .i64 (s8 + (nextG s0).1))) s31 ((IntKind.wrap .i64 (s32 + (1)))) ((b0 ++ [((IntKind.wrap .i64 (b1.1 + (IntKind.wrap .i64 (s8 + (nextG s0).1)))), (IntKind.wrap .i64 (b1.2 + (nextG (List.drop (Int.toNat (nextG s0).2) (List.take (List.length s0) s0))).1)))])) (((IntKind.wrap .i64 (b1.1 + (IntKind.wrap .i64 (s8 + (nextG s0).1)))), (IntKind.wrap .i64 (b1.2 + (nextG (List.drop (Int.toNat (nextG s0).2) (List.take (List.length s0) s0))).1)))))).run = some r) : (turns (hds 23 6442451393) 0 6442451393 (evC byref (evCall F S12 (m + 24)) (m + 24) 0 (hds 23) lbl23_0) (n + 1) (l23_0H s0 s8 s31 s32 b0 b1) (l23_0B s0 s8 s31 s32 b0 b1)).run = some r := by
  have ht : (turn (hds 23 6442451393) 0 6442451393 (evC byref (evCall F S12 (m + 24)) (m + 24) 0 (hds 23) lbl23_0) (l23_0H s0 s8 s31 s32 b0 b1) (l23_0B s0 s8 s31 s32 b0 b1)).run = some (let r1 := (nextG (List.drop (Int.toNat (nextG s0).2) (List.take (List.length s0) s0))); (.normal, [(.d (.sl (.int .u8) (List.drop (Int.toNat (IntKind.wrap .i64 ((nextG s0).2 + r1.2))) (List.take (List.length s0) s0)))), .top, .top, .top, .top, .top, (.sr 0 0 ((List.length b0) + 1) 2 none), (.ptr 1 0), (.d (.int .i64 (IntKind.wrap .i64 (s8 + (nextG s0).1)))), .top, .top, .top, .top, .top, .top, .top, .top, .top, .top, .top, .top, .top, .top, .top, .top, .top, .top, .top, .top, .top, .top, (.d (.int .i64 s31)), (.d (.int .i64 (IntKind.wrap .i64 (s32 + (1))))), .top, .top, .top, .top, .top, .top, .top, .top, .top, .top, .top, .top, .top, .top, .top, .top, .top, .top, .top, .top, .top, .top, .top, .top, .top, .top, .top, .top, .top, .top, .top, .top, .top, .top, .top, .top, .top, .top, .top, .top, .top, .top], [(.arr (.pair (.int .i64) (.int .i64)) (b0 ++ [((IntKind.wrap .i64 (b1.1 + (IntKind.wrap .i64 (s8 + (nextG s0).1)))), (IntKind.wrap .i64 (b1.2 + r1.1)))]) true), (.cells [(.d (.int .i64 (IntKind.wrap .i64 (b1.1 + (IntKind.wrap .i64 (s8 + (nextG s0).1)))))), (.d (.int .i64 (IntKind.wrap .i64 (b1.2 + r1.1))))])])) := M.run_of_path _ [true, true, true, true, false, false, false, false, true, true, true, true] _ _ (by kernel_rfl) (all_t c0 (all_t c1 (all_t c2 (all_t c3 (all_f c4 (all_f c4 (all_f c4 (all_f c7 (all_t c8 (all_t rfl (all_t c10 (all_t (show decide ((List.length b0) = (List.length b0)) = true from decide_eq_true rfl) all_nil))))))))))))
  refine turns_step ht (turns_eq ?_ ?_ ih)
  · unfold l23_0H
    first | (simp; done) | (simp [Nat.add_assoc]; done)
  · unfold l23_0B
    simp
set_option maxHeartbeats 20000000 in
theorem l23_0_w3 (m n : Nat) (s0 : List Int) (s8 : Int) (s31 : Int) (s32 : Int) (b0 : List (Int × Int)) (b1 : Int × Int) (c0 : ¬ decide (s32 < s31) = true) : (turns (hds 23 6442451393) 0 6442451393 (evC byref (evCall F S12 (m + 24)) (m + 24) 0 (hds 23) lbl23_0) (n + 1) (l23_0H s0 s8 s31 s32 b0 b1) (l23_0B s0 s8 s31 s32 b0 b1)).run = some (.exit 0, [(.d (.sl (.int .u8) s0)), .top, .top, .top, .top, .top, (.sr 0 0 (List.length b0) 2 none), (.ptr 1 0), (.d (.int .i64 s8)), .top, .top, .top, .top, .top, .top, .top, .top, .top, .top, .top, .top, .top, .top, .top, .top, .top, .top, .top, .top, .top, .top, (.d (.int .i64 s31)), (.d (.int .i64 s32)), (.d (.bool (decide (s32 < s31)))), .top, .top, .top, .top, .top, .top, .top, .top, .top, .top, .top, .top, .top, .top, .top, .top, .top, .top, .top, .top, .top, .top, .top, .top, .top, .top, .top, .top, .top, .top, .top, .top, .top, .top, .top, .top, .top, .top, .top, .top, .top], [(.arr (.pair (.int .i64) (.int .i64)) b0 true), (.cells [(.d (.int .i64 b1.1)), (.d (.int .i64 b1.2))])]) := by
  exact turns_last (by simp) (M.run_of_path _ [false] _ _ (by kernel_rfl) (all_f c0 all_nil)) 

set_option maxHeartbeats 20000000 in
theorem l23_0_step (m n : Nat) (ih : ∀ (s0 : List Int) (s8 : Int) (s31 : Int) (s32 : Int) (b0 : List (Int × Int)) (b1 : Int × Int) (q : Nat × (List Int) × Int × Int × (List (Int × Int)) × (Int × Int)), l23_0 m n s0 s8 s31 s32 b0 b1 = some q → (turns (hds 23 6442451393) 0 6442451393 (evC byref (evCall F S12 (m + 24)) (m + 24) 0 (hds 23) lbl23_0) n (l23_0H s0 s8 s31 s32 b0 b1) (l23_0B s0 s8 s31 s32 b0 b1)).run = some (l23_0E (q.2.1) (q.2.2.1) (s31) (q.2.2.2.1) (q.2.2.2.2.1) (q.2.2.2.2.2) q.1)) (s0 : List Int) (s8 : Int) (s31 : Int) (s32 : Int) (b0 : List (Int × Int)) (b1 : Int × Int) (q : Nat × (List Int) × Int × Int × (List (Int × Int)) × (Int × Int)) (h : l23_0 m (n + 1) s0 s8 s31 s32 b0 b1 = some q) : (turns (hds 23 6442451393) 0 6442451393 (evC byref (evCall F S12 (m + 24)) (m + 24) 0 (hds 23) lbl23_0) (n + 1) (l23_0H s0 s8 s31 s32 b0 b1) (l23_0B s0 s8 s31 s32 b0 b1)).run = some (l23_0E (q.2.1) (q.2.2.1) (s31) (q.2.2.2.1) (q.2.2.2.2.1) (q.2.2.2.2.2) q.1) := by
  rw [l23_0] at h
  refine ite_cases h (fun c0 h => ?_) (fun c0 h => ?_)
  · skip
    refine ite_cases h (fun c1 h => ?_) (fun c1 h => ?_)
    · skip
      refine ite_cases h (fun c2 h => ?_) (fun c2 h => ?_)
      · skip
        refine ite_cases h (fun c3 h => ?_) (fun c3 h => ?_)
        · skip
          refine ite_cases h (fun c4 h => ?_) (fun c4 h => ?_)
          · skip
            cases h
            exact l23_0_w0 m n s0 s8 s31 s32 b0 b1 c0 c1 c2 c3 c4
          · skip
            refine ite_cases h (fun c7 h => ?_) (fun c7 h => ?_)
            · skip
              cases h
              exact l23_0_w1 m n s0 s8 s31 s32 b0 b1 c0 c1 c2 c3 c4 c7
            · skip
              refine ite_cases h (fun c8 h => ?_) (fun c8 h => ?_)
              · skip
                refine ite_cases h (fun c10 h => ?_) (fun c10 h => ?_)
                · skip
                  exact l23_0_w2 m n s0 s8 s31 s32 b0 b1 _ c0 c1 c2 c3 c4 c7 c8 c10 (ih _ _ _ _ _ _ q h)
                · skip
                  cases h
              · skip
                cases h
        · skip
          cases h
      · skip
        cases h
    · skip
      cases h
  · skip
    cases h
    exact l23_0_w3 m n s0 s8 s31 s32 b0 b1 c0
set_option maxHeartbeats 20000000 in
theorem l23_0_ok (m : Nat) : ∀ (n : Nat) (s0 : List Int) (s8 : Int) (s31 : Int) (s32 : Int) (b0 : List (Int × Int)) (b1 : Int × Int) (q : Nat × (List Int) × Int × Int × (List (Int × Int)) × (Int × Int)), l23_0 m n s0 s8 s31 s32 b0 b1 = some q → (turns (hds 23 6442451393) 0 6442451393 (evC byref (evCall F S12 (m + 24)) (m + 24) 0 (hds 23) lbl23_0) n (l23_0H s0 s8 s31 s32 b0 b1) (l23_0B s0 s8 s31 s32 b0 b1)).run = some (l23_0E (q.2.1) (q.2.2.1) (s31) (q.2.2.2.1) (q.2.2.2.2.1) (q.2.2.2.2.2) q.1)
  | 0, s0, s8, s31, s32, b0, b1, q, h => by cases h
  | n + 1, s0, s8, s31, s32, b0, b1, q, h => l23_0_step m n (l23_0_ok m n) s0 s8 s31 s32 b0 b1 q h

def p23 (m : Nat) (x0 : List Int) : Option ((List (Int × Int)) × Bool) :=
  if bytesOK x0 = true then
    if ((nextG x0).2 == (0)) = true then
      some (([] : List (Int × Int)), false)
    else
      if decide ((nextG x0).1 < 0) = true then
        some (([] : List (Int × Int)), false)
      else
        if decide ((nextG x0).1 > 200) = true then
          some (([] : List (Int × Int)), false)
        else
          if (decide (0 ≤ (nextG x0).2) && decide ((nextG x0).2 ≤ (((List.length x0) : Nat) : Int))) = true then
            if (Option.isSome (l23_0 m (m + 24) ((List.drop (Int.toNat (nextG x0).2) (List.take (List.length x0) x0))) 0 ((nextG x0).1) 0 (([] : List (Int × Int))) (((0), (0))))) = true then
              if ((l23_0R m (m + 24) ((List.drop (Int.toNat (nextG x0).2) (List.take (List.length x0) x0))) 0 ((nextG x0).1) 0 (([] : List (Int × Int))) (((0), (0)))).1 == 0) = true then
                some (([] : List (Int × Int)), false)
              else
                if ((l23_0R m (m + 24) ((List.drop (Int.toNat (nextG x0).2) (List.take (List.length x0) x0))) 0 ((nextG x0).1) 0 (([] : List (Int × Int))) (((0), (0)))).1 == 1) = true then
                  some (([] : List (Int × Int)), false)
                else
                  if ((l23_0R m (m + 24) ((List.drop (Int.toNat (nextG x0).2) (List.take (List.length x0) x0))) 0 ((nextG x0).1) 0 (([] : List (Int × Int))) (((0), (0)))).1 == 2) = true then
                    some ((List.take (List.length (l23_0R m (m + 24) ((List.drop (Int.toNat (nextG x0).2) (List.take (List.length x0) x0))) 0 ((nextG x0).1) 0 (([] : List (Int × Int))) (((0), (0)))).2.2.2.2.1) (List.drop 0 (l23_0R m (m + 24) ((List.drop (Int.toNat (nextG x0).2) (List.take (List.length x0) x0))) 0 ((nextG x0).1) 0 (([] : List (Int × Int))) (((0), (0)))).2.2.2.2.1)), true)
                  else
                    none
            else
              none
          else
            none
  else
    none
set_option maxHeartbeats 20000000 in
theorem p23_ok (m : Nat) (x0 : List Int) (q : (List (Int × Int)) × Bool) (h : p23 m x0 = some q) : ∃ r B1, (evCall F S12 (m + 25) 23 [(.d (.sl (.int .u8) x0))] []).run = some (r, B1) ∧ 0 ≤ B1.length ∧ wkR B1 [] r (.tup [(.d (.sl (.pair (.int .i64) (.int .i64)) q.1)), (.d (.bool (q.2)))]) ∧ wkBs B1 [] 0 [] := by
  unfold p23 at h
  refine ite_cases h (fun c0 h => ?_) (fun c0 h => ?_)
  · skip
    refine ite_cases h (fun c1 h => ?_) (fun c1 h => ?_)
    · skip
      cases h
      refine ⟨(.tup [(.d (.sl (.pair (.int .i64) (.int .i64)) ([] : List (Int × Int)))), (.d (.bool false))]), [], runT_ok (LS := (fun k => none)) (fn := fn23) (vis := []) (by kernel_rfl) rfl (by kernel_rfl) (M.run_of_path _ [true, true, true, true, true, true, true, true, true] _ _ (by kernel_rfl) (all_t c0 (all_t c1 (all_t c1 (all_t c1 (all_t rfl (all_t rfl (all_t rfl (all_t rfl (all_t rfl all_nil)))))))))) ?_, by simp, (wkR.tup (wkVs.cons (wkV.one (wk1.eq rfl)) (wkVs.cons (wkV.one (wk1.eq rfl)) wkVs.nil))), trivial⟩
      intro p hp; cases hp
    · skip
      refine ite_cases h (fun c4 h => ?_) (fun c4 h => ?_)
      · skip
        cases h
        refine ⟨(.tup [(.d (.sl (.pair (.int .i64) (.int .i64)) ([] : List (Int × Int)))), (.d (.bool false))]), [], runT_ok (LS := (fun k => none)) (fn := fn23) (vis := []) (by kernel_rfl) rfl (by kernel_rfl) (M.run_of_path _ [true, false, false, false, true, true, true, true, true] _ _ (by kernel_rfl) (all_t c0 (all_f c1 (all_f c1 (all_f c1 (all_t c4 (all_t c4 (all_t c4 (all_t rfl (all_t rfl all_nil)))))))))) ?_, by simp, (wkR.tup (wkVs.cons (wkV.one (wk1.eq rfl)) (wkVs.cons (wkV.one (wk1.eq rfl)) wkVs.nil))), trivial⟩
        intro p hp; cases hp
      · skip
        refine ite_cases h (fun c7 h => ?_) (fun c7 h => ?_)
        · skip
          cases h
          refine ⟨(.tup [(.d (.sl (.pair (.int .i64) (.int .i64)) ([] : List (Int × Int)))), (.d (.bool false))]), [], runT_ok (LS := (fun k => none)) (fn := fn23) (vis := []) (by kernel_rfl) rfl (by kernel_rfl) (M.run_of_path _ [true, false, false, false, false, false, false, true, true] _ _ (by kernel_rfl) (all_t c0 (all_f c1 (all_f c1 (all_f c1 (all_f c4 (all_f c4 (all_f c4 (all_t c7 (all_t rfl all_nil)))))))))) ?_, by simp, (wkR.tup (wkVs.cons (wkV.one (wk1.eq rfl)) (wkVs.cons (wkV.one (wk1.eq rfl)) wkVs.nil))), trivial⟩
          intro p hp; cases hp
        · skip
          refine ite_cases h (fun c8 h => ?_) (fun c8 h => ?_)
          · skip
            refine ite_cases h (fun c9 h => ?_) (fun c9 h => ?_)
            · skip
              refine ite_cases h (fun c10 h => ?_) (fun c10 h => ?_)
              · skip
                cases h
                refine ⟨(.tup [(.d (.sl (.pair (.int .i64) (.int .i64)) ([] : List (Int × Int)))), (.d (.bool false))]), [], runT_ok (LS := (fun k => if k = 6442451393 then some (l23_0E ((l23_0R m (m + 24) ((List.drop (Int.toNat (nextG x0).2) (List.take (List.length x0) x0))) 0 ((nextG x0).1) 0 (([] : List (Int × Int))) (((0), (0)))).2.1) ((l23_0R m (m + 24) ((List.drop (Int.toNat (nextG x0).2) (List.take (List.length x0) x0))) 0 ((nextG x0).1) 0 (([] : List (Int × Int))) (((0), (0)))).2.2.1) (((nextG x0).1)) ((l23_0R m (m + 24) ((List.drop (Int.toNat (nextG x0).2) (List.take (List.length x0) x0))) 0 ((nextG x0).1) 0 (([] : List (Int × Int))) (((0), (0)))).2.2.2.1) ((l23_0R m (m + 24) ((List.drop (Int.toNat (nextG x0).2) (List.take (List.length x0) x0))) 0 ((nextG x0).1) 0 (([] : List (Int × Int))) (((0), (0)))).2.2.2.2.1) ((l23_0R m (m + 24) ((List.drop (Int.toNat (nextG x0).2) (List.take (List.length x0) x0))) 0 ((nextG x0).1) 0 (([] : List (Int × Int))) (((0), (0)))).2.2.2.2.2) 0) else none)) (fn := fn23) (vis := [(6442451393, l23_0H ((List.drop (Int.toNat (nextG x0).2) (List.take (List.length x0) x0))) 0 ((nextG x0).1) 0 (([] : List (Int × Int))) (((0), (0))), l23_0B ((List.drop (Int.toNat (nextG x0).2) (List.take (List.length x0) x0))) 0 ((nextG x0).1) 0 (([] : List (Int × Int))) (((0), (0))))]) (by kernel_rfl) rfl (by kernel_rfl) (M.run_of_path _ [true, false, false, false, false, false, false, false, true, true] _ _ (by kernel_rfl) (all_t c0 (all_f c1 (all_f c1 (all_f c1 (all_f c4 (all_f c4 (all_f c4 (all_f c7 (all_t c8 (all_t rfl all_nil))))))))))) ?_, by simp, (wkR.tup (wkVs.cons (wkV.one (wk1.eq rfl)) (wkVs.cons (wkV.one (wk1.eq rfl)) wkVs.nil))), trivial⟩
                intro p hp p2 hq
                rcases List.mem_cons.1 hp with rfl | hp
                · skip
                  have h3 := l23_0_ok m (m + 24) ((List.drop (Int.toNat (nextG x0).2) (List.take (List.length x0) x0))) 0 ((nextG x0).1) 0 (([] : List (Int × Int))) (((0), (0))) _ (some_getD (d := l23_0D) c9)
                  rw [eq_of_beq c10] at h3
                  exact Eq.trans (Eq.mp (by kernel_rfl) h3) hq
                cases hp
              · skip
                refine ite_cases h (fun c11 h => ?_) (fun c11 h => ?_)
                · skip
                  cases h
                  refine ⟨(.tup [(.d (.sl (.pair (.int .i64) (.int .i64)) ([] : List (Int × Int)))), (.d (.bool false))]), [], runT_ok (LS := (fun k => if k = 6442451393 then some (l23_0E ((l23_0R m (m + 24) ((List.drop (Int.toNat (nextG x0).2) (List.take (List.length x0) x0))) 0 ((nextG x0).1) 0 (([] : List (Int × Int))) (((0), (0)))).2.1) ((l23_0R m (m + 24) ((List.drop (Int.toNat (nextG x0).2) (List.take (List.length x0) x0))) 0 ((nextG x0).1) 0 (([] : List (Int × Int))) (((0), (0)))).2.2.1) (((nextG x0).1)) ((l23_0R m (m + 24) ((List.drop (Int.toNat (nextG x0).2) (List.take (List.length x0) x0))) 0 ((nextG x0).1) 0 (([] : List (Int × Int))) (((0), (0)))).2.2.2.1) ((l23_0R m (m + 24) ((List.drop (Int.toNat (nextG x0).2) (List.take (List.length x0) x0))) 0 ((nextG x0).1) 0 (([] : List (Int × Int))) (((0), (0)))).2.2.2.2.1) ((l23_0R m (m + 24) ((List.drop (Int.toNat (nextG x0).2) (List.take (List.length x0) x0))) 0 ((nextG x0).1) 0 (([] : List (Int × Int))) (((0), (0)))).2.2.2.2.2) 1) else none)) (fn := fn23) (vis := [(6442451393, l23_0H ((List.drop (Int.toNat (nextG x0).2) (List.take (List.length x0) x0))) 0 ((nextG x0).1) 0 (([] : List (Int × Int))) (((0), (0))), l23_0B ((List.drop (Int.toNat (nextG x0).2) (List.take (List.length x0) x0))) 0 ((nextG x0).1) 0 (([] : List (Int × Int))) (((0), (0))))]) (by kernel_rfl) rfl (by kernel_rfl) (M.run_of_path _ [true, false, false, false, false, false, false, false, true, true] _ _ (by kernel_rfl) (all_t c0 (all_f c1 (all_f c1 (all_f c1 (all_f c4 (all_f c4 (all_f c4 (all_f c7 (all_t c8 (all_t rfl all_nil))))))))))) ?_, by simp, (wkR.tup (wkVs.cons (wkV.one (wk1.eq rfl)) (wkVs.cons (wkV.one (wk1.eq rfl)) wkVs.nil))), trivial⟩
                  intro p hp p2 hq
                  rcases List.mem_cons.1 hp with rfl | hp
                  · skip
                    have h3 := l23_0_ok m (m + 24) ((List.drop (Int.toNat (nextG x0).2) (List.take (List.length x0) x0))) 0 ((nextG x0).1) 0 (([] : List (Int × Int))) (((0), (0))) _ (some_getD (d := l23_0D) c9)
                    rw [eq_of_beq c11] at h3
                    exact Eq.trans (Eq.mp (by kernel_rfl) h3) hq
                  cases hp
                · skip
                  refine ite_cases h (fun c12 h => ?_) (fun c12 h => ?_)
                  · skip
                    cases h
                    refine ⟨(.tup [(.d (.sl (.pair (.int .i64) (.int .i64)) (List.take (List.length (l23_0R m (m + 24) ((List.drop (Int.toNat (nextG x0).2) (List.take (List.length x0) x0))) 0 ((nextG x0).1) 0 (([] : List (Int × Int))) (((0), (0)))).2.2.2.2.1) (List.drop 0 (l23_0R m (m + 24) ((List.drop (Int.toNat (nextG x0).2) (List.take (List.length x0) x0))) 0 ((nextG x0).1) 0 (([] : List (Int × Int))) (((0), (0)))).2.2.2.2.1)))), (.d (.bool true))]), [], runT_ok (LS := (fun k => if k = 6442451393 then some (l23_0E ((l23_0R m (m + 24) ((List.drop (Int.toNat (nextG x0).2) (List.take (List.length x0) x0))) 0 ((nextG x0).1) 0 (([] : List (Int × Int))) (((0), (0)))).2.1) ((l23_0R m (m + 24) ((List.drop (Int.toNat (nextG x0).2) (List.take (List.length x0) x0))) 0 ((nextG x0).1) 0 (([] : List (Int × Int))) (((0), (0)))).2.2.1) (((nextG x0).1)) ((l23_0R m (m + 24) ((List.drop (Int.toNat (nextG x0).2) (List.take (List.length x0) x0))) 0 ((nextG x0).1) 0 (([] : List (Int × Int))) (((0), (0)))).2.2.2.1) ((l23_0R m (m + 24) ((List.drop (Int.toNat (nextG x0).2) (List.take (List.length x0) x0))) 0 ((nextG x0).1) 0 (([] : List (Int × Int))) (((0), (0)))).2.2.2.2.1) ((l23_0R m (m + 24) ((List.drop (Int.toNat (nextG x0).2) (List.take (List.length x0) x0))) 0 ((nextG x0).1) 0 (([] : List (Int × Int))) (((0), (0)))).2.2.2.2.2) 2) else none)) (fn := fn23) (vis := [(6442451393, l23_0H ((List.drop (Int.toNat (nextG x0).2) (List.take (List.length x0) x0))) 0 ((nextG x0).1) 0 (([] : List (Int × Int))) (((0), (0))), l23_0B ((List.drop (Int.toNat (nextG x0).2) (List.take (List.length x0) x0))) 0 ((nextG x0).1) 0 (([] : List (Int × Int))) (((0), (0))))]) (by kernel_rfl) rfl (by kernel_rfl) (M.run_of_path _ [true, false, false, false, false, false, false, false, true, true] _ _ (by kernel_rfl) (all_t c0 (all_f c1 (all_f c1 (all_f c1 (all_f c4 (all_f c4 (all_f c4 (all_f c7 (all_t c8 (all_t (show decide ((0 + (List.length (l23_0R m (m + 24) ((List.drop (Int.toNat (nextG x0).2) (List.take (List.length x0) x0))) 0 ((nextG x0).1) 0 (([] : List (Int × Int))) (((0), (0)))).2.2.2.2.1)) ≤ (List.length (l23_0R m (m + 24) ((List.drop (Int.toNat (nextG x0).2) (List.take (List.length x0) x0))) 0 ((nextG x0).1) 0 (([] : List (Int × Int))) (((0), (0)))).2.2.2.2.1)) = true from decide_eq_true (Nat.le_of_eq (Nat.zero_add _))) all_nil))))))))))) ?_, by simp, (wkR.tup (wkVs.cons (wkV.one (wk1.eq rfl)) (wkVs.cons (wkV.one (wk1.eq rfl)) wkVs.nil))), trivial⟩
                    intro p hp p2 hq
                    rcases List.mem_cons.1 hp with rfl | hp
                    · skip
                      have h3 := l23_0_ok m (m + 24) ((List.drop (Int.toNat (nextG x0).2) (List.take (List.length x0) x0))) 0 ((nextG x0).1) 0 (([] : List (Int × Int))) (((0), (0))) _ (some_getD (d := l23_0D) c9)
                      rw [eq_of_beq c12] at h3
                      exact Eq.trans (Eq.mp (by kernel_rfl) h3) hq
                    cases hp
                  · skip
                    cases h
            · skip
              cases h
          · skip
            cases h
  · skip
    cases h

/-- Samples out of bytes. -/
def readR : Nat → List Int → Int → Int × Int → SL → SL × Bool
  | 0, _, _, _, acc => (acc, true)
  | k + 1, b, s, z, acc => if (nextG b).2 = 0 then ([], false) else if (nextG (b.drop (nextG b).2.toNat)).2 = 0 then ([], false)
    else readR k (b.drop ((nextG b).2 + (nextG (b.drop (nextG b).2.toNat)).2).toNat) (IntKind.wrap .i64 (s + (nextG b).1)) (IntKind.wrap .i64 (z.1 + IntKind.wrap .i64 (s + (nextG b).1)), IntKind.wrap .i64 (z.2 + (nextG (b.drop (nextG b).2.toNat)).1)) (acc ++ [(IntKind.wrap .i64 (z.1 + IntKind.wrap .i64 (s + (nextG b).1)), IntKind.wrap .i64 (z.2 + (nextG (b.drop (nextG b).2.toNat)).1))])
def readG (b : List Int) : SL × Bool := if (nextG b).2 = 0 then ([], false) else if (nextG b).1 < 0 then ([], false) else if (nextG b).1 > 200 then ([], false) else readR (nextG b).1.toNat (b.drop (nextG b).2.toNat) 0 (0, 0) []
theorem bytes_drop {b : List Int} (h : bytesOK b = true) (k : Nat) : bytesOK (b.drop k) = true := by
  have ⟨h1, h2⟩ := of_decide_eq_true h
  exact decide_eq_true ⟨by rw [List.length_drop]; omega, fun x hx => h2 x (List.mem_of_mem_drop hx)⟩
theorem read_loop (m : Nat) (N : Nat) (hN : N ≤ 200) : ∀ (n k : Nat) (b : List Int) (s : Int) (z : Int × Int) (acc : SL), k ≤ N → N - k < n → bytesOK b = true → acc.length = k →
    ∃ e b' s' j a' z', l23_0 m n b s (N : Nat) (k : Nat) acc z = some (e, b', s', j, a', z') ∧ (((e = 0 ∨ e = 1) ∧ readR (N - k) b s z acc = ([], false)) ∨ (e = 2 ∧ readR (N - k) b s z acc = (a', true)))
  | 0, k, b, s, z, acc, _, h, _, _ => by omega
  | n + 1, k, b, s, z, acc, h1, h2, hb, ha => by
    rw [l23_0]
    by_cases hk : k < N
    · have e1 : decide (((k : Nat) : Int) < ((N : Nat) : Int)) = true := decide_eq_true (by omega)
      have e7 : IntKind.wrap .i64 (((k : Nat) : Int) + (1)) = ((k + 1 : Nat) : Int) := by rw [wrap_id (by omega) (by omega)]; rfl
      have bd := nextG_bound b
      have hlen : b.length ≤ 1000000 := (of_decide_eq_true hb).1
      rw [List.take_length]
      have bd2 := nextG_bound (b.drop (nextG b).2.toNat)
      rw [List.length_drop] at bd2
      have hb2 := bytes_drop hb (nextG b).2.toNat
      have hw : IntKind.wrap .i64 ((nextG b).2 + (nextG (b.drop (nextG b).2.toNat)).2) = (nextG b).2 + (nextG (b.drop (nextG b).2.toNat)).2 := wrap_id (by omega) (by omega)
      rw [hw, e7, show N - k = (N - (k + 1)) + 1 by omega, readR]
      have hb3 := bytes_drop hb ((nextG b).2 + (nextG (b.drop (nextG b).2.toNat)).2).toNat
      generalize nextG (b.drop (nextG b).2.toNat) = q at *
      generalize hp : nextG b = p at *
      have e2 : (decide (0 ≤ p.2) && decide (p.2 ≤ (((List.length b) : Nat) : Int))) = true := by simp; omega
      have e3 : (decide (0 ≤ p.2 + q.2) && decide (p.2 + q.2 ≤ (((List.length b) : Nat) : Int))) = true := by simp; omega
      have e4 : decide ((((List.length acc) + 1) * 16) ≤ 70368744177664) = true := decide_eq_true (by omega)
      rw [if_pos e1, if_pos hb, if_pos e2, if_pos hb2]
      by_cases c1 : p.2 = 0
      · rw [if_pos (by simp [c1]), if_pos c1]
        exact ⟨0, _, _, _, _, _, rfl, .inl ⟨.inl rfl, rfl⟩⟩
      · rw [if_neg (by simpa using c1), if_neg c1]
        by_cases c2 : q.2 = 0
        · rw [if_pos (by simp [c2]), if_pos c2]
          exact ⟨1, _, _, _, _, _, rfl, .inl ⟨.inr rfl, rfl⟩⟩
        · rw [if_neg (by simpa using c2), if_neg c2, if_pos e3, if_pos e4]
          exact read_loop m N hN n (k + 1) _ _ _ _ (by omega) (by omega) hb3 (by simp [ha])
    · have e1 : decide (((k : Nat) : Int) < ((N : Nat) : Int)) = false := decide_eq_false (by omega)
      rw [e1, if_neg (by simp), show N - k = 0 by omega]
      exact ⟨2, _, _, _, _, _, rfl, .inr ⟨rfl, rfl⟩⟩
theorem read23 (b : List Int) (h : bytesOK b = true) : ∃ m, p23 m b = some ((readG b).1, (readG b).2) := by
  refine ⟨200, ?_⟩
  have bd := nextG_bound b
  unfold p23 readG
  rw [if_pos h]
  by_cases c1 : (nextG b).2 = 0
  · rw [if_pos (by simp [c1]), if_pos c1]
  · rw [if_neg (by simpa using c1), if_neg c1]
    by_cases c2 : (nextG b).1 < 0
    · rw [if_pos (decide_eq_true c2), if_pos c2]
    · rw [if_neg (by simpa using c2), if_neg c2]
      by_cases c3 : (nextG b).1 > 200
      · rw [if_pos (decide_eq_true c3), if_pos c3]
      · have e2 : (decide (0 ≤ (nextG b).2) && decide ((nextG b).2 ≤ (((List.length b) : Nat) : Int))) = true := by simp; omega
        rw [if_neg (by simpa using c3), if_neg c3, if_pos e2, List.take_length]
        obtain ⟨N, hN⟩ : ∃ N : Nat, (nextG b).1 = N := ⟨(nextG b).1.toNat, by omega⟩
        rw [hN]
        obtain ⟨e, b', s', j, a', z', hr, hc⟩ := read_loop 200 N (by omega) (200 + 24) 0 (b.drop (nextG b).2.toNat) 0 (0, 0) [] (by omega) (by omega) (bytes_drop h _) rfl
        rw [Int.natCast_zero] at hr
        simp only [l23_0R, hr, Option.isSome_some, Option.getD_some, ↓reduceIte, Int.toNat_natCast]
        rw [Nat.sub_zero] at hc
        rcases hc with ⟨rfl | rfl, hc⟩ | ⟨rfl, hc⟩ <;> rw [hc] <;> simp
def s23 : List AV → Boxes → M (AV × Boxes) := normS [.val (.sl (.int .u8))] [] fun xs B => match xs, B with
  | [(.d (.sl (.int .u8) c1))], [] => .chk (bytesOK c1) (.ret ((.tup [(.d (.sl (.pair (.int .i64) (.int .i64)) (readG c1).1)), (.d (.bool (readG c1).2))]), []))
  | _, _ => .fail
theorem s23_at : CallAt Try.prog 23 s23 := by
  refine CallAt.norm (CallAt.weakE (g := fun n => evCall F S12 n 23) (fun n => evCall_atH mixed kinds hds S12 S12_ok n 23) fun xs B r' B' hr => ?_) _ _
  split at hr
  · rename_i c1
    obtain ⟨hp, hr⟩ := (M.run_chk _ _ _).1 hr
    simp only [M.run, Option.some.injEq, Prod.mk.injEq] at hr
    obtain ⟨rfl, rfl⟩ := hr
    obtain ⟨m, hm⟩ := read23 c1 hp
    obtain ⟨r, B1, h1, h2, h3, h4⟩ := p23_ok m c1 _ hm
    exact ⟨m + 25, r, B1, h1, by simp, h2, h3, h4⟩
  · simp [M.run] at hr
noncomputable def S13 : FuncId → Option (List AV → Boxes → M (AV × Boxes)) := fun f => if f = 23 then some s23 else S12 f
set_option maxHeartbeats 20000000 in
theorem S13_ok : ∀ f s, S13 f = some s → CallAt Try.prog f s := by
  intro f s h
  unfold S13 at h
  split at h
  · rename_i e; subst e; cases h; exact s23_at
  · exact S12_ok f s h

noncomputable def fn9 : AFn := (F 9).getD ⟨0, [], .bad, false, false, noHd⟩
noncomputable def body9 : AC := fn9.body
def p9 (m : Nat) (x0 : List Int) : Option ((List (Int × Int)) × Int) :=
  if bytesOK x0 = true then
    if (readG x0).2 = true then
      if decide (List.length (readG x0).1 ≤ 1000000) = true then
        if decide (List.length (putG (readG x0).1) < 4611686018427387904) = true then
          if ((show List (Int) from (putG (readG x0).1)) == x0) = true then
            some ((readG x0).1, (0))
          else
            some (([] : List (Int × Int)), (1))
        else
          none
      else
        none
    else
      some (([] : List (Int × Int)), (1))
  else
    none
set_option maxHeartbeats 20000000 in
theorem p9_ok (m : Nat) (x0 : List Int) (q : (List (Int × Int)) × Int) (h : p9 m x0 = some q) : ∃ r B1, (evCall F S13 (m + 25) 9 [(.d (.sl (.int .u8) x0))] []).run = some (r, B1) ∧ 0 ≤ B1.length ∧ wkR B1 [] r (.tup [(.d (.sl (.pair (.int .i64) (.int .i64)) q.1)), (.d (.int .i64 q.2))]) ∧ wkBs B1 [] 0 [] := by
  unfold p9 at h
  refine ite_cases h (fun c0 h => ?_) (fun c0 h => ?_)
  · skip
    refine ite_cases h (fun c1 h => ?_) (fun c1 h => ?_)
    · skip
      refine ite_cases h (fun c3 h => ?_) (fun c3 h => ?_)
      · skip
        refine ite_cases h (fun c6 h => ?_) (fun c6 h => ?_)
        · skip
          refine ite_cases h (fun c9 h => ?_) (fun c9 h => ?_)
          · skip
            cases h
            refine ⟨(.tup [(.d (.sl (.pair (.int .i64) (.int .i64)) (readG x0).1)), (.d (.int .i64 (0)))]), [], runT_ok (LS := (fun k => none)) (fn := fn9) (vis := []) (by kernel_rfl) rfl (by kernel_rfl) (M.run_of_path _ [true, false, false, true, false, false, true, false, false, false] _ _ (by kernel_rfl) (all_t c0 (all_nt c1 (all_nt c1 (all_t c3 (all_nt c1 (all_nt c1 (all_t c6 (all_nt c1 (all_nt c1 (all_nt c9 all_nil))))))))))) ?_, by simp, (wkR.tup (wkVs.cons (wkV.one (wk1.eq rfl)) (wkVs.cons (wkV.one (wk1.eq rfl)) wkVs.nil))), trivial⟩
            intro p hp; cases hp
          · skip
            cases h
            refine ⟨(.tup [(.d (.sl (.pair (.int .i64) (.int .i64)) ([] : List (Int × Int)))), (.d (.int .i64 (1)))]), [], runT_ok (LS := (fun k => none)) (fn := fn9) (vis := []) (by kernel_rfl) rfl (by kernel_rfl) (M.run_of_path _ [true, false, false, true, false, false, true, false, false, true, true] _ _ (by kernel_rfl) (all_t c0 (all_nt c1 (all_nt c1 (all_t c3 (all_nt c1 (all_nt c1 (all_t c6 (all_nt c1 (all_nt c1 (all_nf c9 (all_t rfl all_nil)))))))))))) ?_, by simp, (wkR.tup (wkVs.cons (wkV.one (wk1.eq rfl)) (wkVs.cons (wkV.one (wk1.eq rfl)) wkVs.nil))), trivial⟩
            intro p hp; cases hp
        · skip
          cases h
      · skip
        cases h
    · skip
      cases h
      refine ⟨(.tup [(.d (.sl (.pair (.int .i64) (.int .i64)) ([] : List (Int × Int)))), (.d (.int .i64 (1)))]), [], runT_ok (LS := (fun k => none)) (fn := fn9) (vis := []) (by kernel_rfl) rfl (by kernel_rfl) (M.run_of_path _ [true, true, true, true, true, true, true, true, true] _ _ (by kernel_rfl) (all_t c0 (all_nf c1 (all_nf c1 (all_nf c1 (all_nf c1 (all_nf c1 (all_nf c1 (all_t rfl (all_t rfl all_nil)))))))))) ?_, by simp, (wkR.tup (wkVs.cons (wkV.one (wk1.eq rfl)) (wkVs.cons (wkV.one (wk1.eq rfl)) wkVs.nil))), trivial⟩
      intro p hp; cases hp
  · skip
    cases h

def getG (b : List Int) : SL × Int := if (readG b).2 = true ∧ putG (readG b).1 = b then ((readG b).1, 0) else ([], 1)
theorem readR_len : ∀ (k : Nat) (b : List Int) (s : Int) (z : Int × Int) (acc : SL), (readR k b s z acc).1.length ≤ acc.length + k
  | 0, b, s, z, acc => by simp [readR]
  | k + 1, b, s, z, acc => by
    unfold readR
    split
    · simp
    · split
      · simp
      · have := readR_len k (b.drop ((nextG b).2 + (nextG (b.drop (nextG b).2.toNat)).2).toNat) (IntKind.wrap .i64 (s + (nextG b).1)) (IntKind.wrap .i64 (z.1 + IntKind.wrap .i64 (s + (nextG b).1)), IntKind.wrap .i64 (z.2 + (nextG (b.drop (nextG b).2.toNat)).1)) (acc ++ [(IntKind.wrap .i64 (z.1 + IntKind.wrap .i64 (s + (nextG b).1)), IntKind.wrap .i64 (z.2 + (nextG (b.drop (nextG b).2.toNat)).1))])
        simp only [List.length_append, List.length_singleton] at this
        omega
theorem readG_len (b : List Int) : (readG b).1.length ≤ 200 := by
  unfold readG
  split
  · simp
  · split
    · simp
    · split
      · simp
      · have := readR_len (nextG b).1.toNat (b.drop (nextG b).2.toNat) 0 (0, 0) []
        simp only [List.length_nil] at this
        omega
theorem putR_len : ∀ (l : SL) (t v s : Int), (putR t v s l).length ≤ 20 * l.length
  | [], t, v, s => by simp [putR]
  | x :: xs, t, v, s => by
    have h1 := numG_len2 (IntKind.wrap .i64 (x.1 - t) - s) (x.2 - v)
    have h2 := putR_len xs x.1 x.2 (IntKind.wrap .i64 (x.1 - t))
    simp only [putR, List.length_append, List.length_cons]
    omega
theorem blockG_len (l : SL) (h : l.length ≤ 1000000) : 0 < (blockG l).length ∧ (blockG l).length ≤ 10 + 20 * l.length := by
  have h1 := numG_len [((l.length : Nat) : Int)] (by simpa using inR_len l h)
  have h2 := putR_len l 0 0 0
  unfold blockG
  rw [List.length_append]
  simp only [List.length_singleton] at h1
  omega
theorem putG_len (l : SL) (h : l.length ≤ 1000000) : (putG l).length ≤ 10 + 20 * l.length := by
  unfold putG
  split
  · exact (blockG_len l h).2
  · simp
theorem get9 (b : List Int) (h : bytesOK b = true) : ∃ m, p9 m b = some ((getG b).1, (getG b).2) := by
  refine ⟨0, ?_⟩
  have hl := readG_len b
  have hp := putG_len (readG b).1 (by omega)
  have e1 : decide (List.length (readG b).1 ≤ 1000000) = true := decide_eq_true (by omega)
  have e2 : decide (List.length (putG (readG b).1) < 4611686018427387904) = true := decide_eq_true (by omega)
  unfold p9 getG
  rw [if_pos h, if_pos e1, if_pos e2]
  by_cases c1 : (readG b).2 = true
  · rw [if_pos c1]
    by_cases c2 : putG (readG b).1 = b
    · have : (putG (readG b).1 == b) = true := by rw [c2]; exact beq_self_eq_true b
      rw [if_pos this, if_pos ⟨c1, c2⟩]
    · have : ¬ (putG (readG b).1 == b) = true := by simpa using c2
      rw [if_neg this, if_neg fun h => c2 h.2]
  · rw [if_neg c1, if_neg fun h => c1 h.1]
def s9 : List AV → Boxes → M (AV × Boxes) := normS [.val (.sl (.int .u8))] [] fun xs B => match xs, B with
  | [(.d (.sl (.int .u8) c1))], [] => .chk (bytesOK c1) (.ret ((.tup [(.d (.sl (.pair (.int .i64) (.int .i64)) (getG c1).1)), (.d (.int .i64 (getG c1).2))]), []))
  | _, _ => .fail
theorem s9_at : CallAt Try.prog 9 s9 := by
  refine CallAt.norm (CallAt.weakE (g := fun n => evCall F S13 n 9) (fun n => evCall_atH mixed kinds hds S13 S13_ok n 9) fun xs B r' B' hr => ?_) _ _
  split at hr
  · rename_i c1
    obtain ⟨hp, hr⟩ := (M.run_chk _ _ _).1 hr
    simp only [M.run, Option.some.injEq, Prod.mk.injEq] at hr
    obtain ⟨rfl, rfl⟩ := hr
    obtain ⟨m, hm⟩ := get9 c1 hp
    obtain ⟨r, B1, h1, h2, h3, h4⟩ := p9_ok m c1 _ hm
    exact ⟨m + 25, r, B1, h1, by simp, h2, h3, h4⟩
  · simp [M.run] at hr
noncomputable def S14 : FuncId → Option (List AV → Boxes → M (AV × Boxes)) := fun f => if f = 9 then some s9 else S13 f
set_option maxHeartbeats 20000000 in
theorem S14_ok : ∀ f s, S14 f = some s → CallAt Try.prog f s := by
  intro f s h
  unfold S14 at h
  split at h
  · rename_i e; subst e; cases h; exact s9_at
  · exact S13_ok f s h

end Go.Proofs.Ytghkbjflejgieaa.Dec
namespace Go.Proofs.Ytghkbjflejgieaa.Dec
open Go.Ev
set_option linter.unusedVariables false
set_option linter.unusedSimpArgs false
set_option maxRecDepth 100000
theorem runs3 : Known Try.prog 3 [] (.d (.bool true)) := known mixed (kinds := kinds) (n := 300) S2_ok (by kernel_rfl)
def trueG : List D → M AV
  | [] => .ret (.d (.bool true))
  | _ => .fail
theorem true3 : CallAt Try.prog 3 (plainV trueG) := by
  refine plainV_at fun ds r hr => ?_
  unfold trueG at hr
  split at hr
  · simp only [M.run, Option.some.injEq] at hr
    subst hr
    exact runs3
  · simp [M.run] at hr

noncomputable def S15 : FuncId → Option (List AV → Boxes → M (AV × Boxes)) := fun f => if f = 3 then some (plainV trueG) else S14 f
set_option maxHeartbeats 20000000 in
theorem S15_ok : ∀ f s, S15 f = some s → CallAt Try.prog f s := by
  intro f s h
  unfold S15 at h
  split at h
  · rename_i e; subst e; cases h; exact true3
  · exact S14_ok f s h

end Go.Proofs.Ytghkbjflejgieaa.Dec
