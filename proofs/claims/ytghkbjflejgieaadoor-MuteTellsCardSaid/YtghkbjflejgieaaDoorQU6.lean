/- Right matchers. The document's own Get, All. slices.Equal of labels, slices.Clone. Silenced, equal. Inhibited. Heard. The document's own Quote, RightSet. The document's own PrintSet. -/
import Derived.Test.YtghkbjflejgieaaDoorQU5
import Derived.KernelRfl
namespace Go.Proofs.YtghkbjflejgieaaDoor.Dec
open Go.Ev
set_option linter.unusedVariables false
set_option linter.unusedSimpArgs false
set_option maxRecDepth 100000
set_option maxHeartbeats 20000000
noncomputable def fn26 : AFn := (F 26).getD ⟨0, [], .bad, false, false, noHd⟩
noncomputable def body26 : AC := fn26.body
def l26_0 (m : Nat) : Nat → Q4 → Int → Int → Option (Nat × Int)
  | 0, _, _, _ => none
  | n + 1, x0, s6, s7 => if decide (s7 < s6) = true then
      if decide (0 ≤ s7) = true then
      if decide (s7 < (((List.length x0) : Nat) : Int)) = true then
      if decide (List.length (List.getD x0 (Int.toNat s7) (([] : Q8), (([] : Q8), 0))).1 ≤ 9223372036854775807) = true then
      if (wordG (List.getD x0 (Int.toNat s7) (([] : Q8), (([] : Q8), 0))).1) = true then
        if decide ((((List.length (List.getD x0 (Int.toNat s7) (([] : Q8), (([] : Q8), 0))).2.1) : Nat) : Int) > 24) = true then
          some (1, s7)
        else
          if ((List.getD x0 (Int.toNat s7) (([] : Q8), (([] : Q8), 0))).2.2 == (1)) = true then
            if (([61] : Q8) == ([] : Q8)) = true then
              some (2, s7)
            else
              l26_0 m n x0 s6 ((IntKind.wrap .i64 (s7 + (1))))
          else
            if ((List.getD x0 (Int.toNat s7) (([] : Q8), (([] : Q8), 0))).2.2 == (2)) = true then
              if (([33, 61] : Q8) == ([] : Q8)) = true then
                some (3, s7)
              else
                l26_0 m n x0 s6 ((IntKind.wrap .i64 (s7 + (1))))
            else
              if ((List.getD x0 (Int.toNat s7) (([] : Q8), (([] : Q8), 0))).2.2 == (3)) = true then
                if (([94, 61] : Q8) == ([] : Q8)) = true then
                  some (4, s7)
                else
                  l26_0 m n x0 s6 ((IntKind.wrap .i64 (s7 + (1))))
              else
                if ((List.getD x0 (Int.toNat s7) (([] : Q8), (([] : Q8), 0))).2.2 == (4)) = true then
                  if (([33, 94] : Q8) == ([] : Q8)) = true then
                    some (5, s7)
                  else
                    l26_0 m n x0 s6 ((IntKind.wrap .i64 (s7 + (1))))
                else
                  if (([] : Q8) == ([] : Q8)) = true then
                    some (6, s7)
                  else
                    l26_0 m n x0 s6 ((IntKind.wrap .i64 (s7 + (1))))
      else
        some (0, s7)
      else none
      else none
      else none
    else
      some (7, s7)
def l26_0D : Nat × Int := (0, 0)
@[reducible] def l26_0R (m n : Nat) (x0 : Q4) (s6 : Int) (s7 : Int) : Nat × Int := Option.getD (l26_0 m n x0 s6 s7) l26_0D
def l26_0H (x0 : Q4) (s6 : Int) (s7 : Int) : Env := ((.d (.sl (.pair .str (.pair .str (.int .i64))) x0)) :: .top :: .top :: .top :: .top :: (.d (.sl (.pair .str (.pair .str (.int .i64))) x0)) :: (.d (.int .i64 s6)) :: (.d (.int .i64 s7)) :: tp23 [])
def l26_0B (x0 : Q4) (s6 : Int) (s7 : Int) : Boxes := []
def l26_0E (x0 : Q4) (s6 : Int) (s7 : Int) : Nat → AEx × Env × Boxes
  | 0 => (.ret, [(.d (.sl (.pair .str (.pair .str (.int .i64))) x0)), .top, (.d (.bool false)), .top, (.ptr 0 0), (.d (.sl (.pair .str (.pair .str (.int .i64))) x0)), (.d (.int .i64 s6)), (.d (.int .i64 s7)), (.d (.bool (decide (s7 < s6)))), (.cptr [(.str (List.getD x0 (Int.toNat s7) (([] : Q8), (([] : Q8), 0))).1), (.str (List.getD x0 (Int.toNat s7) (([] : Q8), (([] : Q8), 0))).2.1), (.int .i64 (List.getD x0 (Int.toNat s7) (([] : Q8), (([] : Q8), 0))).2.2)] 0), (.agg [(.d (.str (List.getD x0 (Int.toNat s7) (([] : Q8), (([] : Q8), 0))).1)), (.d (.str (List.getD x0 (Int.toNat s7) (([] : Q8), (([] : Q8), 0))).2.1)), (.d (.int .i64 (List.getD x0 (Int.toNat s7) (([] : Q8), (([] : Q8), 0))).2.2))]), (.ptr 0 0), (.d (.str (List.getD x0 (Int.toNat s7) (([] : Q8), (([] : Q8), 0))).1)), (.d (.bool (wordG (List.getD x0 (Int.toNat s7) (([] : Q8), (([] : Q8), 0))).1))), (.d (.bool (!(wordG (List.getD x0 (Int.toNat s7) (([] : Q8), (([] : Q8), 0))).1)))), (.d (.bool (!(wordG (List.getD x0 (Int.toNat s7) (([] : Q8), (([] : Q8), 0))).1)))), (.tup []), (.tup []), (.tup []), (.tup []), (.d (.bool true)), (.d (.bool true)), (.tup []), (.tup []), (.tup []), (.tup []), (.d (.bool true)), .top, .top, .top, .top], [(.cells [(.d (.str (List.getD x0 (Int.toNat s7) (([] : Q8), (([] : Q8), 0))).1)), (.d (.str (List.getD x0 (Int.toNat s7) (([] : Q8), (([] : Q8), 0))).2.1)), (.d (.int .i64 (List.getD x0 (Int.toNat s7) (([] : Q8), (([] : Q8), 0))).2.2))])])
  | 1 => (.ret, [(.d (.sl (.pair .str (.pair .str (.int .i64))) x0)), .top, (.d (.bool false)), .top, (.ptr 0 0), (.d (.sl (.pair .str (.pair .str (.int .i64))) x0)), (.d (.int .i64 s6)), (.d (.int .i64 s7)), (.d (.bool (decide (s7 < s6)))), (.cptr [(.str (List.getD x0 (Int.toNat s7) (([] : Q8), (([] : Q8), 0))).1), (.str (List.getD x0 (Int.toNat s7) (([] : Q8), (([] : Q8), 0))).2.1), (.int .i64 (List.getD x0 (Int.toNat s7) (([] : Q8), (([] : Q8), 0))).2.2)] 0), (.agg [(.d (.str (List.getD x0 (Int.toNat s7) (([] : Q8), (([] : Q8), 0))).1)), (.d (.str (List.getD x0 (Int.toNat s7) (([] : Q8), (([] : Q8), 0))).2.1)), (.d (.int .i64 (List.getD x0 (Int.toNat s7) (([] : Q8), (([] : Q8), 0))).2.2))]), (.ptr 0 0), (.d (.str (List.getD x0 (Int.toNat s7) (([] : Q8), (([] : Q8), 0))).1)), (.d (.bool (wordG (List.getD x0 (Int.toNat s7) (([] : Q8), (([] : Q8), 0))).1))), (.d (.bool (!(wordG (List.getD x0 (Int.toNat s7) (([] : Q8), (([] : Q8), 0))).1)))), (.d (.bool (!(wordG (List.getD x0 (Int.toNat s7) (([] : Q8), (([] : Q8), 0))).1)))), (.ptr 0 1), (.d (.str (List.getD x0 (Int.toNat s7) (([] : Q8), (([] : Q8), 0))).2.1)), (.d (.int .i64 (((List.length (List.getD x0 (Int.toNat s7) (([] : Q8), (([] : Q8), 0))).2.1) : Nat) : Int))), (.d (.bool (decide ((((List.length (List.getD x0 (Int.toNat s7) (([] : Q8), (([] : Q8), 0))).2.1) : Nat) : Int) > 24)))), (.d (.bool (decide ((((List.length (List.getD x0 (Int.toNat s7) (([] : Q8), (([] : Q8), 0))).2.1) : Nat) : Int) > 24)))), (.d (.bool (decide ((((List.length (List.getD x0 (Int.toNat s7) (([] : Q8), (([] : Q8), 0))).2.1) : Nat) : Int) > 24)))), (.tup []), (.tup []), (.tup []), (.tup []), (.d (.bool true)), .top, .top, .top, .top], [(.cells [(.d (.str (List.getD x0 (Int.toNat s7) (([] : Q8), (([] : Q8), 0))).1)), (.d (.str (List.getD x0 (Int.toNat s7) (([] : Q8), (([] : Q8), 0))).2.1)), (.d (.int .i64 (List.getD x0 (Int.toNat s7) (([] : Q8), (([] : Q8), 0))).2.2))])])
  | 2 => (.ret, [(.d (.sl (.pair .str (.pair .str (.int .i64))) x0)), .top, (.d (.bool false)), .top, (.ptr 0 0), (.d (.sl (.pair .str (.pair .str (.int .i64))) x0)), (.d (.int .i64 s6)), (.d (.int .i64 s7)), (.d (.bool (decide (s7 < s6)))), (.cptr [(.str (List.getD x0 (Int.toNat s7) (([] : Q8), (([] : Q8), 0))).1), (.str (List.getD x0 (Int.toNat s7) (([] : Q8), (([] : Q8), 0))).2.1), (.int .i64 (List.getD x0 (Int.toNat s7) (([] : Q8), (([] : Q8), 0))).2.2)] 0), (.agg [(.d (.str (List.getD x0 (Int.toNat s7) (([] : Q8), (([] : Q8), 0))).1)), (.d (.str (List.getD x0 (Int.toNat s7) (([] : Q8), (([] : Q8), 0))).2.1)), (.d (.int .i64 (List.getD x0 (Int.toNat s7) (([] : Q8), (([] : Q8), 0))).2.2))]), (.ptr 0 0), (.d (.str (List.getD x0 (Int.toNat s7) (([] : Q8), (([] : Q8), 0))).1)), (.d (.bool (wordG (List.getD x0 (Int.toNat s7) (([] : Q8), (([] : Q8), 0))).1))), (.d (.bool (!(wordG (List.getD x0 (Int.toNat s7) (([] : Q8), (([] : Q8), 0))).1)))), (.d (.bool (!(wordG (List.getD x0 (Int.toNat s7) (([] : Q8), (([] : Q8), 0))).1)))), (.ptr 0 1), (.d (.str (List.getD x0 (Int.toNat s7) (([] : Q8), (([] : Q8), 0))).2.1)), (.d (.int .i64 (((List.length (List.getD x0 (Int.toNat s7) (([] : Q8), (([] : Q8), 0))).2.1) : Nat) : Int))), (.d (.bool (decide ((((List.length (List.getD x0 (Int.toNat s7) (([] : Q8), (([] : Q8), 0))).2.1) : Nat) : Int) > 24)))), (.d (.bool (decide ((((List.length (List.getD x0 (Int.toNat s7) (([] : Q8), (([] : Q8), 0))).2.1) : Nat) : Int) > 24)))), (.d (.bool (decide ((((List.length (List.getD x0 (Int.toNat s7) (([] : Q8), (([] : Q8), 0))).2.1) : Nat) : Int) > 24)))), (.ptr 0 2), (.d (.int .i64 (List.getD x0 (Int.toNat s7) (([] : Q8), (([] : Q8), 0))).2.2)), (.d (.str ([61] : Q8))), (.d (.bool (([61] : Q8) == ([] : Q8)))), (.d (.bool (([61] : Q8) == ([] : Q8)))), .top, .top, .top, .top], [(.cells [(.d (.str (List.getD x0 (Int.toNat s7) (([] : Q8), (([] : Q8), 0))).1)), (.d (.str (List.getD x0 (Int.toNat s7) (([] : Q8), (([] : Q8), 0))).2.1)), (.d (.int .i64 (List.getD x0 (Int.toNat s7) (([] : Q8), (([] : Q8), 0))).2.2))])])
  | 3 => (.ret, [(.d (.sl (.pair .str (.pair .str (.int .i64))) x0)), .top, (.d (.bool false)), .top, (.ptr 0 0), (.d (.sl (.pair .str (.pair .str (.int .i64))) x0)), (.d (.int .i64 s6)), (.d (.int .i64 s7)), (.d (.bool (decide (s7 < s6)))), (.cptr [(.str (List.getD x0 (Int.toNat s7) (([] : Q8), (([] : Q8), 0))).1), (.str (List.getD x0 (Int.toNat s7) (([] : Q8), (([] : Q8), 0))).2.1), (.int .i64 (List.getD x0 (Int.toNat s7) (([] : Q8), (([] : Q8), 0))).2.2)] 0), (.agg [(.d (.str (List.getD x0 (Int.toNat s7) (([] : Q8), (([] : Q8), 0))).1)), (.d (.str (List.getD x0 (Int.toNat s7) (([] : Q8), (([] : Q8), 0))).2.1)), (.d (.int .i64 (List.getD x0 (Int.toNat s7) (([] : Q8), (([] : Q8), 0))).2.2))]), (.ptr 0 0), (.d (.str (List.getD x0 (Int.toNat s7) (([] : Q8), (([] : Q8), 0))).1)), (.d (.bool (wordG (List.getD x0 (Int.toNat s7) (([] : Q8), (([] : Q8), 0))).1))), (.d (.bool (!(wordG (List.getD x0 (Int.toNat s7) (([] : Q8), (([] : Q8), 0))).1)))), (.d (.bool (!(wordG (List.getD x0 (Int.toNat s7) (([] : Q8), (([] : Q8), 0))).1)))), (.ptr 0 1), (.d (.str (List.getD x0 (Int.toNat s7) (([] : Q8), (([] : Q8), 0))).2.1)), (.d (.int .i64 (((List.length (List.getD x0 (Int.toNat s7) (([] : Q8), (([] : Q8), 0))).2.1) : Nat) : Int))), (.d (.bool (decide ((((List.length (List.getD x0 (Int.toNat s7) (([] : Q8), (([] : Q8), 0))).2.1) : Nat) : Int) > 24)))), (.d (.bool (decide ((((List.length (List.getD x0 (Int.toNat s7) (([] : Q8), (([] : Q8), 0))).2.1) : Nat) : Int) > 24)))), (.d (.bool (decide ((((List.length (List.getD x0 (Int.toNat s7) (([] : Q8), (([] : Q8), 0))).2.1) : Nat) : Int) > 24)))), (.ptr 0 2), (.d (.int .i64 (List.getD x0 (Int.toNat s7) (([] : Q8), (([] : Q8), 0))).2.2)), (.d (.str ([33, 61] : Q8))), (.d (.bool (([33, 61] : Q8) == ([] : Q8)))), (.d (.bool (([33, 61] : Q8) == ([] : Q8)))), .top, .top, .top, .top], [(.cells [(.d (.str (List.getD x0 (Int.toNat s7) (([] : Q8), (([] : Q8), 0))).1)), (.d (.str (List.getD x0 (Int.toNat s7) (([] : Q8), (([] : Q8), 0))).2.1)), (.d (.int .i64 (List.getD x0 (Int.toNat s7) (([] : Q8), (([] : Q8), 0))).2.2))])])
  | 4 => (.ret, [(.d (.sl (.pair .str (.pair .str (.int .i64))) x0)), .top, (.d (.bool false)), .top, (.ptr 0 0), (.d (.sl (.pair .str (.pair .str (.int .i64))) x0)), (.d (.int .i64 s6)), (.d (.int .i64 s7)), (.d (.bool (decide (s7 < s6)))), (.cptr [(.str (List.getD x0 (Int.toNat s7) (([] : Q8), (([] : Q8), 0))).1), (.str (List.getD x0 (Int.toNat s7) (([] : Q8), (([] : Q8), 0))).2.1), (.int .i64 (List.getD x0 (Int.toNat s7) (([] : Q8), (([] : Q8), 0))).2.2)] 0), (.agg [(.d (.str (List.getD x0 (Int.toNat s7) (([] : Q8), (([] : Q8), 0))).1)), (.d (.str (List.getD x0 (Int.toNat s7) (([] : Q8), (([] : Q8), 0))).2.1)), (.d (.int .i64 (List.getD x0 (Int.toNat s7) (([] : Q8), (([] : Q8), 0))).2.2))]), (.ptr 0 0), (.d (.str (List.getD x0 (Int.toNat s7) (([] : Q8), (([] : Q8), 0))).1)), (.d (.bool (wordG (List.getD x0 (Int.toNat s7) (([] : Q8), (([] : Q8), 0))).1))), (.d (.bool (!(wordG (List.getD x0 (Int.toNat s7) (([] : Q8), (([] : Q8), 0))).1)))), (.d (.bool (!(wordG (List.getD x0 (Int.toNat s7) (([] : Q8), (([] : Q8), 0))).1)))), (.ptr 0 1), (.d (.str (List.getD x0 (Int.toNat s7) (([] : Q8), (([] : Q8), 0))).2.1)), (.d (.int .i64 (((List.length (List.getD x0 (Int.toNat s7) (([] : Q8), (([] : Q8), 0))).2.1) : Nat) : Int))), (.d (.bool (decide ((((List.length (List.getD x0 (Int.toNat s7) (([] : Q8), (([] : Q8), 0))).2.1) : Nat) : Int) > 24)))), (.d (.bool (decide ((((List.length (List.getD x0 (Int.toNat s7) (([] : Q8), (([] : Q8), 0))).2.1) : Nat) : Int) > 24)))), (.d (.bool (decide ((((List.length (List.getD x0 (Int.toNat s7) (([] : Q8), (([] : Q8), 0))).2.1) : Nat) : Int) > 24)))), (.ptr 0 2), (.d (.int .i64 (List.getD x0 (Int.toNat s7) (([] : Q8), (([] : Q8), 0))).2.2)), (.d (.str ([94, 61] : Q8))), (.d (.bool (([94, 61] : Q8) == ([] : Q8)))), (.d (.bool (([94, 61] : Q8) == ([] : Q8)))), .top, .top, .top, .top], [(.cells [(.d (.str (List.getD x0 (Int.toNat s7) (([] : Q8), (([] : Q8), 0))).1)), (.d (.str (List.getD x0 (Int.toNat s7) (([] : Q8), (([] : Q8), 0))).2.1)), (.d (.int .i64 (List.getD x0 (Int.toNat s7) (([] : Q8), (([] : Q8), 0))).2.2))])])
  | 5 => (.ret, [(.d (.sl (.pair .str (.pair .str (.int .i64))) x0)), .top, (.d (.bool false)), .top, (.ptr 0 0), (.d (.sl (.pair .str (.pair .str (.int .i64))) x0)), (.d (.int .i64 s6)), (.d (.int .i64 s7)), (.d (.bool (decide (s7 < s6)))), (.cptr [(.str (List.getD x0 (Int.toNat s7) (([] : Q8), (([] : Q8), 0))).1), (.str (List.getD x0 (Int.toNat s7) (([] : Q8), (([] : Q8), 0))).2.1), (.int .i64 (List.getD x0 (Int.toNat s7) (([] : Q8), (([] : Q8), 0))).2.2)] 0), (.agg [(.d (.str (List.getD x0 (Int.toNat s7) (([] : Q8), (([] : Q8), 0))).1)), (.d (.str (List.getD x0 (Int.toNat s7) (([] : Q8), (([] : Q8), 0))).2.1)), (.d (.int .i64 (List.getD x0 (Int.toNat s7) (([] : Q8), (([] : Q8), 0))).2.2))]), (.ptr 0 0), (.d (.str (List.getD x0 (Int.toNat s7) (([] : Q8), (([] : Q8), 0))).1)), (.d (.bool (wordG (List.getD x0 (Int.toNat s7) (([] : Q8), (([] : Q8), 0))).1))), (.d (.bool (!(wordG (List.getD x0 (Int.toNat s7) (([] : Q8), (([] : Q8), 0))).1)))), (.d (.bool (!(wordG (List.getD x0 (Int.toNat s7) (([] : Q8), (([] : Q8), 0))).1)))), (.ptr 0 1), (.d (.str (List.getD x0 (Int.toNat s7) (([] : Q8), (([] : Q8), 0))).2.1)), (.d (.int .i64 (((List.length (List.getD x0 (Int.toNat s7) (([] : Q8), (([] : Q8), 0))).2.1) : Nat) : Int))), (.d (.bool (decide ((((List.length (List.getD x0 (Int.toNat s7) (([] : Q8), (([] : Q8), 0))).2.1) : Nat) : Int) > 24)))), (.d (.bool (decide ((((List.length (List.getD x0 (Int.toNat s7) (([] : Q8), (([] : Q8), 0))).2.1) : Nat) : Int) > 24)))), (.d (.bool (decide ((((List.length (List.getD x0 (Int.toNat s7) (([] : Q8), (([] : Q8), 0))).2.1) : Nat) : Int) > 24)))), (.ptr 0 2), (.d (.int .i64 (List.getD x0 (Int.toNat s7) (([] : Q8), (([] : Q8), 0))).2.2)), (.d (.str ([33, 94] : Q8))), (.d (.bool (([33, 94] : Q8) == ([] : Q8)))), (.d (.bool (([33, 94] : Q8) == ([] : Q8)))), .top, .top, .top, .top], [(.cells [(.d (.str (List.getD x0 (Int.toNat s7) (([] : Q8), (([] : Q8), 0))).1)), (.d (.str (List.getD x0 (Int.toNat s7) (([] : Q8), (([] : Q8), 0))).2.1)), (.d (.int .i64 (List.getD x0 (Int.toNat s7) (([] : Q8), (([] : Q8), 0))).2.2))])])
  | 6 => (.ret, [(.d (.sl (.pair .str (.pair .str (.int .i64))) x0)), .top, (.d (.bool false)), .top, (.ptr 0 0), (.d (.sl (.pair .str (.pair .str (.int .i64))) x0)), (.d (.int .i64 s6)), (.d (.int .i64 s7)), (.d (.bool (decide (s7 < s6)))), (.cptr [(.str (List.getD x0 (Int.toNat s7) (([] : Q8), (([] : Q8), 0))).1), (.str (List.getD x0 (Int.toNat s7) (([] : Q8), (([] : Q8), 0))).2.1), (.int .i64 (List.getD x0 (Int.toNat s7) (([] : Q8), (([] : Q8), 0))).2.2)] 0), (.agg [(.d (.str (List.getD x0 (Int.toNat s7) (([] : Q8), (([] : Q8), 0))).1)), (.d (.str (List.getD x0 (Int.toNat s7) (([] : Q8), (([] : Q8), 0))).2.1)), (.d (.int .i64 (List.getD x0 (Int.toNat s7) (([] : Q8), (([] : Q8), 0))).2.2))]), (.ptr 0 0), (.d (.str (List.getD x0 (Int.toNat s7) (([] : Q8), (([] : Q8), 0))).1)), (.d (.bool (wordG (List.getD x0 (Int.toNat s7) (([] : Q8), (([] : Q8), 0))).1))), (.d (.bool (!(wordG (List.getD x0 (Int.toNat s7) (([] : Q8), (([] : Q8), 0))).1)))), (.d (.bool (!(wordG (List.getD x0 (Int.toNat s7) (([] : Q8), (([] : Q8), 0))).1)))), (.ptr 0 1), (.d (.str (List.getD x0 (Int.toNat s7) (([] : Q8), (([] : Q8), 0))).2.1)), (.d (.int .i64 (((List.length (List.getD x0 (Int.toNat s7) (([] : Q8), (([] : Q8), 0))).2.1) : Nat) : Int))), (.d (.bool (decide ((((List.length (List.getD x0 (Int.toNat s7) (([] : Q8), (([] : Q8), 0))).2.1) : Nat) : Int) > 24)))), (.d (.bool (decide ((((List.length (List.getD x0 (Int.toNat s7) (([] : Q8), (([] : Q8), 0))).2.1) : Nat) : Int) > 24)))), (.d (.bool (decide ((((List.length (List.getD x0 (Int.toNat s7) (([] : Q8), (([] : Q8), 0))).2.1) : Nat) : Int) > 24)))), (.ptr 0 2), (.d (.int .i64 (List.getD x0 (Int.toNat s7) (([] : Q8), (([] : Q8), 0))).2.2)), (.d (.str ([] : Q8))), (.d (.bool (([] : Q8) == ([] : Q8)))), (.d (.bool (([] : Q8) == ([] : Q8)))), .top, .top, .top, .top], [(.cells [(.d (.str (List.getD x0 (Int.toNat s7) (([] : Q8), (([] : Q8), 0))).1)), (.d (.str (List.getD x0 (Int.toNat s7) (([] : Q8), (([] : Q8), 0))).2.1)), (.d (.int .i64 (List.getD x0 (Int.toNat s7) (([] : Q8), (([] : Q8), 0))).2.2))])])
  | _ => (.exit 0, ((.d (.sl (.pair .str (.pair .str (.int .i64))) x0)) :: .top :: .top :: .top :: .top :: (.d (.sl (.pair .str (.pair .str (.int .i64))) x0)) :: (.d (.int .i64 s6)) :: (.d (.int .i64 s7)) :: (.d (.bool (decide (s7 < s6)))) :: tp22 []), [])
noncomputable def lbl26_0 : AC := loopBody 225 body26
@[reducible] noncomputable def cb4 (m : Nat) := (evC byref (evCall F S10 (m + 24)) (m + 24) 0 (hds 26) lbl26_0)


theorem l26_0_step (m n : Nat) (ih : ∀ (x0 : Q4) (s6 : Int) (s7 : Int) (q : Nat × Int), l26_0 m n x0 s6 s7 = some q → (turns (hds 26 225) 0 225 (cb4 m) n (l26_0H x0 s6 s7) (l26_0B x0 s6 s7)).run = some (l26_0E (x0) (s6) (q.2) q.1)) (x0 : Q4) (s6 : Int) (s7 : Int) (q : Nat × Int) (h : l26_0 m (n + 1) x0 s6 s7 = some q) : (turns (hds 26 225) 0 225 (cb4 m) (n + 1) (l26_0H x0 s6 s7) (l26_0B x0 s6 s7)).run = some (l26_0E (x0) (s6) (q.2) q.1) := by
  rw [l26_0] at h
  refine ite_cases h (fun c0 h => ?_) (fun c0 h => ?_)
  · skip
    obtain ⟨c1, h⟩ := iY h
    obtain ⟨c2, h⟩ := iY h
    obtain ⟨c3, h⟩ := iY h
    refine ite_cases h (fun c4 h => ?_) (fun c4 h => ?_)
    · skip
      refine ite_cases h (fun c9 h => ?_) (fun c9 h => ?_)
      · skip
        cases h
        refine turns_last (by simp) ?_
        exact M.run_of_path _ [tT, tT, tT, tT, fF, fF, fF, fF, fF, tT, tT, tT, tT, tT, tT] _ _ (by kernel_rfl) (all_t c0 (all_t c1 (all_t c2 (all_t c3 (all_nt c4 (all_nt c4 (all_nt c4 (all_nt c4 (all_nt c4 (all_t c9 (all_t c9 (all_t c9 (all_t c9 (all_t c9 (all_t rfl all_nil)))))))))))))))
      · skip
        refine ite_cases h (fun c12 h => ?_) (fun c12 h => ?_)
        · skip
          refine ite_cases h (fun c15 h => ?_) (fun c15 h => ?_)
          · skip
            cases h
            refine turns_last (by simp) ?_
            exact M.run_of_path _ [tT, tT, tT, tT, fF, fF, fF, fF, fF, fF, fF, fF, tT, fF, fF, tT] _ _ (by kernel_rfl) (all_t c0 (all_t c1 (all_t c2 (all_t c3 (all_nt c4 (all_nt c4 (all_nt c4 (all_nt c4 (all_nt c4 (all_f c9 (all_f c9 (all_f c9 (all_t c12 (all_f c9 (all_f c9 (all_t c15 all_nil))))))))))))))))
          · skip
            have ih := ih _ _ _ q h
            refine turns_step ?_ ih
            exact M.run_of_path _ [tT, tT, tT, tT, fF, fF, fF, fF, fF, fF, fF, fF, tT, fF, fF, fF] _ _ (by kernel_rfl) (all_t c0 (all_t c1 (all_t c2 (all_t c3 (all_nt c4 (all_nt c4 (all_nt c4 (all_nt c4 (all_nt c4 (all_f c9 (all_f c9 (all_f c9 (all_t c12 (all_f c9 (all_f c9 (all_f c15 all_nil))))))))))))))))
        · skip
          refine ite_cases h (fun c13 h => ?_) (fun c13 h => ?_)
          · skip
            refine ite_cases h (fun c16 h => ?_) (fun c16 h => ?_)
            · skip
              cases h
              refine turns_last (by simp) ?_
              exact M.run_of_path _ [tT, tT, tT, tT, fF, fF, fF, fF, fF, fF, fF, fF, fF, tT, fF, fF, tT] _ _ (by kernel_rfl) (all_t c0 (all_t c1 (all_t c2 (all_t c3 (all_nt c4 (all_nt c4 (all_nt c4 (all_nt c4 (all_nt c4 (all_f c9 (all_f c9 (all_f c9 (all_f c12 (all_t c13 (all_f c9 (all_f c9 (all_t c16 all_nil)))))))))))))))))
            · skip
              have ih := ih _ _ _ q h
              refine turns_step ?_ ih
              exact M.run_of_path _ [tT, tT, tT, tT, fF, fF, fF, fF, fF, fF, fF, fF, fF, tT, fF, fF, fF] _ _ (by kernel_rfl) (all_t c0 (all_t c1 (all_t c2 (all_t c3 (all_nt c4 (all_nt c4 (all_nt c4 (all_nt c4 (all_nt c4 (all_f c9 (all_f c9 (all_f c9 (all_f c12 (all_t c13 (all_f c9 (all_f c9 (all_f c16 all_nil)))))))))))))))))
          · skip
            refine ite_cases h (fun c14 h => ?_) (fun c14 h => ?_)
            · skip
              refine ite_cases h (fun c17 h => ?_) (fun c17 h => ?_)
              · skip
                cases h
                refine turns_last (by simp) ?_
                exact M.run_of_path _ [tT, tT, tT, tT, fF, fF, fF, fF, fF, fF, fF, fF, fF, fF, tT, fF, fF, tT] _ _ (by kernel_rfl) (all_t c0 (all_t c1 (all_t c2 (all_t c3 (all_nt c4 (all_nt c4 (all_nt c4 (all_nt c4 (all_nt c4 (all_f c9 (all_f c9 (all_f c9 (all_f c12 (all_f c13 (all_t c14 (all_f c9 (all_f c9 (all_t c17 all_nil))))))))))))))))))
              · skip
                have ih := ih _ _ _ q h
                refine turns_step ?_ ih
                exact M.run_of_path _ [tT, tT, tT, tT, fF, fF, fF, fF, fF, fF, fF, fF, fF, fF, tT, fF, fF, fF] _ _ (by kernel_rfl) (all_t c0 (all_t c1 (all_t c2 (all_t c3 (all_nt c4 (all_nt c4 (all_nt c4 (all_nt c4 (all_nt c4 (all_f c9 (all_f c9 (all_f c9 (all_f c12 (all_f c13 (all_t c14 (all_f c9 (all_f c9 (all_f c17 all_nil))))))))))))))))))
            · skip
              refine ite_cases h (fun c15 h => ?_) (fun c15 h => ?_)
              · skip
                refine ite_cases h (fun c18 h => ?_) (fun c18 h => ?_)
                · skip
                  cases h
                  refine turns_last (by simp) ?_
                  exact M.run_of_path _ [tT, tT, tT, tT, fF, fF, fF, fF, fF, fF, fF, fF, fF, fF, fF, tT, fF, fF, tT] _ _ (by kernel_rfl) (all_t c0 (all_t c1 (all_t c2 (all_t c3 (all_nt c4 (all_nt c4 (all_nt c4 (all_nt c4 (all_nt c4 (all_f c9 (all_f c9 (all_f c9 (all_f c12 (all_f c13 (all_f c14 (all_t c15 (all_f c9 (all_f c9 (all_t c18 all_nil)))))))))))))))))))
                · skip
                  have ih := ih _ _ _ q h
                  refine turns_step ?_ ih
                  exact M.run_of_path _ [tT, tT, tT, tT, fF, fF, fF, fF, fF, fF, fF, fF, fF, fF, fF, tT, fF, fF, fF] _ _ (by kernel_rfl) (all_t c0 (all_t c1 (all_t c2 (all_t c3 (all_nt c4 (all_nt c4 (all_nt c4 (all_nt c4 (all_nt c4 (all_f c9 (all_f c9 (all_f c9 (all_f c12 (all_f c13 (all_f c14 (all_t c15 (all_f c9 (all_f c9 (all_f c18 all_nil)))))))))))))))))))
              · skip
                refine ite_cases h (fun c18 h => ?_) (fun c18 h => ?_)
                · skip
                  cases h
                  refine turns_last (by simp) ?_
                  exact M.run_of_path _ [tT, tT, tT, tT, fF, fF, fF, fF, fF, fF, fF, fF, fF, fF, fF, fF, fF, fF, tT] _ _ (by kernel_rfl) (all_t c0 (all_t c1 (all_t c2 (all_t c3 (all_nt c4 (all_nt c4 (all_nt c4 (all_nt c4 (all_nt c4 (all_f c9 (all_f c9 (all_f c9 (all_f c12 (all_f c13 (all_f c14 (all_f c15 (all_f c9 (all_f c9 (all_t c18 all_nil)))))))))))))))))))
                · skip
                  have ih := ih _ _ _ q h
                  refine turns_step ?_ ih
                  exact M.run_of_path _ [tT, tT, tT, tT, fF, fF, fF, fF, fF, fF, fF, fF, fF, fF, fF, fF, fF, fF, fF] _ _ (by kernel_rfl) (all_t c0 (all_t c1 (all_t c2 (all_t c3 (all_nt c4 (all_nt c4 (all_nt c4 (all_nt c4 (all_nt c4 (all_f c9 (all_f c9 (all_f c9 (all_f c12 (all_f c13 (all_f c14 (all_f c15 (all_f c9 (all_f c9 (all_f c18 all_nil)))))))))))))))))))
    · skip
      cases h
      refine turns_last (by simp) ?_
      exact M.run_of_path _ [tT, tT, tT, tT, tT, tT, tT, tT, tT, tT, tT, tT, tT, tT, tT] _ _ (by kernel_rfl) (all_t c0 (all_t c1 (all_t c2 (all_t c3 (all_nf c4 (all_nf c4 (all_nf c4 (all_nf c4 (all_nf c4 (all_t rfl (all_t rfl (all_t rfl (all_t rfl (all_t rfl (all_t rfl all_nil)))))))))))))))
  · skip
    cases h
    refine turns_last (by simp) ?_
    exact M.run_of_path _ [fF] _ _ (by kernel_rfl) (all_f c0 all_nil)
theorem l26_0_ok (m : Nat) : ∀ (n : Nat) (x0 : Q4) (s6 : Int) (s7 : Int) (q : Nat × Int), l26_0 m n x0 s6 s7 = some q → (turns (hds 26 225) 0 225 (cb4 m) n (l26_0H x0 s6 s7) (l26_0B x0 s6 s7)).run = some (l26_0E (x0) (s6) (q.2) q.1)
  | 0, x0, s6, s7, q, h => by cases h
  | n + 1, x0, s6, s7, q, h => l26_0_step m n (l26_0_ok m n) x0 s6 s7 q h

def p26 (m : Nat) (x0 : Q4) : Option (Bool) :=
  if (Option.isSome (l26_0 m (m + 24) x0 ((((List.length x0) : Nat) : Int)) 0)) = true then
  if ((l26_0R m (m + 24) x0 ((((List.length x0) : Nat) : Int)) 0).1 == 0) = true then
    some (false)
  else
    if ((l26_0R m (m + 24) x0 ((((List.length x0) : Nat) : Int)) 0).1 == 1) = true then
      some (false)
    else
      if ((l26_0R m (m + 24) x0 ((((List.length x0) : Nat) : Int)) 0).1 == 2) = true then
        some (false)
      else
        if ((l26_0R m (m + 24) x0 ((((List.length x0) : Nat) : Int)) 0).1 == 3) = true then
          some (false)
        else
          if ((l26_0R m (m + 24) x0 ((((List.length x0) : Nat) : Int)) 0).1 == 4) = true then
            some (false)
          else
            if ((l26_0R m (m + 24) x0 ((((List.length x0) : Nat) : Int)) 0).1 == 5) = true then
              some (false)
            else
              if ((l26_0R m (m + 24) x0 ((((List.length x0) : Nat) : Int)) 0).1 == 6) = true then
                some (false)
              else
                if ((l26_0R m (m + 24) x0 ((((List.length x0) : Nat) : Int)) 0).1 == 7) = true then
                some (decide ((((List.length x0) : Nat) : Int) ≤ 6))
                else none
  else none
theorem p26_ok (m : Nat) (x0 : Q4) (q : Bool) (h : p26 m x0 = some q) : ∃ r B1, (evCall F S10 (m + 25) 26 [(.d (.sl (.pair .str (.pair .str (.int .i64))) x0))] []).run = some (r, B1) ∧ 0 ≤ B1.length ∧ wkR B1 [] r (.d (.bool (q))) ∧ wkBs B1 [] 0 [] := by
  unfold p26 at h
  obtain ⟨c0, h⟩ := iY h
  refine ite_cases h (fun c1 h => ?_) (fun c1 h => ?_)
  · skip
    cases h
    refine ⟨(.d (.bool false)), [], runT_ok (LS := (fun k => if k = 225 then some (l26_0E x0 (((((List.length x0) : Nat) : Int))) ((l26_0R m (m + 24) x0 ((((List.length x0) : Nat) : Int)) 0).2) 0) else none)) (fn := fn26) (vis := [(225, l26_0H x0 ((((List.length x0) : Nat) : Int)) 0, l26_0B x0 ((((List.length x0) : Nat) : Int)) 0)]) (by kernel_rfl) rfl (by kernel_rfl) (M.run_of_path _ [] _ _ (by kernel_rfl) all_nil) ?_, by simp, (wkR.one (wkV.one (wk1.eq rfl))), trivial⟩
    intro p hp p2 hq
    rcases List.mem_cons.1 hp with rfl | hp
    · skip
      have h3 := l26_0_ok m (m + 24) x0 ((((List.length x0) : Nat) : Int)) 0 _ (some_getD (d := l26_0D) c0)
      rw [eq_of_beq c1] at h3
      exact Eq.trans (Eq.mp (by kernel_rfl) h3) hq
    cases hp
  · skip
    refine ite_cases h (fun c2 h => ?_) (fun c2 h => ?_)
    · skip
      cases h
      refine ⟨(.d (.bool false)), [], runT_ok (LS := (fun k => if k = 225 then some (l26_0E x0 (((((List.length x0) : Nat) : Int))) ((l26_0R m (m + 24) x0 ((((List.length x0) : Nat) : Int)) 0).2) 1) else none)) (fn := fn26) (vis := [(225, l26_0H x0 ((((List.length x0) : Nat) : Int)) 0, l26_0B x0 ((((List.length x0) : Nat) : Int)) 0)]) (by kernel_rfl) rfl (by kernel_rfl) (M.run_of_path _ [] _ _ (by kernel_rfl) all_nil) ?_, by simp, (wkR.one (wkV.one (wk1.eq rfl))), trivial⟩
      intro p hp p2 hq
      rcases List.mem_cons.1 hp with rfl | hp
      · skip
        have h3 := l26_0_ok m (m + 24) x0 ((((List.length x0) : Nat) : Int)) 0 _ (some_getD (d := l26_0D) c0)
        rw [eq_of_beq c2] at h3
        exact Eq.trans (Eq.mp (by kernel_rfl) h3) hq
      cases hp
    · skip
      refine ite_cases h (fun c3 h => ?_) (fun c3 h => ?_)
      · skip
        cases h
        refine ⟨(.d (.bool false)), [], runT_ok (LS := (fun k => if k = 225 then some (l26_0E x0 (((((List.length x0) : Nat) : Int))) ((l26_0R m (m + 24) x0 ((((List.length x0) : Nat) : Int)) 0).2) 2) else none)) (fn := fn26) (vis := [(225, l26_0H x0 ((((List.length x0) : Nat) : Int)) 0, l26_0B x0 ((((List.length x0) : Nat) : Int)) 0)]) (by kernel_rfl) rfl (by kernel_rfl) (M.run_of_path _ [] _ _ (by kernel_rfl) all_nil) ?_, by simp, (wkR.one (wkV.one (wk1.eq rfl))), trivial⟩
        intro p hp p2 hq
        rcases List.mem_cons.1 hp with rfl | hp
        · skip
          have h3 := l26_0_ok m (m + 24) x0 ((((List.length x0) : Nat) : Int)) 0 _ (some_getD (d := l26_0D) c0)
          rw [eq_of_beq c3] at h3
          exact Eq.trans (Eq.mp (by kernel_rfl) h3) hq
        cases hp
      · skip
        refine ite_cases h (fun c4 h => ?_) (fun c4 h => ?_)
        · skip
          cases h
          refine ⟨(.d (.bool false)), [], runT_ok (LS := (fun k => if k = 225 then some (l26_0E x0 (((((List.length x0) : Nat) : Int))) ((l26_0R m (m + 24) x0 ((((List.length x0) : Nat) : Int)) 0).2) 3) else none)) (fn := fn26) (vis := [(225, l26_0H x0 ((((List.length x0) : Nat) : Int)) 0, l26_0B x0 ((((List.length x0) : Nat) : Int)) 0)]) (by kernel_rfl) rfl (by kernel_rfl) (M.run_of_path _ [] _ _ (by kernel_rfl) all_nil) ?_, by simp, (wkR.one (wkV.one (wk1.eq rfl))), trivial⟩
          intro p hp p2 hq
          rcases List.mem_cons.1 hp with rfl | hp
          · skip
            have h3 := l26_0_ok m (m + 24) x0 ((((List.length x0) : Nat) : Int)) 0 _ (some_getD (d := l26_0D) c0)
            rw [eq_of_beq c4] at h3
            exact Eq.trans (Eq.mp (by kernel_rfl) h3) hq
          cases hp
        · skip
          refine ite_cases h (fun c5 h => ?_) (fun c5 h => ?_)
          · skip
            cases h
            refine ⟨(.d (.bool false)), [], runT_ok (LS := (fun k => if k = 225 then some (l26_0E x0 (((((List.length x0) : Nat) : Int))) ((l26_0R m (m + 24) x0 ((((List.length x0) : Nat) : Int)) 0).2) 4) else none)) (fn := fn26) (vis := [(225, l26_0H x0 ((((List.length x0) : Nat) : Int)) 0, l26_0B x0 ((((List.length x0) : Nat) : Int)) 0)]) (by kernel_rfl) rfl (by kernel_rfl) (M.run_of_path _ [] _ _ (by kernel_rfl) all_nil) ?_, by simp, (wkR.one (wkV.one (wk1.eq rfl))), trivial⟩
            intro p hp p2 hq
            rcases List.mem_cons.1 hp with rfl | hp
            · skip
              have h3 := l26_0_ok m (m + 24) x0 ((((List.length x0) : Nat) : Int)) 0 _ (some_getD (d := l26_0D) c0)
              rw [eq_of_beq c5] at h3
              exact Eq.trans (Eq.mp (by kernel_rfl) h3) hq
            cases hp
          · skip
            refine ite_cases h (fun c6 h => ?_) (fun c6 h => ?_)
            · skip
              cases h
              refine ⟨(.d (.bool false)), [], runT_ok (LS := (fun k => if k = 225 then some (l26_0E x0 (((((List.length x0) : Nat) : Int))) ((l26_0R m (m + 24) x0 ((((List.length x0) : Nat) : Int)) 0).2) 5) else none)) (fn := fn26) (vis := [(225, l26_0H x0 ((((List.length x0) : Nat) : Int)) 0, l26_0B x0 ((((List.length x0) : Nat) : Int)) 0)]) (by kernel_rfl) rfl (by kernel_rfl) (M.run_of_path _ [] _ _ (by kernel_rfl) all_nil) ?_, by simp, (wkR.one (wkV.one (wk1.eq rfl))), trivial⟩
              intro p hp p2 hq
              rcases List.mem_cons.1 hp with rfl | hp
              · skip
                have h3 := l26_0_ok m (m + 24) x0 ((((List.length x0) : Nat) : Int)) 0 _ (some_getD (d := l26_0D) c0)
                rw [eq_of_beq c6] at h3
                exact Eq.trans (Eq.mp (by kernel_rfl) h3) hq
              cases hp
            · skip
              refine ite_cases h (fun c7 h => ?_) (fun c7 h => ?_)
              · skip
                cases h
                refine ⟨(.d (.bool false)), [], runT_ok (LS := (fun k => if k = 225 then some (l26_0E x0 (((((List.length x0) : Nat) : Int))) ((l26_0R m (m + 24) x0 ((((List.length x0) : Nat) : Int)) 0).2) 6) else none)) (fn := fn26) (vis := [(225, l26_0H x0 ((((List.length x0) : Nat) : Int)) 0, l26_0B x0 ((((List.length x0) : Nat) : Int)) 0)]) (by kernel_rfl) rfl (by kernel_rfl) (M.run_of_path _ [] _ _ (by kernel_rfl) all_nil) ?_, by simp, (wkR.one (wkV.one (wk1.eq rfl))), trivial⟩
                intro p hp p2 hq
                rcases List.mem_cons.1 hp with rfl | hp
                · skip
                  have h3 := l26_0_ok m (m + 24) x0 ((((List.length x0) : Nat) : Int)) 0 _ (some_getD (d := l26_0D) c0)
                  rw [eq_of_beq c7] at h3
                  exact Eq.trans (Eq.mp (by kernel_rfl) h3) hq
                cases hp
              · skip
                obtain ⟨c8, h⟩ := iY h
                cases h
                refine ⟨(.d (.bool (decide ((((List.length x0) : Nat) : Int) ≤ 6)))), [], runT_ok (LS := (fun k => if k = 225 then some (l26_0E x0 (((((List.length x0) : Nat) : Int))) ((l26_0R m (m + 24) x0 ((((List.length x0) : Nat) : Int)) 0).2) 7) else none)) (fn := fn26) (vis := [(225, l26_0H x0 ((((List.length x0) : Nat) : Int)) 0, l26_0B x0 ((((List.length x0) : Nat) : Int)) 0)]) (by kernel_rfl) rfl (by kernel_rfl) (M.run_of_path _ [] _ _ (by kernel_rfl) all_nil) ?_, by simp, (wkR.one (wkV.one (wk1.eq rfl))), trivial⟩
                intro p hp p2 hq
                rcases List.mem_cons.1 hp with rfl | hp
                · skip
                  have h3 := l26_0_ok m (m + 24) x0 ((((List.length x0) : Nat) : Int)) 0 _ (some_getD (d := l26_0D) c0)
                  rw [eq_of_beq c8] at h3
                  exact Eq.trans (Eq.mp (by kernel_rfl) h3) hq
                cases hp

def okM (m : MT) : Bool := wordG m.1 && decide (m.2.1.length ≤ 24) && decide (1 ≤ m.2.2) && decide (m.2.2 ≤ 4)
def rightG (ms : List MT) : Bool := ms.all okM && decide (ms.length ≤ 6)
def okPre (m : MT) : Bool := decide (m.1.length ≤ 9223372036854775807)
def rightPre (ms : List MT) : Bool := decide (ms.length ≤ 1000000 ∧ ∀ m ∈ ms, m.1.length ≤ 9223372036854775807)
theorem right_loop (m : Nat) (ms : List MT) (h1 : ms.length ≤ 1000000) (h2 : ∀ x ∈ ms, x.1.length ≤ 9223372036854775807) : ∀ (n k : Nat), k ≤ ms.length → ms.length - k < n → ∃ e j, l26_0 m n ms (ms.length : Nat) (k : Nat) = some (e, j) ∧ ((e = 7 ∧ (ms.drop k).all okM = true) ∨ ((e = 0 ∨ e = 1 ∨ e = 2 ∨ e = 3 ∨ e = 4 ∨ e = 5 ∨ e = 6) ∧ (ms.drop k).all okM = false))
  | 0, k, _, h => by omega
  | n + 1, k, g1, g2 => by
    rw [l26_0]
    by_cases hk : k < ms.length
    · have e1 : decide (((k : Nat) : Int) < (((List.length ms) : Nat) : Int)) = true := decide_eq_true (by omega)
      have e2 : decide ((0 : Int) ≤ ((k : Nat) : Int)) = true := decide_eq_true (by omega)
      have e7 : IntKind.wrap .i64 (((k : Nat) : Int) + (1)) = ((k + 1 : Nat) : Int) := by rw [wrap_id (by omega) (by omega)]; rfl
      have hq := h2 _ (getD_mem ms k (([] : Q8), (([] : Q8), 0)) hk)
      have go := right_loop m ms h1 h2 n (k + 1) (by omega) (by omega)
      rw [drop_getD ms k (([] : Q8), (([] : Q8), 0)) hk]
      simp only [show Int.toNat ((k : Nat) : Int) = k from rfl, e1, e2, e7, List.all_cons, ↓reduceIte]
      generalize ms.getD k (([] : Q8), (([] : Q8), 0)) = q at *
      have e3 : decide (List.length q.1 ≤ 9223372036854775807) = true := decide_eq_true hq
      have n1 : (([61] : Q8) == ([] : Q8)) = false := rfl
      have n2 : (([33, 61] : Q8) == ([] : Q8)) = false := rfl
      have n3 : (([94, 61] : Q8) == ([] : Q8)) = false := rfl
      have n4 : (([33, 94] : Q8) == ([] : Q8)) = false := rfl
      have n5 : (([] : Q8) == ([] : Q8)) = true := rfl
      have hok : okM q = (wordG q.1 && decide (q.2.1.length ≤ 24) && decide (1 ≤ q.2.2) && decide (q.2.2 ≤ 4)) := rfl
      simp only [e3, n1, n2, n3, n4, n5, ↓reduceIte, Bool.false_eq_true]
      cases c1 : wordG q.1 with
      | false =>
        rw [c1] at hok
        simp only [↓reduceIte, Bool.false_eq_true]
        exact ⟨0, _, rfl, .inr ⟨by simp, by rw [hok]; rfl⟩⟩
      | true =>
        rw [c1] at hok
        by_cases c2 : q.2.1.length ≤ 24
        · have f1 : decide ((((List.length q.2.1) : Nat) : Int) > 24) = false := decide_eq_false (by omega)
          rw [show decide (q.2.1.length ≤ 24) = true from decide_eq_true c2] at hok
          simp only [f1, ↓reduceIte, Bool.false_eq_true]
          have yes : 1 ≤ q.2.2 → q.2.2 ≤ 4 → okM q = true := fun a b => by rw [hok, decide_eq_true a, decide_eq_true b]; rfl
          by_cases k1 : q.2.2 = 1
          · rw [if_pos (by simp [k1]), yes (by omega) (by omega), Bool.true_and]; exact go
          · rw [if_neg (by simpa using k1)]
            by_cases k2 : q.2.2 = 2
            · rw [if_pos (by simp [k2]), yes (by omega) (by omega), Bool.true_and]; exact go
            · rw [if_neg (by simpa using k2)]
              by_cases k3 : q.2.2 = 3
              · rw [if_pos (by simp [k3]), yes (by omega) (by omega), Bool.true_and]; exact go
              · rw [if_neg (by simpa using k3)]
                by_cases k4 : q.2.2 = 4
                · rw [if_pos (by simp [k4]), yes (by omega) (by omega), Bool.true_and]; exact go
                · rw [if_neg (by simpa using k4)]
                  refine ⟨6, _, rfl, .inr ⟨by simp, ?_⟩⟩
                  have : okM q = false := by
                    rw [hok]
                    by_cases c : 1 ≤ q.2.2
                    · rw [show decide (q.2.2 ≤ 4) = false from decide_eq_false (by omega)]; simp
                    · rw [show decide (1 ≤ q.2.2) = false from decide_eq_false c]; simp
                  rw [this]; rfl
        · have f1 : decide ((((List.length q.2.1) : Nat) : Int) > 24) = true := decide_eq_true (by omega)
          rw [show decide (q.2.1.length ≤ 24) = false from decide_eq_false c2] at hok
          simp only [f1, ↓reduceIte]
          exact ⟨1, _, rfl, .inr ⟨by simp, by rw [hok]; rfl⟩⟩
    · have e1 : decide (((k : Nat) : Int) < (((List.length ms) : Nat) : Int)) = false := decide_eq_false (by omega)
      rw [e1, if_neg (by simp), List.drop_eq_nil_of_le (by omega)]
      exact ⟨7, _, rfl, .inl ⟨rfl, rfl⟩⟩
theorem right26 (ms : List MT) (h : rightPre ms = true) : ∃ m, p26 m ms = some (rightG ms) := by
  have ⟨h1, h2⟩ := of_decide_eq_true h
  refine ⟨ms.length, ?_⟩
  obtain ⟨e, j, hr, hc⟩ := right_loop ms.length ms h1 h2 (ms.length + 24) 0 (by omega) (by omega)
  simp only [Int.natCast_zero, List.drop_zero] at hr hc
  have q2 : decide ((((List.length ms) : Nat) : Int) ≤ 6) = decide (ms.length ≤ 6) := by rw [decide_eq_decide]; omega
  unfold p26 rightG
  simp only [l26_0R, hr, q2, Option.isSome_some, Option.getD_some, ↓reduceIte]
  rcases hc with ⟨rfl, hc⟩ | ⟨rfl | rfl | rfl | rfl | rfl | rfl | rfl, hc⟩ <;> rw [hc] <;> first | rfl | simp
def s26 : List AV → Boxes → M (AV × Boxes) := normS [.val (.sl (.pair .str (.pair .str (.int .i64))))] [] fun xs B => match xs, B with
  | [(.d (.sl (.pair .str (.pair .str (.int .i64))) c1))], [] => .chk (rightPre c1) (.ret ((.d (.bool (rightG c1))), []))
  | _, _ => .fail
theorem s26_at : CallAt Tryd.prog 26 s26 := by
  refine CallAt.norm (CallAt.weakE (g := fun n => evCall F S10 n 26) (fun n => evCall_atH mixed kinds hds S10 S10_ok n 26) fun xs B r' B' hr => ?_) _ _
  split at hr
  · rename_i c1
    obtain ⟨hp, hr⟩ := (M.run_chk _ _ _).1 hr
    simp only [M.run, Option.some.injEq, Prod.mk.injEq] at hr
    obtain ⟨rfl, rfl⟩ := hr
    obtain ⟨m, hm⟩ := right26 c1 hp
    obtain ⟨r, B1, h1, h2, h3, h4⟩ := p26_ok m c1 _ hm
    exact ⟨m + 25, r, B1, h1, by simp, h2, h3, h4⟩
  · simp [M.run] at hr
noncomputable def S11 : FuncId → Option (List AV → Boxes → M (AV × Boxes)) := fun f => if f = 26 then some s26 else S10 f
theorem S11_ok : ∀ f s, S11 f = some s → CallAt Tryd.prog f s := by
  intro f s h
  unfold S11 at h
  split at h
  · rename_i e; subst e; cases h; exact s26_at
  · exact S10_ok f s h

noncomputable def fn25 : AFn := (F 25).getD ⟨0, [], .bad, false, false, noHd⟩
noncomputable def body25 : AC := fn25.body
def p25 (m : Nat) (x0 : (Q8) × (Q8) × Int) : Option (Bool) :=
  if decide (List.length x0.1 ≤ 9223372036854775807) = true then
  if (wordG x0.1) = true then
    if decide ((((List.length x0.2.1) : Nat) : Int) ≤ 24) = true then
      if decide (x0.2.2 ≥ 1) = true then
        some (decide (x0.2.2 ≤ 4))
      else
        some (false)
    else
      some (false)
  else
    some (false)
  else none
theorem p25_ok (m : Nat) (x0 : (Q8) × (Q8) × Int) (q : Bool) (h : p25 m x0 = some q) : ∃ r B1, (evCall F S11 (m + 25) 25 [(.agg [(.d (.str x0.1)), (.d (.str x0.2.1)), (.d (.int .i64 x0.2.2))])] []).run = some (r, B1) ∧ 0 ≤ B1.length ∧ wkR B1 [] r (.d (.bool (q))) ∧ wkBs B1 [] 0 [] := by
  unfold p25 at h
  obtain ⟨c0, h⟩ := iY h
  refine ite_cases h (fun c1 h => ?_) (fun c1 h => ?_)
  · skip
    refine ite_cases h (fun c6 h => ?_) (fun c6 h => ?_)
    · skip
      refine ite_cases h (fun c10 h => ?_) (fun c10 h => ?_)
      · skip
        cases h
        refine ⟨(.d (.bool (decide (x0.2.2 ≤ 4)))), [], runT_ok (LS := (fun k => none)) (fn := fn25) (vis := []) (by kernel_rfl) rfl (by kernel_rfl) (M.run_of_path _ [tT, tT, tT, tT, tT, tT, tT, tT, tT, tT, tT, tT, tT, tT] _ _ (by kernel_rfl) (all_t c0 (all_t c1 (all_t c1 (all_t c1 (all_t c1 (all_t c1 (all_t c6 (all_t c6 (all_t c6 (all_t c6 (all_t c10 (all_t c10 (all_t c10 (all_t c10 all_nil))))))))))))))) ?_, by simp, (wkR.one (wkV.one (wk1.eq rfl))), trivial⟩
        intro p hp; cases hp
      · skip
        cases h
        refine ⟨(.d (.bool false)), [], runT_ok (LS := (fun k => none)) (fn := fn25) (vis := []) (by kernel_rfl) rfl (by kernel_rfl) (M.run_of_path _ [tT, tT, tT, tT, tT, tT, tT, tT, tT, tT, fF, fF, fF, fF] _ _ (by kernel_rfl) (all_t c0 (all_t c1 (all_t c1 (all_t c1 (all_t c1 (all_t c1 (all_t c6 (all_t c6 (all_t c6 (all_t c6 (all_f c10 (all_f c10 (all_f c10 (all_f c10 all_nil))))))))))))))) ?_, by simp, (wkR.one (wkV.one (wk1.eq rfl))), trivial⟩
        intro p hp; cases hp
    · skip
      cases h
      refine ⟨(.d (.bool false)), [], runT_ok (LS := (fun k => none)) (fn := fn25) (vis := []) (by kernel_rfl) rfl (by kernel_rfl) (M.run_of_path _ [tT, tT, tT, tT, tT, tT, fF, fF, fF, fF, fF, fF, fF, fF] _ _ (by kernel_rfl) (all_t c0 (all_t c1 (all_t c1 (all_t c1 (all_t c1 (all_t c1 (all_f c6 (all_f c6 (all_f c6 (all_f c6 (all_f Bool.false_ne_true (all_f Bool.false_ne_true (all_f Bool.false_ne_true (all_f Bool.false_ne_true all_nil))))))))))))))) ?_, by simp, (wkR.one (wkV.one (wk1.eq rfl))), trivial⟩
      intro p hp; cases hp
  · skip
    cases h
    refine ⟨(.d (.bool false)), [], runT_ok (LS := (fun k => none)) (fn := fn25) (vis := []) (by kernel_rfl) rfl (by kernel_rfl) (M.run_of_path _ [tT, fF, fF, fF, fF, fF, fF, fF, fF, fF, fF, fF, fF, fF] _ _ (by kernel_rfl) (all_t c0 (all_f c1 (all_f c1 (all_f c1 (all_f c1 (all_f c1 (all_f Bool.false_ne_true (all_f Bool.false_ne_true (all_f Bool.false_ne_true (all_f Bool.false_ne_true (all_f Bool.false_ne_true (all_f Bool.false_ne_true (all_f Bool.false_ne_true (all_f Bool.false_ne_true all_nil))))))))))))))) ?_, by simp, (wkR.one (wkV.one (wk1.eq rfl))), trivial⟩
    intro p hp; cases hp

theorem rmat25 (x : MT) (h : okPre x = true) : ∃ m, p25 m x = some (okM x) := by
  refine ⟨0, ?_⟩
  unfold p25 okM
  have e3 : decide (List.length x.1 ≤ 9223372036854775807) = true := h
  have q1 : decide ((((List.length x.2.1) : Nat) : Int) ≤ 24) = decide (x.2.1.length ≤ 24) := by rw [decide_eq_decide]; omega
  have q2 : decide (x.2.2 ≥ 1) = decide (1 ≤ x.2.2) := rfl
  rw [if_pos e3, q1, q2]
  cases wordG x.1 <;> cases decide (x.2.1.length ≤ 24) <;> cases decide (1 ≤ x.2.2) <;> cases decide (x.2.2 ≤ 4) <;> rfl
def s25 : List AV → Boxes → M (AV × Boxes) := normS [.val (.pair .str (.pair .str (.int .i64)))] [] fun xs B => match xs, B with
  | [(.agg [(.d (.str c1)), (.d (.str c2)), (.d (.int .i64 c3))])], [] => .chk (okPre ((c1, (c2, c3)))) (.ret ((.d (.bool (okM ((c1, (c2, c3)))))), []))
  | _, _ => .fail
theorem s25_at : CallAt Tryd.prog 25 s25 := by
  refine CallAt.norm (CallAt.weakE (g := fun n => evCall F S11 n 25) (fun n => evCall_atH mixed kinds hds S11 S11_ok n 25) fun xs B r' B' hr => ?_) _ _
  split at hr
  · rename_i c1 c2 c3
    obtain ⟨hp, hr⟩ := (M.run_chk _ _ _).1 hr
    simp only [M.run, Option.some.injEq, Prod.mk.injEq] at hr
    obtain ⟨rfl, rfl⟩ := hr
    obtain ⟨m, hm⟩ := rmat25 ((c1, (c2, c3))) hp
    obtain ⟨r, B1, h1, h2, h3, h4⟩ := p25_ok m ((c1, (c2, c3))) _ hm
    exact ⟨m + 25, r, B1, h1, by simp, h2, h3, h4⟩
  · simp [M.run] at hr
noncomputable def S12 : FuncId → Option (List AV → Boxes → M (AV × Boxes)) := fun f => if f = 25 then some s25 else S11 f
theorem S12_ok : ∀ f s, S12 f = some s → CallAt Tryd.prog f s := by
  intro f s h
  unfold S12 at h
  split at h
  · rename_i e; subst e; cases h; exact s25_at
  · exact S11_ok f s h

noncomputable def fn16 : AFn := (F 16).getD ⟨0, [], .bad, false, false, noHd⟩
noncomputable def body16 : AC := fn16.body
def l16_0 (m : Nat) : Nat → Q4 → Int → Int → Option (Nat × Int)
  | 0, _, _, _ => none
  | n + 1, x0, s6, s7 => if decide (s7 < s6) = true then
      if decide (0 ≤ s7) = true then
      if decide (s7 < (((List.length x0) : Nat) : Int)) = true then
      if okPre (List.getD x0 (Int.toNat s7) (([] : Q8), (([] : Q8), 0))) = true then
      if (okM (List.getD x0 (Int.toNat s7) (([] : Q8), (([] : Q8), 0)))) = true then
        l16_0 m n x0 s6 ((IntKind.wrap .i64 (s7 + (1))))
      else
        some (0, s7)
      else none
      else none
      else none
    else
      some (1, s7)
def l16_0D : Nat × Int := (0, 0)
@[reducible] def l16_0R (m n : Nat) (x0 : Q4) (s6 : Int) (s7 : Int) : Nat × Int := Option.getD (l16_0 m n x0 s6 s7) l16_0D
def l16_0H (x0 : Q4) (s6 : Int) (s7 : Int) : Env := ((.d (.sl (.pair .str (.pair .str (.int .i64))) x0)) :: .top :: .top :: .top :: .top :: (.d (.sl (.pair .str (.pair .str (.int .i64))) x0)) :: (.d (.int .i64 s6)) :: (.d (.int .i64 s7)) :: tp10 [])
def l16_0B (x0 : Q4) (s6 : Int) (s7 : Int) : Boxes := []
def l16_0E (x0 : Q4) (s6 : Int) (s7 : Int) : Nat → AEx × Env × Boxes
  | 0 => (.ret, [(.d (.sl (.pair .str (.pair .str (.int .i64))) x0)), .top, (.d (.bool false)), .top, (.ptr 0 0), (.d (.sl (.pair .str (.pair .str (.int .i64))) x0)), (.d (.int .i64 s6)), (.d (.int .i64 s7)), (.d (.bool (decide (s7 < s6)))), (.cptr [(.str (List.getD x0 (Int.toNat s7) (([] : Q8), (([] : Q8), 0))).1), (.str (List.getD x0 (Int.toNat s7) (([] : Q8), (([] : Q8), 0))).2.1), (.int .i64 (List.getD x0 (Int.toNat s7) (([] : Q8), (([] : Q8), 0))).2.2)] 0), (.agg [(.d (.str (List.getD x0 (Int.toNat s7) (([] : Q8), (([] : Q8), 0))).1)), (.d (.str (List.getD x0 (Int.toNat s7) (([] : Q8), (([] : Q8), 0))).2.1)), (.d (.int .i64 (List.getD x0 (Int.toNat s7) (([] : Q8), (([] : Q8), 0))).2.2))]), (.agg [(.d (.str (List.getD x0 (Int.toNat s7) (([] : Q8), (([] : Q8), 0))).1)), (.d (.str (List.getD x0 (Int.toNat s7) (([] : Q8), (([] : Q8), 0))).2.1)), (.d (.int .i64 (List.getD x0 (Int.toNat s7) (([] : Q8), (([] : Q8), 0))).2.2))]), (.d (.bool (okM (List.getD x0 (Int.toNat s7) (([] : Q8), (([] : Q8), 0)))))), (.d (.bool (!(okM (List.getD x0 (Int.toNat s7) (([] : Q8), (([] : Q8), 0))))))), .top, .top, .top, .top], [(.cells [(.d (.str (List.getD x0 (Int.toNat s7) (([] : Q8), (([] : Q8), 0))).1)), (.d (.str (List.getD x0 (Int.toNat s7) (([] : Q8), (([] : Q8), 0))).2.1)), (.d (.int .i64 (List.getD x0 (Int.toNat s7) (([] : Q8), (([] : Q8), 0))).2.2))])])
  | _ => (.exit 0, ((.d (.sl (.pair .str (.pair .str (.int .i64))) x0)) :: .top :: .top :: .top :: .top :: (.d (.sl (.pair .str (.pair .str (.int .i64))) x0)) :: (.d (.int .i64 s6)) :: (.d (.int .i64 s7)) :: (.d (.bool (decide (s7 < s6)))) :: tp9 []), [])
noncomputable def lbl16_0 : AC := loopBody 225 body16
@[reducible] noncomputable def cb5 (m : Nat) := (evC byref (evCall F S12 (m + 24)) (m + 24) 0 (hds 16) lbl16_0)


theorem l16_0_step (m n : Nat) (ih : ∀ (x0 : Q4) (s6 : Int) (s7 : Int) (q : Nat × Int), l16_0 m n x0 s6 s7 = some q → (turns (hds 16 225) 0 225 (cb5 m) n (l16_0H x0 s6 s7) (l16_0B x0 s6 s7)).run = some (l16_0E (x0) (s6) (q.2) q.1)) (x0 : Q4) (s6 : Int) (s7 : Int) (q : Nat × Int) (h : l16_0 m (n + 1) x0 s6 s7 = some q) : (turns (hds 16 225) 0 225 (cb5 m) (n + 1) (l16_0H x0 s6 s7) (l16_0B x0 s6 s7)).run = some (l16_0E (x0) (s6) (q.2) q.1) := by
  rw [l16_0] at h
  refine ite_cases h (fun c0 h => ?_) (fun c0 h => ?_)
  · skip
    obtain ⟨c1, h⟩ := iY h
    obtain ⟨c2, h⟩ := iY h
    obtain ⟨c3, h⟩ := iY h
    refine ite_cases h (fun c4 h => ?_) (fun c4 h => ?_)
    · skip
      have ih := ih _ _ _ q h
      refine turns_step ?_ ih
      exact M.run_of_path _ [tT, tT, tT, tT, fF] _ _ (by kernel_rfl) (all_t c0 (all_t c1 (all_t c2 (all_t c3 (all_nt c4 all_nil)))))
    · skip
      cases h
      refine turns_last (by simp) ?_
      exact M.run_of_path _ [tT, tT, tT, tT, tT] _ _ (by kernel_rfl) (all_t c0 (all_t c1 (all_t c2 (all_t c3 (all_nf c4 all_nil)))))
  · skip
    cases h
    refine turns_last (by simp) ?_
    exact M.run_of_path _ [fF] _ _ (by kernel_rfl) (all_f c0 all_nil)
theorem l16_0_ok (m : Nat) : ∀ (n : Nat) (x0 : Q4) (s6 : Int) (s7 : Int) (q : Nat × Int), l16_0 m n x0 s6 s7 = some q → (turns (hds 16 225) 0 225 (cb5 m) n (l16_0H x0 s6 s7) (l16_0B x0 s6 s7)).run = some (l16_0E (x0) (s6) (q.2) q.1)
  | 0, x0, s6, s7, q, h => by cases h
  | n + 1, x0, s6, s7, q, h => l16_0_step m n (l16_0_ok m n) x0 s6 s7 q h

def p16 (m : Nat) (x0 : Q4) : Option (Bool) :=
  if (Option.isSome (l16_0 m (m + 24) x0 ((((List.length x0) : Nat) : Int)) 0)) = true then
  if ((l16_0R m (m + 24) x0 ((((List.length x0) : Nat) : Int)) 0).1 == 0) = true then
    some (false)
  else
    if ((l16_0R m (m + 24) x0 ((((List.length x0) : Nat) : Int)) 0).1 == 1) = true then
    some (decide ((((List.length x0) : Nat) : Int) ≤ 6))
    else none
  else none
theorem p16_ok (m : Nat) (x0 : Q4) (q : Bool) (h : p16 m x0 = some q) : ∃ r B1, (evCall F S12 (m + 25) 16 [(.d (.sl (.pair .str (.pair .str (.int .i64))) x0))] []).run = some (r, B1) ∧ 0 ≤ B1.length ∧ wkR B1 [] r (.d (.bool (q))) ∧ wkBs B1 [] 0 [] := by
  unfold p16 at h
  obtain ⟨c0, h⟩ := iY h
  refine ite_cases h (fun c1 h => ?_) (fun c1 h => ?_)
  · skip
    cases h
    refine ⟨(.d (.bool false)), [], runT_ok (LS := (fun k => if k = 225 then some (l16_0E x0 (((((List.length x0) : Nat) : Int))) ((l16_0R m (m + 24) x0 ((((List.length x0) : Nat) : Int)) 0).2) 0) else none)) (fn := fn16) (vis := [(225, l16_0H x0 ((((List.length x0) : Nat) : Int)) 0, l16_0B x0 ((((List.length x0) : Nat) : Int)) 0)]) (by kernel_rfl) rfl (by kernel_rfl) (M.run_of_path _ [] _ _ (by kernel_rfl) all_nil) ?_, by simp, (wkR.one (wkV.one (wk1.eq rfl))), trivial⟩
    intro p hp p2 hq
    rcases List.mem_cons.1 hp with rfl | hp
    · skip
      have h3 := l16_0_ok m (m + 24) x0 ((((List.length x0) : Nat) : Int)) 0 _ (some_getD (d := l16_0D) c0)
      rw [eq_of_beq c1] at h3
      exact Eq.trans (Eq.mp (by kernel_rfl) h3) hq
    cases hp
  · skip
    obtain ⟨c2, h⟩ := iY h
    cases h
    refine ⟨(.d (.bool (decide ((((List.length x0) : Nat) : Int) ≤ 6)))), [], runT_ok (LS := (fun k => if k = 225 then some (l16_0E x0 (((((List.length x0) : Nat) : Int))) ((l16_0R m (m + 24) x0 ((((List.length x0) : Nat) : Int)) 0).2) 1) else none)) (fn := fn16) (vis := [(225, l16_0H x0 ((((List.length x0) : Nat) : Int)) 0, l16_0B x0 ((((List.length x0) : Nat) : Int)) 0)]) (by kernel_rfl) rfl (by kernel_rfl) (M.run_of_path _ [] _ _ (by kernel_rfl) all_nil) ?_, by simp, (wkR.one (wkV.one (wk1.eq rfl))), trivial⟩
    intro p hp p2 hq
    rcases List.mem_cons.1 hp with rfl | hp
    · skip
      have h3 := l16_0_ok m (m + 24) x0 ((((List.length x0) : Nat) : Int)) 0 _ (some_getD (d := l16_0D) c0)
      rw [eq_of_beq c2] at h3
      exact Eq.trans (Eq.mp (by kernel_rfl) h3) hq
    cases hp

theorem mats_loop (m : Nat) (ms : List MT) (h1 : ms.length ≤ 1000000) (h2 : ∀ x ∈ ms, x.1.length ≤ 9223372036854775807) : ∀ (n k : Nat), k ≤ ms.length → ms.length - k < n → ∃ e j, l16_0 m n ms (ms.length : Nat) (k : Nat) = some (e, j) ∧ ((e = 0 ∧ (ms.drop k).all okM = false) ∨ (e = 1 ∧ (ms.drop k).all okM = true))
  | 0, k, _, h => by omega
  | n + 1, k, g1, g2 => by
    rw [l16_0]
    by_cases hk : k < ms.length
    · have e1 : decide (((k : Nat) : Int) < (((List.length ms) : Nat) : Int)) = true := decide_eq_true (by omega)
      have e2 : decide ((0 : Int) ≤ ((k : Nat) : Int)) = true := decide_eq_true (by omega)
      have e7 : IntKind.wrap .i64 (((k : Nat) : Int) + (1)) = ((k + 1 : Nat) : Int) := by rw [wrap_id (by omega) (by omega)]; rfl
      have e3 : okPre (ms.getD k (([] : Q8), (([] : Q8), 0))) = true := decide_eq_true (h2 _ (getD_mem ms k (([] : Q8), (([] : Q8), 0)) hk))
      have go := mats_loop m ms h1 h2 n (k + 1) (by omega) (by omega)
      rw [drop_getD ms k (([] : Q8), (([] : Q8), 0)) hk, List.all_cons, show Int.toNat ((k : Nat) : Int) = k from rfl, e7, if_pos e2, if_pos e1, if_pos e1, if_pos e3]
      cases okM (ms.getD k (([] : Q8), (([] : Q8), 0))) with
      | true => rw [if_pos rfl, Bool.true_and]; exact go
      | false => rw [if_neg (by decide), Bool.false_and]; exact ⟨0, _, rfl, .inl ⟨rfl, rfl⟩⟩
    · have e1 : decide (((k : Nat) : Int) < (((List.length ms) : Nat) : Int)) = false := decide_eq_false (by omega)
      rw [e1, if_neg (by decide), List.drop_eq_nil_of_le (by omega)]
      exact ⟨1, _, rfl, .inr ⟨rfl, rfl⟩⟩
theorem matchers16 (ms : List MT) (h : rightPre ms = true) : ∃ m, p16 m ms = some (rightG ms) := by
  have ⟨h1, h2⟩ := of_decide_eq_true h
  refine ⟨ms.length, ?_⟩
  obtain ⟨e, j, hr, hc⟩ := mats_loop ms.length ms h1 h2 (ms.length + 24) 0 (by omega) (by omega)
  simp only [Int.natCast_zero, List.drop_zero] at hr hc
  have q2 : decide ((((List.length ms) : Nat) : Int) ≤ 6) = decide (ms.length ≤ 6) := by rw [decide_eq_decide]; omega
  unfold p16 rightG
  simp only [l16_0R, hr, q2, Option.isSome_some, Option.getD_some, ↓reduceIte]
  rcases hc with ⟨rfl, hc⟩ | ⟨rfl, hc⟩ <;> rw [hc]
  · rw [Bool.false_and]; rfl
  · rw [Bool.true_and]; rfl
def s16 : List AV → Boxes → M (AV × Boxes) := normS [.val (.sl (.pair .str (.pair .str (.int .i64))))] [] fun xs B => match xs, B with
  | [(.d (.sl (.pair .str (.pair .str (.int .i64))) c1))], [] => .chk (rightPre c1) (.ret ((.d (.bool (rightG c1))), []))
  | _, _ => .fail
theorem s16_at : CallAt Tryd.prog 16 s16 := by
  refine CallAt.norm (CallAt.weakE (g := fun n => evCall F S12 n 16) (fun n => evCall_atH mixed kinds hds S12 S12_ok n 16) fun xs B r' B' hr => ?_) _ _
  split at hr
  · rename_i c1
    obtain ⟨hp, hr⟩ := (M.run_chk _ _ _).1 hr
    simp only [M.run, Option.some.injEq, Prod.mk.injEq] at hr
    obtain ⟨rfl, rfl⟩ := hr
    obtain ⟨m, hm⟩ := matchers16 c1 hp
    obtain ⟨r, B1, h1, h2, h3, h4⟩ := p16_ok m c1 _ hm
    exact ⟨m + 25, r, B1, h1, by simp, h2, h3, h4⟩
  · simp [M.run] at hr
noncomputable def S13 : FuncId → Option (List AV → Boxes → M (AV × Boxes)) := fun f => if f = 16 then some s16 else S12 f
theorem S13_ok : ∀ f s, S13 f = some s → CallAt Tryd.prog f s := by
  intro f s h
  unfold S13 at h
  split at h
  · rename_i e; subst e; cases h; exact s16_at
  · exact S12_ok f s h

end Go.Proofs.YtghkbjflejgieaaDoor.Dec
namespace Go.Proofs.YtghkbjflejgieaaDoor.Dec
open Go.Ev
set_option linter.unusedVariables false
set_option linter.unusedSimpArgs false
set_option maxRecDepth 100000
set_option maxHeartbeats 20000000
noncomputable def fn42 : AFn := (F 42).getD ⟨0, [], .bad, false, false, noHd⟩
noncomputable def body42 : AC := fn42.body
def l42_0 (m : Nat) : Nat → Q5 → Q8 → Int → Int → Option (Nat × Int)
  | 0, _, _, _, _ => none
  | n + 1, x0, x1, s8, s9 => if decide (s9 < s8) = true then
      if decide (0 ≤ s9) = true then
      if decide (s9 < (((List.length x0) : Nat) : Int)) = true then
      if ((List.getD x0 (Int.toNat s9) (([] : Q8), ([] : Q8))).1 == x1) = true then
        some (0, s9)
      else
        l42_0 m n x0 x1 s8 ((IntKind.wrap .i64 (s9 + (1))))
      else none
      else none
    else
      some (1, s9)
def l42_0D : Nat × Int := (0, 0)
@[reducible] def l42_0R (m n : Nat) (x0 : Q5) (x1 : Q8) (s8 : Int) (s9 : Int) : Nat × Int := Option.getD (l42_0 m n x0 x1 s8 s9) l42_0D
def l42_0H (x0 : Q5) (x1 : Q8) (s8 : Int) (s9 : Int) : Env := (.top :: (.d (.str x1)) :: .top :: .top :: .top :: .top :: .top :: (.d (.sl (.pair .str .str) x0)) :: (.d (.int .i64 s8)) :: (.d (.int .i64 s9)) :: tp10 [])
def l42_0B (x0 : Q5) (x1 : Q8) (s8 : Int) (s9 : Int) : Boxes := []
def l42_0E (x0 : Q5) (x1 : Q8) (s8 : Int) (s9 : Int) : Nat → AEx × Env × Boxes
  | 0 => (.ret, [.top, (.d (.str x1)), .top, .top, (.d (.str (List.getD x0 (Int.toNat s9) (([] : Q8), ([] : Q8))).2)), .top, (.ptr 0 0), (.d (.sl (.pair .str .str) x0)), (.d (.int .i64 s8)), (.d (.int .i64 s9)), (.d (.bool (decide (s9 < s8)))), (.cptr [(.str (List.getD x0 (Int.toNat s9) (([] : Q8), ([] : Q8))).1), (.str (List.getD x0 (Int.toNat s9) (([] : Q8), ([] : Q8))).2)] 0), (.agg [(.d (.str (List.getD x0 (Int.toNat s9) (([] : Q8), ([] : Q8))).1)), (.d (.str (List.getD x0 (Int.toNat s9) (([] : Q8), ([] : Q8))).2))]), (.ptr 0 0), (.d (.str (List.getD x0 (Int.toNat s9) (([] : Q8), ([] : Q8))).1)), (.d (.str x1)), (.d (.bool ((List.getD x0 (Int.toNat s9) (([] : Q8), ([] : Q8))).1 == x1))), (.ptr 0 1), (.d (.str (List.getD x0 (Int.toNat s9) (([] : Q8), ([] : Q8))).2)), .top], [(.cells [(.d (.str (List.getD x0 (Int.toNat s9) (([] : Q8), ([] : Q8))).1)), (.d (.str (List.getD x0 (Int.toNat s9) (([] : Q8), ([] : Q8))).2))])])
  | _ => (.exit 0, (.top :: (.d (.str x1)) :: .top :: .top :: .top :: .top :: .top :: (.d (.sl (.pair .str .str) x0)) :: (.d (.int .i64 s8)) :: (.d (.int .i64 s9)) :: (.d (.bool (decide (s9 < s8)))) :: tp9 []), [])
noncomputable def lbl42_0 : AC := loopBody 898 body42
@[reducible] noncomputable def cb6 (m : Nat) := (evC byref (evCall F S13 (m + 24)) (m + 24) 0 (hds 42) lbl42_0)


theorem l42_0_step (m n : Nat) (ih : ∀ (x0 : Q5) (x1 : Q8) (s8 : Int) (s9 : Int) (q : Nat × Int), l42_0 m n x0 x1 s8 s9 = some q → (turns (hds 42 898) 0 898 (cb6 m) n (l42_0H x0 x1 s8 s9) (l42_0B x0 x1 s8 s9)).run = some (l42_0E (x0) (x1) (s8) (q.2) q.1)) (x0 : Q5) (x1 : Q8) (s8 : Int) (s9 : Int) (q : Nat × Int) (h : l42_0 m (n + 1) x0 x1 s8 s9 = some q) : (turns (hds 42 898) 0 898 (cb6 m) (n + 1) (l42_0H x0 x1 s8 s9) (l42_0B x0 x1 s8 s9)).run = some (l42_0E (x0) (x1) (s8) (q.2) q.1) := by
  rw [l42_0] at h
  refine ite_cases h (fun c0 h => ?_) (fun c0 h => ?_)
  · skip
    obtain ⟨c1, h⟩ := iY h
    obtain ⟨c2, h⟩ := iY h
    refine ite_cases h (fun c3 h => ?_) (fun c3 h => ?_)
    · skip
      cases h
      refine turns_last (by simp) ?_
      exact M.run_of_path _ [tT, tT, tT, tT] _ _ (by kernel_rfl) (all_t c0 (all_t c1 (all_t c2 (all_t c3 all_nil))))
    · skip
      have ih := ih _ _ _ _ q h
      refine turns_step ?_ ih
      exact M.run_of_path _ [tT, tT, tT, fF] _ _ (by kernel_rfl) (all_t c0 (all_t c1 (all_t c2 (all_f c3 all_nil))))
  · skip
    cases h
    refine turns_last (by simp) ?_
    exact M.run_of_path _ [fF] _ _ (by kernel_rfl) (all_f c0 all_nil)
theorem l42_0_ok (m : Nat) : ∀ (n : Nat) (x0 : Q5) (x1 : Q8) (s8 : Int) (s9 : Int) (q : Nat × Int), l42_0 m n x0 x1 s8 s9 = some q → (turns (hds 42 898) 0 898 (cb6 m) n (l42_0H x0 x1 s8 s9) (l42_0B x0 x1 s8 s9)).run = some (l42_0E (x0) (x1) (s8) (q.2) q.1)
  | 0, x0, x1, s8, s9, q, h => by cases h
  | n + 1, x0, x1, s8, s9, q, h => l42_0_step m n (l42_0_ok m n) x0 x1 s8 s9 q h

def p42 (m : Nat) (x0 : Q5) (x1 : Q8) : Option ((Q8)) :=
  if (Option.isSome (l42_0 m (m + 24) x0 x1 ((((List.length x0) : Nat) : Int)) 0)) = true then
  if ((l42_0R m (m + 24) x0 x1 ((((List.length x0) : Nat) : Int)) 0).1 == 0) = true then
    some ((List.getD x0 (Int.toNat (l42_0R m (m + 24) x0 x1 ((((List.length x0) : Nat) : Int)) 0).2) (([] : Q8), ([] : Q8))).2)
  else
    if ((l42_0R m (m + 24) x0 x1 ((((List.length x0) : Nat) : Int)) 0).1 == 1) = true then
    some (([] : Q8))
    else none
  else none
theorem p42_ok (m : Nat) (x0 : Q5) (x1 : Q8) (q : (Q8)) (h : p42 m x0 x1 = some q) : ∃ r B1, (evCall F S13 (m + 25) 42 [(.d (.sl (.pair .str .str) x0)), (.d (.str x1))] []).run = some (r, B1) ∧ 0 ≤ B1.length ∧ wkR B1 [] r (.d (.str q)) ∧ wkBs B1 [] 0 [] := by
  unfold p42 at h
  obtain ⟨c0, h⟩ := iY h
  refine ite_cases h (fun c1 h => ?_) (fun c1 h => ?_)
  · skip
    cases h
    refine ⟨(.d (.str (List.getD x0 (Int.toNat (l42_0R m (m + 24) x0 x1 ((((List.length x0) : Nat) : Int)) 0).2) (([] : Q8), ([] : Q8))).2)), [], runT_ok (LS := (fun k => if k = 898 then some (l42_0E x0 x1 (((((List.length x0) : Nat) : Int))) ((l42_0R m (m + 24) x0 x1 ((((List.length x0) : Nat) : Int)) 0).2) 0) else none)) (fn := fn42) (vis := [(898, l42_0H x0 x1 ((((List.length x0) : Nat) : Int)) 0, l42_0B x0 x1 ((((List.length x0) : Nat) : Int)) 0)]) (by kernel_rfl) rfl (by kernel_rfl) (M.run_of_path _ [] _ _ (by kernel_rfl) all_nil) ?_, by simp, (wkR.one (wkV.one (wk1.eq rfl))), trivial⟩
    intro p hp p2 hq
    rcases List.mem_cons.1 hp with rfl | hp
    · skip
      have h3 := l42_0_ok m (m + 24) x0 x1 ((((List.length x0) : Nat) : Int)) 0 _ (some_getD (d := l42_0D) c0)
      rw [eq_of_beq c1] at h3
      exact Eq.trans (Eq.mp (by kernel_rfl) h3) hq
    cases hp
  · skip
    obtain ⟨c2, h⟩ := iY h
    cases h
    refine ⟨(.d (.str ([] : Q8))), [], runT_ok (LS := (fun k => if k = 898 then some (l42_0E x0 x1 (((((List.length x0) : Nat) : Int))) ((l42_0R m (m + 24) x0 x1 ((((List.length x0) : Nat) : Int)) 0).2) 1) else none)) (fn := fn42) (vis := [(898, l42_0H x0 x1 ((((List.length x0) : Nat) : Int)) 0, l42_0B x0 x1 ((((List.length x0) : Nat) : Int)) 0)]) (by kernel_rfl) rfl (by kernel_rfl) (M.run_of_path _ [] _ _ (by kernel_rfl) all_nil) ?_, by simp, (wkR.one (wkV.one (wk1.eq rfl))), trivial⟩
    intro p hp p2 hq
    rcases List.mem_cons.1 hp with rfl | hp
    · skip
      have h3 := l42_0_ok m (m + 24) x0 x1 ((((List.length x0) : Nat) : Int)) 0 _ (some_getD (d := l42_0D) c0)
      rw [eq_of_beq c2] at h3
      exact Eq.trans (Eq.mp (by kernel_rfl) h3) hq
    cases hp

theorem rget_loop (m : Nat) (l : LB) (nm : Q8) (hb : l.length ≤ 1000000) : ∀ (n k : Nat), k ≤ l.length → l.length - k < n → (∃ j, l42_0 m n l nm (l.length : Nat) (k : Nat) = some (0, ((j : Nat) : Int)) ∧ getG (l.drop k) nm = (l.getD j (([] : Q8), ([] : Q8))).2) ∨ (∃ j, l42_0 m n l nm (l.length : Nat) (k : Nat) = some (1, j) ∧ getG (l.drop k) nm = [])
  | 0, k, _, h => by omega
  | n + 1, k, h1, h2 => by
    rw [l42_0]
    by_cases hk : k < l.length
    · have e1 : decide (((k : Nat) : Int) < (((List.length l) : Nat) : Int)) = true := decide_eq_true (by omega)
      have e2 : decide ((0 : Int) ≤ ((k : Nat) : Int)) = true := decide_eq_true (by omega)
      have e7 : IntKind.wrap .i64 (((k : Nat) : Int) + (1)) = ((k + 1 : Nat) : Int) := by rw [wrap_id (by omega) (by omega)]; rfl
      rw [drop_getD l k (([] : Q8), ([] : Q8)) hk, show Int.toNat ((k : Nat) : Int) = k from rfl, e7, if_pos e1, if_pos e2, if_pos e1, getG]
      by_cases hc : ((l.getD k (([] : Q8), ([] : Q8))).1 == nm) = true
      · rw [if_pos hc, if_pos hc]
        exact .inl ⟨k, rfl, rfl⟩
      · rw [if_neg hc, if_neg hc]
        exact rget_loop m l nm hb n (k + 1) (by omega) (by omega)
    · have e1 : decide (((k : Nat) : Int) < (((List.length l) : Nat) : Int)) = false := decide_eq_false (by omega)
      rw [e1, if_neg (by simp), List.drop_eq_nil_of_le (by omega)]
      exact .inr ⟨_, rfl, rfl⟩
theorem rget42 (l : LB) (nm : Q8) (h : decide (List.length l ≤ 1000000) = true) : ∃ m, p42 m l nm = some (getG l nm) := by
  have h := of_decide_eq_true h
  refine ⟨l.length, ?_⟩
  unfold p42 l42_0R
  rcases rget_loop l.length l nm h (l.length + 24) 0 (by omega) (by omega) with ⟨j, h1, h2⟩ | ⟨j, h1, h2⟩
  · simp only [Int.natCast_zero, List.drop_zero] at h1 h2
    rw [h1, h2]
    simp
  · simp only [Int.natCast_zero, List.drop_zero] at h1 h2
    rw [h1, h2]
    simp
def s42 : List AV → Boxes → M (AV × Boxes) := normS [.val (.sl (.pair .str .str)), .val .str] [] fun xs B => match xs, B with
  | [(.d (.sl (.pair .str .str) c1)), (.d (.str c2))], [] => .chk (decide (List.length c1 ≤ 1000000)) (.ret ((.d (.str (getG c1 c2))), []))
  | _, _ => .fail
theorem s42_at : CallAt Tryd.prog 42 s42 := by
  refine CallAt.norm (CallAt.weakE (g := fun n => evCall F S13 n 42) (fun n => evCall_atH mixed kinds hds S13 S13_ok n 42) fun xs B r' B' hr => ?_) _ _
  split at hr
  · rename_i c1 c2
    obtain ⟨hp, hr⟩ := (M.run_chk _ _ _).1 hr
    simp only [M.run, Option.some.injEq, Prod.mk.injEq] at hr
    obtain ⟨rfl, rfl⟩ := hr
    obtain ⟨m, hm⟩ := rget42 c1 c2 hp
    obtain ⟨r, B1, h1, h2, h3, h4⟩ := p42_ok m c1 c2 _ hm
    exact ⟨m + 25, r, B1, h1, by simp, h2, h3, h4⟩
  · simp [M.run] at hr
noncomputable def S14 : FuncId → Option (List AV → Boxes → M (AV × Boxes)) := fun f => if f = 42 then some s42 else S13 f
theorem S14_ok : ∀ f s, S14 f = some s → CallAt Tryd.prog f s := by
  intro f s h
  unfold S14 at h
  split at h
  · rename_i e; subst e; cases h; exact s42_at
  · exact S13_ok f s h

noncomputable def fn27 : AFn := (F 27).getD ⟨0, [], .bad, false, false, noHd⟩
noncomputable def body27 : AC := fn27.body
def l27_0 (m : Nat) : Nat → Q4 → Q5 → Int → Int → Option (Nat × Int)
  | 0, _, _, _, _ => none
  | n + 1, x0, x1, s8, s9 => if decide (s9 < s8) = true then
      if decide (0 ≤ s9) = true then
      if decide (s9 < (((List.length x0) : Nat) : Int)) = true then
      if decide (List.length x1 ≤ 1000000) = true then
      if decide ((((List.length (getG x1 (List.getD x0 (Int.toNat s9) (([] : Q8), (([] : Q8), 0))).1)) : Nat) : Int) ≥ (((List.length (List.getD x0 (Int.toNat s9) (([] : Q8), (([] : Q8), 0))).2.1) : Nat) : Int)) = true then
        if (decide (0 ≤ (((List.length (List.getD x0 (Int.toNat s9) (([] : Q8), (([] : Q8), 0))).2.1) : Nat) : Int)) && decide ((((List.length (List.getD x0 (Int.toNat s9) (([] : Q8), (([] : Q8), 0))).2.1) : Nat) : Int) ≤ (((List.length (getG x1 (List.getD x0 (Int.toNat s9) (([] : Q8), (([] : Q8), 0))).1)) : Nat) : Int))) = true then
        if ((List.getD x0 (Int.toNat s9) (([] : Q8), (([] : Q8), 0))).2.2 == (1)) = true then
          if ((getG x1 (List.getD x0 (Int.toNat s9) (([] : Q8), (([] : Q8), 0))).1) == (List.getD x0 (Int.toNat s9) (([] : Q8), (([] : Q8), 0))).2.1) = true then
            l27_0 m n x0 x1 s8 ((IntKind.wrap .i64 (s9 + (1))))
          else
            some (0, s9)
        else
          if ((List.getD x0 (Int.toNat s9) (([] : Q8), (([] : Q8), 0))).2.2 == (2)) = true then
            if ((getG x1 (List.getD x0 (Int.toNat s9) (([] : Q8), (([] : Q8), 0))).1) == (List.getD x0 (Int.toNat s9) (([] : Q8), (([] : Q8), 0))).2.1) = true then
              some (1, s9)
            else
              l27_0 m n x0 x1 s8 ((IntKind.wrap .i64 (s9 + (1))))
          else
            if ((List.getD x0 (Int.toNat s9) (([] : Q8), (([] : Q8), 0))).2.2 == (3)) = true then
              if ((List.drop 0 (List.take (Int.toNat (((List.length (List.getD x0 (Int.toNat s9) (([] : Q8), (([] : Q8), 0))).2.1) : Nat) : Int)) (getG x1 (List.getD x0 (Int.toNat s9) (([] : Q8), (([] : Q8), 0))).1))) == (List.getD x0 (Int.toNat s9) (([] : Q8), (([] : Q8), 0))).2.1) = true then
                l27_0 m n x0 x1 s8 ((IntKind.wrap .i64 (s9 + (1))))
              else
                some (2, s9)
            else
              if ((List.getD x0 (Int.toNat s9) (([] : Q8), (([] : Q8), 0))).2.2 == (4)) = true then
                if ((List.drop 0 (List.take (Int.toNat (((List.length (List.getD x0 (Int.toNat s9) (([] : Q8), (([] : Q8), 0))).2.1) : Nat) : Int)) (getG x1 (List.getD x0 (Int.toNat s9) (([] : Q8), (([] : Q8), 0))).1))) == (List.getD x0 (Int.toNat s9) (([] : Q8), (([] : Q8), 0))).2.1) = true then
                  some (3, s9)
                else
                  l27_0 m n x0 x1 s8 ((IntKind.wrap .i64 (s9 + (1))))
              else
                some (4, s9)
        else none
      else
        if ((List.getD x0 (Int.toNat s9) (([] : Q8), (([] : Q8), 0))).2.2 == (1)) = true then
          if ((getG x1 (List.getD x0 (Int.toNat s9) (([] : Q8), (([] : Q8), 0))).1) == (List.getD x0 (Int.toNat s9) (([] : Q8), (([] : Q8), 0))).2.1) = true then
            l27_0 m n x0 x1 s8 ((IntKind.wrap .i64 (s9 + (1))))
          else
            some (5, s9)
        else
          if ((List.getD x0 (Int.toNat s9) (([] : Q8), (([] : Q8), 0))).2.2 == (2)) = true then
            if ((getG x1 (List.getD x0 (Int.toNat s9) (([] : Q8), (([] : Q8), 0))).1) == (List.getD x0 (Int.toNat s9) (([] : Q8), (([] : Q8), 0))).2.1) = true then
              some (6, s9)
            else
              l27_0 m n x0 x1 s8 ((IntKind.wrap .i64 (s9 + (1))))
          else
            if ((List.getD x0 (Int.toNat s9) (([] : Q8), (([] : Q8), 0))).2.2 == (3)) = true then
              some (7, s9)
            else
              if ((List.getD x0 (Int.toNat s9) (([] : Q8), (([] : Q8), 0))).2.2 == (4)) = true then
                l27_0 m n x0 x1 s8 ((IntKind.wrap .i64 (s9 + (1))))
              else
                some (8, s9)
      else none
      else none
      else none
    else
      some (9, s9)
def l27_0D : Nat × Int := (0, 0)
@[reducible] def l27_0R (m n : Nat) (x0 : Q4) (x1 : Q5) (s8 : Int) (s9 : Int) : Nat × Int := Option.getD (l27_0 m n x0 x1 s8 s9) l27_0D
def l27_0H (x0 : Q4) (x1 : Q5) (s8 : Int) (s9 : Int) : Env := (.top :: (.d (.sl (.pair .str .str) x1)) :: .top :: .top :: .top :: .top :: .top :: (.d (.sl (.pair .str (.pair .str (.int .i64))) x0)) :: (.d (.int .i64 s8)) :: (.d (.int .i64 s9)) :: tp8 [])
def l27_0B (x0 : Q4) (x1 : Q5) (s8 : Int) (s9 : Int) : Boxes := []
def l27_0E (x0 : Q4) (x1 : Q5) (s8 : Int) (s9 : Int) : Nat → AEx × Env × Boxes
  | 0 => (.ret, [.top, (.d (.sl (.pair .str .str) x1)), .top, .top, (.d (.bool false)), .top, (.ptr 0 0), (.d (.sl (.pair .str (.pair .str (.int .i64))) x0)), (.d (.int .i64 s8)), (.d (.int .i64 s9)), (.d (.bool (decide (s9 < s8)))), (.cptr [(.str (List.getD x0 (Int.toNat s9) (([] : Q8), (([] : Q8), 0))).1), (.str (List.getD x0 (Int.toNat s9) (([] : Q8), (([] : Q8), 0))).2.1), (.int .i64 (List.getD x0 (Int.toNat s9) (([] : Q8), (([] : Q8), 0))).2.2)] 0), (.agg [(.d (.str (List.getD x0 (Int.toNat s9) (([] : Q8), (([] : Q8), 0))).1)), (.d (.str (List.getD x0 (Int.toNat s9) (([] : Q8), (([] : Q8), 0))).2.1)), (.d (.int .i64 (List.getD x0 (Int.toNat s9) (([] : Q8), (([] : Q8), 0))).2.2))]), (.agg [(.d (.str (List.getD x0 (Int.toNat s9) (([] : Q8), (([] : Q8), 0))).1)), (.d (.str (List.getD x0 (Int.toNat s9) (([] : Q8), (([] : Q8), 0))).2.1)), (.d (.int .i64 (List.getD x0 (Int.toNat s9) (([] : Q8), (([] : Q8), 0))).2.2))]), (.d (.sl (.pair .str .str) x1)), (.d (.bool ((getG x1 (List.getD x0 (Int.toNat s9) (([] : Q8), (([] : Q8), 0))).1) == (List.getD x0 (Int.toNat s9) (([] : Q8), (([] : Q8), 0))).2.1))), (.d (.bool (!((getG x1 (List.getD x0 (Int.toNat s9) (([] : Q8), (([] : Q8), 0))).1) == (List.getD x0 (Int.toNat s9) (([] : Q8), (([] : Q8), 0))).2.1)))), .top], [(.cells [(.d (.str (List.getD x0 (Int.toNat s9) (([] : Q8), (([] : Q8), 0))).1)), (.d (.str (List.getD x0 (Int.toNat s9) (([] : Q8), (([] : Q8), 0))).2.1)), (.d (.int .i64 (List.getD x0 (Int.toNat s9) (([] : Q8), (([] : Q8), 0))).2.2))])])
  | 1 => (.ret, [.top, (.d (.sl (.pair .str .str) x1)), .top, .top, (.d (.bool false)), .top, (.ptr 0 0), (.d (.sl (.pair .str (.pair .str (.int .i64))) x0)), (.d (.int .i64 s8)), (.d (.int .i64 s9)), (.d (.bool (decide (s9 < s8)))), (.cptr [(.str (List.getD x0 (Int.toNat s9) (([] : Q8), (([] : Q8), 0))).1), (.str (List.getD x0 (Int.toNat s9) (([] : Q8), (([] : Q8), 0))).2.1), (.int .i64 (List.getD x0 (Int.toNat s9) (([] : Q8), (([] : Q8), 0))).2.2)] 0), (.agg [(.d (.str (List.getD x0 (Int.toNat s9) (([] : Q8), (([] : Q8), 0))).1)), (.d (.str (List.getD x0 (Int.toNat s9) (([] : Q8), (([] : Q8), 0))).2.1)), (.d (.int .i64 (List.getD x0 (Int.toNat s9) (([] : Q8), (([] : Q8), 0))).2.2))]), (.agg [(.d (.str (List.getD x0 (Int.toNat s9) (([] : Q8), (([] : Q8), 0))).1)), (.d (.str (List.getD x0 (Int.toNat s9) (([] : Q8), (([] : Q8), 0))).2.1)), (.d (.int .i64 (List.getD x0 (Int.toNat s9) (([] : Q8), (([] : Q8), 0))).2.2))]), (.d (.sl (.pair .str .str) x1)), (.d (.bool (!((getG x1 (List.getD x0 (Int.toNat s9) (([] : Q8), (([] : Q8), 0))).1) == (List.getD x0 (Int.toNat s9) (([] : Q8), (([] : Q8), 0))).2.1)))), (.d (.bool (!(!((getG x1 (List.getD x0 (Int.toNat s9) (([] : Q8), (([] : Q8), 0))).1) == (List.getD x0 (Int.toNat s9) (([] : Q8), (([] : Q8), 0))).2.1))))), .top], [(.cells [(.d (.str (List.getD x0 (Int.toNat s9) (([] : Q8), (([] : Q8), 0))).1)), (.d (.str (List.getD x0 (Int.toNat s9) (([] : Q8), (([] : Q8), 0))).2.1)), (.d (.int .i64 (List.getD x0 (Int.toNat s9) (([] : Q8), (([] : Q8), 0))).2.2))])])
  | 2 => (.ret, [.top, (.d (.sl (.pair .str .str) x1)), .top, .top, (.d (.bool false)), .top, (.ptr 0 0), (.d (.sl (.pair .str (.pair .str (.int .i64))) x0)), (.d (.int .i64 s8)), (.d (.int .i64 s9)), (.d (.bool (decide (s9 < s8)))), (.cptr [(.str (List.getD x0 (Int.toNat s9) (([] : Q8), (([] : Q8), 0))).1), (.str (List.getD x0 (Int.toNat s9) (([] : Q8), (([] : Q8), 0))).2.1), (.int .i64 (List.getD x0 (Int.toNat s9) (([] : Q8), (([] : Q8), 0))).2.2)] 0), (.agg [(.d (.str (List.getD x0 (Int.toNat s9) (([] : Q8), (([] : Q8), 0))).1)), (.d (.str (List.getD x0 (Int.toNat s9) (([] : Q8), (([] : Q8), 0))).2.1)), (.d (.int .i64 (List.getD x0 (Int.toNat s9) (([] : Q8), (([] : Q8), 0))).2.2))]), (.agg [(.d (.str (List.getD x0 (Int.toNat s9) (([] : Q8), (([] : Q8), 0))).1)), (.d (.str (List.getD x0 (Int.toNat s9) (([] : Q8), (([] : Q8), 0))).2.1)), (.d (.int .i64 (List.getD x0 (Int.toNat s9) (([] : Q8), (([] : Q8), 0))).2.2))]), (.d (.sl (.pair .str .str) x1)), (.d (.bool ((List.drop 0 (List.take (Int.toNat (((List.length (List.getD x0 (Int.toNat s9) (([] : Q8), (([] : Q8), 0))).2.1) : Nat) : Int)) (getG x1 (List.getD x0 (Int.toNat s9) (([] : Q8), (([] : Q8), 0))).1))) == (List.getD x0 (Int.toNat s9) (([] : Q8), (([] : Q8), 0))).2.1))), (.d (.bool (!((List.drop 0 (List.take (Int.toNat (((List.length (List.getD x0 (Int.toNat s9) (([] : Q8), (([] : Q8), 0))).2.1) : Nat) : Int)) (getG x1 (List.getD x0 (Int.toNat s9) (([] : Q8), (([] : Q8), 0))).1))) == (List.getD x0 (Int.toNat s9) (([] : Q8), (([] : Q8), 0))).2.1)))), .top], [(.cells [(.d (.str (List.getD x0 (Int.toNat s9) (([] : Q8), (([] : Q8), 0))).1)), (.d (.str (List.getD x0 (Int.toNat s9) (([] : Q8), (([] : Q8), 0))).2.1)), (.d (.int .i64 (List.getD x0 (Int.toNat s9) (([] : Q8), (([] : Q8), 0))).2.2))])])
  | 3 => (.ret, [.top, (.d (.sl (.pair .str .str) x1)), .top, .top, (.d (.bool false)), .top, (.ptr 0 0), (.d (.sl (.pair .str (.pair .str (.int .i64))) x0)), (.d (.int .i64 s8)), (.d (.int .i64 s9)), (.d (.bool (decide (s9 < s8)))), (.cptr [(.str (List.getD x0 (Int.toNat s9) (([] : Q8), (([] : Q8), 0))).1), (.str (List.getD x0 (Int.toNat s9) (([] : Q8), (([] : Q8), 0))).2.1), (.int .i64 (List.getD x0 (Int.toNat s9) (([] : Q8), (([] : Q8), 0))).2.2)] 0), (.agg [(.d (.str (List.getD x0 (Int.toNat s9) (([] : Q8), (([] : Q8), 0))).1)), (.d (.str (List.getD x0 (Int.toNat s9) (([] : Q8), (([] : Q8), 0))).2.1)), (.d (.int .i64 (List.getD x0 (Int.toNat s9) (([] : Q8), (([] : Q8), 0))).2.2))]), (.agg [(.d (.str (List.getD x0 (Int.toNat s9) (([] : Q8), (([] : Q8), 0))).1)), (.d (.str (List.getD x0 (Int.toNat s9) (([] : Q8), (([] : Q8), 0))).2.1)), (.d (.int .i64 (List.getD x0 (Int.toNat s9) (([] : Q8), (([] : Q8), 0))).2.2))]), (.d (.sl (.pair .str .str) x1)), (.d (.bool (!((List.drop 0 (List.take (Int.toNat (((List.length (List.getD x0 (Int.toNat s9) (([] : Q8), (([] : Q8), 0))).2.1) : Nat) : Int)) (getG x1 (List.getD x0 (Int.toNat s9) (([] : Q8), (([] : Q8), 0))).1))) == (List.getD x0 (Int.toNat s9) (([] : Q8), (([] : Q8), 0))).2.1)))), (.d (.bool (!(!((List.drop 0 (List.take (Int.toNat (((List.length (List.getD x0 (Int.toNat s9) (([] : Q8), (([] : Q8), 0))).2.1) : Nat) : Int)) (getG x1 (List.getD x0 (Int.toNat s9) (([] : Q8), (([] : Q8), 0))).1))) == (List.getD x0 (Int.toNat s9) (([] : Q8), (([] : Q8), 0))).2.1))))), .top], [(.cells [(.d (.str (List.getD x0 (Int.toNat s9) (([] : Q8), (([] : Q8), 0))).1)), (.d (.str (List.getD x0 (Int.toNat s9) (([] : Q8), (([] : Q8), 0))).2.1)), (.d (.int .i64 (List.getD x0 (Int.toNat s9) (([] : Q8), (([] : Q8), 0))).2.2))])])
  | 4 => (.ret, [.top, (.d (.sl (.pair .str .str) x1)), .top, .top, (.d (.bool false)), .top, (.ptr 0 0), (.d (.sl (.pair .str (.pair .str (.int .i64))) x0)), (.d (.int .i64 s8)), (.d (.int .i64 s9)), (.d (.bool (decide (s9 < s8)))), (.cptr [(.str (List.getD x0 (Int.toNat s9) (([] : Q8), (([] : Q8), 0))).1), (.str (List.getD x0 (Int.toNat s9) (([] : Q8), (([] : Q8), 0))).2.1), (.int .i64 (List.getD x0 (Int.toNat s9) (([] : Q8), (([] : Q8), 0))).2.2)] 0), (.agg [(.d (.str (List.getD x0 (Int.toNat s9) (([] : Q8), (([] : Q8), 0))).1)), (.d (.str (List.getD x0 (Int.toNat s9) (([] : Q8), (([] : Q8), 0))).2.1)), (.d (.int .i64 (List.getD x0 (Int.toNat s9) (([] : Q8), (([] : Q8), 0))).2.2))]), (.agg [(.d (.str (List.getD x0 (Int.toNat s9) (([] : Q8), (([] : Q8), 0))).1)), (.d (.str (List.getD x0 (Int.toNat s9) (([] : Q8), (([] : Q8), 0))).2.1)), (.d (.int .i64 (List.getD x0 (Int.toNat s9) (([] : Q8), (([] : Q8), 0))).2.2))]), (.d (.sl (.pair .str .str) x1)), (.d (.bool false)), (.d (.bool true)), .top], [(.cells [(.d (.str (List.getD x0 (Int.toNat s9) (([] : Q8), (([] : Q8), 0))).1)), (.d (.str (List.getD x0 (Int.toNat s9) (([] : Q8), (([] : Q8), 0))).2.1)), (.d (.int .i64 (List.getD x0 (Int.toNat s9) (([] : Q8), (([] : Q8), 0))).2.2))])])
  | 5 => (.ret, [.top, (.d (.sl (.pair .str .str) x1)), .top, .top, (.d (.bool false)), .top, (.ptr 0 0), (.d (.sl (.pair .str (.pair .str (.int .i64))) x0)), (.d (.int .i64 s8)), (.d (.int .i64 s9)), (.d (.bool (decide (s9 < s8)))), (.cptr [(.str (List.getD x0 (Int.toNat s9) (([] : Q8), (([] : Q8), 0))).1), (.str (List.getD x0 (Int.toNat s9) (([] : Q8), (([] : Q8), 0))).2.1), (.int .i64 (List.getD x0 (Int.toNat s9) (([] : Q8), (([] : Q8), 0))).2.2)] 0), (.agg [(.d (.str (List.getD x0 (Int.toNat s9) (([] : Q8), (([] : Q8), 0))).1)), (.d (.str (List.getD x0 (Int.toNat s9) (([] : Q8), (([] : Q8), 0))).2.1)), (.d (.int .i64 (List.getD x0 (Int.toNat s9) (([] : Q8), (([] : Q8), 0))).2.2))]), (.agg [(.d (.str (List.getD x0 (Int.toNat s9) (([] : Q8), (([] : Q8), 0))).1)), (.d (.str (List.getD x0 (Int.toNat s9) (([] : Q8), (([] : Q8), 0))).2.1)), (.d (.int .i64 (List.getD x0 (Int.toNat s9) (([] : Q8), (([] : Q8), 0))).2.2))]), (.d (.sl (.pair .str .str) x1)), (.d (.bool ((getG x1 (List.getD x0 (Int.toNat s9) (([] : Q8), (([] : Q8), 0))).1) == (List.getD x0 (Int.toNat s9) (([] : Q8), (([] : Q8), 0))).2.1))), (.d (.bool (!((getG x1 (List.getD x0 (Int.toNat s9) (([] : Q8), (([] : Q8), 0))).1) == (List.getD x0 (Int.toNat s9) (([] : Q8), (([] : Q8), 0))).2.1)))), .top], [(.cells [(.d (.str (List.getD x0 (Int.toNat s9) (([] : Q8), (([] : Q8), 0))).1)), (.d (.str (List.getD x0 (Int.toNat s9) (([] : Q8), (([] : Q8), 0))).2.1)), (.d (.int .i64 (List.getD x0 (Int.toNat s9) (([] : Q8), (([] : Q8), 0))).2.2))])])
  | 6 => (.ret, [.top, (.d (.sl (.pair .str .str) x1)), .top, .top, (.d (.bool false)), .top, (.ptr 0 0), (.d (.sl (.pair .str (.pair .str (.int .i64))) x0)), (.d (.int .i64 s8)), (.d (.int .i64 s9)), (.d (.bool (decide (s9 < s8)))), (.cptr [(.str (List.getD x0 (Int.toNat s9) (([] : Q8), (([] : Q8), 0))).1), (.str (List.getD x0 (Int.toNat s9) (([] : Q8), (([] : Q8), 0))).2.1), (.int .i64 (List.getD x0 (Int.toNat s9) (([] : Q8), (([] : Q8), 0))).2.2)] 0), (.agg [(.d (.str (List.getD x0 (Int.toNat s9) (([] : Q8), (([] : Q8), 0))).1)), (.d (.str (List.getD x0 (Int.toNat s9) (([] : Q8), (([] : Q8), 0))).2.1)), (.d (.int .i64 (List.getD x0 (Int.toNat s9) (([] : Q8), (([] : Q8), 0))).2.2))]), (.agg [(.d (.str (List.getD x0 (Int.toNat s9) (([] : Q8), (([] : Q8), 0))).1)), (.d (.str (List.getD x0 (Int.toNat s9) (([] : Q8), (([] : Q8), 0))).2.1)), (.d (.int .i64 (List.getD x0 (Int.toNat s9) (([] : Q8), (([] : Q8), 0))).2.2))]), (.d (.sl (.pair .str .str) x1)), (.d (.bool (!((getG x1 (List.getD x0 (Int.toNat s9) (([] : Q8), (([] : Q8), 0))).1) == (List.getD x0 (Int.toNat s9) (([] : Q8), (([] : Q8), 0))).2.1)))), (.d (.bool (!(!((getG x1 (List.getD x0 (Int.toNat s9) (([] : Q8), (([] : Q8), 0))).1) == (List.getD x0 (Int.toNat s9) (([] : Q8), (([] : Q8), 0))).2.1))))), .top], [(.cells [(.d (.str (List.getD x0 (Int.toNat s9) (([] : Q8), (([] : Q8), 0))).1)), (.d (.str (List.getD x0 (Int.toNat s9) (([] : Q8), (([] : Q8), 0))).2.1)), (.d (.int .i64 (List.getD x0 (Int.toNat s9) (([] : Q8), (([] : Q8), 0))).2.2))])])
  | 7 => (.ret, [.top, (.d (.sl (.pair .str .str) x1)), .top, .top, (.d (.bool false)), .top, (.ptr 0 0), (.d (.sl (.pair .str (.pair .str (.int .i64))) x0)), (.d (.int .i64 s8)), (.d (.int .i64 s9)), (.d (.bool (decide (s9 < s8)))), (.cptr [(.str (List.getD x0 (Int.toNat s9) (([] : Q8), (([] : Q8), 0))).1), (.str (List.getD x0 (Int.toNat s9) (([] : Q8), (([] : Q8), 0))).2.1), (.int .i64 (List.getD x0 (Int.toNat s9) (([] : Q8), (([] : Q8), 0))).2.2)] 0), (.agg [(.d (.str (List.getD x0 (Int.toNat s9) (([] : Q8), (([] : Q8), 0))).1)), (.d (.str (List.getD x0 (Int.toNat s9) (([] : Q8), (([] : Q8), 0))).2.1)), (.d (.int .i64 (List.getD x0 (Int.toNat s9) (([] : Q8), (([] : Q8), 0))).2.2))]), (.agg [(.d (.str (List.getD x0 (Int.toNat s9) (([] : Q8), (([] : Q8), 0))).1)), (.d (.str (List.getD x0 (Int.toNat s9) (([] : Q8), (([] : Q8), 0))).2.1)), (.d (.int .i64 (List.getD x0 (Int.toNat s9) (([] : Q8), (([] : Q8), 0))).2.2))]), (.d (.sl (.pair .str .str) x1)), (.d (.bool false)), (.d (.bool true)), .top], [(.cells [(.d (.str (List.getD x0 (Int.toNat s9) (([] : Q8), (([] : Q8), 0))).1)), (.d (.str (List.getD x0 (Int.toNat s9) (([] : Q8), (([] : Q8), 0))).2.1)), (.d (.int .i64 (List.getD x0 (Int.toNat s9) (([] : Q8), (([] : Q8), 0))).2.2))])])
  | 8 => (.ret, [.top, (.d (.sl (.pair .str .str) x1)), .top, .top, (.d (.bool false)), .top, (.ptr 0 0), (.d (.sl (.pair .str (.pair .str (.int .i64))) x0)), (.d (.int .i64 s8)), (.d (.int .i64 s9)), (.d (.bool (decide (s9 < s8)))), (.cptr [(.str (List.getD x0 (Int.toNat s9) (([] : Q8), (([] : Q8), 0))).1), (.str (List.getD x0 (Int.toNat s9) (([] : Q8), (([] : Q8), 0))).2.1), (.int .i64 (List.getD x0 (Int.toNat s9) (([] : Q8), (([] : Q8), 0))).2.2)] 0), (.agg [(.d (.str (List.getD x0 (Int.toNat s9) (([] : Q8), (([] : Q8), 0))).1)), (.d (.str (List.getD x0 (Int.toNat s9) (([] : Q8), (([] : Q8), 0))).2.1)), (.d (.int .i64 (List.getD x0 (Int.toNat s9) (([] : Q8), (([] : Q8), 0))).2.2))]), (.agg [(.d (.str (List.getD x0 (Int.toNat s9) (([] : Q8), (([] : Q8), 0))).1)), (.d (.str (List.getD x0 (Int.toNat s9) (([] : Q8), (([] : Q8), 0))).2.1)), (.d (.int .i64 (List.getD x0 (Int.toNat s9) (([] : Q8), (([] : Q8), 0))).2.2))]), (.d (.sl (.pair .str .str) x1)), (.d (.bool false)), (.d (.bool true)), .top], [(.cells [(.d (.str (List.getD x0 (Int.toNat s9) (([] : Q8), (([] : Q8), 0))).1)), (.d (.str (List.getD x0 (Int.toNat s9) (([] : Q8), (([] : Q8), 0))).2.1)), (.d (.int .i64 (List.getD x0 (Int.toNat s9) (([] : Q8), (([] : Q8), 0))).2.2))])])
  | _ => (.exit 0, [.top, (.d (.sl (.pair .str .str) x1)), .top, .top, .top, .top, .top, (.d (.sl (.pair .str (.pair .str (.int .i64))) x0)), (.d (.int .i64 s8)), (.d (.int .i64 s9)), (.d (.bool (decide (s9 < s8)))), .top, .top, .top, .top, .top, .top, .top], [])
noncomputable def lbl27_0 : AC := loopBody 898 body27
@[reducible] noncomputable def cb7 (m : Nat) := (evC byref (evCall F S14 (m + 24)) (m + 24) 0 (hds 27) lbl27_0)


theorem l27_0_step (m n : Nat) (ih : ∀ (x0 : Q4) (x1 : Q5) (s8 : Int) (s9 : Int) (q : Nat × Int), l27_0 m n x0 x1 s8 s9 = some q → (turns (hds 27 898) 0 898 (cb7 m) n (l27_0H x0 x1 s8 s9) (l27_0B x0 x1 s8 s9)).run = some (l27_0E (x0) (x1) (s8) (q.2) q.1)) (x0 : Q4) (x1 : Q5) (s8 : Int) (s9 : Int) (q : Nat × Int) (h : l27_0 m (n + 1) x0 x1 s8 s9 = some q) : (turns (hds 27 898) 0 898 (cb7 m) (n + 1) (l27_0H x0 x1 s8 s9) (l27_0B x0 x1 s8 s9)).run = some (l27_0E (x0) (x1) (s8) (q.2) q.1) := by
  rw [l27_0] at h
  refine ite_cases h (fun c0 h => ?_) (fun c0 h => ?_)
  · skip
    obtain ⟨c1, h⟩ := iY h
    obtain ⟨c2, h⟩ := iY h
    obtain ⟨c3, h⟩ := iY h
    refine ite_cases h (fun c4 h => ?_) (fun c4 h => ?_)
    · skip
      obtain ⟨c9, h⟩ := iY h
      refine ite_cases h (fun c14 h => ?_) (fun c14 h => ?_)
      · skip
        refine ite_cases h (fun c15 h => ?_) (fun c15 h => ?_)
        · skip
          have ih := ih _ _ _ _ q h
          refine turns_step ?_ ih
          exact M.run_of_path _ [tT, tT, tT, tT, tT, tT, tT, tT, tT, tT, tT, tT, tT, tT, tT, fF] _ _ (by kernel_rfl) (all_t c0 (all_t c1 (all_t c2 (all_t c3 (all_t c4 (all_t c4 (all_t c4 (all_t c4 (all_t c4 (all_t c9 (all_t c4 (all_t c4 (all_t c4 (all_t c4 (all_t c14 (all_nt c15 all_nil))))))))))))))))
        · skip
          cases h
          refine turns_last (by simp) ?_
          exact M.run_of_path _ [tT, tT, tT, tT, tT, tT, tT, tT, tT, tT, tT, tT, tT, tT, tT, tT] _ _ (by kernel_rfl) (all_t c0 (all_t c1 (all_t c2 (all_t c3 (all_t c4 (all_t c4 (all_t c4 (all_t c4 (all_t c4 (all_t c9 (all_t c4 (all_t c4 (all_t c4 (all_t c4 (all_t c14 (all_nf c15 all_nil))))))))))))))))
      · skip
        refine ite_cases h (fun c15 h => ?_) (fun c15 h => ?_)
        · skip
          refine ite_cases h (fun c16 h => ?_) (fun c16 h => ?_)
          · skip
            cases h
            refine turns_last (by simp) ?_
            exact M.run_of_path _ [tT, tT, tT, tT, tT, tT, tT, tT, tT, tT, tT, tT, tT, tT, fF, tT, tT] _ _ (by kernel_rfl) (all_t c0 (all_t c1 (all_t c2 (all_t c3 (all_t c4 (all_t c4 (all_t c4 (all_t c4 (all_t c4 (all_t c9 (all_t c4 (all_t c4 (all_t c4 (all_t c4 (all_f c14 (all_t c15 (all_nnt c16 all_nil)))))))))))))))))
          · skip
            have ih := ih _ _ _ _ q h
            refine turns_step ?_ ih
            exact M.run_of_path _ [tT, tT, tT, tT, tT, tT, tT, tT, tT, tT, tT, tT, tT, tT, fF, tT, fF] _ _ (by kernel_rfl) (all_t c0 (all_t c1 (all_t c2 (all_t c3 (all_t c4 (all_t c4 (all_t c4 (all_t c4 (all_t c4 (all_t c9 (all_t c4 (all_t c4 (all_t c4 (all_t c4 (all_f c14 (all_t c15 (all_nnf c16 all_nil)))))))))))))))))
        · skip
          refine ite_cases h (fun c16 h => ?_) (fun c16 h => ?_)
          · skip
            refine ite_cases h (fun c17 h => ?_) (fun c17 h => ?_)
            · skip
              have ih := ih _ _ _ _ q h
              refine turns_step ?_ ih
              exact M.run_of_path _ [tT, tT, tT, tT, tT, tT, tT, tT, tT, tT, tT, tT, tT, tT, fF, fF, tT, fF] _ _ (by kernel_rfl) (all_t c0 (all_t c1 (all_t c2 (all_t c3 (all_t c4 (all_t c4 (all_t c4 (all_t c4 (all_t c4 (all_t c9 (all_t c4 (all_t c4 (all_t c4 (all_t c4 (all_f c14 (all_f c15 (all_t c16 (all_nt c17 all_nil))))))))))))))))))
            · skip
              cases h
              refine turns_last (by simp) ?_
              exact M.run_of_path _ [tT, tT, tT, tT, tT, tT, tT, tT, tT, tT, tT, tT, tT, tT, fF, fF, tT, tT] _ _ (by kernel_rfl) (all_t c0 (all_t c1 (all_t c2 (all_t c3 (all_t c4 (all_t c4 (all_t c4 (all_t c4 (all_t c4 (all_t c9 (all_t c4 (all_t c4 (all_t c4 (all_t c4 (all_f c14 (all_f c15 (all_t c16 (all_nf c17 all_nil))))))))))))))))))
          · skip
            refine ite_cases h (fun c17 h => ?_) (fun c17 h => ?_)
            · skip
              refine ite_cases h (fun c18 h => ?_) (fun c18 h => ?_)
              · skip
                cases h
                refine turns_last (by simp) ?_
                exact M.run_of_path _ [tT, tT, tT, tT, tT, tT, tT, tT, tT, tT, tT, tT, tT, tT, fF, fF, fF, tT, tT] _ _ (by kernel_rfl) (all_t c0 (all_t c1 (all_t c2 (all_t c3 (all_t c4 (all_t c4 (all_t c4 (all_t c4 (all_t c4 (all_t c9 (all_t c4 (all_t c4 (all_t c4 (all_t c4 (all_f c14 (all_f c15 (all_f c16 (all_t c17 (all_nnt c18 all_nil)))))))))))))))))))
              · skip
                have ih := ih _ _ _ _ q h
                refine turns_step ?_ ih
                exact M.run_of_path _ [tT, tT, tT, tT, tT, tT, tT, tT, tT, tT, tT, tT, tT, tT, fF, fF, fF, tT, fF] _ _ (by kernel_rfl) (all_t c0 (all_t c1 (all_t c2 (all_t c3 (all_t c4 (all_t c4 (all_t c4 (all_t c4 (all_t c4 (all_t c9 (all_t c4 (all_t c4 (all_t c4 (all_t c4 (all_f c14 (all_f c15 (all_f c16 (all_t c17 (all_nnf c18 all_nil)))))))))))))))))))
            · skip
              cases h
              refine turns_last (by simp) ?_
              exact M.run_of_path _ [tT, tT, tT, tT, tT, tT, tT, tT, tT, tT, tT, tT, tT, tT, fF, fF, fF, fF, tT] _ _ (by kernel_rfl) (all_t c0 (all_t c1 (all_t c2 (all_t c3 (all_t c4 (all_t c4 (all_t c4 (all_t c4 (all_t c4 (all_t c9 (all_t c4 (all_t c4 (all_t c4 (all_t c4 (all_f c14 (all_f c15 (all_f c16 (all_f c17 (all_t rfl all_nil)))))))))))))))))))
    · skip
      refine ite_cases h (fun c13 h => ?_) (fun c13 h => ?_)
      · skip
        refine ite_cases h (fun c14 h => ?_) (fun c14 h => ?_)
        · skip
          have ih := ih _ _ _ _ q h
          refine turns_step ?_ ih
          exact M.run_of_path _ [tT, tT, tT, tT, fF, fF, fF, fF, fF, fF, fF, fF, fF, tT, fF] _ _ (by kernel_rfl) (all_t c0 (all_t c1 (all_t c2 (all_t c3 (all_f c4 (all_f c4 (all_f c4 (all_f c4 (all_f c4 (all_f c4 (all_f c4 (all_f c4 (all_f c4 (all_t c13 (all_nt c14 all_nil)))))))))))))))
        · skip
          cases h
          refine turns_last (by simp) ?_
          exact M.run_of_path _ [tT, tT, tT, tT, fF, fF, fF, fF, fF, fF, fF, fF, fF, tT, tT] _ _ (by kernel_rfl) (all_t c0 (all_t c1 (all_t c2 (all_t c3 (all_f c4 (all_f c4 (all_f c4 (all_f c4 (all_f c4 (all_f c4 (all_f c4 (all_f c4 (all_f c4 (all_t c13 (all_nf c14 all_nil)))))))))))))))
      · skip
        refine ite_cases h (fun c14 h => ?_) (fun c14 h => ?_)
        · skip
          refine ite_cases h (fun c15 h => ?_) (fun c15 h => ?_)
          · skip
            cases h
            refine turns_last (by simp) ?_
            exact M.run_of_path _ [tT, tT, tT, tT, fF, fF, fF, fF, fF, fF, fF, fF, fF, fF, tT, tT] _ _ (by kernel_rfl) (all_t c0 (all_t c1 (all_t c2 (all_t c3 (all_f c4 (all_f c4 (all_f c4 (all_f c4 (all_f c4 (all_f c4 (all_f c4 (all_f c4 (all_f c4 (all_f c13 (all_t c14 (all_nnt c15 all_nil))))))))))))))))
          · skip
            have ih := ih _ _ _ _ q h
            refine turns_step ?_ ih
            exact M.run_of_path _ [tT, tT, tT, tT, fF, fF, fF, fF, fF, fF, fF, fF, fF, fF, tT, fF] _ _ (by kernel_rfl) (all_t c0 (all_t c1 (all_t c2 (all_t c3 (all_f c4 (all_f c4 (all_f c4 (all_f c4 (all_f c4 (all_f c4 (all_f c4 (all_f c4 (all_f c4 (all_f c13 (all_t c14 (all_nnf c15 all_nil))))))))))))))))
        · skip
          refine ite_cases h (fun c15 h => ?_) (fun c15 h => ?_)
          · skip
            cases h
            refine turns_last (by simp) ?_
            exact M.run_of_path _ [tT, tT, tT, tT, fF, fF, fF, fF, fF, fF, fF, fF, fF, fF, fF, tT, tT] _ _ (by kernel_rfl) (all_t c0 (all_t c1 (all_t c2 (all_t c3 (all_f c4 (all_f c4 (all_f c4 (all_f c4 (all_f c4 (all_f c4 (all_f c4 (all_f c4 (all_f c4 (all_f c13 (all_f c14 (all_t c15 (all_t rfl all_nil)))))))))))))))))
          · skip
            refine ite_cases h (fun c16 h => ?_) (fun c16 h => ?_)
            · skip
              have ih := ih _ _ _ _ q h
              refine turns_step ?_ ih
              exact M.run_of_path _ [tT, tT, tT, tT, fF, fF, fF, fF, fF, fF, fF, fF, fF, fF, fF, fF, tT, fF] _ _ (by kernel_rfl) (all_t c0 (all_t c1 (all_t c2 (all_t c3 (all_f c4 (all_f c4 (all_f c4 (all_f c4 (all_f c4 (all_f c4 (all_f c4 (all_f c4 (all_f c4 (all_f c13 (all_f c14 (all_f c15 (all_t c16 (all_f Bool.false_ne_true all_nil))))))))))))))))))
            · skip
              cases h
              refine turns_last (by simp) ?_
              exact M.run_of_path _ [tT, tT, tT, tT, fF, fF, fF, fF, fF, fF, fF, fF, fF, fF, fF, fF, fF, tT] _ _ (by kernel_rfl) (all_t c0 (all_t c1 (all_t c2 (all_t c3 (all_f c4 (all_f c4 (all_f c4 (all_f c4 (all_f c4 (all_f c4 (all_f c4 (all_f c4 (all_f c4 (all_f c13 (all_f c14 (all_f c15 (all_f c16 (all_t rfl all_nil))))))))))))))))))
  · skip
    cases h
    refine turns_last (by simp) ?_
    exact M.run_of_path _ [fF] _ _ (by kernel_rfl) (all_f c0 all_nil)
theorem l27_0_ok (m : Nat) : ∀ (n : Nat) (x0 : Q4) (x1 : Q5) (s8 : Int) (s9 : Int) (q : Nat × Int), l27_0 m n x0 x1 s8 s9 = some q → (turns (hds 27 898) 0 898 (cb7 m) n (l27_0H x0 x1 s8 s9) (l27_0B x0 x1 s8 s9)).run = some (l27_0E (x0) (x1) (s8) (q.2) q.1)
  | 0, x0, x1, s8, s9, q, h => by cases h
  | n + 1, x0, x1, s8, s9, q, h => l27_0_step m n (l27_0_ok m n) x0 x1 s8 s9 q h

def p27 (m : Nat) (x0 : Q4) (x1 : Q5) : Option (Bool) :=
  if (Option.isSome (l27_0 m (m + 24) x0 x1 ((((List.length x0) : Nat) : Int)) 0)) = true then
  if ((l27_0R m (m + 24) x0 x1 ((((List.length x0) : Nat) : Int)) 0).1 == 0) = true then
    some (false)
  else
    if ((l27_0R m (m + 24) x0 x1 ((((List.length x0) : Nat) : Int)) 0).1 == 1) = true then
      some (false)
    else
      if ((l27_0R m (m + 24) x0 x1 ((((List.length x0) : Nat) : Int)) 0).1 == 2) = true then
        some (false)
      else
        if ((l27_0R m (m + 24) x0 x1 ((((List.length x0) : Nat) : Int)) 0).1 == 3) = true then
          some (false)
        else
          if ((l27_0R m (m + 24) x0 x1 ((((List.length x0) : Nat) : Int)) 0).1 == 4) = true then
            some (false)
          else
            if ((l27_0R m (m + 24) x0 x1 ((((List.length x0) : Nat) : Int)) 0).1 == 5) = true then
              some (false)
            else
              if ((l27_0R m (m + 24) x0 x1 ((((List.length x0) : Nat) : Int)) 0).1 == 6) = true then
                some (false)
              else
                if ((l27_0R m (m + 24) x0 x1 ((((List.length x0) : Nat) : Int)) 0).1 == 7) = true then
                  some (false)
                else
                  if ((l27_0R m (m + 24) x0 x1 ((((List.length x0) : Nat) : Int)) 0).1 == 8) = true then
                    some (false)
                  else
                    if ((l27_0R m (m + 24) x0 x1 ((((List.length x0) : Nat) : Int)) 0).1 == 9) = true then
                    some (true)
                    else none
  else none
theorem p27_ok (m : Nat) (x0 : Q4) (x1 : Q5) (q : Bool) (h : p27 m x0 x1 = some q) : ∃ r B1, (evCall F S14 (m + 25) 27 [(.d (.sl (.pair .str (.pair .str (.int .i64))) x0)), (.d (.sl (.pair .str .str) x1))] []).run = some (r, B1) ∧ 0 ≤ B1.length ∧ wkR B1 [] r (.d (.bool (q))) ∧ wkBs B1 [] 0 [] := by
  unfold p27 at h
  obtain ⟨c0, h⟩ := iY h
  refine ite_cases h (fun c1 h => ?_) (fun c1 h => ?_)
  · skip
    cases h
    refine ⟨(.d (.bool false)), [], runT_ok (LS := (fun k => if k = 898 then some (l27_0E x0 x1 (((((List.length x0) : Nat) : Int))) ((l27_0R m (m + 24) x0 x1 ((((List.length x0) : Nat) : Int)) 0).2) 0) else none)) (fn := fn27) (vis := [(898, l27_0H x0 x1 ((((List.length x0) : Nat) : Int)) 0, l27_0B x0 x1 ((((List.length x0) : Nat) : Int)) 0)]) (by kernel_rfl) rfl (by kernel_rfl) (M.run_of_path _ [] _ _ (by kernel_rfl) all_nil) ?_, by simp, (wkR.one (wkV.one (wk1.eq rfl))), trivial⟩
    intro p hp p2 hq
    rcases List.mem_cons.1 hp with rfl | hp
    · skip
      have h3 := l27_0_ok m (m + 24) x0 x1 ((((List.length x0) : Nat) : Int)) 0 _ (some_getD (d := l27_0D) c0)
      rw [eq_of_beq c1] at h3
      exact Eq.trans (Eq.mp (by kernel_rfl) h3) hq
    cases hp
  · skip
    refine ite_cases h (fun c2 h => ?_) (fun c2 h => ?_)
    · skip
      cases h
      refine ⟨(.d (.bool false)), [], runT_ok (LS := (fun k => if k = 898 then some (l27_0E x0 x1 (((((List.length x0) : Nat) : Int))) ((l27_0R m (m + 24) x0 x1 ((((List.length x0) : Nat) : Int)) 0).2) 1) else none)) (fn := fn27) (vis := [(898, l27_0H x0 x1 ((((List.length x0) : Nat) : Int)) 0, l27_0B x0 x1 ((((List.length x0) : Nat) : Int)) 0)]) (by kernel_rfl) rfl (by kernel_rfl) (M.run_of_path _ [] _ _ (by kernel_rfl) all_nil) ?_, by simp, (wkR.one (wkV.one (wk1.eq rfl))), trivial⟩
      intro p hp p2 hq
      rcases List.mem_cons.1 hp with rfl | hp
      · skip
        have h3 := l27_0_ok m (m + 24) x0 x1 ((((List.length x0) : Nat) : Int)) 0 _ (some_getD (d := l27_0D) c0)
        rw [eq_of_beq c2] at h3
        exact Eq.trans (Eq.mp (by kernel_rfl) h3) hq
      cases hp
    · skip
      refine ite_cases h (fun c3 h => ?_) (fun c3 h => ?_)
      · skip
        cases h
        refine ⟨(.d (.bool false)), [], runT_ok (LS := (fun k => if k = 898 then some (l27_0E x0 x1 (((((List.length x0) : Nat) : Int))) ((l27_0R m (m + 24) x0 x1 ((((List.length x0) : Nat) : Int)) 0).2) 2) else none)) (fn := fn27) (vis := [(898, l27_0H x0 x1 ((((List.length x0) : Nat) : Int)) 0, l27_0B x0 x1 ((((List.length x0) : Nat) : Int)) 0)]) (by kernel_rfl) rfl (by kernel_rfl) (M.run_of_path _ [] _ _ (by kernel_rfl) all_nil) ?_, by simp, (wkR.one (wkV.one (wk1.eq rfl))), trivial⟩
        intro p hp p2 hq
        rcases List.mem_cons.1 hp with rfl | hp
        · skip
          have h3 := l27_0_ok m (m + 24) x0 x1 ((((List.length x0) : Nat) : Int)) 0 _ (some_getD (d := l27_0D) c0)
          rw [eq_of_beq c3] at h3
          exact Eq.trans (Eq.mp (by kernel_rfl) h3) hq
        cases hp
      · skip
        refine ite_cases h (fun c4 h => ?_) (fun c4 h => ?_)
        · skip
          cases h
          refine ⟨(.d (.bool false)), [], runT_ok (LS := (fun k => if k = 898 then some (l27_0E x0 x1 (((((List.length x0) : Nat) : Int))) ((l27_0R m (m + 24) x0 x1 ((((List.length x0) : Nat) : Int)) 0).2) 3) else none)) (fn := fn27) (vis := [(898, l27_0H x0 x1 ((((List.length x0) : Nat) : Int)) 0, l27_0B x0 x1 ((((List.length x0) : Nat) : Int)) 0)]) (by kernel_rfl) rfl (by kernel_rfl) (M.run_of_path _ [] _ _ (by kernel_rfl) all_nil) ?_, by simp, (wkR.one (wkV.one (wk1.eq rfl))), trivial⟩
          intro p hp p2 hq
          rcases List.mem_cons.1 hp with rfl | hp
          · skip
            have h3 := l27_0_ok m (m + 24) x0 x1 ((((List.length x0) : Nat) : Int)) 0 _ (some_getD (d := l27_0D) c0)
            rw [eq_of_beq c4] at h3
            exact Eq.trans (Eq.mp (by kernel_rfl) h3) hq
          cases hp
        · skip
          refine ite_cases h (fun c5 h => ?_) (fun c5 h => ?_)
          · skip
            cases h
            refine ⟨(.d (.bool false)), [], runT_ok (LS := (fun k => if k = 898 then some (l27_0E x0 x1 (((((List.length x0) : Nat) : Int))) ((l27_0R m (m + 24) x0 x1 ((((List.length x0) : Nat) : Int)) 0).2) 4) else none)) (fn := fn27) (vis := [(898, l27_0H x0 x1 ((((List.length x0) : Nat) : Int)) 0, l27_0B x0 x1 ((((List.length x0) : Nat) : Int)) 0)]) (by kernel_rfl) rfl (by kernel_rfl) (M.run_of_path _ [] _ _ (by kernel_rfl) all_nil) ?_, by simp, (wkR.one (wkV.one (wk1.eq rfl))), trivial⟩
            intro p hp p2 hq
            rcases List.mem_cons.1 hp with rfl | hp
            · skip
              have h3 := l27_0_ok m (m + 24) x0 x1 ((((List.length x0) : Nat) : Int)) 0 _ (some_getD (d := l27_0D) c0)
              rw [eq_of_beq c5] at h3
              exact Eq.trans (Eq.mp (by kernel_rfl) h3) hq
            cases hp
          · skip
            refine ite_cases h (fun c6 h => ?_) (fun c6 h => ?_)
            · skip
              cases h
              refine ⟨(.d (.bool false)), [], runT_ok (LS := (fun k => if k = 898 then some (l27_0E x0 x1 (((((List.length x0) : Nat) : Int))) ((l27_0R m (m + 24) x0 x1 ((((List.length x0) : Nat) : Int)) 0).2) 5) else none)) (fn := fn27) (vis := [(898, l27_0H x0 x1 ((((List.length x0) : Nat) : Int)) 0, l27_0B x0 x1 ((((List.length x0) : Nat) : Int)) 0)]) (by kernel_rfl) rfl (by kernel_rfl) (M.run_of_path _ [] _ _ (by kernel_rfl) all_nil) ?_, by simp, (wkR.one (wkV.one (wk1.eq rfl))), trivial⟩
              intro p hp p2 hq
              rcases List.mem_cons.1 hp with rfl | hp
              · skip
                have h3 := l27_0_ok m (m + 24) x0 x1 ((((List.length x0) : Nat) : Int)) 0 _ (some_getD (d := l27_0D) c0)
                rw [eq_of_beq c6] at h3
                exact Eq.trans (Eq.mp (by kernel_rfl) h3) hq
              cases hp
            · skip
              refine ite_cases h (fun c7 h => ?_) (fun c7 h => ?_)
              · skip
                cases h
                refine ⟨(.d (.bool false)), [], runT_ok (LS := (fun k => if k = 898 then some (l27_0E x0 x1 (((((List.length x0) : Nat) : Int))) ((l27_0R m (m + 24) x0 x1 ((((List.length x0) : Nat) : Int)) 0).2) 6) else none)) (fn := fn27) (vis := [(898, l27_0H x0 x1 ((((List.length x0) : Nat) : Int)) 0, l27_0B x0 x1 ((((List.length x0) : Nat) : Int)) 0)]) (by kernel_rfl) rfl (by kernel_rfl) (M.run_of_path _ [] _ _ (by kernel_rfl) all_nil) ?_, by simp, (wkR.one (wkV.one (wk1.eq rfl))), trivial⟩
                intro p hp p2 hq
                rcases List.mem_cons.1 hp with rfl | hp
                · skip
                  have h3 := l27_0_ok m (m + 24) x0 x1 ((((List.length x0) : Nat) : Int)) 0 _ (some_getD (d := l27_0D) c0)
                  rw [eq_of_beq c7] at h3
                  exact Eq.trans (Eq.mp (by kernel_rfl) h3) hq
                cases hp
              · skip
                refine ite_cases h (fun c8 h => ?_) (fun c8 h => ?_)
                · skip
                  cases h
                  refine ⟨(.d (.bool false)), [], runT_ok (LS := (fun k => if k = 898 then some (l27_0E x0 x1 (((((List.length x0) : Nat) : Int))) ((l27_0R m (m + 24) x0 x1 ((((List.length x0) : Nat) : Int)) 0).2) 7) else none)) (fn := fn27) (vis := [(898, l27_0H x0 x1 ((((List.length x0) : Nat) : Int)) 0, l27_0B x0 x1 ((((List.length x0) : Nat) : Int)) 0)]) (by kernel_rfl) rfl (by kernel_rfl) (M.run_of_path _ [] _ _ (by kernel_rfl) all_nil) ?_, by simp, (wkR.one (wkV.one (wk1.eq rfl))), trivial⟩
                  intro p hp p2 hq
                  rcases List.mem_cons.1 hp with rfl | hp
                  · skip
                    have h3 := l27_0_ok m (m + 24) x0 x1 ((((List.length x0) : Nat) : Int)) 0 _ (some_getD (d := l27_0D) c0)
                    rw [eq_of_beq c8] at h3
                    exact Eq.trans (Eq.mp (by kernel_rfl) h3) hq
                  cases hp
                · skip
                  refine ite_cases h (fun c9 h => ?_) (fun c9 h => ?_)
                  · skip
                    cases h
                    refine ⟨(.d (.bool false)), [], runT_ok (LS := (fun k => if k = 898 then some (l27_0E x0 x1 (((((List.length x0) : Nat) : Int))) ((l27_0R m (m + 24) x0 x1 ((((List.length x0) : Nat) : Int)) 0).2) 8) else none)) (fn := fn27) (vis := [(898, l27_0H x0 x1 ((((List.length x0) : Nat) : Int)) 0, l27_0B x0 x1 ((((List.length x0) : Nat) : Int)) 0)]) (by kernel_rfl) rfl (by kernel_rfl) (M.run_of_path _ [] _ _ (by kernel_rfl) all_nil) ?_, by simp, (wkR.one (wkV.one (wk1.eq rfl))), trivial⟩
                    intro p hp p2 hq
                    rcases List.mem_cons.1 hp with rfl | hp
                    · skip
                      have h3 := l27_0_ok m (m + 24) x0 x1 ((((List.length x0) : Nat) : Int)) 0 _ (some_getD (d := l27_0D) c0)
                      rw [eq_of_beq c9] at h3
                      exact Eq.trans (Eq.mp (by kernel_rfl) h3) hq
                    cases hp
                  · skip
                    obtain ⟨c10, h⟩ := iY h
                    cases h
                    refine ⟨(.d (.bool true)), [], runT_ok (LS := (fun k => if k = 898 then some (l27_0E x0 x1 (((((List.length x0) : Nat) : Int))) ((l27_0R m (m + 24) x0 x1 ((((List.length x0) : Nat) : Int)) 0).2) 9) else none)) (fn := fn27) (vis := [(898, l27_0H x0 x1 ((((List.length x0) : Nat) : Int)) 0, l27_0B x0 x1 ((((List.length x0) : Nat) : Int)) 0)]) (by kernel_rfl) rfl (by kernel_rfl) (M.run_of_path _ [] _ _ (by kernel_rfl) all_nil) ?_, by simp, (wkR.one (wkV.one (wk1.eq rfl))), trivial⟩
                    intro p hp p2 hq
                    rcases List.mem_cons.1 hp with rfl | hp
                    · skip
                      have h3 := l27_0_ok m (m + 24) x0 x1 ((((List.length x0) : Nat) : Int)) 0 _ (some_getD (d := l27_0D) c0)
                      rw [eq_of_beq c10] at h3
                      exact Eq.trans (Eq.mp (by kernel_rfl) h3) hq
                    cases hp

theorem rall_loop (m : Nat) (ms : List MT) (l : LB) (hl : l.length ≤ 1000000) (hb : ms.length ≤ 1000000) : ∀ (n k : Nat), k ≤ ms.length → ms.length - k < n → ∃ e j, l27_0 m n ms l (ms.length : Nat) (k : Nat) = some (e, j) ∧ ((e = 9 ∧ allG l (ms.drop k) = true) ∨ (e < 9 ∧ allG l (ms.drop k) = false))
  | 0, k, _, h => by omega
  | n + 1, k, h1, h2 => by
    rw [l27_0]
    by_cases hk : k < ms.length
    · have e1 : decide (((k : Nat) : Int) < (((List.length ms) : Nat) : Int)) = true := decide_eq_true (by omega)
      have e2 : decide ((0 : Int) ≤ ((k : Nat) : Int)) = true := decide_eq_true (by omega)
      have e3 : decide (List.length l ≤ 1000000) = true := decide_eq_true hl
      have e7 : IntKind.wrap .i64 (((k : Nat) : Int) + (1)) = ((k + 1 : Nat) : Int) := by rw [wrap_id (by omega) (by omega)]; rfl
      rw [drop_getD ms k (([] : Q8), (([] : Q8), 0)) hk]
      simp only [show Int.toNat ((k : Nat) : Int) = k from rfl, e1, e2, e3, e7, ↓reduceIte]
      have go := rall_loop m ms l hl hb n (k + 1) (by omega) (by omega)
      generalize ms.getD k (([] : Q8), (([] : Q8), 0)) = q at *
      have hcons : allG l (q :: ms.drop (k + 1)) = (holdsG l q && allG l (ms.drop (k + 1))) := rfl
      rw [hcons]
      have yes : holdsG l q = true → ∃ e j, l27_0 m n ms l (ms.length : Nat) ((k + 1 : Nat) : Int) = some (e, j) ∧ ((e = 9 ∧ (holdsG l q && allG l (ms.drop (k + 1))) = true) ∨ (e < 9 ∧ (holdsG l q && allG l (ms.drop (k + 1))) = false)) := by
        intro h; rw [h, Bool.true_and]; exact go
      have no : ∀ e : Nat, e < 9 → holdsG l q = false → ∃ e' j, (some (e, ((k : Nat) : Int)) : Option (Nat × Int)) = some (e', j) ∧ ((e' = 9 ∧ (holdsG l q && allG l (ms.drop (k + 1))) = true) ∨ (e' < 9 ∧ (holdsG l q && allG l (ms.drop (k + 1))) = false)) := by
        intro e he h; exact ⟨e, _, rfl, .inr ⟨he, by rw [h]; rfl⟩⟩
      generalize allG l (ms.drop (k + 1)) = rest at *
      have hv : holdsG l q = if q.2.2 = 1 then getG l q.1 == q.2.1 else if q.2.2 = 2 then !(getG l q.1 == q.2.1) else if q.2.2 = 3 then preB (getG l q.1) q.2.1 else if q.2.2 = 4 then !preB (getG l q.1) q.2.1 else false := rfl
      generalize holdsG l q = hq at *
      generalize getG l q.1 = v at *
      obtain ⟨nm, p, kd⟩ := q
      simp only at hv ⊢
      have hpre : preB v p = (decide (p.length ≤ v.length) && (v.take p.length == p)) := rfl
      generalize preB v p = pr at *
      have f3 : List.drop 0 (List.take (Int.toNat (((List.length p) : Nat) : Int)) v) = v.take p.length := by rw [Int.toNat_natCast, List.drop_zero]
      rw [f3]
      generalize hT : (v.take p.length == p) = T at *
      generalize hE : (v == p) = E at *
      by_cases hlen : p.length ≤ v.length
      · have f1 : decide ((((List.length v) : Nat) : Int) ≥ (((List.length p) : Nat) : Int)) = true := decide_eq_true (by omega)
        have f2 : (decide (0 ≤ (((List.length p) : Nat) : Int)) && decide ((((List.length p) : Nat) : Int) ≤ (((List.length v) : Nat) : Int))) = true := by simp; omega
        rw [show decide (p.length ≤ v.length) = true from decide_eq_true hlen, Bool.true_and] at hpre
        subst hpre
        simp only [f1, f2, ↓reduceIte]
        by_cases k1 : kd = 1
        · rw [if_pos (show (kd == (1)) = true by simp [k1])]; rw [if_pos k1] at hv
          cases E with
          | true => exact yes hv
          | false => exact no 0 (by omega) hv
        · rw [if_neg (show ¬ (kd == (1)) = true by simpa using k1)]; rw [if_neg k1] at hv
          by_cases k2 : kd = 2
          · rw [if_pos (show (kd == (2)) = true by simp [k2])]; rw [if_pos k2] at hv
            cases E with
            | true => exact no 1 (by omega) hv
            | false => exact yes hv
          · rw [if_neg (show ¬ (kd == (2)) = true by simpa using k2)]; rw [if_neg k2] at hv
            by_cases k3 : kd = 3
            · rw [if_pos (show (kd == (3)) = true by simp [k3])]; rw [if_pos k3] at hv
              cases pr with
              | true => exact yes hv
              | false => exact no 2 (by omega) hv
            · rw [if_neg (show ¬ (kd == (3)) = true by simpa using k3)]; rw [if_neg k3] at hv
              by_cases k4 : kd = 4
              · rw [if_pos (show (kd == (4)) = true by simp [k4])]; rw [if_pos k4] at hv
                cases pr with
                | true => exact no 3 (by omega) hv
                | false => exact yes hv
              · rw [if_neg (show ¬ (kd == (4)) = true by simpa using k4)]; rw [if_neg k4] at hv
                exact no 4 (by omega) hv
      · have f1 : decide ((((List.length v) : Nat) : Int) ≥ (((List.length p) : Nat) : Int)) = false := decide_eq_false (by omega)
        rw [show decide (p.length ≤ v.length) = false from decide_eq_false hlen, Bool.false_and] at hpre
        subst hpre
        simp only [f1, ↓reduceIte, Bool.false_eq_true]
        by_cases k1 : kd = 1
        · rw [if_pos (show (kd == (1)) = true by simp [k1])]; rw [if_pos k1] at hv
          cases E with
          | true => exact yes hv
          | false => exact no 5 (by omega) hv
        · rw [if_neg (show ¬ (kd == (1)) = true by simpa using k1)]; rw [if_neg k1] at hv
          by_cases k2 : kd = 2
          · rw [if_pos (show (kd == (2)) = true by simp [k2])]; rw [if_pos k2] at hv
            cases E with
            | true => exact no 6 (by omega) hv
            | false => exact yes hv
          · rw [if_neg (show ¬ (kd == (2)) = true by simpa using k2)]; rw [if_neg k2] at hv
            by_cases k3 : kd = 3
            · rw [if_pos (show (kd == (3)) = true by simp [k3])]; rw [if_pos k3] at hv
              exact no 7 (by omega) hv
            · rw [if_neg (show ¬ (kd == (3)) = true by simpa using k3)]; rw [if_neg k3] at hv
              by_cases k4 : kd = 4
              · rw [if_pos (show (kd == (4)) = true by simp [k4])]; rw [if_pos k4] at hv
                exact yes hv
              · rw [if_neg (show ¬ (kd == (4)) = true by simpa using k4)]; rw [if_neg k4] at hv
                exact no 8 (by omega) hv
    · have e1 : decide (((k : Nat) : Int) < (((List.length ms) : Nat) : Int)) = false := decide_eq_false (by omega)
      rw [e1, if_neg (by simp), List.drop_eq_nil_of_le (by omega)]
      exact ⟨9, _, rfl, .inl ⟨rfl, rfl⟩⟩
theorem rall27 (ms : List MT) (l : LB) (h : decide (List.length ms ≤ 1000000 ∧ List.length l ≤ 1000000) = true) : ∃ m, p27 m ms l = some (allG l ms) := by
  have h := of_decide_eq_true h
  refine ⟨ms.length, ?_⟩
  unfold p27 l27_0R
  obtain ⟨e, j, hr, he⟩ := rall_loop ms.length ms l h.2 h.1 (ms.length + 24) 0 (by omega) (by omega)
  simp only [Int.natCast_zero, List.drop_zero] at hr he
  rw [hr]
  rcases he with ⟨rfl, he⟩ | ⟨hlt, he⟩
  · rw [he]; rfl
  · rw [he]
    have : e = 0 ∨ e = 1 ∨ e = 2 ∨ e = 3 ∨ e = 4 ∨ e = 5 ∨ e = 6 ∨ e = 7 ∨ e = 8 := by omega
    rcases this with rfl | rfl | rfl | rfl | rfl | rfl | rfl | rfl | rfl <;> rfl
def s27 : List AV → Boxes → M (AV × Boxes) := normS [.val (.sl (.pair .str (.pair .str (.int .i64)))), .val (.sl (.pair .str .str))] [] fun xs B => match xs, B with
  | [(.d (.sl (.pair .str (.pair .str (.int .i64))) c1)), (.d (.sl (.pair .str .str) c2))], [] => .chk (decide (List.length c1 ≤ 1000000 ∧ List.length c2 ≤ 1000000)) (.ret ((.d (.bool (allG c2 c1))), []))
  | _, _ => .fail
theorem s27_at : CallAt Tryd.prog 27 s27 := by
  refine CallAt.norm (CallAt.weakE (g := fun n => evCall F S14 n 27) (fun n => evCall_atH mixed kinds hds S14 S14_ok n 27) fun xs B r' B' hr => ?_) _ _
  split at hr
  · rename_i c1 c2
    obtain ⟨hp, hr⟩ := (M.run_chk _ _ _).1 hr
    simp only [M.run, Option.some.injEq, Prod.mk.injEq] at hr
    obtain ⟨rfl, rfl⟩ := hr
    obtain ⟨m, hm⟩ := rall27 c1 c2 hp
    obtain ⟨r, B1, h1, h2, h3, h4⟩ := p27_ok m c1 c2 _ hm
    exact ⟨m + 25, r, B1, h1, by simp, h2, h3, h4⟩
  · simp [M.run] at hr
noncomputable def S15 : FuncId → Option (List AV → Boxes → M (AV × Boxes)) := fun f => if f = 27 then some s27 else S14 f
theorem S15_ok : ∀ f s, S15 f = some s → CallAt Tryd.prog f s := by
  intro f s h
  unfold S15 at h
  split at h
  · rename_i e; subst e; cases h; exact s27_at
  · exact S14_ok f s h

end Go.Proofs.YtghkbjflejgieaaDoor.Dec
namespace Go.Proofs.YtghkbjflejgieaaDoor.Dec
open Go.Ev
set_option linter.unusedVariables false
set_option linter.unusedSimpArgs false
set_option maxRecDepth 100000
set_option maxHeartbeats 20000000
noncomputable def S16 : FuncId → Option (List AV → Boxes → M (AV × Boxes)) := fun f => if f = 33 then some (plainS (cloneG (.pair .str .str) 32)) else S15 f
theorem S16_ok : ∀ f s, S16 f = some s → CallAt Tryd.prog f s := by
  intro f s h
  unfold S16 at h
  split at h
  · rename_i e; subst e; cases h; exact Go.Proofs.YtghkbjflejgieaaDoor.Ev.clone33
  · exact S15_ok f s h

noncomputable def fn31 : AFn := (F 31).getD ⟨0, [], .bad, false, false, noHd⟩
noncomputable def body31 : AC := fn31.body
def l31_0 (m : Nat) : Nat → Q5 → Q5 → Int → Int → Option (Nat × Int)
  | 0, _, _, _, _ => none
  | n + 1, x0, x1, s12, s13 => if decide (s13 < s12) = true then
      if decide (0 ≤ s13) = true then
      if decide (s13 < (((List.length x0) : Nat) : Int)) = true then
      if decide (s13 < (((List.length x1) : Nat) : Int)) = true then
      if (((List.getD x0 (Int.toNat s13) (([] : Q8), ([] : Q8))).1 == (List.getD x1 (Int.toNat s13) (([] : Q8), ([] : Q8))).1) && (((List.getD x0 (Int.toNat s13) (([] : Q8), ([] : Q8))).2 == (List.getD x1 (Int.toNat s13) (([] : Q8), ([] : Q8))).2) && true)) = true then
        l31_0 m n x0 x1 s12 ((IntKind.wrap .i64 (s13 + (1))))
      else
        some (0, s13)
      else none
      else none
      else none
    else
      some (1, s13)
def l31_0D : Nat × Int := (0, 0)
@[reducible] def l31_0R (m n : Nat) (x0 : Q5) (x1 : Q5) (s12 : Int) (s13 : Int) : Nat × Int := Option.getD (l31_0 m n x0 x1 s12 s13) l31_0D
def l31_0H (x0 : Q5) (x1 : Q5) (s12 : Int) (s13 : Int) : Env := ((.d (.sl (.pair .str .str) x0)) :: (.d (.sl (.pair .str .str) x1)) :: tp10 ((.d (.int .i64 s12)) :: (.d (.int .i64 s13)) :: tp12 []))
def l31_0B (x0 : Q5) (x1 : Q5) (s12 : Int) (s13 : Int) : Boxes := []
def l31_0E (x0 : Q5) (x1 : Q5) (s12 : Int) (s13 : Int) : Nat → AEx × Env × Boxes
  | 0 => (.ret, [(.d (.sl (.pair .str .str) x0)), (.d (.sl (.pair .str .str) x1)), .top, .top, (.d (.bool false)), (.d (.int .i64 s13)), .top, .top, .top, .top, .top, .top, (.d (.int .i64 s12)), (.d (.int .i64 s13)), (.d (.bool (decide (s13 < s12)))), (.d (.int .i64 s13)), (.d (.sl (.pair .str .str) x0)), (.d (.int .i64 s13)), (.cptr [(.str (List.getD x0 (Int.toNat s13) (([] : Q8), ([] : Q8))).1), (.str (List.getD x0 (Int.toNat s13) (([] : Q8), ([] : Q8))).2)] 0), (.agg [(.d (.str (List.getD x0 (Int.toNat s13) (([] : Q8), ([] : Q8))).1)), (.d (.str (List.getD x0 (Int.toNat s13) (([] : Q8), ([] : Q8))).2))]), (.d (.sl (.pair .str .str) x1)), (.d (.int .i64 s13)), (.cptr [(.str (List.getD x1 (Int.toNat s13) (([] : Q8), ([] : Q8))).1), (.str (List.getD x1 (Int.toNat s13) (([] : Q8), ([] : Q8))).2)] 0), (.agg [(.d (.str (List.getD x1 (Int.toNat s13) (([] : Q8), ([] : Q8))).1)), (.d (.str (List.getD x1 (Int.toNat s13) (([] : Q8), ([] : Q8))).2))]), (.d (.bool (!(((List.getD x0 (Int.toNat s13) (([] : Q8), ([] : Q8))).1 == (List.getD x1 (Int.toNat s13) (([] : Q8), ([] : Q8))).1) && (((List.getD x0 (Int.toNat s13) (([] : Q8), ([] : Q8))).2 == (List.getD x1 (Int.toNat s13) (([] : Q8), ([] : Q8))).2) && true))))), .top], [.dead, .dead, .dead, .dead, .dead, .dead, .dead, .dead, .dead, .dead, .dead, .dead, .dead, .dead, .dead, .dead, .dead, .dead, .dead, .dead, .dead, .dead, .dead, .dead, .dead, .dead, .dead, .dead, .dead, .dead, .dead, .dead, .dead, .dead, .dead, .dead])
  | _ => (.exit 0, ((.d (.sl (.pair .str .str) x0)) :: (.d (.sl (.pair .str .str) x1)) :: tp10 ((.d (.int .i64 s12)) :: (.d (.int .i64 s13)) :: (.d (.bool (decide (s13 < s12)))) :: tp11 [])), [])
noncomputable def lbl31_0 : AC := loopBody 12291 body31
@[reducible] noncomputable def cb8 (m : Nat) := (evC byref (evCall F S16 (m + 24)) (m + 24) 0 (hds 31) lbl31_0)


theorem l31_0_step (m n : Nat) (ih : ∀ (x0 : Q5) (x1 : Q5) (s12 : Int) (s13 : Int) (q : Nat × Int), l31_0 m n x0 x1 s12 s13 = some q → (turns (hds 31 12291) 0 12291 (cb8 m) n (l31_0H x0 x1 s12 s13) (l31_0B x0 x1 s12 s13)).run = some (l31_0E (x0) (x1) (s12) (q.2) q.1)) (x0 : Q5) (x1 : Q5) (s12 : Int) (s13 : Int) (q : Nat × Int) (h : l31_0 m (n + 1) x0 x1 s12 s13 = some q) : (turns (hds 31 12291) 0 12291 (cb8 m) (n + 1) (l31_0H x0 x1 s12 s13) (l31_0B x0 x1 s12 s13)).run = some (l31_0E (x0) (x1) (s12) (q.2) q.1) := by
  rw [l31_0] at h
  refine ite_cases h (fun c0 h => ?_) (fun c0 h => ?_)
  · skip
    obtain ⟨c1, h⟩ := iY h
    obtain ⟨c2, h⟩ := iY h
    obtain ⟨c4, h⟩ := iY h
    refine ite_cases h (fun c5 h => ?_) (fun c5 h => ?_)
    · skip
      have ih := ih _ _ _ _ q h
      refine turns_step ?_ ih
      exact M.run_of_path _ [tT, tT, tT, tT, tT, fF] _ _ (by kernel_rfl) (all_t c0 (all_t c1 (all_t c2 (all_t c1 (all_t c4 (all_nt c5 all_nil))))))
    · skip
      cases h
      refine turns_last (by simp) ?_
      exact M.run_of_path _ [tT, tT, tT, tT, tT, tT] _ _ (by kernel_rfl) (all_t c0 (all_t c1 (all_t c2 (all_t c1 (all_t c4 (all_nf c5 all_nil))))))
  · skip
    cases h
    refine turns_last (by simp) ?_
    exact M.run_of_path _ [fF] _ _ (by kernel_rfl) (all_f c0 all_nil)
theorem l31_0_ok (m : Nat) : ∀ (n : Nat) (x0 : Q5) (x1 : Q5) (s12 : Int) (s13 : Int) (q : Nat × Int), l31_0 m n x0 x1 s12 s13 = some q → (turns (hds 31 12291) 0 12291 (cb8 m) n (l31_0H x0 x1 s12 s13) (l31_0B x0 x1 s12 s13)).run = some (l31_0E (x0) (x1) (s12) (q.2) q.1)
  | 0, x0, x1, s12, s13, q, h => by cases h
  | n + 1, x0, x1, s12, s13, q, h => l31_0_step m n (l31_0_ok m n) x0 x1 s12 s13 q h

def p31 (m : Nat) (x0 : Q5) (x1 : Q5) : Option (Bool) :=
  if ((((List.length x0) : Nat) : Int) != (((List.length x1) : Nat) : Int)) = true then
    some (false)
  else
    if (Option.isSome (l31_0 m (m + 24) x0 x1 ((((List.length x0) : Nat) : Int)) 0)) = true then
    if ((l31_0R m (m + 24) x0 x1 ((((List.length x0) : Nat) : Int)) 0).1 == 0) = true then
      some (false)
    else
      if ((l31_0R m (m + 24) x0 x1 ((((List.length x0) : Nat) : Int)) 0).1 == 1) = true then
      some (true)
      else none
    else none
theorem p31_ok (m : Nat) (x0 : Q5) (x1 : Q5) (q : Bool) (h : p31 m x0 x1 = some q) : ∃ r B1, (evCall F S16 (m + 25) 31 [(.d (.sl (.pair .str .str) x0)), (.d (.sl (.pair .str .str) x1))] []).run = some (r, B1) ∧ 0 ≤ B1.length ∧ wkR B1 [] r (.d (.bool (q))) ∧ wkBs B1 [] 0 [] := by
  unfold p31 at h
  refine ite_cases h (fun c0 h => ?_) (fun c0 h => ?_)
  · skip
    cases h
    refine ⟨(.d (.bool false)), [], runT_ok (LS := (fun k => none)) (fn := fn31) (vis := []) (by kernel_rfl) rfl (by kernel_rfl) (M.run_of_path _ [tT] _ _ (by kernel_rfl) (all_t c0 all_nil)) ?_, by simp, (wkR.one (wkV.one (wk1.eq rfl))), trivial⟩
    intro p hp; cases hp
  · skip
    obtain ⟨c1, h⟩ := iY h
    refine ite_cases h (fun c2 h => ?_) (fun c2 h => ?_)
    · skip
      cases h
      refine ⟨(.d (.bool false)), [], runT_ok (LS := (fun k => if k = 12291 then some (l31_0E x0 x1 (((((List.length x0) : Nat) : Int))) ((l31_0R m (m + 24) x0 x1 ((((List.length x0) : Nat) : Int)) 0).2) 0) else none)) (fn := fn31) (vis := [(12291, l31_0H x0 x1 ((((List.length x0) : Nat) : Int)) 0, l31_0B x0 x1 ((((List.length x0) : Nat) : Int)) 0)]) (by kernel_rfl) rfl (by kernel_rfl) (M.run_of_path _ [fF] _ _ (by kernel_rfl) (all_f c0 all_nil)) ?_, by simp, (wkR.one (wkV.one (wk1.eq rfl))), trivial⟩
      intro p hp p2 hq
      rcases List.mem_cons.1 hp with rfl | hp
      · skip
        have h3 := l31_0_ok m (m + 24) x0 x1 ((((List.length x0) : Nat) : Int)) 0 _ (some_getD (d := l31_0D) c1)
        rw [eq_of_beq c2] at h3
        exact Eq.trans (Eq.mp (by kernel_rfl) h3) hq
      cases hp
    · skip
      obtain ⟨c3, h⟩ := iY h
      cases h
      refine ⟨(.d (.bool true)), [], runT_ok (LS := (fun k => if k = 12291 then some (l31_0E x0 x1 (((((List.length x0) : Nat) : Int))) ((l31_0R m (m + 24) x0 x1 ((((List.length x0) : Nat) : Int)) 0).2) 1) else none)) (fn := fn31) (vis := [(12291, l31_0H x0 x1 ((((List.length x0) : Nat) : Int)) 0, l31_0B x0 x1 ((((List.length x0) : Nat) : Int)) 0)]) (by kernel_rfl) rfl (by kernel_rfl) (M.run_of_path _ [fF] _ _ (by kernel_rfl) (all_f c0 all_nil)) ?_, by simp, (wkR.one (wkV.one (wk1.eq rfl))), trivial⟩
      intro p hp p2 hq
      rcases List.mem_cons.1 hp with rfl | hp
      · skip
        have h3 := l31_0_ok m (m + 24) x0 x1 ((((List.length x0) : Nat) : Int)) 0 _ (some_getD (d := l31_0D) c1)
        rw [eq_of_beq c3] at h3
        exact Eq.trans (Eq.mp (by kernel_rfl) h3) hq
      cases hp

theorem eq31_loop (m : Nat) (a b : Q5) (hl : a.length = b.length) (hb : a.length < 4611686018427387904) : ∀ n k, k ≤ a.length → a.length - k < n → ∃ j, l31_0 m n a b (((List.length a) : Nat) : Int) (k : Nat) = some (if a.drop k == b.drop k then 1 else 0, j)
  | 0, k, _, h => by omega
  | n + 1, k, hk, hn => by
    rw [l31_0]
    by_cases h : k < a.length
    · have hs : ∀ u v : (Q8) × (Q8), ((u.1 == v.1) && ((u.2 == v.2) && true)) = (u == v) := fun u v => by rw [Bool.and_true]; rfl
      have e1 : decide (((k : Nat) : Int) < ((a.length : Nat) : Int)) = true := decide_eq_true (by omega)
      have e2 : decide ((0 : Int) ≤ ((k : Nat) : Int)) = true := decide_eq_true (by omega)
      have e3 : decide (((k : Nat) : Int) < ((b.length : Nat) : Int)) = true := decide_eq_true (by omega)
      simp only [e1, e2, e3, if_true, Int.toNat_natCast,hs]
      rw [drop_getD a k (([] : Q8), ([] : Q8)) h, drop_getD b k (([] : Q8), ([] : Q8)) (by omega)]
      have ew : IntKind.wrap .i64 (((k : Nat) : Int) + (1)) = ((k + 1 : Nat) : Int) := by rw [wrap_id (by omega) (by omega)]; rfl
      rw [ew]
      obtain ⟨j, hj⟩ := eq31_loop m a b hl hb n (k + 1) (by omega) (by omega)
      have hc : ((a.getD k (([] : Q8), ([] : Q8))) :: a.drop (k + 1) == (b.getD k (([] : Q8), ([] : Q8))) :: b.drop (k + 1)) = (((a.getD k (([] : Q8), ([] : Q8))) == (b.getD k (([] : Q8), ([] : Q8)))) && (a.drop (k + 1) == b.drop (k + 1))) := rfl
      rw [hc]
      rcases Bool.eq_false_or_eq_true ((a.getD k (([] : Q8), ([] : Q8))) == (b.getD k (([] : Q8), ([] : Q8)))) with he | he
      · exact ⟨j, by simp only [he, hj]; simp⟩
      · exact ⟨(k : Nat), by simp only [he]; simp⟩
    · have e1 : decide (((k : Nat) : Int) < ((a.length : Nat) : Int)) = false := decide_eq_false (by omega)
      refine ⟨(k : Nat), ?_⟩
      simp only [e1, Bool.false_eq_true, if_false]
      rw [List.drop_eq_nil_of_le (by omega), List.drop_eq_nil_of_le (by omega)]
      rfl
theorem eq31 (a b : Q5) (h : decide (List.length a < 4611686018427387904) = true) : ∃ m, p31 m a b = some (a == b) := by
  have hb := of_decide_eq_true h
  refine ⟨a.length, ?_⟩
  unfold p31 l31_0R
  by_cases hl : a.length = b.length
  · have e0 : ((((List.length a) : Nat) : Int) != (((List.length b) : Nat) : Int)) = false := by simp [hl]
    obtain ⟨j, hj⟩ := eq31_loop a.length a b hl hb (a.length + 24) 0 (by omega) (by omega)
    simp only [Int.natCast_zero, List.drop_zero] at hj
    rw [e0]
    simp only [Bool.false_eq_true, if_false]
    rw [hj]
    cases hab : a == b <;> simp [hab]
  · have e0 : ((((List.length a) : Nat) : Int) != (((List.length b) : Nat) : Int)) = true := by simp; omega
    rw [e0]
    have : (a == b) = false := by
      rw [beq_eq_false_iff_ne]
      intro e; rw [e] at hl; exact hl rfl
    simp [this]
def s31 : List AV → Boxes → M (AV × Boxes) := normS [.val (.sl (.pair .str .str)), .val (.sl (.pair .str .str))] [] fun xs B => match xs, B with
  | [(.d (.sl (.pair .str .str) c1)), (.d (.sl (.pair .str .str) c2))], [] => .chk (decide (List.length c1 < 4611686018427387904)) (.ret ((.d (.bool ((show Q5 from c1) == c2))), []))
  | _, _ => .fail
theorem s31_at : CallAt Tryd.prog 31 s31 := by
  refine CallAt.norm (CallAt.weakE (g := fun n => evCall F S16 n 31) (fun n => evCall_atH mixed kinds hds S16 S16_ok n 31) fun xs B r' B' hr => ?_) _ _
  split at hr
  · rename_i c1 c2
    obtain ⟨hp, hr⟩ := (M.run_chk _ _ _).1 hr
    simp only [M.run, Option.some.injEq, Prod.mk.injEq] at hr
    obtain ⟨rfl, rfl⟩ := hr
    obtain ⟨m, hm⟩ := eq31 c1 c2 hp
    obtain ⟨r, B1, h1, h2, h3, h4⟩ := p31_ok m c1 c2 _ hm
    exact ⟨m + 25, r, B1, h1, by simp, h2, h3, h4⟩
  · simp [M.run] at hr
noncomputable def S17 : FuncId → Option (List AV → Boxes → M (AV × Boxes)) := fun f => if f = 31 then some s31 else S16 f
theorem S17_ok : ∀ f s, S17 f = some s → CallAt Tryd.prog f s := by
  intro f s h
  unfold S17 at h
  split at h
  · rename_i e; subst e; cases h; exact s31_at
  · exact S16_ok f s h

end Go.Proofs.YtghkbjflejgieaaDoor.Dec
namespace Go.Proofs.YtghkbjflejgieaaDoor.Dec
open Go.Ev
set_option linter.unusedVariables false
set_option linter.unusedSimpArgs false
set_option maxRecDepth 100000
set_option maxHeartbeats 20000000
noncomputable def fn12 : AFn := (F 12).getD ⟨0, [], .bad, false, false, noHd⟩
noncomputable def body12 : AC := fn12.body
def l12_0 (m : Nat) : Nat → Q5 → Int → Q2 → Int → Int → Option (Nat × Int)
  | 0, _, _, _, _, _ => none
  | n + 1, x0, x1, x2, s10, s11 => if decide (s11 < s10) = true then
      if decide (0 ≤ s11) = true then
      if decide (s11 < (((List.length x2) : Nat) : Int)) = true then
      if decide ((List.getD x2 (Int.toNat s11) (([] : Q4), (0, 0))).2.1 ≤ x1) = true then
        if decide (x1 < (List.getD x2 (Int.toNat s11) (([] : Q4), (0, 0))).2.2) = true then
          if decide (List.length x0 ≤ 1000000 ∧ List.length (List.getD x2 (Int.toNat s11) (([] : Q4), (0, 0))).1 ≤ 9223372036854775807) = true then
          if (allG x0 (List.getD x2 (Int.toNat s11) (([] : Q4), (0, 0))).1) = true then
            some (0, s11)
          else
            l12_0 m n x0 x1 x2 s10 ((IntKind.wrap .i64 (s11 + (1))))
          else none
        else
          l12_0 m n x0 x1 x2 s10 ((IntKind.wrap .i64 (s11 + (1))))
      else
        l12_0 m n x0 x1 x2 s10 ((IntKind.wrap .i64 (s11 + (1))))
      else none
      else none
    else
      some (1, s11)
def l12_0D : Nat × Int := (0, 0)
@[reducible] def l12_0R (m n : Nat) (x0 : Q5) (x1 : Int) (x2 : Q2) (s10 : Int) (s11 : Int) : Nat × Int := Option.getD (l12_0 m n x0 x1 x2 s10 s11) l12_0D
def l12_0H (x0 : Q5) (x1 : Int) (x2 : Q2) (s10 : Int) (s11 : Int) : Env := ((.d (.sl (.pair .str .str) x0)) :: (.d (.int .i64 x1)) :: .top :: .top :: .top :: .top :: .top :: .top :: .top :: (.d (.sl (.pair (.sl (.pair .str (.pair .str (.int .i64)))) (.pair (.int .i64) (.int .i64))) x2)) :: (.d (.int .i64 s10)) :: (.d (.int .i64 s11)) :: tp20 [])
def l12_0B (x0 : Q5) (x1 : Int) (x2 : Q2) (s10 : Int) (s11 : Int) : Boxes := []
def l12_0E (x0 : Q5) (x1 : Int) (x2 : Q2) (s10 : Int) (s11 : Int) : Nat → AEx × Env × Boxes
  | 0 => (.ret, [(.d (.sl (.pair .str .str) x0)), (.d (.int .i64 x1)), .top, .top, .top, .top, (.d (.bool true)), .top, (.ptr 0 0), (.d (.sl (.pair (.sl (.pair .str (.pair .str (.int .i64)))) (.pair (.int .i64) (.int .i64))) x2)), (.d (.int .i64 s10)), (.d (.int .i64 s11)), (.d (.bool (decide (s11 < s10)))), (.cptr [(.sl (.pair .str (.pair .str (.int .i64))) (List.getD x2 (Int.toNat s11) (([] : Q4), (0, 0))).1), (.int .i64 (List.getD x2 (Int.toNat s11) (([] : Q4), (0, 0))).2.1), (.int .i64 (List.getD x2 (Int.toNat s11) (([] : Q4), (0, 0))).2.2)] 0), (.agg [(.d (.sl (.pair .str (.pair .str (.int .i64))) (List.getD x2 (Int.toNat s11) (([] : Q4), (0, 0))).1)), (.d (.int .i64 (List.getD x2 (Int.toNat s11) (([] : Q4), (0, 0))).2.1)), (.d (.int .i64 (List.getD x2 (Int.toNat s11) (([] : Q4), (0, 0))).2.2))]), (.ptr 0 1), (.d (.int .i64 (List.getD x2 (Int.toNat s11) (([] : Q4), (0, 0))).2.1)), (.d (.int .i64 x1)), (.d (.bool (decide ((List.getD x2 (Int.toNat s11) (([] : Q4), (0, 0))).2.1 ≤ x1)))), (.d (.bool (decide ((List.getD x2 (Int.toNat s11) (([] : Q4), (0, 0))).2.1 ≤ x1)))), (.d (.int .i64 x1)), (.ptr 0 2), (.d (.int .i64 (List.getD x2 (Int.toNat s11) (([] : Q4), (0, 0))).2.2)), (.d (.bool (decide (x1 < (List.getD x2 (Int.toNat s11) (([] : Q4), (0, 0))).2.2)))), (.d (.bool (decide (x1 < (List.getD x2 (Int.toNat s11) (([] : Q4), (0, 0))).2.2)))), (.d (.bool (decide (x1 < (List.getD x2 (Int.toNat s11) (([] : Q4), (0, 0))).2.2)))), (.d (.sl (.pair .str .str) x0)), (.ptr 0 0), (.d (.sl (.pair .str (.pair .str (.int .i64))) (List.getD x2 (Int.toNat s11) (([] : Q4), (0, 0))).1)), (.d (.bool (allG x0 (List.getD x2 (Int.toNat s11) (([] : Q4), (0, 0))).1))), (.d (.bool (allG x0 (List.getD x2 (Int.toNat s11) (([] : Q4), (0, 0))).1))), .top], [(.cells [(.d (.sl (.pair .str (.pair .str (.int .i64))) (List.getD x2 (Int.toNat s11) (([] : Q4), (0, 0))).1)), (.d (.int .i64 (List.getD x2 (Int.toNat s11) (([] : Q4), (0, 0))).2.1)), (.d (.int .i64 (List.getD x2 (Int.toNat s11) (([] : Q4), (0, 0))).2.2))])])
  | _ => (.exit 0, ((.d (.sl (.pair .str .str) x0)) :: (.d (.int .i64 x1)) :: .top :: .top :: .top :: .top :: .top :: .top :: .top :: (.d (.sl (.pair (.sl (.pair .str (.pair .str (.int .i64)))) (.pair (.int .i64) (.int .i64))) x2)) :: (.d (.int .i64 s10)) :: (.d (.int .i64 s11)) :: (.d (.bool (decide (s11 < s10)))) :: tp19 []), [])
noncomputable def lbl12_0 : AC := loopBody 3587 body12
@[reducible] noncomputable def cb9 (m : Nat) := (evC byref (evCall F S17 (m + 24)) (m + 24) 0 (hds 12) lbl12_0)


theorem l12_0_step (m n : Nat) (ih : ∀ (x0 : Q5) (x1 : Int) (x2 : Q2) (s10 : Int) (s11 : Int) (q : Nat × Int), l12_0 m n x0 x1 x2 s10 s11 = some q → (turns (hds 12 3587) 0 3587 (cb9 m) n (l12_0H x0 x1 x2 s10 s11) (l12_0B x0 x1 x2 s10 s11)).run = some (l12_0E (x0) (x1) (x2) (s10) (q.2) q.1)) (x0 : Q5) (x1 : Int) (x2 : Q2) (s10 : Int) (s11 : Int) (q : Nat × Int) (h : l12_0 m (n + 1) x0 x1 x2 s10 s11 = some q) : (turns (hds 12 3587) 0 3587 (cb9 m) (n + 1) (l12_0H x0 x1 x2 s10 s11) (l12_0B x0 x1 x2 s10 s11)).run = some (l12_0E (x0) (x1) (x2) (s10) (q.2) q.1) := by
  rw [l12_0] at h
  refine ite_cases h (fun c0 h => ?_) (fun c0 h => ?_)
  · skip
    obtain ⟨c1, h⟩ := iY h
    obtain ⟨c2, h⟩ := iY h
    refine ite_cases h (fun c3 h => ?_) (fun c3 h => ?_)
    · skip
      refine ite_cases h (fun c8 h => ?_) (fun c8 h => ?_)
      · skip
        obtain ⟨c12, h⟩ := iY h
        refine ite_cases h (fun c14 h => ?_) (fun c14 h => ?_)
        · skip
          cases h
          refine turns_last (by simp) ?_
          exact M.run_of_path _ [tT, tT, tT, tT, tT, tT, tT, tT, tT, tT, tT, tT, tT, tT, tT] _ _ (by kernel_rfl) (all_t c0 (all_t c1 (all_t c2 (all_t c3 (all_t c3 (all_t c3 (all_t c3 (all_t c3 (all_t c8 (all_t c8 (all_t c8 (all_t c8 (all_t c12 (all_t c8 (all_t c14 all_nil)))))))))))))))
        · skip
          have ih := ih _ _ _ _ _ q h
          refine turns_step ?_ ih
          exact M.run_of_path _ [tT, tT, tT, tT, tT, tT, tT, tT, tT, tT, tT, tT, tT, tT, fF] _ _ (by kernel_rfl) (all_t c0 (all_t c1 (all_t c2 (all_t c3 (all_t c3 (all_t c3 (all_t c3 (all_t c3 (all_t c8 (all_t c8 (all_t c8 (all_t c8 (all_t c12 (all_t c8 (all_f c14 all_nil)))))))))))))))
      · skip
        have ih := ih _ _ _ _ _ q h
        refine turns_step ?_ ih
        exact M.run_of_path _ [tT, tT, tT, tT, tT, tT, tT, tT, fF, fF, fF, fF, fF, fF] _ _ (by kernel_rfl) (all_t c0 (all_t c1 (all_t c2 (all_t c3 (all_t c3 (all_t c3 (all_t c3 (all_t c3 (all_f c8 (all_f c8 (all_f c8 (all_f c8 (all_f c8 (all_f Bool.false_ne_true all_nil))))))))))))))
    · skip
      have ih := ih _ _ _ _ _ q h
      refine turns_step ?_ ih
      exact M.run_of_path _ [tT, tT, tT, fF, fF, fF, fF, fF, fF, fF, fF, fF, fF, fF] _ _ (by kernel_rfl) (all_t c0 (all_t c1 (all_t c2 (all_f c3 (all_f c3 (all_f c3 (all_f c3 (all_f c3 (all_f Bool.false_ne_true (all_f Bool.false_ne_true (all_f Bool.false_ne_true (all_f Bool.false_ne_true (all_f Bool.false_ne_true (all_f Bool.false_ne_true all_nil))))))))))))))
  · skip
    cases h
    refine turns_last (by simp) ?_
    exact M.run_of_path _ [fF] _ _ (by kernel_rfl) (all_f c0 all_nil)
theorem l12_0_ok (m : Nat) : ∀ (n : Nat) (x0 : Q5) (x1 : Int) (x2 : Q2) (s10 : Int) (s11 : Int) (q : Nat × Int), l12_0 m n x0 x1 x2 s10 s11 = some q → (turns (hds 12 3587) 0 3587 (cb9 m) n (l12_0H x0 x1 x2 s10 s11) (l12_0B x0 x1 x2 s10 s11)).run = some (l12_0E (x0) (x1) (x2) (s10) (q.2) q.1)
  | 0, x0, x1, x2, s10, s11, q, h => by cases h
  | n + 1, x0, x1, x2, s10, s11, q, h => l12_0_step m n (l12_0_ok m n) x0 x1 x2 s10 s11 q h

def p12 (m : Nat) (x0 : Q5) (x1 : Int) (x2 : Q2) : Option (Bool) :=
  if (Option.isSome (l12_0 m (m + 24) x0 x1 x2 ((((List.length x2) : Nat) : Int)) 0)) = true then
  if ((l12_0R m (m + 24) x0 x1 x2 ((((List.length x2) : Nat) : Int)) 0).1 == 0) = true then
    some (true)
  else
    if ((l12_0R m (m + 24) x0 x1 x2 ((((List.length x2) : Nat) : Int)) 0).1 == 1) = true then
    some (false)
    else none
  else none
theorem p12_ok (m : Nat) (x0 : Q5) (x1 : Int) (x2 : Q2) (q : Bool) (h : p12 m x0 x1 x2 = some q) : ∃ r B1, (evCall F S17 (m + 25) 12 [(.d (.sl (.pair .str .str) x0)), (.d (.int .i64 x1)), (.d (.sl (.pair (.sl (.pair .str (.pair .str (.int .i64)))) (.pair (.int .i64) (.int .i64))) x2))] []).run = some (r, B1) ∧ 0 ≤ B1.length ∧ wkR B1 [] r (.d (.bool (q))) ∧ wkBs B1 [] 0 [] := by
  unfold p12 at h
  obtain ⟨c0, h⟩ := iY h
  refine ite_cases h (fun c1 h => ?_) (fun c1 h => ?_)
  · skip
    cases h
    refine ⟨(.d (.bool true)), [], runT_ok (LS := (fun k => if k = 3587 then some (l12_0E x0 x1 x2 (((((List.length x2) : Nat) : Int))) ((l12_0R m (m + 24) x0 x1 x2 ((((List.length x2) : Nat) : Int)) 0).2) 0) else none)) (fn := fn12) (vis := [(3587, l12_0H x0 x1 x2 ((((List.length x2) : Nat) : Int)) 0, l12_0B x0 x1 x2 ((((List.length x2) : Nat) : Int)) 0)]) (by kernel_rfl) rfl (by kernel_rfl) (M.run_of_path _ [] _ _ (by kernel_rfl) all_nil) ?_, by simp, (wkR.one (wkV.one (wk1.eq rfl))), trivial⟩
    intro p hp p2 hq
    rcases List.mem_cons.1 hp with rfl | hp
    · skip
      have h3 := l12_0_ok m (m + 24) x0 x1 x2 ((((List.length x2) : Nat) : Int)) 0 _ (some_getD (d := l12_0D) c0)
      rw [eq_of_beq c1] at h3
      exact Eq.trans (Eq.mp (by kernel_rfl) h3) hq
    cases hp
  · skip
    obtain ⟨c2, h⟩ := iY h
    cases h
    refine ⟨(.d (.bool false)), [], runT_ok (LS := (fun k => if k = 3587 then some (l12_0E x0 x1 x2 (((((List.length x2) : Nat) : Int))) ((l12_0R m (m + 24) x0 x1 x2 ((((List.length x2) : Nat) : Int)) 0).2) 1) else none)) (fn := fn12) (vis := [(3587, l12_0H x0 x1 x2 ((((List.length x2) : Nat) : Int)) 0, l12_0B x0 x1 x2 ((((List.length x2) : Nat) : Int)) 0)]) (by kernel_rfl) rfl (by kernel_rfl) (M.run_of_path _ [] _ _ (by kernel_rfl) all_nil) ?_, by simp, (wkR.one (wkV.one (wk1.eq rfl))), trivial⟩
    intro p hp p2 hq
    rcases List.mem_cons.1 hp with rfl | hp
    · skip
      have h3 := l12_0_ok m (m + 24) x0 x1 x2 ((((List.length x2) : Nat) : Int)) 0 _ (some_getD (d := l12_0D) c0)
      rw [eq_of_beq c2] at h3
      exact Eq.trans (Eq.mp (by kernel_rfl) h3) hq
    cases hp

abbrev SS := List ((List MT) × Int × Int)
abbrev HS := List ((List MT) × (List MT) × (Q7))
def silOne (l : LB) (t : Int) (s : (List MT) × Int × Int) : Bool := decide (s.2.1 ≤ t) && (decide (t < s.2.2) && allG l s.1)
def silG (l : LB) (t : Int) (ss : SS) : Bool := ss.any (silOne l t)
def silPre (l : LB) (ss : SS) : Bool := decide (l.length ≤ 1000000 ∧ ss.length ≤ 1000000 ∧ ∀ s ∈ ss, s.1.length ≤ 9223372036854775807)
theorem sil_loop (m : Nat) (l : LB) (t : Int) (ss : SS) (h1 : l.length ≤ 1000000) (h2 : ss.length ≤ 1000000) (h3 : ∀ s ∈ ss, s.1.length ≤ 9223372036854775807) : ∀ (n k : Nat), k ≤ ss.length → ss.length - k < n → ∃ e j, l12_0 m n l t ss (ss.length : Nat) (k : Nat) = some (e, j) ∧ ((e = 0 ∧ silG l t (ss.drop k) = true) ∨ (e = 1 ∧ silG l t (ss.drop k) = false))
  | 0, k, _, h => by omega
  | n + 1, k, g1, g2 => by
    rw [l12_0]
    by_cases hk : k < ss.length
    · have e1 : decide (((k : Nat) : Int) < (((List.length ss) : Nat) : Int)) = true := decide_eq_true (by omega)
      have e2 : decide ((0 : Int) ≤ ((k : Nat) : Int)) = true := decide_eq_true (by omega)
      have e7 : IntKind.wrap .i64 (((k : Nat) : Int) + (1)) = ((k + 1 : Nat) : Int) := by rw [wrap_id (by omega) (by omega)]; rfl
      have hq := h3 _ (getD_mem ss k (([] : List MT), (0, 0)) hk)
      have go := sil_loop m l t ss h1 h2 h3 n (k + 1) (by omega) (by omega)
      rw [drop_getD ss k (([] : List MT), (0, 0)) hk]
      simp only [show Int.toNat ((k : Nat) : Int) = k from rfl, e1, e2, e7, ↓reduceIte]
      generalize ss.getD k (([] : List MT), (0, 0)) = q at *
      have hc : silG l t (q :: ss.drop (k + 1)) = (silOne l t q || silG l t (ss.drop (k + 1))) := rfl
      have hs : silOne l t q = (decide (q.2.1 ≤ t) && (decide (t < q.2.2) && allG l q.1)) := rfl
      have e3 : decide (List.length l ≤ 1000000 ∧ List.length q.1 ≤ 9223372036854775807) = true := decide_eq_true ⟨h1, hq⟩
      rw [hc, hs]
      simp only [e3, ↓reduceIte]
      cases c1 : decide (q.2.1 ≤ t) with
      | false => simp only [Bool.false_and, Bool.false_or, ↓reduceIte, Bool.false_eq_true]; exact go
      | true =>
        cases c2 : decide (t < q.2.2) with
        | false => simp only [Bool.false_and, Bool.and_false, Bool.false_or, ↓reduceIte, Bool.false_eq_true]; exact go
        | true =>
          cases c3 : allG l q.1 with
          | false => simp only [Bool.and_false, Bool.false_or, ↓reduceIte, Bool.false_eq_true]; exact go
          | true =>
            simp only [Bool.and_self, Bool.true_or, ↓reduceIte]
            exact ⟨0, _, rfl, .inl ⟨rfl, by first | rfl | trivial⟩⟩
    · have e1 : decide (((k : Nat) : Int) < (((List.length ss) : Nat) : Int)) = false := decide_eq_false (by omega)
      rw [e1, if_neg (by simp), List.drop_eq_nil_of_le (by omega)]
      exact ⟨1, _, rfl, .inr ⟨rfl, by first | rfl | trivial⟩⟩
theorem sil12 (l : LB) (t : Int) (ss : SS) (h : silPre l ss = true) : ∃ m, p12 m l t ss = some (silG l t ss) := by
  have ⟨h1, h2, h3⟩ := of_decide_eq_true h
  refine ⟨ss.length, ?_⟩
  obtain ⟨e, j, hr, hc⟩ := sil_loop ss.length l t ss h1 h2 h3 (ss.length + 24) 0 (by omega) (by omega)
  simp only [Int.natCast_zero, List.drop_zero] at hr hc
  unfold p12
  simp only [l12_0R, hr, Option.isSome_some, Option.getD_some, ↓reduceIte]
  rcases hc with ⟨rfl, hc⟩ | ⟨rfl, hc⟩ <;> rw [hc] <;> rfl
def s12 : List AV → Boxes → M (AV × Boxes) := normS [.val (.sl (.pair .str .str)), .val (.int .i64), .val (.sl (.pair (.sl (.pair .str (.pair .str (.int .i64)))) (.pair (.int .i64) (.int .i64))))] [] fun xs B => match xs, B with
  | [(.d (.sl (.pair .str .str) c1)), (.d (.int .i64 c2)), (.d (.sl (.pair (.sl (.pair .str (.pair .str (.int .i64)))) (.pair (.int .i64) (.int .i64))) c3))], [] => .chk (silPre c1 c3) (.ret ((.d (.bool (silG c1 c2 c3))), []))
  | _, _ => .fail
theorem s12_at : CallAt Tryd.prog 12 s12 := by
  refine CallAt.norm (CallAt.weakE (g := fun n => evCall F S17 n 12) (fun n => evCall_atH mixed kinds hds S17 S17_ok n 12) fun xs B r' B' hr => ?_) _ _
  split at hr
  · rename_i c1 c2 c3
    obtain ⟨hp, hr⟩ := (M.run_chk _ _ _).1 hr
    simp only [M.run, Option.some.injEq, Prod.mk.injEq] at hr
    obtain ⟨rfl, rfl⟩ := hr
    obtain ⟨m, hm⟩ := sil12 c1 c2 c3 hp
    obtain ⟨r, B1, h1, h2, h3, h4⟩ := p12_ok m c1 c2 c3 _ hm
    exact ⟨m + 25, r, B1, h1, by simp, h2, h3, h4⟩
  · simp [M.run] at hr
noncomputable def S18 : FuncId → Option (List AV → Boxes → M (AV × Boxes)) := fun f => if f = 12 then some s12 else S17 f
theorem S18_ok : ∀ f s, S18 f = some s → CallAt Tryd.prog f s := by
  intro f s h
  unfold S18 at h
  split at h
  · rename_i e; subst e; cases h; exact s12_at
  · exact S17_ok f s h

noncomputable def fn32 : AFn := (F 32).getD ⟨0, [], .bad, false, false, noHd⟩
noncomputable def body32 : AC := fn32.body
def l32_0 (m : Nat) : Nat → Q5 → Q5 → Q7 → Int → Int → Option (Nat × Int)
  | 0, _, _, _, _, _ => none
  | n + 1, x0, x1, x2, s10, s11 => if decide (s11 < s10) = true then
      if decide (0 ≤ s11) = true then
      if decide (s11 < (((List.length x2) : Nat) : Int)) = true then
      if decide (List.length x0 ≤ 1000000) = true then
      if decide (List.length x1 ≤ 1000000) = true then
      if ((getG x0 (List.getD x2 (Int.toNat s11) ([] : Q8))) == (getG x1 (List.getD x2 (Int.toNat s11) ([] : Q8)))) = true then
        l32_0 m n x0 x1 x2 s10 ((IntKind.wrap .i64 (s11 + (1))))
      else
        some (0, s11)
      else none
      else none
      else none
      else none
    else
      some (1, s11)
def l32_0D : Nat × Int := (0, 0)
@[reducible] def l32_0R (m n : Nat) (x0 : Q5) (x1 : Q5) (x2 : Q7) (s10 : Int) (s11 : Int) : Nat × Int := Option.getD (l32_0 m n x0 x1 x2 s10 s11) l32_0D
def l32_0H (x0 : Q5) (x1 : Q5) (x2 : Q7) (s10 : Int) (s11 : Int) : Env := ((.d (.sl (.pair .str .str) x0)) :: (.d (.sl (.pair .str .str) x1)) :: .top :: .top :: .top :: .top :: .top :: .top :: .top :: (.d (.sl .str x2)) :: (.d (.int .i64 s10)) :: (.d (.int .i64 s11)) :: tp11 [])
def l32_0B (x0 : Q5) (x1 : Q5) (x2 : Q7) (s10 : Int) (s11 : Int) : Boxes := []
def l32_0E (x0 : Q5) (x1 : Q5) (x2 : Q7) (s10 : Int) (s11 : Int) : Nat → AEx × Env × Boxes
  | 0 => (.ret, [(.d (.sl (.pair .str .str) x0)), (.d (.sl (.pair .str .str) x1)), .top, .top, .top, .top, (.d (.bool false)), .top, (.d (.str (List.getD x2 (Int.toNat s11) ([] : Q8)))), (.d (.sl .str x2)), (.d (.int .i64 s10)), (.d (.int .i64 s11)), (.d (.bool (decide (s11 < s10)))), (.cptr [(.str (List.getD x2 (Int.toNat s11) ([] : Q8)))] 0), (.d (.str (List.getD x2 (Int.toNat s11) ([] : Q8)))), (.d (.sl (.pair .str .str) x0)), (.d (.str (List.getD x2 (Int.toNat s11) ([] : Q8)))), (.d (.str (getG x0 (List.getD x2 (Int.toNat s11) ([] : Q8))))), (.d (.sl (.pair .str .str) x1)), (.d (.str (List.getD x2 (Int.toNat s11) ([] : Q8)))), (.d (.str (getG x1 (List.getD x2 (Int.toNat s11) ([] : Q8))))), (.d (.bool (!((getG x0 (List.getD x2 (Int.toNat s11) ([] : Q8))) == (getG x1 (List.getD x2 (Int.toNat s11) ([] : Q8))))))), .top], [])
  | _ => (.exit 0, ((.d (.sl (.pair .str .str) x0)) :: (.d (.sl (.pair .str .str) x1)) :: .top :: .top :: .top :: .top :: .top :: .top :: .top :: (.d (.sl .str x2)) :: (.d (.int .i64 s10)) :: (.d (.int .i64 s11)) :: (.d (.bool (decide (s11 < s10)))) :: tp10 []), [])
noncomputable def lbl32_0 : AC := loopBody 3587 body32
@[reducible] noncomputable def cb10 (m : Nat) := (evC byref (evCall F S18 (m + 24)) (m + 24) 0 (hds 32) lbl32_0)


theorem l32_0_step (m n : Nat) (ih : ∀ (x0 : Q5) (x1 : Q5) (x2 : Q7) (s10 : Int) (s11 : Int) (q : Nat × Int), l32_0 m n x0 x1 x2 s10 s11 = some q → (turns (hds 32 3587) 0 3587 (cb10 m) n (l32_0H x0 x1 x2 s10 s11) (l32_0B x0 x1 x2 s10 s11)).run = some (l32_0E (x0) (x1) (x2) (s10) (q.2) q.1)) (x0 : Q5) (x1 : Q5) (x2 : Q7) (s10 : Int) (s11 : Int) (q : Nat × Int) (h : l32_0 m (n + 1) x0 x1 x2 s10 s11 = some q) : (turns (hds 32 3587) 0 3587 (cb10 m) (n + 1) (l32_0H x0 x1 x2 s10 s11) (l32_0B x0 x1 x2 s10 s11)).run = some (l32_0E (x0) (x1) (x2) (s10) (q.2) q.1) := by
  rw [l32_0] at h
  refine ite_cases h (fun c0 h => ?_) (fun c0 h => ?_)
  · skip
    obtain ⟨c1, h⟩ := iY h
    obtain ⟨c2, h⟩ := iY h
    obtain ⟨c3, h⟩ := iY h
    obtain ⟨c4, h⟩ := iY h
    refine ite_cases h (fun c5 h => ?_) (fun c5 h => ?_)
    · skip
      have ih := ih _ _ _ _ _ q h
      refine turns_step ?_ ih
      exact M.run_of_path _ [tT, tT, tT, tT, tT, fF] _ _ (by kernel_rfl) (all_t c0 (all_t c1 (all_t c2 (all_t c3 (all_t c4 (all_nt c5 all_nil))))))
    · skip
      cases h
      refine turns_last (by simp) ?_
      exact M.run_of_path _ [tT, tT, tT, tT, tT, tT] _ _ (by kernel_rfl) (all_t c0 (all_t c1 (all_t c2 (all_t c3 (all_t c4 (all_nf c5 all_nil))))))
  · skip
    cases h
    refine turns_last (by simp) ?_
    exact M.run_of_path _ [fF] _ _ (by kernel_rfl) (all_f c0 all_nil)
theorem l32_0_ok (m : Nat) : ∀ (n : Nat) (x0 : Q5) (x1 : Q5) (x2 : Q7) (s10 : Int) (s11 : Int) (q : Nat × Int), l32_0 m n x0 x1 x2 s10 s11 = some q → (turns (hds 32 3587) 0 3587 (cb10 m) n (l32_0H x0 x1 x2 s10 s11) (l32_0B x0 x1 x2 s10 s11)).run = some (l32_0E (x0) (x1) (x2) (s10) (q.2) q.1)
  | 0, x0, x1, x2, s10, s11, q, h => by cases h
  | n + 1, x0, x1, x2, s10, s11, q, h => l32_0_step m n (l32_0_ok m n) x0 x1 x2 s10 s11 q h

def p32 (m : Nat) (x0 : Q5) (x1 : Q5) (x2 : Q7) : Option (Bool) :=
  if (Option.isSome (l32_0 m (m + 24) x0 x1 x2 ((((List.length x2) : Nat) : Int)) 0)) = true then
  if ((l32_0R m (m + 24) x0 x1 x2 ((((List.length x2) : Nat) : Int)) 0).1 == 0) = true then
    some (false)
  else
    if ((l32_0R m (m + 24) x0 x1 x2 ((((List.length x2) : Nat) : Int)) 0).1 == 1) = true then
    some (true)
    else none
  else none
theorem p32_ok (m : Nat) (x0 : Q5) (x1 : Q5) (x2 : Q7) (q : Bool) (h : p32 m x0 x1 x2 = some q) : ∃ r B1, (evCall F S18 (m + 25) 32 [(.d (.sl (.pair .str .str) x0)), (.d (.sl (.pair .str .str) x1)), (.d (.sl .str x2))] []).run = some (r, B1) ∧ 0 ≤ B1.length ∧ wkR B1 [] r (.d (.bool (q))) ∧ wkBs B1 [] 0 [] := by
  unfold p32 at h
  obtain ⟨c0, h⟩ := iY h
  refine ite_cases h (fun c1 h => ?_) (fun c1 h => ?_)
  · skip
    cases h
    refine ⟨(.d (.bool false)), [], runT_ok (LS := (fun k => if k = 3587 then some (l32_0E x0 x1 x2 (((((List.length x2) : Nat) : Int))) ((l32_0R m (m + 24) x0 x1 x2 ((((List.length x2) : Nat) : Int)) 0).2) 0) else none)) (fn := fn32) (vis := [(3587, l32_0H x0 x1 x2 ((((List.length x2) : Nat) : Int)) 0, l32_0B x0 x1 x2 ((((List.length x2) : Nat) : Int)) 0)]) (by kernel_rfl) rfl (by kernel_rfl) (M.run_of_path _ [] _ _ (by kernel_rfl) all_nil) ?_, by simp, (wkR.one (wkV.one (wk1.eq rfl))), trivial⟩
    intro p hp p2 hq
    rcases List.mem_cons.1 hp with rfl | hp
    · skip
      have h3 := l32_0_ok m (m + 24) x0 x1 x2 ((((List.length x2) : Nat) : Int)) 0 _ (some_getD (d := l32_0D) c0)
      rw [eq_of_beq c1] at h3
      exact Eq.trans (Eq.mp (by kernel_rfl) h3) hq
    cases hp
  · skip
    obtain ⟨c2, h⟩ := iY h
    cases h
    refine ⟨(.d (.bool true)), [], runT_ok (LS := (fun k => if k = 3587 then some (l32_0E x0 x1 x2 (((((List.length x2) : Nat) : Int))) ((l32_0R m (m + 24) x0 x1 x2 ((((List.length x2) : Nat) : Int)) 0).2) 1) else none)) (fn := fn32) (vis := [(3587, l32_0H x0 x1 x2 ((((List.length x2) : Nat) : Int)) 0, l32_0B x0 x1 x2 ((((List.length x2) : Nat) : Int)) 0)]) (by kernel_rfl) rfl (by kernel_rfl) (M.run_of_path _ [] _ _ (by kernel_rfl) all_nil) ?_, by simp, (wkR.one (wkV.one (wk1.eq rfl))), trivial⟩
    intro p hp p2 hq
    rcases List.mem_cons.1 hp with rfl | hp
    · skip
      have h3 := l32_0_ok m (m + 24) x0 x1 x2 ((((List.length x2) : Nat) : Int)) 0 _ (some_getD (d := l32_0D) c0)
      rw [eq_of_beq c2] at h3
      exact Eq.trans (Eq.mp (by kernel_rfl) h3) hq
    cases hp

def equG (a b : LB) (ns : Q7) : Bool := ns.all fun n => getG a n == getG b n
def equPre (a b : LB) (ns : Q7) : Bool := decide (a.length ≤ 1000000 ∧ b.length ≤ 1000000 ∧ ns.length ≤ 9223372036854775807)
theorem equ_loop (m : Nat) (a b : LB) (ns : Q7) (h1 : a.length ≤ 1000000) (h2 : b.length ≤ 1000000) (h3 : ns.length ≤ 9223372036854775807) : ∀ (n k : Nat), k ≤ ns.length → ns.length - k < n → ∃ e j, l32_0 m n a b ns (ns.length : Nat) (k : Nat) = some (e, j) ∧ ((e = 1 ∧ equG a b (ns.drop k) = true) ∨ (e = 0 ∧ equG a b (ns.drop k) = false))
  | 0, k, _, h => by omega
  | n + 1, k, g1, g2 => by
    rw [l32_0]
    by_cases hk : k < ns.length
    · have e1 : decide (((k : Nat) : Int) < (((List.length ns) : Nat) : Int)) = true := decide_eq_true (by omega)
      have e2 : decide ((0 : Int) ≤ ((k : Nat) : Int)) = true := decide_eq_true (by omega)
      have e7 : IntKind.wrap .i64 (((k : Nat) : Int) + (1)) = ((k + 1 : Nat) : Int) := by rw [wrap_id (by omega) (by omega)]; rfl
      have e3 : decide (List.length a ≤ 1000000) = true := decide_eq_true h1
      have e4 : decide (List.length b ≤ 1000000) = true := decide_eq_true h2
      have go := equ_loop m a b ns h1 h2 h3 n (k + 1) (by omega) (by omega)
      rw [drop_getD ns k ([] : Q8) hk]
      simp only [show Int.toNat ((k : Nat) : Int) = k from rfl, e1, e2, e3, e4, e7, ↓reduceIte]
      generalize ns.getD k ([] : Q8) = q at *
      have hc : equG a b (q :: ns.drop (k + 1)) = ((getG a q == getG b q) && equG a b (ns.drop (k + 1))) := rfl
      rw [hc]
      cases c1 : (getG a q == getG b q) with
      | true => simp only [Bool.true_and, ↓reduceIte]; exact go
      | false =>
        simp only [Bool.false_and, ↓reduceIte, Bool.false_eq_true]
        exact ⟨0, _, rfl, .inr ⟨rfl, by first | rfl | trivial⟩⟩
    · have e1 : decide (((k : Nat) : Int) < (((List.length ns) : Nat) : Int)) = false := decide_eq_false (by omega)
      rw [e1, if_neg (by simp), List.drop_eq_nil_of_le (by omega)]
      exact ⟨1, _, rfl, .inl ⟨rfl, by first | rfl | trivial⟩⟩
theorem equ32 (a b : LB) (ns : Q7) (h : equPre a b ns = true) : ∃ m, p32 m a b ns = some (equG a b ns) := by
  have ⟨h1, h2, h3⟩ := of_decide_eq_true h
  refine ⟨ns.length, ?_⟩
  obtain ⟨e, j, hr, hc⟩ := equ_loop ns.length a b ns h1 h2 h3 (ns.length + 24) 0 (by omega) (by omega)
  simp only [Int.natCast_zero, List.drop_zero] at hr hc
  unfold p32
  simp only [l32_0R, hr, Option.isSome_some, Option.getD_some, ↓reduceIte]
  rcases hc with ⟨rfl, hc⟩ | ⟨rfl, hc⟩ <;> rw [hc] <;> rfl
def s32 : List AV → Boxes → M (AV × Boxes) := normS [.val (.sl (.pair .str .str)), .val (.sl (.pair .str .str)), .val (.sl .str)] [] fun xs B => match xs, B with
  | [(.d (.sl (.pair .str .str) c1)), (.d (.sl (.pair .str .str) c2)), (.d (.sl .str c3))], [] => .chk (equPre c1 c2 c3) (.ret ((.d (.bool (equG c1 c2 c3))), []))
  | _, _ => .fail
theorem s32_at : CallAt Tryd.prog 32 s32 := by
  refine CallAt.norm (CallAt.weakE (g := fun n => evCall F S18 n 32) (fun n => evCall_atH mixed kinds hds S18 S18_ok n 32) fun xs B r' B' hr => ?_) _ _
  split at hr
  · rename_i c1 c2 c3
    obtain ⟨hp, hr⟩ := (M.run_chk _ _ _).1 hr
    simp only [M.run, Option.some.injEq, Prod.mk.injEq] at hr
    obtain ⟨rfl, rfl⟩ := hr
    obtain ⟨m, hm⟩ := equ32 c1 c2 c3 hp
    obtain ⟨r, B1, h1, h2, h3, h4⟩ := p32_ok m c1 c2 c3 _ hm
    exact ⟨m + 25, r, B1, h1, by simp, h2, h3, h4⟩
  · simp [M.run] at hr
noncomputable def S19 : FuncId → Option (List AV → Boxes → M (AV × Boxes)) := fun f => if f = 32 then some s32 else S18 f
theorem S19_ok : ∀ f s, S19 f = some s → CallAt Tryd.prog f s := by
  intro f s h
  unfold S19 at h
  split at h
  · rename_i e; subst e; cases h; exact s32_at
  · exact S18_ok f s h

end Go.Proofs.YtghkbjflejgieaaDoor.Dec
namespace Go.Proofs.YtghkbjflejgieaaDoor.Dec
open Go.Ev
set_option linter.unusedVariables false
set_option linter.unusedSimpArgs false
set_option maxRecDepth 100000
set_option maxHeartbeats 20000000
noncomputable def fn11 : AFn := (F 11).getD ⟨0, [], .bad, false, false, noHd⟩
noncomputable def body11 : AC := fn11.body
def l11_1 (m : Nat) : Nat → Q3 → Q0 → Q5 → Int → Int → Int → Int → Q1 → Option (Nat × Int)
  | 0, _, _, _, _, _, _, _, _ => none
  | n + 1, x0, x2, s7, s25, s26, s36', s37', b0' => if decide (s37' < s36') = true then
      if decide (0 ≤ s37') = true then
      if decide (s37' < (((List.length x0) : Nat) : Int)) = true then
      if decide (List.length (List.getD x0 (Int.toNat s37') ([] : Q5)) < 4611686018427387904) = true then
      if ((show Q5 from (List.getD x0 (Int.toNat s37') ([] : Q5))) == s7) = true then
        l11_1 m n x0 x2 s7 s25 s26 s36' ((IntKind.wrap .i64 (s37' + (1)))) b0'
      else
        if decide (List.length (List.getD x0 (Int.toNat s37') ([] : Q5)) ≤ 1000000 ∧ List.length b0'.1 ≤ 9223372036854775807) = true then
        if (allG (List.getD x0 (Int.toNat s37') ([] : Q5)) b0'.1) = true then
          if equPre (List.getD x0 (Int.toNat s37') ([] : Q5)) s7 b0'.2.2 = true then
          if (equG (List.getD x0 (Int.toNat s37') ([] : Q5)) s7 b0'.2.2) = true then
            some (0, s37')
          else
            l11_1 m n x0 x2 s7 s25 s26 s36' ((IntKind.wrap .i64 (s37' + (1)))) b0'
          else none
        else
          l11_1 m n x0 x2 s7 s25 s26 s36' ((IntKind.wrap .i64 (s37' + (1)))) b0'
        else none
      else none
      else none
      else none
    else
      some (1, s37')
def l11_1D : Nat × Int := (0, 0)
@[reducible] def l11_1R (m n : Nat) (x0 : Q3) (x2 : Q0) (s7 : Q5) (s25 : Int) (s26 : Int) (s36' : Int) (s37' : Int) (b0' : Q1) : Nat × Int := Option.getD (l11_1 m n x0 x2 s7 s25 s26 s36' s37' b0') l11_1D
def l11_1H (x0 : Q3) (x2 : Q0) (s7 : Q5) (s25 : Int) (s26 : Int) (s36' : Int) (s37' : Int) (b0' : Q1) : Env := ((.d (.sl (.sl (.pair .str .str)) x0)) :: .top :: .top :: .top :: .top :: .top :: .top :: (.d (.sl (.pair .str .str) s7)) :: .top :: (.ptr 0 0) :: tp14 ((.d (.sl (.pair (.sl (.pair .str (.pair .str (.int .i64)))) (.pair (.sl (.pair .str (.pair .str (.int .i64)))) (.sl .str))) x2)) :: (.d (.int .i64 s25)) :: (.d (.int .i64 s26)) :: tp8 ((.d (.sl (.sl (.pair .str .str)) x0)) :: (.d (.int .i64 s36')) :: (.d (.int .i64 s37')) :: tp22 [])))
def l11_1B (x0 : Q3) (x2 : Q0) (s7 : Q5) (s25 : Int) (s26 : Int) (s36' : Int) (s37' : Int) (b0' : Q1) : Boxes := [(.cells [(.d (.sl (.pair .str (.pair .str (.int .i64))) b0'.1)), (.d (.sl (.pair .str (.pair .str (.int .i64))) b0'.2.1)), (.d (.sl .str b0'.2.2))])]
def l11_1E (x0 : Q3) (x2 : Q0) (s7 : Q5) (s25 : Int) (s26 : Int) (s36' : Int) (s37' : Int) (b0' : Q1) : Nat → AEx × Env × Boxes
  | 0 => (.ret, ((.d (.sl (.sl (.pair .str .str)) x0)) :: .top :: .top :: .top :: .top :: .top :: (.d (.bool true)) :: (.d (.sl (.pair .str .str) s7)) :: .top :: (.ptr 0 0) :: .top :: (.d (.sl (.pair .str .str) (List.getD x0 (Int.toNat s37') ([] : Q5)))) :: tp12 ((.d (.sl (.pair (.sl (.pair .str (.pair .str (.int .i64)))) (.pair (.sl (.pair .str (.pair .str (.int .i64)))) (.sl .str))) x2)) :: (.d (.int .i64 s25)) :: (.d (.int .i64 s26)) :: tp8 ((.d (.sl (.sl (.pair .str .str)) x0)) :: (.d (.int .i64 s36')) :: (.d (.int .i64 s37')) :: (.d (.bool (decide (s37' < s36')))) :: (.cptr [(.sl (.pair .str .str) (List.getD x0 (Int.toNat s37') ([] : Q5)))] 0) :: (.d (.sl (.pair .str .str) (List.getD x0 (Int.toNat s37') ([] : Q5)))) :: (.d (.sl (.pair .str .str) (List.getD x0 (Int.toNat s37') ([] : Q5)))) :: (.d (.sl (.pair .str .str) s7)) :: (.d (.bool ((show Q5 from (List.getD x0 (Int.toNat s37') ([] : Q5))) == s7))) :: (.d (.bool (!((show Q5 from (List.getD x0 (Int.toNat s37') ([] : Q5))) == s7)))) :: (.d (.bool (!((show Q5 from (List.getD x0 (Int.toNat s37') ([] : Q5))) == s7)))) :: (.d (.sl (.pair .str .str) (List.getD x0 (Int.toNat s37') ([] : Q5)))) :: (.ptr 0 0) :: (.d (.sl (.pair .str (.pair .str (.int .i64))) b0'.1)) :: (.d (.bool (allG (List.getD x0 (Int.toNat s37') ([] : Q5)) b0'.1))) :: (.d (.bool (allG (List.getD x0 (Int.toNat s37') ([] : Q5)) b0'.1))) :: (.d (.bool (allG (List.getD x0 (Int.toNat s37') ([] : Q5)) b0'.1))) :: (.d (.sl (.pair .str .str) (List.getD x0 (Int.toNat s37') ([] : Q5)))) :: (.d (.sl (.pair .str .str) s7)) :: (.ptr 0 2) :: (.d (.sl .str b0'.2.2)) :: (.d (.bool (equG (List.getD x0 (Int.toNat s37') ([] : Q5)) s7 b0'.2.2))) :: (.d (.bool (equG (List.getD x0 (Int.toNat s37') ([] : Q5)) s7 b0'.2.2))) :: .top :: .top :: []))), [(.cells [(.d (.sl (.pair .str (.pair .str (.int .i64))) b0'.1)), (.d (.sl (.pair .str (.pair .str (.int .i64))) b0'.2.1)), (.d (.sl .str b0'.2.2))])])
  | _ => (.exit 2, ((.d (.sl (.sl (.pair .str .str)) x0)) :: .top :: .top :: .top :: .top :: .top :: .top :: (.d (.sl (.pair .str .str) s7)) :: .top :: (.ptr 0 0) :: tp14 ((.d (.sl (.pair (.sl (.pair .str (.pair .str (.int .i64)))) (.pair (.sl (.pair .str (.pair .str (.int .i64)))) (.sl .str))) x2)) :: (.d (.int .i64 s25)) :: (.d (.int .i64 s26)) :: tp8 ((.d (.sl (.sl (.pair .str .str)) x0)) :: (.d (.int .i64 s36')) :: (.d (.int .i64 s37')) :: (.d (.bool (decide (s37' < s36')))) :: tp21 []))), [(.cells [(.d (.sl (.pair .str (.pair .str (.int .i64))) b0'.1)), (.d (.sl (.pair .str (.pair .str (.int .i64))) b0'.2.1)), (.d (.sl .str b0'.2.2))])])
noncomputable def lbl11_1 : AC := loopBody 240635609729 body11
@[reducible] noncomputable def cb11 (m : Nat) := (evC byref (evCall F S19 (m + 24)) (m + 24) 0 (hds 11) lbl11_1)


theorem l11_1_step (m n : Nat) (ih : ∀ (x0 : Q3) (x2 : Q0) (s7 : Q5) (s25 : Int) (s26 : Int) (s36' : Int) (s37' : Int) (b0' : Q1) (q : Nat × Int), l11_1 m n x0 x2 s7 s25 s26 s36' s37' b0' = some q → (turns (hds 11 240635609729) 0 240635609729 (cb11 m) n (l11_1H x0 x2 s7 s25 s26 s36' s37' b0') (l11_1B x0 x2 s7 s25 s26 s36' s37' b0')).run = some (l11_1E (x0) (x2) (s7) (s25) (s26) (s36') (q.2) (b0') q.1)) (x0 : Q3) (x2 : Q0) (s7 : Q5) (s25 : Int) (s26 : Int) (s36' : Int) (s37' : Int) (b0' : Q1) (q : Nat × Int) (h : l11_1 m (n + 1) x0 x2 s7 s25 s26 s36' s37' b0' = some q) : (turns (hds 11 240635609729) 0 240635609729 (cb11 m) (n + 1) (l11_1H x0 x2 s7 s25 s26 s36' s37' b0') (l11_1B x0 x2 s7 s25 s26 s36' s37' b0')).run = some (l11_1E (x0) (x2) (s7) (s25) (s26) (s36') (q.2) (b0') q.1) := by
  rw [l11_1] at h
  refine ite_cases h (fun c0 h => ?_) (fun c0 h => ?_)
  · skip
    obtain ⟨c1, h⟩ := iY h
    obtain ⟨c2, h⟩ := iY h
    obtain ⟨c3, h⟩ := iY h
    refine ite_cases h (fun c4 h => ?_) (fun c4 h => ?_)
    · skip
      have ih := ih _ _ _ _ _ _ _ _ q h
      refine turns_step ?_ ih
      exact M.run_of_path _ [tT, tT, tT, tT, fF, fF, fF, fF, fF, fF, fF, fF, fF, fF, fF, fF] _ _ (by kernel_rfl) (all_t c0 (all_t c1 (all_t c2 (all_t c3 (all_nt c4 (all_nt c4 (all_nt c4 (all_nt c4 (all_nt c4 (all_f Bool.false_ne_true (all_f Bool.false_ne_true (all_f Bool.false_ne_true (all_f Bool.false_ne_true (all_f Bool.false_ne_true (all_f Bool.false_ne_true (all_f Bool.false_ne_true all_nil))))))))))))))))
    · skip
      obtain ⟨c8, h⟩ := iY h
      refine ite_cases h (fun c10 h => ?_) (fun c10 h => ?_)
      · skip
        obtain ⟨c15, h⟩ := iY h
        refine ite_cases h (fun c17 h => ?_) (fun c17 h => ?_)
        · skip
          cases h
          refine turns_last (by simp) ?_
          exact M.run_of_path _ [tT, tT, tT, tT, tT, tT, tT, tT, tT, tT, tT, tT, tT, tT, tT, tT, tT, tT] _ _ (by kernel_rfl) (all_t c0 (all_t c1 (all_t c2 (all_t c3 (all_nf c4 (all_nf c4 (all_nf c4 (all_nf c4 (all_t c8 (all_nf c4 (all_t c10 (all_t c10 (all_t c10 (all_t c10 (all_t c10 (all_t c15 (all_t c10 (all_t c17 all_nil))))))))))))))))))
        · skip
          have ih := ih _ _ _ _ _ _ _ _ q h
          refine turns_step ?_ ih
          exact M.run_of_path _ [tT, tT, tT, tT, tT, tT, tT, tT, tT, tT, tT, tT, tT, tT, tT, tT, tT, fF] _ _ (by kernel_rfl) (all_t c0 (all_t c1 (all_t c2 (all_t c3 (all_nf c4 (all_nf c4 (all_nf c4 (all_nf c4 (all_t c8 (all_nf c4 (all_t c10 (all_t c10 (all_t c10 (all_t c10 (all_t c10 (all_t c15 (all_t c10 (all_f c17 all_nil))))))))))))))))))
      · skip
        have ih := ih _ _ _ _ _ _ _ _ q h
        refine turns_step ?_ ih
        exact M.run_of_path _ [tT, tT, tT, tT, tT, tT, tT, tT, tT, tT, fF, fF, fF, fF, fF, fF, fF] _ _ (by kernel_rfl) (all_t c0 (all_t c1 (all_t c2 (all_t c3 (all_nf c4 (all_nf c4 (all_nf c4 (all_nf c4 (all_t c8 (all_nf c4 (all_f c10 (all_f c10 (all_f c10 (all_f c10 (all_f c10 (all_f c10 (all_f Bool.false_ne_true all_nil)))))))))))))))))
  · skip
    cases h
    refine turns_last (by simp) ?_
    exact M.run_of_path _ [fF] _ _ (by kernel_rfl) (all_f c0 all_nil)
theorem l11_1_ok (m : Nat) : ∀ (n : Nat) (x0 : Q3) (x2 : Q0) (s7 : Q5) (s25 : Int) (s26 : Int) (s36' : Int) (s37' : Int) (b0' : Q1) (q : Nat × Int), l11_1 m n x0 x2 s7 s25 s26 s36' s37' b0' = some q → (turns (hds 11 240635609729) 0 240635609729 (cb11 m) n (l11_1H x0 x2 s7 s25 s26 s36' s37' b0') (l11_1B x0 x2 s7 s25 s26 s36' s37' b0')).run = some (l11_1E (x0) (x2) (s7) (s25) (s26) (s36') (q.2) (b0') q.1)
  | 0, x0, x2, s7, s25, s26, s36', s37', b0', q, h => by cases h
  | n + 1, x0, x2, s7, s25, s26, s36', s37', b0', q, h => l11_1_step m n (l11_1_ok m n) x0 x2 s7 s25 s26 s36' s37' b0' q h

def l11_0 (m : Nat) : Nat → Q3 → Q0 → Q5 → Int → Int → Option (Nat × Int)
  | 0, _, _, _, _, _ => none
  | n + 1, x0, x2, s7, s25, s26 => if decide (s26 < s25) = true then
      if decide (0 ≤ s26) = true then
      if decide (s26 < (((List.length x2) : Nat) : Int)) = true then
      if decide (List.length s7 ≤ 1000000 ∧ List.length (List.getD x2 (Int.toNat s26) (([] : Q4), (([] : Q4), ([] : Q7)))).2.1 ≤ 9223372036854775807) = true then
      if (allG s7 (List.getD x2 (Int.toNat s26) (([] : Q4), (([] : Q4), ([] : Q7)))).2.1) = true then
        if (Option.isSome (l11_1 m (m + 24) x0 x2 s7 s25 s26 ((((List.length x0) : Nat) : Int)) 0 ((List.getD x2 (Int.toNat s26) (([] : Q4), (([] : Q4), ([] : Q7))))))) = true then
        if ((l11_1R m (m + 24) x0 x2 s7 s25 s26 ((((List.length x0) : Nat) : Int)) 0 ((List.getD x2 (Int.toNat s26) (([] : Q4), (([] : Q4), ([] : Q7)))))).1 == 0) = true then
          some (0, s26)
        else
          if ((l11_1R m (m + 24) x0 x2 s7 s25 s26 ((((List.length x0) : Nat) : Int)) 0 ((List.getD x2 (Int.toNat s26) (([] : Q4), (([] : Q4), ([] : Q7)))))).1 == 1) = true then
          l11_0 m n x0 x2 s7 s25 ((IntKind.wrap .i64 (s26 + (1))))
          else none
        else none
      else
        l11_0 m n x0 x2 s7 s25 ((IntKind.wrap .i64 (s26 + (1))))
      else none
      else none
      else none
    else
      some (1, s26)
def l11_0D : Nat × Int := (0, 0)
@[reducible] def l11_0R (m n : Nat) (x0 : Q3) (x2 : Q0) (s7 : Q5) (s25 : Int) (s26 : Int) : Nat × Int := Option.getD (l11_0 m n x0 x2 s7 s25 s26) l11_0D
def l11_0H (x0 : Q3) (x2 : Q0) (s7 : Q5) (s25 : Int) (s26 : Int) : Env := ((.d (.sl (.sl (.pair .str .str)) x0)) :: .top :: .top :: .top :: .top :: .top :: .top :: (.d (.sl (.pair .str .str) s7)) :: tp16 ((.d (.sl (.pair (.sl (.pair .str (.pair .str (.int .i64)))) (.pair (.sl (.pair .str (.pair .str (.int .i64)))) (.sl .str))) x2)) :: (.d (.int .i64 s25)) :: (.d (.int .i64 s26)) :: tp33 []))
def l11_0B (x0 : Q3) (x2 : Q0) (s7 : Q5) (s25 : Int) (s26 : Int) : Boxes := []
def l11_0E (m : Nat) (x0 : Q3) (x2 : Q0) (s7 : Q5) (s25 : Int) (s26 : Int) : Nat → AEx × Env × Boxes
  | 0 => (.ret, ((.d (.sl (.sl (.pair .str .str)) x0)) :: .top :: .top :: .top :: .top :: .top :: (.d (.bool true)) :: (.d (.sl (.pair .str .str) s7)) :: .top :: (.ptr 0 0) :: .top :: (.d (.sl (.pair .str .str) (List.getD x0 (Int.toNat (l11_1R m (m + 24) x0 x2 s7 s25 s26 ((((List.length x0) : Nat) : Int)) 0 ((List.getD x2 (Int.toNat s26) (([] : Q4), (([] : Q4), ([] : Q7)))))).2) ([] : Q5)))) :: tp12 ((.d (.sl (.pair (.sl (.pair .str (.pair .str (.int .i64)))) (.pair (.sl (.pair .str (.pair .str (.int .i64)))) (.sl .str))) x2)) :: (.d (.int .i64 s25)) :: (.d (.int .i64 s26)) :: tp8 ((.d (.sl (.sl (.pair .str .str)) x0)) :: (.d (.int .i64 ((((List.length x0) : Nat) : Int)))) :: (.d (.int .i64 (l11_1R m (m + 24) x0 x2 s7 s25 s26 ((((List.length x0) : Nat) : Int)) 0 ((List.getD x2 (Int.toNat s26) (([] : Q4), (([] : Q4), ([] : Q7)))))).2)) :: (.d (.bool (decide ((l11_1R m (m + 24) x0 x2 s7 s25 s26 ((((List.length x0) : Nat) : Int)) 0 ((List.getD x2 (Int.toNat s26) (([] : Q4), (([] : Q4), ([] : Q7)))))).2 < ((((List.length x0) : Nat) : Int)))))) :: (.cptr [(.sl (.pair .str .str) (List.getD x0 (Int.toNat (l11_1R m (m + 24) x0 x2 s7 s25 s26 ((((List.length x0) : Nat) : Int)) 0 ((List.getD x2 (Int.toNat s26) (([] : Q4), (([] : Q4), ([] : Q7)))))).2) ([] : Q5)))] 0) :: (.d (.sl (.pair .str .str) (List.getD x0 (Int.toNat (l11_1R m (m + 24) x0 x2 s7 s25 s26 ((((List.length x0) : Nat) : Int)) 0 ((List.getD x2 (Int.toNat s26) (([] : Q4), (([] : Q4), ([] : Q7)))))).2) ([] : Q5)))) :: (.d (.sl (.pair .str .str) (List.getD x0 (Int.toNat (l11_1R m (m + 24) x0 x2 s7 s25 s26 ((((List.length x0) : Nat) : Int)) 0 ((List.getD x2 (Int.toNat s26) (([] : Q4), (([] : Q4), ([] : Q7)))))).2) ([] : Q5)))) :: (.d (.sl (.pair .str .str) s7)) :: (.d (.bool ((show Q5 from (List.getD x0 (Int.toNat (l11_1R m (m + 24) x0 x2 s7 s25 s26 ((((List.length x0) : Nat) : Int)) 0 ((List.getD x2 (Int.toNat s26) (([] : Q4), (([] : Q4), ([] : Q7)))))).2) ([] : Q5))) == s7))) :: (.d (.bool (!((show Q5 from (List.getD x0 (Int.toNat (l11_1R m (m + 24) x0 x2 s7 s25 s26 ((((List.length x0) : Nat) : Int)) 0 ((List.getD x2 (Int.toNat s26) (([] : Q4), (([] : Q4), ([] : Q7)))))).2) ([] : Q5))) == s7)))) :: (.d (.bool (!((show Q5 from (List.getD x0 (Int.toNat (l11_1R m (m + 24) x0 x2 s7 s25 s26 ((((List.length x0) : Nat) : Int)) 0 ((List.getD x2 (Int.toNat s26) (([] : Q4), (([] : Q4), ([] : Q7)))))).2) ([] : Q5))) == s7)))) :: (.d (.sl (.pair .str .str) (List.getD x0 (Int.toNat (l11_1R m (m + 24) x0 x2 s7 s25 s26 ((((List.length x0) : Nat) : Int)) 0 ((List.getD x2 (Int.toNat s26) (([] : Q4), (([] : Q4), ([] : Q7)))))).2) ([] : Q5)))) :: (.ptr 0 0) :: (.d (.sl (.pair .str (.pair .str (.int .i64))) ((List.getD x2 (Int.toNat s26) (([] : Q4), (([] : Q4), ([] : Q7))))).1)) :: (.d (.bool (allG (List.getD x0 (Int.toNat (l11_1R m (m + 24) x0 x2 s7 s25 s26 ((((List.length x0) : Nat) : Int)) 0 ((List.getD x2 (Int.toNat s26) (([] : Q4), (([] : Q4), ([] : Q7)))))).2) ([] : Q5)) ((List.getD x2 (Int.toNat s26) (([] : Q4), (([] : Q4), ([] : Q7))))).1))) :: (.d (.bool (allG (List.getD x0 (Int.toNat (l11_1R m (m + 24) x0 x2 s7 s25 s26 ((((List.length x0) : Nat) : Int)) 0 ((List.getD x2 (Int.toNat s26) (([] : Q4), (([] : Q4), ([] : Q7)))))).2) ([] : Q5)) ((List.getD x2 (Int.toNat s26) (([] : Q4), (([] : Q4), ([] : Q7))))).1))) :: (.d (.bool (allG (List.getD x0 (Int.toNat (l11_1R m (m + 24) x0 x2 s7 s25 s26 ((((List.length x0) : Nat) : Int)) 0 ((List.getD x2 (Int.toNat s26) (([] : Q4), (([] : Q4), ([] : Q7)))))).2) ([] : Q5)) ((List.getD x2 (Int.toNat s26) (([] : Q4), (([] : Q4), ([] : Q7))))).1))) :: (.d (.sl (.pair .str .str) (List.getD x0 (Int.toNat (l11_1R m (m + 24) x0 x2 s7 s25 s26 ((((List.length x0) : Nat) : Int)) 0 ((List.getD x2 (Int.toNat s26) (([] : Q4), (([] : Q4), ([] : Q7)))))).2) ([] : Q5)))) :: (.d (.sl (.pair .str .str) s7)) :: (.ptr 0 2) :: (.d (.sl .str ((List.getD x2 (Int.toNat s26) (([] : Q4), (([] : Q4), ([] : Q7))))).2.2)) :: (.d (.bool (equG (List.getD x0 (Int.toNat (l11_1R m (m + 24) x0 x2 s7 s25 s26 ((((List.length x0) : Nat) : Int)) 0 ((List.getD x2 (Int.toNat s26) (([] : Q4), (([] : Q4), ([] : Q7)))))).2) ([] : Q5)) s7 ((List.getD x2 (Int.toNat s26) (([] : Q4), (([] : Q4), ([] : Q7))))).2.2))) :: (.d (.bool (equG (List.getD x0 (Int.toNat (l11_1R m (m + 24) x0 x2 s7 s25 s26 ((((List.length x0) : Nat) : Int)) 0 ((List.getD x2 (Int.toNat s26) (([] : Q4), (([] : Q4), ([] : Q7)))))).2) ([] : Q5)) s7 ((List.getD x2 (Int.toNat s26) (([] : Q4), (([] : Q4), ([] : Q7))))).2.2))) :: .top :: .top :: []))), [(.cells [(.d (.sl (.pair .str (.pair .str (.int .i64))) ((List.getD x2 (Int.toNat s26) (([] : Q4), (([] : Q4), ([] : Q7))))).1)), (.d (.sl (.pair .str (.pair .str (.int .i64))) ((List.getD x2 (Int.toNat s26) (([] : Q4), (([] : Q4), ([] : Q7))))).2.1)), (.d (.sl .str ((List.getD x2 (Int.toNat s26) (([] : Q4), (([] : Q4), ([] : Q7))))).2.2))])])
  | _ => (.exit 0, ((.d (.sl (.sl (.pair .str .str)) x0)) :: .top :: .top :: .top :: .top :: .top :: .top :: (.d (.sl (.pair .str .str) s7)) :: tp16 ((.d (.sl (.pair (.sl (.pair .str (.pair .str (.int .i64)))) (.pair (.sl (.pair .str (.pair .str (.int .i64)))) (.sl .str))) x2)) :: (.d (.int .i64 s25)) :: (.d (.int .i64 s26)) :: (.d (.bool (decide (s26 < s25)))) :: tp32 [])), [])
noncomputable def lbl11_0 : AC := loopBody 117440641 body11
@[reducible] noncomputable def cb12 (m : Nat) := (evC byref (evCall F S19 (m + 24)) (m + 24) 0 (hds 11) lbl11_0)


theorem l11_0_step (m n : Nat) (ih : ∀ (x0 : Q3) (x2 : Q0) (s7 : Q5) (s25 : Int) (s26 : Int) (q : Nat × Int), l11_0 m n x0 x2 s7 s25 s26 = some q → (turns (hds 11 117440641) 0 117440641 (cb12 m) n (l11_0H x0 x2 s7 s25 s26) (l11_0B x0 x2 s7 s25 s26)).run = some (l11_0E m (x0) (x2) (s7) (s25) (q.2) q.1)) (x0 : Q3) (x2 : Q0) (s7 : Q5) (s25 : Int) (s26 : Int) (q : Nat × Int) (h : l11_0 m (n + 1) x0 x2 s7 s25 s26 = some q) : (turns (hds 11 117440641) 0 117440641 (cb12 m) (n + 1) (l11_0H x0 x2 s7 s25 s26) (l11_0B x0 x2 s7 s25 s26)).run = some (l11_0E m (x0) (x2) (s7) (s25) (q.2) q.1) := by
  rw [l11_0] at h
  refine ite_cases h (fun c0 h => ?_) (fun c0 h => ?_)
  · skip
    obtain ⟨c1, h⟩ := iY h
    obtain ⟨c2, h⟩ := iY h
    obtain ⟨c3, h⟩ := iY h
    refine ite_cases h (fun c4 h => ?_) (fun c4 h => ?_)
    · skip
      obtain ⟨c5, h⟩ := iY h
      refine ite_cases h (fun c6 h => ?_) (fun c6 h => ?_)
      · skip
        cases h
        refine turns_last (by simp) ?_
        refine turnT_ok (LS := (fun k => if k = 240635609729 then some (l11_1E x0 x2 s7 s25 s26 (((((List.length x0) : Nat) : Int))) ((l11_1R m (m + 24) x0 x2 s7 s25 s26 ((((List.length x0) : Nat) : Int)) 0 ((List.getD x2 (Int.toNat s26) (([] : Q4), (([] : Q4), ([] : Q7)))))).2) (((List.getD x2 (Int.toNat s26) (([] : Q4), (([] : Q4), ([] : Q7)))))) 0) else none)) (vis := [(240635609729, l11_1H x0 x2 s7 s25 s26 ((((List.length x0) : Nat) : Int)) 0 ((List.getD x2 (Int.toNat s26) (([] : Q4), (([] : Q4), ([] : Q7))))), l11_1B x0 x2 s7 s25 s26 ((((List.length x0) : Nat) : Int)) 0 ((List.getD x2 (Int.toNat s26) (([] : Q4), (([] : Q4), ([] : Q7))))))]) (by kernel_rfl) (M.run_of_path _ [tT, tT, tT, tT, fF] _ _ (by kernel_rfl) (all_t c0 (all_t c1 (all_t c2 (all_t c3 (all_nt c4 all_nil)))))) ?_
        intro p hp p2 hq
        rcases List.mem_cons.1 hp with rfl | hp
        · skip
          have h3 := l11_1_ok m (m + 24) x0 x2 s7 s25 s26 ((((List.length x0) : Nat) : Int)) 0 ((List.getD x2 (Int.toNat s26) (([] : Q4), (([] : Q4), ([] : Q7))))) _ (some_getD (d := l11_1D) c5)
          rw [eq_of_beq c6] at h3
          exact Eq.trans (Eq.mp (by kernel_rfl) h3) hq
        cases hp
      · skip
        obtain ⟨c7, h⟩ := iY h
        have ih := ih _ _ _ _ _ q h
        refine turns_step ?_ ih
        refine turnT_ok (LS := (fun k => if k = 240635609729 then some (l11_1E x0 x2 s7 s25 s26 (((((List.length x0) : Nat) : Int))) ((l11_1R m (m + 24) x0 x2 s7 s25 s26 ((((List.length x0) : Nat) : Int)) 0 ((List.getD x2 (Int.toNat s26) (([] : Q4), (([] : Q4), ([] : Q7)))))).2) (((List.getD x2 (Int.toNat s26) (([] : Q4), (([] : Q4), ([] : Q7)))))) 1) else none)) (vis := [(240635609729, l11_1H x0 x2 s7 s25 s26 ((((List.length x0) : Nat) : Int)) 0 ((List.getD x2 (Int.toNat s26) (([] : Q4), (([] : Q4), ([] : Q7))))), l11_1B x0 x2 s7 s25 s26 ((((List.length x0) : Nat) : Int)) 0 ((List.getD x2 (Int.toNat s26) (([] : Q4), (([] : Q4), ([] : Q7))))))]) (by kernel_rfl) (M.run_of_path _ [tT, tT, tT, tT, fF] _ _ (by kernel_rfl) (all_t c0 (all_t c1 (all_t c2 (all_t c3 (all_nt c4 all_nil)))))) ?_
        intro p hp p2 hq
        rcases List.mem_cons.1 hp with rfl | hp
        · skip
          have h3 := l11_1_ok m (m + 24) x0 x2 s7 s25 s26 ((((List.length x0) : Nat) : Int)) 0 ((List.getD x2 (Int.toNat s26) (([] : Q4), (([] : Q4), ([] : Q7))))) _ (some_getD (d := l11_1D) c5)
          rw [eq_of_beq c7] at h3
          exact Eq.trans (Eq.mp (by kernel_rfl) h3) hq
        cases hp
    · skip
      have ih := ih _ _ _ _ _ q h
      refine turns_step ?_ ih
      exact M.run_of_path _ [tT, tT, tT, tT, tT] _ _ (by kernel_rfl) (all_t c0 (all_t c1 (all_t c2 (all_t c3 (all_nf c4 all_nil)))))
  · skip
    cases h
    refine turns_last (by simp) ?_
    exact M.run_of_path _ [fF] _ _ (by kernel_rfl) (all_f c0 all_nil)
theorem l11_0_ok (m : Nat) : ∀ (n : Nat) (x0 : Q3) (x2 : Q0) (s7 : Q5) (s25 : Int) (s26 : Int) (q : Nat × Int), l11_0 m n x0 x2 s7 s25 s26 = some q → (turns (hds 11 117440641) 0 117440641 (cb12 m) n (l11_0H x0 x2 s7 s25 s26) (l11_0B x0 x2 s7 s25 s26)).run = some (l11_0E m (x0) (x2) (s7) (s25) (q.2) q.1)
  | 0, x0, x2, s7, s25, s26, q, h => by cases h
  | n + 1, x0, x2, s7, s25, s26, q, h => l11_0_step m n (l11_0_ok m n) x0 x2 s7 s25 s26 q h

def p11 (m : Nat) (x0 : Q3) (x1 : Int) (x2 : Q0) : Option (Bool) :=
  if decide (x1 < 0) = true then
    some (false)
  else
    if decide (x1 ≥ (((List.length x0) : Nat) : Int)) = true then
      some (false)
    else
      if decide (0 ≤ x1) = true then
      if decide (x1 < (((List.length x0) : Nat) : Int)) = true then
      if (Option.isSome (l11_0 m (m + 24) x0 x2 ((List.getD x0 (Int.toNat x1) ([] : Q5))) ((((List.length x2) : Nat) : Int)) 0)) = true then
      if ((l11_0R m (m + 24) x0 x2 ((List.getD x0 (Int.toNat x1) ([] : Q5))) ((((List.length x2) : Nat) : Int)) 0).1 == 0) = true then
        some (true)
      else
        if ((l11_0R m (m + 24) x0 x2 ((List.getD x0 (Int.toNat x1) ([] : Q5))) ((((List.length x2) : Nat) : Int)) 0).1 == 1) = true then
        some (false)
        else none
      else none
      else none
      else none
theorem p11_ok (m : Nat) (x0 : Q3) (x1 : Int) (x2 : Q0) (q : Bool) (h : p11 m x0 x1 x2 = some q) : ∃ r B1, (evCall F S19 (m + 25) 11 [(.d (.sl (.sl (.pair .str .str)) x0)), (.d (.int .i64 x1)), (.d (.sl (.pair (.sl (.pair .str (.pair .str (.int .i64)))) (.pair (.sl (.pair .str (.pair .str (.int .i64)))) (.sl .str))) x2))] []).run = some (r, B1) ∧ 0 ≤ B1.length ∧ wkR B1 [] r (.d (.bool (q))) ∧ wkBs B1 [] 0 [] := by
  unfold p11 at h
  refine ite_cases h (fun c0 h => ?_) (fun c0 h => ?_)
  · skip
    cases h
    refine ⟨(.d (.bool false)), [], runT_ok (LS := (fun k => none)) (fn := fn11) (vis := []) (by kernel_rfl) rfl (by kernel_rfl) (M.run_of_path _ [tT, tT, tT, tT, tT, tT] _ _ (by kernel_rfl) (all_t c0 (all_t c0 (all_t c0 (all_t c0 (all_t c0 (all_t rfl all_nil))))))) ?_, by simp, (wkR.one (wkV.one (wk1.eq rfl))), trivial⟩
    intro p hp; cases hp
  · skip
    refine ite_cases h (fun c5 h => ?_) (fun c5 h => ?_)
    · skip
      cases h
      refine ⟨(.d (.bool false)), [], runT_ok (LS := (fun k => none)) (fn := fn11) (vis := []) (by kernel_rfl) rfl (by kernel_rfl) (M.run_of_path _ [fF, fF, fF, fF, fF, tT] _ _ (by kernel_rfl) (all_f c0 (all_f c0 (all_f c0 (all_f c0 (all_f c0 (all_t c5 all_nil))))))) ?_, by simp, (wkR.one (wkV.one (wk1.eq rfl))), trivial⟩
      intro p hp; cases hp
    · skip
      obtain ⟨c6, h⟩ := iY h
      obtain ⟨c7, h⟩ := iY h
      obtain ⟨c8, h⟩ := iY h
      refine ite_cases h (fun c9 h => ?_) (fun c9 h => ?_)
      · skip
        cases h
        refine ⟨(.d (.bool true)), [], runT_ok (LS := (fun k => if k = 117440641 then some (l11_0E m x0 x2 (((List.getD x0 (Int.toNat x1) ([] : Q5)))) (((((List.length x2) : Nat) : Int))) ((l11_0R m (m + 24) x0 x2 ((List.getD x0 (Int.toNat x1) ([] : Q5))) ((((List.length x2) : Nat) : Int)) 0).2) 0) else none)) (fn := fn11) (vis := [(117440641, l11_0H x0 x2 ((List.getD x0 (Int.toNat x1) ([] : Q5))) ((((List.length x2) : Nat) : Int)) 0, l11_0B x0 x2 ((List.getD x0 (Int.toNat x1) ([] : Q5))) ((((List.length x2) : Nat) : Int)) 0)]) (by kernel_rfl) rfl (by kernel_rfl) (M.run_of_path _ [fF, fF, fF, fF, fF, fF, tT, tT] _ _ (by kernel_rfl) (all_f c0 (all_f c0 (all_f c0 (all_f c0 (all_f c0 (all_f c5 (all_t c6 (all_t c7 all_nil))))))))) ?_, by simp, (wkR.one (wkV.one (wk1.eq rfl))), trivial⟩
        intro p hp p2 hq
        rcases List.mem_cons.1 hp with rfl | hp
        · skip
          have h3 := l11_0_ok m (m + 24) x0 x2 ((List.getD x0 (Int.toNat x1) ([] : Q5))) ((((List.length x2) : Nat) : Int)) 0 _ (some_getD (d := l11_0D) c8)
          rw [eq_of_beq c9] at h3
          exact Eq.trans (Eq.mp (by kernel_rfl) h3) hq
        cases hp
      · skip
        obtain ⟨c10, h⟩ := iY h
        cases h
        refine ⟨(.d (.bool false)), [], runT_ok (LS := (fun k => if k = 117440641 then some (l11_0E m x0 x2 (((List.getD x0 (Int.toNat x1) ([] : Q5)))) (((((List.length x2) : Nat) : Int))) ((l11_0R m (m + 24) x0 x2 ((List.getD x0 (Int.toNat x1) ([] : Q5))) ((((List.length x2) : Nat) : Int)) 0).2) 1) else none)) (fn := fn11) (vis := [(117440641, l11_0H x0 x2 ((List.getD x0 (Int.toNat x1) ([] : Q5))) ((((List.length x2) : Nat) : Int)) 0, l11_0B x0 x2 ((List.getD x0 (Int.toNat x1) ([] : Q5))) ((((List.length x2) : Nat) : Int)) 0)]) (by kernel_rfl) rfl (by kernel_rfl) (M.run_of_path _ [fF, fF, fF, fF, fF, fF, tT, tT] _ _ (by kernel_rfl) (all_f c0 (all_f c0 (all_f c0 (all_f c0 (all_f c0 (all_f c5 (all_t c6 (all_t c7 all_nil))))))))) ?_, by simp, (wkR.one (wkV.one (wk1.eq rfl))), trivial⟩
        intro p hp p2 hq
        rcases List.mem_cons.1 hp with rfl | hp
        · skip
          have h3 := l11_0_ok m (m + 24) x0 x2 ((List.getD x0 (Int.toNat x1) ([] : Q5))) ((((List.length x2) : Nat) : Int)) 0 _ (some_getD (d := l11_0D) c8)
          rw [eq_of_beq c10] at h3
          exact Eq.trans (Eq.mp (by kernel_rfl) h3) hq
        cases hp

def hitG (own : LB) (h : (List MT) × (List MT) × (Q7)) (o : LB) : Bool := !(o == own) && (allG o h.1 && equG o own h.2.2)
def inhBy (all : List LB) (own : LB) (h : (List MT) × (List MT) × (Q7)) : Bool := allG own h.2.1 && all.any (hitG own h)
def inhG (all : List LB) (i : Int) (hs : HS) : Bool := if i < 0 then false else if i ≥ ((all.length : Nat) : Int) then false else hs.any (inhBy all (all.getD i.toNat []))
def inhPre (all : List LB) (hs : HS) : Bool := decide (all.length ≤ 1000000 ∧ (∀ x ∈ all, x.length ≤ 1000000) ∧ hs.length ≤ 1000000 ∧ ∀ h ∈ hs, h.1.length ≤ 9223372036854775807 ∧ h.2.1.length ≤ 9223372036854775807 ∧ h.2.2.length ≤ 9223372036854775807)
theorem inh1_loop (m : Nat) (all : List LB) (hs : HS) (own : LB) (s25 s26 : Int) (h : (List MT) × (List MT) × (Q7)) (h1 : all.length ≤ 1000000) (h2 : ∀ x ∈ all, x.length ≤ 1000000) (h3 : own.length ≤ 1000000) (h4 : h.1.length ≤ 9223372036854775807 ∧ h.2.1.length ≤ 9223372036854775807 ∧ h.2.2.length ≤ 9223372036854775807) : ∀ (n k : Nat), k ≤ all.length → all.length - k < n → ∃ e j, l11_1 m n all hs own s25 s26 (all.length : Nat) (k : Nat) h = some (e, j) ∧ ((e = 0 ∧ (all.drop k).any (hitG own h) = true) ∨ (e = 1 ∧ (all.drop k).any (hitG own h) = false))
  | 0, k, _, h => by omega
  | n + 1, k, g1, g2 => by
    rw [l11_1]
    by_cases hk : k < all.length
    · have e1 : decide (((k : Nat) : Int) < (((List.length all) : Nat) : Int)) = true := decide_eq_true (by omega)
      have e2 : decide ((0 : Int) ≤ ((k : Nat) : Int)) = true := decide_eq_true (by omega)
      have e7 : IntKind.wrap .i64 (((k : Nat) : Int) + (1)) = ((k + 1 : Nat) : Int) := by rw [wrap_id (by omega) (by omega)]; rfl
      have hq := h2 _ (getD_mem all k ([] : LB) hk)
      have go := inh1_loop m all hs own s25 s26 h h1 h2 h3 h4 n (k + 1) (by omega) (by omega)
      rw [drop_getD all k ([] : LB) hk]
      simp only [show Int.toNat ((k : Nat) : Int) = k from rfl, e1, e2, e7, ↓reduceIte]
      generalize all.getD k ([] : LB) = o at *
      have e3 : decide (List.length o < 4611686018427387904) = true := decide_eq_true (by omega)
      have e4 : decide (List.length o ≤ 1000000 ∧ List.length h.1 ≤ 9223372036854775807) = true := decide_eq_true ⟨hq, h4.1⟩
      have e5 : equPre o own h.2.2 = true := decide_eq_true ⟨hq, h3, h4.2.2⟩
      have hc : (o :: all.drop (k + 1)).any (hitG own h) = ((!(o == own) && (allG o h.1 && equG o own h.2.2)) || (all.drop (k + 1)).any (hitG own h)) := rfl
      rw [hc]
      simp only [e3, e4, e5, ↓reduceIte]
      cases c1 : (o == own) with
      | true => simp only [Bool.not_true, Bool.false_and, Bool.false_or, ↓reduceIte]; exact go
      | false =>
        cases c2 : allG o h.1 with
        | false => simp only [Bool.false_and, Bool.and_false, Bool.false_or, ↓reduceIte, Bool.false_eq_true]; exact go
        | true =>
          cases c3 : equG o own h.2.2 with
          | false => simp only [Bool.and_false, Bool.false_or, ↓reduceIte, Bool.false_eq_true]; exact go
          | true =>
            simp only [Bool.not_false, Bool.and_self, Bool.true_or, ↓reduceIte, Bool.false_eq_true]
            exact ⟨0, _, rfl, .inl ⟨rfl, by first | rfl | trivial⟩⟩
    · have e1 : decide (((k : Nat) : Int) < (((List.length all) : Nat) : Int)) = false := decide_eq_false (by omega)
      rw [e1, if_neg (by simp), List.drop_eq_nil_of_le (by omega)]
      exact ⟨1, _, rfl, .inr ⟨rfl, by first | rfl | trivial⟩⟩
theorem inh0_loop (m : Nat) (all : List LB) (hs : HS) (own : LB) (hm : all.length ≤ m) (h1 : all.length ≤ 1000000) (h2 : ∀ x ∈ all, x.length ≤ 1000000) (h3 : own.length ≤ 1000000) (h5 : hs.length ≤ 1000000) (h4 : ∀ h ∈ hs, h.1.length ≤ 9223372036854775807 ∧ h.2.1.length ≤ 9223372036854775807 ∧ h.2.2.length ≤ 9223372036854775807) : ∀ (n k : Nat), k ≤ hs.length → hs.length - k < n → ∃ e j, l11_0 m n all hs own (hs.length : Nat) (k : Nat) = some (e, j) ∧ ((e = 0 ∧ (hs.drop k).any (inhBy all own) = true) ∨ (e = 1 ∧ (hs.drop k).any (inhBy all own) = false))
  | 0, k, _, h => by omega
  | n + 1, k, g1, g2 => by
    rw [l11_0]
    by_cases hk : k < hs.length
    · have e1 : decide (((k : Nat) : Int) < (((List.length hs) : Nat) : Int)) = true := decide_eq_true (by omega)
      have e2 : decide ((0 : Int) ≤ ((k : Nat) : Int)) = true := decide_eq_true (by omega)
      have e7 : IntKind.wrap .i64 (((k : Nat) : Int) + (1)) = ((k + 1 : Nat) : Int) := by rw [wrap_id (by omega) (by omega)]; rfl
      have hq := h4 _ (getD_mem hs k (([] : List MT), (([] : List MT), ([] : Q7))) hk)
      have go := inh0_loop m all hs own hm h1 h2 h3 h5 h4 n (k + 1) (by omega) (by omega)
      rw [drop_getD hs k (([] : List MT), (([] : List MT), ([] : Q7))) hk]
      simp only [show Int.toNat ((k : Nat) : Int) = k from rfl, e1, e2, e7, ↓reduceIte]
      generalize hs.getD k (([] : List MT), (([] : List MT), ([] : Q7))) = q at *
      have e3 : decide (List.length own ≤ 1000000 ∧ List.length q.2.1 ≤ 9223372036854775807) = true := decide_eq_true ⟨h3, hq.2.1⟩
      have hc : (q :: hs.drop (k + 1)).any (inhBy all own) = ((allG own q.2.1 && all.any (hitG own q)) || (hs.drop (k + 1)).any (inhBy all own)) := rfl
      rw [hc]
      simp only [e3, ↓reduceIte]
      cases c1 : allG own q.2.1 with
      | false => simp only [Bool.false_and, Bool.false_or, ↓reduceIte, Bool.false_eq_true]; exact go
      | true =>
        obtain ⟨e, j, hr, hd⟩ := inh1_loop m all hs own (hs.length : Nat) (k : Nat) q h1 h2 h3 hq (m + 24) 0 (by omega) (by omega)
        rw [Int.natCast_zero, List.drop_zero] at *
        simp only [l11_1R, hr, Option.isSome_some, Option.getD_some, Bool.true_and, ↓reduceIte]
        rcases hd with ⟨rfl, hd⟩ | ⟨rfl, hd⟩
        · have z0 : ((0 : Nat) == 0) = true := rfl
          rw [hd]
          simp only [z0, Bool.true_or, ↓reduceIte]
          exact ⟨0, _, rfl, .inl ⟨rfl, by first | rfl | trivial⟩⟩
        · have z0 : ((1 : Nat) == 0) = false := rfl
          have z1 : ((1 : Nat) == 1) = true := rfl
          rw [hd]
          simp only [z0, z1, Bool.false_or, ↓reduceIte, Bool.false_eq_true]
          exact go
    · have e1 : decide (((k : Nat) : Int) < (((List.length hs) : Nat) : Int)) = false := decide_eq_false (by omega)
      rw [e1, if_neg (by simp), List.drop_eq_nil_of_le (by omega)]
      exact ⟨1, _, rfl, .inr ⟨rfl, by first | rfl | trivial⟩⟩
theorem inh11 (all : List LB) (i : Int) (hs : HS) (h : inhPre all hs = true) : ∃ m, p11 m all i hs = some (inhG all i hs) := by
  have ⟨h1, h2, h3, h4⟩ := of_decide_eq_true h
  refine ⟨all.length + hs.length, ?_⟩
  unfold p11 inhG
  by_cases c1 : i < 0
  · rw [if_pos (decide_eq_true c1), if_pos c1]
  · rw [if_neg (by simpa using c1), if_neg c1]
    by_cases c2 : i ≥ ((all.length : Nat) : Int)
    · rw [if_pos (decide_eq_true c2), if_pos c2]
    · have e1 : decide (0 ≤ i) = true := decide_eq_true (by omega)
      have e2 : decide (i < (((List.length all) : Nat) : Int)) = true := decide_eq_true (by omega)
      rw [if_neg (by simpa using c2), if_neg c2, if_pos e1, if_pos e2]
      have hown := h2 _ (getD_mem all i.toNat ([] : LB) (by omega))
      obtain ⟨e, j, hr, hc⟩ := inh0_loop (all.length + hs.length) all hs (all.getD i.toNat ([] : LB)) (by omega) h1 h2 hown h3 h4 (all.length + hs.length + 24) 0 (by omega) (by omega)
      simp only [Int.natCast_zero, List.drop_zero] at hr hc
      simp only [l11_0R, hr, Option.isSome_some, Option.getD_some, ↓reduceIte]
      rcases hc with ⟨rfl, hc⟩ | ⟨rfl, hc⟩ <;> rw [hc] <;> rfl
def s11 : List AV → Boxes → M (AV × Boxes) := normS [.val (.sl (.sl (.pair .str .str))), .val (.int .i64), .val (.sl (.pair (.sl (.pair .str (.pair .str (.int .i64)))) (.pair (.sl (.pair .str (.pair .str (.int .i64)))) (.sl .str))))] [] fun xs B => match xs, B with
  | [(.d (.sl (.sl (.pair .str .str)) c1)), (.d (.int .i64 c2)), (.d (.sl (.pair (.sl (.pair .str (.pair .str (.int .i64)))) (.pair (.sl (.pair .str (.pair .str (.int .i64)))) (.sl .str))) c3))], [] => .chk (inhPre c1 c3) (.ret ((.d (.bool (inhG c1 c2 c3))), []))
  | _, _ => .fail
theorem s11_at : CallAt Tryd.prog 11 s11 := by
  refine CallAt.norm (CallAt.weakE (g := fun n => evCall F S19 n 11) (fun n => evCall_atH mixed kinds hds S19 S19_ok n 11) fun xs B r' B' hr => ?_) _ _
  split at hr
  · rename_i c1 c2 c3
    obtain ⟨hp, hr⟩ := (M.run_chk _ _ _).1 hr
    simp only [M.run, Option.some.injEq, Prod.mk.injEq] at hr
    obtain ⟨rfl, rfl⟩ := hr
    obtain ⟨m, hm⟩ := inh11 c1 c2 c3 hp
    obtain ⟨r, B1, h1, h2, h3, h4⟩ := p11_ok m c1 c2 c3 _ hm
    exact ⟨m + 25, r, B1, h1, by simp, h2, h3, h4⟩
  · simp [M.run] at hr
noncomputable def S20 : FuncId → Option (List AV → Boxes → M (AV × Boxes)) := fun f => if f = 11 then some s11 else S19 f
theorem S20_ok : ∀ f s, S20 f = some s → CallAt Tryd.prog f s := by
  intro f s h
  unfold S20 at h
  split at h
  · rename_i e; subst e; cases h; exact s11_at
  · exact S19_ok f s h

end Go.Proofs.YtghkbjflejgieaaDoor.Dec
namespace Go.Proofs.YtghkbjflejgieaaDoor.Dec
open Go.Ev
set_option linter.unusedVariables false
set_option linter.unusedSimpArgs false
set_option maxRecDepth 100000
set_option maxHeartbeats 20000000
noncomputable def fn13 : AFn := (F 13).getD ⟨0, [], .bad, false, false, noHd⟩
noncomputable def body13 : AC := fn13.body
def l13_0 (m : Nat) : Nat → Q3 → Int → Q2 → Q0 → Int → Int → Q3 → Option (Nat × Int × (Q3))
  | 0, _, _, _, _, _, _, _ => none
  | n + 1, x0, x1, x2, x3, s13, s14, b0 => if decide (s14 < s13) = true then
      if decide (0 ≤ s14) = true then
      if decide (s14 < (((List.length x0) : Nat) : Int)) = true then
      if silPre (List.getD x0 (Int.toNat s14) ([] : Q5)) x2 = true then
      if (silG (List.getD x0 (Int.toNat s14) ([] : Q5)) x1 x2) = true then
        l13_0 m n x0 x1 x2 x3 s13 ((IntKind.wrap .i64 (s14 + (1)))) b0
      else
        if inhPre x0 x3 = true then
        if (inhG x0 s14 x3) = true then
          l13_0 m n x0 x1 x2 x3 s13 ((IntKind.wrap .i64 (s14 + (1)))) b0
        else
          if decide ((List.length (List.getD x0 (Int.toNat s14) ([] : Q5)) * 32) ≤ 70368744177664) = true then
          if decide ((((List.length b0) + 1) * 24) ≤ 70368744177664) = true then
          l13_0 m n x0 x1 x2 x3 s13 ((IntKind.wrap .i64 (s14 + (1)))) ((b0 ++ [(List.getD x0 (Int.toNat s14) ([] : Q5))]))
          else none
          else none
        else none
      else none
      else none
      else none
    else
      some (0, s14, b0)
def l13_0D : Nat × Int × (Q3) := (0, 0, [])
@[reducible] def l13_0R (m n : Nat) (x0 : Q3) (x1 : Int) (x2 : Q2) (x3 : Q0) (s13 : Int) (s14 : Int) (b0 : Q3) : Nat × Int × (Q3) := Option.getD (l13_0 m n x0 x1 x2 x3 s13 s14 b0) l13_0D
def l13_0H (x0 : Q3) (x1 : Int) (x2 : Q2) (x3 : Q0) (s13 : Int) (s14 : Int) (b0 : Q3) : Env := ((.d (.sl (.sl (.pair .str .str)) x0)) :: (.d (.int .i64 x1)) :: (.d (.sl (.pair (.sl (.pair .str (.pair .str (.int .i64)))) (.pair (.int .i64) (.int .i64))) x2)) :: (.d (.sl (.pair (.sl (.pair .str (.pair .str (.int .i64)))) (.pair (.sl (.pair .str (.pair .str (.int .i64)))) (.sl .str))) x3)) :: .top :: .top :: .top :: .top :: .top :: (.sr 0 0 (List.length b0) 1 none) :: .top :: .top :: (.d (.sl (.sl (.pair .str .str)) x0)) :: (.d (.int .i64 s13)) :: (.d (.int .i64 s14)) :: tp23 [])
def l13_0B (x0 : Q3) (x1 : Int) (x2 : Q2) (x3 : Q0) (s13 : Int) (s14 : Int) (b0 : Q3) : Boxes := [(.arr (.sl (.pair .str .str)) b0 true)]
def l13_0E (x0 : Q3) (x1 : Int) (x2 : Q2) (x3 : Q0) (s13 : Int) (s14 : Int) (b0 : Q3) : Nat → AEx × Env × Boxes
  | _ => (.exit 0, ((.d (.sl (.sl (.pair .str .str)) x0)) :: (.d (.int .i64 x1)) :: (.d (.sl (.pair (.sl (.pair .str (.pair .str (.int .i64)))) (.pair (.int .i64) (.int .i64))) x2)) :: (.d (.sl (.pair (.sl (.pair .str (.pair .str (.int .i64)))) (.pair (.sl (.pair .str (.pair .str (.int .i64)))) (.sl .str))) x3)) :: .top :: .top :: .top :: .top :: .top :: (.sr 0 0 (List.length b0) 1 none) :: .top :: .top :: (.d (.sl (.sl (.pair .str .str)) x0)) :: (.d (.int .i64 s13)) :: (.d (.int .i64 s14)) :: (.d (.bool (decide (s14 < s13)))) :: tp22 []), [(.arr (.sl (.pair .str .str)) b0 true)])
noncomputable def lbl13_0 : AC := loopBody 29199 body13
@[reducible] noncomputable def cb13 (m : Nat) := (evC byref (evCall F S20 (m + 24)) (m + 24) 0 (hds 13) lbl13_0)


theorem l13_0_step (m n : Nat) (ih : ∀ (x0 : Q3) (x1 : Int) (x2 : Q2) (x3 : Q0) (s13 : Int) (s14 : Int) (b0 : Q3) (q : Nat × Int × (Q3)), l13_0 m n x0 x1 x2 x3 s13 s14 b0 = some q → (turns (hds 13 29199) 0 29199 (cb13 m) n (l13_0H x0 x1 x2 x3 s13 s14 b0) (l13_0B x0 x1 x2 x3 s13 s14 b0)).run = some (l13_0E (x0) (x1) (x2) (x3) (s13) (q.2.1) (q.2.2) q.1)) (x0 : Q3) (x1 : Int) (x2 : Q2) (x3 : Q0) (s13 : Int) (s14 : Int) (b0 : Q3) (q : Nat × Int × (Q3)) (h : l13_0 m (n + 1) x0 x1 x2 x3 s13 s14 b0 = some q) : (turns (hds 13 29199) 0 29199 (cb13 m) (n + 1) (l13_0H x0 x1 x2 x3 s13 s14 b0) (l13_0B x0 x1 x2 x3 s13 s14 b0)).run = some (l13_0E (x0) (x1) (x2) (x3) (s13) (q.2.1) (q.2.2) q.1) := by
  rw [l13_0] at h
  refine ite_cases h (fun c0 h => ?_) (fun c0 h => ?_)
  · skip
    obtain ⟨c1, h⟩ := iY h
    obtain ⟨c2, h⟩ := iY h
    obtain ⟨c3, h⟩ := iY h
    refine ite_cases h (fun c4 h => ?_) (fun c4 h => ?_)
    · skip
      have ih := ih _ _ _ _ _ _ _ q h
      refine turns_step ?_ ih
      exact M.run_of_path _ [tT, tT, tT, tT, fF, fF, fF, fF, fF, fF, fF] _ _ (by kernel_rfl) (all_t c0 (all_t c1 (all_t c2 (all_t c3 (all_nt c4 (all_nt c4 (all_nt c4 (all_nt c4 (all_nt c4 (all_nt c4 (all_f Bool.false_ne_true all_nil)))))))))))
    · skip
      obtain ⟨c8, h⟩ := iY h
      refine ite_cases h (fun c11 h => ?_) (fun c11 h => ?_)
      · skip
        have ih := ih _ _ _ _ _ _ _ q h
        refine turns_step ?_ ih
        exact M.run_of_path _ [tT, tT, tT, tT, tT, tT, tT, tT, tT, tT, tT, fF] _ _ (by kernel_rfl) (all_t c0 (all_t c1 (all_t c2 (all_t c3 (all_nf c4 (all_nf c4 (all_nf c4 (all_nf c4 (all_t c8 (all_nf c4 (all_nf c4 (all_nt c11 all_nil))))))))))))
      · skip
        obtain ⟨c12, h⟩ := iY h
        obtain ⟨c14, h⟩ := iY h
        have ih := ih _ _ _ _ _ _ _ q h
        have ht : (turn (hds 13 29199) 0 29199 (cb13 m) (l13_0H x0 x1 x2 x3 s13 s14 b0) (l13_0B x0 x1 x2 x3 s13 s14 b0)).run = some (.normal, ((.d (.sl (.sl (.pair .str .str)) x0)) :: (.d (.int .i64 x1)) :: (.d (.sl (.pair (.sl (.pair .str (.pair .str (.int .i64)))) (.pair (.int .i64) (.int .i64))) x2)) :: (.d (.sl (.pair (.sl (.pair .str (.pair .str (.int .i64)))) (.pair (.sl (.pair .str (.pair .str (.int .i64)))) (.sl .str))) x3)) :: .top :: .top :: .top :: .top :: .top :: (.sr 0 0 ((List.length b0) + 1) 1 none) :: .top :: .top :: (.d (.sl (.sl (.pair .str .str)) x0)) :: (.d (.int .i64 s13)) :: (.d (.int .i64 (IntKind.wrap .i64 (s14 + (1))))) :: tp23 []), [(.arr (.sl (.pair .str .str)) (b0 ++ [(List.getD x0 (Int.toNat s14) ([] : Q5))]) true)]) := M.run_of_path _ [tT, tT, tT, tT, tT, tT, tT, tT, tT, tT, tT, tT, tT, tT, tT, tT] _ _ (by kernel_rfl) (all_t c0 (all_t c1 (all_t c2 (all_t c3 (all_nf c4 (all_nf c4 (all_nf c4 (all_nf c4 (all_t c8 (all_nf c4 (all_nf c4 (all_nf c11 (all_t c12 (all_t rfl (all_t c14 (all_t (show decide ((List.length b0) = (List.length b0)) = true from decide_eq_true rfl) all_nil))))))))))))))))
        refine turns_step ht (turns_eq ?_ ?_ ih)
        · unfold l13_0H
          first | (simp; done) | (simp [Nat.add_assoc]; done) | (simp; omega)
        · unfold l13_0B
          simp
  · skip
    cases h
    refine turns_last (by simp) ?_
    exact M.run_of_path _ [fF] _ _ (by kernel_rfl) (all_f c0 all_nil)
theorem l13_0_ok (m : Nat) : ∀ (n : Nat) (x0 : Q3) (x1 : Int) (x2 : Q2) (x3 : Q0) (s13 : Int) (s14 : Int) (b0 : Q3) (q : Nat × Int × (Q3)), l13_0 m n x0 x1 x2 x3 s13 s14 b0 = some q → (turns (hds 13 29199) 0 29199 (cb13 m) n (l13_0H x0 x1 x2 x3 s13 s14 b0) (l13_0B x0 x1 x2 x3 s13 s14 b0)).run = some (l13_0E (x0) (x1) (x2) (x3) (s13) (q.2.1) (q.2.2) q.1)
  | 0, x0, x1, x2, x3, s13, s14, b0, q, h => by cases h
  | n + 1, x0, x1, x2, x3, s13, s14, b0, q, h => l13_0_step m n (l13_0_ok m n) x0 x1 x2 x3 s13 s14 b0 q h

def p13 (m : Nat) (x0 : Q3) (x1 : Int) (x2 : Q2) (x3 : Q0) : Option ((Q3)) :=
  if (Option.isSome (l13_0 m (m + 24) x0 x1 x2 x3 ((((List.length x0) : Nat) : Int)) 0 (([] : Q3)))) = true then
  some ((List.take (List.length (l13_0R m (m + 24) x0 x1 x2 x3 ((((List.length x0) : Nat) : Int)) 0 (([] : Q3))).2.2) (List.drop 0 (l13_0R m (m + 24) x0 x1 x2 x3 ((((List.length x0) : Nat) : Int)) 0 (([] : Q3))).2.2)))
  else none
theorem p13_ok (m : Nat) (x0 : Q3) (x1 : Int) (x2 : Q2) (x3 : Q0) (q : (Q3)) (h : p13 m x0 x1 x2 x3 = some q) : ∃ r B1, (evCall F S20 (m + 25) 13 [(.d (.sl (.sl (.pair .str .str)) x0)), (.d (.int .i64 x1)), (.d (.sl (.pair (.sl (.pair .str (.pair .str (.int .i64)))) (.pair (.int .i64) (.int .i64))) x2)), (.d (.sl (.pair (.sl (.pair .str (.pair .str (.int .i64)))) (.pair (.sl (.pair .str (.pair .str (.int .i64)))) (.sl .str))) x3))] []).run = some (r, B1) ∧ 0 ≤ B1.length ∧ wkR B1 [] r (.d (.sl (.sl (.pair .str .str)) q)) ∧ wkBs B1 [] 0 [] := by
  unfold p13 at h
  obtain ⟨c0, h⟩ := iY h
  cases h
  refine ⟨(.d (.sl (.sl (.pair .str .str)) (List.take (List.length (l13_0R m (m + 24) x0 x1 x2 x3 ((((List.length x0) : Nat) : Int)) 0 (([] : Q3))).2.2) (List.drop 0 (l13_0R m (m + 24) x0 x1 x2 x3 ((((List.length x0) : Nat) : Int)) 0 (([] : Q3))).2.2)))), [], runT_ok (LS := (fun k => if k = 29199 then some (l13_0E x0 x1 x2 x3 (((((List.length x0) : Nat) : Int))) ((l13_0R m (m + 24) x0 x1 x2 x3 ((((List.length x0) : Nat) : Int)) 0 (([] : Q3))).2.1) ((l13_0R m (m + 24) x0 x1 x2 x3 ((((List.length x0) : Nat) : Int)) 0 (([] : Q3))).2.2) 0) else none)) (fn := fn13) (vis := [(29199, l13_0H x0 x1 x2 x3 ((((List.length x0) : Nat) : Int)) 0 (([] : Q3)), l13_0B x0 x1 x2 x3 ((((List.length x0) : Nat) : Int)) 0 (([] : Q3)))]) (by kernel_rfl) rfl (by kernel_rfl) (M.run_of_path _ [tT] _ _ (by kernel_rfl) (all_t (show decide ((0 + (List.length (l13_0R m (m + 24) x0 x1 x2 x3 ((((List.length x0) : Nat) : Int)) 0 (([] : Q3))).2.2)) ≤ (List.length (l13_0R m (m + 24) x0 x1 x2 x3 ((((List.length x0) : Nat) : Int)) 0 (([] : Q3))).2.2)) = true from decide_eq_true (Nat.le_of_eq (Nat.zero_add _))) all_nil)) ?_, by simp, (wkR.one (wkV.one (wk1.eq rfl))), trivial⟩
  intro p hp p2 hq
  rcases List.mem_cons.1 hp with rfl | hp
  · skip
    have h3 := l13_0_ok m (m + 24) x0 x1 x2 x3 ((((List.length x0) : Nat) : Int)) 0 (([] : Q3)) _ (some_getD (d := l13_0D) c0)
    exact Eq.trans (Eq.mp (by kernel_rfl) h3) hq
  cases hp

def quietG (all : List LB) (t : Int) (ss : SS) (hs : HS) (x : LB) : Bool := !silG x t ss && !hs.any (inhBy all x)
def heardG (all : List LB) (t : Int) (ss : SS) (hs : HS) : List LB := all.filter (quietG all t ss hs)
def heardPre (all : List LB) (ss : SS) (hs : HS) : Bool := decide (ss.length ≤ 1000000 ∧ ∀ s ∈ ss, s.1.length ≤ 9223372036854775807) && inhPre all hs
theorem heard_loop (m : Nat) (all : List LB) (t : Int) (ss : SS) (hs : HS) (h1 : ss.length ≤ 1000000) (h2 : ∀ s ∈ ss, s.1.length ≤ 9223372036854775807) (h3 : inhPre all hs = true) : ∀ (n k : Nat) (b : List LB), k ≤ all.length → all.length - k < n → b.length ≤ k → ∃ j, l13_0 m n all t ss hs (all.length : Nat) (k : Nat) b = some (0, j, b ++ (all.drop k).filter (quietG all t ss hs))
  | 0, k, b, _, h, _ => by omega
  | n + 1, k, b, g1, g2, g3 => by
    rw [l13_0]
    have ⟨a1, a2, _, _⟩ := of_decide_eq_true h3
    by_cases hk : k < all.length
    · have e1 : decide (((k : Nat) : Int) < (((List.length all) : Nat) : Int)) = true := decide_eq_true (by omega)
      have e2 : decide ((0 : Int) ≤ ((k : Nat) : Int)) = true := decide_eq_true (by omega)
      have e7 : IntKind.wrap .i64 (((k : Nat) : Int) + (1)) = ((k + 1 : Nat) : Int) := by rw [wrap_id (by omega) (by omega)]; rfl
      have hq := a2 _ (getD_mem all k ([] : LB) hk)
      have hi : inhG all ((k : Nat) : Int) hs = hs.any (inhBy all (all.getD k [])) := by
        unfold inhG
        rw [if_neg (by omega), if_neg (by omega)]; rfl
      have go := fun b' => heard_loop m all t ss hs h1 h2 h3 n (k + 1) b' (by omega) (by omega)
      rw [drop_getD all k ([] : LB) hk]
      simp only [show Int.toNat ((k : Nat) : Int) = k from rfl, e1, e2, e7, hi, h3, ↓reduceIte]
      generalize all.getD k ([] : LB) = o at *
      have e3 : silPre o ss = true := decide_eq_true ⟨hq, h1, h2⟩
      have e4 : decide ((List.length o * 32) ≤ 70368744177664) = true := decide_eq_true (by omega)
      have e5 : decide ((((List.length b) + 1) * 24) ≤ 70368744177664) = true := decide_eq_true (by omega)
      rw [List.filter_cons]
      have hqu : quietG all t ss hs o = (!silG o t ss && !hs.any (inhBy all o)) := rfl
      rw [hqu]
      simp only [e3, e4, e5, ↓reduceIte]
      cases c1 : silG o t ss with
      | true => simp only [Bool.not_true, Bool.false_and, ↓reduceIte, Bool.false_eq_true]; exact go b (by omega)
      | false =>
        cases c2 : hs.any (inhBy all o) with
        | true => simp only [Bool.not_true, Bool.and_false, ↓reduceIte, Bool.false_eq_true]; exact go b (by omega)
        | false =>
          simp only [Bool.not_false, Bool.and_self, ↓reduceIte, Bool.false_eq_true]
          obtain ⟨j, hj⟩ := go (b ++ [o]) (by simp; omega)
          exact ⟨j, by rw [hj]; simp⟩
    · have e1 : decide (((k : Nat) : Int) < (((List.length all) : Nat) : Int)) = false := decide_eq_false (by omega)
      rw [e1, if_neg (by simp), List.drop_eq_nil_of_le (by omega)]
      exact ⟨((k : Nat) : Int), by simp⟩
theorem heard13 (all : List LB) (t : Int) (ss : SS) (hs : HS) (h : heardPre all ss hs = true) : ∃ m, p13 m all t ss hs = some (heardG all t ss hs) := by
  unfold heardPre at h
  rw [Bool.and_eq_true] at h
  have ⟨h1, h2⟩ := of_decide_eq_true h.1
  refine ⟨all.length, ?_⟩
  obtain ⟨j, hr⟩ := heard_loop all.length all t ss hs h1 h2 h.2 (all.length + 24) 0 [] (by omega) (by omega) (by simp)
  simp only [Int.natCast_zero, List.drop_zero, List.nil_append] at hr
  unfold p13
  simp only [l13_0R, hr, Option.isSome_some, Option.getD_some, ↓reduceIte]
  rw [List.drop_zero, List.take_length]
  rfl
def s13 : List AV → Boxes → M (AV × Boxes) := normS [.val (.sl (.sl (.pair .str .str))), .val (.int .i64), .val (.sl (.pair (.sl (.pair .str (.pair .str (.int .i64)))) (.pair (.int .i64) (.int .i64)))), .val (.sl (.pair (.sl (.pair .str (.pair .str (.int .i64)))) (.pair (.sl (.pair .str (.pair .str (.int .i64)))) (.sl .str))))] [] fun xs B => match xs, B with
  | [(.d (.sl (.sl (.pair .str .str)) c1)), (.d (.int .i64 c2)), (.d (.sl (.pair (.sl (.pair .str (.pair .str (.int .i64)))) (.pair (.int .i64) (.int .i64))) c3)), (.d (.sl (.pair (.sl (.pair .str (.pair .str (.int .i64)))) (.pair (.sl (.pair .str (.pair .str (.int .i64)))) (.sl .str))) c4))], [] => .chk (heardPre c1 c3 c4) (.ret ((.d (.sl (.sl (.pair .str .str)) (heardG c1 c2 c3 c4))), []))
  | _, _ => .fail
theorem s13_at : CallAt Tryd.prog 13 s13 := by
  refine CallAt.norm (CallAt.weakE (g := fun n => evCall F S20 n 13) (fun n => evCall_atH mixed kinds hds S20 S20_ok n 13) fun xs B r' B' hr => ?_) _ _
  split at hr
  · rename_i c1 c2 c3 c4
    obtain ⟨hp, hr⟩ := (M.run_chk _ _ _).1 hr
    simp only [M.run, Option.some.injEq, Prod.mk.injEq] at hr
    obtain ⟨rfl, rfl⟩ := hr
    obtain ⟨m, hm⟩ := heard13 c1 c2 c3 c4 hp
    obtain ⟨r, B1, h1, h2, h3, h4⟩ := p13_ok m c1 c2 c3 c4 _ hm
    exact ⟨m + 25, r, B1, h1, by simp, h2, h3, h4⟩
  · simp [M.run] at hr
noncomputable def S21 : FuncId → Option (List AV → Boxes → M (AV × Boxes)) := fun f => if f = 13 then some s13 else S20 f
theorem S21_ok : ∀ f s, S21 f = some s → CallAt Tryd.prog f s := by
  intro f s h
  unfold S21 at h
  split at h
  · rename_i e; subst e; cases h; exact s13_at
  · exact S20_ok f s h

end Go.Proofs.YtghkbjflejgieaaDoor.Dec
namespace Go.Proofs.YtghkbjflejgieaaDoor.Dec
open Go.Ev
set_option linter.unusedVariables false
set_option linter.unusedSimpArgs false
set_option maxRecDepth 100000
set_option maxHeartbeats 20000000
noncomputable def fn53 : AFn := (F 53).getD ⟨0, [], .bad, false, false, noHd⟩
noncomputable def body53 : AC := fn53.body
def l53_0 (m : Nat) : Nat → Q8 → Int → List Int → Option (Nat × Int × (List Int))
  | 0, _, _, _ => none
  | n + 1, x0, s4, b0 => if decide (s4 < (((List.length x0) : Nat) : Int)) = true then
      if decide (0 ≤ s4) = true then
      if (((UInt8.toNat (List.getD x0 (Int.toNat s4) 0) : Nat) : Int) == (34)) = true then
        if decide ((((List.length b0) + 1) * 1) ≤ 70368744177664) = true then
        if decide (((((List.length b0) + 1) + 1) * 1) ≤ 70368744177664) = true then
        if decide (((List.length b0) + 1) = (List.length (b0 ++ [(92)]))) = true then
        l53_0 m n x0 ((IntKind.wrap .i64 (s4 + (1)))) (((b0 ++ [(92)]) ++ [((UInt8.toNat (List.getD x0 (Int.toNat s4) 0) : Nat) : Int)]))
        else none
        else none
        else none
      else
        if (((UInt8.toNat (List.getD x0 (Int.toNat s4) 0) : Nat) : Int) == (92)) = true then
          if decide ((((List.length b0) + 1) * 1) ≤ 70368744177664) = true then
          if decide (((((List.length b0) + 1) + 1) * 1) ≤ 70368744177664) = true then
          if decide (((List.length b0) + 1) = (List.length (b0 ++ [(92)]))) = true then
          l53_0 m n x0 ((IntKind.wrap .i64 (s4 + (1)))) (((b0 ++ [(92)]) ++ [((UInt8.toNat (List.getD x0 (Int.toNat s4) 0) : Nat) : Int)]))
          else none
          else none
          else none
        else
          if decide ((((List.length b0) + 1) * 1) ≤ 70368744177664) = true then
          l53_0 m n x0 ((IntKind.wrap .i64 (s4 + (1)))) ((b0 ++ [((UInt8.toNat (List.getD x0 (Int.toNat s4) 0) : Nat) : Int)]))
          else none
      else none
    else
      some (0, s4, b0)
def l53_0D : Nat × Int × (List Int) := (0, 0, [])
@[reducible] def l53_0R (m n : Nat) (x0 : Q8) (s4 : Int) (b0 : List Int) : Nat × Int × (List Int) := Option.getD (l53_0 m n x0 s4 b0) l53_0D
def l53_0H (x0 : Q8) (s4 : Int) (b0 : List Int) : Env := ((.d (.str x0)) :: .top :: .top :: (.sr 0 0 (List.length b0) 1 none) :: (.d (.int .i64 s4)) :: tp30 [])
def l53_0B (x0 : Q8) (s4 : Int) (b0 : List Int) : Boxes := [(.arr (.int .u8) b0 true)]
def l53_0E (x0 : Q8) (s4 : Int) (b0 : List Int) : Nat → AEx × Env × Boxes
  | _ => (.exit 0, ((.d (.str x0)) :: .top :: .top :: (.sr 0 0 (List.length b0) 1 none) :: (.d (.int .i64 s4)) :: .top :: (.d (.int .i64 s4)) :: (.d (.str x0)) :: (.d (.int .i64 (((List.length x0) : Nat) : Int))) :: (.d (.bool (decide (s4 < (((List.length x0) : Nat) : Int))))) :: tp25 []), [(.arr (.int .u8) b0 true)])
noncomputable def lbl53_0 : AC := loopBody 25 body53
@[reducible] noncomputable def cb14 (m : Nat) := (evC byref (evCall F S21 (m + 24)) (m + 24) 0 (hds 53) lbl53_0)


theorem l53_0_step (m n : Nat) (ih : ∀ (x0 : Q8) (s4 : Int) (b0 : List Int) (q : Nat × Int × (List Int)), l53_0 m n x0 s4 b0 = some q → (turns (hds 53 25) 0 25 (cb14 m) n (l53_0H x0 s4 b0) (l53_0B x0 s4 b0)).run = some (l53_0E (x0) (q.2.1) (q.2.2) q.1)) (x0 : Q8) (s4 : Int) (b0 : List Int) (q : Nat × Int × (List Int)) (h : l53_0 m (n + 1) x0 s4 b0 = some q) : (turns (hds 53 25) 0 25 (cb14 m) (n + 1) (l53_0H x0 s4 b0) (l53_0B x0 s4 b0)).run = some (l53_0E (x0) (q.2.1) (q.2.2) q.1) := by
  rw [l53_0] at h
  refine ite_cases h (fun c0 h => ?_) (fun c0 h => ?_)
  · skip
    obtain ⟨c1, h⟩ := iY h
    refine ite_cases h (fun c3 h => ?_) (fun c3 h => ?_)
    · skip
      obtain ⟨c10, h⟩ := iY h
      obtain ⟨c15, h⟩ := iY h
      obtain ⟨c16, h⟩ := iY h
      have ih := ih _ _ _ q h
      have ht : (turn (hds 53 25) 0 25 (cb14 m) (l53_0H x0 s4 b0) (l53_0B x0 s4 b0)).run = some (.normal, ((.d (.str x0)) :: .top :: .top :: (.sr 0 0 (((List.length b0) + 1) + 1) 1 none) :: (.d (.int .i64 (IntKind.wrap .i64 (s4 + (1))))) :: tp30 []), [(.arr (.int .u8) ((b0 ++ [(92)]) ++ [((UInt8.toNat (List.getD x0 (Int.toNat s4) 0) : Nat) : Int)]) true)]) := M.run_of_path _ [tT, tT, tT, tT, tT, tT, tT, tT, tT, tT, tT, tT, tT, tT, tT, tT, tT] _ _ (by kernel_rfl) (all_t c0 (all_t c1 (all_t c0 (all_t c3 (all_t c3 (all_t c3 (all_t c3 (all_t c3 (all_t rfl (all_t rfl (all_t c10 (all_t (show decide ((List.length b0) = (List.length b0)) = true from decide_eq_true rfl) (all_t c1 (all_t c0 (all_t rfl (all_t c15 (all_t c16 all_nil)))))))))))))))))
      refine turns_step ht (turns_eq ?_ ?_ ih)
      · unfold l53_0H
        first | (simp; done) | (simp [Nat.add_assoc]; done) | (simp; omega)
      · unfold l53_0B
        simp
    · skip
      refine ite_cases h (fun c10 h => ?_) (fun c10 h => ?_)
      · skip
        obtain ⟨c12, h⟩ := iY h
        obtain ⟨c17, h⟩ := iY h
        obtain ⟨c18, h⟩ := iY h
        have ih := ih _ _ _ q h
        have ht : (turn (hds 53 25) 0 25 (cb14 m) (l53_0H x0 s4 b0) (l53_0B x0 s4 b0)).run = some (.normal, ((.d (.str x0)) :: .top :: .top :: (.sr 0 0 (((List.length b0) + 1) + 1) 1 none) :: (.d (.int .i64 (IntKind.wrap .i64 (s4 + (1))))) :: tp30 []), [(.arr (.int .u8) ((b0 ++ [(92)]) ++ [((UInt8.toNat (List.getD x0 (Int.toNat s4) 0) : Nat) : Int)]) true)]) := M.run_of_path _ [tT, tT, tT, fF, fF, fF, tT, tT, fF, fF, tT, tT, tT, tT, tT, tT, tT, tT, tT] _ _ (by kernel_rfl) (all_t c0 (all_t c1 (all_t c0 (all_f c3 (all_f c3 (all_f c3 (all_t c1 (all_t c0 (all_f c3 (all_f c3 (all_t c10 (all_t rfl (all_t c12 (all_t (show decide ((List.length b0) = (List.length b0)) = true from decide_eq_true rfl) (all_t c1 (all_t c0 (all_t rfl (all_t c17 (all_t c18 all_nil)))))))))))))))))))
        refine turns_step ht (turns_eq ?_ ?_ ih)
        · unfold l53_0H
          first | (simp; done) | (simp [Nat.add_assoc]; done) | (simp; omega)
        · unfold l53_0B
          simp
      · skip
        obtain ⟨c14, h⟩ := iY h
        have ih := ih _ _ _ q h
        have ht : (turn (hds 53 25) 0 25 (cb14 m) (l53_0H x0 s4 b0) (l53_0B x0 s4 b0)).run = some (.normal, ((.d (.str x0)) :: .top :: .top :: (.sr 0 0 ((List.length b0) + 1) 1 none) :: (.d (.int .i64 (IntKind.wrap .i64 (s4 + (1))))) :: tp30 []), [(.arr (.int .u8) (b0 ++ [((UInt8.toNat (List.getD x0 (Int.toNat s4) 0) : Nat) : Int)]) true)]) := M.run_of_path _ [tT, tT, tT, fF, fF, fF, tT, tT, fF, fF, fF, tT, tT, tT, tT, tT] _ _ (by kernel_rfl) (all_t c0 (all_t c1 (all_t c0 (all_f c3 (all_f c3 (all_f c3 (all_t c1 (all_t c0 (all_f c3 (all_f c3 (all_f c10 (all_t c1 (all_t c0 (all_t rfl (all_t c14 (all_t (show decide ((List.length b0) = (List.length b0)) = true from decide_eq_true rfl) all_nil))))))))))))))))
        refine turns_step ht (turns_eq ?_ ?_ ih)
        · unfold l53_0H
          first | (simp; done) | (simp [Nat.add_assoc]; done) | (simp; omega)
        · unfold l53_0B
          simp
  · skip
    cases h
    refine turns_last (by simp) ?_
    exact M.run_of_path _ [fF] _ _ (by kernel_rfl) (all_f c0 all_nil)
theorem l53_0_ok (m : Nat) : ∀ (n : Nat) (x0 : Q8) (s4 : Int) (b0 : List Int) (q : Nat × Int × (List Int)), l53_0 m n x0 s4 b0 = some q → (turns (hds 53 25) 0 25 (cb14 m) n (l53_0H x0 s4 b0) (l53_0B x0 s4 b0)).run = some (l53_0E (x0) (q.2.1) (q.2.2) q.1)
  | 0, x0, s4, b0, q, h => by cases h
  | n + 1, x0, s4, b0, q, h => l53_0_step m n (l53_0_ok m n) x0 s4 b0 q h

def p53 (m : Nat) (x0 : Q8) : Option ((Q8)) :=
  if (Option.isSome (l53_0 m (m + 24) x0 0 ([(34)]))) = true then
  if decide ((((List.length (l53_0R m (m + 24) x0 0 ([(34)])).2.2) + 1) * 1) ≤ 70368744177664) = true then
  if decide ((0 + ((List.length (l53_0R m (m + 24) x0 0 ([(34)])).2.2) + 1)) ≤ (List.length ((l53_0R m (m + 24) x0 0 ([(34)])).2.2 ++ [(34)]))) = true then
  some ((List.map (fun (n : Int) => UInt8.ofNat n.toNat) (List.take ((List.length (l53_0R m (m + 24) x0 0 ([(34)])).2.2) + 1) (List.drop 0 ((l53_0R m (m + 24) x0 0 ([(34)])).2.2 ++ [(34)])))))
  else none
  else none
  else none
theorem p53_ok (m : Nat) (x0 : Q8) (q : (Q8)) (h : p53 m x0 = some q) : ∃ r B1, (evCall F S21 (m + 25) 53 [(.d (.str x0))] []).run = some (r, B1) ∧ 0 ≤ B1.length ∧ wkR B1 [] r (.d (.str q)) ∧ wkBs B1 [] 0 [] := by
  unfold p53 at h
  obtain ⟨c0, h⟩ := iY h
  obtain ⟨c2, h⟩ := iY h
  obtain ⟨c4, h⟩ := iY h
  cases h
  refine ⟨(.d (.str (List.map (fun (n : Int) => UInt8.ofNat n.toNat) (List.take ((List.length (l53_0R m (m + 24) x0 0 ([(34)])).2.2) + 1) (List.drop 0 ((l53_0R m (m + 24) x0 0 ([(34)])).2.2 ++ [(34)])))))), [], runT_ok (LS := (fun k => if k = 25 then some (l53_0E x0 ((l53_0R m (m + 24) x0 0 ([(34)])).2.1) ((l53_0R m (m + 24) x0 0 ([(34)])).2.2) 0) else none)) (fn := fn53) (vis := [(25, l53_0H x0 0 ([(34)]), l53_0B x0 0 ([(34)]))]) (by kernel_rfl) rfl (by kernel_rfl) (M.run_of_path _ [tT, tT, tT, tT] _ _ (by kernel_rfl) (all_t rfl (all_t c2 (all_t (show decide ((List.length (l53_0R m (m + 24) x0 0 ([(34)])).2.2) = (List.length (l53_0R m (m + 24) x0 0 ([(34)])).2.2)) = true from decide_eq_true rfl) (all_t c4 all_nil))))) ?_, by simp, (wkR.one (wkV.one (wk1.eq rfl))), trivial⟩
  intro p hp p2 hq
  rcases List.mem_cons.1 hp with rfl | hp
  · skip
    have h3 := l53_0_ok m (m + 24) x0 0 ([(34)]) _ (some_getD (d := l53_0D) c0)
    exact Eq.trans (Eq.mp (by kernel_rfl) h3) hq
  cases hp

def escI (c : UInt8) : List Int := if UInt8.toNat c = 34 ∨ UInt8.toNat c = 92 then [92, ((UInt8.toNat c : Nat) : Int)] else [((UInt8.toNat c : Nat) : Int)]
def escB (c : UInt8) : Q8 := if UInt8.toNat c = 34 ∨ UInt8.toNat c = 92 then [92, c] else [c]
def quoteG (s : Q8) : Q8 := 34 :: (s.flatMap escB ++ [34])
theorem escB_le (c : UInt8) : (escB c).length ≤ 2 := by unfold escB; split <;> simp
theorem escI_le (c : UInt8) : (escI c).length ≤ 2 := by unfold escI; split <;> simp
theorem esc_map (c : UInt8) : (escI c).map (fun (n : Int) => UInt8.ofNat n.toNat) = escB c := by
  unfold escI escB
  split
  · rw [List.map_cons, List.map_cons, List.map_nil, Int.toNat_natCast, UInt8.ofNat_toNat]; rfl
  · rw [List.map_cons, List.map_nil, Int.toNat_natCast, UInt8.ofNat_toNat]
theorem escI_in (c : UInt8) : ∀ n ∈ escI c, 0 ≤ n ∧ n < 256 := by
  intro n hn
  have := UInt8.toNat_lt c
  unfold escI at hn
  split at hn
  · simp only [List.mem_cons, List.not_mem_nil, or_false] at hn
    omega
  · simp only [List.mem_cons, List.not_mem_nil, or_false] at hn
    omega
theorem flat_le {f : UInt8 → List Int} (hf : ∀ c, (f c).length ≤ 2) : ∀ (s : Q8), (s.flatMap f).length ≤ 2 * s.length
  | [] => Nat.le_refl _
  | c :: s => by rw [List.flatMap_cons, List.length_append, List.length_cons]; have := hf c; have := flat_le hf s; omega
theorem flatB_le {f : UInt8 → Q8} (hf : ∀ c, (f c).length ≤ 2) : ∀ (s : Q8), (s.flatMap f).length ≤ 2 * s.length
  | [] => Nat.le_refl _
  | c :: s => by rw [List.flatMap_cons, List.length_append, List.length_cons]; have := hf c; have := flatB_le hf s; omega
theorem quote_le (s : Q8) : (quoteG s).length ≤ 2 * s.length + 2 := by
  unfold quoteG
  rw [List.length_cons, List.length_append]
  have := flatB_le escB_le s
  simp only [List.length_cons, List.length_nil]
  omega
theorem flat_map (s : Q8) : (s.flatMap escI).map (fun (n : Int) => UInt8.ofNat n.toNat) = s.flatMap escB := by
  rw [List.map_flatMap]
  congr 1
  funext c
  exact esc_map c
theorem rquote_loop (m : Nat) (s : Q8) (hs : s.length ≤ 1000000) : ∀ (n k : Nat) (b : List Int), k ≤ s.length → s.length - k < n → b.length + 2 * (s.length - k) ≤ 3000000 → l53_0 m n s (k : Nat) b = some (0, ((s.length : Nat) : Int), b ++ (s.drop k).flatMap escI)
  | 0, k, _, _, h, _ => by omega
  | n + 1, k, b, h1, h2, h3 => by
    rw [l53_0]
    by_cases hk : k < s.length
    · have e1 : decide (((k : Nat) : Int) < (((List.length s) : Nat) : Int)) = true := decide_eq_true (by omega)
      have e2 : decide ((0 : Int) ≤ ((k : Nat) : Int)) = true := decide_eq_true (by omega)
      have e7 : IntKind.wrap .i64 (((k : Nat) : Int) + (1)) = ((k + 1 : Nat) : Int) := by rw [wrap_id (by omega) (by omega)]; rfl
      have go := fun b' (hb : b'.length ≤ b.length + 2) => rquote_loop m s hs n (k + 1) b' (by omega) (by omega) (by omega)
      rw [drop_getD s k 0 hk, List.flatMap_cons]
      simp only [show Int.toNat ((k : Nat) : Int) = k from rfl, e1, e2, e7, ↓reduceIte]
      generalize s.getD k 0 = c at *
      have a1 : decide (((List.length b) + 1) * 1 ≤ 70368744177664) = true := decide_eq_true (by omega)
      have a2 : decide ((((List.length b) + 1) + 1) * 1 ≤ 70368744177664) = true := decide_eq_true (by omega)
      have a3 : decide (((List.length b) + 1) = (List.length (b ++ [(92)]))) = true := decide_eq_true (by simp)
      have yes : (UInt8.toNat c = 34 ∨ UInt8.toNat c = 92) → l53_0 m n s ((k + 1 : Nat) : Int) ((b ++ [(92)]) ++ [((UInt8.toNat c : Nat) : Int)]) = some (0, ((s.length : Nat) : Int), b ++ (escI c ++ (s.drop (k + 1)).flatMap escI)) := by
        intro h
        rw [go _ (by simp)]
        unfold escI
        rw [if_pos h]
        simp
      have no : ¬ (UInt8.toNat c = 34 ∨ UInt8.toNat c = 92) → l53_0 m n s ((k + 1 : Nat) : Int) (b ++ [((UInt8.toNat c : Nat) : Int)]) = some (0, ((s.length : Nat) : Int), b ++ (escI c ++ (s.drop (k + 1)).flatMap escI)) := by
        intro h
        rw [go _ (by simp)]
        unfold escI
        rw [if_neg h]
        simp
      simp only [a1, a2, a3, ↓reduceIte]
      by_cases c1 : UInt8.toNat c = 34
      · rw [if_pos (by rw [c1]; rfl)]; exact yes (.inl c1)
      · rw [if_neg (by simp; omega)]
        by_cases c2 : UInt8.toNat c = 92
        · rw [if_pos (by rw [c2]; rfl)]; exact yes (.inr c2)
        · rw [if_neg (by simp; omega)]; exact no (by simp [c1, c2])
    · have e1 : decide (((k : Nat) : Int) < (((List.length s) : Nat) : Int)) = false := decide_eq_false (by omega)
      have e0 : k = s.length := by omega
      subst e0
      rw [e1, if_neg (by simp), List.drop_length]
      simp
theorem rquote53 (s : Q8) (h : decide (s.length ≤ 1000000) = true) : ∃ m, p53 m s = some (quoteG s) := by
  have h := of_decide_eq_true h
  refine ⟨s.length, ?_⟩
  have hr := rquote_loop s.length s h (s.length + 24) 0 [(34)] (by omega) (by omega) (by simp; omega)
  simp only [Int.natCast_zero, List.drop_zero] at hr
  have hl := flat_le escI_le s
  have hm := flat_map s
  unfold p53 quoteG
  simp only [l53_0R, hr, Option.isSome_some, Option.getD_some, ↓reduceIte]
  generalize s.flatMap escI = t at *
  have l1 : List.length ([(34)] ++ t : List Int) = t.length + 1 := by simp
  have l2 : List.length ([(34)] ++ t ++ [(34)] : List Int) = t.length + 2 := by simp
  rw [l1, l2, if_pos (decide_eq_true (by omega)), if_pos (decide_eq_true (by omega)), List.drop_zero, ← l2, List.take_length, List.map_append, List.map_append, hm]
  rfl
def s53 : List AV → Boxes → M (AV × Boxes) := normS [.val .str] [] fun xs B => match xs, B with
  | [(.d (.str c1))], [] => .chk (decide (List.length c1 ≤ 1000000)) (.ret ((.d (.str (quoteG c1))), []))
  | _, _ => .fail
theorem s53_at : CallAt Tryd.prog 53 s53 := by
  refine CallAt.norm (CallAt.weakE (g := fun n => evCall F S21 n 53) (fun n => evCall_atH mixed kinds hds S21 S21_ok n 53) fun xs B r' B' hr => ?_) _ _
  split at hr
  · rename_i c1
    obtain ⟨hp, hr⟩ := (M.run_chk _ _ _).1 hr
    simp only [M.run, Option.some.injEq, Prod.mk.injEq] at hr
    obtain ⟨rfl, rfl⟩ := hr
    obtain ⟨m, hm⟩ := rquote53 c1 hp
    obtain ⟨r, B1, h1, h2, h3, h4⟩ := p53_ok m c1 _ hm
    exact ⟨m + 25, r, B1, h1, by simp, h2, h3, h4⟩
  · simp [M.run] at hr
noncomputable def S22 : FuncId → Option (List AV → Boxes → M (AV × Boxes)) := fun f => if f = 53 then some s53 else S21 f
theorem S22_ok : ∀ f s, S22 f = some s → CallAt Tryd.prog f s := by
  intro f s h
  unfold S22 at h
  split at h
  · rename_i e; subst e; cases h; exact s53_at
  · exact S21_ok f s h

noncomputable def fn17 : AFn := (F 17).getD ⟨0, [], .bad, false, false, noHd⟩
noncomputable def body17 : AC := fn17.body
def l17_0 (m : Nat) : Nat → Q5 → Int → Int → Option (Nat × Int)
  | 0, _, _, _ => none
  | n + 1, x0, s9, s10 => if decide (s10 < s9) = true then
      if decide (0 ≤ s10) = true then
      if decide (s10 < (((List.length x0) : Nat) : Int)) = true then
      if decide (List.length (List.getD x0 (Int.toNat s10) (([] : Q8), ([] : Q8))).1 ≤ 9223372036854775807) = true then
      if (wordG (List.getD x0 (Int.toNat s10) (([] : Q8), ([] : Q8))).1) = true then
        if decide ((((List.length (List.getD x0 (Int.toNat s10) (([] : Q8), ([] : Q8))).2) : Nat) : Int) < 1) = true then
          some (1, s10)
        else
          if decide ((((List.length (List.getD x0 (Int.toNat s10) (([] : Q8), ([] : Q8))).2) : Nat) : Int) > 24) = true then
            some (2, s10)
          else
            if decide (s10 > 0) = true then
              if decide (0 ≤ (IntKind.wrap .i64 (s10 - (1)))) = true then
              if decide ((IntKind.wrap .i64 (s10 - (1))) < (((List.length x0) : Nat) : Int)) = true then
              if (Op.bytesLess (List.getD x0 (Int.toNat (IntKind.wrap .i64 (s10 - (1)))) (([] : Q8), ([] : Q8))).1 (List.getD x0 (Int.toNat s10) (([] : Q8), ([] : Q8))).1) = true then
                l17_0 m n x0 s9 ((IntKind.wrap .i64 (s10 + (1))))
              else
                some (3, s10)
              else none
              else none
            else
              l17_0 m n x0 s9 ((IntKind.wrap .i64 (s10 + (1))))
      else
        some (0, s10)
      else none
      else none
      else none
    else
      some (4, s10)
def l17_0D : Nat × Int := (0, 0)
@[reducible] def l17_0R (m n : Nat) (x0 : Q5) (s9 : Int) (s10 : Int) : Nat × Int := Option.getD (l17_0 m n x0 s9 s10) l17_0D
def l17_0H (x0 : Q5) (s9 : Int) (s10 : Int) : Env := ((.d (.sl (.pair .str .str) x0)) :: .top :: .top :: .top :: .top :: .top :: .top :: .top :: (.d (.sl (.pair .str .str) x0)) :: (.d (.int .i64 s9)) :: (.d (.int .i64 s10)) :: tp36 [])
def l17_0B (x0 : Q5) (s9 : Int) (s10 : Int) : Boxes := []
def l17_0E (x0 : Q5) (s9 : Int) (s10 : Int) : Nat → AEx × Env × Boxes
  | 0 => (.ret, [(.d (.sl (.pair .str .str) x0)), .top, (.d (.bool false)), (.d (.int .i64 s10)), (.ptr 0 0), .top, .top, .top, (.d (.sl (.pair .str .str) x0)), (.d (.int .i64 s9)), (.d (.int .i64 s10)), (.d (.bool (decide (s10 < s9)))), (.d (.int .i64 s10)), (.cptr [(.str (List.getD x0 (Int.toNat s10) (([] : Q8), ([] : Q8))).1), (.str (List.getD x0 (Int.toNat s10) (([] : Q8), ([] : Q8))).2)] 0), (.agg [(.d (.str (List.getD x0 (Int.toNat s10) (([] : Q8), ([] : Q8))).1)), (.d (.str (List.getD x0 (Int.toNat s10) (([] : Q8), ([] : Q8))).2))]), (.ptr 0 0), (.d (.str (List.getD x0 (Int.toNat s10) (([] : Q8), ([] : Q8))).1)), (.d (.bool (wordG (List.getD x0 (Int.toNat s10) (([] : Q8), ([] : Q8))).1))), (.d (.bool (!(wordG (List.getD x0 (Int.toNat s10) (([] : Q8), ([] : Q8))).1)))), (.d (.bool (!(wordG (List.getD x0 (Int.toNat s10) (([] : Q8), ([] : Q8))).1)))), (.tup []), (.tup []), (.tup []), (.tup []), (.d (.bool true)), (.d (.bool true)), (.tup []), (.tup []), (.tup []), (.tup []), (.d (.bool true)), (.d (.bool true)), (.tup []), (.tup []), (.tup []), (.tup []), (.tup []), (.tup []), (.tup []), (.tup []), (.tup []), (.tup []), (.tup []), (.tup []), (.tup []), (.d (.bool true)), .top], [(.cells [(.d (.str (List.getD x0 (Int.toNat s10) (([] : Q8), ([] : Q8))).1)), (.d (.str (List.getD x0 (Int.toNat s10) (([] : Q8), ([] : Q8))).2))]), .dead, .dead, .dead, .dead, .dead, .dead, .dead, .dead, .dead, .dead, .dead, .dead, .dead, .dead, .dead, .dead, .dead, .dead, .dead, .dead, .dead, .dead, .dead, .dead, .dead, .dead, .dead, .dead, .dead, .dead, .dead, .dead, .dead, .dead, .dead, .dead, .dead, .dead, .dead, .dead, .dead, .dead, .dead, .dead, .dead, .dead, .dead, .dead, .dead, .dead, .dead, .dead, .dead, .dead, .dead, .dead, .dead, .dead, .dead, .dead, .dead, .dead, .dead, .dead, .dead, .dead, .dead, .dead, .dead, .dead, .dead, .dead, .dead, .dead, .dead, .dead, .dead, .dead, .dead, .dead, .dead, .dead, .dead, .dead, .dead, .dead, .dead, .dead, .dead, .dead, .dead, .dead, .dead, .dead, .dead, .dead, .dead, .dead, .dead, .dead, .dead, .dead, .dead, .dead, .dead, .dead, .dead, .dead, .dead, .dead, .dead, .dead, .dead, .dead, .dead, .dead, .dead, .dead, .dead, .dead, .dead, .dead, .dead, .dead])
  | 1 => (.ret, [(.d (.sl (.pair .str .str) x0)), .top, (.d (.bool false)), (.d (.int .i64 s10)), (.ptr 0 0), .top, .top, .top, (.d (.sl (.pair .str .str) x0)), (.d (.int .i64 s9)), (.d (.int .i64 s10)), (.d (.bool (decide (s10 < s9)))), (.d (.int .i64 s10)), (.cptr [(.str (List.getD x0 (Int.toNat s10) (([] : Q8), ([] : Q8))).1), (.str (List.getD x0 (Int.toNat s10) (([] : Q8), ([] : Q8))).2)] 0), (.agg [(.d (.str (List.getD x0 (Int.toNat s10) (([] : Q8), ([] : Q8))).1)), (.d (.str (List.getD x0 (Int.toNat s10) (([] : Q8), ([] : Q8))).2))]), (.ptr 0 0), (.d (.str (List.getD x0 (Int.toNat s10) (([] : Q8), ([] : Q8))).1)), (.d (.bool (wordG (List.getD x0 (Int.toNat s10) (([] : Q8), ([] : Q8))).1))), (.d (.bool (!(wordG (List.getD x0 (Int.toNat s10) (([] : Q8), ([] : Q8))).1)))), (.d (.bool (!(wordG (List.getD x0 (Int.toNat s10) (([] : Q8), ([] : Q8))).1)))), (.ptr 0 1), (.d (.str (List.getD x0 (Int.toNat s10) (([] : Q8), ([] : Q8))).2)), (.d (.int .i64 (((List.length (List.getD x0 (Int.toNat s10) (([] : Q8), ([] : Q8))).2) : Nat) : Int))), (.d (.bool (decide ((((List.length (List.getD x0 (Int.toNat s10) (([] : Q8), ([] : Q8))).2) : Nat) : Int) < 1)))), (.d (.bool (decide ((((List.length (List.getD x0 (Int.toNat s10) (([] : Q8), ([] : Q8))).2) : Nat) : Int) < 1)))), (.d (.bool (decide ((((List.length (List.getD x0 (Int.toNat s10) (([] : Q8), ([] : Q8))).2) : Nat) : Int) < 1)))), (.tup []), (.tup []), (.tup []), (.tup []), (.d (.bool true)), (.d (.bool true)), (.tup []), (.tup []), (.tup []), (.tup []), (.tup []), (.tup []), (.tup []), (.tup []), (.tup []), (.tup []), (.tup []), (.tup []), (.tup []), (.d (.bool true)), .top], [(.cells [(.d (.str (List.getD x0 (Int.toNat s10) (([] : Q8), ([] : Q8))).1)), (.d (.str (List.getD x0 (Int.toNat s10) (([] : Q8), ([] : Q8))).2))]), .dead, .dead, .dead, .dead, .dead, .dead, .dead, .dead, .dead, .dead, .dead, .dead, .dead, .dead, .dead, .dead, .dead, .dead, .dead, .dead, .dead, .dead, .dead, .dead, .dead, .dead, .dead, .dead, .dead, .dead, .dead, .dead, .dead, .dead, .dead, .dead, .dead, .dead, .dead, .dead, .dead, .dead, .dead, .dead, .dead, .dead, .dead, .dead, .dead, .dead, .dead, .dead, .dead, .dead, .dead, .dead, .dead, .dead, .dead, .dead, .dead, .dead, .dead, .dead, .dead, .dead, .dead, .dead, .dead, .dead, .dead, .dead, .dead, .dead, .dead, .dead, .dead, .dead, .dead, .dead, .dead, .dead, .dead, .dead, .dead, .dead, .dead, .dead, .dead, .dead, .dead, .dead, .dead, .dead, .dead, .dead, .dead, .dead, .dead, .dead, .dead, .dead, .dead, .dead, .dead, .dead, .dead, .dead, .dead, .dead, .dead, .dead, .dead, .dead, .dead, .dead, .dead, .dead, .dead, .dead, .dead, .dead, .dead, .dead])
  | 2 => (.ret, [(.d (.sl (.pair .str .str) x0)), .top, (.d (.bool false)), (.d (.int .i64 s10)), (.ptr 0 0), .top, .top, .top, (.d (.sl (.pair .str .str) x0)), (.d (.int .i64 s9)), (.d (.int .i64 s10)), (.d (.bool (decide (s10 < s9)))), (.d (.int .i64 s10)), (.cptr [(.str (List.getD x0 (Int.toNat s10) (([] : Q8), ([] : Q8))).1), (.str (List.getD x0 (Int.toNat s10) (([] : Q8), ([] : Q8))).2)] 0), (.agg [(.d (.str (List.getD x0 (Int.toNat s10) (([] : Q8), ([] : Q8))).1)), (.d (.str (List.getD x0 (Int.toNat s10) (([] : Q8), ([] : Q8))).2))]), (.ptr 0 0), (.d (.str (List.getD x0 (Int.toNat s10) (([] : Q8), ([] : Q8))).1)), (.d (.bool (wordG (List.getD x0 (Int.toNat s10) (([] : Q8), ([] : Q8))).1))), (.d (.bool (!(wordG (List.getD x0 (Int.toNat s10) (([] : Q8), ([] : Q8))).1)))), (.d (.bool (!(wordG (List.getD x0 (Int.toNat s10) (([] : Q8), ([] : Q8))).1)))), (.ptr 0 1), (.d (.str (List.getD x0 (Int.toNat s10) (([] : Q8), ([] : Q8))).2)), (.d (.int .i64 (((List.length (List.getD x0 (Int.toNat s10) (([] : Q8), ([] : Q8))).2) : Nat) : Int))), (.d (.bool (decide ((((List.length (List.getD x0 (Int.toNat s10) (([] : Q8), ([] : Q8))).2) : Nat) : Int) < 1)))), (.d (.bool (decide ((((List.length (List.getD x0 (Int.toNat s10) (([] : Q8), ([] : Q8))).2) : Nat) : Int) < 1)))), (.d (.bool (decide ((((List.length (List.getD x0 (Int.toNat s10) (([] : Q8), ([] : Q8))).2) : Nat) : Int) < 1)))), (.ptr 0 1), (.d (.str (List.getD x0 (Int.toNat s10) (([] : Q8), ([] : Q8))).2)), (.d (.int .i64 (((List.length (List.getD x0 (Int.toNat s10) (([] : Q8), ([] : Q8))).2) : Nat) : Int))), (.d (.bool (decide ((((List.length (List.getD x0 (Int.toNat s10) (([] : Q8), ([] : Q8))).2) : Nat) : Int) > 24)))), (.d (.bool (decide ((((List.length (List.getD x0 (Int.toNat s10) (([] : Q8), ([] : Q8))).2) : Nat) : Int) > 24)))), (.d (.bool (decide ((((List.length (List.getD x0 (Int.toNat s10) (([] : Q8), ([] : Q8))).2) : Nat) : Int) > 24)))), (.tup []), (.tup []), (.tup []), (.tup []), (.tup []), (.tup []), (.tup []), (.tup []), (.tup []), (.tup []), (.tup []), (.tup []), (.tup []), (.d (.bool true)), .top], [(.cells [(.d (.str (List.getD x0 (Int.toNat s10) (([] : Q8), ([] : Q8))).1)), (.d (.str (List.getD x0 (Int.toNat s10) (([] : Q8), ([] : Q8))).2))]), .dead, .dead, .dead, .dead, .dead, .dead, .dead, .dead, .dead, .dead, .dead, .dead, .dead, .dead, .dead, .dead, .dead, .dead, .dead, .dead, .dead, .dead, .dead, .dead, .dead, .dead, .dead, .dead, .dead, .dead, .dead, .dead, .dead, .dead, .dead, .dead, .dead, .dead, .dead, .dead, .dead, .dead, .dead, .dead, .dead, .dead, .dead, .dead, .dead, .dead, .dead, .dead, .dead, .dead, .dead, .dead, .dead, .dead, .dead, .dead, .dead, .dead, .dead, .dead, .dead, .dead, .dead, .dead, .dead, .dead, .dead, .dead, .dead, .dead, .dead, .dead, .dead, .dead, .dead, .dead, .dead, .dead, .dead, .dead, .dead, .dead, .dead, .dead, .dead, .dead, .dead, .dead, .dead, .dead, .dead, .dead, .dead, .dead, .dead, .dead, .dead, .dead, .dead, .dead, .dead, .dead, .dead, .dead, .dead, .dead, .dead, .dead, .dead, .dead, .dead, .dead, .dead, .dead, .dead, .dead, .dead, .dead, .dead, .dead])
  | 3 => (.ret, [(.d (.sl (.pair .str .str) x0)), .top, (.d (.bool false)), (.d (.int .i64 s10)), (.ptr 0 0), .top, .top, .top, (.d (.sl (.pair .str .str) x0)), (.d (.int .i64 s9)), (.d (.int .i64 s10)), (.d (.bool (decide (s10 < s9)))), (.d (.int .i64 s10)), (.cptr [(.str (List.getD x0 (Int.toNat s10) (([] : Q8), ([] : Q8))).1), (.str (List.getD x0 (Int.toNat s10) (([] : Q8), ([] : Q8))).2)] 0), (.agg [(.d (.str (List.getD x0 (Int.toNat s10) (([] : Q8), ([] : Q8))).1)), (.d (.str (List.getD x0 (Int.toNat s10) (([] : Q8), ([] : Q8))).2))]), (.ptr 0 0), (.d (.str (List.getD x0 (Int.toNat s10) (([] : Q8), ([] : Q8))).1)), (.d (.bool (wordG (List.getD x0 (Int.toNat s10) (([] : Q8), ([] : Q8))).1))), (.d (.bool (!(wordG (List.getD x0 (Int.toNat s10) (([] : Q8), ([] : Q8))).1)))), (.d (.bool (!(wordG (List.getD x0 (Int.toNat s10) (([] : Q8), ([] : Q8))).1)))), (.ptr 0 1), (.d (.str (List.getD x0 (Int.toNat s10) (([] : Q8), ([] : Q8))).2)), (.d (.int .i64 (((List.length (List.getD x0 (Int.toNat s10) (([] : Q8), ([] : Q8))).2) : Nat) : Int))), (.d (.bool (decide ((((List.length (List.getD x0 (Int.toNat s10) (([] : Q8), ([] : Q8))).2) : Nat) : Int) < 1)))), (.d (.bool (decide ((((List.length (List.getD x0 (Int.toNat s10) (([] : Q8), ([] : Q8))).2) : Nat) : Int) < 1)))), (.d (.bool (decide ((((List.length (List.getD x0 (Int.toNat s10) (([] : Q8), ([] : Q8))).2) : Nat) : Int) < 1)))), (.ptr 0 1), (.d (.str (List.getD x0 (Int.toNat s10) (([] : Q8), ([] : Q8))).2)), (.d (.int .i64 (((List.length (List.getD x0 (Int.toNat s10) (([] : Q8), ([] : Q8))).2) : Nat) : Int))), (.d (.bool (decide ((((List.length (List.getD x0 (Int.toNat s10) (([] : Q8), ([] : Q8))).2) : Nat) : Int) > 24)))), (.d (.bool (decide ((((List.length (List.getD x0 (Int.toNat s10) (([] : Q8), ([] : Q8))).2) : Nat) : Int) > 24)))), (.d (.bool (decide ((((List.length (List.getD x0 (Int.toNat s10) (([] : Q8), ([] : Q8))).2) : Nat) : Int) > 24)))), (.d (.int .i64 s10)), (.d (.bool (decide (s10 > 0)))), (.d (.bool (decide (s10 > 0)))), (.d (.sl (.pair .str .str) x0)), (.d (.int .i64 s10)), (.d (.int .i64 (IntKind.wrap .i64 (s10 - (1))))), (.cptr [(.str (List.getD x0 (Int.toNat (IntKind.wrap .i64 (s10 - (1)))) (([] : Q8), ([] : Q8))).1), (.str (List.getD x0 (Int.toNat (IntKind.wrap .i64 (s10 - (1)))) (([] : Q8), ([] : Q8))).2)] 0), (.cptr [(.str (List.getD x0 (Int.toNat (IntKind.wrap .i64 (s10 - (1)))) (([] : Q8), ([] : Q8))).1), (.str (List.getD x0 (Int.toNat (IntKind.wrap .i64 (s10 - (1)))) (([] : Q8), ([] : Q8))).2)] 0), (.d (.str (List.getD x0 (Int.toNat (IntKind.wrap .i64 (s10 - (1)))) (([] : Q8), ([] : Q8))).1)), (.ptr 0 0), (.d (.str (List.getD x0 (Int.toNat s10) (([] : Q8), ([] : Q8))).1)), (.d (.bool (!(Op.bytesLess (List.getD x0 (Int.toNat (IntKind.wrap .i64 (s10 - (1)))) (([] : Q8), ([] : Q8))).1 (List.getD x0 (Int.toNat s10) (([] : Q8), ([] : Q8))).1)))), (.d (.bool (!(Op.bytesLess (List.getD x0 (Int.toNat (IntKind.wrap .i64 (s10 - (1)))) (([] : Q8), ([] : Q8))).1 (List.getD x0 (Int.toNat s10) (([] : Q8), ([] : Q8))).1)))), (.d (.bool (!(Op.bytesLess (List.getD x0 (Int.toNat (IntKind.wrap .i64 (s10 - (1)))) (([] : Q8), ([] : Q8))).1 (List.getD x0 (Int.toNat s10) (([] : Q8), ([] : Q8))).1)))), .top], [(.cells [(.d (.str (List.getD x0 (Int.toNat s10) (([] : Q8), ([] : Q8))).1)), (.d (.str (List.getD x0 (Int.toNat s10) (([] : Q8), ([] : Q8))).2))]), .dead, .dead, .dead, .dead, .dead, .dead, .dead, .dead, .dead, .dead, .dead, .dead, .dead, .dead, .dead, .dead, .dead, .dead, .dead, .dead, .dead, .dead, .dead, .dead, .dead, .dead, .dead, .dead, .dead, .dead, .dead, .dead, .dead, .dead, .dead, .dead, .dead, .dead, .dead, .dead, .dead, .dead, .dead, .dead, .dead, .dead, .dead, .dead, .dead, .dead, .dead, .dead, .dead, .dead, .dead, .dead, .dead, .dead, .dead, .dead, .dead, .dead, .dead, .dead, .dead, .dead, .dead, .dead, .dead, .dead, .dead, .dead, .dead, .dead, .dead, .dead, .dead, .dead, .dead, .dead, .dead, .dead, .dead, .dead, .dead, .dead, .dead, .dead, .dead, .dead, .dead, .dead, .dead, .dead, .dead, .dead, .dead, .dead, .dead, .dead, .dead, .dead, .dead, .dead, .dead, .dead, .dead, .dead, .dead, .dead, .dead, .dead, .dead, .dead, .dead, .dead, .dead, .dead, .dead, .dead, .dead, .dead, .dead, .dead])
  | _ => (.exit 0, ((.d (.sl (.pair .str .str) x0)) :: .top :: .top :: .top :: .top :: .top :: .top :: .top :: (.d (.sl (.pair .str .str) x0)) :: (.d (.int .i64 s9)) :: (.d (.int .i64 s10)) :: (.d (.bool (decide (s10 < s9)))) :: tp35 []), [])
noncomputable def lbl17_0 : AC := loopBody 1793 body17
@[reducible] noncomputable def cb15 (m : Nat) := (evC byref (evCall F S22 (m + 24)) (m + 24) 0 (hds 17) lbl17_0)


theorem l17_0_step (m n : Nat) (ih : ∀ (x0 : Q5) (s9 : Int) (s10 : Int) (q : Nat × Int), l17_0 m n x0 s9 s10 = some q → (turns (hds 17 1793) 0 1793 (cb15 m) n (l17_0H x0 s9 s10) (l17_0B x0 s9 s10)).run = some (l17_0E (x0) (s9) (q.2) q.1)) (x0 : Q5) (s9 : Int) (s10 : Int) (q : Nat × Int) (h : l17_0 m (n + 1) x0 s9 s10 = some q) : (turns (hds 17 1793) 0 1793 (cb15 m) (n + 1) (l17_0H x0 s9 s10) (l17_0B x0 s9 s10)).run = some (l17_0E (x0) (s9) (q.2) q.1) := by
  rw [l17_0] at h
  refine ite_cases h (fun c0 h => ?_) (fun c0 h => ?_)
  · skip
    obtain ⟨c1, h⟩ := iY h
    obtain ⟨c2, h⟩ := iY h
    obtain ⟨c3, h⟩ := iY h
    refine ite_cases h (fun c4 h => ?_) (fun c4 h => ?_)
    · skip
      refine ite_cases h (fun c9 h => ?_) (fun c9 h => ?_)
      · skip
        cases h
        refine turns_last (by simp) ?_
        exact M.run_of_path _ [tT, tT, tT, tT, fF, fF, fF, fF, fF, tT, tT, tT, tT, tT, tT, tT, tT, tT, tT, tT] _ _ (by kernel_rfl) (all_t c0 (all_t c1 (all_t c2 (all_t c3 (all_nt c4 (all_nt c4 (all_nt c4 (all_nt c4 (all_nt c4 (all_t c9 (all_t c9 (all_t c9 (all_t c9 (all_t c9 (all_t rfl (all_t rfl (all_t rfl (all_t rfl (all_t rfl (all_t rfl all_nil))))))))))))))))))))
      · skip
        refine ite_cases h (fun c14 h => ?_) (fun c14 h => ?_)
        · skip
          cases h
          refine turns_last (by simp) ?_
          exact M.run_of_path _ [tT, tT, tT, tT, fF, fF, fF, fF, fF, fF, fF, fF, fF, fF, tT, tT, tT, tT, tT, tT] _ _ (by kernel_rfl) (all_t c0 (all_t c1 (all_t c2 (all_t c3 (all_nt c4 (all_nt c4 (all_nt c4 (all_nt c4 (all_nt c4 (all_f c9 (all_f c9 (all_f c9 (all_f c9 (all_f c9 (all_t c14 (all_t c14 (all_t c14 (all_t c14 (all_t c14 (all_t rfl all_nil))))))))))))))))))))
        · skip
          refine ite_cases h (fun c17 h => ?_) (fun c17 h => ?_)
          · skip
            obtain ⟨c21, h⟩ := iY h
            obtain ⟨c22, h⟩ := iY h
            refine ite_cases h (fun c31 h => ?_) (fun c31 h => ?_)
            · skip
              have ih := ih _ _ _ q h
              refine turns_step ?_ ih
              exact M.run_of_path _ [tT, tT, tT, tT, fF, fF, fF, fF, fF, fF, fF, fF, fF, fF, fF, fF, fF, tT, tT, tT, tT, tT, tT, tT, tT, tT, tT, tT, fF, tT, fF, fF] _ _ (by kernel_rfl) (all_t c0 (all_t c1 (all_t c2 (all_t c3 (all_nt c4 (all_nt c4 (all_nt c4 (all_nt c4 (all_nt c4 (all_f c9 (all_f c9 (all_f c9 (all_f c9 (all_f c9 (all_f c14 (all_f c14 (all_f c14 (all_t c17 (all_t c17 (all_t c17 (all_t c17 (all_t c21 (all_t c22 (all_t c17 (all_t c17 (all_t c17 (all_t c17 (all_t c17 (all_f c14 (all_t c17 (all_f c14 (all_nt c31 all_nil))))))))))))))))))))))))))))))))
            · skip
              cases h
              refine turns_last (by simp) ?_
              exact M.run_of_path _ [tT, tT, tT, tT, fF, fF, fF, fF, fF, fF, fF, fF, fF, fF, fF, fF, fF, tT, tT, tT, tT, tT, tT, tT, tT, tT, tT, tT, fF, tT, fF, tT] _ _ (by kernel_rfl) (all_t c0 (all_t c1 (all_t c2 (all_t c3 (all_nt c4 (all_nt c4 (all_nt c4 (all_nt c4 (all_nt c4 (all_f c9 (all_f c9 (all_f c9 (all_f c9 (all_f c9 (all_f c14 (all_f c14 (all_f c14 (all_t c17 (all_t c17 (all_t c17 (all_t c17 (all_t c21 (all_t c22 (all_t c17 (all_t c17 (all_t c17 (all_t c17 (all_t c17 (all_f c14 (all_t c17 (all_f c14 (all_nf c31 all_nil))))))))))))))))))))))))))))))))
          · skip
            have ih := ih _ _ _ q h
            refine turns_step ?_ ih
            exact M.run_of_path _ [tT, tT, tT, tT, fF, fF, fF, fF, fF, fF, fF, fF, fF, fF, fF, fF, fF, fF, fF, fF, fF, fF, fF, fF, fF, fF, fF, fF, fF, fF] _ _ (by kernel_rfl) (all_t c0 (all_t c1 (all_t c2 (all_t c3 (all_nt c4 (all_nt c4 (all_nt c4 (all_nt c4 (all_nt c4 (all_f c9 (all_f c9 (all_f c9 (all_f c9 (all_f c9 (all_f c14 (all_f c14 (all_f c14 (all_f c17 (all_f c17 (all_f c17 (all_f c17 (all_f c17 (all_f c17 (all_f c17 (all_f c17 (all_f c17 (all_f c14 (all_f c17 (all_f c14 (all_f Bool.false_ne_true all_nil))))))))))))))))))))))))))))))
    · skip
      cases h
      refine turns_last (by simp) ?_
      exact M.run_of_path _ [tT, tT, tT, tT, tT, tT, tT, tT, tT, tT, tT, tT, tT, tT, tT, tT, tT, tT, tT, tT] _ _ (by kernel_rfl) (all_t c0 (all_t c1 (all_t c2 (all_t c3 (all_nf c4 (all_nf c4 (all_nf c4 (all_nf c4 (all_nf c4 (all_t rfl (all_t rfl (all_t rfl (all_t rfl (all_t rfl (all_t rfl (all_t rfl (all_t rfl (all_t rfl (all_t rfl (all_t rfl all_nil))))))))))))))))))))
  · skip
    cases h
    refine turns_last (by simp) ?_
    exact M.run_of_path _ [fF] _ _ (by kernel_rfl) (all_f c0 all_nil)
theorem l17_0_ok (m : Nat) : ∀ (n : Nat) (x0 : Q5) (s9 : Int) (s10 : Int) (q : Nat × Int), l17_0 m n x0 s9 s10 = some q → (turns (hds 17 1793) 0 1793 (cb15 m) n (l17_0H x0 s9 s10) (l17_0B x0 s9 s10)).run = some (l17_0E (x0) (s9) (q.2) q.1)
  | 0, x0, s9, s10, q, h => by cases h
  | n + 1, x0, s9, s10, q, h => l17_0_step m n (l17_0_ok m n) x0 s9 s10 q h

def p17 (m : Nat) (x0 : Q5) : Option (Bool) :=
  if decide ((((List.length x0) : Nat) : Int) > 6) = true then
    some (false)
  else
    if (Option.isSome (l17_0 m (m + 24) x0 ((((List.length x0) : Nat) : Int)) 0)) = true then
    if ((l17_0R m (m + 24) x0 ((((List.length x0) : Nat) : Int)) 0).1 == 0) = true then
      some (false)
    else
      if ((l17_0R m (m + 24) x0 ((((List.length x0) : Nat) : Int)) 0).1 == 1) = true then
        some (false)
      else
        if ((l17_0R m (m + 24) x0 ((((List.length x0) : Nat) : Int)) 0).1 == 2) = true then
          some (false)
        else
          if ((l17_0R m (m + 24) x0 ((((List.length x0) : Nat) : Int)) 0).1 == 3) = true then
            some (false)
          else
            if ((l17_0R m (m + 24) x0 ((((List.length x0) : Nat) : Int)) 0).1 == 4) = true then
            some (true)
            else none
    else none
theorem p17_ok (m : Nat) (x0 : Q5) (q : Bool) (h : p17 m x0 = some q) : ∃ r B1, (evCall F S22 (m + 25) 17 [(.d (.sl (.pair .str .str) x0))] []).run = some (r, B1) ∧ 0 ≤ B1.length ∧ wkR B1 [] r (.d (.bool (q))) ∧ wkBs B1 [] 0 [] := by
  unfold p17 at h
  refine ite_cases h (fun c0 h => ?_) (fun c0 h => ?_)
  · skip
    cases h
    refine ⟨(.d (.bool false)), [], runT_ok (LS := (fun k => none)) (fn := fn17) (vis := []) (by kernel_rfl) rfl (by kernel_rfl) (M.run_of_path _ [tT] _ _ (by kernel_rfl) (all_t c0 all_nil)) ?_, by simp, (wkR.one (wkV.one (wk1.eq rfl))), trivial⟩
    intro p hp; cases hp
  · skip
    obtain ⟨c1, h⟩ := iY h
    refine ite_cases h (fun c2 h => ?_) (fun c2 h => ?_)
    · skip
      cases h
      refine ⟨(.d (.bool false)), [], runT_ok (LS := (fun k => if k = 1793 then some (l17_0E x0 (((((List.length x0) : Nat) : Int))) ((l17_0R m (m + 24) x0 ((((List.length x0) : Nat) : Int)) 0).2) 0) else none)) (fn := fn17) (vis := [(1793, l17_0H x0 ((((List.length x0) : Nat) : Int)) 0, l17_0B x0 ((((List.length x0) : Nat) : Int)) 0)]) (by kernel_rfl) rfl (by kernel_rfl) (M.run_of_path _ [fF] _ _ (by kernel_rfl) (all_f c0 all_nil)) ?_, by simp, (wkR.one (wkV.one (wk1.eq rfl))), trivial⟩
      intro p hp p2 hq
      rcases List.mem_cons.1 hp with rfl | hp
      · skip
        have h3 := l17_0_ok m (m + 24) x0 ((((List.length x0) : Nat) : Int)) 0 _ (some_getD (d := l17_0D) c1)
        rw [eq_of_beq c2] at h3
        exact Eq.trans (Eq.mp (by kernel_rfl) h3) hq
      cases hp
    · skip
      refine ite_cases h (fun c3 h => ?_) (fun c3 h => ?_)
      · skip
        cases h
        refine ⟨(.d (.bool false)), [], runT_ok (LS := (fun k => if k = 1793 then some (l17_0E x0 (((((List.length x0) : Nat) : Int))) ((l17_0R m (m + 24) x0 ((((List.length x0) : Nat) : Int)) 0).2) 1) else none)) (fn := fn17) (vis := [(1793, l17_0H x0 ((((List.length x0) : Nat) : Int)) 0, l17_0B x0 ((((List.length x0) : Nat) : Int)) 0)]) (by kernel_rfl) rfl (by kernel_rfl) (M.run_of_path _ [fF] _ _ (by kernel_rfl) (all_f c0 all_nil)) ?_, by simp, (wkR.one (wkV.one (wk1.eq rfl))), trivial⟩
        intro p hp p2 hq
        rcases List.mem_cons.1 hp with rfl | hp
        · skip
          have h3 := l17_0_ok m (m + 24) x0 ((((List.length x0) : Nat) : Int)) 0 _ (some_getD (d := l17_0D) c1)
          rw [eq_of_beq c3] at h3
          exact Eq.trans (Eq.mp (by kernel_rfl) h3) hq
        cases hp
      · skip
        refine ite_cases h (fun c4 h => ?_) (fun c4 h => ?_)
        · skip
          cases h
          refine ⟨(.d (.bool false)), [], runT_ok (LS := (fun k => if k = 1793 then some (l17_0E x0 (((((List.length x0) : Nat) : Int))) ((l17_0R m (m + 24) x0 ((((List.length x0) : Nat) : Int)) 0).2) 2) else none)) (fn := fn17) (vis := [(1793, l17_0H x0 ((((List.length x0) : Nat) : Int)) 0, l17_0B x0 ((((List.length x0) : Nat) : Int)) 0)]) (by kernel_rfl) rfl (by kernel_rfl) (M.run_of_path _ [fF] _ _ (by kernel_rfl) (all_f c0 all_nil)) ?_, by simp, (wkR.one (wkV.one (wk1.eq rfl))), trivial⟩
          intro p hp p2 hq
          rcases List.mem_cons.1 hp with rfl | hp
          · skip
            have h3 := l17_0_ok m (m + 24) x0 ((((List.length x0) : Nat) : Int)) 0 _ (some_getD (d := l17_0D) c1)
            rw [eq_of_beq c4] at h3
            exact Eq.trans (Eq.mp (by kernel_rfl) h3) hq
          cases hp
        · skip
          refine ite_cases h (fun c5 h => ?_) (fun c5 h => ?_)
          · skip
            cases h
            refine ⟨(.d (.bool false)), [], runT_ok (LS := (fun k => if k = 1793 then some (l17_0E x0 (((((List.length x0) : Nat) : Int))) ((l17_0R m (m + 24) x0 ((((List.length x0) : Nat) : Int)) 0).2) 3) else none)) (fn := fn17) (vis := [(1793, l17_0H x0 ((((List.length x0) : Nat) : Int)) 0, l17_0B x0 ((((List.length x0) : Nat) : Int)) 0)]) (by kernel_rfl) rfl (by kernel_rfl) (M.run_of_path _ [fF] _ _ (by kernel_rfl) (all_f c0 all_nil)) ?_, by simp, (wkR.one (wkV.one (wk1.eq rfl))), trivial⟩
            intro p hp p2 hq
            rcases List.mem_cons.1 hp with rfl | hp
            · skip
              have h3 := l17_0_ok m (m + 24) x0 ((((List.length x0) : Nat) : Int)) 0 _ (some_getD (d := l17_0D) c1)
              rw [eq_of_beq c5] at h3
              exact Eq.trans (Eq.mp (by kernel_rfl) h3) hq
            cases hp
          · skip
            obtain ⟨c6, h⟩ := iY h
            cases h
            refine ⟨(.d (.bool true)), [], runT_ok (LS := (fun k => if k = 1793 then some (l17_0E x0 (((((List.length x0) : Nat) : Int))) ((l17_0R m (m + 24) x0 ((((List.length x0) : Nat) : Int)) 0).2) 4) else none)) (fn := fn17) (vis := [(1793, l17_0H x0 ((((List.length x0) : Nat) : Int)) 0, l17_0B x0 ((((List.length x0) : Nat) : Int)) 0)]) (by kernel_rfl) rfl (by kernel_rfl) (M.run_of_path _ [fF] _ _ (by kernel_rfl) (all_f c0 all_nil)) ?_, by simp, (wkR.one (wkV.one (wk1.eq rfl))), trivial⟩
            intro p hp p2 hq
            rcases List.mem_cons.1 hp with rfl | hp
            · skip
              have h3 := l17_0_ok m (m + 24) x0 ((((List.length x0) : Nat) : Int)) 0 _ (some_getD (d := l17_0D) c1)
              rw [eq_of_beq c6] at h3
              exact Eq.trans (Eq.mp (by kernel_rfl) h3) hq
            cases hp

def lab1 (x : (Q8) × (Q8)) : Bool := wordG x.1 && decide (1 ≤ x.2.length) && decide (x.2.length ≤ 24)
def lrise : LB → Bool
  | a :: b :: l => Op.bytesLess a.1 b.1 && lrise (b :: l)
  | _ => true
def lrightG (l : LB) : Bool := l.all lab1 && lrise l && decide (l.length ≤ 6)
def lrightPre (l : LB) : Bool := decide (l.length ≤ 1000000 ∧ ∀ x ∈ l, x.1.length ≤ 9223372036854775807)
def lR (l : LB) (k : Nat) : Bool := (l.drop k).all lab1 && lrise (l.drop (k - 1))
theorem rlright_loop (m : Nat) (l : LB) (h1 : l.length ≤ 1000000) (h2 : ∀ x ∈ l, x.1.length ≤ 9223372036854775807) : ∀ (n k : Nat), k ≤ l.length → l.length - k < n → ∃ e j, l17_0 m n l (l.length : Nat) (k : Nat) = some (e, j) ∧ ((e = 4 ∧ lR l k = true) ∨ (e < 4 ∧ lR l k = false))
  | 0, k, _, h => by omega
  | n + 1, k, g1, g2 => by
    rw [l17_0]
    by_cases hk : k < l.length
    · have e1 : decide (((k : Nat) : Int) < (((List.length l) : Nat) : Int)) = true := decide_eq_true (by omega)
      have e2 : decide ((0 : Int) ≤ ((k : Nat) : Int)) = true := decide_eq_true (by omega)
      have e7 : IntKind.wrap .i64 (((k : Nat) : Int) + (1)) = ((k + 1 : Nat) : Int) := by rw [wrap_id (by omega) (by omega)]; rfl
      have hq := h2 _ (getD_mem l k (([] : Q8), ([] : Q8)) hk)
      obtain ⟨e, j, go, hc⟩ := rlright_loop m l h1 h2 n (k + 1) (by omega) (by omega)
      have hd := drop_getD l k (([] : Q8), ([] : Q8)) hk
      have hR : lR l k = (lab1 (l.getD k (([] : Q8), ([] : Q8))) && (decide (k = 0) || Op.bytesLess (l.getD (k - 1) (([] : Q8), ([] : Q8))).1 (l.getD k (([] : Q8), ([] : Q8))).1) && lR l (k + 1)) := by
        unfold lR
        rw [hd, List.all_cons, show k + 1 - 1 = k from rfl]
        cases k with
        | zero => rw [show (0 - 1 : Nat) = 0 from rfl, hd]; simp [Bool.and_assoc]
        | succ k =>
          rw [show k + 1 - 1 = k from rfl]
          have hd0 := drop_getD l k (([] : Q8), ([] : Q8)) (by omega)
          have hr : lrise (l.drop k) = (Op.bytesLess (l.getD k (([] : Q8), ([] : Q8))).1 (l.getD (k + 1) (([] : Q8), ([] : Q8))).1 && lrise (l.drop (k + 1))) := by
            rw [hd0, hd, lrise]
          rw [hr]
          have : decide (k + 1 = 0) = false := decide_eq_false (by omega)
          rw [this, Bool.false_or]
          generalize lab1 (l.getD (k + 1) (([] : Q8), ([] : Q8))) = A
          generalize List.all (l.drop (k + 1 + 1)) lab1 = B
          generalize Op.bytesLess (l.getD k (([] : Q8), ([] : Q8))).1 (l.getD (k + 1) (([] : Q8), ([] : Q8))).1 = C
          generalize lrise (l.drop (k + 1)) = D
          cases A <;> cases B <;> cases C <;> rfl
      have hl : lab1 (l.getD k (([] : Q8), ([] : Q8))) = (wordG (l.getD k (([] : Q8), ([] : Q8))).1 && decide (1 ≤ (l.getD k (([] : Q8), ([] : Q8))).2.length) && decide ((l.getD k (([] : Q8), ([] : Q8))).2.length ≤ 24)) := rfl
      simp only [show Int.toNat ((k : Nat) : Int) = k from rfl, e1, e2, e7, ↓reduceIte]
      have e3 : decide (List.length (l.getD k (([] : Q8), ([] : Q8))).1 ≤ 9223372036854775807) = true := decide_eq_true hq
      rw [if_pos e3]
      have yes : lab1 (l.getD k (([] : Q8), ([] : Q8))) = true → (decide (k = 0) || Op.bytesLess (l.getD (k - 1) (([] : Q8), ([] : Q8))).1 (l.getD k (([] : Q8), ([] : Q8))).1) = true → ∃ e j, l17_0 m n l (l.length : Nat) ((k + 1 : Nat) : Int) = some (e, j) ∧ ((e = 4 ∧ lR l k = true) ∨ (e < 4 ∧ lR l k = false)) := by
        intro a b
        rw [hR, a, b]
        exact ⟨e, j, go, by rw [Bool.and_self, Bool.true_and]; exact hc⟩
      have no : ∀ e' : Nat, e' < 4 → (lab1 (l.getD k (([] : Q8), ([] : Q8))) && (decide (k = 0) || Op.bytesLess (l.getD (k - 1) (([] : Q8), ([] : Q8))).1 (l.getD k (([] : Q8), ([] : Q8))).1)) = false → ∃ e j, (some (e', ((k : Nat) : Int)) : Option (Nat × Int)) = some (e, j) ∧ ((e = 4 ∧ lR l k = true) ∨ (e < 4 ∧ lR l k = false)) := by
        intro e' he' a
        rw [hR, a]
        exact ⟨_, _, rfl, .inr ⟨he', rfl⟩⟩
      cases c1 : wordG (l.getD k (([] : Q8), ([] : Q8))).1 with
      | false => 
        rw [c1] at hl
        rw [if_neg (by simp)]
        exact no 0 (by omega) (by rw [hl]; rfl)
      | true =>
        rw [c1, Bool.true_and] at hl
        rw [if_pos rfl]
        by_cases c2 : (l.getD k (([] : Q8), ([] : Q8))).2 = []
        · rw [if_pos (by rw [c2]; rfl)]
          exact no 1 (by omega) (by rw [hl, c2]; rfl)
        · have p2 : 1 ≤ (l.getD k (([] : Q8), ([] : Q8))).2.length := by
            cases h : (l.getD k (([] : Q8), ([] : Q8))).2 with
            | nil => exact absurd h c2
            | cons a t => simp
          rw [if_neg (show ¬ decide ((((List.length (l.getD k (([] : Q8), ([] : Q8))).2) : Nat) : Int) < 1) = true by rw [decide_eq_true_eq]; omega)]
          rw [show decide (1 ≤ (l.getD k (([] : Q8), ([] : Q8))).2.length) = true from decide_eq_true p2, Bool.true_and] at hl
          by_cases c3 : (l.getD k (([] : Q8), ([] : Q8))).2.length ≤ 24
          · rw [if_neg (show ¬ decide ((((List.length (l.getD k (([] : Q8), ([] : Q8))).2) : Nat) : Int) > 24) = true by rw [decide_eq_true_eq]; omega)]
            rw [decide_eq_true c3] at hl
            by_cases c4 : k = 0
            · subst c4
              rw [if_neg (by simp)]
              exact yes hl rfl
            · have w1 : IntKind.wrap .i64 (((k : Nat) : Int) - (1)) = ((k - 1 : Nat) : Int) := by rw [wrap_id (by omega) (by omega)]; omega
              rw [if_pos (show decide (((k : Nat) : Int) > 0) = true from decide_eq_true (by omega)), w1, if_pos (decide_eq_true (by omega)), if_pos (decide_eq_true (by omega)), show Int.toNat ((k - 1 : Nat) : Int) = k - 1 from rfl]
              cases c5 : Op.bytesLess (l.getD (k - 1) (([] : Q8), ([] : Q8))).1 (l.getD k (([] : Q8), ([] : Q8))).1 with
              | true => rw [if_pos rfl]; exact yes hl (by rw [c5, Bool.or_true])
              | false => rw [if_neg (by simp)]; exact no 3 (by omega) (by rw [c5, decide_eq_false c4]; simp)
          · rw [if_pos (show decide ((((List.length (l.getD k (([] : Q8), ([] : Q8))).2) : Nat) : Int) > 24) = true from decide_eq_true (by omega))]
            exact no 2 (by omega) (by rw [hl, decide_eq_false c3]; rfl)
    · have e1 : decide (((k : Nat) : Int) < (((List.length l) : Nat) : Int)) = false := decide_eq_false (by omega)
      have e0 : k = l.length := by omega
      subst e0
      rw [e1, if_neg (by simp)]
      refine ⟨4, _, rfl, .inl ⟨rfl, ?_⟩⟩
      unfold lR
      rw [List.drop_length, List.all_nil, Bool.true_and]
      rcases Nat.eq_zero_or_pos l.length with h | h
      · rw [h, List.drop_eq_nil_of_le (by omega)]; rfl
      · rw [drop_getD l (l.length - 1) (([] : Q8), ([] : Q8)) (by omega), List.drop_eq_nil_of_le (by omega)]; rfl
theorem rlright17 (l : LB) (h : lrightPre l = true) : ∃ m, p17 m l = some (lrightG l) := by
  have ⟨h1, h2⟩ := of_decide_eq_true h
  refine ⟨l.length, ?_⟩
  obtain ⟨e, j, hr, hc⟩ := rlright_loop l.length l h1 h2 (l.length + 24) 0 (by omega) (by omega)
  have hR : lrightG l = (lR l 0 && decide (l.length ≤ 6)) := by unfold lrightG lR; rfl
  simp only [Int.natCast_zero] at hr
  unfold p17
  rw [hR]
  by_cases h6 : l.length ≤ 6
  · rw [if_neg (by rw [decide_eq_true_eq]; omega), decide_eq_true h6, Bool.and_true]
    simp only [l17_0R, hr, Option.isSome_some, Option.getD_some, ↓reduceIte]
    rcases hc with ⟨rfl, hc⟩ | ⟨hlt, hc⟩
    · rw [hc]; rfl
    · rw [hc]
      have : e = 0 ∨ e = 1 ∨ e = 2 ∨ e = 3 := by omega
      rcases this with rfl | rfl | rfl | rfl <;> rfl
  · rw [if_pos (decide_eq_true (by omega)), decide_eq_false h6, Bool.and_false]
def s17 : List AV → Boxes → M (AV × Boxes) := normS [.val (.sl (.pair .str .str))] [] fun xs B => match xs, B with
  | [(.d (.sl (.pair .str .str) c1))], [] => .chk (lrightPre c1) (.ret ((.d (.bool (lrightG c1))), []))
  | _, _ => .fail
theorem s17_at : CallAt Tryd.prog 17 s17 := by
  refine CallAt.norm (CallAt.weakE (g := fun n => evCall F S22 n 17) (fun n => evCall_atH mixed kinds hds S22 S22_ok n 17) fun xs B r' B' hr => ?_) _ _
  split at hr
  · rename_i c1
    obtain ⟨hp, hr⟩ := (M.run_chk _ _ _).1 hr
    simp only [M.run, Option.some.injEq, Prod.mk.injEq] at hr
    obtain ⟨rfl, rfl⟩ := hr
    obtain ⟨m, hm⟩ := rlright17 c1 hp
    obtain ⟨r, B1, h1, h2, h3, h4⟩ := p17_ok m c1 _ hm
    exact ⟨m + 25, r, B1, h1, by simp, h2, h3, h4⟩
  · simp [M.run] at hr
noncomputable def S23 : FuncId → Option (List AV → Boxes → M (AV × Boxes)) := fun f => if f = 17 then some s17 else S22 f
theorem S23_ok : ∀ f s, S23 f = some s → CallAt Tryd.prog f s := by
  intro f s h
  unfold S23 at h
  split at h
  · rename_i e; subst e; cases h; exact s17_at
  · exact S22_ok f s h

end Go.Proofs.YtghkbjflejgieaaDoor.Dec
namespace Go.Proofs.YtghkbjflejgieaaDoor.Dec
open Go.Ev
set_option linter.unusedVariables false
set_option linter.unusedSimpArgs false
set_option maxRecDepth 100000
set_option maxHeartbeats 20000000
noncomputable def fn41 : AFn := (F 41).getD ⟨0, [], .bad, false, false, noHd⟩
noncomputable def body41 : AC := fn41.body
def l41_0 (m : Nat) : Nat → Q5 → Q8 → Int → Int → Option (Nat × (Q8) × Int)
  | 0, _, _, _, _ => none
  | n + 1, x0, s3, s10, s11 => if decide (s11 < s10) = true then
      if decide (0 ≤ s11) = true then
      if decide (s11 < (((List.length x0) : Nat) : Int)) = true then
      if decide (s11 > 0) = true then
        if decide (List.length s3 + List.length ([44] : Q8) ≤ 4611686018427387904) = true then
        if decide (List.length (s3 ++ ([44] : Q8)) + List.length (List.getD x0 (Int.toNat s11) (([] : Q8), ([] : Q8))).1 ≤ 4611686018427387904) = true then
        if decide (List.length ((s3 ++ ([44] : Q8)) ++ (List.getD x0 (Int.toNat s11) (([] : Q8), ([] : Q8))).1) + List.length ([61] : Q8) ≤ 4611686018427387904) = true then
        if decide (List.length (List.getD x0 (Int.toNat s11) (([] : Q8), ([] : Q8))).2 ≤ 1000000) = true then
        if decide (List.length (((s3 ++ ([44] : Q8)) ++ (List.getD x0 (Int.toNat s11) (([] : Q8), ([] : Q8))).1) ++ ([61] : Q8)) + List.length (quoteG (List.getD x0 (Int.toNat s11) (([] : Q8), ([] : Q8))).2) ≤ 4611686018427387904) = true then
        l41_0 m n x0 (((((s3 ++ ([44] : Q8)) ++ (List.getD x0 (Int.toNat s11) (([] : Q8), ([] : Q8))).1) ++ ([61] : Q8)) ++ (quoteG (List.getD x0 (Int.toNat s11) (([] : Q8), ([] : Q8))).2))) s10 ((IntKind.wrap .i64 (s11 + (1))))
        else none
        else none
        else none
        else none
        else none
      else
        if decide (List.length s3 + List.length (List.getD x0 (Int.toNat s11) (([] : Q8), ([] : Q8))).1 ≤ 4611686018427387904) = true then
        if decide (List.length (s3 ++ (List.getD x0 (Int.toNat s11) (([] : Q8), ([] : Q8))).1) + List.length ([61] : Q8) ≤ 4611686018427387904) = true then
        if decide (List.length (List.getD x0 (Int.toNat s11) (([] : Q8), ([] : Q8))).2 ≤ 1000000) = true then
        if decide (List.length ((s3 ++ (List.getD x0 (Int.toNat s11) (([] : Q8), ([] : Q8))).1) ++ ([61] : Q8)) + List.length (quoteG (List.getD x0 (Int.toNat s11) (([] : Q8), ([] : Q8))).2) ≤ 4611686018427387904) = true then
        l41_0 m n x0 ((((s3 ++ (List.getD x0 (Int.toNat s11) (([] : Q8), ([] : Q8))).1) ++ ([61] : Q8)) ++ (quoteG (List.getD x0 (Int.toNat s11) (([] : Q8), ([] : Q8))).2))) s10 ((IntKind.wrap .i64 (s11 + (1))))
        else none
        else none
        else none
        else none
      else none
      else none
    else
      some (0, s3, s11)
def l41_0D : Nat × (Q8) × Int := (0, [], 0)
@[reducible] def l41_0R (m n : Nat) (x0 : Q5) (s3 : Q8) (s10 : Int) (s11 : Int) : Nat × (Q8) × Int := Option.getD (l41_0 m n x0 s3 s10 s11) l41_0D
def l41_0H (x0 : Q5) (s3 : Q8) (s10 : Int) (s11 : Int) : Env := (.top :: .top :: .top :: (.d (.str s3)) :: .top :: .top :: .top :: .top :: .top :: (.d (.sl (.pair .str .str) x0)) :: (.d (.int .i64 s10)) :: (.d (.int .i64 s11)) :: tp20 [])
def l41_0B (x0 : Q5) (s3 : Q8) (s10 : Int) (s11 : Int) : Boxes := []
def l41_0E (x0 : Q5) (s3 : Q8) (s10 : Int) (s11 : Int) : Nat → AEx × Env × Boxes
  | _ => (.exit 0, (.top :: .top :: .top :: (.d (.str s3)) :: .top :: .top :: .top :: .top :: .top :: (.d (.sl (.pair .str .str) x0)) :: (.d (.int .i64 s10)) :: (.d (.int .i64 s11)) :: (.d (.bool (decide (s11 < s10)))) :: tp19 []), [])
noncomputable def lbl41_0 : AC := loopBody 3592 body41
@[reducible] noncomputable def cb16 (m : Nat) := (evC byref (evCall F S23 (m + 24)) (m + 24) 0 (hds 41) lbl41_0)


theorem l41_0_step (m n : Nat) (ih : ∀ (x0 : Q5) (s3 : Q8) (s10 : Int) (s11 : Int) (q : Nat × (Q8) × Int), l41_0 m n x0 s3 s10 s11 = some q → (turns (hds 41 3592) 0 3592 (cb16 m) n (l41_0H x0 s3 s10 s11) (l41_0B x0 s3 s10 s11)).run = some (l41_0E (x0) (q.2.1) (s10) (q.2.2) q.1)) (x0 : Q5) (s3 : Q8) (s10 : Int) (s11 : Int) (q : Nat × (Q8) × Int) (h : l41_0 m (n + 1) x0 s3 s10 s11 = some q) : (turns (hds 41 3592) 0 3592 (cb16 m) (n + 1) (l41_0H x0 s3 s10 s11) (l41_0B x0 s3 s10 s11)).run = some (l41_0E (x0) (q.2.1) (s10) (q.2.2) q.1) := by
  rw [l41_0] at h
  refine ite_cases h (fun c0 h => ?_) (fun c0 h => ?_)
  · skip
    obtain ⟨c1, h⟩ := iY h
    obtain ⟨c2, h⟩ := iY h
    refine ite_cases h (fun c3 h => ?_) (fun c3 h => ?_)
    · skip
      obtain ⟨c4, h⟩ := iY h
      obtain ⟨c5, h⟩ := iY h
      obtain ⟨c6, h⟩ := iY h
      obtain ⟨c7, h⟩ := iY h
      obtain ⟨c8, h⟩ := iY h
      have ih := ih _ _ _ _ q h
      refine turns_step ?_ ih
      exact M.run_of_path _ [tT, tT, tT, tT, tT, tT, tT, tT, tT] _ _ (by kernel_rfl) (all_t c0 (all_t c1 (all_t c2 (all_t c3 (all_t c4 (all_t c5 (all_t c6 (all_t c7 (all_t c8 all_nil)))))))))
    · skip
      obtain ⟨c4, h⟩ := iY h
      obtain ⟨c5, h⟩ := iY h
      obtain ⟨c6, h⟩ := iY h
      obtain ⟨c7, h⟩ := iY h
      have ih := ih _ _ _ _ q h
      refine turns_step ?_ ih
      exact M.run_of_path _ [tT, tT, tT, fF, tT, tT, tT, tT] _ _ (by kernel_rfl) (all_t c0 (all_t c1 (all_t c2 (all_f c3 (all_t c4 (all_t c5 (all_t c6 (all_t c7 all_nil))))))))
  · skip
    cases h
    refine turns_last (by simp) ?_
    exact M.run_of_path _ [fF] _ _ (by kernel_rfl) (all_f c0 all_nil)
theorem l41_0_ok (m : Nat) : ∀ (n : Nat) (x0 : Q5) (s3 : Q8) (s10 : Int) (s11 : Int) (q : Nat × (Q8) × Int), l41_0 m n x0 s3 s10 s11 = some q → (turns (hds 41 3592) 0 3592 (cb16 m) n (l41_0H x0 s3 s10 s11) (l41_0B x0 s3 s10 s11)).run = some (l41_0E (x0) (q.2.1) (s10) (q.2.2) q.1)
  | 0, x0, s3, s10, s11, q, h => by cases h
  | n + 1, x0, s3, s10, s11, q, h => l41_0_step m n (l41_0_ok m n) x0 s3 s10 s11 q h

def p41 (m : Nat) (x0 : Q5) : Option ((Q8)) :=
  if lrightPre x0 = true then
  if (lrightG x0) = true then
    if (Option.isSome (l41_0 m (m + 24) x0 (([123] : Q8)) ((((List.length x0) : Nat) : Int)) 0)) = true then
    if decide (List.length (l41_0R m (m + 24) x0 (([123] : Q8)) ((((List.length x0) : Nat) : Int)) 0).2.1 + List.length ([125] : Q8) ≤ 4611686018427387904) = true then
    some (((l41_0R m (m + 24) x0 (([123] : Q8)) ((((List.length x0) : Nat) : Int)) 0).2.1 ++ ([125] : Q8)))
    else none
    else none
  else
    some (([] : Q8))
  else none
theorem p41_ok (m : Nat) (x0 : Q5) (q : (Q8)) (h : p41 m x0 = some q) : ∃ r B1, (evCall F S23 (m + 25) 41 [(.d (.sl (.pair .str .str) x0))] []).run = some (r, B1) ∧ 0 ≤ B1.length ∧ wkR B1 [] r (.d (.str q)) ∧ wkBs B1 [] 0 [] := by
  unfold p41 at h
  obtain ⟨c0, h⟩ := iY h
  refine ite_cases h (fun c1 h => ?_) (fun c1 h => ?_)
  · skip
    obtain ⟨c2, h⟩ := iY h
    obtain ⟨c3, h⟩ := iY h
    cases h
    refine ⟨(.d (.str ((l41_0R m (m + 24) x0 (([123] : Q8)) ((((List.length x0) : Nat) : Int)) 0).2.1 ++ ([125] : Q8)))), [], runT_ok (LS := (fun k => if k = 3592 then some (l41_0E x0 ((l41_0R m (m + 24) x0 (([123] : Q8)) ((((List.length x0) : Nat) : Int)) 0).2.1) (((((List.length x0) : Nat) : Int))) ((l41_0R m (m + 24) x0 (([123] : Q8)) ((((List.length x0) : Nat) : Int)) 0).2.2) 0) else none)) (fn := fn41) (vis := [(3592, l41_0H x0 (([123] : Q8)) ((((List.length x0) : Nat) : Int)) 0, l41_0B x0 (([123] : Q8)) ((((List.length x0) : Nat) : Int)) 0)]) (by kernel_rfl) rfl (by kernel_rfl) (M.run_of_path _ [tT, fF, tT] _ _ (by kernel_rfl) (all_t c0 (all_nt c1 (all_t c3 all_nil)))) ?_, by simp, (wkR.one (wkV.one (wk1.eq rfl))), trivial⟩
    intro p hp p2 hq
    rcases List.mem_cons.1 hp with rfl | hp
    · skip
      have h3 := l41_0_ok m (m + 24) x0 (([123] : Q8)) ((((List.length x0) : Nat) : Int)) 0 _ (some_getD (d := l41_0D) c2)
      exact Eq.trans (Eq.mp (by kernel_rfl) h3) hq
    cases hp
  · skip
    cases h
    refine ⟨(.d (.str ([] : Q8))), [], runT_ok (LS := (fun k => none)) (fn := fn41) (vis := []) (by kernel_rfl) rfl (by kernel_rfl) (M.run_of_path _ [tT, tT] _ _ (by kernel_rfl) (all_t c0 (all_nf c1 all_nil))) ?_, by simp, (wkR.one (wkV.one (wk1.eq rfl))), trivial⟩
    intro p hp; cases hp

theorem inter_le (sep : Q8) (B : Nat) : ∀ (l : Q7), (∀ x ∈ l, x.length ≤ B) → (Lib.join l sep).length ≤ l.length * (B + sep.length)
  | [], _ => Nat.zero_le _
  | [a], h => by
    have := h a (List.mem_cons_self ..)
    have e : Lib.join [a] sep = a := by unfold Lib.join; simp [List.intercalate]
    rw [e]
    simp only [List.length_cons, List.length_nil]
    omega
  | a :: b :: l, h => by
    have e : Lib.join (a :: b :: l) sep = a ++ (sep ++ Lib.join (b :: l) sep) := by unfold Lib.join; simp [List.intercalate]
    rw [e, List.length_append, List.length_append]
    have h1 := h a (List.mem_cons_self ..)
    have h2 := inter_le sep B (b :: l) (fun x hx => h x (List.mem_cons_of_mem _ hx))
    have : (a :: b :: l).length * (B + sep.length) = (b :: l).length * (B + sep.length) + (B + sep.length) := by
      rw [List.length_cons, Nat.succ_mul]
    omega
def litemG (x : (Q8) × (Q8)) : Q8 := (x.1 ++ [61]) ++ quoteG x.2
def lprintG (l : LB) : Q8 := if lrightG l = true then ([123] ++ Lib.join (l.map litemG) [44]) ++ [125] else []
theorem lright_all {l : LB} (h : lrightG l = true) : l.length ≤ 6 ∧ ∀ x ∈ l, x.1.length ≤ 24 ∧ x.2.length ≤ 24 := by
  unfold lrightG at h
  rw [Bool.and_eq_true, Bool.and_eq_true, decide_eq_true_eq] at h
  refine ⟨h.2, fun x hx => ?_⟩
  have := List.all_eq_true.1 h.1.1 x hx
  unfold lab1 wordG at this
  simp only [Bool.and_eq_true, decide_eq_true_eq] at this
  omega
theorem litem_le {x : (Q8) × (Q8)} (h : x.1.length ≤ 24 ∧ x.2.length ≤ 24) : (litemG x).length ≤ 100 := by
  unfold litemG
  rw [List.length_append, List.length_append]
  have := quote_le x.2
  simp only [List.length_cons, List.length_nil]
  omega
theorem join_flat : ∀ (l : LB) (x : (Q8) × (Q8)), Lib.join ((x :: l).map litemG) [44] = litemG x ++ l.flatMap (fun y => 44 :: litemG y)
  | [], x => by unfold Lib.join; simp [List.intercalate]
  | y :: l, x => by
    have e : Lib.join ((x :: y :: l).map litemG) [44] = litemG x ++ 44 :: Lib.join ((y :: l).map litemG) [44] := by unfold Lib.join; simp [List.intercalate]
    rw [e, join_flat l y]
    rfl
theorem rprint_loop (m : Nat) (l : LB) (h1 : l.length ≤ 6) (h2 : ∀ x ∈ l, x.1.length ≤ 24 ∧ x.2.length ≤ 24) : ∀ (n k : Nat) (b : Q8), k ≤ l.length → 1 ≤ k → l.length - k < n → b.length ≤ 200 * k → l41_0 m n l b (l.length : Nat) (k : Nat) = some (0, b ++ (l.drop k).flatMap (fun y => 44 :: litemG y), ((l.length : Nat) : Int))
  | 0, k, _, _, _, h, _ => by omega
  | n + 1, k, b, g1, g0, g2, g3 => by
    rw [l41_0]
    by_cases hk : k < l.length
    · have e1 : decide (((k : Nat) : Int) < (((List.length l) : Nat) : Int)) = true := decide_eq_true (by omega)
      have e2 : decide ((0 : Int) ≤ ((k : Nat) : Int)) = true := decide_eq_true (by omega)
      have e3 : decide (((k : Nat) : Int) > 0) = true := decide_eq_true (by omega)
      have e7 : IntKind.wrap .i64 (((k : Nat) : Int) + (1)) = ((k + 1 : Nat) : Int) := by rw [wrap_id (by omega) (by omega)]; rfl
      have hq := h2 _ (getD_mem l k (([] : Q8), ([] : Q8)) hk)
      have go := fun x (hx : x.length ≤ 200 * (k + 1)) => rprint_loop m l h1 h2 n (k + 1) x (by omega) (by omega) (by omega) hx
      rw [drop_getD l k (([] : Q8), ([] : Q8)) hk]
      simp only [show Int.toNat ((k : Nat) : Int) = k from rfl, e1, e2, e3, e7, ↓reduceIte]
      generalize l.getD k (([] : Q8), ([] : Q8)) = q at *
      have hi : litemG q = (q.1 ++ [61]) ++ quoteG q.2 := rfl
      have hql := quote_le q.2
      have b0 : decide (List.length q.2 ≤ 1000000) = true := decide_eq_true (by omega)
      have b1 : decide (List.length b + List.length ([44] : Q8) ≤ 4611686018427387904) = true := decide_eq_true (by simp only [List.length_cons, List.length_nil]; omega)
      have b2 : decide (List.length (b ++ ([44] : Q8)) + List.length q.1 ≤ 4611686018427387904) = true := decide_eq_true (by simp only [List.length_append, List.length_cons, List.length_nil]; omega)
      have b3 : decide (List.length ((b ++ ([44] : Q8)) ++ q.1) + List.length ([61] : Q8) ≤ 4611686018427387904) = true := decide_eq_true (by simp only [List.length_append, List.length_cons, List.length_nil]; omega)
      have b4 : decide (List.length (((b ++ ([44] : Q8)) ++ q.1) ++ ([61] : Q8)) + List.length (quoteG q.2) ≤ 4611686018427387904) = true := decide_eq_true (by simp only [List.length_append, List.length_cons, List.length_nil]; omega)
      simp only [b0, b1, b2, b3, b4, ↓reduceIte]
      rw [go _ (by simp only [List.length_append, List.length_cons, List.length_nil]; omega), List.flatMap_cons, hi]
      simp
    · have e1 : decide (((k : Nat) : Int) < (((List.length l) : Nat) : Int)) = false := decide_eq_false (by omega)
      have e0 : k = l.length := by omega
      subst e0
      rw [e1, if_neg (by simp), List.drop_length, List.flatMap_nil, List.append_nil]
theorem rlprint41 (l : LB) (h : lrightPre l = true) : ∃ m, p41 m l = some (lprintG l) := by
  refine ⟨l.length, ?_⟩
  unfold p41 lprintG
  rw [if_pos h]
  by_cases hr : lrightG l = true
  · obtain ⟨h1, h2⟩ := lright_all hr
    rw [if_pos hr, if_pos hr]
    have hl : l41_0 l.length (l.length + 24) l [123] ((l.length : Nat) : Int) 0 = some (0, [123] ++ Lib.join (l.map litemG) [44], ((l.length : Nat) : Int)) := by
      rw [l41_0]
      cases l with
      | nil => rfl
      | cons q t =>
        have e1 : decide ((0 : Int) < (((List.length (q :: t)) : Nat) : Int)) = true := decide_eq_true (by simp only [List.length_cons]; omega)
        have e7 : IntKind.wrap .i64 (0 + (1)) = ((1 : Nat) : Int) := by decide
        have hq := h2 q (List.mem_cons_self ..)
        have hi : litemG q = (q.1 ++ [61]) ++ quoteG q.2 := rfl
        have hql := quote_le q.2
        have b0 : decide (List.length q.2 ≤ 1000000) = true := decide_eq_true (by omega)
        have b2 : decide (List.length ([123] : Q8) + List.length q.1 ≤ 4611686018427387904) = true := decide_eq_true (by simp only [List.length_cons, List.length_nil]; omega)
        have b3 : decide (List.length (([123] : Q8) ++ q.1) + List.length ([61] : Q8) ≤ 4611686018427387904) = true := decide_eq_true (by simp only [List.length_append, List.length_cons, List.length_nil]; omega)
        have b4 : decide (List.length ((([123] : Q8) ++ q.1) ++ ([61] : Q8)) + List.length (quoteG q.2) ≤ 4611686018427387904) = true := decide_eq_true (by simp only [List.length_append, List.length_cons, List.length_nil]; omega)
        have go := rprint_loop (q :: t).length (q :: t) h1 h2 ((q :: t).length + 23) 1 ((([123] ++ q.1) ++ [61]) ++ quoteG q.2) (by simp) (Nat.le_refl _) (by omega) (by simp only [List.length_append, List.length_cons, List.length_nil]; omega)
        rw [join_flat]
        simp only [show Int.toNat 0 = 0 from rfl, show List.getD (q :: t) 0 (([] : Q8), ([] : Q8)) = q from rfl, e1, e7, b0, b2, b3, b4, Int.le_refl, Int.lt_irrefl, gt_iff_lt, decide_true, decide_false, Bool.false_eq_true, ↓reduceIte]
        rw [go, hi]
        simp
    simp only [l41_0R, hl, Option.isSome_some, Option.getD_some, ↓reduceIte]
    have hj := inter_le [44] 100 (l.map litemG) (by
      intro x hx
      obtain ⟨y, hy, rfl⟩ := List.mem_map.1 hx
      exact litem_le (h2 y hy))
    have hm : (l.map litemG).length = l.length := by simp
    rw [hm] at hj
    generalize hJ : Lib.join (l.map litemG) [44] = J at *
    have : l.length * (100 + ([44] : Q8).length) ≤ 606 := by
      simp only [List.length_cons, List.length_nil]; omega
    rw [if_pos]
    exact decide_eq_true (by simp only [List.length_append, List.length_cons, List.length_nil]; omega)
  · rw [if_neg hr, if_neg hr]
def s41 : List AV → Boxes → M (AV × Boxes) := normS [.val (.sl (.pair .str .str))] [] fun xs B => match xs, B with
  | [(.d (.sl (.pair .str .str) c1))], [] => .chk (lrightPre c1) (.ret ((.d (.str (lprintG c1))), []))
  | _, _ => .fail
theorem s41_at : CallAt Tryd.prog 41 s41 := by
  refine CallAt.norm (CallAt.weakE (g := fun n => evCall F S23 n 41) (fun n => evCall_atH mixed kinds hds S23 S23_ok n 41) fun xs B r' B' hr => ?_) _ _
  split at hr
  · rename_i c1
    obtain ⟨hp, hr⟩ := (M.run_chk _ _ _).1 hr
    simp only [M.run, Option.some.injEq, Prod.mk.injEq] at hr
    obtain ⟨rfl, rfl⟩ := hr
    obtain ⟨m, hm⟩ := rlprint41 c1 hp
    obtain ⟨r, B1, h1, h2, h3, h4⟩ := p41_ok m c1 _ hm
    exact ⟨m + 25, r, B1, h1, by simp, h2, h3, h4⟩
  · simp [M.run] at hr
noncomputable def S24 : FuncId → Option (List AV → Boxes → M (AV × Boxes)) := fun f => if f = 41 then some s41 else S23 f
theorem S24_ok : ∀ f s, S24 f = some s → CallAt Tryd.prog f s := by
  intro f s h
  unfold S24 at h
  split at h
  · rename_i e; subst e; cases h; exact s41_at
  · exact S23_ok f s h

end Go.Proofs.YtghkbjflejgieaaDoor.Dec
