/- The document its own words. The document its own PrintSet, Get. Roomy, Intact. -/
import Derived.Test.YtcdpgldecikejaaDoorQF6
import Derived.KernelRfl
namespace Go.Proofs.YtcdpgldecikejaaDoor.Dec
open Go.Ev
set_option linter.unusedVariables false
set_option linter.unusedSimpArgs false
set_option maxRecDepth 100000
noncomputable def fn50 : AFn := (F 50).getD ⟨0, [], .bad, false, false, noHd⟩
noncomputable def body50 : AC := fn50.body
def l50_0 (m : Nat) : Nat → List UInt8 → Int → Option (Nat × Int)
  | 0, _, _ => none
  | n + 1, x0, s3 => if decide (s3 < (((List.length x0) : Nat) : Int)) = true then
      if decide (0 ≤ s3) = true then
        if decide (((UInt8.toNat (List.getD x0 (Int.toNat s3) 0) : Nat) : Int) ≥ 97) = true then
          if decide (((UInt8.toNat (List.getD x0 (Int.toNat s3) 0) : Nat) : Int) ≤ 122) = true then
            l50_0 m n x0 ((IntKind.wrap .i64 (s3 + (1))))
          else
            if (s3 == (0)) = true then
              some (0, s3)
            else
              if (((UInt8.toNat (List.getD x0 (Int.toNat s3) 0) : Nat) : Int) != (95)) = true then
                if decide (((UInt8.toNat (List.getD x0 (Int.toNat s3) 0) : Nat) : Int) < 48) = true then
                  some (1, s3)
                else
                  if decide (((UInt8.toNat (List.getD x0 (Int.toNat s3) 0) : Nat) : Int) > 57) = true then
                    some (2, s3)
                  else
                    l50_0 m n x0 ((IntKind.wrap .i64 (s3 + (1))))
              else
                l50_0 m n x0 ((IntKind.wrap .i64 (s3 + (1))))
        else
          if (s3 == (0)) = true then
            some (3, s3)
          else
            if (((UInt8.toNat (List.getD x0 (Int.toNat s3) 0) : Nat) : Int) != (95)) = true then
              if decide (((UInt8.toNat (List.getD x0 (Int.toNat s3) 0) : Nat) : Int) < 48) = true then
                some (4, s3)
              else
                if decide (((UInt8.toNat (List.getD x0 (Int.toNat s3) 0) : Nat) : Int) > 57) = true then
                  some (5, s3)
                else
                  l50_0 m n x0 ((IntKind.wrap .i64 (s3 + (1))))
            else
              l50_0 m n x0 ((IntKind.wrap .i64 (s3 + (1))))
      else
        none
    else
      some (6, s3)
def l50_0D : Nat × Int := (0, 0)
@[reducible] def l50_0R (m n : Nat) (x0 : List UInt8) (s3 : Int) : Nat × Int := Option.getD (l50_0 m n x0 s3) l50_0D
def l50_0H (x0 : List UInt8) (s3 : Int) : Env := [(.d (.str x0)), .top, .top, (.d (.int .i64 s3)), .top, .top, .top, .top, .top, .top, .top, .top, .top, .top, .top, .top, .top, .top, .top, .top, .top, .top, .top, .top, .top, .top, .top, .top, .top, .top, .top, .top, .top, .top, .top, .top, .top, .top, .top, .top, .top, .top, .top, .top, .top, .top, .top, .top, .top, .top, .top, .top, .top]
def l50_0B (x0 : List UInt8) (s3 : Int) : Boxes := []
def l50_0E (x0 : List UInt8) (s3 : Int) : Nat → AEx × Env × Boxes
  | 0 => (.ret, [(.d (.str x0)), .top, (.d (.bool false)), (.d (.int .i64 s3)), (.d (.bool (decide (((UInt8.toNat (List.getD x0 (Int.toNat s3) 0) : Nat) : Int) ≤ 122)))), (.d (.int .i64 s3)), (.d (.str x0)), (.d (.int .i64 (((List.length x0) : Nat) : Int))), (.d (.bool (decide (s3 < (((List.length x0) : Nat) : Int))))), .top, .top, (.d (.str x0)), (.d (.int .i64 s3)), (.d (.int .u8 ((UInt8.toNat (List.getD x0 (Int.toNat s3) 0) : Nat) : Int))), (.d (.bool (decide (((UInt8.toNat (List.getD x0 (Int.toNat s3) 0) : Nat) : Int) ≥ 97)))), (.d (.bool (decide (((UInt8.toNat (List.getD x0 (Int.toNat s3) 0) : Nat) : Int) ≥ 97)))), (.d (.str x0)), (.d (.int .i64 s3)), (.d (.int .u8 ((UInt8.toNat (List.getD x0 (Int.toNat s3) 0) : Nat) : Int))), (.d (.bool (decide (((UInt8.toNat (List.getD x0 (Int.toNat s3) 0) : Nat) : Int) ≤ 122)))), (.d (.bool (decide (((UInt8.toNat (List.getD x0 (Int.toNat s3) 0) : Nat) : Int) ≤ 122)))), (.d (.bool (decide (((UInt8.toNat (List.getD x0 (Int.toNat s3) 0) : Nat) : Int) ≤ 122)))), (.d (.bool (!decide (((UInt8.toNat (List.getD x0 (Int.toNat s3) 0) : Nat) : Int) ≤ 122)))), (.d (.bool (!decide (((UInt8.toNat (List.getD x0 (Int.toNat s3) 0) : Nat) : Int) ≤ 122)))), (.d (.int .i64 s3)), (.d (.bool (s3 == (0)))), (.d (.bool (s3 == (0)))), (.tup []), (.tup []), (.tup []), (.tup []), (.tup []), (.tup []), (.tup []), (.tup []), (.tup []), (.tup []), (.tup []), (.tup []), (.tup []), (.tup []), (.tup []), (.tup []), (.d (.bool true)), (.d (.bool true)), .top, .top, .top, .top, .top, .top, .top, .top], [])
  | 1 => (.ret, [(.d (.str x0)), .top, (.d (.bool false)), (.d (.int .i64 s3)), (.d (.bool (decide (((UInt8.toNat (List.getD x0 (Int.toNat s3) 0) : Nat) : Int) ≤ 122)))), (.d (.int .i64 s3)), (.d (.str x0)), (.d (.int .i64 (((List.length x0) : Nat) : Int))), (.d (.bool (decide (s3 < (((List.length x0) : Nat) : Int))))), .top, .top, (.d (.str x0)), (.d (.int .i64 s3)), (.d (.int .u8 ((UInt8.toNat (List.getD x0 (Int.toNat s3) 0) : Nat) : Int))), (.d (.bool (decide (((UInt8.toNat (List.getD x0 (Int.toNat s3) 0) : Nat) : Int) ≥ 97)))), (.d (.bool (decide (((UInt8.toNat (List.getD x0 (Int.toNat s3) 0) : Nat) : Int) ≥ 97)))), (.d (.str x0)), (.d (.int .i64 s3)), (.d (.int .u8 ((UInt8.toNat (List.getD x0 (Int.toNat s3) 0) : Nat) : Int))), (.d (.bool (decide (((UInt8.toNat (List.getD x0 (Int.toNat s3) 0) : Nat) : Int) ≤ 122)))), (.d (.bool (decide (((UInt8.toNat (List.getD x0 (Int.toNat s3) 0) : Nat) : Int) ≤ 122)))), (.d (.bool (decide (((UInt8.toNat (List.getD x0 (Int.toNat s3) 0) : Nat) : Int) ≤ 122)))), (.d (.bool (!decide (((UInt8.toNat (List.getD x0 (Int.toNat s3) 0) : Nat) : Int) ≤ 122)))), (.d (.bool (!decide (((UInt8.toNat (List.getD x0 (Int.toNat s3) 0) : Nat) : Int) ≤ 122)))), (.d (.int .i64 s3)), (.d (.bool (s3 == (0)))), (.d (.bool (s3 == (0)))), (.d (.str x0)), (.d (.int .i64 s3)), (.d (.int .u8 ((UInt8.toNat (List.getD x0 (Int.toNat s3) 0) : Nat) : Int))), (.d (.bool (((UInt8.toNat (List.getD x0 (Int.toNat s3) 0) : Nat) : Int) != (95)))), (.d (.bool (((UInt8.toNat (List.getD x0 (Int.toNat s3) 0) : Nat) : Int) != (95)))), (.d (.str x0)), (.d (.int .i64 s3)), (.d (.int .u8 ((UInt8.toNat (List.getD x0 (Int.toNat s3) 0) : Nat) : Int))), (.d (.bool (decide (((UInt8.toNat (List.getD x0 (Int.toNat s3) 0) : Nat) : Int) < 48)))), (.d (.bool (decide (((UInt8.toNat (List.getD x0 (Int.toNat s3) 0) : Nat) : Int) < 48)))), (.tup []), (.tup []), (.tup []), (.tup []), (.d (.bool true)), (.d (.bool true)), (.d (.bool true)), (.d (.bool true)), .top, .top, .top, .top, .top, .top, .top, .top], [])
  | 2 => (.ret, [(.d (.str x0)), .top, (.d (.bool false)), (.d (.int .i64 s3)), (.d (.bool (decide (((UInt8.toNat (List.getD x0 (Int.toNat s3) 0) : Nat) : Int) ≤ 122)))), (.d (.int .i64 s3)), (.d (.str x0)), (.d (.int .i64 (((List.length x0) : Nat) : Int))), (.d (.bool (decide (s3 < (((List.length x0) : Nat) : Int))))), .top, .top, (.d (.str x0)), (.d (.int .i64 s3)), (.d (.int .u8 ((UInt8.toNat (List.getD x0 (Int.toNat s3) 0) : Nat) : Int))), (.d (.bool (decide (((UInt8.toNat (List.getD x0 (Int.toNat s3) 0) : Nat) : Int) ≥ 97)))), (.d (.bool (decide (((UInt8.toNat (List.getD x0 (Int.toNat s3) 0) : Nat) : Int) ≥ 97)))), (.d (.str x0)), (.d (.int .i64 s3)), (.d (.int .u8 ((UInt8.toNat (List.getD x0 (Int.toNat s3) 0) : Nat) : Int))), (.d (.bool (decide (((UInt8.toNat (List.getD x0 (Int.toNat s3) 0) : Nat) : Int) ≤ 122)))), (.d (.bool (decide (((UInt8.toNat (List.getD x0 (Int.toNat s3) 0) : Nat) : Int) ≤ 122)))), (.d (.bool (decide (((UInt8.toNat (List.getD x0 (Int.toNat s3) 0) : Nat) : Int) ≤ 122)))), (.d (.bool (!decide (((UInt8.toNat (List.getD x0 (Int.toNat s3) 0) : Nat) : Int) ≤ 122)))), (.d (.bool (!decide (((UInt8.toNat (List.getD x0 (Int.toNat s3) 0) : Nat) : Int) ≤ 122)))), (.d (.int .i64 s3)), (.d (.bool (s3 == (0)))), (.d (.bool (s3 == (0)))), (.d (.str x0)), (.d (.int .i64 s3)), (.d (.int .u8 ((UInt8.toNat (List.getD x0 (Int.toNat s3) 0) : Nat) : Int))), (.d (.bool (((UInt8.toNat (List.getD x0 (Int.toNat s3) 0) : Nat) : Int) != (95)))), (.d (.bool (((UInt8.toNat (List.getD x0 (Int.toNat s3) 0) : Nat) : Int) != (95)))), (.d (.str x0)), (.d (.int .i64 s3)), (.d (.int .u8 ((UInt8.toNat (List.getD x0 (Int.toNat s3) 0) : Nat) : Int))), (.d (.bool (decide (((UInt8.toNat (List.getD x0 (Int.toNat s3) 0) : Nat) : Int) < 48)))), (.d (.bool (decide (((UInt8.toNat (List.getD x0 (Int.toNat s3) 0) : Nat) : Int) < 48)))), (.d (.str x0)), (.d (.int .i64 s3)), (.d (.int .u8 ((UInt8.toNat (List.getD x0 (Int.toNat s3) 0) : Nat) : Int))), (.d (.bool (decide (((UInt8.toNat (List.getD x0 (Int.toNat s3) 0) : Nat) : Int) > 57)))), (.d (.bool (decide (((UInt8.toNat (List.getD x0 (Int.toNat s3) 0) : Nat) : Int) > 57)))), (.d (.bool (decide (((UInt8.toNat (List.getD x0 (Int.toNat s3) 0) : Nat) : Int) > 57)))), (.d (.bool (decide (((UInt8.toNat (List.getD x0 (Int.toNat s3) 0) : Nat) : Int) > 57)))), (.d (.bool (decide (((UInt8.toNat (List.getD x0 (Int.toNat s3) 0) : Nat) : Int) > 57)))), .top, .top, .top, .top, .top, .top, .top, .top], [])
  | 3 => (.ret, [(.d (.str x0)), .top, (.d (.bool false)), (.d (.int .i64 s3)), (.d (.bool false)), (.d (.int .i64 s3)), (.d (.str x0)), (.d (.int .i64 (((List.length x0) : Nat) : Int))), (.d (.bool (decide (s3 < (((List.length x0) : Nat) : Int))))), .top, .top, (.d (.str x0)), (.d (.int .i64 s3)), (.d (.int .u8 ((UInt8.toNat (List.getD x0 (Int.toNat s3) 0) : Nat) : Int))), (.d (.bool (decide (((UInt8.toNat (List.getD x0 (Int.toNat s3) 0) : Nat) : Int) ≥ 97)))), (.d (.bool (decide (((UInt8.toNat (List.getD x0 (Int.toNat s3) 0) : Nat) : Int) ≥ 97)))), (.tup []), (.tup []), (.tup []), (.tup []), (.d (.bool false)), (.d (.bool false)), (.d (.bool true)), (.d (.bool true)), (.d (.int .i64 s3)), (.d (.bool (s3 == (0)))), (.d (.bool (s3 == (0)))), (.tup []), (.tup []), (.tup []), (.tup []), (.tup []), (.tup []), (.tup []), (.tup []), (.tup []), (.tup []), (.tup []), (.tup []), (.tup []), (.tup []), (.tup []), (.tup []), (.d (.bool true)), (.d (.bool true)), .top, .top, .top, .top, .top, .top, .top, .top], [])
  | 4 => (.ret, [(.d (.str x0)), .top, (.d (.bool false)), (.d (.int .i64 s3)), (.d (.bool false)), (.d (.int .i64 s3)), (.d (.str x0)), (.d (.int .i64 (((List.length x0) : Nat) : Int))), (.d (.bool (decide (s3 < (((List.length x0) : Nat) : Int))))), .top, .top, (.d (.str x0)), (.d (.int .i64 s3)), (.d (.int .u8 ((UInt8.toNat (List.getD x0 (Int.toNat s3) 0) : Nat) : Int))), (.d (.bool (decide (((UInt8.toNat (List.getD x0 (Int.toNat s3) 0) : Nat) : Int) ≥ 97)))), (.d (.bool (decide (((UInt8.toNat (List.getD x0 (Int.toNat s3) 0) : Nat) : Int) ≥ 97)))), (.tup []), (.tup []), (.tup []), (.tup []), (.d (.bool false)), (.d (.bool false)), (.d (.bool true)), (.d (.bool true)), (.d (.int .i64 s3)), (.d (.bool (s3 == (0)))), (.d (.bool (s3 == (0)))), (.d (.str x0)), (.d (.int .i64 s3)), (.d (.int .u8 ((UInt8.toNat (List.getD x0 (Int.toNat s3) 0) : Nat) : Int))), (.d (.bool (((UInt8.toNat (List.getD x0 (Int.toNat s3) 0) : Nat) : Int) != (95)))), (.d (.bool (((UInt8.toNat (List.getD x0 (Int.toNat s3) 0) : Nat) : Int) != (95)))), (.d (.str x0)), (.d (.int .i64 s3)), (.d (.int .u8 ((UInt8.toNat (List.getD x0 (Int.toNat s3) 0) : Nat) : Int))), (.d (.bool (decide (((UInt8.toNat (List.getD x0 (Int.toNat s3) 0) : Nat) : Int) < 48)))), (.d (.bool (decide (((UInt8.toNat (List.getD x0 (Int.toNat s3) 0) : Nat) : Int) < 48)))), (.tup []), (.tup []), (.tup []), (.tup []), (.d (.bool true)), (.d (.bool true)), (.d (.bool true)), (.d (.bool true)), .top, .top, .top, .top, .top, .top, .top, .top], [])
  | 5 => (.ret, [(.d (.str x0)), .top, (.d (.bool false)), (.d (.int .i64 s3)), (.d (.bool false)), (.d (.int .i64 s3)), (.d (.str x0)), (.d (.int .i64 (((List.length x0) : Nat) : Int))), (.d (.bool (decide (s3 < (((List.length x0) : Nat) : Int))))), .top, .top, (.d (.str x0)), (.d (.int .i64 s3)), (.d (.int .u8 ((UInt8.toNat (List.getD x0 (Int.toNat s3) 0) : Nat) : Int))), (.d (.bool (decide (((UInt8.toNat (List.getD x0 (Int.toNat s3) 0) : Nat) : Int) ≥ 97)))), (.d (.bool (decide (((UInt8.toNat (List.getD x0 (Int.toNat s3) 0) : Nat) : Int) ≥ 97)))), (.tup []), (.tup []), (.tup []), (.tup []), (.d (.bool false)), (.d (.bool false)), (.d (.bool true)), (.d (.bool true)), (.d (.int .i64 s3)), (.d (.bool (s3 == (0)))), (.d (.bool (s3 == (0)))), (.d (.str x0)), (.d (.int .i64 s3)), (.d (.int .u8 ((UInt8.toNat (List.getD x0 (Int.toNat s3) 0) : Nat) : Int))), (.d (.bool (((UInt8.toNat (List.getD x0 (Int.toNat s3) 0) : Nat) : Int) != (95)))), (.d (.bool (((UInt8.toNat (List.getD x0 (Int.toNat s3) 0) : Nat) : Int) != (95)))), (.d (.str x0)), (.d (.int .i64 s3)), (.d (.int .u8 ((UInt8.toNat (List.getD x0 (Int.toNat s3) 0) : Nat) : Int))), (.d (.bool (decide (((UInt8.toNat (List.getD x0 (Int.toNat s3) 0) : Nat) : Int) < 48)))), (.d (.bool (decide (((UInt8.toNat (List.getD x0 (Int.toNat s3) 0) : Nat) : Int) < 48)))), (.d (.str x0)), (.d (.int .i64 s3)), (.d (.int .u8 ((UInt8.toNat (List.getD x0 (Int.toNat s3) 0) : Nat) : Int))), (.d (.bool (decide (((UInt8.toNat (List.getD x0 (Int.toNat s3) 0) : Nat) : Int) > 57)))), (.d (.bool (decide (((UInt8.toNat (List.getD x0 (Int.toNat s3) 0) : Nat) : Int) > 57)))), (.d (.bool (decide (((UInt8.toNat (List.getD x0 (Int.toNat s3) 0) : Nat) : Int) > 57)))), (.d (.bool (decide (((UInt8.toNat (List.getD x0 (Int.toNat s3) 0) : Nat) : Int) > 57)))), (.d (.bool (decide (((UInt8.toNat (List.getD x0 (Int.toNat s3) 0) : Nat) : Int) > 57)))), .top, .top, .top, .top, .top, .top, .top, .top], [])
  | _ => (.exit 0, [(.d (.str x0)), .top, .top, (.d (.int .i64 s3)), .top, (.d (.int .i64 s3)), (.d (.str x0)), (.d (.int .i64 (((List.length x0) : Nat) : Int))), (.d (.bool (decide (s3 < (((List.length x0) : Nat) : Int))))), .top, .top, .top, .top, .top, .top, .top, .top, .top, .top, .top, .top, .top, .top, .top, .top, .top, .top, .top, .top, .top, .top, .top, .top, .top, .top, .top, .top, .top, .top, .top, .top, .top, .top, .top, .top, .top, .top, .top, .top, .top, .top, .top, .top], [])
noncomputable def lbl50_0 : AC := loopBody 9 body50

set_option maxHeartbeats 20000000 in
theorem l50_0_w0 (m n : Nat) (x0 : List UInt8) (s3 : Int) (r : AEx × Env × Boxes) (c0 : decide (s3 < (((List.length x0) : Nat) : Int)) = true) (c1 : decide (0 ≤ s3) = true) (c3 : decide (((UInt8.toNat (List.getD x0 (Int.toNat s3) 0) : Nat) : Int) ≥ 97) = true) (c10 : decide (((UInt8.toNat (List.getD x0 (Int.toNat s3) 0) : Nat) : Int) ≤ 122) = true) (ih : (turns (hds 50 9) 0 9 (evC byref (evCall F S21 (m + 24)) (m + 24) 0 (hds 50) lbl50_0) n (l50_0H x0 ((IntKind.wrap .i64 (s3 + (1))))) (l50_0B x0 ((IntKind.wrap .i64 (s3 + (1)))))).run = some r) : (turns (hds 50 9) 0 9 (evC byref (evCall F S21 (m + 24)) (m + 24) 0 (hds 50) lbl50_0) (n + 1) (l50_0H x0 s3) (l50_0B x0 s3)).run = some r := by
  exact turns_step (M.run_of_path _ [true, true, true, true, true, true, true, true, true, true, false, false, false, false, false, false] _ _ (by kernel_rfl) (all_t c0 (all_t c1 (all_t c0 (all_t c3 (all_t c3 (all_t c3 (all_t c1 (all_t c0 (all_t c3 (all_t c3 (all_nt c10 (all_nt c10 (all_nt c10 (all_nt c10 (all_nt c10 (all_f Bool.false_ne_true all_nil))))))))))))))))) ih
set_option maxHeartbeats 20000000 in
theorem l50_0_w1 (m n : Nat) (x0 : List UInt8) (s3 : Int) (c0 : decide (s3 < (((List.length x0) : Nat) : Int)) = true) (c1 : decide (0 ≤ s3) = true) (c3 : decide (((UInt8.toNat (List.getD x0 (Int.toNat s3) 0) : Nat) : Int) ≥ 97) = true) (c10 : ¬ decide (((UInt8.toNat (List.getD x0 (Int.toNat s3) 0) : Nat) : Int) ≤ 122) = true) (c13 : (s3 == (0)) = true) : (turns (hds 50 9) 0 9 (evC byref (evCall F S21 (m + 24)) (m + 24) 0 (hds 50) lbl50_0) (n + 1) (l50_0H x0 s3) (l50_0B x0 s3)).run = some (.ret, [(.d (.str x0)), .top, (.d (.bool false)), (.d (.int .i64 s3)), (.d (.bool (decide (((UInt8.toNat (List.getD x0 (Int.toNat s3) 0) : Nat) : Int) ≤ 122)))), (.d (.int .i64 s3)), (.d (.str x0)), (.d (.int .i64 (((List.length x0) : Nat) : Int))), (.d (.bool (decide (s3 < (((List.length x0) : Nat) : Int))))), .top, .top, (.d (.str x0)), (.d (.int .i64 s3)), (.d (.int .u8 ((UInt8.toNat (List.getD x0 (Int.toNat s3) 0) : Nat) : Int))), (.d (.bool (decide (((UInt8.toNat (List.getD x0 (Int.toNat s3) 0) : Nat) : Int) ≥ 97)))), (.d (.bool (decide (((UInt8.toNat (List.getD x0 (Int.toNat s3) 0) : Nat) : Int) ≥ 97)))), (.d (.str x0)), (.d (.int .i64 s3)), (.d (.int .u8 ((UInt8.toNat (List.getD x0 (Int.toNat s3) 0) : Nat) : Int))), (.d (.bool (decide (((UInt8.toNat (List.getD x0 (Int.toNat s3) 0) : Nat) : Int) ≤ 122)))), (.d (.bool (decide (((UInt8.toNat (List.getD x0 (Int.toNat s3) 0) : Nat) : Int) ≤ 122)))), (.d (.bool (decide (((UInt8.toNat (List.getD x0 (Int.toNat s3) 0) : Nat) : Int) ≤ 122)))), (.d (.bool (!decide (((UInt8.toNat (List.getD x0 (Int.toNat s3) 0) : Nat) : Int) ≤ 122)))), (.d (.bool (!decide (((UInt8.toNat (List.getD x0 (Int.toNat s3) 0) : Nat) : Int) ≤ 122)))), (.d (.int .i64 s3)), (.d (.bool (s3 == (0)))), (.d (.bool (s3 == (0)))), (.tup []), (.tup []), (.tup []), (.tup []), (.tup []), (.tup []), (.tup []), (.tup []), (.tup []), (.tup []), (.tup []), (.tup []), (.tup []), (.tup []), (.tup []), (.tup []), (.d (.bool true)), (.d (.bool true)), .top, .top, .top, .top, .top, .top, .top, .top], []) := by
  exact turns_last (by simp) (M.run_of_path _ [true, true, true, true, true, true, true, true, true, true, true, true, true, true, true, true, true, true, true, true, true, true, true] _ _ (by kernel_rfl) (all_t c0 (all_t c1 (all_t c0 (all_t c3 (all_t c3 (all_t c3 (all_t c1 (all_t c0 (all_t c3 (all_t c3 (all_nf c10 (all_nf c10 (all_nf c10 (all_t c13 (all_t c13 (all_t c13 (all_t c13 (all_t c13 (all_t c13 (all_nf c10 (all_t c13 (all_nf c10 (all_t rfl all_nil)))))))))))))))))))))))) 
set_option maxHeartbeats 20000000 in
theorem l50_0_w2 (m n : Nat) (x0 : List UInt8) (s3 : Int) (c0 : decide (s3 < (((List.length x0) : Nat) : Int)) = true) (c1 : decide (0 ≤ s3) = true) (c3 : decide (((UInt8.toNat (List.getD x0 (Int.toNat s3) 0) : Nat) : Int) ≥ 97) = true) (c10 : ¬ decide (((UInt8.toNat (List.getD x0 (Int.toNat s3) 0) : Nat) : Int) ≤ 122) = true) (c13 : ¬ (s3 == (0)) = true) (c20 : (((UInt8.toNat (List.getD x0 (Int.toNat s3) 0) : Nat) : Int) != (95)) = true) (c27 : decide (((UInt8.toNat (List.getD x0 (Int.toNat s3) 0) : Nat) : Int) < 48) = true) : (turns (hds 50 9) 0 9 (evC byref (evCall F S21 (m + 24)) (m + 24) 0 (hds 50) lbl50_0) (n + 1) (l50_0H x0 s3) (l50_0B x0 s3)).run = some (.ret, [(.d (.str x0)), .top, (.d (.bool false)), (.d (.int .i64 s3)), (.d (.bool (decide (((UInt8.toNat (List.getD x0 (Int.toNat s3) 0) : Nat) : Int) ≤ 122)))), (.d (.int .i64 s3)), (.d (.str x0)), (.d (.int .i64 (((List.length x0) : Nat) : Int))), (.d (.bool (decide (s3 < (((List.length x0) : Nat) : Int))))), .top, .top, (.d (.str x0)), (.d (.int .i64 s3)), (.d (.int .u8 ((UInt8.toNat (List.getD x0 (Int.toNat s3) 0) : Nat) : Int))), (.d (.bool (decide (((UInt8.toNat (List.getD x0 (Int.toNat s3) 0) : Nat) : Int) ≥ 97)))), (.d (.bool (decide (((UInt8.toNat (List.getD x0 (Int.toNat s3) 0) : Nat) : Int) ≥ 97)))), (.d (.str x0)), (.d (.int .i64 s3)), (.d (.int .u8 ((UInt8.toNat (List.getD x0 (Int.toNat s3) 0) : Nat) : Int))), (.d (.bool (decide (((UInt8.toNat (List.getD x0 (Int.toNat s3) 0) : Nat) : Int) ≤ 122)))), (.d (.bool (decide (((UInt8.toNat (List.getD x0 (Int.toNat s3) 0) : Nat) : Int) ≤ 122)))), (.d (.bool (decide (((UInt8.toNat (List.getD x0 (Int.toNat s3) 0) : Nat) : Int) ≤ 122)))), (.d (.bool (!decide (((UInt8.toNat (List.getD x0 (Int.toNat s3) 0) : Nat) : Int) ≤ 122)))), (.d (.bool (!decide (((UInt8.toNat (List.getD x0 (Int.toNat s3) 0) : Nat) : Int) ≤ 122)))), (.d (.int .i64 s3)), (.d (.bool (s3 == (0)))), (.d (.bool (s3 == (0)))), (.d (.str x0)), (.d (.int .i64 s3)), (.d (.int .u8 ((UInt8.toNat (List.getD x0 (Int.toNat s3) 0) : Nat) : Int))), (.d (.bool (((UInt8.toNat (List.getD x0 (Int.toNat s3) 0) : Nat) : Int) != (95)))), (.d (.bool (((UInt8.toNat (List.getD x0 (Int.toNat s3) 0) : Nat) : Int) != (95)))), (.d (.str x0)), (.d (.int .i64 s3)), (.d (.int .u8 ((UInt8.toNat (List.getD x0 (Int.toNat s3) 0) : Nat) : Int))), (.d (.bool (decide (((UInt8.toNat (List.getD x0 (Int.toNat s3) 0) : Nat) : Int) < 48)))), (.d (.bool (decide (((UInt8.toNat (List.getD x0 (Int.toNat s3) 0) : Nat) : Int) < 48)))), (.tup []), (.tup []), (.tup []), (.tup []), (.d (.bool true)), (.d (.bool true)), (.d (.bool true)), (.d (.bool true)), .top, .top, .top, .top, .top, .top, .top, .top], []) := by
  exact turns_last (by simp) (M.run_of_path _ [true, true, true, true, true, true, true, true, true, true, true, true, true, false, false, false, true, true, false, false, true, true, true, true, true, true, true, true, true, true, true, true, true, false, true, true, false, true, true] _ _ (by kernel_rfl) (all_t c0 (all_t c1 (all_t c0 (all_t c3 (all_t c3 (all_t c3 (all_t c1 (all_t c0 (all_t c3 (all_t c3 (all_nf c10 (all_nf c10 (all_nf c10 (all_f c13 (all_f c13 (all_f c13 (all_t c1 (all_t c0 (all_f c13 (all_f c13 (all_t c20 (all_t c20 (all_t c20 (all_t c1 (all_t c0 (all_t c20 (all_t c20 (all_t c27 (all_t c27 (all_t c27 (all_t c27 (all_t c20 (all_t c27 (all_f c13 (all_t c20 (all_nf c10 (all_f c13 (all_nf c10 (all_t rfl all_nil)))))))))))))))))))))))))))))))))))))))) 
set_option maxHeartbeats 20000000 in
theorem l50_0_w3 (m n : Nat) (x0 : List UInt8) (s3 : Int) (c0 : decide (s3 < (((List.length x0) : Nat) : Int)) = true) (c1 : decide (0 ≤ s3) = true) (c3 : decide (((UInt8.toNat (List.getD x0 (Int.toNat s3) 0) : Nat) : Int) ≥ 97) = true) (c10 : ¬ decide (((UInt8.toNat (List.getD x0 (Int.toNat s3) 0) : Nat) : Int) ≤ 122) = true) (c13 : ¬ (s3 == (0)) = true) (c20 : (((UInt8.toNat (List.getD x0 (Int.toNat s3) 0) : Nat) : Int) != (95)) = true) (c27 : ¬ decide (((UInt8.toNat (List.getD x0 (Int.toNat s3) 0) : Nat) : Int) < 48) = true) (c40 : decide (((UInt8.toNat (List.getD x0 (Int.toNat s3) 0) : Nat) : Int) > 57) = true) : (turns (hds 50 9) 0 9 (evC byref (evCall F S21 (m + 24)) (m + 24) 0 (hds 50) lbl50_0) (n + 1) (l50_0H x0 s3) (l50_0B x0 s3)).run = some (.ret, [(.d (.str x0)), .top, (.d (.bool false)), (.d (.int .i64 s3)), (.d (.bool (decide (((UInt8.toNat (List.getD x0 (Int.toNat s3) 0) : Nat) : Int) ≤ 122)))), (.d (.int .i64 s3)), (.d (.str x0)), (.d (.int .i64 (((List.length x0) : Nat) : Int))), (.d (.bool (decide (s3 < (((List.length x0) : Nat) : Int))))), .top, .top, (.d (.str x0)), (.d (.int .i64 s3)), (.d (.int .u8 ((UInt8.toNat (List.getD x0 (Int.toNat s3) 0) : Nat) : Int))), (.d (.bool (decide (((UInt8.toNat (List.getD x0 (Int.toNat s3) 0) : Nat) : Int) ≥ 97)))), (.d (.bool (decide (((UInt8.toNat (List.getD x0 (Int.toNat s3) 0) : Nat) : Int) ≥ 97)))), (.d (.str x0)), (.d (.int .i64 s3)), (.d (.int .u8 ((UInt8.toNat (List.getD x0 (Int.toNat s3) 0) : Nat) : Int))), (.d (.bool (decide (((UInt8.toNat (List.getD x0 (Int.toNat s3) 0) : Nat) : Int) ≤ 122)))), (.d (.bool (decide (((UInt8.toNat (List.getD x0 (Int.toNat s3) 0) : Nat) : Int) ≤ 122)))), (.d (.bool (decide (((UInt8.toNat (List.getD x0 (Int.toNat s3) 0) : Nat) : Int) ≤ 122)))), (.d (.bool (!decide (((UInt8.toNat (List.getD x0 (Int.toNat s3) 0) : Nat) : Int) ≤ 122)))), (.d (.bool (!decide (((UInt8.toNat (List.getD x0 (Int.toNat s3) 0) : Nat) : Int) ≤ 122)))), (.d (.int .i64 s3)), (.d (.bool (s3 == (0)))), (.d (.bool (s3 == (0)))), (.d (.str x0)), (.d (.int .i64 s3)), (.d (.int .u8 ((UInt8.toNat (List.getD x0 (Int.toNat s3) 0) : Nat) : Int))), (.d (.bool (((UInt8.toNat (List.getD x0 (Int.toNat s3) 0) : Nat) : Int) != (95)))), (.d (.bool (((UInt8.toNat (List.getD x0 (Int.toNat s3) 0) : Nat) : Int) != (95)))), (.d (.str x0)), (.d (.int .i64 s3)), (.d (.int .u8 ((UInt8.toNat (List.getD x0 (Int.toNat s3) 0) : Nat) : Int))), (.d (.bool (decide (((UInt8.toNat (List.getD x0 (Int.toNat s3) 0) : Nat) : Int) < 48)))), (.d (.bool (decide (((UInt8.toNat (List.getD x0 (Int.toNat s3) 0) : Nat) : Int) < 48)))), (.d (.str x0)), (.d (.int .i64 s3)), (.d (.int .u8 ((UInt8.toNat (List.getD x0 (Int.toNat s3) 0) : Nat) : Int))), (.d (.bool (decide (((UInt8.toNat (List.getD x0 (Int.toNat s3) 0) : Nat) : Int) > 57)))), (.d (.bool (decide (((UInt8.toNat (List.getD x0 (Int.toNat s3) 0) : Nat) : Int) > 57)))), (.d (.bool (decide (((UInt8.toNat (List.getD x0 (Int.toNat s3) 0) : Nat) : Int) > 57)))), (.d (.bool (decide (((UInt8.toNat (List.getD x0 (Int.toNat s3) 0) : Nat) : Int) > 57)))), (.d (.bool (decide (((UInt8.toNat (List.getD x0 (Int.toNat s3) 0) : Nat) : Int) > 57)))), .top, .top, .top, .top, .top, .top, .top, .top], []) := by
  exact turns_last (by simp) (M.run_of_path _ [true, true, true, true, true, true, true, true, true, true, true, true, true, false, false, false, true, true, false, false, true, true, true, true, true, true, true, false, false, false, true, true, false, true, false, false, true, true, false, true, true] _ _ (by kernel_rfl) (all_t c0 (all_t c1 (all_t c0 (all_t c3 (all_t c3 (all_t c3 (all_t c1 (all_t c0 (all_t c3 (all_t c3 (all_nf c10 (all_nf c10 (all_nf c10 (all_f c13 (all_f c13 (all_f c13 (all_t c1 (all_t c0 (all_f c13 (all_f c13 (all_t c20 (all_t c20 (all_t c20 (all_t c1 (all_t c0 (all_t c20 (all_t c20 (all_f c27 (all_f c27 (all_f c27 (all_t c1 (all_t c0 (all_f c27 (all_t c20 (all_f c27 (all_f c13 (all_t c20 (all_nf c10 (all_f c13 (all_nf c10 (all_t c40 all_nil)))))))))))))))))))))))))))))))))))))))))) 
set_option maxHeartbeats 20000000 in
theorem l50_0_w4 (m n : Nat) (x0 : List UInt8) (s3 : Int) (r : AEx × Env × Boxes) (c0 : decide (s3 < (((List.length x0) : Nat) : Int)) = true) (c1 : decide (0 ≤ s3) = true) (c3 : decide (((UInt8.toNat (List.getD x0 (Int.toNat s3) 0) : Nat) : Int) ≥ 97) = true) (c10 : ¬ decide (((UInt8.toNat (List.getD x0 (Int.toNat s3) 0) : Nat) : Int) ≤ 122) = true) (c13 : ¬ (s3 == (0)) = true) (c20 : (((UInt8.toNat (List.getD x0 (Int.toNat s3) 0) : Nat) : Int) != (95)) = true) (c27 : ¬ decide (((UInt8.toNat (List.getD x0 (Int.toNat s3) 0) : Nat) : Int) < 48) = true) (c40 : ¬ decide (((UInt8.toNat (List.getD x0 (Int.toNat s3) 0) : Nat) : Int) > 57) = true) (ih : (turns (hds 50 9) 0 9 (evC byref (evCall F S21 (m + 24)) (m + 24) 0 (hds 50) lbl50_0) n (l50_0H x0 ((IntKind.wrap .i64 (s3 + (1))))) (l50_0B x0 ((IntKind.wrap .i64 (s3 + (1)))))).run = some r) : (turns (hds 50 9) 0 9 (evC byref (evCall F S21 (m + 24)) (m + 24) 0 (hds 50) lbl50_0) (n + 1) (l50_0H x0 s3) (l50_0B x0 s3)).run = some r := by
  exact turns_step (M.run_of_path _ [true, true, true, true, true, true, true, true, true, true, true, true, true, false, false, false, true, true, false, false, true, true, true, true, true, true, true, false, false, false, true, true, false, true, false, false, true, true, false, true, false] _ _ (by kernel_rfl) (all_t c0 (all_t c1 (all_t c0 (all_t c3 (all_t c3 (all_t c3 (all_t c1 (all_t c0 (all_t c3 (all_t c3 (all_nf c10 (all_nf c10 (all_nf c10 (all_f c13 (all_f c13 (all_f c13 (all_t c1 (all_t c0 (all_f c13 (all_f c13 (all_t c20 (all_t c20 (all_t c20 (all_t c1 (all_t c0 (all_t c20 (all_t c20 (all_f c27 (all_f c27 (all_f c27 (all_t c1 (all_t c0 (all_f c27 (all_t c20 (all_f c27 (all_f c13 (all_t c20 (all_nf c10 (all_f c13 (all_nf c10 (all_f c40 all_nil)))))))))))))))))))))))))))))))))))))))))) ih
set_option maxHeartbeats 20000000 in
theorem l50_0_w5 (m n : Nat) (x0 : List UInt8) (s3 : Int) (r : AEx × Env × Boxes) (c0 : decide (s3 < (((List.length x0) : Nat) : Int)) = true) (c1 : decide (0 ≤ s3) = true) (c3 : decide (((UInt8.toNat (List.getD x0 (Int.toNat s3) 0) : Nat) : Int) ≥ 97) = true) (c10 : ¬ decide (((UInt8.toNat (List.getD x0 (Int.toNat s3) 0) : Nat) : Int) ≤ 122) = true) (c13 : ¬ (s3 == (0)) = true) (c20 : ¬ (((UInt8.toNat (List.getD x0 (Int.toNat s3) 0) : Nat) : Int) != (95)) = true) (ih : (turns (hds 50 9) 0 9 (evC byref (evCall F S21 (m + 24)) (m + 24) 0 (hds 50) lbl50_0) n (l50_0H x0 ((IntKind.wrap .i64 (s3 + (1))))) (l50_0B x0 ((IntKind.wrap .i64 (s3 + (1)))))).run = some r) : (turns (hds 50 9) 0 9 (evC byref (evCall F S21 (m + 24)) (m + 24) 0 (hds 50) lbl50_0) (n + 1) (l50_0H x0 s3) (l50_0B x0 s3)).run = some r := by
  exact turns_step (M.run_of_path _ [true, true, true, true, true, true, true, true, true, true, true, true, true, false, false, false, true, true, false, false, false, false, false, false, false, false, false, false, true, false, true, false] _ _ (by kernel_rfl) (all_t c0 (all_t c1 (all_t c0 (all_t c3 (all_t c3 (all_t c3 (all_t c1 (all_t c0 (all_t c3 (all_t c3 (all_nf c10 (all_nf c10 (all_nf c10 (all_f c13 (all_f c13 (all_f c13 (all_t c1 (all_t c0 (all_f c13 (all_f c13 (all_f c20 (all_f c20 (all_f c20 (all_f c20 (all_f c20 (all_f c20 (all_f c13 (all_f c20 (all_nf c10 (all_f c13 (all_nf c10 (all_f Bool.false_ne_true all_nil))))))))))))))))))))))))))))))))) ih
set_option maxHeartbeats 20000000 in
theorem l50_0_w6 (m n : Nat) (x0 : List UInt8) (s3 : Int) (c0 : decide (s3 < (((List.length x0) : Nat) : Int)) = true) (c1 : decide (0 ≤ s3) = true) (c3 : ¬ decide (((UInt8.toNat (List.getD x0 (Int.toNat s3) 0) : Nat) : Int) ≥ 97) = true) (c11 : (s3 == (0)) = true) : (turns (hds 50 9) 0 9 (evC byref (evCall F S21 (m + 24)) (m + 24) 0 (hds 50) lbl50_0) (n + 1) (l50_0H x0 s3) (l50_0B x0 s3)).run = some (.ret, [(.d (.str x0)), .top, (.d (.bool false)), (.d (.int .i64 s3)), (.d (.bool false)), (.d (.int .i64 s3)), (.d (.str x0)), (.d (.int .i64 (((List.length x0) : Nat) : Int))), (.d (.bool (decide (s3 < (((List.length x0) : Nat) : Int))))), .top, .top, (.d (.str x0)), (.d (.int .i64 s3)), (.d (.int .u8 ((UInt8.toNat (List.getD x0 (Int.toNat s3) 0) : Nat) : Int))), (.d (.bool (decide (((UInt8.toNat (List.getD x0 (Int.toNat s3) 0) : Nat) : Int) ≥ 97)))), (.d (.bool (decide (((UInt8.toNat (List.getD x0 (Int.toNat s3) 0) : Nat) : Int) ≥ 97)))), (.tup []), (.tup []), (.tup []), (.tup []), (.d (.bool false)), (.d (.bool false)), (.d (.bool true)), (.d (.bool true)), (.d (.int .i64 s3)), (.d (.bool (s3 == (0)))), (.d (.bool (s3 == (0)))), (.tup []), (.tup []), (.tup []), (.tup []), (.tup []), (.tup []), (.tup []), (.tup []), (.tup []), (.tup []), (.tup []), (.tup []), (.tup []), (.tup []), (.tup []), (.tup []), (.d (.bool true)), (.d (.bool true)), .top, .top, .top, .top, .top, .top, .top, .top], []) := by
  exact turns_last (by simp) (M.run_of_path _ [true, true, true, false, false, false, false, false, true, true, true, true, true, true, true, true, true, true, true, true, true] _ _ (by kernel_rfl) (all_t c0 (all_t c1 (all_t c0 (all_f c3 (all_f c3 (all_f c3 (all_f c3 (all_f c3 (all_t rfl (all_t rfl (all_t rfl (all_t c11 (all_t c11 (all_t c11 (all_t c11 (all_t c11 (all_t c11 (all_t rfl (all_t c11 (all_t rfl (all_t rfl all_nil)))))))))))))))))))))) 
set_option maxHeartbeats 20000000 in
theorem l50_0_w7 (m n : Nat) (x0 : List UInt8) (s3 : Int) (c0 : decide (s3 < (((List.length x0) : Nat) : Int)) = true) (c1 : decide (0 ≤ s3) = true) (c3 : ¬ decide (((UInt8.toNat (List.getD x0 (Int.toNat s3) 0) : Nat) : Int) ≥ 97) = true) (c11 : ¬ (s3 == (0)) = true) (c18 : (((UInt8.toNat (List.getD x0 (Int.toNat s3) 0) : Nat) : Int) != (95)) = true) (c25 : decide (((UInt8.toNat (List.getD x0 (Int.toNat s3) 0) : Nat) : Int) < 48) = true) : (turns (hds 50 9) 0 9 (evC byref (evCall F S21 (m + 24)) (m + 24) 0 (hds 50) lbl50_0) (n + 1) (l50_0H x0 s3) (l50_0B x0 s3)).run = some (.ret, [(.d (.str x0)), .top, (.d (.bool false)), (.d (.int .i64 s3)), (.d (.bool false)), (.d (.int .i64 s3)), (.d (.str x0)), (.d (.int .i64 (((List.length x0) : Nat) : Int))), (.d (.bool (decide (s3 < (((List.length x0) : Nat) : Int))))), .top, .top, (.d (.str x0)), (.d (.int .i64 s3)), (.d (.int .u8 ((UInt8.toNat (List.getD x0 (Int.toNat s3) 0) : Nat) : Int))), (.d (.bool (decide (((UInt8.toNat (List.getD x0 (Int.toNat s3) 0) : Nat) : Int) ≥ 97)))), (.d (.bool (decide (((UInt8.toNat (List.getD x0 (Int.toNat s3) 0) : Nat) : Int) ≥ 97)))), (.tup []), (.tup []), (.tup []), (.tup []), (.d (.bool false)), (.d (.bool false)), (.d (.bool true)), (.d (.bool true)), (.d (.int .i64 s3)), (.d (.bool (s3 == (0)))), (.d (.bool (s3 == (0)))), (.d (.str x0)), (.d (.int .i64 s3)), (.d (.int .u8 ((UInt8.toNat (List.getD x0 (Int.toNat s3) 0) : Nat) : Int))), (.d (.bool (((UInt8.toNat (List.getD x0 (Int.toNat s3) 0) : Nat) : Int) != (95)))), (.d (.bool (((UInt8.toNat (List.getD x0 (Int.toNat s3) 0) : Nat) : Int) != (95)))), (.d (.str x0)), (.d (.int .i64 s3)), (.d (.int .u8 ((UInt8.toNat (List.getD x0 (Int.toNat s3) 0) : Nat) : Int))), (.d (.bool (decide (((UInt8.toNat (List.getD x0 (Int.toNat s3) 0) : Nat) : Int) < 48)))), (.d (.bool (decide (((UInt8.toNat (List.getD x0 (Int.toNat s3) 0) : Nat) : Int) < 48)))), (.tup []), (.tup []), (.tup []), (.tup []), (.d (.bool true)), (.d (.bool true)), (.d (.bool true)), (.d (.bool true)), .top, .top, .top, .top, .top, .top, .top, .top], []) := by
  exact turns_last (by simp) (M.run_of_path _ [true, true, true, false, false, false, false, false, true, true, true, false, false, false, true, true, false, false, true, true, true, true, true, true, true, true, true, true, true, true, true, false, true, true, false, true, true] _ _ (by kernel_rfl) (all_t c0 (all_t c1 (all_t c0 (all_f c3 (all_f c3 (all_f c3 (all_f c3 (all_f c3 (all_t rfl (all_t rfl (all_t rfl (all_f c11 (all_f c11 (all_f c11 (all_t c1 (all_t c0 (all_f c11 (all_f c11 (all_t c18 (all_t c18 (all_t c18 (all_t c1 (all_t c0 (all_t c18 (all_t c18 (all_t c25 (all_t c25 (all_t c25 (all_t c25 (all_t c18 (all_t c25 (all_f c11 (all_t c18 (all_t rfl (all_f c11 (all_t rfl (all_t rfl all_nil)))))))))))))))))))))))))))))))))))))) 
set_option maxHeartbeats 20000000 in
theorem l50_0_w8 (m n : Nat) (x0 : List UInt8) (s3 : Int) (c0 : decide (s3 < (((List.length x0) : Nat) : Int)) = true) (c1 : decide (0 ≤ s3) = true) (c3 : ¬ decide (((UInt8.toNat (List.getD x0 (Int.toNat s3) 0) : Nat) : Int) ≥ 97) = true) (c11 : ¬ (s3 == (0)) = true) (c18 : (((UInt8.toNat (List.getD x0 (Int.toNat s3) 0) : Nat) : Int) != (95)) = true) (c25 : ¬ decide (((UInt8.toNat (List.getD x0 (Int.toNat s3) 0) : Nat) : Int) < 48) = true) (c38 : decide (((UInt8.toNat (List.getD x0 (Int.toNat s3) 0) : Nat) : Int) > 57) = true) : (turns (hds 50 9) 0 9 (evC byref (evCall F S21 (m + 24)) (m + 24) 0 (hds 50) lbl50_0) (n + 1) (l50_0H x0 s3) (l50_0B x0 s3)).run = some (.ret, [(.d (.str x0)), .top, (.d (.bool false)), (.d (.int .i64 s3)), (.d (.bool false)), (.d (.int .i64 s3)), (.d (.str x0)), (.d (.int .i64 (((List.length x0) : Nat) : Int))), (.d (.bool (decide (s3 < (((List.length x0) : Nat) : Int))))), .top, .top, (.d (.str x0)), (.d (.int .i64 s3)), (.d (.int .u8 ((UInt8.toNat (List.getD x0 (Int.toNat s3) 0) : Nat) : Int))), (.d (.bool (decide (((UInt8.toNat (List.getD x0 (Int.toNat s3) 0) : Nat) : Int) ≥ 97)))), (.d (.bool (decide (((UInt8.toNat (List.getD x0 (Int.toNat s3) 0) : Nat) : Int) ≥ 97)))), (.tup []), (.tup []), (.tup []), (.tup []), (.d (.bool false)), (.d (.bool false)), (.d (.bool true)), (.d (.bool true)), (.d (.int .i64 s3)), (.d (.bool (s3 == (0)))), (.d (.bool (s3 == (0)))), (.d (.str x0)), (.d (.int .i64 s3)), (.d (.int .u8 ((UInt8.toNat (List.getD x0 (Int.toNat s3) 0) : Nat) : Int))), (.d (.bool (((UInt8.toNat (List.getD x0 (Int.toNat s3) 0) : Nat) : Int) != (95)))), (.d (.bool (((UInt8.toNat (List.getD x0 (Int.toNat s3) 0) : Nat) : Int) != (95)))), (.d (.str x0)), (.d (.int .i64 s3)), (.d (.int .u8 ((UInt8.toNat (List.getD x0 (Int.toNat s3) 0) : Nat) : Int))), (.d (.bool (decide (((UInt8.toNat (List.getD x0 (Int.toNat s3) 0) : Nat) : Int) < 48)))), (.d (.bool (decide (((UInt8.toNat (List.getD x0 (Int.toNat s3) 0) : Nat) : Int) < 48)))), (.d (.str x0)), (.d (.int .i64 s3)), (.d (.int .u8 ((UInt8.toNat (List.getD x0 (Int.toNat s3) 0) : Nat) : Int))), (.d (.bool (decide (((UInt8.toNat (List.getD x0 (Int.toNat s3) 0) : Nat) : Int) > 57)))), (.d (.bool (decide (((UInt8.toNat (List.getD x0 (Int.toNat s3) 0) : Nat) : Int) > 57)))), (.d (.bool (decide (((UInt8.toNat (List.getD x0 (Int.toNat s3) 0) : Nat) : Int) > 57)))), (.d (.bool (decide (((UInt8.toNat (List.getD x0 (Int.toNat s3) 0) : Nat) : Int) > 57)))), (.d (.bool (decide (((UInt8.toNat (List.getD x0 (Int.toNat s3) 0) : Nat) : Int) > 57)))), .top, .top, .top, .top, .top, .top, .top, .top], []) := by
  exact turns_last (by simp) (M.run_of_path _ [true, true, true, false, false, false, false, false, true, true, true, false, false, false, true, true, false, false, true, true, true, true, true, true, true, false, false, false, true, true, false, true, false, false, true, true, false, true, true] _ _ (by kernel_rfl) (all_t c0 (all_t c1 (all_t c0 (all_f c3 (all_f c3 (all_f c3 (all_f c3 (all_f c3 (all_t rfl (all_t rfl (all_t rfl (all_f c11 (all_f c11 (all_f c11 (all_t c1 (all_t c0 (all_f c11 (all_f c11 (all_t c18 (all_t c18 (all_t c18 (all_t c1 (all_t c0 (all_t c18 (all_t c18 (all_f c25 (all_f c25 (all_f c25 (all_t c1 (all_t c0 (all_f c25 (all_t c18 (all_f c25 (all_f c11 (all_t c18 (all_t rfl (all_f c11 (all_t rfl (all_t c38 all_nil)))))))))))))))))))))))))))))))))))))))) 
set_option maxHeartbeats 20000000 in
theorem l50_0_w9 (m n : Nat) (x0 : List UInt8) (s3 : Int) (r : AEx × Env × Boxes) (c0 : decide (s3 < (((List.length x0) : Nat) : Int)) = true) (c1 : decide (0 ≤ s3) = true) (c3 : ¬ decide (((UInt8.toNat (List.getD x0 (Int.toNat s3) 0) : Nat) : Int) ≥ 97) = true) (c11 : ¬ (s3 == (0)) = true) (c18 : (((UInt8.toNat (List.getD x0 (Int.toNat s3) 0) : Nat) : Int) != (95)) = true) (c25 : ¬ decide (((UInt8.toNat (List.getD x0 (Int.toNat s3) 0) : Nat) : Int) < 48) = true) (c38 : ¬ decide (((UInt8.toNat (List.getD x0 (Int.toNat s3) 0) : Nat) : Int) > 57) = true) (ih : (turns (hds 50 9) 0 9 (evC byref (evCall F S21 (m + 24)) (m + 24) 0 (hds 50) lbl50_0) n (l50_0H x0 ((IntKind.wrap .i64 (s3 + (1))))) (l50_0B x0 ((IntKind.wrap .i64 (s3 + (1)))))).run = some r) : (turns (hds 50 9) 0 9 (evC byref (evCall F S21 (m + 24)) (m + 24) 0 (hds 50) lbl50_0) (n + 1) (l50_0H x0 s3) (l50_0B x0 s3)).run = some r := by
  exact turns_step (M.run_of_path _ [true, true, true, false, false, false, false, false, true, true, true, false, false, false, true, true, false, false, true, true, true, true, true, true, true, false, false, false, true, true, false, true, false, false, true, true, false, true, false] _ _ (by kernel_rfl) (all_t c0 (all_t c1 (all_t c0 (all_f c3 (all_f c3 (all_f c3 (all_f c3 (all_f c3 (all_t rfl (all_t rfl (all_t rfl (all_f c11 (all_f c11 (all_f c11 (all_t c1 (all_t c0 (all_f c11 (all_f c11 (all_t c18 (all_t c18 (all_t c18 (all_t c1 (all_t c0 (all_t c18 (all_t c18 (all_f c25 (all_f c25 (all_f c25 (all_t c1 (all_t c0 (all_f c25 (all_t c18 (all_f c25 (all_f c11 (all_t c18 (all_t rfl (all_f c11 (all_t rfl (all_f c38 all_nil)))))))))))))))))))))))))))))))))))))))) ih
set_option maxHeartbeats 20000000 in
theorem l50_0_w10 (m n : Nat) (x0 : List UInt8) (s3 : Int) (r : AEx × Env × Boxes) (c0 : decide (s3 < (((List.length x0) : Nat) : Int)) = true) (c1 : decide (0 ≤ s3) = true) (c3 : ¬ decide (((UInt8.toNat (List.getD x0 (Int.toNat s3) 0) : Nat) : Int) ≥ 97) = true) (c11 : ¬ (s3 == (0)) = true) (c18 : ¬ (((UInt8.toNat (List.getD x0 (Int.toNat s3) 0) : Nat) : Int) != (95)) = true) (ih : (turns (hds 50 9) 0 9 (evC byref (evCall F S21 (m + 24)) (m + 24) 0 (hds 50) lbl50_0) n (l50_0H x0 ((IntKind.wrap .i64 (s3 + (1))))) (l50_0B x0 ((IntKind.wrap .i64 (s3 + (1)))))).run = some r) : (turns (hds 50 9) 0 9 (evC byref (evCall F S21 (m + 24)) (m + 24) 0 (hds 50) lbl50_0) (n + 1) (l50_0H x0 s3) (l50_0B x0 s3)).run = some r := by
  exact turns_step (M.run_of_path _ [true, true, true, false, false, false, false, false, true, true, true, false, false, false, true, true, false, false, false, false, false, false, false, false, false, false, true, false, true, false] _ _ (by kernel_rfl) (all_t c0 (all_t c1 (all_t c0 (all_f c3 (all_f c3 (all_f c3 (all_f c3 (all_f c3 (all_t rfl (all_t rfl (all_t rfl (all_f c11 (all_f c11 (all_f c11 (all_t c1 (all_t c0 (all_f c11 (all_f c11 (all_f c18 (all_f c18 (all_f c18 (all_f c18 (all_f c18 (all_f c18 (all_f c11 (all_f c18 (all_t rfl (all_f c11 (all_t rfl (all_f Bool.false_ne_true all_nil))))))))))))))))))))))))))))))) ih
set_option maxHeartbeats 20000000 in
theorem l50_0_w11 (m n : Nat) (x0 : List UInt8) (s3 : Int) (c0 : ¬ decide (s3 < (((List.length x0) : Nat) : Int)) = true) : (turns (hds 50 9) 0 9 (evC byref (evCall F S21 (m + 24)) (m + 24) 0 (hds 50) lbl50_0) (n + 1) (l50_0H x0 s3) (l50_0B x0 s3)).run = some (.exit 0, [(.d (.str x0)), .top, .top, (.d (.int .i64 s3)), .top, (.d (.int .i64 s3)), (.d (.str x0)), (.d (.int .i64 (((List.length x0) : Nat) : Int))), (.d (.bool (decide (s3 < (((List.length x0) : Nat) : Int))))), .top, .top, .top, .top, .top, .top, .top, .top, .top, .top, .top, .top, .top, .top, .top, .top, .top, .top, .top, .top, .top, .top, .top, .top, .top, .top, .top, .top, .top, .top, .top, .top, .top, .top, .top, .top, .top, .top, .top, .top, .top, .top, .top, .top], []) := by
  exact turns_last (by simp) (M.run_of_path _ [false] _ _ (by kernel_rfl) (all_f c0 all_nil)) 

set_option maxHeartbeats 20000000 in
theorem l50_0_step (m n : Nat) (ih : ∀ (x0 : List UInt8) (s3 : Int) (q : Nat × Int), l50_0 m n x0 s3 = some q → (turns (hds 50 9) 0 9 (evC byref (evCall F S21 (m + 24)) (m + 24) 0 (hds 50) lbl50_0) n (l50_0H x0 s3) (l50_0B x0 s3)).run = some (l50_0E (x0) (q.2) q.1)) (x0 : List UInt8) (s3 : Int) (q : Nat × Int) (h : l50_0 m (n + 1) x0 s3 = some q) : (turns (hds 50 9) 0 9 (evC byref (evCall F S21 (m + 24)) (m + 24) 0 (hds 50) lbl50_0) (n + 1) (l50_0H x0 s3) (l50_0B x0 s3)).run = some (l50_0E (x0) (q.2) q.1) := by
  rw [l50_0] at h
  refine ite_cases h (fun c0 h => ?_) (fun c0 h => ?_)
  · skip
    refine ite_cases h (fun c1 h => ?_) (fun c1 h => ?_)
    · skip
      refine ite_cases h (fun c3 h => ?_) (fun c3 h => ?_)
      · skip
        refine ite_cases h (fun c10 h => ?_) (fun c10 h => ?_)
        · skip
          exact l50_0_w0 m n x0 s3 _ c0 c1 c3 c10 (ih _ _ q h)
        · skip
          refine ite_cases h (fun c13 h => ?_) (fun c13 h => ?_)
          · skip
            cases h
            exact l50_0_w1 m n x0 s3 c0 c1 c3 c10 c13
          · skip
            refine ite_cases h (fun c20 h => ?_) (fun c20 h => ?_)
            · skip
              refine ite_cases h (fun c27 h => ?_) (fun c27 h => ?_)
              · skip
                cases h
                exact l50_0_w2 m n x0 s3 c0 c1 c3 c10 c13 c20 c27
              · skip
                refine ite_cases h (fun c40 h => ?_) (fun c40 h => ?_)
                · skip
                  cases h
                  exact l50_0_w3 m n x0 s3 c0 c1 c3 c10 c13 c20 c27 c40
                · skip
                  exact l50_0_w4 m n x0 s3 _ c0 c1 c3 c10 c13 c20 c27 c40 (ih _ _ q h)
            · skip
              exact l50_0_w5 m n x0 s3 _ c0 c1 c3 c10 c13 c20 (ih _ _ q h)
      · skip
        refine ite_cases h (fun c11 h => ?_) (fun c11 h => ?_)
        · skip
          cases h
          exact l50_0_w6 m n x0 s3 c0 c1 c3 c11
        · skip
          refine ite_cases h (fun c18 h => ?_) (fun c18 h => ?_)
          · skip
            refine ite_cases h (fun c25 h => ?_) (fun c25 h => ?_)
            · skip
              cases h
              exact l50_0_w7 m n x0 s3 c0 c1 c3 c11 c18 c25
            · skip
              refine ite_cases h (fun c38 h => ?_) (fun c38 h => ?_)
              · skip
                cases h
                exact l50_0_w8 m n x0 s3 c0 c1 c3 c11 c18 c25 c38
              · skip
                exact l50_0_w9 m n x0 s3 _ c0 c1 c3 c11 c18 c25 c38 (ih _ _ q h)
          · skip
            exact l50_0_w10 m n x0 s3 _ c0 c1 c3 c11 c18 (ih _ _ q h)
    · skip
      cases h
  · skip
    cases h
    exact l50_0_w11 m n x0 s3 c0
set_option maxHeartbeats 20000000 in
theorem l50_0_ok (m : Nat) : ∀ (n : Nat) (x0 : List UInt8) (s3 : Int) (q : Nat × Int), l50_0 m n x0 s3 = some q → (turns (hds 50 9) 0 9 (evC byref (evCall F S21 (m + 24)) (m + 24) 0 (hds 50) lbl50_0) n (l50_0H x0 s3) (l50_0B x0 s3)).run = some (l50_0E (x0) (q.2) q.1)
  | 0, x0, s3, q, h => by cases h
  | n + 1, x0, s3, q, h => l50_0_step m n (l50_0_ok m n) x0 s3 q h

def p50 (m : Nat) (x0 : List UInt8) : Option (Bool) :=
  if (Option.isSome (l50_0 m (m + 24) x0 0)) = true then
    if ((l50_0R m (m + 24) x0 0).1 == 0) = true then
      some (false)
    else
      if ((l50_0R m (m + 24) x0 0).1 == 1) = true then
        some (false)
      else
        if ((l50_0R m (m + 24) x0 0).1 == 2) = true then
          some (false)
        else
          if ((l50_0R m (m + 24) x0 0).1 == 3) = true then
            some (false)
          else
            if ((l50_0R m (m + 24) x0 0).1 == 4) = true then
              some (false)
            else
              if ((l50_0R m (m + 24) x0 0).1 == 5) = true then
                some (false)
              else
                if ((l50_0R m (m + 24) x0 0).1 == 6) = true then
                  if decide ((((List.length x0) : Nat) : Int) ≥ 1) = true then
                    some (decide ((((List.length x0) : Nat) : Int) ≤ 24))
                  else
                    some (false)
                else
                  none
  else
    none
set_option maxHeartbeats 20000000 in
theorem p50_ok (m : Nat) (x0 : List UInt8) (q : Bool) (h : p50 m x0 = some q) : ∃ r B1, (evCall F S21 (m + 25) 50 [(.d (.str x0))] []).run = some (r, B1) ∧ 0 ≤ B1.length ∧ wkR B1 [] r (.d (.bool (q))) ∧ wkBs B1 [] 0 [] := by
  unfold p50 at h
  refine ite_cases h (fun c0 h => ?_) (fun c0 h => ?_)
  · skip
    refine ite_cases h (fun c1 h => ?_) (fun c1 h => ?_)
    · skip
      cases h
      refine ⟨(.d (.bool false)), [], runT_ok (LS := (fun k => if k = 9 then some (l50_0E x0 ((l50_0R m (m + 24) x0 0).2) 0) else none)) (fn := fn50) (vis := [(9, l50_0H x0 0, l50_0B x0 0)]) (by kernel_rfl) rfl (by kernel_rfl) (M.run_of_path _ [] _ _ (by kernel_rfl) all_nil) ?_, by simp, (wkR.one (wkV.one (wk1.eq rfl))), trivial⟩
      intro p hp p2 hq
      rcases List.mem_cons.1 hp with rfl | hp
      · skip
        have h3 := l50_0_ok m (m + 24) x0 0 _ (some_getD (d := l50_0D) c0)
        rw [eq_of_beq c1] at h3
        exact Eq.trans (Eq.mp (by kernel_rfl) h3) hq
      cases hp
    · skip
      refine ite_cases h (fun c2 h => ?_) (fun c2 h => ?_)
      · skip
        cases h
        refine ⟨(.d (.bool false)), [], runT_ok (LS := (fun k => if k = 9 then some (l50_0E x0 ((l50_0R m (m + 24) x0 0).2) 1) else none)) (fn := fn50) (vis := [(9, l50_0H x0 0, l50_0B x0 0)]) (by kernel_rfl) rfl (by kernel_rfl) (M.run_of_path _ [] _ _ (by kernel_rfl) all_nil) ?_, by simp, (wkR.one (wkV.one (wk1.eq rfl))), trivial⟩
        intro p hp p2 hq
        rcases List.mem_cons.1 hp with rfl | hp
        · skip
          have h3 := l50_0_ok m (m + 24) x0 0 _ (some_getD (d := l50_0D) c0)
          rw [eq_of_beq c2] at h3
          exact Eq.trans (Eq.mp (by kernel_rfl) h3) hq
        cases hp
      · skip
        refine ite_cases h (fun c3 h => ?_) (fun c3 h => ?_)
        · skip
          cases h
          refine ⟨(.d (.bool false)), [], runT_ok (LS := (fun k => if k = 9 then some (l50_0E x0 ((l50_0R m (m + 24) x0 0).2) 2) else none)) (fn := fn50) (vis := [(9, l50_0H x0 0, l50_0B x0 0)]) (by kernel_rfl) rfl (by kernel_rfl) (M.run_of_path _ [] _ _ (by kernel_rfl) all_nil) ?_, by simp, (wkR.one (wkV.one (wk1.eq rfl))), trivial⟩
          intro p hp p2 hq
          rcases List.mem_cons.1 hp with rfl | hp
          · skip
            have h3 := l50_0_ok m (m + 24) x0 0 _ (some_getD (d := l50_0D) c0)
            rw [eq_of_beq c3] at h3
            exact Eq.trans (Eq.mp (by kernel_rfl) h3) hq
          cases hp
        · skip
          refine ite_cases h (fun c4 h => ?_) (fun c4 h => ?_)
          · skip
            cases h
            refine ⟨(.d (.bool false)), [], runT_ok (LS := (fun k => if k = 9 then some (l50_0E x0 ((l50_0R m (m + 24) x0 0).2) 3) else none)) (fn := fn50) (vis := [(9, l50_0H x0 0, l50_0B x0 0)]) (by kernel_rfl) rfl (by kernel_rfl) (M.run_of_path _ [] _ _ (by kernel_rfl) all_nil) ?_, by simp, (wkR.one (wkV.one (wk1.eq rfl))), trivial⟩
            intro p hp p2 hq
            rcases List.mem_cons.1 hp with rfl | hp
            · skip
              have h3 := l50_0_ok m (m + 24) x0 0 _ (some_getD (d := l50_0D) c0)
              rw [eq_of_beq c4] at h3
              exact Eq.trans (Eq.mp (by kernel_rfl) h3) hq
            cases hp
          · skip
            refine ite_cases h (fun c5 h => ?_) (fun c5 h => ?_)
            · skip
              cases h
              refine ⟨(.d (.bool false)), [], runT_ok (LS := (fun k => if k = 9 then some (l50_0E x0 ((l50_0R m (m + 24) x0 0).2) 4) else none)) (fn := fn50) (vis := [(9, l50_0H x0 0, l50_0B x0 0)]) (by kernel_rfl) rfl (by kernel_rfl) (M.run_of_path _ [] _ _ (by kernel_rfl) all_nil) ?_, by simp, (wkR.one (wkV.one (wk1.eq rfl))), trivial⟩
              intro p hp p2 hq
              rcases List.mem_cons.1 hp with rfl | hp
              · skip
                have h3 := l50_0_ok m (m + 24) x0 0 _ (some_getD (d := l50_0D) c0)
                rw [eq_of_beq c5] at h3
                exact Eq.trans (Eq.mp (by kernel_rfl) h3) hq
              cases hp
            · skip
              refine ite_cases h (fun c6 h => ?_) (fun c6 h => ?_)
              · skip
                cases h
                refine ⟨(.d (.bool false)), [], runT_ok (LS := (fun k => if k = 9 then some (l50_0E x0 ((l50_0R m (m + 24) x0 0).2) 5) else none)) (fn := fn50) (vis := [(9, l50_0H x0 0, l50_0B x0 0)]) (by kernel_rfl) rfl (by kernel_rfl) (M.run_of_path _ [] _ _ (by kernel_rfl) all_nil) ?_, by simp, (wkR.one (wkV.one (wk1.eq rfl))), trivial⟩
                intro p hp p2 hq
                rcases List.mem_cons.1 hp with rfl | hp
                · skip
                  have h3 := l50_0_ok m (m + 24) x0 0 _ (some_getD (d := l50_0D) c0)
                  rw [eq_of_beq c6] at h3
                  exact Eq.trans (Eq.mp (by kernel_rfl) h3) hq
                cases hp
              · skip
                refine ite_cases h (fun c7 h => ?_) (fun c7 h => ?_)
                · skip
                  refine ite_cases h (fun c8 h => ?_) (fun c8 h => ?_)
                  · skip
                    cases h
                    refine ⟨(.d (.bool (decide ((((List.length x0) : Nat) : Int) ≤ 24)))), [], runT_ok (LS := (fun k => if k = 9 then some (l50_0E x0 ((l50_0R m (m + 24) x0 0).2) 6) else none)) (fn := fn50) (vis := [(9, l50_0H x0 0, l50_0B x0 0)]) (by kernel_rfl) rfl (by kernel_rfl) (M.run_of_path _ [true, true, true, true] _ _ (by kernel_rfl) (all_t c8 (all_t c8 (all_t c8 (all_t c8 all_nil))))) ?_, by simp, (wkR.one (wkV.one (wk1.eq rfl))), trivial⟩
                    intro p hp p2 hq
                    rcases List.mem_cons.1 hp with rfl | hp
                    · skip
                      have h3 := l50_0_ok m (m + 24) x0 0 _ (some_getD (d := l50_0D) c0)
                      rw [eq_of_beq c7] at h3
                      exact Eq.trans (Eq.mp (by kernel_rfl) h3) hq
                    cases hp
                  · skip
                    cases h
                    refine ⟨(.d (.bool false)), [], runT_ok (LS := (fun k => if k = 9 then some (l50_0E x0 ((l50_0R m (m + 24) x0 0).2) 6) else none)) (fn := fn50) (vis := [(9, l50_0H x0 0, l50_0B x0 0)]) (by kernel_rfl) rfl (by kernel_rfl) (M.run_of_path _ [false, false, false, false] _ _ (by kernel_rfl) (all_f c8 (all_f c8 (all_f c8 (all_f c8 all_nil))))) ?_, by simp, (wkR.one (wkV.one (wk1.eq rfl))), trivial⟩
                    intro p hp p2 hq
                    rcases List.mem_cons.1 hp with rfl | hp
                    · skip
                      have h3 := l50_0_ok m (m + 24) x0 0 _ (some_getD (d := l50_0D) c0)
                      rw [eq_of_beq c7] at h3
                      exact Eq.trans (Eq.mp (by kernel_rfl) h3) hq
                    cases hp
                · skip
                  cases h
  · skip
    cases h

def okAt (k : Nat) (c : UInt8) : Bool := letterB c || (!(k == 0) && innerB c)
def allAt : Nat → List UInt8 → Bool
  | _, [] => true
  | k, c :: l => okAt k c && allAt (k + 1) l
theorem allAt_succ : ∀ (l : List UInt8) (k : Nat), allAt (k + 1) l = l.all innerB
  | [], _ => rfl
  | c :: l, k => by
    rw [allAt, allAt_succ l (k + 1), List.all_cons]
    unfold okAt innerB
    cases letterB c <;> rfl
theorem allAt_zero (s : List UInt8) : (decide (1 ≤ s.length) && decide (s.length ≤ 24) && allAt 0 s) = wordG s := by
  unfold wordG
  cases s with
  | nil => rfl
  | cons a l =>
    rw [allAt, allAt_succ, List.all_cons]
    unfold okAt
    have : letterB a = true → innerB a = true := fun h => by unfold innerB; rw [h]; rfl
    rw [List.getD_cons_zero]
    cases hL : letterB a with
    | false => simp
    | true => rw [this hL]; simp [Bool.and_assoc]
theorem rword_loop (m : Nat) (s : List UInt8) (h : s.length ≤ 9223372036854775807) : ∀ (n k : Nat), k ≤ s.length → s.length - k < n → ∃ e j, l50_0 m n s (k : Nat) = some (e, j) ∧ ((e = 6 ∧ allAt k (s.drop k) = true) ∨ ((e = 0 ∨ e = 1 ∨ e = 2 ∨ e = 3 ∨ e = 4 ∨ e = 5) ∧ allAt k (s.drop k) = false))
  | 0, k, _, h => by omega
  | n + 1, k, h1, h2 => by
    rw [l50_0]
    by_cases hk : k < s.length
    · have e1 : decide (((k : Nat) : Int) < (((List.length s) : Nat) : Int)) = true := decide_eq_true (by omega)
      have e2 : decide ((0 : Int) ≤ ((k : Nat) : Int)) = true := decide_eq_true (by omega)
      have e7 : IntKind.wrap .i64 (((k : Nat) : Int) + (1)) = ((k + 1 : Nat) : Int) := by rw [wrap_id (by omega) (by omega)]; rfl
      have go := rword_loop m s h n (k + 1) (by omega) (by omega)
      rw [drop_getD s k 0 hk, allAt]
      simp only [show Int.toNat ((k : Nat) : Int) = k from rfl, e1, e2, e7, ↓reduceIte]
      generalize s.getD k 0 = c at *
      have yes : okAt k c = true → ∃ e j, l50_0 m n s ((k + 1 : Nat) : Int) = some (e, j) ∧ ((e = 6 ∧ (okAt k c && allAt (k + 1) (s.drop (k + 1))) = true) ∨ ((e = 0 ∨ e = 1 ∨ e = 2 ∨ e = 3 ∨ e = 4 ∨ e = 5) ∧ (okAt k c && allAt (k + 1) (s.drop (k + 1))) = false)) := by
        intro h; rw [h, Bool.true_and]; exact go
      have no : ∀ e : Nat, (e = 0 ∨ e = 1 ∨ e = 2 ∨ e = 3 ∨ e = 4 ∨ e = 5) → okAt k c = false → ∃ e' j, (some (e, ((k : Nat) : Int)) : Option (Nat × Int)) = some (e', j) ∧ ((e' = 6 ∧ (okAt k c && allAt (k + 1) (s.drop (k + 1))) = true) ∨ ((e' = 0 ∨ e' = 1 ∨ e' = 2 ∨ e' = 3 ∨ e' = 4 ∨ e' = 5) ∧ (okAt k c && allAt (k + 1) (s.drop (k + 1))) = false)) := by
        intro e he h; exact ⟨e, _, rfl, .inr ⟨he, by rw [h]; rfl⟩⟩
      have hk0 : (((k : Nat) : Int) == (0)) = (k == 0) := by cases k <;> rfl
      have hok : okAt k c = (letterB c || (!(k == 0) && innerB c)) := rfl
      generalize okAt k c = o at *
      unfold innerB letterB at hok
      generalize UInt8.toNat c = v at *
      rw [hk0]
      have g1 : decide (((v : Nat) : Int) ≥ 97) = decide (97 ≤ v) := by rw [decide_eq_decide]; omega
      have g2 : decide (((v : Nat) : Int) ≤ 122) = decide (v ≤ 122) := by rw [decide_eq_decide]; omega
      have g3 : (((v : Nat) : Int) != (95)) = !(v == 95) := by
        by_cases h : v = 95
        · subst h; rfl
        · rw [show (v == 95) = false from beq_eq_false_iff_ne.2 h]; simp; omega
      have g4 : decide (((v : Nat) : Int) < 48) = !decide (48 ≤ v) := by
        by_cases h : 48 ≤ v
        · rw [show decide (48 ≤ v) = true from decide_eq_true h]; exact decide_eq_false (by omega)
        · rw [show decide (48 ≤ v) = false from decide_eq_false h]; exact decide_eq_true (by omega)
      have g5 : decide (((v : Nat) : Int) > 57) = !decide (v ≤ 57) := by
        by_cases h : v ≤ 57
        · rw [show decide (v ≤ 57) = true from decide_eq_true h]; exact decide_eq_false (by omega)
        · rw [show decide (v ≤ 57) = false from decide_eq_false h]; exact decide_eq_true (by omega)
      simp only [g1, g2, g3, g4, g5]
      generalize decide (97 ≤ v) = a1 at *
      generalize decide (v ≤ 122) = a2 at *
      generalize (v == 95) = a3 at *
      generalize decide (48 ≤ v) = a4 at *
      generalize decide (v ≤ 57) = a5 at *
      generalize (k == 0) = a0 at *
      cases a0 <;> cases a1 <;> cases a2 <;> cases a3 <;> cases a4 <;> cases a5 <;> simp only [Bool.not_true, Bool.not_false, Bool.and_true, Bool.and_false, Bool.true_and, Bool.false_and, Bool.or_true, Bool.or_false, Bool.and_self, Bool.or_self, ↓reduceIte, Bool.false_eq_true] at hok ⊢ <;> first | exact yes hok | exact no _ (by simp) hok
    · have e1 : decide (((k : Nat) : Int) < (((List.length s) : Nat) : Int)) = false := decide_eq_false (by omega)
      rw [e1, if_neg (by simp), List.drop_eq_nil_of_le (by omega)]
      exact ⟨6, _, rfl, .inl ⟨rfl, rfl⟩⟩
theorem rword40 (s : List UInt8) (h : decide (s.length ≤ 9223372036854775807) = true) : ∃ m, p50 m s = some (wordG s) := by
  have h := of_decide_eq_true h
  refine ⟨s.length, ?_⟩
  obtain ⟨e, j, hr, hc⟩ := rword_loop s.length s h (s.length + 24) 0 (by omega) (by omega)
  simp only [Int.natCast_zero, List.drop_zero] at hr hc
  unfold p50
  have hz := allAt_zero s
  have q1 : decide ((((List.length s) : Nat) : Int) ≥ 1) = decide (1 ≤ s.length) := by rw [decide_eq_decide]; omega
  have q2 : decide ((((List.length s) : Nat) : Int) ≤ 24) = decide (s.length ≤ 24) := by rw [decide_eq_decide]; omega
  simp only [l50_0R, hr, q1, q2, Option.isSome_some, Option.getD_some, ↓reduceIte]
  rcases hc with ⟨rfl, hc⟩ | ⟨rfl | rfl | rfl | rfl | rfl | rfl, hc⟩ <;> rw [hc] at hz <;> rw [← hz]
  · cases decide (1 ≤ s.length) <;> cases decide (s.length ≤ 24) <;> rfl
  all_goals (rw [Bool.and_false]; rfl)
def s50 : List AV → Boxes → M (AV × Boxes) := normS [.val .str] [] fun xs B => match xs, B with
  | [(.d (.str c1))], [] => .chk (decide (List.length c1 ≤ 9223372036854775807)) (.ret ((.d (.bool (wordG c1))), []))
  | _, _ => .fail
theorem s50_at : CallAt Tryd.prog 50 s50 := by
  refine CallAt.norm (CallAt.weakE (g := fun n => evCall F S21 n 50) (fun n => evCall_atH mixed kinds hds S21 S21_ok n 50) fun xs B r' B' hr => ?_) _ _
  split at hr
  · rename_i c1
    obtain ⟨hp, hr⟩ := (M.run_chk _ _ _).1 hr
    simp only [M.run, Option.some.injEq, Prod.mk.injEq] at hr
    obtain ⟨rfl, rfl⟩ := hr
    obtain ⟨m, hm⟩ := rword40 c1 hp
    obtain ⟨r, B1, h1, h2, h3, h4⟩ := p50_ok m c1 _ hm
    exact ⟨m + 25, r, B1, h1, by simp, h2, h3, h4⟩
  · simp [M.run] at hr
noncomputable def S22 : FuncId → Option (List AV → Boxes → M (AV × Boxes)) := fun f => if f = 50 then some s50 else S21 f
set_option maxHeartbeats 20000000 in
theorem S22_ok : ∀ f s, S22 f = some s → CallAt Tryd.prog f s := by
  intro f s h
  unfold S22 at h
  split at h
  · rename_i e; subst e; cases h; exact s50_at
  · exact S21_ok f s h

noncomputable def fn24 : AFn := (F 24).getD ⟨0, [], .bad, false, false, noHd⟩
noncomputable def body24 : AC := fn24.body
def l24_0 (m : Nat) : Nat → List ((List UInt8) × (List UInt8)) → Int → Int → Option (Nat × Int)
  | 0, _, _, _ => none
  | n + 1, x0, s9, s10 => if decide (s10 < s9) = true then
      if decide (0 ≤ s10) = true then
        if decide (s10 < (((List.length x0) : Nat) : Int)) = true then
          if decide (List.length (List.getD x0 (Int.toNat s10) (([] : List UInt8), ([] : List UInt8))).1 ≤ 9223372036854775807) = true then
            if (wordG (List.getD x0 (Int.toNat s10) (([] : List UInt8), ([] : List UInt8))).1) = true then
              if decide ((((List.length (List.getD x0 (Int.toNat s10) (([] : List UInt8), ([] : List UInt8))).2) : Nat) : Int) < 1) = true then
                some (1, s10)
              else
                if decide ((((List.length (List.getD x0 (Int.toNat s10) (([] : List UInt8), ([] : List UInt8))).2) : Nat) : Int) > 24) = true then
                  some (2, s10)
                else
                  if decide (s10 > 0) = true then
                    if decide (0 ≤ (IntKind.wrap .i64 (s10 - (1)))) = true then
                      if decide ((IntKind.wrap .i64 (s10 - (1))) < (((List.length x0) : Nat) : Int)) = true then
                        if (Op.bytesLess (List.getD x0 (Int.toNat (IntKind.wrap .i64 (s10 - (1)))) (([] : List UInt8), ([] : List UInt8))).1 (List.getD x0 (Int.toNat s10) (([] : List UInt8), ([] : List UInt8))).1) = true then
                          l24_0 m n x0 s9 ((IntKind.wrap .i64 (s10 + (1))))
                        else
                          some (3, s10)
                      else
                        none
                    else
                      none
                  else
                    l24_0 m n x0 s9 ((IntKind.wrap .i64 (s10 + (1))))
            else
              some (0, s10)
          else
            none
        else
          none
      else
        none
    else
      some (4, s10)
def l24_0D : Nat × Int := (0, 0)
@[reducible] def l24_0R (m n : Nat) (x0 : List ((List UInt8) × (List UInt8))) (s9 : Int) (s10 : Int) : Nat × Int := Option.getD (l24_0 m n x0 s9 s10) l24_0D
def l24_0H (x0 : List ((List UInt8) × (List UInt8))) (s9 : Int) (s10 : Int) : Env := [(.d (.sl (.pair .str .str) x0)), .top, .top, .top, .top, .top, .top, .top, (.d (.sl (.pair .str .str) x0)), (.d (.int .i64 s9)), (.d (.int .i64 s10)), .top, .top, .top, .top, .top, .top, .top, .top, .top, .top, .top, .top, .top, .top, .top, .top, .top, .top, .top, .top, .top, .top, .top, .top, .top, .top, .top, .top, .top, .top, .top, .top, .top, .top, .top, .top]
def l24_0B (x0 : List ((List UInt8) × (List UInt8))) (s9 : Int) (s10 : Int) : Boxes := []
def l24_0E (x0 : List ((List UInt8) × (List UInt8))) (s9 : Int) (s10 : Int) : Nat → AEx × Env × Boxes
  | 0 => (.ret, [(.d (.sl (.pair .str .str) x0)), .top, (.d (.bool false)), (.d (.int .i64 s10)), (.ptr 0 0), .top, .top, .top, (.d (.sl (.pair .str .str) x0)), (.d (.int .i64 s9)), (.d (.int .i64 s10)), (.d (.bool (decide (s10 < s9)))), (.d (.int .i64 s10)), (.cptr [(.str (List.getD x0 (Int.toNat s10) (([] : List UInt8), ([] : List UInt8))).1), (.str (List.getD x0 (Int.toNat s10) (([] : List UInt8), ([] : List UInt8))).2)] 0), (.agg [(.d (.str (List.getD x0 (Int.toNat s10) (([] : List UInt8), ([] : List UInt8))).1)), (.d (.str (List.getD x0 (Int.toNat s10) (([] : List UInt8), ([] : List UInt8))).2))]), (.ptr 0 0), (.d (.str (List.getD x0 (Int.toNat s10) (([] : List UInt8), ([] : List UInt8))).1)), (.d (.bool (wordG (List.getD x0 (Int.toNat s10) (([] : List UInt8), ([] : List UInt8))).1))), (.d (.bool (!(wordG (List.getD x0 (Int.toNat s10) (([] : List UInt8), ([] : List UInt8))).1)))), (.d (.bool (!(wordG (List.getD x0 (Int.toNat s10) (([] : List UInt8), ([] : List UInt8))).1)))), (.tup []), (.tup []), (.tup []), (.tup []), (.d (.bool true)), (.d (.bool true)), (.tup []), (.tup []), (.tup []), (.tup []), (.d (.bool true)), (.d (.bool true)), (.tup []), (.tup []), (.tup []), (.tup []), (.tup []), (.tup []), (.tup []), (.tup []), (.tup []), (.tup []), (.tup []), (.tup []), (.tup []), (.d (.bool true)), .top], [(.cells [(.d (.str (List.getD x0 (Int.toNat s10) (([] : List UInt8), ([] : List UInt8))).1)), (.d (.str (List.getD x0 (Int.toNat s10) (([] : List UInt8), ([] : List UInt8))).2))]), .dead, .dead, .dead, .dead, .dead, .dead, .dead, .dead, .dead, .dead, .dead, .dead, .dead, .dead, .dead, .dead, .dead, .dead, .dead, .dead, .dead, .dead, .dead, .dead, .dead, .dead, .dead, .dead, .dead, .dead, .dead, .dead, .dead, .dead, .dead, .dead, .dead, .dead, .dead, .dead, .dead, .dead, .dead, .dead, .dead, .dead, .dead, .dead, .dead, .dead, .dead, .dead, .dead, .dead, .dead, .dead, .dead, .dead, .dead, .dead, .dead, .dead, .dead, .dead, .dead, .dead, .dead, .dead, .dead, .dead, .dead, .dead, .dead, .dead, .dead, .dead, .dead, .dead, .dead, .dead, .dead, .dead, .dead, .dead, .dead, .dead, .dead, .dead, .dead, .dead, .dead, .dead, .dead, .dead, .dead, .dead, .dead, .dead, .dead, .dead, .dead, .dead, .dead, .dead, .dead, .dead, .dead, .dead, .dead, .dead, .dead, .dead, .dead, .dead, .dead, .dead, .dead, .dead, .dead, .dead, .dead, .dead, .dead, .dead])
  | 1 => (.ret, [(.d (.sl (.pair .str .str) x0)), .top, (.d (.bool false)), (.d (.int .i64 s10)), (.ptr 0 0), .top, .top, .top, (.d (.sl (.pair .str .str) x0)), (.d (.int .i64 s9)), (.d (.int .i64 s10)), (.d (.bool (decide (s10 < s9)))), (.d (.int .i64 s10)), (.cptr [(.str (List.getD x0 (Int.toNat s10) (([] : List UInt8), ([] : List UInt8))).1), (.str (List.getD x0 (Int.toNat s10) (([] : List UInt8), ([] : List UInt8))).2)] 0), (.agg [(.d (.str (List.getD x0 (Int.toNat s10) (([] : List UInt8), ([] : List UInt8))).1)), (.d (.str (List.getD x0 (Int.toNat s10) (([] : List UInt8), ([] : List UInt8))).2))]), (.ptr 0 0), (.d (.str (List.getD x0 (Int.toNat s10) (([] : List UInt8), ([] : List UInt8))).1)), (.d (.bool (wordG (List.getD x0 (Int.toNat s10) (([] : List UInt8), ([] : List UInt8))).1))), (.d (.bool (!(wordG (List.getD x0 (Int.toNat s10) (([] : List UInt8), ([] : List UInt8))).1)))), (.d (.bool (!(wordG (List.getD x0 (Int.toNat s10) (([] : List UInt8), ([] : List UInt8))).1)))), (.ptr 0 1), (.d (.str (List.getD x0 (Int.toNat s10) (([] : List UInt8), ([] : List UInt8))).2)), (.d (.int .i64 (((List.length (List.getD x0 (Int.toNat s10) (([] : List UInt8), ([] : List UInt8))).2) : Nat) : Int))), (.d (.bool (decide ((((List.length (List.getD x0 (Int.toNat s10) (([] : List UInt8), ([] : List UInt8))).2) : Nat) : Int) < 1)))), (.d (.bool (decide ((((List.length (List.getD x0 (Int.toNat s10) (([] : List UInt8), ([] : List UInt8))).2) : Nat) : Int) < 1)))), (.d (.bool (decide ((((List.length (List.getD x0 (Int.toNat s10) (([] : List UInt8), ([] : List UInt8))).2) : Nat) : Int) < 1)))), (.tup []), (.tup []), (.tup []), (.tup []), (.d (.bool true)), (.d (.bool true)), (.tup []), (.tup []), (.tup []), (.tup []), (.tup []), (.tup []), (.tup []), (.tup []), (.tup []), (.tup []), (.tup []), (.tup []), (.tup []), (.d (.bool true)), .top], [(.cells [(.d (.str (List.getD x0 (Int.toNat s10) (([] : List UInt8), ([] : List UInt8))).1)), (.d (.str (List.getD x0 (Int.toNat s10) (([] : List UInt8), ([] : List UInt8))).2))]), .dead, .dead, .dead, .dead, .dead, .dead, .dead, .dead, .dead, .dead, .dead, .dead, .dead, .dead, .dead, .dead, .dead, .dead, .dead, .dead, .dead, .dead, .dead, .dead, .dead, .dead, .dead, .dead, .dead, .dead, .dead, .dead, .dead, .dead, .dead, .dead, .dead, .dead, .dead, .dead, .dead, .dead, .dead, .dead, .dead, .dead, .dead, .dead, .dead, .dead, .dead, .dead, .dead, .dead, .dead, .dead, .dead, .dead, .dead, .dead, .dead, .dead, .dead, .dead, .dead, .dead, .dead, .dead, .dead, .dead, .dead, .dead, .dead, .dead, .dead, .dead, .dead, .dead, .dead, .dead, .dead, .dead, .dead, .dead, .dead, .dead, .dead, .dead, .dead, .dead, .dead, .dead, .dead, .dead, .dead, .dead, .dead, .dead, .dead, .dead, .dead, .dead, .dead, .dead, .dead, .dead, .dead, .dead, .dead, .dead, .dead, .dead, .dead, .dead, .dead, .dead, .dead, .dead, .dead, .dead, .dead, .dead, .dead, .dead])
  | 2 => (.ret, [(.d (.sl (.pair .str .str) x0)), .top, (.d (.bool false)), (.d (.int .i64 s10)), (.ptr 0 0), .top, .top, .top, (.d (.sl (.pair .str .str) x0)), (.d (.int .i64 s9)), (.d (.int .i64 s10)), (.d (.bool (decide (s10 < s9)))), (.d (.int .i64 s10)), (.cptr [(.str (List.getD x0 (Int.toNat s10) (([] : List UInt8), ([] : List UInt8))).1), (.str (List.getD x0 (Int.toNat s10) (([] : List UInt8), ([] : List UInt8))).2)] 0), (.agg [(.d (.str (List.getD x0 (Int.toNat s10) (([] : List UInt8), ([] : List UInt8))).1)), (.d (.str (List.getD x0 (Int.toNat s10) (([] : List UInt8), ([] : List UInt8))).2))]), (.ptr 0 0), (.d (.str (List.getD x0 (Int.toNat s10) (([] : List UInt8), ([] : List UInt8))).1)), (.d (.bool (wordG (List.getD x0 (Int.toNat s10) (([] : List UInt8), ([] : List UInt8))).1))), (.d (.bool (!(wordG (List.getD x0 (Int.toNat s10) (([] : List UInt8), ([] : List UInt8))).1)))), (.d (.bool (!(wordG (List.getD x0 (Int.toNat s10) (([] : List UInt8), ([] : List UInt8))).1)))), (.ptr 0 1), (.d (.str (List.getD x0 (Int.toNat s10) (([] : List UInt8), ([] : List UInt8))).2)), (.d (.int .i64 (((List.length (List.getD x0 (Int.toNat s10) (([] : List UInt8), ([] : List UInt8))).2) : Nat) : Int))), (.d (.bool (decide ((((List.length (List.getD x0 (Int.toNat s10) (([] : List UInt8), ([] : List UInt8))).2) : Nat) : Int) < 1)))), (.d (.bool (decide ((((List.length (List.getD x0 (Int.toNat s10) (([] : List UInt8), ([] : List UInt8))).2) : Nat) : Int) < 1)))), (.d (.bool (decide ((((List.length (List.getD x0 (Int.toNat s10) (([] : List UInt8), ([] : List UInt8))).2) : Nat) : Int) < 1)))), (.ptr 0 1), (.d (.str (List.getD x0 (Int.toNat s10) (([] : List UInt8), ([] : List UInt8))).2)), (.d (.int .i64 (((List.length (List.getD x0 (Int.toNat s10) (([] : List UInt8), ([] : List UInt8))).2) : Nat) : Int))), (.d (.bool (decide ((((List.length (List.getD x0 (Int.toNat s10) (([] : List UInt8), ([] : List UInt8))).2) : Nat) : Int) > 24)))), (.d (.bool (decide ((((List.length (List.getD x0 (Int.toNat s10) (([] : List UInt8), ([] : List UInt8))).2) : Nat) : Int) > 24)))), (.d (.bool (decide ((((List.length (List.getD x0 (Int.toNat s10) (([] : List UInt8), ([] : List UInt8))).2) : Nat) : Int) > 24)))), (.tup []), (.tup []), (.tup []), (.tup []), (.tup []), (.tup []), (.tup []), (.tup []), (.tup []), (.tup []), (.tup []), (.tup []), (.tup []), (.d (.bool true)), .top], [(.cells [(.d (.str (List.getD x0 (Int.toNat s10) (([] : List UInt8), ([] : List UInt8))).1)), (.d (.str (List.getD x0 (Int.toNat s10) (([] : List UInt8), ([] : List UInt8))).2))]), .dead, .dead, .dead, .dead, .dead, .dead, .dead, .dead, .dead, .dead, .dead, .dead, .dead, .dead, .dead, .dead, .dead, .dead, .dead, .dead, .dead, .dead, .dead, .dead, .dead, .dead, .dead, .dead, .dead, .dead, .dead, .dead, .dead, .dead, .dead, .dead, .dead, .dead, .dead, .dead, .dead, .dead, .dead, .dead, .dead, .dead, .dead, .dead, .dead, .dead, .dead, .dead, .dead, .dead, .dead, .dead, .dead, .dead, .dead, .dead, .dead, .dead, .dead, .dead, .dead, .dead, .dead, .dead, .dead, .dead, .dead, .dead, .dead, .dead, .dead, .dead, .dead, .dead, .dead, .dead, .dead, .dead, .dead, .dead, .dead, .dead, .dead, .dead, .dead, .dead, .dead, .dead, .dead, .dead, .dead, .dead, .dead, .dead, .dead, .dead, .dead, .dead, .dead, .dead, .dead, .dead, .dead, .dead, .dead, .dead, .dead, .dead, .dead, .dead, .dead, .dead, .dead, .dead, .dead, .dead, .dead, .dead, .dead, .dead])
  | 3 => (.ret, [(.d (.sl (.pair .str .str) x0)), .top, (.d (.bool false)), (.d (.int .i64 s10)), (.ptr 0 0), .top, .top, .top, (.d (.sl (.pair .str .str) x0)), (.d (.int .i64 s9)), (.d (.int .i64 s10)), (.d (.bool (decide (s10 < s9)))), (.d (.int .i64 s10)), (.cptr [(.str (List.getD x0 (Int.toNat s10) (([] : List UInt8), ([] : List UInt8))).1), (.str (List.getD x0 (Int.toNat s10) (([] : List UInt8), ([] : List UInt8))).2)] 0), (.agg [(.d (.str (List.getD x0 (Int.toNat s10) (([] : List UInt8), ([] : List UInt8))).1)), (.d (.str (List.getD x0 (Int.toNat s10) (([] : List UInt8), ([] : List UInt8))).2))]), (.ptr 0 0), (.d (.str (List.getD x0 (Int.toNat s10) (([] : List UInt8), ([] : List UInt8))).1)), (.d (.bool (wordG (List.getD x0 (Int.toNat s10) (([] : List UInt8), ([] : List UInt8))).1))), (.d (.bool (!(wordG (List.getD x0 (Int.toNat s10) (([] : List UInt8), ([] : List UInt8))).1)))), (.d (.bool (!(wordG (List.getD x0 (Int.toNat s10) (([] : List UInt8), ([] : List UInt8))).1)))), (.ptr 0 1), (.d (.str (List.getD x0 (Int.toNat s10) (([] : List UInt8), ([] : List UInt8))).2)), (.d (.int .i64 (((List.length (List.getD x0 (Int.toNat s10) (([] : List UInt8), ([] : List UInt8))).2) : Nat) : Int))), (.d (.bool (decide ((((List.length (List.getD x0 (Int.toNat s10) (([] : List UInt8), ([] : List UInt8))).2) : Nat) : Int) < 1)))), (.d (.bool (decide ((((List.length (List.getD x0 (Int.toNat s10) (([] : List UInt8), ([] : List UInt8))).2) : Nat) : Int) < 1)))), (.d (.bool (decide ((((List.length (List.getD x0 (Int.toNat s10) (([] : List UInt8), ([] : List UInt8))).2) : Nat) : Int) < 1)))), (.ptr 0 1), (.d (.str (List.getD x0 (Int.toNat s10) (([] : List UInt8), ([] : List UInt8))).2)), (.d (.int .i64 (((List.length (List.getD x0 (Int.toNat s10) (([] : List UInt8), ([] : List UInt8))).2) : Nat) : Int))), (.d (.bool (decide ((((List.length (List.getD x0 (Int.toNat s10) (([] : List UInt8), ([] : List UInt8))).2) : Nat) : Int) > 24)))), (.d (.bool (decide ((((List.length (List.getD x0 (Int.toNat s10) (([] : List UInt8), ([] : List UInt8))).2) : Nat) : Int) > 24)))), (.d (.bool (decide ((((List.length (List.getD x0 (Int.toNat s10) (([] : List UInt8), ([] : List UInt8))).2) : Nat) : Int) > 24)))), (.d (.int .i64 s10)), (.d (.bool (decide (s10 > 0)))), (.d (.bool (decide (s10 > 0)))), (.d (.sl (.pair .str .str) x0)), (.d (.int .i64 s10)), (.d (.int .i64 (IntKind.wrap .i64 (s10 - (1))))), (.cptr [(.str (List.getD x0 (Int.toNat (IntKind.wrap .i64 (s10 - (1)))) (([] : List UInt8), ([] : List UInt8))).1), (.str (List.getD x0 (Int.toNat (IntKind.wrap .i64 (s10 - (1)))) (([] : List UInt8), ([] : List UInt8))).2)] 0), (.cptr [(.str (List.getD x0 (Int.toNat (IntKind.wrap .i64 (s10 - (1)))) (([] : List UInt8), ([] : List UInt8))).1), (.str (List.getD x0 (Int.toNat (IntKind.wrap .i64 (s10 - (1)))) (([] : List UInt8), ([] : List UInt8))).2)] 0), (.d (.str (List.getD x0 (Int.toNat (IntKind.wrap .i64 (s10 - (1)))) (([] : List UInt8), ([] : List UInt8))).1)), (.ptr 0 0), (.d (.str (List.getD x0 (Int.toNat s10) (([] : List UInt8), ([] : List UInt8))).1)), (.d (.bool (!(Op.bytesLess (List.getD x0 (Int.toNat (IntKind.wrap .i64 (s10 - (1)))) (([] : List UInt8), ([] : List UInt8))).1 (List.getD x0 (Int.toNat s10) (([] : List UInt8), ([] : List UInt8))).1)))), (.d (.bool (!(Op.bytesLess (List.getD x0 (Int.toNat (IntKind.wrap .i64 (s10 - (1)))) (([] : List UInt8), ([] : List UInt8))).1 (List.getD x0 (Int.toNat s10) (([] : List UInt8), ([] : List UInt8))).1)))), (.d (.bool (!(Op.bytesLess (List.getD x0 (Int.toNat (IntKind.wrap .i64 (s10 - (1)))) (([] : List UInt8), ([] : List UInt8))).1 (List.getD x0 (Int.toNat s10) (([] : List UInt8), ([] : List UInt8))).1)))), .top], [(.cells [(.d (.str (List.getD x0 (Int.toNat s10) (([] : List UInt8), ([] : List UInt8))).1)), (.d (.str (List.getD x0 (Int.toNat s10) (([] : List UInt8), ([] : List UInt8))).2))]), .dead, .dead, .dead, .dead, .dead, .dead, .dead, .dead, .dead, .dead, .dead, .dead, .dead, .dead, .dead, .dead, .dead, .dead, .dead, .dead, .dead, .dead, .dead, .dead, .dead, .dead, .dead, .dead, .dead, .dead, .dead, .dead, .dead, .dead, .dead, .dead, .dead, .dead, .dead, .dead, .dead, .dead, .dead, .dead, .dead, .dead, .dead, .dead, .dead, .dead, .dead, .dead, .dead, .dead, .dead, .dead, .dead, .dead, .dead, .dead, .dead, .dead, .dead, .dead, .dead, .dead, .dead, .dead, .dead, .dead, .dead, .dead, .dead, .dead, .dead, .dead, .dead, .dead, .dead, .dead, .dead, .dead, .dead, .dead, .dead, .dead, .dead, .dead, .dead, .dead, .dead, .dead, .dead, .dead, .dead, .dead, .dead, .dead, .dead, .dead, .dead, .dead, .dead, .dead, .dead, .dead, .dead, .dead, .dead, .dead, .dead, .dead, .dead, .dead, .dead, .dead, .dead, .dead, .dead, .dead, .dead, .dead, .dead, .dead])
  | _ => (.exit 0, [(.d (.sl (.pair .str .str) x0)), .top, .top, .top, .top, .top, .top, .top, (.d (.sl (.pair .str .str) x0)), (.d (.int .i64 s9)), (.d (.int .i64 s10)), (.d (.bool (decide (s10 < s9)))), .top, .top, .top, .top, .top, .top, .top, .top, .top, .top, .top, .top, .top, .top, .top, .top, .top, .top, .top, .top, .top, .top, .top, .top, .top, .top, .top, .top, .top, .top, .top, .top, .top, .top, .top], [])
noncomputable def lbl24_0 : AC := loopBody 1793 body24

set_option maxHeartbeats 20000000 in
theorem l24_0_w0 (m n : Nat) (x0 : List ((List UInt8) × (List UInt8))) (s9 : Int) (s10 : Int) (c0 : decide (s10 < s9) = true) (c1 : decide (0 ≤ s10) = true) (c2 : decide (s10 < (((List.length x0) : Nat) : Int)) = true) (c3 : decide (List.length (List.getD x0 (Int.toNat s10) (([] : List UInt8), ([] : List UInt8))).1 ≤ 9223372036854775807) = true) (c4 : (wordG (List.getD x0 (Int.toNat s10) (([] : List UInt8), ([] : List UInt8))).1) = true) (c9 : decide ((((List.length (List.getD x0 (Int.toNat s10) (([] : List UInt8), ([] : List UInt8))).2) : Nat) : Int) < 1) = true) : (turns (hds 24 1793) 0 1793 (evC byref (evCall F S22 (m + 24)) (m + 24) 0 (hds 24) lbl24_0) (n + 1) (l24_0H x0 s9 s10) (l24_0B x0 s9 s10)).run = some (let r1 := (wordG (List.getD x0 (Int.toNat s10) (([] : List UInt8), ([] : List UInt8))).1); (.ret, [(.d (.sl (.pair .str .str) x0)), .top, (.d (.bool false)), (.d (.int .i64 s10)), (.ptr 0 0), .top, .top, .top, (.d (.sl (.pair .str .str) x0)), (.d (.int .i64 s9)), (.d (.int .i64 s10)), (.d (.bool (decide (s10 < s9)))), (.d (.int .i64 s10)), (.cptr [(.str (List.getD x0 (Int.toNat s10) (([] : List UInt8), ([] : List UInt8))).1), (.str (List.getD x0 (Int.toNat s10) (([] : List UInt8), ([] : List UInt8))).2)] 0), (.agg [(.d (.str (List.getD x0 (Int.toNat s10) (([] : List UInt8), ([] : List UInt8))).1)), (.d (.str (List.getD x0 (Int.toNat s10) (([] : List UInt8), ([] : List UInt8))).2))]), (.ptr 0 0), (.d (.str (List.getD x0 (Int.toNat s10) (([] : List UInt8), ([] : List UInt8))).1)), (.d (.bool r1)), (.d (.bool (!r1))), (.d (.bool (!r1))), (.ptr 0 1), (.d (.str (List.getD x0 (Int.toNat s10) (([] : List UInt8), ([] : List UInt8))).2)), (.d (.int .i64 (((List.length (List.getD x0 (Int.toNat s10) (([] : List UInt8), ([] : List UInt8))).2) : Nat) : Int))), (.d (.bool (decide ((((List.length (List.getD x0 (Int.toNat s10) (([] : List UInt8), ([] : List UInt8))).2) : Nat) : Int) < 1)))), (.d (.bool (decide ((((List.length (List.getD x0 (Int.toNat s10) (([] : List UInt8), ([] : List UInt8))).2) : Nat) : Int) < 1)))), (.d (.bool (decide ((((List.length (List.getD x0 (Int.toNat s10) (([] : List UInt8), ([] : List UInt8))).2) : Nat) : Int) < 1)))), (.tup []), (.tup []), (.tup []), (.tup []), (.d (.bool true)), (.d (.bool true)), (.tup []), (.tup []), (.tup []), (.tup []), (.tup []), (.tup []), (.tup []), (.tup []), (.tup []), (.tup []), (.tup []), (.tup []), (.tup []), (.d (.bool true)), .top], [(.cells [(.d (.str (List.getD x0 (Int.toNat s10) (([] : List UInt8), ([] : List UInt8))).1)), (.d (.str (List.getD x0 (Int.toNat s10) (([] : List UInt8), ([] : List UInt8))).2))]), .dead, .dead, .dead, .dead, .dead, .dead, .dead, .dead, .dead, .dead, .dead, .dead, .dead, .dead, .dead, .dead, .dead, .dead, .dead, .dead, .dead, .dead, .dead, .dead, .dead, .dead, .dead, .dead, .dead, .dead, .dead, .dead, .dead, .dead, .dead, .dead, .dead, .dead, .dead, .dead, .dead, .dead, .dead, .dead, .dead, .dead, .dead, .dead, .dead, .dead, .dead, .dead, .dead, .dead, .dead, .dead, .dead, .dead, .dead, .dead, .dead, .dead, .dead, .dead, .dead, .dead, .dead, .dead, .dead, .dead, .dead, .dead, .dead, .dead, .dead, .dead, .dead, .dead, .dead, .dead, .dead, .dead, .dead, .dead, .dead, .dead, .dead, .dead, .dead, .dead, .dead, .dead, .dead, .dead, .dead, .dead, .dead, .dead, .dead, .dead, .dead, .dead, .dead, .dead, .dead, .dead, .dead, .dead, .dead, .dead, .dead, .dead, .dead, .dead, .dead, .dead, .dead, .dead, .dead, .dead, .dead, .dead, .dead, .dead])) := by
  exact turns_last (by simp) (M.run_of_path _ [true, true, true, true, false, false, false, false, false, true, true, true, true, true, true, true, true, true, true, true] _ _ (by kernel_rfl) (all_t c0 (all_t c1 (all_t c2 (all_t c3 (all_nt c4 (all_nt c4 (all_nt c4 (all_nt c4 (all_nt c4 (all_t c9 (all_t c9 (all_t c9 (all_t c9 (all_t c9 (all_t rfl (all_t rfl (all_t rfl (all_t rfl (all_t rfl (all_t rfl all_nil))))))))))))))))))))) 
set_option maxHeartbeats 20000000 in
theorem l24_0_w1 (m n : Nat) (x0 : List ((List UInt8) × (List UInt8))) (s9 : Int) (s10 : Int) (c0 : decide (s10 < s9) = true) (c1 : decide (0 ≤ s10) = true) (c2 : decide (s10 < (((List.length x0) : Nat) : Int)) = true) (c3 : decide (List.length (List.getD x0 (Int.toNat s10) (([] : List UInt8), ([] : List UInt8))).1 ≤ 9223372036854775807) = true) (c4 : (wordG (List.getD x0 (Int.toNat s10) (([] : List UInt8), ([] : List UInt8))).1) = true) (c9 : ¬ decide ((((List.length (List.getD x0 (Int.toNat s10) (([] : List UInt8), ([] : List UInt8))).2) : Nat) : Int) < 1) = true) (c14 : decide ((((List.length (List.getD x0 (Int.toNat s10) (([] : List UInt8), ([] : List UInt8))).2) : Nat) : Int) > 24) = true) : (turns (hds 24 1793) 0 1793 (evC byref (evCall F S22 (m + 24)) (m + 24) 0 (hds 24) lbl24_0) (n + 1) (l24_0H x0 s9 s10) (l24_0B x0 s9 s10)).run = some (let r1 := (wordG (List.getD x0 (Int.toNat s10) (([] : List UInt8), ([] : List UInt8))).1); (.ret, [(.d (.sl (.pair .str .str) x0)), .top, (.d (.bool false)), (.d (.int .i64 s10)), (.ptr 0 0), .top, .top, .top, (.d (.sl (.pair .str .str) x0)), (.d (.int .i64 s9)), (.d (.int .i64 s10)), (.d (.bool (decide (s10 < s9)))), (.d (.int .i64 s10)), (.cptr [(.str (List.getD x0 (Int.toNat s10) (([] : List UInt8), ([] : List UInt8))).1), (.str (List.getD x0 (Int.toNat s10) (([] : List UInt8), ([] : List UInt8))).2)] 0), (.agg [(.d (.str (List.getD x0 (Int.toNat s10) (([] : List UInt8), ([] : List UInt8))).1)), (.d (.str (List.getD x0 (Int.toNat s10) (([] : List UInt8), ([] : List UInt8))).2))]), (.ptr 0 0), (.d (.str (List.getD x0 (Int.toNat s10) (([] : List UInt8), ([] : List UInt8))).1)), (.d (.bool r1)), (.d (.bool (!r1))), (.d (.bool (!r1))), (.ptr 0 1), (.d (.str (List.getD x0 (Int.toNat s10) (([] : List UInt8), ([] : List UInt8))).2)), (.d (.int .i64 (((List.length (List.getD x0 (Int.toNat s10) (([] : List UInt8), ([] : List UInt8))).2) : Nat) : Int))), (.d (.bool (decide ((((List.length (List.getD x0 (Int.toNat s10) (([] : List UInt8), ([] : List UInt8))).2) : Nat) : Int) < 1)))), (.d (.bool (decide ((((List.length (List.getD x0 (Int.toNat s10) (([] : List UInt8), ([] : List UInt8))).2) : Nat) : Int) < 1)))), (.d (.bool (decide ((((List.length (List.getD x0 (Int.toNat s10) (([] : List UInt8), ([] : List UInt8))).2) : Nat) : Int) < 1)))), (.ptr 0 1), (.d (.str (List.getD x0 (Int.toNat s10) (([] : List UInt8), ([] : List UInt8))).2)), (.d (.int .i64 (((List.length (List.getD x0 (Int.toNat s10) (([] : List UInt8), ([] : List UInt8))).2) : Nat) : Int))), (.d (.bool (decide ((((List.length (List.getD x0 (Int.toNat s10) (([] : List UInt8), ([] : List UInt8))).2) : Nat) : Int) > 24)))), (.d (.bool (decide ((((List.length (List.getD x0 (Int.toNat s10) (([] : List UInt8), ([] : List UInt8))).2) : Nat) : Int) > 24)))), (.d (.bool (decide ((((List.length (List.getD x0 (Int.toNat s10) (([] : List UInt8), ([] : List UInt8))).2) : Nat) : Int) > 24)))), (.tup []), (.tup []), (.tup []), (.tup []), (.tup []), (.tup []), (.tup []), (.tup []), (.tup []), (.tup []), (.tup []), (.tup []), (.tup []), (.d (.bool true)), .top], [(.cells [(.d (.str (List.getD x0 (Int.toNat s10) (([] : List UInt8), ([] : List UInt8))).1)), (.d (.str (List.getD x0 (Int.toNat s10) (([] : List UInt8), ([] : List UInt8))).2))]), .dead, .dead, .dead, .dead, .dead, .dead, .dead, .dead, .dead, .dead, .dead, .dead, .dead, .dead, .dead, .dead, .dead, .dead, .dead, .dead, .dead, .dead, .dead, .dead, .dead, .dead, .dead, .dead, .dead, .dead, .dead, .dead, .dead, .dead, .dead, .dead, .dead, .dead, .dead, .dead, .dead, .dead, .dead, .dead, .dead, .dead, .dead, .dead, .dead, .dead, .dead, .dead, .dead, .dead, .dead, .dead, .dead, .dead, .dead, .dead, .dead, .dead, .dead, .dead, .dead, .dead, .dead, .dead, .dead, .dead, .dead, .dead, .dead, .dead, .dead, .dead, .dead, .dead, .dead, .dead, .dead, .dead, .dead, .dead, .dead, .dead, .dead, .dead, .dead, .dead, .dead, .dead, .dead, .dead, .dead, .dead, .dead, .dead, .dead, .dead, .dead, .dead, .dead, .dead, .dead, .dead, .dead, .dead, .dead, .dead, .dead, .dead, .dead, .dead, .dead, .dead, .dead, .dead, .dead, .dead, .dead, .dead, .dead, .dead])) := by
  exact turns_last (by simp) (M.run_of_path _ [true, true, true, true, false, false, false, false, false, false, false, false, false, false, true, true, true, true, true, true] _ _ (by kernel_rfl) (all_t c0 (all_t c1 (all_t c2 (all_t c3 (all_nt c4 (all_nt c4 (all_nt c4 (all_nt c4 (all_nt c4 (all_f c9 (all_f c9 (all_f c9 (all_f c9 (all_f c9 (all_t c14 (all_t c14 (all_t c14 (all_t c14 (all_t c14 (all_t rfl all_nil))))))))))))))))))))) 
set_option maxHeartbeats 20000000 in
theorem l24_0_w2 (m n : Nat) (x0 : List ((List UInt8) × (List UInt8))) (s9 : Int) (s10 : Int) (r : AEx × Env × Boxes) (c0 : decide (s10 < s9) = true) (c1 : decide (0 ≤ s10) = true) (c2 : decide (s10 < (((List.length x0) : Nat) : Int)) = true) (c3 : decide (List.length (List.getD x0 (Int.toNat s10) (([] : List UInt8), ([] : List UInt8))).1 ≤ 9223372036854775807) = true) (c4 : (wordG (List.getD x0 (Int.toNat s10) (([] : List UInt8), ([] : List UInt8))).1) = true) (c9 : ¬ decide ((((List.length (List.getD x0 (Int.toNat s10) (([] : List UInt8), ([] : List UInt8))).2) : Nat) : Int) < 1) = true) (c14 : ¬ decide ((((List.length (List.getD x0 (Int.toNat s10) (([] : List UInt8), ([] : List UInt8))).2) : Nat) : Int) > 24) = true) (c17 : decide (s10 > 0) = true) (c21 : decide (0 ≤ (IntKind.wrap .i64 (s10 - (1)))) = true) (c22 : decide ((IntKind.wrap .i64 (s10 - (1))) < (((List.length x0) : Nat) : Int)) = true) (c31 : (Op.bytesLess (List.getD x0 (Int.toNat (IntKind.wrap .i64 (s10 - (1)))) (([] : List UInt8), ([] : List UInt8))).1 (List.getD x0 (Int.toNat s10) (([] : List UInt8), ([] : List UInt8))).1) = true) (ih : (turns (hds 24 1793) 0 1793 (evC byref (evCall F S22 (m + 24)) (m + 24) 0 (hds 24) lbl24_0) n (l24_0H x0 s9 ((IntKind.wrap .i64 (s10 + (1))))) (l24_0B x0 s9 ((IntKind.wrap .i64 (s10 + (1)))))).run = some r) : (turns (hds 24 1793) 0 1793 (evC byref (evCall F S22 (m + 24)) (m + 24) 0 (hds 24) lbl24_0) (n + 1) (l24_0H x0 s9 s10) (l24_0B x0 s9 s10)).run = some r := by
  exact turns_step (M.run_of_path _ [true, true, true, true, false, false, false, false, false, false, false, false, false, false, false, false, false, true, true, true, true, true, true, true, true, true, true, true, false, true, false, false] _ _ (by kernel_rfl) (all_t c0 (all_t c1 (all_t c2 (all_t c3 (all_nt c4 (all_nt c4 (all_nt c4 (all_nt c4 (all_nt c4 (all_f c9 (all_f c9 (all_f c9 (all_f c9 (all_f c9 (all_f c14 (all_f c14 (all_f c14 (all_t c17 (all_t c17 (all_t c17 (all_t c17 (all_t c21 (all_t c22 (all_t c17 (all_t c17 (all_t c17 (all_t c17 (all_t c17 (all_f c14 (all_t c17 (all_f c14 (all_nt c31 all_nil))))))))))))))))))))))))))))))))) ih
set_option maxHeartbeats 20000000 in
theorem l24_0_w3 (m n : Nat) (x0 : List ((List UInt8) × (List UInt8))) (s9 : Int) (s10 : Int) (c0 : decide (s10 < s9) = true) (c1 : decide (0 ≤ s10) = true) (c2 : decide (s10 < (((List.length x0) : Nat) : Int)) = true) (c3 : decide (List.length (List.getD x0 (Int.toNat s10) (([] : List UInt8), ([] : List UInt8))).1 ≤ 9223372036854775807) = true) (c4 : (wordG (List.getD x0 (Int.toNat s10) (([] : List UInt8), ([] : List UInt8))).1) = true) (c9 : ¬ decide ((((List.length (List.getD x0 (Int.toNat s10) (([] : List UInt8), ([] : List UInt8))).2) : Nat) : Int) < 1) = true) (c14 : ¬ decide ((((List.length (List.getD x0 (Int.toNat s10) (([] : List UInt8), ([] : List UInt8))).2) : Nat) : Int) > 24) = true) (c17 : decide (s10 > 0) = true) (c21 : decide (0 ≤ (IntKind.wrap .i64 (s10 - (1)))) = true) (c22 : decide ((IntKind.wrap .i64 (s10 - (1))) < (((List.length x0) : Nat) : Int)) = true) (c31 : ¬ (Op.bytesLess (List.getD x0 (Int.toNat (IntKind.wrap .i64 (s10 - (1)))) (([] : List UInt8), ([] : List UInt8))).1 (List.getD x0 (Int.toNat s10) (([] : List UInt8), ([] : List UInt8))).1) = true) : (turns (hds 24 1793) 0 1793 (evC byref (evCall F S22 (m + 24)) (m + 24) 0 (hds 24) lbl24_0) (n + 1) (l24_0H x0 s9 s10) (l24_0B x0 s9 s10)).run = some (let r1 := (wordG (List.getD x0 (Int.toNat s10) (([] : List UInt8), ([] : List UInt8))).1); (.ret, [(.d (.sl (.pair .str .str) x0)), .top, (.d (.bool false)), (.d (.int .i64 s10)), (.ptr 0 0), .top, .top, .top, (.d (.sl (.pair .str .str) x0)), (.d (.int .i64 s9)), (.d (.int .i64 s10)), (.d (.bool (decide (s10 < s9)))), (.d (.int .i64 s10)), (.cptr [(.str (List.getD x0 (Int.toNat s10) (([] : List UInt8), ([] : List UInt8))).1), (.str (List.getD x0 (Int.toNat s10) (([] : List UInt8), ([] : List UInt8))).2)] 0), (.agg [(.d (.str (List.getD x0 (Int.toNat s10) (([] : List UInt8), ([] : List UInt8))).1)), (.d (.str (List.getD x0 (Int.toNat s10) (([] : List UInt8), ([] : List UInt8))).2))]), (.ptr 0 0), (.d (.str (List.getD x0 (Int.toNat s10) (([] : List UInt8), ([] : List UInt8))).1)), (.d (.bool r1)), (.d (.bool (!r1))), (.d (.bool (!r1))), (.ptr 0 1), (.d (.str (List.getD x0 (Int.toNat s10) (([] : List UInt8), ([] : List UInt8))).2)), (.d (.int .i64 (((List.length (List.getD x0 (Int.toNat s10) (([] : List UInt8), ([] : List UInt8))).2) : Nat) : Int))), (.d (.bool (decide ((((List.length (List.getD x0 (Int.toNat s10) (([] : List UInt8), ([] : List UInt8))).2) : Nat) : Int) < 1)))), (.d (.bool (decide ((((List.length (List.getD x0 (Int.toNat s10) (([] : List UInt8), ([] : List UInt8))).2) : Nat) : Int) < 1)))), (.d (.bool (decide ((((List.length (List.getD x0 (Int.toNat s10) (([] : List UInt8), ([] : List UInt8))).2) : Nat) : Int) < 1)))), (.ptr 0 1), (.d (.str (List.getD x0 (Int.toNat s10) (([] : List UInt8), ([] : List UInt8))).2)), (.d (.int .i64 (((List.length (List.getD x0 (Int.toNat s10) (([] : List UInt8), ([] : List UInt8))).2) : Nat) : Int))), (.d (.bool (decide ((((List.length (List.getD x0 (Int.toNat s10) (([] : List UInt8), ([] : List UInt8))).2) : Nat) : Int) > 24)))), (.d (.bool (decide ((((List.length (List.getD x0 (Int.toNat s10) (([] : List UInt8), ([] : List UInt8))).2) : Nat) : Int) > 24)))), (.d (.bool (decide ((((List.length (List.getD x0 (Int.toNat s10) (([] : List UInt8), ([] : List UInt8))).2) : Nat) : Int) > 24)))), (.d (.int .i64 s10)), (.d (.bool (decide (s10 > 0)))), (.d (.bool (decide (s10 > 0)))), (.d (.sl (.pair .str .str) x0)), (.d (.int .i64 s10)), (.d (.int .i64 (IntKind.wrap .i64 (s10 - (1))))), (.cptr [(.str (List.getD x0 (Int.toNat (IntKind.wrap .i64 (s10 - (1)))) (([] : List UInt8), ([] : List UInt8))).1), (.str (List.getD x0 (Int.toNat (IntKind.wrap .i64 (s10 - (1)))) (([] : List UInt8), ([] : List UInt8))).2)] 0), (.cptr [(.str (List.getD x0 (Int.toNat (IntKind.wrap .i64 (s10 - (1)))) (([] : List UInt8), ([] : List UInt8))).1), (.str (List.getD x0 (Int.toNat (IntKind.wrap .i64 (s10 - (1)))) (([] : List UInt8), ([] : List UInt8))).2)] 0), (.d (.str (List.getD x0 (Int.toNat (IntKind.wrap .i64 (s10 - (1)))) (([] : List UInt8), ([] : List UInt8))).1)), (.ptr 0 0), (.d (.str (List.getD x0 (Int.toNat s10) (([] : List UInt8), ([] : List UInt8))).1)), (.d (.bool (!(Op.bytesLess (List.getD x0 (Int.toNat (IntKind.wrap .i64 (s10 - (1)))) (([] : List UInt8), ([] : List UInt8))).1 (List.getD x0 (Int.toNat s10) (([] : List UInt8), ([] : List UInt8))).1)))), (.d (.bool (!(Op.bytesLess (List.getD x0 (Int.toNat (IntKind.wrap .i64 (s10 - (1)))) (([] : List UInt8), ([] : List UInt8))).1 (List.getD x0 (Int.toNat s10) (([] : List UInt8), ([] : List UInt8))).1)))), (.d (.bool (!(Op.bytesLess (List.getD x0 (Int.toNat (IntKind.wrap .i64 (s10 - (1)))) (([] : List UInt8), ([] : List UInt8))).1 (List.getD x0 (Int.toNat s10) (([] : List UInt8), ([] : List UInt8))).1)))), .top], [(.cells [(.d (.str (List.getD x0 (Int.toNat s10) (([] : List UInt8), ([] : List UInt8))).1)), (.d (.str (List.getD x0 (Int.toNat s10) (([] : List UInt8), ([] : List UInt8))).2))]), .dead, .dead, .dead, .dead, .dead, .dead, .dead, .dead, .dead, .dead, .dead, .dead, .dead, .dead, .dead, .dead, .dead, .dead, .dead, .dead, .dead, .dead, .dead, .dead, .dead, .dead, .dead, .dead, .dead, .dead, .dead, .dead, .dead, .dead, .dead, .dead, .dead, .dead, .dead, .dead, .dead, .dead, .dead, .dead, .dead, .dead, .dead, .dead, .dead, .dead, .dead, .dead, .dead, .dead, .dead, .dead, .dead, .dead, .dead, .dead, .dead, .dead, .dead, .dead, .dead, .dead, .dead, .dead, .dead, .dead, .dead, .dead, .dead, .dead, .dead, .dead, .dead, .dead, .dead, .dead, .dead, .dead, .dead, .dead, .dead, .dead, .dead, .dead, .dead, .dead, .dead, .dead, .dead, .dead, .dead, .dead, .dead, .dead, .dead, .dead, .dead, .dead, .dead, .dead, .dead, .dead, .dead, .dead, .dead, .dead, .dead, .dead, .dead, .dead, .dead, .dead, .dead, .dead, .dead, .dead, .dead, .dead, .dead, .dead])) := by
  exact turns_last (by simp) (M.run_of_path _ [true, true, true, true, false, false, false, false, false, false, false, false, false, false, false, false, false, true, true, true, true, true, true, true, true, true, true, true, false, true, false, true] _ _ (by kernel_rfl) (all_t c0 (all_t c1 (all_t c2 (all_t c3 (all_nt c4 (all_nt c4 (all_nt c4 (all_nt c4 (all_nt c4 (all_f c9 (all_f c9 (all_f c9 (all_f c9 (all_f c9 (all_f c14 (all_f c14 (all_f c14 (all_t c17 (all_t c17 (all_t c17 (all_t c17 (all_t c21 (all_t c22 (all_t c17 (all_t c17 (all_t c17 (all_t c17 (all_t c17 (all_f c14 (all_t c17 (all_f c14 (all_nf c31 all_nil))))))))))))))))))))))))))))))))) 
set_option maxHeartbeats 20000000 in
theorem l24_0_w4 (m n : Nat) (x0 : List ((List UInt8) × (List UInt8))) (s9 : Int) (s10 : Int) (r : AEx × Env × Boxes) (c0 : decide (s10 < s9) = true) (c1 : decide (0 ≤ s10) = true) (c2 : decide (s10 < (((List.length x0) : Nat) : Int)) = true) (c3 : decide (List.length (List.getD x0 (Int.toNat s10) (([] : List UInt8), ([] : List UInt8))).1 ≤ 9223372036854775807) = true) (c4 : (wordG (List.getD x0 (Int.toNat s10) (([] : List UInt8), ([] : List UInt8))).1) = true) (c9 : ¬ decide ((((List.length (List.getD x0 (Int.toNat s10) (([] : List UInt8), ([] : List UInt8))).2) : Nat) : Int) < 1) = true) (c14 : ¬ decide ((((List.length (List.getD x0 (Int.toNat s10) (([] : List UInt8), ([] : List UInt8))).2) : Nat) : Int) > 24) = true) (c17 : ¬ decide (s10 > 0) = true) (ih : (turns (hds 24 1793) 0 1793 (evC byref (evCall F S22 (m + 24)) (m + 24) 0 (hds 24) lbl24_0) n (l24_0H x0 s9 ((IntKind.wrap .i64 (s10 + (1))))) (l24_0B x0 s9 ((IntKind.wrap .i64 (s10 + (1)))))).run = some r) : (turns (hds 24 1793) 0 1793 (evC byref (evCall F S22 (m + 24)) (m + 24) 0 (hds 24) lbl24_0) (n + 1) (l24_0H x0 s9 s10) (l24_0B x0 s9 s10)).run = some r := by
  exact turns_step (M.run_of_path _ [true, true, true, true, false, false, false, false, false, false, false, false, false, false, false, false, false, false, false, false, false, false, false, false, false, false, false, false, false, false] _ _ (by kernel_rfl) (all_t c0 (all_t c1 (all_t c2 (all_t c3 (all_nt c4 (all_nt c4 (all_nt c4 (all_nt c4 (all_nt c4 (all_f c9 (all_f c9 (all_f c9 (all_f c9 (all_f c9 (all_f c14 (all_f c14 (all_f c14 (all_f c17 (all_f c17 (all_f c17 (all_f c17 (all_f c17 (all_f c17 (all_f c17 (all_f c17 (all_f c17 (all_f c14 (all_f c17 (all_f c14 (all_f Bool.false_ne_true all_nil))))))))))))))))))))))))))))))) ih
set_option maxHeartbeats 20000000 in
theorem l24_0_w5 (m n : Nat) (x0 : List ((List UInt8) × (List UInt8))) (s9 : Int) (s10 : Int) (c0 : decide (s10 < s9) = true) (c1 : decide (0 ≤ s10) = true) (c2 : decide (s10 < (((List.length x0) : Nat) : Int)) = true) (c3 : decide (List.length (List.getD x0 (Int.toNat s10) (([] : List UInt8), ([] : List UInt8))).1 ≤ 9223372036854775807) = true) (c4 : ¬ (wordG (List.getD x0 (Int.toNat s10) (([] : List UInt8), ([] : List UInt8))).1) = true) : (turns (hds 24 1793) 0 1793 (evC byref (evCall F S22 (m + 24)) (m + 24) 0 (hds 24) lbl24_0) (n + 1) (l24_0H x0 s9 s10) (l24_0B x0 s9 s10)).run = some (let r1 := (wordG (List.getD x0 (Int.toNat s10) (([] : List UInt8), ([] : List UInt8))).1); (.ret, [(.d (.sl (.pair .str .str) x0)), .top, (.d (.bool false)), (.d (.int .i64 s10)), (.ptr 0 0), .top, .top, .top, (.d (.sl (.pair .str .str) x0)), (.d (.int .i64 s9)), (.d (.int .i64 s10)), (.d (.bool (decide (s10 < s9)))), (.d (.int .i64 s10)), (.cptr [(.str (List.getD x0 (Int.toNat s10) (([] : List UInt8), ([] : List UInt8))).1), (.str (List.getD x0 (Int.toNat s10) (([] : List UInt8), ([] : List UInt8))).2)] 0), (.agg [(.d (.str (List.getD x0 (Int.toNat s10) (([] : List UInt8), ([] : List UInt8))).1)), (.d (.str (List.getD x0 (Int.toNat s10) (([] : List UInt8), ([] : List UInt8))).2))]), (.ptr 0 0), (.d (.str (List.getD x0 (Int.toNat s10) (([] : List UInt8), ([] : List UInt8))).1)), (.d (.bool r1)), (.d (.bool (!r1))), (.d (.bool (!r1))), (.tup []), (.tup []), (.tup []), (.tup []), (.d (.bool true)), (.d (.bool true)), (.tup []), (.tup []), (.tup []), (.tup []), (.d (.bool true)), (.d (.bool true)), (.tup []), (.tup []), (.tup []), (.tup []), (.tup []), (.tup []), (.tup []), (.tup []), (.tup []), (.tup []), (.tup []), (.tup []), (.tup []), (.d (.bool true)), .top], [(.cells [(.d (.str (List.getD x0 (Int.toNat s10) (([] : List UInt8), ([] : List UInt8))).1)), (.d (.str (List.getD x0 (Int.toNat s10) (([] : List UInt8), ([] : List UInt8))).2))]), .dead, .dead, .dead, .dead, .dead, .dead, .dead, .dead, .dead, .dead, .dead, .dead, .dead, .dead, .dead, .dead, .dead, .dead, .dead, .dead, .dead, .dead, .dead, .dead, .dead, .dead, .dead, .dead, .dead, .dead, .dead, .dead, .dead, .dead, .dead, .dead, .dead, .dead, .dead, .dead, .dead, .dead, .dead, .dead, .dead, .dead, .dead, .dead, .dead, .dead, .dead, .dead, .dead, .dead, .dead, .dead, .dead, .dead, .dead, .dead, .dead, .dead, .dead, .dead, .dead, .dead, .dead, .dead, .dead, .dead, .dead, .dead, .dead, .dead, .dead, .dead, .dead, .dead, .dead, .dead, .dead, .dead, .dead, .dead, .dead, .dead, .dead, .dead, .dead, .dead, .dead, .dead, .dead, .dead, .dead, .dead, .dead, .dead, .dead, .dead, .dead, .dead, .dead, .dead, .dead, .dead, .dead, .dead, .dead, .dead, .dead, .dead, .dead, .dead, .dead, .dead, .dead, .dead, .dead, .dead, .dead, .dead, .dead, .dead])) := by
  exact turns_last (by simp) (M.run_of_path _ [true, true, true, true, true, true, true, true, true, true, true, true, true, true, true, true, true, true, true, true] _ _ (by kernel_rfl) (all_t c0 (all_t c1 (all_t c2 (all_t c3 (all_nf c4 (all_nf c4 (all_nf c4 (all_nf c4 (all_nf c4 (all_t rfl (all_t rfl (all_t rfl (all_t rfl (all_t rfl (all_t rfl (all_t rfl (all_t rfl (all_t rfl (all_t rfl (all_t rfl all_nil))))))))))))))))))))) 
set_option maxHeartbeats 20000000 in
theorem l24_0_w6 (m n : Nat) (x0 : List ((List UInt8) × (List UInt8))) (s9 : Int) (s10 : Int) (c0 : ¬ decide (s10 < s9) = true) : (turns (hds 24 1793) 0 1793 (evC byref (evCall F S22 (m + 24)) (m + 24) 0 (hds 24) lbl24_0) (n + 1) (l24_0H x0 s9 s10) (l24_0B x0 s9 s10)).run = some (.exit 0, [(.d (.sl (.pair .str .str) x0)), .top, .top, .top, .top, .top, .top, .top, (.d (.sl (.pair .str .str) x0)), (.d (.int .i64 s9)), (.d (.int .i64 s10)), (.d (.bool (decide (s10 < s9)))), .top, .top, .top, .top, .top, .top, .top, .top, .top, .top, .top, .top, .top, .top, .top, .top, .top, .top, .top, .top, .top, .top, .top, .top, .top, .top, .top, .top, .top, .top, .top, .top, .top, .top, .top], []) := by
  exact turns_last (by simp) (M.run_of_path _ [false] _ _ (by kernel_rfl) (all_f c0 all_nil)) 

set_option maxHeartbeats 20000000 in
theorem l24_0_step (m n : Nat) (ih : ∀ (x0 : List ((List UInt8) × (List UInt8))) (s9 : Int) (s10 : Int) (q : Nat × Int), l24_0 m n x0 s9 s10 = some q → (turns (hds 24 1793) 0 1793 (evC byref (evCall F S22 (m + 24)) (m + 24) 0 (hds 24) lbl24_0) n (l24_0H x0 s9 s10) (l24_0B x0 s9 s10)).run = some (l24_0E (x0) (s9) (q.2) q.1)) (x0 : List ((List UInt8) × (List UInt8))) (s9 : Int) (s10 : Int) (q : Nat × Int) (h : l24_0 m (n + 1) x0 s9 s10 = some q) : (turns (hds 24 1793) 0 1793 (evC byref (evCall F S22 (m + 24)) (m + 24) 0 (hds 24) lbl24_0) (n + 1) (l24_0H x0 s9 s10) (l24_0B x0 s9 s10)).run = some (l24_0E (x0) (s9) (q.2) q.1) := by
  rw [l24_0] at h
  refine ite_cases h (fun c0 h => ?_) (fun c0 h => ?_)
  · skip
    refine ite_cases h (fun c1 h => ?_) (fun c1 h => ?_)
    · skip
      refine ite_cases h (fun c2 h => ?_) (fun c2 h => ?_)
      · skip
        refine ite_cases h (fun c3 h => ?_) (fun c3 h => ?_)
        · skip
          refine ite_cases h (fun c4 h => ?_) (fun c4 h => ?_)
          · skip
            refine ite_cases h (fun c9 h => ?_) (fun c9 h => ?_)
            · skip
              cases h
              exact l24_0_w0 m n x0 s9 s10 c0 c1 c2 c3 c4 c9
            · skip
              refine ite_cases h (fun c14 h => ?_) (fun c14 h => ?_)
              · skip
                cases h
                exact l24_0_w1 m n x0 s9 s10 c0 c1 c2 c3 c4 c9 c14
              · skip
                refine ite_cases h (fun c17 h => ?_) (fun c17 h => ?_)
                · skip
                  refine ite_cases h (fun c21 h => ?_) (fun c21 h => ?_)
                  · skip
                    refine ite_cases h (fun c22 h => ?_) (fun c22 h => ?_)
                    · skip
                      refine ite_cases h (fun c31 h => ?_) (fun c31 h => ?_)
                      · skip
                        exact l24_0_w2 m n x0 s9 s10 _ c0 c1 c2 c3 c4 c9 c14 c17 c21 c22 c31 (ih _ _ _ q h)
                      · skip
                        cases h
                        exact l24_0_w3 m n x0 s9 s10 c0 c1 c2 c3 c4 c9 c14 c17 c21 c22 c31
                    · skip
                      cases h
                  · skip
                    cases h
                · skip
                  exact l24_0_w4 m n x0 s9 s10 _ c0 c1 c2 c3 c4 c9 c14 c17 (ih _ _ _ q h)
          · skip
            cases h
            exact l24_0_w5 m n x0 s9 s10 c0 c1 c2 c3 c4
        · skip
          cases h
      · skip
        cases h
    · skip
      cases h
  · skip
    cases h
    exact l24_0_w6 m n x0 s9 s10 c0
set_option maxHeartbeats 20000000 in
theorem l24_0_ok (m : Nat) : ∀ (n : Nat) (x0 : List ((List UInt8) × (List UInt8))) (s9 : Int) (s10 : Int) (q : Nat × Int), l24_0 m n x0 s9 s10 = some q → (turns (hds 24 1793) 0 1793 (evC byref (evCall F S22 (m + 24)) (m + 24) 0 (hds 24) lbl24_0) n (l24_0H x0 s9 s10) (l24_0B x0 s9 s10)).run = some (l24_0E (x0) (s9) (q.2) q.1)
  | 0, x0, s9, s10, q, h => by cases h
  | n + 1, x0, s9, s10, q, h => l24_0_step m n (l24_0_ok m n) x0 s9 s10 q h

def p24 (m : Nat) (x0 : List ((List UInt8) × (List UInt8))) : Option (Bool) :=
  if decide ((((List.length x0) : Nat) : Int) > 6) = true then
    some (false)
  else
    if (Option.isSome (l24_0 m (m + 24) x0 ((((List.length x0) : Nat) : Int)) 0)) = true then
      if ((l24_0R m (m + 24) x0 ((((List.length x0) : Nat) : Int)) 0).1 == 0) = true then
        some (false)
      else
        if ((l24_0R m (m + 24) x0 ((((List.length x0) : Nat) : Int)) 0).1 == 1) = true then
          some (false)
        else
          if ((l24_0R m (m + 24) x0 ((((List.length x0) : Nat) : Int)) 0).1 == 2) = true then
            some (false)
          else
            if ((l24_0R m (m + 24) x0 ((((List.length x0) : Nat) : Int)) 0).1 == 3) = true then
              some (false)
            else
              if ((l24_0R m (m + 24) x0 ((((List.length x0) : Nat) : Int)) 0).1 == 4) = true then
                some (true)
              else
                none
    else
      none
set_option maxHeartbeats 20000000 in
theorem p24_ok (m : Nat) (x0 : List ((List UInt8) × (List UInt8))) (q : Bool) (h : p24 m x0 = some q) : ∃ r B1, (evCall F S22 (m + 25) 24 [(.d (.sl (.pair .str .str) x0))] []).run = some (r, B1) ∧ 0 ≤ B1.length ∧ wkR B1 [] r (.d (.bool (q))) ∧ wkBs B1 [] 0 [] := by
  unfold p24 at h
  refine ite_cases h (fun c0 h => ?_) (fun c0 h => ?_)
  · skip
    cases h
    refine ⟨(.d (.bool false)), [], runT_ok (LS := (fun k => none)) (fn := fn24) (vis := []) (by kernel_rfl) rfl (by kernel_rfl) (M.run_of_path _ [true] _ _ (by kernel_rfl) (all_t c0 all_nil)) ?_, by simp, (wkR.one (wkV.one (wk1.eq rfl))), trivial⟩
    intro p hp; cases hp
  · skip
    refine ite_cases h (fun c1 h => ?_) (fun c1 h => ?_)
    · skip
      refine ite_cases h (fun c2 h => ?_) (fun c2 h => ?_)
      · skip
        cases h
        refine ⟨(.d (.bool false)), [], runT_ok (LS := (fun k => if k = 1793 then some (l24_0E x0 (((((List.length x0) : Nat) : Int))) ((l24_0R m (m + 24) x0 ((((List.length x0) : Nat) : Int)) 0).2) 0) else none)) (fn := fn24) (vis := [(1793, l24_0H x0 ((((List.length x0) : Nat) : Int)) 0, l24_0B x0 ((((List.length x0) : Nat) : Int)) 0)]) (by kernel_rfl) rfl (by kernel_rfl) (M.run_of_path _ [false] _ _ (by kernel_rfl) (all_f c0 all_nil)) ?_, by simp, (wkR.one (wkV.one (wk1.eq rfl))), trivial⟩
        intro p hp p2 hq
        rcases List.mem_cons.1 hp with rfl | hp
        · skip
          have h3 := l24_0_ok m (m + 24) x0 ((((List.length x0) : Nat) : Int)) 0 _ (some_getD (d := l24_0D) c1)
          rw [eq_of_beq c2] at h3
          exact Eq.trans (Eq.mp (by kernel_rfl) h3) hq
        cases hp
      · skip
        refine ite_cases h (fun c3 h => ?_) (fun c3 h => ?_)
        · skip
          cases h
          refine ⟨(.d (.bool false)), [], runT_ok (LS := (fun k => if k = 1793 then some (l24_0E x0 (((((List.length x0) : Nat) : Int))) ((l24_0R m (m + 24) x0 ((((List.length x0) : Nat) : Int)) 0).2) 1) else none)) (fn := fn24) (vis := [(1793, l24_0H x0 ((((List.length x0) : Nat) : Int)) 0, l24_0B x0 ((((List.length x0) : Nat) : Int)) 0)]) (by kernel_rfl) rfl (by kernel_rfl) (M.run_of_path _ [false] _ _ (by kernel_rfl) (all_f c0 all_nil)) ?_, by simp, (wkR.one (wkV.one (wk1.eq rfl))), trivial⟩
          intro p hp p2 hq
          rcases List.mem_cons.1 hp with rfl | hp
          · skip
            have h3 := l24_0_ok m (m + 24) x0 ((((List.length x0) : Nat) : Int)) 0 _ (some_getD (d := l24_0D) c1)
            rw [eq_of_beq c3] at h3
            exact Eq.trans (Eq.mp (by kernel_rfl) h3) hq
          cases hp
        · skip
          refine ite_cases h (fun c4 h => ?_) (fun c4 h => ?_)
          · skip
            cases h
            refine ⟨(.d (.bool false)), [], runT_ok (LS := (fun k => if k = 1793 then some (l24_0E x0 (((((List.length x0) : Nat) : Int))) ((l24_0R m (m + 24) x0 ((((List.length x0) : Nat) : Int)) 0).2) 2) else none)) (fn := fn24) (vis := [(1793, l24_0H x0 ((((List.length x0) : Nat) : Int)) 0, l24_0B x0 ((((List.length x0) : Nat) : Int)) 0)]) (by kernel_rfl) rfl (by kernel_rfl) (M.run_of_path _ [false] _ _ (by kernel_rfl) (all_f c0 all_nil)) ?_, by simp, (wkR.one (wkV.one (wk1.eq rfl))), trivial⟩
            intro p hp p2 hq
            rcases List.mem_cons.1 hp with rfl | hp
            · skip
              have h3 := l24_0_ok m (m + 24) x0 ((((List.length x0) : Nat) : Int)) 0 _ (some_getD (d := l24_0D) c1)
              rw [eq_of_beq c4] at h3
              exact Eq.trans (Eq.mp (by kernel_rfl) h3) hq
            cases hp
          · skip
            refine ite_cases h (fun c5 h => ?_) (fun c5 h => ?_)
            · skip
              cases h
              refine ⟨(.d (.bool false)), [], runT_ok (LS := (fun k => if k = 1793 then some (l24_0E x0 (((((List.length x0) : Nat) : Int))) ((l24_0R m (m + 24) x0 ((((List.length x0) : Nat) : Int)) 0).2) 3) else none)) (fn := fn24) (vis := [(1793, l24_0H x0 ((((List.length x0) : Nat) : Int)) 0, l24_0B x0 ((((List.length x0) : Nat) : Int)) 0)]) (by kernel_rfl) rfl (by kernel_rfl) (M.run_of_path _ [false] _ _ (by kernel_rfl) (all_f c0 all_nil)) ?_, by simp, (wkR.one (wkV.one (wk1.eq rfl))), trivial⟩
              intro p hp p2 hq
              rcases List.mem_cons.1 hp with rfl | hp
              · skip
                have h3 := l24_0_ok m (m + 24) x0 ((((List.length x0) : Nat) : Int)) 0 _ (some_getD (d := l24_0D) c1)
                rw [eq_of_beq c5] at h3
                exact Eq.trans (Eq.mp (by kernel_rfl) h3) hq
              cases hp
            · skip
              refine ite_cases h (fun c6 h => ?_) (fun c6 h => ?_)
              · skip
                cases h
                refine ⟨(.d (.bool true)), [], runT_ok (LS := (fun k => if k = 1793 then some (l24_0E x0 (((((List.length x0) : Nat) : Int))) ((l24_0R m (m + 24) x0 ((((List.length x0) : Nat) : Int)) 0).2) 4) else none)) (fn := fn24) (vis := [(1793, l24_0H x0 ((((List.length x0) : Nat) : Int)) 0, l24_0B x0 ((((List.length x0) : Nat) : Int)) 0)]) (by kernel_rfl) rfl (by kernel_rfl) (M.run_of_path _ [false] _ _ (by kernel_rfl) (all_f c0 all_nil)) ?_, by simp, (wkR.one (wkV.one (wk1.eq rfl))), trivial⟩
                intro p hp p2 hq
                rcases List.mem_cons.1 hp with rfl | hp
                · skip
                  have h3 := l24_0_ok m (m + 24) x0 ((((List.length x0) : Nat) : Int)) 0 _ (some_getD (d := l24_0D) c1)
                  rw [eq_of_beq c6] at h3
                  exact Eq.trans (Eq.mp (by kernel_rfl) h3) hq
                cases hp
              · skip
                cases h
    · skip
      cases h

theorem rlright_loop (m : Nat) (l : LB) (h1 : l.length ≤ 1000000) (h2 : ∀ x ∈ l, x.1.length ≤ 9223372036854775807) : ∀ (n k : Nat), k ≤ l.length → l.length - k < n → ∃ e j, l24_0 m n l (l.length : Nat) (k : Nat) = some (e, j) ∧ ((e = 4 ∧ lR l k = true) ∨ (e < 4 ∧ lR l k = false))
  | 0, k, _, h => by omega
  | n + 1, k, g1, g2 => by
    rw [l24_0]
    by_cases hk : k < l.length
    · have e1 : decide (((k : Nat) : Int) < (((List.length l) : Nat) : Int)) = true := decide_eq_true (by omega)
      have e2 : decide ((0 : Int) ≤ ((k : Nat) : Int)) = true := decide_eq_true (by omega)
      have e7 : IntKind.wrap .i64 (((k : Nat) : Int) + (1)) = ((k + 1 : Nat) : Int) := by rw [wrap_id (by omega) (by omega)]; rfl
      have hq := h2 _ (getD_mem l k (([] : List UInt8), ([] : List UInt8)) hk)
      obtain ⟨e, j, go, hc⟩ := rlright_loop m l h1 h2 n (k + 1) (by omega) (by omega)
      have hd := drop_getD l k (([] : List UInt8), ([] : List UInt8)) hk
      have hR : lR l k = (lab1 (l.getD k (([] : List UInt8), ([] : List UInt8))) && (decide (k = 0) || Op.bytesLess (l.getD (k - 1) (([] : List UInt8), ([] : List UInt8))).1 (l.getD k (([] : List UInt8), ([] : List UInt8))).1) && lR l (k + 1)) := by
        unfold lR
        rw [hd, List.all_cons, show k + 1 - 1 = k from rfl]
        cases k with
        | zero => rw [show (0 - 1 : Nat) = 0 from rfl, hd]; simp [Bool.and_assoc]
        | succ k =>
          rw [show k + 1 - 1 = k from rfl]
          have hd0 := drop_getD l k (([] : List UInt8), ([] : List UInt8)) (by omega)
          have hr : lrise (l.drop k) = (Op.bytesLess (l.getD k (([] : List UInt8), ([] : List UInt8))).1 (l.getD (k + 1) (([] : List UInt8), ([] : List UInt8))).1 && lrise (l.drop (k + 1))) := by
            rw [hd0, hd, lrise]
          rw [hr]
          have : decide (k + 1 = 0) = false := decide_eq_false (by omega)
          rw [this, Bool.false_or]
          generalize lab1 (l.getD (k + 1) (([] : List UInt8), ([] : List UInt8))) = A
          generalize List.all (l.drop (k + 1 + 1)) lab1 = B
          generalize Op.bytesLess (l.getD k (([] : List UInt8), ([] : List UInt8))).1 (l.getD (k + 1) (([] : List UInt8), ([] : List UInt8))).1 = C
          generalize lrise (l.drop (k + 1)) = D
          cases A <;> cases B <;> cases C <;> rfl
      have hl : lab1 (l.getD k (([] : List UInt8), ([] : List UInt8))) = (wordG (l.getD k (([] : List UInt8), ([] : List UInt8))).1 && decide (1 ≤ (l.getD k (([] : List UInt8), ([] : List UInt8))).2.length) && decide ((l.getD k (([] : List UInt8), ([] : List UInt8))).2.length ≤ 24)) := rfl
      simp only [show Int.toNat ((k : Nat) : Int) = k from rfl, e1, e2, e7, ↓reduceIte]
      have e3 : decide (List.length (l.getD k (([] : List UInt8), ([] : List UInt8))).1 ≤ 9223372036854775807) = true := decide_eq_true hq
      rw [if_pos e3]
      have yes : lab1 (l.getD k (([] : List UInt8), ([] : List UInt8))) = true → (decide (k = 0) || Op.bytesLess (l.getD (k - 1) (([] : List UInt8), ([] : List UInt8))).1 (l.getD k (([] : List UInt8), ([] : List UInt8))).1) = true → ∃ e j, l24_0 m n l (l.length : Nat) ((k + 1 : Nat) : Int) = some (e, j) ∧ ((e = 4 ∧ lR l k = true) ∨ (e < 4 ∧ lR l k = false)) := by
        intro a b
        rw [hR, a, b]
        exact ⟨e, j, go, by rw [Bool.and_self, Bool.true_and]; exact hc⟩
      have no : ∀ e' : Nat, e' < 4 → (lab1 (l.getD k (([] : List UInt8), ([] : List UInt8))) && (decide (k = 0) || Op.bytesLess (l.getD (k - 1) (([] : List UInt8), ([] : List UInt8))).1 (l.getD k (([] : List UInt8), ([] : List UInt8))).1)) = false → ∃ e j, (some (e', ((k : Nat) : Int)) : Option (Nat × Int)) = some (e, j) ∧ ((e = 4 ∧ lR l k = true) ∨ (e < 4 ∧ lR l k = false)) := by
        intro e' he' a
        rw [hR, a]
        exact ⟨_, _, rfl, .inr ⟨he', rfl⟩⟩
      cases c1 : wordG (l.getD k (([] : List UInt8), ([] : List UInt8))).1 with
      | false => 
        rw [c1] at hl
        rw [if_neg (by simp)]
        exact no 0 (by omega) (by rw [hl]; rfl)
      | true =>
        rw [c1, Bool.true_and] at hl
        rw [if_pos rfl]
        by_cases c2 : (l.getD k (([] : List UInt8), ([] : List UInt8))).2 = []
        · rw [if_pos (by rw [c2]; rfl)]
          exact no 1 (by omega) (by rw [hl, c2]; rfl)
        · have p2 : 1 ≤ (l.getD k (([] : List UInt8), ([] : List UInt8))).2.length := by
            cases h : (l.getD k (([] : List UInt8), ([] : List UInt8))).2 with
            | nil => exact absurd h c2
            | cons a t => simp
          rw [if_neg (show ¬ decide ((((List.length (l.getD k (([] : List UInt8), ([] : List UInt8))).2) : Nat) : Int) < 1) = true by rw [decide_eq_true_eq]; omega)]
          rw [show decide (1 ≤ (l.getD k (([] : List UInt8), ([] : List UInt8))).2.length) = true from decide_eq_true p2, Bool.true_and] at hl
          by_cases c3 : (l.getD k (([] : List UInt8), ([] : List UInt8))).2.length ≤ 24
          · rw [if_neg (show ¬ decide ((((List.length (l.getD k (([] : List UInt8), ([] : List UInt8))).2) : Nat) : Int) > 24) = true by rw [decide_eq_true_eq]; omega)]
            rw [decide_eq_true c3] at hl
            by_cases c4 : k = 0
            · subst c4
              rw [if_neg (by simp)]
              exact yes hl rfl
            · have w1 : IntKind.wrap .i64 (((k : Nat) : Int) - (1)) = ((k - 1 : Nat) : Int) := by rw [wrap_id (by omega) (by omega)]; omega
              rw [if_pos (show decide (((k : Nat) : Int) > 0) = true from decide_eq_true (by omega)), w1, if_pos (decide_eq_true (by omega)), if_pos (decide_eq_true (by omega)), show Int.toNat ((k - 1 : Nat) : Int) = k - 1 from rfl]
              cases c5 : Op.bytesLess (l.getD (k - 1) (([] : List UInt8), ([] : List UInt8))).1 (l.getD k (([] : List UInt8), ([] : List UInt8))).1 with
              | true => rw [if_pos rfl]; exact yes hl (by rw [c5, Bool.or_true])
              | false => rw [if_neg (by simp)]; exact no 3 (by omega) (by rw [c5, decide_eq_false c4]; simp)
          · rw [if_pos (show decide ((((List.length (l.getD k (([] : List UInt8), ([] : List UInt8))).2) : Nat) : Int) > 24) = true from decide_eq_true (by omega))]
            exact no 2 (by omega) (by rw [hl, decide_eq_false c3]; rfl)
    · have e1 : decide (((k : Nat) : Int) < (((List.length l) : Nat) : Int)) = false := decide_eq_false (by omega)
      have e0 : k = l.length := by omega
      subst e0
      rw [e1, if_neg (by simp)]
      refine ⟨4, _, rfl, .inl ⟨rfl, ?_⟩⟩
      unfold lR
      rw [List.drop_length, List.all_nil, Bool.true_and]
      rcases Nat.eq_zero_or_pos l.length with h | h
      · rw [h, List.drop_eq_nil_of_le (by omega)]; rfl
      · rw [drop_getD l (l.length - 1) (([] : List UInt8), ([] : List UInt8)) (by omega), List.drop_eq_nil_of_le (by omega)]; rfl
theorem rlright17 (l : LB) (h : lrightPre l = true) : ∃ m, p24 m l = some (lrightG l) := by
  have ⟨h1, h2⟩ := of_decide_eq_true h
  refine ⟨l.length, ?_⟩
  obtain ⟨e, j, hr, hc⟩ := rlright_loop l.length l h1 h2 (l.length + 24) 0 (by omega) (by omega)
  have hR : lrightG l = (lR l 0 && decide (l.length ≤ 6)) := by unfold lrightG lR; rfl
  simp only [Int.natCast_zero] at hr
  unfold p24
  rw [hR]
  by_cases h6 : l.length ≤ 6
  · rw [if_neg (by rw [decide_eq_true_eq]; omega), decide_eq_true h6, Bool.and_true]
    simp only [l24_0R, hr, Option.isSome_some, Option.getD_some, ↓reduceIte]
    rcases hc with ⟨rfl, hc⟩ | ⟨hlt, hc⟩
    · rw [hc]; rfl
    · rw [hc]
      have : e = 0 ∨ e = 1 ∨ e = 2 ∨ e = 3 := by omega
      rcases this with rfl | rfl | rfl | rfl <;> rfl
  · rw [if_pos (decide_eq_true (by omega)), decide_eq_false h6, Bool.and_false]
def s24 : List AV → Boxes → M (AV × Boxes) := normS [.val (.sl (.pair .str .str))] [] fun xs B => match xs, B with
  | [(.d (.sl (.pair .str .str) c1))], [] => .chk (lrightPre c1) (.ret ((.d (.bool (lrightG c1))), []))
  | _, _ => .fail
theorem s24_at : CallAt Tryd.prog 24 s24 := by
  refine CallAt.norm (CallAt.weakE (g := fun n => evCall F S22 n 24) (fun n => evCall_atH mixed kinds hds S22 S22_ok n 24) fun xs B r' B' hr => ?_) _ _
  split at hr
  · rename_i c1
    obtain ⟨hp, hr⟩ := (M.run_chk _ _ _).1 hr
    simp only [M.run, Option.some.injEq, Prod.mk.injEq] at hr
    obtain ⟨rfl, rfl⟩ := hr
    obtain ⟨m, hm⟩ := rlright17 c1 hp
    obtain ⟨r, B1, h1, h2, h3, h4⟩ := p24_ok m c1 _ hm
    exact ⟨m + 25, r, B1, h1, by simp, h2, h3, h4⟩
  · simp [M.run] at hr
noncomputable def S23 : FuncId → Option (List AV → Boxes → M (AV × Boxes)) := fun f => if f = 24 then some s24 else S22 f
set_option maxHeartbeats 20000000 in
theorem S23_ok : ∀ f s, S23 f = some s → CallAt Tryd.prog f s := by
  intro f s h
  unfold S23 at h
  split at h
  · rename_i e; subst e; cases h; exact s24_at
  · exact S22_ok f s h

noncomputable def fn28 : AFn := (F 28).getD ⟨0, [], .bad, false, false, noHd⟩
noncomputable def body28 : AC := fn28.body
def l28_0 (m : Nat) : Nat → List UInt8 → Int → List Int → Option (Nat × Int × (List Int))
  | 0, _, _, _ => none
  | n + 1, x0, s4, b0 => if decide (s4 < (((List.length x0) : Nat) : Int)) = true then
      if decide (0 ≤ s4) = true then
        if (((UInt8.toNat (List.getD x0 (Int.toNat s4) 0) : Nat) : Int) == (34)) = true then
          if decide ((((List.length b0) + 1) * 1) ≤ 70368744177664) = true then
            if decide (((((List.length b0) + 1) + 1) * 1) ≤ 70368744177664) = true then
              if decide (((List.length b0) + 1) = (List.length (b0 ++ [(92)]))) = true then
                l28_0 m n x0 ((IntKind.wrap .i64 (s4 + (1)))) (((b0 ++ [(92)]) ++ [((UInt8.toNat (List.getD x0 (Int.toNat s4) 0) : Nat) : Int)]))
              else
                none
            else
              none
          else
            none
        else
          if (((UInt8.toNat (List.getD x0 (Int.toNat s4) 0) : Nat) : Int) == (92)) = true then
            if decide ((((List.length b0) + 1) * 1) ≤ 70368744177664) = true then
              if decide (((((List.length b0) + 1) + 1) * 1) ≤ 70368744177664) = true then
                if decide (((List.length b0) + 1) = (List.length (b0 ++ [(92)]))) = true then
                  l28_0 m n x0 ((IntKind.wrap .i64 (s4 + (1)))) (((b0 ++ [(92)]) ++ [((UInt8.toNat (List.getD x0 (Int.toNat s4) 0) : Nat) : Int)]))
                else
                  none
              else
                none
            else
              none
          else
            if decide ((((List.length b0) + 1) * 1) ≤ 70368744177664) = true then
              l28_0 m n x0 ((IntKind.wrap .i64 (s4 + (1)))) ((b0 ++ [((UInt8.toNat (List.getD x0 (Int.toNat s4) 0) : Nat) : Int)]))
            else
              none
      else
        none
    else
      some (0, s4, b0)
def l28_0D : Nat × Int × (List Int) := (0, 0, [])
@[reducible] def l28_0R (m n : Nat) (x0 : List UInt8) (s4 : Int) (b0 : List Int) : Nat × Int × (List Int) := Option.getD (l28_0 m n x0 s4 b0) l28_0D
def l28_0H (x0 : List UInt8) (s4 : Int) (b0 : List Int) : Env := [(.d (.str x0)), .top, .top, (.sr 0 0 (List.length b0) 1 none), (.d (.int .i64 s4)), .top, .top, .top, .top, .top, .top, .top, .top, .top, .top, .top, .top, .top, .top, .top, .top, .top, .top, .top, .top, .top, .top, .top, .top, .top, .top, .top, .top, .top, .top]
def l28_0B (x0 : List UInt8) (s4 : Int) (b0 : List Int) : Boxes := [(.arr (.int .u8) b0 true)]
def l28_0E (x0 : List UInt8) (s4 : Int) (b0 : List Int) : Nat → AEx × Env × Boxes
  | _ => (.exit 0, [(.d (.str x0)), .top, .top, (.sr 0 0 (List.length b0) 1 none), (.d (.int .i64 s4)), .top, (.d (.int .i64 s4)), (.d (.str x0)), (.d (.int .i64 (((List.length x0) : Nat) : Int))), (.d (.bool (decide (s4 < (((List.length x0) : Nat) : Int))))), .top, .top, .top, .top, .top, .top, .top, .top, .top, .top, .top, .top, .top, .top, .top, .top, .top, .top, .top, .top, .top, .top, .top, .top, .top], [(.arr (.int .u8) b0 true)])
noncomputable def lbl28_0 : AC := loopBody 25 body28

set_option maxHeartbeats 20000000 in
theorem l28_0_w0 (m n : Nat) (x0 : List UInt8) (s4 : Int) (b0 : List Int) (r : AEx × Env × Boxes) (c0 : decide (s4 < (((List.length x0) : Nat) : Int)) = true) (c1 : decide (0 ≤ s4) = true) (c3 : (((UInt8.toNat (List.getD x0 (Int.toNat s4) 0) : Nat) : Int) == (34)) = true) (c10 : decide ((((List.length b0) + 1) * 1) ≤ 70368744177664) = true) (c15 : decide (((((List.length b0) + 1) + 1) * 1) ≤ 70368744177664) = true) (c16 : decide (((List.length b0) + 1) = (List.length (b0 ++ [(92)]))) = true) (ih : (turns (hds 28 25) 0 25 (evC byref (evCall F S23 (m + 24)) (m + 24) 0 (hds 28) lbl28_0) n (l28_0H x0 ((IntKind.wrap .i64 (s4 + (1)))) (((b0 ++ [(92)]) ++ [((UInt8.toNat (List.getD x0 (Int.toNat s4) 0) : Nat) : Int)]))) (l28_0B x0 ((IntKind.wrap .i64 (s4 + (1)))) (((b0 ++ [(92)]) ++ [((UInt8.toNat (List.getD x0 (Int.toNat s4) 0) : Nat) : Int)])))).run = some r) : (turns (hds 28 25) 0 25 (evC byref (evCall F S23 (m + 24)) (m + 24) 0 (hds 28) lbl28_0) (n + 1) (l28_0H x0 s4 b0) (l28_0B x0 s4 b0)).run = some r := by
  have ht : (turn (hds 28 25) 0 25 (evC byref (evCall F S23 (m + 24)) (m + 24) 0 (hds 28) lbl28_0) (l28_0H x0 s4 b0) (l28_0B x0 s4 b0)).run = some (.normal, [(.d (.str x0)), .top, .top, (.sr 0 0 (((List.length b0) + 1) + 1) 1 none), (.d (.int .i64 (IntKind.wrap .i64 (s4 + (1))))), .top, .top, .top, .top, .top, .top, .top, .top, .top, .top, .top, .top, .top, .top, .top, .top, .top, .top, .top, .top, .top, .top, .top, .top, .top, .top, .top, .top, .top, .top], [(.arr (.int .u8) ((b0 ++ [(92)]) ++ [((UInt8.toNat (List.getD x0 (Int.toNat s4) 0) : Nat) : Int)]) true)]) := M.run_of_path _ [true, true, true, true, true, true, true, true, true, true, true, true, true, true, true, true, true] _ _ (by kernel_rfl) (all_t c0 (all_t c1 (all_t c0 (all_t c3 (all_t c3 (all_t c3 (all_t c3 (all_t c3 (all_t rfl (all_t rfl (all_t c10 (all_t (show decide ((List.length b0) = (List.length b0)) = true from decide_eq_true rfl) (all_t c1 (all_t c0 (all_t rfl (all_t c15 (all_t c16 all_nil)))))))))))))))))
  refine turns_step ht (turns_eq ?_ ?_ ih)
  · unfold l28_0H
    first | (simp; done) | (simp [Nat.add_assoc]; done) | (simp; omega)
  · unfold l28_0B
    simp
set_option maxHeartbeats 20000000 in
theorem l28_0_w1 (m n : Nat) (x0 : List UInt8) (s4 : Int) (b0 : List Int) (r : AEx × Env × Boxes) (c0 : decide (s4 < (((List.length x0) : Nat) : Int)) = true) (c1 : decide (0 ≤ s4) = true) (c3 : ¬ (((UInt8.toNat (List.getD x0 (Int.toNat s4) 0) : Nat) : Int) == (34)) = true) (c10 : (((UInt8.toNat (List.getD x0 (Int.toNat s4) 0) : Nat) : Int) == (92)) = true) (c12 : decide ((((List.length b0) + 1) * 1) ≤ 70368744177664) = true) (c17 : decide (((((List.length b0) + 1) + 1) * 1) ≤ 70368744177664) = true) (c18 : decide (((List.length b0) + 1) = (List.length (b0 ++ [(92)]))) = true) (ih : (turns (hds 28 25) 0 25 (evC byref (evCall F S23 (m + 24)) (m + 24) 0 (hds 28) lbl28_0) n (l28_0H x0 ((IntKind.wrap .i64 (s4 + (1)))) (((b0 ++ [(92)]) ++ [((UInt8.toNat (List.getD x0 (Int.toNat s4) 0) : Nat) : Int)]))) (l28_0B x0 ((IntKind.wrap .i64 (s4 + (1)))) (((b0 ++ [(92)]) ++ [((UInt8.toNat (List.getD x0 (Int.toNat s4) 0) : Nat) : Int)])))).run = some r) : (turns (hds 28 25) 0 25 (evC byref (evCall F S23 (m + 24)) (m + 24) 0 (hds 28) lbl28_0) (n + 1) (l28_0H x0 s4 b0) (l28_0B x0 s4 b0)).run = some r := by
  have ht : (turn (hds 28 25) 0 25 (evC byref (evCall F S23 (m + 24)) (m + 24) 0 (hds 28) lbl28_0) (l28_0H x0 s4 b0) (l28_0B x0 s4 b0)).run = some (.normal, [(.d (.str x0)), .top, .top, (.sr 0 0 (((List.length b0) + 1) + 1) 1 none), (.d (.int .i64 (IntKind.wrap .i64 (s4 + (1))))), .top, .top, .top, .top, .top, .top, .top, .top, .top, .top, .top, .top, .top, .top, .top, .top, .top, .top, .top, .top, .top, .top, .top, .top, .top, .top, .top, .top, .top, .top], [(.arr (.int .u8) ((b0 ++ [(92)]) ++ [((UInt8.toNat (List.getD x0 (Int.toNat s4) 0) : Nat) : Int)]) true)]) := M.run_of_path _ [true, true, true, false, false, false, true, true, false, false, true, true, true, true, true, true, true, true, true] _ _ (by kernel_rfl) (all_t c0 (all_t c1 (all_t c0 (all_f c3 (all_f c3 (all_f c3 (all_t c1 (all_t c0 (all_f c3 (all_f c3 (all_t c10 (all_t rfl (all_t c12 (all_t (show decide ((List.length b0) = (List.length b0)) = true from decide_eq_true rfl) (all_t c1 (all_t c0 (all_t rfl (all_t c17 (all_t c18 all_nil)))))))))))))))))))
  refine turns_step ht (turns_eq ?_ ?_ ih)
  · unfold l28_0H
    first | (simp; done) | (simp [Nat.add_assoc]; done) | (simp; omega)
  · unfold l28_0B
    simp
set_option maxHeartbeats 20000000 in
theorem l28_0_w2 (m n : Nat) (x0 : List UInt8) (s4 : Int) (b0 : List Int) (r : AEx × Env × Boxes) (c0 : decide (s4 < (((List.length x0) : Nat) : Int)) = true) (c1 : decide (0 ≤ s4) = true) (c3 : ¬ (((UInt8.toNat (List.getD x0 (Int.toNat s4) 0) : Nat) : Int) == (34)) = true) (c10 : ¬ (((UInt8.toNat (List.getD x0 (Int.toNat s4) 0) : Nat) : Int) == (92)) = true) (c14 : decide ((((List.length b0) + 1) * 1) ≤ 70368744177664) = true) (ih : (turns (hds 28 25) 0 25 (evC byref (evCall F S23 (m + 24)) (m + 24) 0 (hds 28) lbl28_0) n (l28_0H x0 ((IntKind.wrap .i64 (s4 + (1)))) ((b0 ++ [((UInt8.toNat (List.getD x0 (Int.toNat s4) 0) : Nat) : Int)]))) (l28_0B x0 ((IntKind.wrap .i64 (s4 + (1)))) ((b0 ++ [((UInt8.toNat (List.getD x0 (Int.toNat s4) 0) : Nat) : Int)])))).run = some r) : (turns (hds 28 25) 0 25 (evC byref (evCall F S23 (m + 24)) (m + 24) 0 (hds 28) lbl28_0) (n + 1) (l28_0H x0 s4 b0) (l28_0B x0 s4 b0)).run = some r := by
  have ht : (turn (hds 28 25) 0 25 (evC byref (evCall F S23 (m + 24)) (m + 24) 0 (hds 28) lbl28_0) (l28_0H x0 s4 b0) (l28_0B x0 s4 b0)).run = some (.normal, [(.d (.str x0)), .top, .top, (.sr 0 0 ((List.length b0) + 1) 1 none), (.d (.int .i64 (IntKind.wrap .i64 (s4 + (1))))), .top, .top, .top, .top, .top, .top, .top, .top, .top, .top, .top, .top, .top, .top, .top, .top, .top, .top, .top, .top, .top, .top, .top, .top, .top, .top, .top, .top, .top, .top], [(.arr (.int .u8) (b0 ++ [((UInt8.toNat (List.getD x0 (Int.toNat s4) 0) : Nat) : Int)]) true)]) := M.run_of_path _ [true, true, true, false, false, false, true, true, false, false, false, true, true, true, true, true] _ _ (by kernel_rfl) (all_t c0 (all_t c1 (all_t c0 (all_f c3 (all_f c3 (all_f c3 (all_t c1 (all_t c0 (all_f c3 (all_f c3 (all_f c10 (all_t c1 (all_t c0 (all_t rfl (all_t c14 (all_t (show decide ((List.length b0) = (List.length b0)) = true from decide_eq_true rfl) all_nil))))))))))))))))
  refine turns_step ht (turns_eq ?_ ?_ ih)
  · unfold l28_0H
    first | (simp; done) | (simp [Nat.add_assoc]; done) | (simp; omega)
  · unfold l28_0B
    simp
set_option maxHeartbeats 20000000 in
theorem l28_0_w3 (m n : Nat) (x0 : List UInt8) (s4 : Int) (b0 : List Int) (c0 : ¬ decide (s4 < (((List.length x0) : Nat) : Int)) = true) : (turns (hds 28 25) 0 25 (evC byref (evCall F S23 (m + 24)) (m + 24) 0 (hds 28) lbl28_0) (n + 1) (l28_0H x0 s4 b0) (l28_0B x0 s4 b0)).run = some (.exit 0, [(.d (.str x0)), .top, .top, (.sr 0 0 (List.length b0) 1 none), (.d (.int .i64 s4)), .top, (.d (.int .i64 s4)), (.d (.str x0)), (.d (.int .i64 (((List.length x0) : Nat) : Int))), (.d (.bool (decide (s4 < (((List.length x0) : Nat) : Int))))), .top, .top, .top, .top, .top, .top, .top, .top, .top, .top, .top, .top, .top, .top, .top, .top, .top, .top, .top, .top, .top, .top, .top, .top, .top], [(.arr (.int .u8) b0 true)]) := by
  exact turns_last (by simp) (M.run_of_path _ [false] _ _ (by kernel_rfl) (all_f c0 all_nil)) 

set_option maxHeartbeats 20000000 in
theorem l28_0_step (m n : Nat) (ih : ∀ (x0 : List UInt8) (s4 : Int) (b0 : List Int) (q : Nat × Int × (List Int)), l28_0 m n x0 s4 b0 = some q → (turns (hds 28 25) 0 25 (evC byref (evCall F S23 (m + 24)) (m + 24) 0 (hds 28) lbl28_0) n (l28_0H x0 s4 b0) (l28_0B x0 s4 b0)).run = some (l28_0E (x0) (q.2.1) (q.2.2) q.1)) (x0 : List UInt8) (s4 : Int) (b0 : List Int) (q : Nat × Int × (List Int)) (h : l28_0 m (n + 1) x0 s4 b0 = some q) : (turns (hds 28 25) 0 25 (evC byref (evCall F S23 (m + 24)) (m + 24) 0 (hds 28) lbl28_0) (n + 1) (l28_0H x0 s4 b0) (l28_0B x0 s4 b0)).run = some (l28_0E (x0) (q.2.1) (q.2.2) q.1) := by
  rw [l28_0] at h
  refine ite_cases h (fun c0 h => ?_) (fun c0 h => ?_)
  · skip
    refine ite_cases h (fun c1 h => ?_) (fun c1 h => ?_)
    · skip
      refine ite_cases h (fun c3 h => ?_) (fun c3 h => ?_)
      · skip
        refine ite_cases h (fun c10 h => ?_) (fun c10 h => ?_)
        · skip
          refine ite_cases h (fun c15 h => ?_) (fun c15 h => ?_)
          · skip
            refine ite_cases h (fun c16 h => ?_) (fun c16 h => ?_)
            · skip
              exact l28_0_w0 m n x0 s4 b0 _ c0 c1 c3 c10 c15 c16 (ih _ _ _ q h)
            · skip
              cases h
          · skip
            cases h
        · skip
          cases h
      · skip
        refine ite_cases h (fun c10 h => ?_) (fun c10 h => ?_)
        · skip
          refine ite_cases h (fun c12 h => ?_) (fun c12 h => ?_)
          · skip
            refine ite_cases h (fun c17 h => ?_) (fun c17 h => ?_)
            · skip
              refine ite_cases h (fun c18 h => ?_) (fun c18 h => ?_)
              · skip
                exact l28_0_w1 m n x0 s4 b0 _ c0 c1 c3 c10 c12 c17 c18 (ih _ _ _ q h)
              · skip
                cases h
            · skip
              cases h
          · skip
            cases h
        · skip
          refine ite_cases h (fun c14 h => ?_) (fun c14 h => ?_)
          · skip
            exact l28_0_w2 m n x0 s4 b0 _ c0 c1 c3 c10 c14 (ih _ _ _ q h)
          · skip
            cases h
    · skip
      cases h
  · skip
    cases h
    exact l28_0_w3 m n x0 s4 b0 c0
set_option maxHeartbeats 20000000 in
theorem l28_0_ok (m : Nat) : ∀ (n : Nat) (x0 : List UInt8) (s4 : Int) (b0 : List Int) (q : Nat × Int × (List Int)), l28_0 m n x0 s4 b0 = some q → (turns (hds 28 25) 0 25 (evC byref (evCall F S23 (m + 24)) (m + 24) 0 (hds 28) lbl28_0) n (l28_0H x0 s4 b0) (l28_0B x0 s4 b0)).run = some (l28_0E (x0) (q.2.1) (q.2.2) q.1)
  | 0, x0, s4, b0, q, h => by cases h
  | n + 1, x0, s4, b0, q, h => l28_0_step m n (l28_0_ok m n) x0 s4 b0 q h

def p28 (m : Nat) (x0 : List UInt8) : Option ((List UInt8)) :=
  if (Option.isSome (l28_0 m (m + 24) x0 0 ([(34)]))) = true then
    if decide ((((List.length (l28_0R m (m + 24) x0 0 ([(34)])).2.2) + 1) * 1) ≤ 70368744177664) = true then
      if decide ((0 + ((List.length (l28_0R m (m + 24) x0 0 ([(34)])).2.2) + 1)) ≤ (List.length ((l28_0R m (m + 24) x0 0 ([(34)])).2.2 ++ [(34)]))) = true then
        some ((List.map (fun (n : Int) => UInt8.ofNat n.toNat) (List.take ((List.length (l28_0R m (m + 24) x0 0 ([(34)])).2.2) + 1) (List.drop 0 ((l28_0R m (m + 24) x0 0 ([(34)])).2.2 ++ [(34)])))))
      else
        none
    else
      none
  else
    none
set_option maxHeartbeats 20000000 in
theorem p28_ok (m : Nat) (x0 : List UInt8) (q : (List UInt8)) (h : p28 m x0 = some q) : ∃ r B1, (evCall F S23 (m + 25) 28 [(.d (.str x0))] []).run = some (r, B1) ∧ 0 ≤ B1.length ∧ wkR B1 [] r (.d (.str q)) ∧ wkBs B1 [] 0 [] := by
  unfold p28 at h
  refine ite_cases h (fun c0 h => ?_) (fun c0 h => ?_)
  · skip
    refine ite_cases h (fun c2 h => ?_) (fun c2 h => ?_)
    · skip
      refine ite_cases h (fun c4 h => ?_) (fun c4 h => ?_)
      · skip
        cases h
        refine ⟨(.d (.str (List.map (fun (n : Int) => UInt8.ofNat n.toNat) (List.take ((List.length (l28_0R m (m + 24) x0 0 ([(34)])).2.2) + 1) (List.drop 0 ((l28_0R m (m + 24) x0 0 ([(34)])).2.2 ++ [(34)])))))), [], runT_ok (LS := (fun k => if k = 25 then some (l28_0E x0 ((l28_0R m (m + 24) x0 0 ([(34)])).2.1) ((l28_0R m (m + 24) x0 0 ([(34)])).2.2) 0) else none)) (fn := fn28) (vis := [(25, l28_0H x0 0 ([(34)]), l28_0B x0 0 ([(34)]))]) (by kernel_rfl) rfl (by kernel_rfl) (M.run_of_path _ [true, true, true, true] _ _ (by kernel_rfl) (all_t rfl (all_t c2 (all_t (show decide ((List.length (l28_0R m (m + 24) x0 0 ([(34)])).2.2) = (List.length (l28_0R m (m + 24) x0 0 ([(34)])).2.2)) = true from decide_eq_true rfl) (all_t c4 all_nil))))) ?_, by simp, (wkR.one (wkV.one (wk1.eq rfl))), trivial⟩
        intro p hp p2 hq
        rcases List.mem_cons.1 hp with rfl | hp
        · skip
          have h3 := l28_0_ok m (m + 24) x0 0 ([(34)]) _ (some_getD (d := l28_0D) c0)
          exact Eq.trans (Eq.mp (by kernel_rfl) h3) hq
        cases hp
      · skip
        cases h
    · skip
      cases h
  · skip
    cases h

theorem rquote_loop (m : Nat) (s : List UInt8) (hs : s.length ≤ 2000000) : ∀ (n k : Nat) (b : List Int), k ≤ s.length → s.length - k < n → b.length + 2 * (s.length - k) ≤ 6000000 → l28_0 m n s (k : Nat) b = some (0, ((s.length : Nat) : Int), b ++ (s.drop k).flatMap escI)
  | 0, k, _, _, h, _ => by omega
  | n + 1, k, b, h1, h2, h3 => by
    rw [l28_0]
    by_cases hk : k < s.length
    · have e1 : decide (((k : Nat) : Int) < (((List.length s) : Nat) : Int)) = true := decide_eq_true (by omega)
      have e2 : decide ((0 : Int) ≤ ((k : Nat) : Int)) = true := decide_eq_true (by omega)
      have e7 : IntKind.wrap .i64 (((k : Nat) : Int) + (1)) = ((k + 1 : Nat) : Int) := by rw [wrap_id (by omega) (by omega)]; rfl
      have go := fun b' (hb : b'.length ≤ b.length + 2) => rquote_loop m s hs n (k + 1) b' (by omega) (by omega) (by omega)
      rw [drop_getD s k 0 hk, List.flatMap_cons]
      simp only [show Int.toNat ((k : Nat) : Int) = k from rfl, e1, e2, e7, ↓reduceIte]
      generalize s.getD k 0 = c at *
      have a1 : decide (((List.length b) + 1) * 1 ≤ 70368744177664) = true := decide_eq_true (by omega)
      have a2 : decide ((((List.length b) + 1) + 1) * 1 ≤ 70368744177664) = true := decide_eq_true (by omega)
      have a3 : decide (((List.length b) + 1) = (List.length (b ++ [(92)]))) = true := decide_eq_true (by simp)
      have yes : (UInt8.toNat c = 34 ∨ UInt8.toNat c = 92) → l28_0 m n s ((k + 1 : Nat) : Int) ((b ++ [(92)]) ++ [((UInt8.toNat c : Nat) : Int)]) = some (0, ((s.length : Nat) : Int), b ++ (escI c ++ (s.drop (k + 1)).flatMap escI)) := by
        intro h
        rw [go _ (by simp)]
        unfold escI
        rw [if_pos h]
        simp
      have no : ¬ (UInt8.toNat c = 34 ∨ UInt8.toNat c = 92) → l28_0 m n s ((k + 1 : Nat) : Int) (b ++ [((UInt8.toNat c : Nat) : Int)]) = some (0, ((s.length : Nat) : Int), b ++ (escI c ++ (s.drop (k + 1)).flatMap escI)) := by
        intro h
        rw [go _ (by simp)]
        unfold escI
        rw [if_neg h]
        simp
      simp only [a1, a2, a3, ↓reduceIte]
      by_cases c1 : UInt8.toNat c = 34
      · rw [if_pos (by rw [c1]; rfl)]; exact yes (.inl c1)
      · rw [if_neg (by simp; omega)]
        by_cases c2 : UInt8.toNat c = 92
        · rw [if_pos (by rw [c2]; rfl)]; exact yes (.inr c2)
        · rw [if_neg (by simp; omega)]; exact no (by simp [c1, c2])
    · have e1 : decide (((k : Nat) : Int) < (((List.length s) : Nat) : Int)) = false := decide_eq_false (by omega)
      have e0 : k = s.length := by omega
      subst e0
      rw [e1, if_neg (by simp), List.drop_length]
      simp
theorem rquote53 (s : List UInt8) (h : decide (s.length ≤ 2000000) = true) : ∃ m, p28 m s = some (quoteG s) := by
  have h := of_decide_eq_true h
  refine ⟨s.length, ?_⟩
  have hr := rquote_loop s.length s h (s.length + 24) 0 [(34)] (by omega) (by omega) (by simp; omega)
  simp only [Int.natCast_zero, List.drop_zero] at hr
  have hl := flat_le escI_le s
  have hm := flat_map s
  unfold p28 quoteG
  simp only [l28_0R, hr, Option.isSome_some, Option.getD_some, ↓reduceIte]
  generalize s.flatMap escI = t at *
  have l1 : List.length ([(34)] ++ t : List Int) = t.length + 1 := by simp
  have l2 : List.length ([(34)] ++ t ++ [(34)] : List Int) = t.length + 2 := by simp
  rw [l1, l2, if_pos (decide_eq_true (by omega)), if_pos (decide_eq_true (by omega)), List.drop_zero, ← l2, List.take_length, List.map_append, List.map_append, hm]
  rfl
def s28 : List AV → Boxes → M (AV × Boxes) := normS [.val .str] [] fun xs B => match xs, B with
  | [(.d (.str c1))], [] => .chk (decide (List.length c1 ≤ 2000000)) (.ret ((.d (.str (quoteG c1))), []))
  | _, _ => .fail
theorem s28_at : CallAt Tryd.prog 28 s28 := by
  refine CallAt.norm (CallAt.weakE (g := fun n => evCall F S23 n 28) (fun n => evCall_atH mixed kinds hds S23 S23_ok n 28) fun xs B r' B' hr => ?_) _ _
  split at hr
  · rename_i c1
    obtain ⟨hp, hr⟩ := (M.run_chk _ _ _).1 hr
    simp only [M.run, Option.some.injEq, Prod.mk.injEq] at hr
    obtain ⟨rfl, rfl⟩ := hr
    obtain ⟨m, hm⟩ := rquote53 c1 hp
    obtain ⟨r, B1, h1, h2, h3, h4⟩ := p28_ok m c1 _ hm
    exact ⟨m + 25, r, B1, h1, by simp, h2, h3, h4⟩
  · simp [M.run] at hr
noncomputable def S24 : FuncId → Option (List AV → Boxes → M (AV × Boxes)) := fun f => if f = 28 then some s28 else S23 f
set_option maxHeartbeats 20000000 in
theorem S24_ok : ∀ f s, S24 f = some s → CallAt Tryd.prog f s := by
  intro f s h
  unfold S24 at h
  split at h
  · rename_i e; subst e; cases h; exact s28_at
  · exact S23_ok f s h

end Go.Proofs.YtcdpgldecikejaaDoor.Dec
namespace Go.Proofs.YtcdpgldecikejaaDoor.Dec
open Go.Ev
set_option linter.unusedVariables false
set_option linter.unusedSimpArgs false
set_option maxRecDepth 100000
noncomputable def fn25 : AFn := (F 25).getD ⟨0, [], .bad, false, false, noHd⟩
noncomputable def body25 : AC := fn25.body
def l25_0 (m : Nat) : Nat → List ((List UInt8) × (List UInt8)) → List UInt8 → Int → Int → Option (Nat × (List UInt8) × Int)
  | 0, _, _, _, _ => none
  | n + 1, x0, s3, s10, s11 => if decide (s11 < s10) = true then
      if decide (0 ≤ s11) = true then
        if decide (s11 < (((List.length x0) : Nat) : Int)) = true then
          if decide (s11 > 0) = true then
            if decide (List.length s3 + List.length ([44] : List UInt8) ≤ 4611686018427387904) = true then
              if decide (List.length (s3 ++ ([44] : List UInt8)) + List.length (List.getD x0 (Int.toNat s11) (([] : List UInt8), ([] : List UInt8))).1 ≤ 4611686018427387904) = true then
                if decide (List.length ((s3 ++ ([44] : List UInt8)) ++ (List.getD x0 (Int.toNat s11) (([] : List UInt8), ([] : List UInt8))).1) + List.length ([61] : List UInt8) ≤ 4611686018427387904) = true then
                  if decide (List.length (List.getD x0 (Int.toNat s11) (([] : List UInt8), ([] : List UInt8))).2 ≤ 2000000) = true then
                    if decide (List.length (((s3 ++ ([44] : List UInt8)) ++ (List.getD x0 (Int.toNat s11) (([] : List UInt8), ([] : List UInt8))).1) ++ ([61] : List UInt8)) + List.length (quoteG (List.getD x0 (Int.toNat s11) (([] : List UInt8), ([] : List UInt8))).2) ≤ 4611686018427387904) = true then
                      l25_0 m n x0 (((((s3 ++ ([44] : List UInt8)) ++ (List.getD x0 (Int.toNat s11) (([] : List UInt8), ([] : List UInt8))).1) ++ ([61] : List UInt8)) ++ (quoteG (List.getD x0 (Int.toNat s11) (([] : List UInt8), ([] : List UInt8))).2))) s10 ((IntKind.wrap .i64 (s11 + (1))))
                    else
                      none
                  else
                    none
                else
                  none
              else
                none
            else
              none
          else
            if decide (List.length s3 + List.length (List.getD x0 (Int.toNat s11) (([] : List UInt8), ([] : List UInt8))).1 ≤ 4611686018427387904) = true then
              if decide (List.length (s3 ++ (List.getD x0 (Int.toNat s11) (([] : List UInt8), ([] : List UInt8))).1) + List.length ([61] : List UInt8) ≤ 4611686018427387904) = true then
                if decide (List.length (List.getD x0 (Int.toNat s11) (([] : List UInt8), ([] : List UInt8))).2 ≤ 2000000) = true then
                  if decide (List.length ((s3 ++ (List.getD x0 (Int.toNat s11) (([] : List UInt8), ([] : List UInt8))).1) ++ ([61] : List UInt8)) + List.length (quoteG (List.getD x0 (Int.toNat s11) (([] : List UInt8), ([] : List UInt8))).2) ≤ 4611686018427387904) = true then
                    l25_0 m n x0 ((((s3 ++ (List.getD x0 (Int.toNat s11) (([] : List UInt8), ([] : List UInt8))).1) ++ ([61] : List UInt8)) ++ (quoteG (List.getD x0 (Int.toNat s11) (([] : List UInt8), ([] : List UInt8))).2))) s10 ((IntKind.wrap .i64 (s11 + (1))))
                  else
                    none
                else
                  none
              else
                none
            else
              none
        else
          none
      else
        none
    else
      some (0, s3, s11)
def l25_0D : Nat × (List UInt8) × Int := (0, [], 0)
@[reducible] def l25_0R (m n : Nat) (x0 : List ((List UInt8) × (List UInt8))) (s3 : List UInt8) (s10 : Int) (s11 : Int) : Nat × (List UInt8) × Int := Option.getD (l25_0 m n x0 s3 s10 s11) l25_0D
def l25_0H (x0 : List ((List UInt8) × (List UInt8))) (s3 : List UInt8) (s10 : Int) (s11 : Int) : Env := [.top, .top, .top, (.d (.str s3)), .top, .top, .top, .top, .top, (.d (.sl (.pair .str .str) x0)), (.d (.int .i64 s10)), (.d (.int .i64 s11)), .top, .top, .top, .top, .top, .top, .top, .top, .top, .top, .top, .top, .top, .top, .top, .top, .top, .top, .top, .top]
def l25_0B (x0 : List ((List UInt8) × (List UInt8))) (s3 : List UInt8) (s10 : Int) (s11 : Int) : Boxes := []
def l25_0E (x0 : List ((List UInt8) × (List UInt8))) (s3 : List UInt8) (s10 : Int) (s11 : Int) : Nat → AEx × Env × Boxes
  | _ => (.exit 0, [.top, .top, .top, (.d (.str s3)), .top, .top, .top, .top, .top, (.d (.sl (.pair .str .str) x0)), (.d (.int .i64 s10)), (.d (.int .i64 s11)), (.d (.bool (decide (s11 < s10)))), .top, .top, .top, .top, .top, .top, .top, .top, .top, .top, .top, .top, .top, .top, .top, .top, .top, .top, .top], [])
noncomputable def lbl25_0 : AC := loopBody 3592 body25

set_option maxHeartbeats 20000000 in
theorem l25_0_w0 (m n : Nat) (x0 : List ((List UInt8) × (List UInt8))) (s3 : List UInt8) (s10 : Int) (s11 : Int) (r : AEx × Env × Boxes) (c0 : decide (s11 < s10) = true) (c1 : decide (0 ≤ s11) = true) (c2 : decide (s11 < (((List.length x0) : Nat) : Int)) = true) (c3 : decide (s11 > 0) = true) (c4 : decide (List.length s3 + List.length ([44] : List UInt8) ≤ 4611686018427387904) = true) (c5 : decide (List.length (s3 ++ ([44] : List UInt8)) + List.length (List.getD x0 (Int.toNat s11) (([] : List UInt8), ([] : List UInt8))).1 ≤ 4611686018427387904) = true) (c6 : decide (List.length ((s3 ++ ([44] : List UInt8)) ++ (List.getD x0 (Int.toNat s11) (([] : List UInt8), ([] : List UInt8))).1) + List.length ([61] : List UInt8) ≤ 4611686018427387904) = true) (c7 : decide (List.length (List.getD x0 (Int.toNat s11) (([] : List UInt8), ([] : List UInt8))).2 ≤ 2000000) = true) (c8 : decide (List.length (((s3 ++ ([44] : List UInt8)) ++ (List.getD x0 (Int.toNat s11) (([] : List UInt8), ([] : List UInt8))).1) ++ ([61] : List UInt8)) + List.length (quoteG (List.getD x0 (Int.toNat s11) (([] : List UInt8), ([] : List UInt8))).2) ≤ 4611686018427387904) = true) (ih : (turns (hds 25 3592) 0 3592 (evC byref (evCall F S24 (m + 24)) (m + 24) 0 (hds 25) lbl25_0) n (l25_0H x0 (((((s3 ++ ([44] : List UInt8)) ++ (List.getD x0 (Int.toNat s11) (([] : List UInt8), ([] : List UInt8))).1) ++ ([61] : List UInt8)) ++ (quoteG (List.getD x0 (Int.toNat s11) (([] : List UInt8), ([] : List UInt8))).2))) s10 ((IntKind.wrap .i64 (s11 + (1))))) (l25_0B x0 (((((s3 ++ ([44] : List UInt8)) ++ (List.getD x0 (Int.toNat s11) (([] : List UInt8), ([] : List UInt8))).1) ++ ([61] : List UInt8)) ++ (quoteG (List.getD x0 (Int.toNat s11) (([] : List UInt8), ([] : List UInt8))).2))) s10 ((IntKind.wrap .i64 (s11 + (1)))))).run = some r) : (turns (hds 25 3592) 0 3592 (evC byref (evCall F S24 (m + 24)) (m + 24) 0 (hds 25) lbl25_0) (n + 1) (l25_0H x0 s3 s10 s11) (l25_0B x0 s3 s10 s11)).run = some r := by
  exact turns_step (M.run_of_path _ [true, true, true, true, true, true, true, true, true] _ _ (by kernel_rfl) (all_t c0 (all_t c1 (all_t c2 (all_t c3 (all_t c4 (all_t c5 (all_t c6 (all_t c7 (all_t c8 all_nil)))))))))) ih
set_option maxHeartbeats 20000000 in
theorem l25_0_w1 (m n : Nat) (x0 : List ((List UInt8) × (List UInt8))) (s3 : List UInt8) (s10 : Int) (s11 : Int) (r : AEx × Env × Boxes) (c0 : decide (s11 < s10) = true) (c1 : decide (0 ≤ s11) = true) (c2 : decide (s11 < (((List.length x0) : Nat) : Int)) = true) (c3 : ¬ decide (s11 > 0) = true) (c4 : decide (List.length s3 + List.length (List.getD x0 (Int.toNat s11) (([] : List UInt8), ([] : List UInt8))).1 ≤ 4611686018427387904) = true) (c5 : decide (List.length (s3 ++ (List.getD x0 (Int.toNat s11) (([] : List UInt8), ([] : List UInt8))).1) + List.length ([61] : List UInt8) ≤ 4611686018427387904) = true) (c6 : decide (List.length (List.getD x0 (Int.toNat s11) (([] : List UInt8), ([] : List UInt8))).2 ≤ 2000000) = true) (c7 : decide (List.length ((s3 ++ (List.getD x0 (Int.toNat s11) (([] : List UInt8), ([] : List UInt8))).1) ++ ([61] : List UInt8)) + List.length (quoteG (List.getD x0 (Int.toNat s11) (([] : List UInt8), ([] : List UInt8))).2) ≤ 4611686018427387904) = true) (ih : (turns (hds 25 3592) 0 3592 (evC byref (evCall F S24 (m + 24)) (m + 24) 0 (hds 25) lbl25_0) n (l25_0H x0 ((((s3 ++ (List.getD x0 (Int.toNat s11) (([] : List UInt8), ([] : List UInt8))).1) ++ ([61] : List UInt8)) ++ (quoteG (List.getD x0 (Int.toNat s11) (([] : List UInt8), ([] : List UInt8))).2))) s10 ((IntKind.wrap .i64 (s11 + (1))))) (l25_0B x0 ((((s3 ++ (List.getD x0 (Int.toNat s11) (([] : List UInt8), ([] : List UInt8))).1) ++ ([61] : List UInt8)) ++ (quoteG (List.getD x0 (Int.toNat s11) (([] : List UInt8), ([] : List UInt8))).2))) s10 ((IntKind.wrap .i64 (s11 + (1)))))).run = some r) : (turns (hds 25 3592) 0 3592 (evC byref (evCall F S24 (m + 24)) (m + 24) 0 (hds 25) lbl25_0) (n + 1) (l25_0H x0 s3 s10 s11) (l25_0B x0 s3 s10 s11)).run = some r := by
  exact turns_step (M.run_of_path _ [true, true, true, false, true, true, true, true] _ _ (by kernel_rfl) (all_t c0 (all_t c1 (all_t c2 (all_f c3 (all_t c4 (all_t c5 (all_t c6 (all_t c7 all_nil))))))))) ih
set_option maxHeartbeats 20000000 in
theorem l25_0_w2 (m n : Nat) (x0 : List ((List UInt8) × (List UInt8))) (s3 : List UInt8) (s10 : Int) (s11 : Int) (c0 : ¬ decide (s11 < s10) = true) : (turns (hds 25 3592) 0 3592 (evC byref (evCall F S24 (m + 24)) (m + 24) 0 (hds 25) lbl25_0) (n + 1) (l25_0H x0 s3 s10 s11) (l25_0B x0 s3 s10 s11)).run = some (.exit 0, [.top, .top, .top, (.d (.str s3)), .top, .top, .top, .top, .top, (.d (.sl (.pair .str .str) x0)), (.d (.int .i64 s10)), (.d (.int .i64 s11)), (.d (.bool (decide (s11 < s10)))), .top, .top, .top, .top, .top, .top, .top, .top, .top, .top, .top, .top, .top, .top, .top, .top, .top, .top, .top], []) := by
  exact turns_last (by simp) (M.run_of_path _ [false] _ _ (by kernel_rfl) (all_f c0 all_nil)) 

set_option maxHeartbeats 20000000 in
theorem l25_0_step (m n : Nat) (ih : ∀ (x0 : List ((List UInt8) × (List UInt8))) (s3 : List UInt8) (s10 : Int) (s11 : Int) (q : Nat × (List UInt8) × Int), l25_0 m n x0 s3 s10 s11 = some q → (turns (hds 25 3592) 0 3592 (evC byref (evCall F S24 (m + 24)) (m + 24) 0 (hds 25) lbl25_0) n (l25_0H x0 s3 s10 s11) (l25_0B x0 s3 s10 s11)).run = some (l25_0E (x0) (q.2.1) (s10) (q.2.2) q.1)) (x0 : List ((List UInt8) × (List UInt8))) (s3 : List UInt8) (s10 : Int) (s11 : Int) (q : Nat × (List UInt8) × Int) (h : l25_0 m (n + 1) x0 s3 s10 s11 = some q) : (turns (hds 25 3592) 0 3592 (evC byref (evCall F S24 (m + 24)) (m + 24) 0 (hds 25) lbl25_0) (n + 1) (l25_0H x0 s3 s10 s11) (l25_0B x0 s3 s10 s11)).run = some (l25_0E (x0) (q.2.1) (s10) (q.2.2) q.1) := by
  rw [l25_0] at h
  refine ite_cases h (fun c0 h => ?_) (fun c0 h => ?_)
  · skip
    refine ite_cases h (fun c1 h => ?_) (fun c1 h => ?_)
    · skip
      refine ite_cases h (fun c2 h => ?_) (fun c2 h => ?_)
      · skip
        refine ite_cases h (fun c3 h => ?_) (fun c3 h => ?_)
        · skip
          refine ite_cases h (fun c4 h => ?_) (fun c4 h => ?_)
          · skip
            refine ite_cases h (fun c5 h => ?_) (fun c5 h => ?_)
            · skip
              refine ite_cases h (fun c6 h => ?_) (fun c6 h => ?_)
              · skip
                refine ite_cases h (fun c7 h => ?_) (fun c7 h => ?_)
                · skip
                  refine ite_cases h (fun c8 h => ?_) (fun c8 h => ?_)
                  · skip
                    exact l25_0_w0 m n x0 s3 s10 s11 _ c0 c1 c2 c3 c4 c5 c6 c7 c8 (ih _ _ _ _ q h)
                  · skip
                    cases h
                · skip
                  cases h
              · skip
                cases h
            · skip
              cases h
          · skip
            cases h
        · skip
          refine ite_cases h (fun c4 h => ?_) (fun c4 h => ?_)
          · skip
            refine ite_cases h (fun c5 h => ?_) (fun c5 h => ?_)
            · skip
              refine ite_cases h (fun c6 h => ?_) (fun c6 h => ?_)
              · skip
                refine ite_cases h (fun c7 h => ?_) (fun c7 h => ?_)
                · skip
                  exact l25_0_w1 m n x0 s3 s10 s11 _ c0 c1 c2 c3 c4 c5 c6 c7 (ih _ _ _ _ q h)
                · skip
                  cases h
              · skip
                cases h
            · skip
              cases h
          · skip
            cases h
      · skip
        cases h
    · skip
      cases h
  · skip
    cases h
    exact l25_0_w2 m n x0 s3 s10 s11 c0
set_option maxHeartbeats 20000000 in
theorem l25_0_ok (m : Nat) : ∀ (n : Nat) (x0 : List ((List UInt8) × (List UInt8))) (s3 : List UInt8) (s10 : Int) (s11 : Int) (q : Nat × (List UInt8) × Int), l25_0 m n x0 s3 s10 s11 = some q → (turns (hds 25 3592) 0 3592 (evC byref (evCall F S24 (m + 24)) (m + 24) 0 (hds 25) lbl25_0) n (l25_0H x0 s3 s10 s11) (l25_0B x0 s3 s10 s11)).run = some (l25_0E (x0) (q.2.1) (s10) (q.2.2) q.1)
  | 0, x0, s3, s10, s11, q, h => by cases h
  | n + 1, x0, s3, s10, s11, q, h => l25_0_step m n (l25_0_ok m n) x0 s3 s10 s11 q h

def p25 (m : Nat) (x0 : List ((List UInt8) × (List UInt8))) : Option ((List UInt8)) :=
  if lrightPre x0 = true then
    if (lrightG x0) = true then
      if (Option.isSome (l25_0 m (m + 24) x0 (([123] : List UInt8)) ((((List.length x0) : Nat) : Int)) 0)) = true then
        if decide (List.length (l25_0R m (m + 24) x0 (([123] : List UInt8)) ((((List.length x0) : Nat) : Int)) 0).2.1 + List.length ([125] : List UInt8) ≤ 4611686018427387904) = true then
          some (((l25_0R m (m + 24) x0 (([123] : List UInt8)) ((((List.length x0) : Nat) : Int)) 0).2.1 ++ ([125] : List UInt8)))
        else
          none
      else
        none
    else
      some (([] : List UInt8))
  else
    none
set_option maxHeartbeats 20000000 in
theorem p25_ok (m : Nat) (x0 : List ((List UInt8) × (List UInt8))) (q : (List UInt8)) (h : p25 m x0 = some q) : ∃ r B1, (evCall F S24 (m + 25) 25 [(.d (.sl (.pair .str .str) x0))] []).run = some (r, B1) ∧ 0 ≤ B1.length ∧ wkR B1 [] r (.d (.str q)) ∧ wkBs B1 [] 0 [] := by
  unfold p25 at h
  refine ite_cases h (fun c0 h => ?_) (fun c0 h => ?_)
  · skip
    refine ite_cases h (fun c1 h => ?_) (fun c1 h => ?_)
    · skip
      refine ite_cases h (fun c2 h => ?_) (fun c2 h => ?_)
      · skip
        refine ite_cases h (fun c3 h => ?_) (fun c3 h => ?_)
        · skip
          cases h
          refine ⟨(.d (.str ((l25_0R m (m + 24) x0 (([123] : List UInt8)) ((((List.length x0) : Nat) : Int)) 0).2.1 ++ ([125] : List UInt8)))), [], runT_ok (LS := (fun k => if k = 3592 then some (l25_0E x0 ((l25_0R m (m + 24) x0 (([123] : List UInt8)) ((((List.length x0) : Nat) : Int)) 0).2.1) (((((List.length x0) : Nat) : Int))) ((l25_0R m (m + 24) x0 (([123] : List UInt8)) ((((List.length x0) : Nat) : Int)) 0).2.2) 0) else none)) (fn := fn25) (vis := [(3592, l25_0H x0 (([123] : List UInt8)) ((((List.length x0) : Nat) : Int)) 0, l25_0B x0 (([123] : List UInt8)) ((((List.length x0) : Nat) : Int)) 0)]) (by kernel_rfl) rfl (by kernel_rfl) (M.run_of_path _ [true, false, true] _ _ (by kernel_rfl) (all_t c0 (all_nt c1 (all_t c3 all_nil)))) ?_, by simp, (wkR.one (wkV.one (wk1.eq rfl))), trivial⟩
          intro p hp p2 hq
          rcases List.mem_cons.1 hp with rfl | hp
          · skip
            have h3 := l25_0_ok m (m + 24) x0 (([123] : List UInt8)) ((((List.length x0) : Nat) : Int)) 0 _ (some_getD (d := l25_0D) c2)
            exact Eq.trans (Eq.mp (by kernel_rfl) h3) hq
          cases hp
        · skip
          cases h
      · skip
        cases h
    · skip
      cases h
      refine ⟨(.d (.str ([] : List UInt8))), [], runT_ok (LS := (fun k => none)) (fn := fn25) (vis := []) (by kernel_rfl) rfl (by kernel_rfl) (M.run_of_path _ [true, true] _ _ (by kernel_rfl) (all_t c0 (all_nf c1 all_nil))) ?_, by simp, (wkR.one (wkV.one (wk1.eq rfl))), trivial⟩
      intro p hp; cases hp
  · skip
    cases h

theorem join_flat : ∀ (l : LB) (x : (List UInt8) × (List UInt8)), Lib.join ((x :: l).map litemG) [44] = litemG x ++ l.flatMap (fun y => 44 :: litemG y)
  | [], x => by unfold Lib.join; simp [List.intercalate]
  | y :: l, x => by
    have e : Lib.join ((x :: y :: l).map litemG) [44] = litemG x ++ 44 :: Lib.join ((y :: l).map litemG) [44] := by unfold Lib.join; simp [List.intercalate]
    rw [e, join_flat l y]
    rfl
theorem rprint_loop (m : Nat) (l : LB) (h1 : l.length ≤ 6) (h2 : ∀ x ∈ l, x.1.length ≤ 24 ∧ x.2.length ≤ 24) : ∀ (n k : Nat) (b : List UInt8), k ≤ l.length → 1 ≤ k → l.length - k < n → b.length ≤ 200 * k → l25_0 m n l b (l.length : Nat) (k : Nat) = some (0, b ++ (l.drop k).flatMap (fun y => 44 :: litemG y), ((l.length : Nat) : Int))
  | 0, k, _, _, _, h, _ => by omega
  | n + 1, k, b, g1, g0, g2, g3 => by
    rw [l25_0]
    by_cases hk : k < l.length
    · have e1 : decide (((k : Nat) : Int) < (((List.length l) : Nat) : Int)) = true := decide_eq_true (by omega)
      have e2 : decide ((0 : Int) ≤ ((k : Nat) : Int)) = true := decide_eq_true (by omega)
      have e3 : decide (((k : Nat) : Int) > 0) = true := decide_eq_true (by omega)
      have e7 : IntKind.wrap .i64 (((k : Nat) : Int) + (1)) = ((k + 1 : Nat) : Int) := by rw [wrap_id (by omega) (by omega)]; rfl
      have hq := h2 _ (getD_mem l k (([] : List UInt8), ([] : List UInt8)) hk)
      have go := fun x (hx : x.length ≤ 200 * (k + 1)) => rprint_loop m l h1 h2 n (k + 1) x (by omega) (by omega) (by omega) hx
      rw [drop_getD l k (([] : List UInt8), ([] : List UInt8)) hk]
      simp only [show Int.toNat ((k : Nat) : Int) = k from rfl, e1, e2, e3, e7, ↓reduceIte]
      generalize l.getD k (([] : List UInt8), ([] : List UInt8)) = q at *
      have hi : litemG q = (q.1 ++ [61]) ++ quoteG q.2 := rfl
      have hql := quote_le q.2
      have b0 : decide (List.length q.2 ≤ 2000000) = true := decide_eq_true (by omega)
      have b1 : decide (List.length b + List.length ([44] : List UInt8) ≤ 4611686018427387904) = true := decide_eq_true (by simp only [List.length_cons, List.length_nil]; omega)
      have b2 : decide (List.length (b ++ ([44] : List UInt8)) + List.length q.1 ≤ 4611686018427387904) = true := decide_eq_true (by simp only [List.length_append, List.length_cons, List.length_nil]; omega)
      have b3 : decide (List.length ((b ++ ([44] : List UInt8)) ++ q.1) + List.length ([61] : List UInt8) ≤ 4611686018427387904) = true := decide_eq_true (by simp only [List.length_append, List.length_cons, List.length_nil]; omega)
      have b4 : decide (List.length (((b ++ ([44] : List UInt8)) ++ q.1) ++ ([61] : List UInt8)) + List.length (quoteG q.2) ≤ 4611686018427387904) = true := decide_eq_true (by simp only [List.length_append, List.length_cons, List.length_nil]; omega)
      simp only [b0, b1, b2, b3, b4, ↓reduceIte]
      rw [go _ (by simp only [List.length_append, List.length_cons, List.length_nil]; omega), List.flatMap_cons, hi]
      simp
    · have e1 : decide (((k : Nat) : Int) < (((List.length l) : Nat) : Int)) = false := decide_eq_false (by omega)
      have e0 : k = l.length := by omega
      subst e0
      rw [e1, if_neg (by simp), List.drop_length, List.flatMap_nil, List.append_nil]
theorem rlprint41 (l : LB) (h : lrightPre l = true) : ∃ m, p25 m l = some (lprintG l) := by
  refine ⟨l.length, ?_⟩
  unfold p25 lprintG
  rw [if_pos h]
  by_cases hr : lrightG l = true
  · obtain ⟨h1, h2⟩ := lright_all hr
    rw [if_pos hr, if_pos hr]
    have hl : l25_0 l.length (l.length + 24) l [123] ((l.length : Nat) : Int) 0 = some (0, [123] ++ Lib.join (l.map litemG) [44], ((l.length : Nat) : Int)) := by
      rw [l25_0]
      cases l with
      | nil => rfl
      | cons q t =>
        have e1 : decide ((0 : Int) < (((List.length (q :: t)) : Nat) : Int)) = true := decide_eq_true (by simp only [List.length_cons]; omega)
        have e7 : IntKind.wrap .i64 (0 + (1)) = ((1 : Nat) : Int) := by decide
        have hq := h2 q (List.mem_cons_self ..)
        have hi : litemG q = (q.1 ++ [61]) ++ quoteG q.2 := rfl
        have hql := quote_le q.2
        have b0 : decide (List.length q.2 ≤ 2000000) = true := decide_eq_true (by omega)
        have b2 : decide (List.length ([123] : List UInt8) + List.length q.1 ≤ 4611686018427387904) = true := decide_eq_true (by simp only [List.length_cons, List.length_nil]; omega)
        have b3 : decide (List.length (([123] : List UInt8) ++ q.1) + List.length ([61] : List UInt8) ≤ 4611686018427387904) = true := decide_eq_true (by simp only [List.length_append, List.length_cons, List.length_nil]; omega)
        have b4 : decide (List.length ((([123] : List UInt8) ++ q.1) ++ ([61] : List UInt8)) + List.length (quoteG q.2) ≤ 4611686018427387904) = true := decide_eq_true (by simp only [List.length_append, List.length_cons, List.length_nil]; omega)
        have go := rprint_loop (q :: t).length (q :: t) h1 h2 ((q :: t).length + 23) 1 ((([123] ++ q.1) ++ [61]) ++ quoteG q.2) (by simp) (Nat.le_refl _) (by omega) (by simp only [List.length_append, List.length_cons, List.length_nil]; omega)
        rw [join_flat]
        simp only [show Int.toNat 0 = 0 from rfl, show List.getD (q :: t) 0 (([] : List UInt8), ([] : List UInt8)) = q from rfl, e1, e7, b0, b2, b3, b4, Int.le_refl, Int.lt_irrefl, gt_iff_lt, decide_true, decide_false, Bool.false_eq_true, ↓reduceIte]
        rw [go, hi]
        simp
    simp only [l25_0R, hl, Option.isSome_some, Option.getD_some, ↓reduceIte]
    have hj := inter_le [44] 100 (l.map litemG) (by
      intro x hx
      obtain ⟨y, hy, rfl⟩ := List.mem_map.1 hx
      exact litem_le (h2 y hy))
    have hm : (l.map litemG).length = l.length := by simp
    rw [hm] at hj
    generalize hJ : Lib.join (l.map litemG) [44] = J at *
    have : l.length * (100 + ([44] : List UInt8).length) ≤ 606 := by
      simp only [List.length_cons, List.length_nil]; omega
    rw [if_pos]
    exact decide_eq_true (by simp only [List.length_append, List.length_cons, List.length_nil]; omega)
  · rw [if_neg hr, if_neg hr]
def s25 : List AV → Boxes → M (AV × Boxes) := normS [.val (.sl (.pair .str .str))] [] fun xs B => match xs, B with
  | [(.d (.sl (.pair .str .str) c1))], [] => .chk (lrightPre c1) (.ret ((.d (.str (lprintG c1))), []))
  | _, _ => .fail
theorem s25_at : CallAt Tryd.prog 25 s25 := by
  refine CallAt.norm (CallAt.weakE (g := fun n => evCall F S24 n 25) (fun n => evCall_atH mixed kinds hds S24 S24_ok n 25) fun xs B r' B' hr => ?_) _ _
  split at hr
  · rename_i c1
    obtain ⟨hp, hr⟩ := (M.run_chk _ _ _).1 hr
    simp only [M.run, Option.some.injEq, Prod.mk.injEq] at hr
    obtain ⟨rfl, rfl⟩ := hr
    obtain ⟨m, hm⟩ := rlprint41 c1 hp
    obtain ⟨r, B1, h1, h2, h3, h4⟩ := p25_ok m c1 _ hm
    exact ⟨m + 25, r, B1, h1, by simp, h2, h3, h4⟩
  · simp [M.run] at hr
noncomputable def S25 : FuncId → Option (List AV → Boxes → M (AV × Boxes)) := fun f => if f = 25 then some s25 else S24 f
set_option maxHeartbeats 20000000 in
theorem S25_ok : ∀ f s, S25 f = some s → CallAt Tryd.prog f s := by
  intro f s h
  unfold S25 at h
  split at h
  · rename_i e; subst e; cases h; exact s25_at
  · exact S24_ok f s h

noncomputable def fn27 : AFn := (F 27).getD ⟨0, [], .bad, false, false, noHd⟩
noncomputable def body27 : AC := fn27.body
def l27_0 (m : Nat) : Nat → List ((List UInt8) × (List UInt8)) → List UInt8 → Int → Int → Option (Nat × Int)
  | 0, _, _, _, _ => none
  | n + 1, x0, x1, s8, s9 => if decide (s9 < s8) = true then
      if decide (0 ≤ s9) = true then
        if decide (s9 < (((List.length x0) : Nat) : Int)) = true then
          if ((List.getD x0 (Int.toNat s9) (([] : List UInt8), ([] : List UInt8))).1 == x1) = true then
            some (0, s9)
          else
            l27_0 m n x0 x1 s8 ((IntKind.wrap .i64 (s9 + (1))))
        else
          none
      else
        none
    else
      some (1, s9)
def l27_0D : Nat × Int := (0, 0)
@[reducible] def l27_0R (m n : Nat) (x0 : List ((List UInt8) × (List UInt8))) (x1 : List UInt8) (s8 : Int) (s9 : Int) : Nat × Int := Option.getD (l27_0 m n x0 x1 s8 s9) l27_0D
def l27_0H (x0 : List ((List UInt8) × (List UInt8))) (x1 : List UInt8) (s8 : Int) (s9 : Int) : Env := [.top, (.d (.str x1)), .top, .top, .top, .top, .top, (.d (.sl (.pair .str .str) x0)), (.d (.int .i64 s8)), (.d (.int .i64 s9)), .top, .top, .top, .top, .top, .top, .top, .top, .top, .top]
def l27_0B (x0 : List ((List UInt8) × (List UInt8))) (x1 : List UInt8) (s8 : Int) (s9 : Int) : Boxes := []
def l27_0E (x0 : List ((List UInt8) × (List UInt8))) (x1 : List UInt8) (s8 : Int) (s9 : Int) : Nat → AEx × Env × Boxes
  | 0 => (.ret, [.top, (.d (.str x1)), .top, .top, (.d (.str (List.getD x0 (Int.toNat s9) (([] : List UInt8), ([] : List UInt8))).2)), .top, (.ptr 0 0), (.d (.sl (.pair .str .str) x0)), (.d (.int .i64 s8)), (.d (.int .i64 s9)), (.d (.bool (decide (s9 < s8)))), (.cptr [(.str (List.getD x0 (Int.toNat s9) (([] : List UInt8), ([] : List UInt8))).1), (.str (List.getD x0 (Int.toNat s9) (([] : List UInt8), ([] : List UInt8))).2)] 0), (.agg [(.d (.str (List.getD x0 (Int.toNat s9) (([] : List UInt8), ([] : List UInt8))).1)), (.d (.str (List.getD x0 (Int.toNat s9) (([] : List UInt8), ([] : List UInt8))).2))]), (.ptr 0 0), (.d (.str (List.getD x0 (Int.toNat s9) (([] : List UInt8), ([] : List UInt8))).1)), (.d (.str x1)), (.d (.bool ((List.getD x0 (Int.toNat s9) (([] : List UInt8), ([] : List UInt8))).1 == x1))), (.ptr 0 1), (.d (.str (List.getD x0 (Int.toNat s9) (([] : List UInt8), ([] : List UInt8))).2)), .top], [(.cells [(.d (.str (List.getD x0 (Int.toNat s9) (([] : List UInt8), ([] : List UInt8))).1)), (.d (.str (List.getD x0 (Int.toNat s9) (([] : List UInt8), ([] : List UInt8))).2))])])
  | _ => (.exit 0, [.top, (.d (.str x1)), .top, .top, .top, .top, .top, (.d (.sl (.pair .str .str) x0)), (.d (.int .i64 s8)), (.d (.int .i64 s9)), (.d (.bool (decide (s9 < s8)))), .top, .top, .top, .top, .top, .top, .top, .top, .top], [])
noncomputable def lbl27_0 : AC := loopBody 898 body27

set_option maxHeartbeats 20000000 in
theorem l27_0_w0 (m n : Nat) (x0 : List ((List UInt8) × (List UInt8))) (x1 : List UInt8) (s8 : Int) (s9 : Int) (c0 : decide (s9 < s8) = true) (c1 : decide (0 ≤ s9) = true) (c2 : decide (s9 < (((List.length x0) : Nat) : Int)) = true) (c3 : ((List.getD x0 (Int.toNat s9) (([] : List UInt8), ([] : List UInt8))).1 == x1) = true) : (turns (hds 27 898) 0 898 (evC byref (evCall F S25 (m + 24)) (m + 24) 0 (hds 27) lbl27_0) (n + 1) (l27_0H x0 x1 s8 s9) (l27_0B x0 x1 s8 s9)).run = some (.ret, [.top, (.d (.str x1)), .top, .top, (.d (.str (List.getD x0 (Int.toNat s9) (([] : List UInt8), ([] : List UInt8))).2)), .top, (.ptr 0 0), (.d (.sl (.pair .str .str) x0)), (.d (.int .i64 s8)), (.d (.int .i64 s9)), (.d (.bool (decide (s9 < s8)))), (.cptr [(.str (List.getD x0 (Int.toNat s9) (([] : List UInt8), ([] : List UInt8))).1), (.str (List.getD x0 (Int.toNat s9) (([] : List UInt8), ([] : List UInt8))).2)] 0), (.agg [(.d (.str (List.getD x0 (Int.toNat s9) (([] : List UInt8), ([] : List UInt8))).1)), (.d (.str (List.getD x0 (Int.toNat s9) (([] : List UInt8), ([] : List UInt8))).2))]), (.ptr 0 0), (.d (.str (List.getD x0 (Int.toNat s9) (([] : List UInt8), ([] : List UInt8))).1)), (.d (.str x1)), (.d (.bool ((List.getD x0 (Int.toNat s9) (([] : List UInt8), ([] : List UInt8))).1 == x1))), (.ptr 0 1), (.d (.str (List.getD x0 (Int.toNat s9) (([] : List UInt8), ([] : List UInt8))).2)), .top], [(.cells [(.d (.str (List.getD x0 (Int.toNat s9) (([] : List UInt8), ([] : List UInt8))).1)), (.d (.str (List.getD x0 (Int.toNat s9) (([] : List UInt8), ([] : List UInt8))).2))])]) := by
  exact turns_last (by simp) (M.run_of_path _ [true, true, true, true] _ _ (by kernel_rfl) (all_t c0 (all_t c1 (all_t c2 (all_t c3 all_nil))))) 
set_option maxHeartbeats 20000000 in
theorem l27_0_w1 (m n : Nat) (x0 : List ((List UInt8) × (List UInt8))) (x1 : List UInt8) (s8 : Int) (s9 : Int) (r : AEx × Env × Boxes) (c0 : decide (s9 < s8) = true) (c1 : decide (0 ≤ s9) = true) (c2 : decide (s9 < (((List.length x0) : Nat) : Int)) = true) (c3 : ¬ ((List.getD x0 (Int.toNat s9) (([] : List UInt8), ([] : List UInt8))).1 == x1) = true) (ih : (turns (hds 27 898) 0 898 (evC byref (evCall F S25 (m + 24)) (m + 24) 0 (hds 27) lbl27_0) n (l27_0H x0 x1 s8 ((IntKind.wrap .i64 (s9 + (1))))) (l27_0B x0 x1 s8 ((IntKind.wrap .i64 (s9 + (1)))))).run = some r) : (turns (hds 27 898) 0 898 (evC byref (evCall F S25 (m + 24)) (m + 24) 0 (hds 27) lbl27_0) (n + 1) (l27_0H x0 x1 s8 s9) (l27_0B x0 x1 s8 s9)).run = some r := by
  exact turns_step (M.run_of_path _ [true, true, true, false] _ _ (by kernel_rfl) (all_t c0 (all_t c1 (all_t c2 (all_f c3 all_nil))))) ih
set_option maxHeartbeats 20000000 in
theorem l27_0_w2 (m n : Nat) (x0 : List ((List UInt8) × (List UInt8))) (x1 : List UInt8) (s8 : Int) (s9 : Int) (c0 : ¬ decide (s9 < s8) = true) : (turns (hds 27 898) 0 898 (evC byref (evCall F S25 (m + 24)) (m + 24) 0 (hds 27) lbl27_0) (n + 1) (l27_0H x0 x1 s8 s9) (l27_0B x0 x1 s8 s9)).run = some (.exit 0, [.top, (.d (.str x1)), .top, .top, .top, .top, .top, (.d (.sl (.pair .str .str) x0)), (.d (.int .i64 s8)), (.d (.int .i64 s9)), (.d (.bool (decide (s9 < s8)))), .top, .top, .top, .top, .top, .top, .top, .top, .top], []) := by
  exact turns_last (by simp) (M.run_of_path _ [false] _ _ (by kernel_rfl) (all_f c0 all_nil)) 

set_option maxHeartbeats 20000000 in
theorem l27_0_step (m n : Nat) (ih : ∀ (x0 : List ((List UInt8) × (List UInt8))) (x1 : List UInt8) (s8 : Int) (s9 : Int) (q : Nat × Int), l27_0 m n x0 x1 s8 s9 = some q → (turns (hds 27 898) 0 898 (evC byref (evCall F S25 (m + 24)) (m + 24) 0 (hds 27) lbl27_0) n (l27_0H x0 x1 s8 s9) (l27_0B x0 x1 s8 s9)).run = some (l27_0E (x0) (x1) (s8) (q.2) q.1)) (x0 : List ((List UInt8) × (List UInt8))) (x1 : List UInt8) (s8 : Int) (s9 : Int) (q : Nat × Int) (h : l27_0 m (n + 1) x0 x1 s8 s9 = some q) : (turns (hds 27 898) 0 898 (evC byref (evCall F S25 (m + 24)) (m + 24) 0 (hds 27) lbl27_0) (n + 1) (l27_0H x0 x1 s8 s9) (l27_0B x0 x1 s8 s9)).run = some (l27_0E (x0) (x1) (s8) (q.2) q.1) := by
  rw [l27_0] at h
  refine ite_cases h (fun c0 h => ?_) (fun c0 h => ?_)
  · skip
    refine ite_cases h (fun c1 h => ?_) (fun c1 h => ?_)
    · skip
      refine ite_cases h (fun c2 h => ?_) (fun c2 h => ?_)
      · skip
        refine ite_cases h (fun c3 h => ?_) (fun c3 h => ?_)
        · skip
          cases h
          exact l27_0_w0 m n x0 x1 s8 s9 c0 c1 c2 c3
        · skip
          exact l27_0_w1 m n x0 x1 s8 s9 _ c0 c1 c2 c3 (ih _ _ _ _ q h)
      · skip
        cases h
    · skip
      cases h
  · skip
    cases h
    exact l27_0_w2 m n x0 x1 s8 s9 c0
set_option maxHeartbeats 20000000 in
theorem l27_0_ok (m : Nat) : ∀ (n : Nat) (x0 : List ((List UInt8) × (List UInt8))) (x1 : List UInt8) (s8 : Int) (s9 : Int) (q : Nat × Int), l27_0 m n x0 x1 s8 s9 = some q → (turns (hds 27 898) 0 898 (evC byref (evCall F S25 (m + 24)) (m + 24) 0 (hds 27) lbl27_0) n (l27_0H x0 x1 s8 s9) (l27_0B x0 x1 s8 s9)).run = some (l27_0E (x0) (x1) (s8) (q.2) q.1)
  | 0, x0, x1, s8, s9, q, h => by cases h
  | n + 1, x0, x1, s8, s9, q, h => l27_0_step m n (l27_0_ok m n) x0 x1 s8 s9 q h

def p27 (m : Nat) (x0 : List ((List UInt8) × (List UInt8))) (x1 : List UInt8) : Option ((List UInt8)) :=
  if (Option.isSome (l27_0 m (m + 24) x0 x1 ((((List.length x0) : Nat) : Int)) 0)) = true then
    if ((l27_0R m (m + 24) x0 x1 ((((List.length x0) : Nat) : Int)) 0).1 == 0) = true then
      some ((List.getD x0 (Int.toNat (l27_0R m (m + 24) x0 x1 ((((List.length x0) : Nat) : Int)) 0).2) (([] : List UInt8), ([] : List UInt8))).2)
    else
      if ((l27_0R m (m + 24) x0 x1 ((((List.length x0) : Nat) : Int)) 0).1 == 1) = true then
        some (([] : List UInt8))
      else
        none
  else
    none
set_option maxHeartbeats 20000000 in
theorem p27_ok (m : Nat) (x0 : List ((List UInt8) × (List UInt8))) (x1 : List UInt8) (q : (List UInt8)) (h : p27 m x0 x1 = some q) : ∃ r B1, (evCall F S25 (m + 25) 27 [(.d (.sl (.pair .str .str) x0)), (.d (.str x1))] []).run = some (r, B1) ∧ 0 ≤ B1.length ∧ wkR B1 [] r (.d (.str q)) ∧ wkBs B1 [] 0 [] := by
  unfold p27 at h
  refine ite_cases h (fun c0 h => ?_) (fun c0 h => ?_)
  · skip
    refine ite_cases h (fun c1 h => ?_) (fun c1 h => ?_)
    · skip
      cases h
      refine ⟨(.d (.str (List.getD x0 (Int.toNat (l27_0R m (m + 24) x0 x1 ((((List.length x0) : Nat) : Int)) 0).2) (([] : List UInt8), ([] : List UInt8))).2)), [], runT_ok (LS := (fun k => if k = 898 then some (l27_0E x0 x1 (((((List.length x0) : Nat) : Int))) ((l27_0R m (m + 24) x0 x1 ((((List.length x0) : Nat) : Int)) 0).2) 0) else none)) (fn := fn27) (vis := [(898, l27_0H x0 x1 ((((List.length x0) : Nat) : Int)) 0, l27_0B x0 x1 ((((List.length x0) : Nat) : Int)) 0)]) (by kernel_rfl) rfl (by kernel_rfl) (M.run_of_path _ [] _ _ (by kernel_rfl) all_nil) ?_, by simp, (wkR.one (wkV.one (wk1.eq rfl))), trivial⟩
      intro p hp p2 hq
      rcases List.mem_cons.1 hp with rfl | hp
      · skip
        have h3 := l27_0_ok m (m + 24) x0 x1 ((((List.length x0) : Nat) : Int)) 0 _ (some_getD (d := l27_0D) c0)
        rw [eq_of_beq c1] at h3
        exact Eq.trans (Eq.mp (by kernel_rfl) h3) hq
      cases hp
    · skip
      refine ite_cases h (fun c2 h => ?_) (fun c2 h => ?_)
      · skip
        cases h
        refine ⟨(.d (.str ([] : List UInt8))), [], runT_ok (LS := (fun k => if k = 898 then some (l27_0E x0 x1 (((((List.length x0) : Nat) : Int))) ((l27_0R m (m + 24) x0 x1 ((((List.length x0) : Nat) : Int)) 0).2) 1) else none)) (fn := fn27) (vis := [(898, l27_0H x0 x1 ((((List.length x0) : Nat) : Int)) 0, l27_0B x0 x1 ((((List.length x0) : Nat) : Int)) 0)]) (by kernel_rfl) rfl (by kernel_rfl) (M.run_of_path _ [] _ _ (by kernel_rfl) all_nil) ?_, by simp, (wkR.one (wkV.one (wk1.eq rfl))), trivial⟩
        intro p hp p2 hq
        rcases List.mem_cons.1 hp with rfl | hp
        · skip
          have h3 := l27_0_ok m (m + 24) x0 x1 ((((List.length x0) : Nat) : Int)) 0 _ (some_getD (d := l27_0D) c0)
          rw [eq_of_beq c2] at h3
          exact Eq.trans (Eq.mp (by kernel_rfl) h3) hq
        cases hp
      · skip
        cases h
  · skip
    cases h

theorem rget_loop (m : Nat) (l : LB) (nm : List UInt8) (hb : l.length ≤ 1000000) : ∀ (n k : Nat), k ≤ l.length → l.length - k < n → (∃ j, l27_0 m n l nm (l.length : Nat) (k : Nat) = some (0, ((j : Nat) : Int)) ∧ getG (l.drop k) nm = (l.getD j (([] : List UInt8), ([] : List UInt8))).2) ∨ (∃ j, l27_0 m n l nm (l.length : Nat) (k : Nat) = some (1, j) ∧ getG (l.drop k) nm = [])
  | 0, k, _, h => by omega
  | n + 1, k, h1, h2 => by
    rw [l27_0]
    by_cases hk : k < l.length
    · have e1 : decide (((k : Nat) : Int) < (((List.length l) : Nat) : Int)) = true := decide_eq_true (by omega)
      have e2 : decide ((0 : Int) ≤ ((k : Nat) : Int)) = true := decide_eq_true (by omega)
      have e7 : IntKind.wrap .i64 (((k : Nat) : Int) + (1)) = ((k + 1 : Nat) : Int) := by rw [wrap_id (by omega) (by omega)]; rfl
      rw [drop_getD l k (([] : List UInt8), ([] : List UInt8)) hk, show Int.toNat ((k : Nat) : Int) = k from rfl, e7, if_pos e1, if_pos e2, if_pos e1, getG]
      by_cases hc : ((l.getD k (([] : List UInt8), ([] : List UInt8))).1 == nm) = true
      · rw [if_pos hc, if_pos hc]
        exact .inl ⟨k, rfl, rfl⟩
      · rw [if_neg hc, if_neg hc]
        exact rget_loop m l nm hb n (k + 1) (by omega) (by omega)
    · have e1 : decide (((k : Nat) : Int) < (((List.length l) : Nat) : Int)) = false := decide_eq_false (by omega)
      rw [e1, if_neg (by simp), List.drop_eq_nil_of_le (by omega)]
      exact .inr ⟨_, rfl, rfl⟩
theorem rget42 (l : LB) (nm : List UInt8) (h : decide (List.length l ≤ 1000000) = true) : ∃ m, p27 m l nm = some (getG l nm) := by
  have h := of_decide_eq_true h
  refine ⟨l.length, ?_⟩
  unfold p27 l27_0R
  rcases rget_loop l.length l nm h (l.length + 24) 0 (by omega) (by omega) with ⟨j, h1, h2⟩ | ⟨j, h1, h2⟩
  · simp only [Int.natCast_zero, List.drop_zero] at h1 h2
    rw [h1, h2]
    simp
  · simp only [Int.natCast_zero, List.drop_zero] at h1 h2
    rw [h1, h2]
    simp
def s27 : List AV → Boxes → M (AV × Boxes) := normS [.val (.sl (.pair .str .str)), .val .str] [] fun xs B => match xs, B with
  | [(.d (.sl (.pair .str .str) c1)), (.d (.str c2))], [] => .chk (decide (List.length c1 ≤ 1000000)) (.ret ((.d (.str (getG c1 c2))), []))
  | _, _ => .fail
theorem s27_at : CallAt Tryd.prog 27 s27 := by
  refine CallAt.norm (CallAt.weakE (g := fun n => evCall F S25 n 27) (fun n => evCall_atH mixed kinds hds S25 S25_ok n 27) fun xs B r' B' hr => ?_) _ _
  split at hr
  · rename_i c1 c2
    obtain ⟨hp, hr⟩ := (M.run_chk _ _ _).1 hr
    simp only [M.run, Option.some.injEq, Prod.mk.injEq] at hr
    obtain ⟨rfl, rfl⟩ := hr
    obtain ⟨m, hm⟩ := rget42 c1 c2 hp
    obtain ⟨r, B1, h1, h2, h3, h4⟩ := p27_ok m c1 c2 _ hm
    exact ⟨m + 25, r, B1, h1, by simp, h2, h3, h4⟩
  · simp [M.run] at hr
noncomputable def S26 : FuncId → Option (List AV → Boxes → M (AV × Boxes)) := fun f => if f = 27 then some s27 else S25 f
set_option maxHeartbeats 20000000 in
theorem S26_ok : ∀ f s, S26 f = some s → CallAt Tryd.prog f s := by
  intro f s h
  unfold S26 at h
  split at h
  · rename_i e; subst e; cases h; exact s27_at
  · exact S25_ok f s h

end Go.Proofs.YtcdpgldecikejaaDoor.Dec
namespace Go.Proofs.YtcdpgldecikejaaDoor.Dec
open Go.Ev
set_option linter.unusedVariables false
set_option linter.unusedSimpArgs false
set_option maxRecDepth 100000
noncomputable def fn23 : AFn := (F 23).getD ⟨0, [], .bad, false, false, noHd⟩
noncomputable def body23 : AC := fn23.body
def l23_0 (m : Nat) : Nat → (List UInt8) × (List UInt8) → Int → List ((List UInt8) × (List UInt8)) → Option (Nat × Int × (List ((List UInt8) × (List UInt8))))
  | 0, _, _, _ => none
  | n + 1, x1, s6, b1 => if decide (s6 < (((List.length b1) : Nat) : Int)) = true then
      if decide (0 ≤ s6) = true then
        if decide ((0 + (Int.toNat s6)) < (List.length b1)) = true then
          l23_0 m n x1 ((IntKind.wrap .i64 (s6 + (1)))) ((List.set b1 (0 + (Int.toNat s6)) x1))
        else
          none
      else
        none
    else
      some (0, s6, b1)
def l23_0D : Nat × Int × (List ((List UInt8) × (List UInt8))) := (0, 0, [])
@[reducible] def l23_0R (m n : Nat) (x1 : (List UInt8) × (List UInt8)) (s6 : Int) (b1 : List ((List UInt8) × (List UInt8))) : Nat × Int × (List ((List UInt8) × (List UInt8))) := Option.getD (l23_0 m n x1 s6 b1) l23_0D
def l23_0H (x1 : (List UInt8) × (List UInt8)) (s6 : Int) (b1 : List ((List UInt8) × (List UInt8))) : Env := [.top, .top, .top, (.ptr 0 0), .top, (.sr 1 0 (List.length b1) 2 none), (.d (.int .i64 s6)), .top, .top, .top, .top, .top, .top, .top, .top, .top, .top, .top, .top, .top, .top, .top, .top, .top, .top, .top, .top]
def l23_0B (x1 : (List UInt8) × (List UInt8)) (s6 : Int) (b1 : List ((List UInt8) × (List UInt8))) : Boxes := [(.cells [(.d (.str x1.1)), (.d (.str x1.2))]), (.arr (.pair .str .str) b1 true)]
def l23_0E (x1 : (List UInt8) × (List UInt8)) (s6 : Int) (b1 : List ((List UInt8) × (List UInt8))) : Nat → AEx × Env × Boxes
  | _ => (.exit 0, [.top, .top, .top, (.ptr 0 0), .top, (.sr 1 0 (List.length b1) 2 none), (.d (.int .i64 s6)), .top, .top, .top, .top, .top, .top, .top, .top, .top, (.d (.int .i64 s6)), (.sr 1 0 (List.length b1) 2 none), (.d (.int .i64 (((List.length b1) : Nat) : Int))), (.d (.bool (decide (s6 < (((List.length b1) : Nat) : Int))))), .top, .top, .top, .top, .top, .top, .top], [(.cells [(.d (.str x1.1)), (.d (.str x1.2))]), (.arr (.pair .str .str) b1 true)])
noncomputable def lbl23_0 : AC := loopBody 104 body23

set_option maxHeartbeats 20000000 in
theorem l23_0_w0 (m n : Nat) (x1 : (List UInt8) × (List UInt8)) (s6 : Int) (b1 : List ((List UInt8) × (List UInt8))) (r : AEx × Env × Boxes) (c0 : decide (s6 < (((List.length b1) : Nat) : Int)) = true) (c1 : decide (0 ≤ s6) = true) (c3 : decide ((0 + (Int.toNat s6)) < (List.length b1)) = true) (ih : (turns (hds 23 104) 0 104 (evC byref (evCall F S26 (m + 24)) (m + 24) 0 (hds 23) lbl23_0) n (l23_0H x1 ((IntKind.wrap .i64 (s6 + (1)))) ((List.set b1 (0 + (Int.toNat s6)) x1))) (l23_0B x1 ((IntKind.wrap .i64 (s6 + (1)))) ((List.set b1 (0 + (Int.toNat s6)) x1)))).run = some r) : (turns (hds 23 104) 0 104 (evC byref (evCall F S26 (m + 24)) (m + 24) 0 (hds 23) lbl23_0) (n + 1) (l23_0H x1 s6 b1) (l23_0B x1 s6 b1)).run = some r := by
  have ht : (turn (hds 23 104) 0 104 (evC byref (evCall F S26 (m + 24)) (m + 24) 0 (hds 23) lbl23_0) (l23_0H x1 s6 b1) (l23_0B x1 s6 b1)).run = some (.normal, [.top, .top, .top, (.ptr 0 0), .top, (.sr 1 0 (List.length b1) 2 none), (.d (.int .i64 (IntKind.wrap .i64 (s6 + (1))))), .top, .top, .top, .top, .top, .top, .top, .top, .top, .top, .top, .top, .top, .top, .top, .top, .top, .top, .top, .top], [(.cells [(.d (.str x1.1)), (.d (.str x1.2))]), (.arr (.pair .str .str) (List.set b1 (0 + (Int.toNat s6)) x1) true)]) := M.run_of_path _ [true, true, true, true] _ _ (by kernel_rfl) (all_t c0 (all_t c1 (all_t c0 (all_t c3 all_nil))))
  refine turns_step ht (turns_eq ?_ ?_ ih)
  · unfold l23_0H
    first | (simp; done) | (simp [Nat.add_assoc]; done) | (simp; omega)
  · unfold l23_0B
    simp
set_option maxHeartbeats 20000000 in
theorem l23_0_w1 (m n : Nat) (x1 : (List UInt8) × (List UInt8)) (s6 : Int) (b1 : List ((List UInt8) × (List UInt8))) (c0 : ¬ decide (s6 < (((List.length b1) : Nat) : Int)) = true) : (turns (hds 23 104) 0 104 (evC byref (evCall F S26 (m + 24)) (m + 24) 0 (hds 23) lbl23_0) (n + 1) (l23_0H x1 s6 b1) (l23_0B x1 s6 b1)).run = some (.exit 0, [.top, .top, .top, (.ptr 0 0), .top, (.sr 1 0 (List.length b1) 2 none), (.d (.int .i64 s6)), .top, .top, .top, .top, .top, .top, .top, .top, .top, (.d (.int .i64 s6)), (.sr 1 0 (List.length b1) 2 none), (.d (.int .i64 (((List.length b1) : Nat) : Int))), (.d (.bool (decide (s6 < (((List.length b1) : Nat) : Int))))), .top, .top, .top, .top, .top, .top, .top], [(.cells [(.d (.str x1.1)), (.d (.str x1.2))]), (.arr (.pair .str .str) b1 true)]) := by
  exact turns_last (by simp) (M.run_of_path _ [false] _ _ (by kernel_rfl) (all_f c0 all_nil)) 

set_option maxHeartbeats 20000000 in
theorem l23_0_step (m n : Nat) (ih : ∀ (x1 : (List UInt8) × (List UInt8)) (s6 : Int) (b1 : List ((List UInt8) × (List UInt8))) (q : Nat × Int × (List ((List UInt8) × (List UInt8)))), l23_0 m n x1 s6 b1 = some q → (turns (hds 23 104) 0 104 (evC byref (evCall F S26 (m + 24)) (m + 24) 0 (hds 23) lbl23_0) n (l23_0H x1 s6 b1) (l23_0B x1 s6 b1)).run = some (l23_0E (x1) (q.2.1) (q.2.2) q.1)) (x1 : (List UInt8) × (List UInt8)) (s6 : Int) (b1 : List ((List UInt8) × (List UInt8))) (q : Nat × Int × (List ((List UInt8) × (List UInt8)))) (h : l23_0 m (n + 1) x1 s6 b1 = some q) : (turns (hds 23 104) 0 104 (evC byref (evCall F S26 (m + 24)) (m + 24) 0 (hds 23) lbl23_0) (n + 1) (l23_0H x1 s6 b1) (l23_0B x1 s6 b1)).run = some (l23_0E (x1) (q.2.1) (q.2.2) q.1) := by
  rw [l23_0] at h
  refine ite_cases h (fun c0 h => ?_) (fun c0 h => ?_)
  · skip
    refine ite_cases h (fun c1 h => ?_) (fun c1 h => ?_)
    · skip
      refine ite_cases h (fun c3 h => ?_) (fun c3 h => ?_)
      · skip
        exact l23_0_w0 m n x1 s6 b1 _ c0 c1 c3 (ih _ _ _ q h)
      · skip
        cases h
    · skip
      cases h
  · skip
    cases h
    exact l23_0_w1 m n x1 s6 b1 c0
set_option maxHeartbeats 20000000 in
theorem l23_0_ok (m : Nat) : ∀ (n : Nat) (x1 : (List UInt8) × (List UInt8)) (s6 : Int) (b1 : List ((List UInt8) × (List UInt8))) (q : Nat × Int × (List ((List UInt8) × (List UInt8)))), l23_0 m n x1 s6 b1 = some q → (turns (hds 23 104) 0 104 (evC byref (evCall F S26 (m + 24)) (m + 24) 0 (hds 23) lbl23_0) n (l23_0H x1 s6 b1) (l23_0B x1 s6 b1)).run = some (l23_0E (x1) (q.2.1) (q.2.2) q.1)
  | 0, x1, s6, b1, q, h => by cases h
  | n + 1, x1, s6, b1, q, h => l23_0_step m n (l23_0_ok m n) x1 s6 b1 q h

def p23 (m : Nat) (x0 : List ((List UInt8) × (List UInt8))) (x1 : (List UInt8) × (List UInt8)) : Option ((List ((List UInt8) × (List UInt8)))) :=
  if (decide (0 ≤ (IntKind.wrap .i64 ((((List.length x0) : Nat) : Int) + (80)))) && decide ((IntKind.wrap .i64 ((((List.length x0) : Nat) : Int) + (80))) ≤ (IntKind.wrap .i64 ((((List.length x0) : Nat) : Int) + (80))))) = true then
    if (decide (((IntKind.wrap .i64 ((((List.length x0) : Nat) : Int) + (80))) * 32) ≤ 70368744177664) && decide ((IntKind.wrap .i64 ((((List.length x0) : Nat) : Int) + (80))) ≤ 70368744177664)) = true then
      if decide (0 ≤ (List.length (List.replicate (Int.toNat (IntKind.wrap .i64 ((((List.length x0) : Nat) : Int) + (80)))) (([] : List UInt8), ([] : List UInt8))))) = true then
        if decide ((min (List.length x0) (Int.toNat (IntKind.wrap .i64 ((((List.length x0) : Nat) : Int) + (80))))) ≤ (List.length x0)) = true then
          if (Option.isSome (l23_0 m (m + 24) x1 ((((List.length x0) : Nat) : Int)) ((splice (List.replicate (Int.toNat (IntKind.wrap .i64 ((((List.length x0) : Nat) : Int) + (80)))) (([] : List UInt8), ([] : List UInt8))) 0 (List.take (min (List.length x0) (Int.toNat (IntKind.wrap .i64 ((((List.length x0) : Nat) : Int) + (80))))) x0))))) = true then
            some ((List.take (List.length (l23_0R m (m + 24) x1 ((((List.length x0) : Nat) : Int)) ((splice (List.replicate (Int.toNat (IntKind.wrap .i64 ((((List.length x0) : Nat) : Int) + (80)))) (([] : List UInt8), ([] : List UInt8))) 0 (List.take (min (List.length x0) (Int.toNat (IntKind.wrap .i64 ((((List.length x0) : Nat) : Int) + (80))))) x0)))).2.2) (List.drop 0 (l23_0R m (m + 24) x1 ((((List.length x0) : Nat) : Int)) ((splice (List.replicate (Int.toNat (IntKind.wrap .i64 ((((List.length x0) : Nat) : Int) + (80)))) (([] : List UInt8), ([] : List UInt8))) 0 (List.take (min (List.length x0) (Int.toNat (IntKind.wrap .i64 ((((List.length x0) : Nat) : Int) + (80))))) x0)))).2.2)))
          else
            none
        else
          none
      else
        none
    else
      none
  else
    none
set_option maxHeartbeats 20000000 in
theorem p23_ok (m : Nat) (x0 : List ((List UInt8) × (List UInt8))) (x1 : (List UInt8) × (List UInt8)) (q : (List ((List UInt8) × (List UInt8)))) (h : p23 m x0 x1 = some q) : ∃ r B1, (evCall F S26 (m + 25) 23 [(.d (.sl (.pair .str .str) x0)), (.agg [(.d (.str x1.1)), (.d (.str x1.2))])] []).run = some (r, B1) ∧ 0 ≤ B1.length ∧ wkR B1 [] r (.d (.sl (.pair .str .str) q)) ∧ wkBs B1 [] 0 [] := by
  unfold p23 at h
  refine ite_cases h (fun c0 h => ?_) (fun c0 h => ?_)
  · skip
    refine ite_cases h (fun c1 h => ?_) (fun c1 h => ?_)
    · skip
      refine ite_cases h (fun c2 h => ?_) (fun c2 h => ?_)
      · skip
        refine ite_cases h (fun c3 h => ?_) (fun c3 h => ?_)
        · skip
          refine ite_cases h (fun c4 h => ?_) (fun c4 h => ?_)
          · skip
            cases h
            refine ⟨(.d (.sl (.pair .str .str) (List.take (List.length (l23_0R m (m + 24) x1 ((((List.length x0) : Nat) : Int)) ((splice (List.replicate (Int.toNat (IntKind.wrap .i64 ((((List.length x0) : Nat) : Int) + (80)))) (([] : List UInt8), ([] : List UInt8))) 0 (List.take (min (List.length x0) (Int.toNat (IntKind.wrap .i64 ((((List.length x0) : Nat) : Int) + (80))))) x0)))).2.2) (List.drop 0 (l23_0R m (m + 24) x1 ((((List.length x0) : Nat) : Int)) ((splice (List.replicate (Int.toNat (IntKind.wrap .i64 ((((List.length x0) : Nat) : Int) + (80)))) (([] : List UInt8), ([] : List UInt8))) 0 (List.take (min (List.length x0) (Int.toNat (IntKind.wrap .i64 ((((List.length x0) : Nat) : Int) + (80))))) x0)))).2.2)))), [], runT_ok (LS := (fun k => if k = 104 then some (l23_0E x1 ((l23_0R m (m + 24) x1 ((((List.length x0) : Nat) : Int)) ((splice (List.replicate (Int.toNat (IntKind.wrap .i64 ((((List.length x0) : Nat) : Int) + (80)))) (([] : List UInt8), ([] : List UInt8))) 0 (List.take (min (List.length x0) (Int.toNat (IntKind.wrap .i64 ((((List.length x0) : Nat) : Int) + (80))))) x0)))).2.1) ((l23_0R m (m + 24) x1 ((((List.length x0) : Nat) : Int)) ((splice (List.replicate (Int.toNat (IntKind.wrap .i64 ((((List.length x0) : Nat) : Int) + (80)))) (([] : List UInt8), ([] : List UInt8))) 0 (List.take (min (List.length x0) (Int.toNat (IntKind.wrap .i64 ((((List.length x0) : Nat) : Int) + (80))))) x0)))).2.2) 0) else none)) (fn := fn23) (vis := [(104, [.top, .top, .top, (.ptr 0 0), .top, (.sr 1 0 (Int.toNat (IntKind.wrap .i64 ((((List.length x0) : Nat) : Int) + (80)))) 2 none), (.d (.int .i64 (((List.length x0) : Nat) : Int))), .top, .top, .top, .top, .top, .top, .top, .top, .top, .top, .top, .top, .top, .top, .top, .top, .top, .top, .top, .top], [(.cells [(.d (.str x1.1)), (.d (.str x1.2))]), (.arr (.pair .str .str) (splice (List.replicate (Int.toNat (IntKind.wrap .i64 ((((List.length x0) : Nat) : Int) + (80)))) (([] : List UInt8), ([] : List UInt8))) 0 (List.take (min (List.length x0) (Int.toNat (IntKind.wrap .i64 ((((List.length x0) : Nat) : Int) + (80))))) x0)) true)])]) (by kernel_rfl) rfl (by kernel_rfl) (M.run_of_path _ [true, true, true, true, true] _ _ (by kernel_rfl) (all_t c0 (all_t c1 (all_t c2 (all_t c3 (all_t (show decide ((0 + (List.length (l23_0R m (m + 24) x1 ((((List.length x0) : Nat) : Int)) ((splice (List.replicate (Int.toNat (IntKind.wrap .i64 ((((List.length x0) : Nat) : Int) + (80)))) (([] : List UInt8), ([] : List UInt8))) 0 (List.take (min (List.length x0) (Int.toNat (IntKind.wrap .i64 ((((List.length x0) : Nat) : Int) + (80))))) x0)))).2.2)) ≤ (List.length (l23_0R m (m + 24) x1 ((((List.length x0) : Nat) : Int)) ((splice (List.replicate (Int.toNat (IntKind.wrap .i64 ((((List.length x0) : Nat) : Int) + (80)))) (([] : List UInt8), ([] : List UInt8))) 0 (List.take (min (List.length x0) (Int.toNat (IntKind.wrap .i64 ((((List.length x0) : Nat) : Int) + (80))))) x0)))).2.2)) = true from decide_eq_true (Nat.le_of_eq (Nat.zero_add _))) all_nil)))))) ?_, by simp, (wkR.one (wkV.one (wk1.eq rfl))), trivial⟩
            intro p hp p2 hq
            rcases List.mem_cons.1 hp with rfl | hp
            · skip
              have h3 := l23_0_ok m (m + 24) x1 ((((List.length x0) : Nat) : Int)) ((splice (List.replicate (Int.toNat (IntKind.wrap .i64 ((((List.length x0) : Nat) : Int) + (80)))) (([] : List UInt8), ([] : List UInt8))) 0 (List.take (min (List.length x0) (Int.toNat (IntKind.wrap .i64 ((((List.length x0) : Nat) : Int) + (80))))) x0))) _ (some_getD (d := l23_0D) c4)
              have h3 := turns_eq (e := [.top, .top, .top, (.ptr 0 0), .top, (.sr 1 0 (Int.toNat (IntKind.wrap .i64 ((((List.length x0) : Nat) : Int) + (80)))) 2 none), (.d (.int .i64 (((List.length x0) : Nat) : Int))), .top, .top, .top, .top, .top, .top, .top, .top, .top, .top, .top, .top, .top, .top, .top, .top, .top, .top, .top, .top]) (B := [(.cells [(.d (.str x1.1)), (.d (.str x1.2))]), (.arr (.pair .str .str) (splice (List.replicate (Int.toNat (IntKind.wrap .i64 ((((List.length x0) : Nat) : Int) + (80)))) (([] : List UInt8), ([] : List UInt8))) 0 (List.take (min (List.length x0) (Int.toNat (IntKind.wrap .i64 ((((List.length x0) : Nat) : Int) + (80))))) x0)) true)]) (by unfold l23_0H; (try rw [show (List.length (splice (List.replicate (Int.toNat (IntKind.wrap .i64 ((((List.length x0) : Nat) : Int) + (80)))) (([] : List UInt8), ([] : List UInt8))) 0 (List.take (min (List.length x0) (Int.toNat (IntKind.wrap .i64 ((((List.length x0) : Nat) : Int) + (80))))) x0))) = (Int.toNat (IntKind.wrap .i64 ((((List.length x0) : Nat) : Int) + (80)))) from by simp [splice] <;> omega]); (try simp only [Nat.zero_add, List.length_nil])) rfl h3
              exact Eq.trans (Eq.mp (by kernel_rfl) h3) hq
            cases hp
          · skip
            cases h
        · skip
          cases h
      · skip
        cases h
    · skip
      cases h
  · skip
    cases h

/-- A list with room behind it. -/
def roomyG (l : LB) (z : (List UInt8) × (List UInt8)) : LB := l ++ List.replicate 80 z
theorem roomy_loop (m : Nat) (z : (List UInt8) × (List UInt8)) : ∀ (n : Nat) (pre post : LB), post.length < n → pre.length + post.length ≤ 2000000 → ∃ j, l23_0 m n z ((pre.length : Nat) : Int) (pre ++ post) = some (0, j, pre ++ List.replicate post.length z)
  | 0, pre, post, h, _ => by omega
  | n + 1, pre, [], h, hb => by
    rw [l23_0]
    have e1 : decide (((pre.length : Nat) : Int) < (((List.length (pre ++ [])) : Nat) : Int)) = false := decide_eq_false (by simp)
    rw [e1, if_neg (by simp)]
    exact ⟨_, rfl⟩
  | n + 1, pre, x :: post, h, hb => by
    rw [l23_0]
    simp only [List.length_cons] at h hb
    have e1 : decide (((pre.length : Nat) : Int) < (((List.length (pre ++ x :: post)) : Nat) : Int)) = true := decide_eq_true (by simp; omega)
    have e2 : decide ((0 : Int) ≤ ((pre.length : Nat) : Int)) = true := decide_eq_true (by omega)
    have e3 : decide ((0 + pre.length) < (List.length (pre ++ x :: post))) = true := decide_eq_true (by simp)
    have e7 : IntKind.wrap .i64 (((pre.length : Nat) : Int) + (1)) = (((pre ++ [z]).length : Nat) : Int) := by rw [wrap_id (by omega) (by omega)]; simp
    have e8 : (pre ++ x :: post).set (0 + pre.length) z = (pre ++ [z]) ++ post := by simp
    rw [show Int.toNat ((pre.length : Nat) : Int) = pre.length from rfl, e7, e8, if_pos e1, if_pos e2, if_pos e3]
    obtain ⟨j, hj⟩ := roomy_loop m z n (pre ++ [z]) post (by omega) (by simp; omega)
    exact ⟨j, by rw [hj]; simp [List.replicate_succ]⟩
theorem roomy23 (l : LB) (z : (List UInt8) × (List UInt8)) (h : decide (l.length ≤ 1000000) = true) : ∃ m, p23 m l z = some (roomyG l z) := by
  have h := of_decide_eq_true h
  refine ⟨100, ?_⟩
  have ew : IntKind.wrap .i64 ((((List.length l) : Nat) : Int) + (80)) = ((l.length + 80 : Nat) : Int) := by rw [wrap_id (by omega) (by omega)]; rfl
  have et : Int.toNat ((l.length + 80 : Nat) : Int) = l.length + 80 := rfl
  have em : min (List.length l) (l.length + 80) = l.length := by omega
  have es : splice (List.replicate (l.length + 80) ((([] : List UInt8), ([] : List UInt8)) : (List UInt8) × (List UInt8))) 0 (List.take l.length l) = l ++ List.replicate 80 ((([] : List UInt8), ([] : List UInt8)) : (List UInt8) × (List UInt8)) := by
    simp [splice, List.drop_replicate]
  obtain ⟨j, hj⟩ := roomy_loop 100 z (100 + 24) l (List.replicate 80 ((([] : List UInt8), ([] : List UInt8)) : (List UInt8) × (List UInt8))) (by simp) (by simp; omega)
  simp only [List.length_replicate] at hj
  have e1 : (decide ((0 : Int) ≤ ((l.length + 80 : Nat) : Int)) && decide (((l.length + 80 : Nat) : Int) ≤ ((l.length + 80 : Nat) : Int))) = true := by simp; omega
  have e2 : (decide ((((l.length + 80 : Nat) : Int) * 32) ≤ 70368744177664) && decide (((l.length + 80 : Nat) : Int) ≤ 70368744177664)) = true := by simp; omega
  have e3 : decide (0 ≤ (List.length (List.replicate (l.length + 80) ((([] : List UInt8), ([] : List UInt8)) : (List UInt8) × (List UInt8))))) = true := decide_eq_true (by omega)
  have e4 : decide (l.length ≤ l.length) = true := decide_eq_true (by omega)
  unfold p23 l23_0R roomyG
  generalize List.replicate 80 z = R at *
  simp only [ew, et, em, es, e1, e2, e3, e4, hj, Option.isSome_some, Option.getD_some, ↓reduceIte]
  rw [List.drop_zero, List.take_length]
def s23 : List AV → Boxes → M (AV × Boxes) := normS [.val (.sl (.pair .str .str)), .val (.pair .str .str)] [] fun xs B => match xs, B with
  | [(.d (.sl (.pair .str .str) c1)), (.agg [(.d (.str c2)), (.d (.str c3))])], [] => .chk (decide (List.length c1 ≤ 1000000)) (.ret ((.d (.sl (.pair .str .str) (roomyG c1 ((c2, c3))))), []))
  | _, _ => .fail
theorem s23_at : CallAt Tryd.prog 23 s23 := by
  refine CallAt.norm (CallAt.weakE (g := fun n => evCall F S26 n 23) (fun n => evCall_atH mixed kinds hds S26 S26_ok n 23) fun xs B r' B' hr => ?_) _ _
  split at hr
  · rename_i c1 c2 c3
    obtain ⟨hp, hr⟩ := (M.run_chk _ _ _).1 hr
    simp only [M.run, Option.some.injEq, Prod.mk.injEq] at hr
    obtain ⟨rfl, rfl⟩ := hr
    obtain ⟨m, hm⟩ := roomy23 c1 ((c2, c3)) hp
    obtain ⟨r, B1, h1, h2, h3, h4⟩ := p23_ok m c1 ((c2, c3)) _ hm
    exact ⟨m + 25, r, B1, h1, by simp, h2, h3, h4⟩
  · simp [M.run] at hr
noncomputable def S27 : FuncId → Option (List AV → Boxes → M (AV × Boxes)) := fun f => if f = 23 then some s23 else S26 f
set_option maxHeartbeats 20000000 in
theorem S27_ok : ∀ f s, S27 f = some s → CallAt Tryd.prog f s := by
  intro f s h
  unfold S27 at h
  split at h
  · rename_i e; subst e; cases h; exact s23_at
  · exact S26_ok f s h

noncomputable def fn29 : AFn := (F 29).getD ⟨0, [], .bad, false, false, noHd⟩
noncomputable def body29 : AC := fn29.body
def l29_0 (m : Nat) : Nat → List ((List UInt8) × (List UInt8)) → (List UInt8) × (List UInt8) → Int → Option (Nat × Int)
  | 0, _, _, _ => none
  | n + 1, x0, x2, s7 => if decide (s7 < (((List.length x0) : Nat) : Int)) = true then
      if decide (0 ≤ s7) = true then
        if (((List.getD x0 (Int.toNat s7) (([] : List UInt8), ([] : List UInt8))).1 == x2.1) && (((List.getD x0 (Int.toNat s7) (([] : List UInt8), ([] : List UInt8))).2 == x2.2) && true)) = true then
          l29_0 m n x0 x2 ((IntKind.wrap .i64 (s7 + (1))))
        else
          some (0, s7)
      else
        none
    else
      some (1, s7)
def l29_0D : Nat × Int := (0, 0)
@[reducible] def l29_0R (m n : Nat) (x0 : List ((List UInt8) × (List UInt8))) (x2 : (List UInt8) × (List UInt8)) (s7 : Int) : Nat × Int := Option.getD (l29_0 m n x0 x2 s7) l29_0D
def l29_0H (x0 : List ((List UInt8) × (List UInt8))) (x2 : (List UInt8) × (List UInt8)) (s7 : Int) : Env := [(.d (.sl (.pair .str .str) x0)), .top, .top, .top, .top, (.ptr 0 0), .top, (.d (.int .i64 s7)), .top, .top, .top, .top, .top, .top, .top, .top, .top, .top, .top, .top, .top, .top, .top, .top, .top, .top, .top, .top, .top, .top, .top, .top, .top, .top, .top, .top, .top]
def l29_0B (x0 : List ((List UInt8) × (List UInt8))) (x2 : (List UInt8) × (List UInt8)) (s7 : Int) : Boxes := [(.cells [(.d (.str x2.1)), (.d (.str x2.2))])]
def l29_0E (x0 : List ((List UInt8) × (List UInt8))) (x2 : (List UInt8) × (List UInt8)) (s7 : Int) : Nat → AEx × Env × Boxes
  | 0 => (.ret, [(.d (.sl (.pair .str .str) x0)), .top, .top, .top, .top, (.ptr 0 0), (.d (.bool false)), (.d (.int .i64 s7)), .top, .top, .top, .top, .top, .top, .top, .top, .top, .top, .top, .top, .top, .top, .top, .top, .top, (.d (.int .i64 s7)), (.d (.sl (.pair .str .str) x0)), (.d (.int .i64 (((List.length x0) : Nat) : Int))), (.d (.bool (decide (s7 < (((List.length x0) : Nat) : Int))))), .top, .top, (.d (.sl (.pair .str .str) x0)), (.d (.int .i64 s7)), (.cptr [(.str (List.getD x0 (Int.toNat s7) (([] : List UInt8), ([] : List UInt8))).1), (.str (List.getD x0 (Int.toNat s7) (([] : List UInt8), ([] : List UInt8))).2)] 0), (.agg [(.d (.str (List.getD x0 (Int.toNat s7) (([] : List UInt8), ([] : List UInt8))).1)), (.d (.str (List.getD x0 (Int.toNat s7) (([] : List UInt8), ([] : List UInt8))).2))]), (.agg [(.d (.str x2.1)), (.d (.str x2.2))]), (.d (.bool (!(((List.getD x0 (Int.toNat s7) (([] : List UInt8), ([] : List UInt8))).1 == x2.1) && (((List.getD x0 (Int.toNat s7) (([] : List UInt8), ([] : List UInt8))).2 == x2.2) && true)))))], [(.cells [(.d (.str x2.1)), (.d (.str x2.2))]), .dead, .dead, .dead, .dead, .dead, .dead, .dead, .dead, .dead, .dead, .dead, .dead, .dead, .dead, .dead, .dead, .dead, .dead, .dead, .dead, .dead, .dead, .dead, .dead])
  | _ => (.exit 0, [(.d (.sl (.pair .str .str) x0)), .top, .top, .top, .top, (.ptr 0 0), .top, (.d (.int .i64 s7)), .top, .top, .top, .top, .top, .top, .top, .top, .top, .top, .top, .top, .top, .top, .top, .top, .top, (.d (.int .i64 s7)), (.d (.sl (.pair .str .str) x0)), (.d (.int .i64 (((List.length x0) : Nat) : Int))), (.d (.bool (decide (s7 < (((List.length x0) : Nat) : Int))))), .top, .top, .top, .top, .top, .top, .top, .top], [(.cells [(.d (.str x2.1)), (.d (.str x2.2))])])
noncomputable def lbl29_0 : AC := loopBody 161 body29

set_option maxHeartbeats 20000000 in
theorem l29_0_w0 (m n : Nat) (x0 : List ((List UInt8) × (List UInt8))) (x2 : (List UInt8) × (List UInt8)) (s7 : Int) (r : AEx × Env × Boxes) (c0 : decide (s7 < (((List.length x0) : Nat) : Int)) = true) (c1 : decide (0 ≤ s7) = true) (c3 : (((List.getD x0 (Int.toNat s7) (([] : List UInt8), ([] : List UInt8))).1 == x2.1) && (((List.getD x0 (Int.toNat s7) (([] : List UInt8), ([] : List UInt8))).2 == x2.2) && true)) = true) (ih : (turns (hds 29 161) 0 161 (evC byref (evCall F S27 (m + 24)) (m + 24) 0 (hds 29) lbl29_0) n (l29_0H x0 x2 ((IntKind.wrap .i64 (s7 + (1))))) (l29_0B x0 x2 ((IntKind.wrap .i64 (s7 + (1)))))).run = some r) : (turns (hds 29 161) 0 161 (evC byref (evCall F S27 (m + 24)) (m + 24) 0 (hds 29) lbl29_0) (n + 1) (l29_0H x0 x2 s7) (l29_0B x0 x2 s7)).run = some r := by
  exact turns_step (M.run_of_path _ [true, true, true, false] _ _ (by kernel_rfl) (all_t c0 (all_t c1 (all_t c0 (all_nt c3 all_nil))))) ih
set_option maxHeartbeats 20000000 in
theorem l29_0_w1 (m n : Nat) (x0 : List ((List UInt8) × (List UInt8))) (x2 : (List UInt8) × (List UInt8)) (s7 : Int) (c0 : decide (s7 < (((List.length x0) : Nat) : Int)) = true) (c1 : decide (0 ≤ s7) = true) (c3 : ¬ (((List.getD x0 (Int.toNat s7) (([] : List UInt8), ([] : List UInt8))).1 == x2.1) && (((List.getD x0 (Int.toNat s7) (([] : List UInt8), ([] : List UInt8))).2 == x2.2) && true)) = true) : (turns (hds 29 161) 0 161 (evC byref (evCall F S27 (m + 24)) (m + 24) 0 (hds 29) lbl29_0) (n + 1) (l29_0H x0 x2 s7) (l29_0B x0 x2 s7)).run = some (.ret, [(.d (.sl (.pair .str .str) x0)), .top, .top, .top, .top, (.ptr 0 0), (.d (.bool false)), (.d (.int .i64 s7)), .top, .top, .top, .top, .top, .top, .top, .top, .top, .top, .top, .top, .top, .top, .top, .top, .top, (.d (.int .i64 s7)), (.d (.sl (.pair .str .str) x0)), (.d (.int .i64 (((List.length x0) : Nat) : Int))), (.d (.bool (decide (s7 < (((List.length x0) : Nat) : Int))))), .top, .top, (.d (.sl (.pair .str .str) x0)), (.d (.int .i64 s7)), (.cptr [(.str (List.getD x0 (Int.toNat s7) (([] : List UInt8), ([] : List UInt8))).1), (.str (List.getD x0 (Int.toNat s7) (([] : List UInt8), ([] : List UInt8))).2)] 0), (.agg [(.d (.str (List.getD x0 (Int.toNat s7) (([] : List UInt8), ([] : List UInt8))).1)), (.d (.str (List.getD x0 (Int.toNat s7) (([] : List UInt8), ([] : List UInt8))).2))]), (.agg [(.d (.str x2.1)), (.d (.str x2.2))]), (.d (.bool (!(((List.getD x0 (Int.toNat s7) (([] : List UInt8), ([] : List UInt8))).1 == x2.1) && (((List.getD x0 (Int.toNat s7) (([] : List UInt8), ([] : List UInt8))).2 == x2.2) && true)))))], [(.cells [(.d (.str x2.1)), (.d (.str x2.2))]), .dead, .dead, .dead, .dead, .dead, .dead, .dead, .dead, .dead, .dead, .dead, .dead, .dead, .dead, .dead, .dead, .dead, .dead, .dead, .dead, .dead, .dead, .dead, .dead]) := by
  exact turns_last (by simp) (M.run_of_path _ [true, true, true, true] _ _ (by kernel_rfl) (all_t c0 (all_t c1 (all_t c0 (all_nf c3 all_nil))))) 
set_option maxHeartbeats 20000000 in
theorem l29_0_w2 (m n : Nat) (x0 : List ((List UInt8) × (List UInt8))) (x2 : (List UInt8) × (List UInt8)) (s7 : Int) (c0 : ¬ decide (s7 < (((List.length x0) : Nat) : Int)) = true) : (turns (hds 29 161) 0 161 (evC byref (evCall F S27 (m + 24)) (m + 24) 0 (hds 29) lbl29_0) (n + 1) (l29_0H x0 x2 s7) (l29_0B x0 x2 s7)).run = some (.exit 0, [(.d (.sl (.pair .str .str) x0)), .top, .top, .top, .top, (.ptr 0 0), .top, (.d (.int .i64 s7)), .top, .top, .top, .top, .top, .top, .top, .top, .top, .top, .top, .top, .top, .top, .top, .top, .top, (.d (.int .i64 s7)), (.d (.sl (.pair .str .str) x0)), (.d (.int .i64 (((List.length x0) : Nat) : Int))), (.d (.bool (decide (s7 < (((List.length x0) : Nat) : Int))))), .top, .top, .top, .top, .top, .top, .top, .top], [(.cells [(.d (.str x2.1)), (.d (.str x2.2))])]) := by
  exact turns_last (by simp) (M.run_of_path _ [false] _ _ (by kernel_rfl) (all_f c0 all_nil)) 

set_option maxHeartbeats 20000000 in
theorem l29_0_step (m n : Nat) (ih : ∀ (x0 : List ((List UInt8) × (List UInt8))) (x2 : (List UInt8) × (List UInt8)) (s7 : Int) (q : Nat × Int), l29_0 m n x0 x2 s7 = some q → (turns (hds 29 161) 0 161 (evC byref (evCall F S27 (m + 24)) (m + 24) 0 (hds 29) lbl29_0) n (l29_0H x0 x2 s7) (l29_0B x0 x2 s7)).run = some (l29_0E (x0) (x2) (q.2) q.1)) (x0 : List ((List UInt8) × (List UInt8))) (x2 : (List UInt8) × (List UInt8)) (s7 : Int) (q : Nat × Int) (h : l29_0 m (n + 1) x0 x2 s7 = some q) : (turns (hds 29 161) 0 161 (evC byref (evCall F S27 (m + 24)) (m + 24) 0 (hds 29) lbl29_0) (n + 1) (l29_0H x0 x2 s7) (l29_0B x0 x2 s7)).run = some (l29_0E (x0) (x2) (q.2) q.1) := by
  rw [l29_0] at h
  refine ite_cases h (fun c0 h => ?_) (fun c0 h => ?_)
  · skip
    refine ite_cases h (fun c1 h => ?_) (fun c1 h => ?_)
    · skip
      refine ite_cases h (fun c3 h => ?_) (fun c3 h => ?_)
      · skip
        exact l29_0_w0 m n x0 x2 s7 _ c0 c1 c3 (ih _ _ _ q h)
      · skip
        cases h
        exact l29_0_w1 m n x0 x2 s7 c0 c1 c3
    · skip
      cases h
  · skip
    cases h
    exact l29_0_w2 m n x0 x2 s7 c0
set_option maxHeartbeats 20000000 in
theorem l29_0_ok (m : Nat) : ∀ (n : Nat) (x0 : List ((List UInt8) × (List UInt8))) (x2 : (List UInt8) × (List UInt8)) (s7 : Int) (q : Nat × Int), l29_0 m n x0 x2 s7 = some q → (turns (hds 29 161) 0 161 (evC byref (evCall F S27 (m + 24)) (m + 24) 0 (hds 29) lbl29_0) n (l29_0H x0 x2 s7) (l29_0B x0 x2 s7)).run = some (l29_0E (x0) (x2) (q.2) q.1)
  | 0, x0, x2, s7, q, h => by cases h
  | n + 1, x0, x2, s7, q, h => l29_0_step m n (l29_0_ok m n) x0 x2 s7 q h

def p29 (m : Nat) (x0 : List ((List UInt8) × (List UInt8))) (x1 : List ((List UInt8) × (List UInt8))) (x2 : (List UInt8) × (List UInt8)) : Option (Bool) :=
  if ((((List.length x0) : Nat) : Int) != (IntKind.wrap .i64 ((((List.length x1) : Nat) : Int) + (80)))) = true then
    some (false)
  else
    if (decide (0 ≤ (((List.length x1) : Nat) : Int)) && decide ((((List.length x1) : Nat) : Int) ≤ (((List.length x0) : Nat) : Int))) = true then
      if decide (List.length (List.drop 0 (List.take (Int.toNat (((List.length x1) : Nat) : Int)) x0)) < 4611686018427387904) = true then
        if ((show List ((List UInt8) × (List UInt8)) from (List.drop 0 (List.take (Int.toNat (((List.length x1) : Nat) : Int)) x0))) == x1) = true then
          if (Option.isSome (l29_0 m (m + 24) x0 x2 ((((List.length x1) : Nat) : Int)))) = true then
            if ((l29_0R m (m + 24) x0 x2 ((((List.length x1) : Nat) : Int))).1 == 0) = true then
              some (false)
            else
              if ((l29_0R m (m + 24) x0 x2 ((((List.length x1) : Nat) : Int))).1 == 1) = true then
                some (true)
              else
                none
          else
            none
        else
          some (false)
      else
        none
    else
      none
set_option maxHeartbeats 20000000 in
theorem p29_ok (m : Nat) (x0 : List ((List UInt8) × (List UInt8))) (x1 : List ((List UInt8) × (List UInt8))) (x2 : (List UInt8) × (List UInt8)) (q : Bool) (h : p29 m x0 x1 x2 = some q) : ∃ r B1, (evCall F S27 (m + 25) 29 [(.d (.sl (.pair .str .str) x0)), (.d (.sl (.pair .str .str) x1)), (.agg [(.d (.str x2.1)), (.d (.str x2.2))])] []).run = some (r, B1) ∧ 0 ≤ B1.length ∧ wkR B1 [] r (.d (.bool (q))) ∧ wkBs B1 [] 0 [] := by
  unfold p29 at h
  refine ite_cases h (fun c0 h => ?_) (fun c0 h => ?_)
  · skip
    cases h
    refine ⟨(.d (.bool false)), [], runT_ok (LS := (fun k => none)) (fn := fn29) (vis := []) (by kernel_rfl) rfl (by kernel_rfl) (M.run_of_path _ [true, true, true, true, true, true, true, true, true] _ _ (by kernel_rfl) (all_t c0 (all_t c0 (all_t c0 (all_t c0 (all_t c0 (all_t c0 (all_t c0 (all_t c0 (all_t rfl all_nil)))))))))) ?_, by simp, (wkR.one (wkV.one (wk1.eq rfl))), trivial⟩
    intro p hp; cases hp
  · skip
    refine ite_cases h (fun c4 h => ?_) (fun c4 h => ?_)
    · skip
      refine ite_cases h (fun c7 h => ?_) (fun c7 h => ?_)
      · skip
        refine ite_cases h (fun c10 h => ?_) (fun c10 h => ?_)
        · skip
          refine ite_cases h (fun c11 h => ?_) (fun c11 h => ?_)
          · skip
            refine ite_cases h (fun c12 h => ?_) (fun c12 h => ?_)
            · skip
              cases h
              refine ⟨(.d (.bool false)), [], runT_ok (LS := (fun k => if k = 161 then some (l29_0E x0 x2 ((l29_0R m (m + 24) x0 x2 ((((List.length x1) : Nat) : Int))).2) 0) else none)) (fn := fn29) (vis := [(161, l29_0H x0 x2 ((((List.length x1) : Nat) : Int)), l29_0B x0 x2 ((((List.length x1) : Nat) : Int)))]) (by kernel_rfl) rfl (by kernel_rfl) (M.run_of_path _ [false, false, false, false, true, false, false, true, false, false, false] _ _ (by kernel_rfl) (all_f c0 (all_f c0 (all_f c0 (all_f c0 (all_t c4 (all_f c0 (all_f c0 (all_t c7 (all_f c0 (all_f c0 (all_nt c10 all_nil)))))))))))) ?_, by simp, (wkR.one (wkV.one (wk1.eq rfl))), trivial⟩
              intro p hp p2 hq
              rcases List.mem_cons.1 hp with rfl | hp
              · skip
                have h3 := l29_0_ok m (m + 24) x0 x2 ((((List.length x1) : Nat) : Int)) _ (some_getD (d := l29_0D) c11)
                rw [eq_of_beq c12] at h3
                exact Eq.trans (Eq.mp (by kernel_rfl) h3) hq
              cases hp
            · skip
              refine ite_cases h (fun c13 h => ?_) (fun c13 h => ?_)
              · skip
                cases h
                refine ⟨(.d (.bool true)), [], runT_ok (LS := (fun k => if k = 161 then some (l29_0E x0 x2 ((l29_0R m (m + 24) x0 x2 ((((List.length x1) : Nat) : Int))).2) 1) else none)) (fn := fn29) (vis := [(161, l29_0H x0 x2 ((((List.length x1) : Nat) : Int)), l29_0B x0 x2 ((((List.length x1) : Nat) : Int)))]) (by kernel_rfl) rfl (by kernel_rfl) (M.run_of_path _ [false, false, false, false, true, false, false, true, false, false, false] _ _ (by kernel_rfl) (all_f c0 (all_f c0 (all_f c0 (all_f c0 (all_t c4 (all_f c0 (all_f c0 (all_t c7 (all_f c0 (all_f c0 (all_nt c10 all_nil)))))))))))) ?_, by simp, (wkR.one (wkV.one (wk1.eq rfl))), trivial⟩
                intro p hp p2 hq
                rcases List.mem_cons.1 hp with rfl | hp
                · skip
                  have h3 := l29_0_ok m (m + 24) x0 x2 ((((List.length x1) : Nat) : Int)) _ (some_getD (d := l29_0D) c11)
                  rw [eq_of_beq c13] at h3
                  exact Eq.trans (Eq.mp (by kernel_rfl) h3) hq
                cases hp
              · skip
                cases h
          · skip
            cases h
        · skip
          cases h
          refine ⟨(.d (.bool false)), [], runT_ok (LS := (fun k => none)) (fn := fn29) (vis := []) (by kernel_rfl) rfl (by kernel_rfl) (M.run_of_path _ [false, false, false, false, true, false, false, true, false, false, true] _ _ (by kernel_rfl) (all_f c0 (all_f c0 (all_f c0 (all_f c0 (all_t c4 (all_f c0 (all_f c0 (all_t c7 (all_f c0 (all_f c0 (all_nf c10 all_nil)))))))))))) ?_, by simp, (wkR.one (wkV.one (wk1.eq rfl))), trivial⟩
          intro p hp; cases hp
      · skip
        cases h
    · skip
      cases h

/-- Is such a list as it was? -/
def intactG (f was : LB) (z : (List UInt8) × (List UInt8)) : Bool := decide (f = was ++ List.replicate 80 z)
theorem intact_loop (m : Nat) (f : LB) (z : (List UInt8) × (List UInt8)) (hb : f.length ≤ 1000000) : ∀ (n k : Nat), k ≤ f.length → f.length - k < n → ∃ j, l29_0 m n f z ((k : Nat) : Int) = some (if f.drop k = List.replicate (f.length - k) z then 1 else 0, j)
  | 0, k, _, h => by omega
  | n + 1, k, h1, h2 => by
    rw [l29_0]
    by_cases hk : k < f.length
    · have e1 : decide (((k : Nat) : Int) < (((List.length f) : Nat) : Int)) = true := decide_eq_true (by omega)
      have e2 : decide ((0 : Int) ≤ ((k : Nat) : Int)) = true := decide_eq_true (by omega)
      have e7 : IntKind.wrap .i64 (((k : Nat) : Int) + (1)) = ((k + 1 : Nat) : Int) := by rw [wrap_id (by omega) (by omega)]; rfl
      rw [drop_getD f k (([] : List UInt8), ([] : List UInt8)) hk, e7, if_pos e1, if_pos e2, show f.length - k = (f.length - (k + 1)) + 1 by omega, List.replicate_succ, show Int.toNat ((k : Nat) : Int) = k from rfl]
      by_cases hc : f.getD k (([] : List UInt8), ([] : List UInt8)) = z
      · have e3 : (((f.getD k (([] : List UInt8), ([] : List UInt8))).1 == z.1) && (((f.getD k (([] : List UInt8), ([] : List UInt8))).2 == z.2) && true)) = true := by rw [hc]; simp
        rw [if_pos e3]
        obtain ⟨j, hj⟩ := intact_loop m f z hb n (k + 1) (by omega) (by omega)
        refine ⟨j, ?_⟩
        rw [hj]
        have hc' : (f.getD k (([] : List UInt8), ([] : List UInt8)) :: f.drop (k + 1) = z :: List.replicate (f.length - (k + 1)) z) = (f.drop (k + 1) = List.replicate (f.length - (k + 1)) z) := by rw [List.cons.injEq]; simp only [hc, true_and]
        simp only [hc']
      · have e3 : ¬ (((f.getD k (([] : List UInt8), ([] : List UInt8))).1 == z.1) && (((f.getD k (([] : List UInt8), ([] : List UInt8))).2 == z.2) && true)) = true := by
          intro h; simp at h; exact hc (Prod.ext h.1 h.2)
        rw [if_neg e3, if_neg (by simp only [List.cons.injEq, hc, false_and, not_false_eq_true])]
        exact ⟨_, rfl⟩
    · have e1 : decide (((k : Nat) : Int) < (((List.length f) : Nat) : Int)) = false := decide_eq_false (by omega)
      rw [e1, if_neg (by simp), List.drop_eq_nil_of_le (by omega), show f.length - k = 0 by omega]
      exact ⟨_, rfl⟩
theorem intact29 (f was : LB) (z : (List UInt8) × (List UInt8)) (h : decide (f.length ≤ 1000000 ∧ was.length ≤ 1000000) = true) : ∃ m, p29 m f was z = some (intactG f was z) := by
  have ⟨h, hw⟩ := of_decide_eq_true h
  refine ⟨f.length, ?_⟩
  unfold p29 l29_0R intactG
  by_cases hl : f.length = was.length + 80
  · have ew : IntKind.wrap .i64 ((((List.length was) : Nat) : Int) + (80)) = (((List.length f) : Nat) : Int) := by rw [wrap_id (by omega) (by omega)]; omega
    have e1 : (decide ((0 : Int) ≤ (((List.length was) : Nat) : Int)) && decide ((((List.length was) : Nat) : Int) ≤ (((List.length f) : Nat) : Int))) = true := by simp; omega
    have e2 : decide (List.length (List.drop 0 (List.take was.length f)) < 4611686018427387904) = true := decide_eq_true (by simp; omega)
    have e3 : ((((List.length f) : Nat) : Int) != (((List.length f) : Nat) : Int)) = false := by simp
    obtain ⟨j, hj⟩ := intact_loop f.length f z h (f.length + 24) was.length (by omega) (by omega)
    rw [show f.length - was.length = 80 by omega] at hj
    have split : f = was ++ List.replicate 80 z ↔ f.take was.length = was ∧ f.drop was.length = List.replicate 80 z := by
      constructor
      · intro e; rw [e]; simp
      · rintro ⟨q1, q2⟩; rw [← q1, ← q2] ; simp
    have hno0 : f.take was.length ≠ was → ¬ f = was ++ List.replicate 80 z := fun q e => q (split.1 e).1
    generalize List.replicate 80 z = R at *
    rw [show Int.toNat ((was.length : Nat) : Int) = was.length from rfl, ew]
    simp only [e1, e2, e3, hj, Option.isSome_some, Option.getD_some, ↓reduceIte, Bool.false_eq_true]
    by_cases q1 : f.take was.length = was
    · by_cases q2 : f.drop was.length = R
      · simp [split, q1, q2]
      · simp [split, q1, q2]
    · simp [split, q1]
  · have ew : ((((List.length f) : Nat) : Int) != IntKind.wrap .i64 ((((List.length was) : Nat) : Int) + (80))) = true := by
      rw [wrap_id (by omega) (by omega)]; simp; omega
    have hno : ¬ f = was ++ List.replicate 80 z := fun e => hl (by rw [e]; simp)
    generalize List.replicate 80 z = R at *
    rw [if_pos ew]
    simp [hno]
def s29 : List AV → Boxes → M (AV × Boxes) := normS [.val (.sl (.pair .str .str)), .val (.sl (.pair .str .str)), .val (.pair .str .str)] [] fun xs B => match xs, B with
  | [(.d (.sl (.pair .str .str) c1)), (.d (.sl (.pair .str .str) c2)), (.agg [(.d (.str c3)), (.d (.str c4))])], [] => .chk (decide (List.length c1 ≤ 1000000 ∧ List.length c2 ≤ 1000000)) (.ret ((.d (.bool (intactG c1 c2 ((c3, c4))))), []))
  | _, _ => .fail
theorem s29_at : CallAt Tryd.prog 29 s29 := by
  refine CallAt.norm (CallAt.weakE (g := fun n => evCall F S27 n 29) (fun n => evCall_atH mixed kinds hds S27 S27_ok n 29) fun xs B r' B' hr => ?_) _ _
  split at hr
  · rename_i c1 c2 c3 c4
    obtain ⟨hp, hr⟩ := (M.run_chk _ _ _).1 hr
    simp only [M.run, Option.some.injEq, Prod.mk.injEq] at hr
    obtain ⟨rfl, rfl⟩ := hr
    obtain ⟨m, hm⟩ := intact29 c1 c2 ((c3, c4)) hp
    obtain ⟨r, B1, h1, h2, h3, h4⟩ := p29_ok m c1 c2 ((c3, c4)) _ hm
    exact ⟨m + 25, r, B1, h1, by simp, h2, h3, h4⟩
  · simp [M.run] at hr
noncomputable def S28 : FuncId → Option (List AV → Boxes → M (AV × Boxes)) := fun f => if f = 29 then some s29 else S27 f
set_option maxHeartbeats 20000000 in
theorem S28_ok : ∀ f s, S28 f = some s → CallAt Tryd.prog f s := by
  intro f s h
  unfold S28 at h
  split at h
  · rename_i e; subst e; cases h; exact s29_at
  · exact S27_ok f s h

end Go.Proofs.YtcdpgldecikejaaDoor.Dec
