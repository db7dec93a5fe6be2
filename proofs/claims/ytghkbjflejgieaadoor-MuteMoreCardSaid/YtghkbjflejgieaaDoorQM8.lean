/- MuteMore, as a plain function. MuteMore: its plain law. -/
import Derived.Test.YtghkbjflejgieaaDoorQM7
import Derived.KernelRfl
namespace Go.Proofs.YtghkbjflejgieaaDoor.Dec
open Go.Ev
set_option linter.unusedVariables false
set_option linter.unusedSimpArgs false
set_option maxRecDepth 100000
noncomputable def fn5 : AFn := (F 5).getD ⟨0, [], .bad, false, false, noHd⟩
noncomputable def body5 : AC := fn5.body
def l5_0 (m : Nat) : Nat → List ((List Int) × (List Int)) → List ((List ((List UInt8) × (List UInt8) × Int)) × Int × Int) → List ((List ((List UInt8) × (List UInt8) × Int)) × (List ((List UInt8) × (List UInt8) × Int)) × (List (List UInt8))) → Int → Int → Int → Int → List (List ((List UInt8) × (List UInt8))) → Option (Nat × Int × (List (List ((List UInt8) × (List UInt8)))))
  | 0, _, _, _, _, _, _, _, _ => none
  | n + 1, x0, x1, x2, x3, x4, x5, s14, b0 => if decide (s14 < (((List.length x0) : Nat) : Int)) = true then
      if decide (s14 < 6) = true then
        if decide (0 ≤ s14) = true then
          if decide ((((List.length b0) + 1) * 24) ≤ 70368744177664) = true then
            l5_0 m n x0 x1 x2 x3 x4 x5 ((IntKind.wrap .i64 (s14 + (1)))) ((b0 ++ [(setG (List.getD x0 (Int.toNat s14) (([] : List Int), ([] : List Int))))]))
          else
            none
        else
          none
      else
        some (0, s14, b0)
    else
      some (1, s14, b0)
def l5_0D : Nat × Int × (List (List ((List UInt8) × (List UInt8)))) := (0, 0, [])
@[reducible] def l5_0R (m n : Nat) (x0 : List ((List Int) × (List Int))) (x1 : List ((List ((List UInt8) × (List UInt8) × Int)) × Int × Int)) (x2 : List ((List ((List UInt8) × (List UInt8) × Int)) × (List ((List UInt8) × (List UInt8) × Int)) × (List (List UInt8)))) (x3 : Int) (x4 : Int) (x5 : Int) (s14 : Int) (b0 : List (List ((List UInt8) × (List UInt8)))) : Nat × Int × (List (List ((List UInt8) × (List UInt8)))) := Option.getD (l5_0 m n x0 x1 x2 x3 x4 x5 s14 b0) l5_0D
def l5_0H (x0 : List ((List Int) × (List Int))) (x1 : List ((List ((List UInt8) × (List UInt8) × Int)) × Int × Int)) (x2 : List ((List ((List UInt8) × (List UInt8) × Int)) × (List ((List UInt8) × (List UInt8) × Int)) × (List (List UInt8)))) (x3 : Int) (x4 : Int) (x5 : Int) (s14 : Int) (b0 : List (List ((List UInt8) × (List UInt8)))) : Env := [(.d (.sl (.pair (.sl (.int .i64)) (.sl (.int .i64))) x0)), (.d (.sl (.pair (.sl (.pair .str (.pair .str (.int .i64)))) (.pair (.int .i64) (.int .i64))) x1)), (.d (.sl (.pair (.sl (.pair .str (.pair .str (.int .i64)))) (.pair (.sl (.pair .str (.pair .str (.int .i64)))) (.sl .str))) x2)), (.d (.int .i64 x3)), (.d (.int .i64 x4)), (.d (.int .i64 x5)), .top, .top, .top, .top, .top, .top, .top, (.sr 0 0 (List.length b0) 1 none), (.d (.int .i64 s14)), .top, .top, .top, .top, .top, .top, .top, .top, .top, .top, .top, .top, .top, .top, .top, .top, .top, .top, .top, .top, .top, .top, .top, .top, .top, .top, .top, .top, .top, .top, .top, .top, .top, .top, .top, .top, .top, .top, .top, .top, .top, .top, .top, .top, .top, .top, .top, .top, .top, .top, .top, .top, .top, .top, .top, .top, .top, .top, .top, .top, .top, .top, .top, .top, .top, .top, .top, .top, .top, .top, .top, .top, .top, .top, .top, .top, .top, .top, .top, .top, .top, .top, .top, .top, .top, .top, .top, .top, .top, .top, .top, .top, .top, .top, .top, .top, .top, .top, .top, .top, .top, .top, .top, .top, .top, .top, .top, .top, .top, .top, .top, .top, .top, .top, .top, .top, .top, .top, .top, .top, .top, .top, .top, .top, .top, .top, .top, .top, .top, .top, .top, .top]
def l5_0B (x0 : List ((List Int) × (List Int))) (x1 : List ((List ((List UInt8) × (List UInt8) × Int)) × Int × Int)) (x2 : List ((List ((List UInt8) × (List UInt8) × Int)) × (List ((List UInt8) × (List UInt8) × Int)) × (List (List UInt8)))) (x3 : Int) (x4 : Int) (x5 : Int) (s14 : Int) (b0 : List (List ((List UInt8) × (List UInt8)))) : Boxes := [(.arr (.sl (.pair .str .str)) b0 true)]
def l5_0E (x0 : List ((List Int) × (List Int))) (x1 : List ((List ((List UInt8) × (List UInt8) × Int)) × Int × Int)) (x2 : List ((List ((List UInt8) × (List UInt8) × Int)) × (List ((List UInt8) × (List UInt8) × Int)) × (List (List UInt8)))) (x3 : Int) (x4 : Int) (x5 : Int) (s14 : Int) (b0 : List (List ((List UInt8) × (List UInt8)))) : Nat → AEx × Env × Boxes
  | 0 => (.exit 0, [(.d (.sl (.pair (.sl (.int .i64)) (.sl (.int .i64))) x0)), (.d (.sl (.pair (.sl (.pair .str (.pair .str (.int .i64)))) (.pair (.int .i64) (.int .i64))) x1)), (.d (.sl (.pair (.sl (.pair .str (.pair .str (.int .i64)))) (.pair (.sl (.pair .str (.pair .str (.int .i64)))) (.sl .str))) x2)), (.d (.int .i64 x3)), (.d (.int .i64 x4)), (.d (.int .i64 x5)), .top, .top, .top, .top, .top, .top, .top, (.sr 0 0 (List.length b0) 1 none), (.d (.int .i64 s14)), .top, .top, .top, .top, .top, .top, .top, .top, .top, .top, (.d (.int .i64 s14)), (.d (.sl (.pair (.sl (.int .i64)) (.sl (.int .i64))) x0)), (.d (.int .i64 (((List.length x0) : Nat) : Int))), (.d (.bool (decide (s14 < (((List.length x0) : Nat) : Int))))), (.d (.bool (decide (s14 < (((List.length x0) : Nat) : Int))))), (.d (.int .i64 s14)), (.d (.bool (decide (s14 < 6)))), (.d (.bool (decide (s14 < 6)))), .top, .top, .top, .top, .top, .top, .top, .top, .top, .top, .top, .top, .top, .top, .top, .top, .top, .top, .top, .top, .top, .top, .top, .top, .top, .top, .top, .top, .top, .top, .top, .top, .top, .top, .top, .top, .top, .top, .top, .top, .top, .top, .top, .top, .top, .top, .top, .top, .top, .top, .top, .top, .top, .top, .top, .top, .top, .top, .top, .top, .top, .top, .top, .top, .top, .top, .top, .top, .top, .top, .top, .top, .top, .top, .top, .top, .top, .top, .top, .top, .top, .top, .top, .top, .top, .top, .top, .top, .top, .top, .top, .top, .top, .top, .top, .top, .top, .top, .top, .top, .top, .top, .top, .top, .top, .top, .top, .top, .top, .top, .top, .top, .top, .top], [(.arr (.sl (.pair .str .str)) b0 true)])
  | _ => (.exit 0, [(.d (.sl (.pair (.sl (.int .i64)) (.sl (.int .i64))) x0)), (.d (.sl (.pair (.sl (.pair .str (.pair .str (.int .i64)))) (.pair (.int .i64) (.int .i64))) x1)), (.d (.sl (.pair (.sl (.pair .str (.pair .str (.int .i64)))) (.pair (.sl (.pair .str (.pair .str (.int .i64)))) (.sl .str))) x2)), (.d (.int .i64 x3)), (.d (.int .i64 x4)), (.d (.int .i64 x5)), .top, .top, .top, .top, .top, .top, .top, (.sr 0 0 (List.length b0) 1 none), (.d (.int .i64 s14)), .top, .top, .top, .top, .top, .top, .top, .top, .top, .top, (.d (.int .i64 s14)), (.d (.sl (.pair (.sl (.int .i64)) (.sl (.int .i64))) x0)), (.d (.int .i64 (((List.length x0) : Nat) : Int))), (.d (.bool (decide (s14 < (((List.length x0) : Nat) : Int))))), (.d (.bool (decide (s14 < (((List.length x0) : Nat) : Int))))), (.tup []), (.tup []), (.d (.bool false)), .top, .top, .top, .top, .top, .top, .top, .top, .top, .top, .top, .top, .top, .top, .top, .top, .top, .top, .top, .top, .top, .top, .top, .top, .top, .top, .top, .top, .top, .top, .top, .top, .top, .top, .top, .top, .top, .top, .top, .top, .top, .top, .top, .top, .top, .top, .top, .top, .top, .top, .top, .top, .top, .top, .top, .top, .top, .top, .top, .top, .top, .top, .top, .top, .top, .top, .top, .top, .top, .top, .top, .top, .top, .top, .top, .top, .top, .top, .top, .top, .top, .top, .top, .top, .top, .top, .top, .top, .top, .top, .top, .top, .top, .top, .top, .top, .top, .top, .top, .top, .top, .top, .top, .top, .top, .top, .top, .top, .top, .top, .top, .top, .top, .top], [(.arr (.sl (.pair .str .str)) b0 true)])
noncomputable def lbl5_0 : AC := loopBody 24639 body5

set_option maxHeartbeats 20000000 in
theorem l5_0_w0 (m n : Nat) (x0 : List ((List Int) × (List Int))) (x1 : List ((List ((List UInt8) × (List UInt8) × Int)) × Int × Int)) (x2 : List ((List ((List UInt8) × (List UInt8) × Int)) × (List ((List UInt8) × (List UInt8) × Int)) × (List (List UInt8)))) (x3 : Int) (x4 : Int) (x5 : Int) (s14 : Int) (b0 : List (List ((List UInt8) × (List UInt8)))) (r : AEx × Env × Boxes) (c0 : decide (s14 < (((List.length x0) : Nat) : Int)) = true) (c3 : decide (s14 < 6) = true) (c4 : decide (0 ≤ s14) = true) (c8 : decide ((((List.length b0) + 1) * 24) ≤ 70368744177664) = true) (ih : (turns (hds 5 24639) 0 24639 (evC byref (evCall F S13 (m + 24)) (m + 24) 0 (hds 5) lbl5_0) n (l5_0H x0 x1 x2 x3 x4 x5 ((IntKind.wrap .i64 (s14 + (1)))) ((b0 ++ [(setG (List.getD x0 (Int.toNat s14) (([] : List Int), ([] : List Int))))]))) (l5_0B x0 x1 x2 x3 x4 x5 ((IntKind.wrap .i64 (s14 + (1)))) ((b0 ++ [(setG (List.getD x0 (Int.toNat s14) (([] : List Int), ([] : List Int))))])))).run = some r) : (turns (hds 5 24639) 0 24639 (evC byref (evCall F S13 (m + 24)) (m + 24) 0 (hds 5) lbl5_0) (n + 1) (l5_0H x0 x1 x2 x3 x4 x5 s14 b0) (l5_0B x0 x1 x2 x3 x4 x5 s14 b0)).run = some r := by
  have ht : (turn (hds 5 24639) 0 24639 (evC byref (evCall F S13 (m + 24)) (m + 24) 0 (hds 5) lbl5_0) (l5_0H x0 x1 x2 x3 x4 x5 s14 b0) (l5_0B x0 x1 x2 x3 x4 x5 s14 b0)).run = some (.normal, [(.d (.sl (.pair (.sl (.int .i64)) (.sl (.int .i64))) x0)), (.d (.sl (.pair (.sl (.pair .str (.pair .str (.int .i64)))) (.pair (.int .i64) (.int .i64))) x1)), (.d (.sl (.pair (.sl (.pair .str (.pair .str (.int .i64)))) (.pair (.sl (.pair .str (.pair .str (.int .i64)))) (.sl .str))) x2)), (.d (.int .i64 x3)), (.d (.int .i64 x4)), (.d (.int .i64 x5)), .top, .top, .top, .top, .top, .top, .top, (.sr 0 0 ((List.length b0) + 1) 1 none), (.d (.int .i64 (IntKind.wrap .i64 (s14 + (1))))), .top, .top, .top, .top, .top, .top, .top, .top, .top, .top, .top, .top, .top, .top, .top, .top, .top, .top, .top, .top, .top, .top, .top, .top, .top, .top, .top, .top, .top, .top, .top, .top, .top, .top, .top, .top, .top, .top, .top, .top, .top, .top, .top, .top, .top, .top, .top, .top, .top, .top, .top, .top, .top, .top, .top, .top, .top, .top, .top, .top, .top, .top, .top, .top, .top, .top, .top, .top, .top, .top, .top, .top, .top, .top, .top, .top, .top, .top, .top, .top, .top, .top, .top, .top, .top, .top, .top, .top, .top, .top, .top, .top, .top, .top, .top, .top, .top, .top, .top, .top, .top, .top, .top, .top, .top, .top, .top, .top, .top, .top, .top, .top, .top, .top, .top, .top, .top, .top, .top, .top, .top, .top, .top, .top, .top, .top, .top, .top, .top, .top, .top, .top], [(.arr (.sl (.pair .str .str)) (b0 ++ [(setG (List.getD x0 (Int.toNat s14) (([] : List Int), ([] : List Int))))]) true)]) := M.run_of_path _ [true, true, true, true, true, true, true, true, true, true] _ _ (by kernel_rfl) (all_t c0 (all_t c0 (all_t c0 (all_t c3 (all_t c4 (all_t c0 (all_t rfl (all_t rfl (all_t c8 (all_t (show decide ((List.length b0) = (List.length b0)) = true from decide_eq_true rfl) all_nil))))))))))
  refine turns_step ht (turns_eq ?_ ?_ ih)
  · unfold l5_0H
    first | (simp; done) | (simp [Nat.add_assoc]; done)
  · unfold l5_0B
    simp
set_option maxHeartbeats 20000000 in
theorem l5_0_w1 (m n : Nat) (x0 : List ((List Int) × (List Int))) (x1 : List ((List ((List UInt8) × (List UInt8) × Int)) × Int × Int)) (x2 : List ((List ((List UInt8) × (List UInt8) × Int)) × (List ((List UInt8) × (List UInt8) × Int)) × (List (List UInt8)))) (x3 : Int) (x4 : Int) (x5 : Int) (s14 : Int) (b0 : List (List ((List UInt8) × (List UInt8)))) (c0 : decide (s14 < (((List.length x0) : Nat) : Int)) = true) (c3 : ¬ decide (s14 < 6) = true) : (turns (hds 5 24639) 0 24639 (evC byref (evCall F S13 (m + 24)) (m + 24) 0 (hds 5) lbl5_0) (n + 1) (l5_0H x0 x1 x2 x3 x4 x5 s14 b0) (l5_0B x0 x1 x2 x3 x4 x5 s14 b0)).run = some (.exit 0, [(.d (.sl (.pair (.sl (.int .i64)) (.sl (.int .i64))) x0)), (.d (.sl (.pair (.sl (.pair .str (.pair .str (.int .i64)))) (.pair (.int .i64) (.int .i64))) x1)), (.d (.sl (.pair (.sl (.pair .str (.pair .str (.int .i64)))) (.pair (.sl (.pair .str (.pair .str (.int .i64)))) (.sl .str))) x2)), (.d (.int .i64 x3)), (.d (.int .i64 x4)), (.d (.int .i64 x5)), .top, .top, .top, .top, .top, .top, .top, (.sr 0 0 (List.length b0) 1 none), (.d (.int .i64 s14)), .top, .top, .top, .top, .top, .top, .top, .top, .top, .top, (.d (.int .i64 s14)), (.d (.sl (.pair (.sl (.int .i64)) (.sl (.int .i64))) x0)), (.d (.int .i64 (((List.length x0) : Nat) : Int))), (.d (.bool (decide (s14 < (((List.length x0) : Nat) : Int))))), (.d (.bool (decide (s14 < (((List.length x0) : Nat) : Int))))), (.d (.int .i64 s14)), (.d (.bool (decide (s14 < 6)))), (.d (.bool (decide (s14 < 6)))), .top, .top, .top, .top, .top, .top, .top, .top, .top, .top, .top, .top, .top, .top, .top, .top, .top, .top, .top, .top, .top, .top, .top, .top, .top, .top, .top, .top, .top, .top, .top, .top, .top, .top, .top, .top, .top, .top, .top, .top, .top, .top, .top, .top, .top, .top, .top, .top, .top, .top, .top, .top, .top, .top, .top, .top, .top, .top, .top, .top, .top, .top, .top, .top, .top, .top, .top, .top, .top, .top, .top, .top, .top, .top, .top, .top, .top, .top, .top, .top, .top, .top, .top, .top, .top, .top, .top, .top, .top, .top, .top, .top, .top, .top, .top, .top, .top, .top, .top, .top, .top, .top, .top, .top, .top, .top, .top, .top, .top, .top, .top, .top, .top, .top], [(.arr (.sl (.pair .str .str)) b0 true)]) := by
  exact turns_last (by simp) (M.run_of_path _ [true, true, true, false] _ _ (by kernel_rfl) (all_t c0 (all_t c0 (all_t c0 (all_f c3 all_nil))))) 
set_option maxHeartbeats 20000000 in
theorem l5_0_w2 (m n : Nat) (x0 : List ((List Int) × (List Int))) (x1 : List ((List ((List UInt8) × (List UInt8) × Int)) × Int × Int)) (x2 : List ((List ((List UInt8) × (List UInt8) × Int)) × (List ((List UInt8) × (List UInt8) × Int)) × (List (List UInt8)))) (x3 : Int) (x4 : Int) (x5 : Int) (s14 : Int) (b0 : List (List ((List UInt8) × (List UInt8)))) (c0 : ¬ decide (s14 < (((List.length x0) : Nat) : Int)) = true) : (turns (hds 5 24639) 0 24639 (evC byref (evCall F S13 (m + 24)) (m + 24) 0 (hds 5) lbl5_0) (n + 1) (l5_0H x0 x1 x2 x3 x4 x5 s14 b0) (l5_0B x0 x1 x2 x3 x4 x5 s14 b0)).run = some (.exit 0, [(.d (.sl (.pair (.sl (.int .i64)) (.sl (.int .i64))) x0)), (.d (.sl (.pair (.sl (.pair .str (.pair .str (.int .i64)))) (.pair (.int .i64) (.int .i64))) x1)), (.d (.sl (.pair (.sl (.pair .str (.pair .str (.int .i64)))) (.pair (.sl (.pair .str (.pair .str (.int .i64)))) (.sl .str))) x2)), (.d (.int .i64 x3)), (.d (.int .i64 x4)), (.d (.int .i64 x5)), .top, .top, .top, .top, .top, .top, .top, (.sr 0 0 (List.length b0) 1 none), (.d (.int .i64 s14)), .top, .top, .top, .top, .top, .top, .top, .top, .top, .top, (.d (.int .i64 s14)), (.d (.sl (.pair (.sl (.int .i64)) (.sl (.int .i64))) x0)), (.d (.int .i64 (((List.length x0) : Nat) : Int))), (.d (.bool (decide (s14 < (((List.length x0) : Nat) : Int))))), (.d (.bool (decide (s14 < (((List.length x0) : Nat) : Int))))), (.tup []), (.tup []), (.d (.bool false)), .top, .top, .top, .top, .top, .top, .top, .top, .top, .top, .top, .top, .top, .top, .top, .top, .top, .top, .top, .top, .top, .top, .top, .top, .top, .top, .top, .top, .top, .top, .top, .top, .top, .top, .top, .top, .top, .top, .top, .top, .top, .top, .top, .top, .top, .top, .top, .top, .top, .top, .top, .top, .top, .top, .top, .top, .top, .top, .top, .top, .top, .top, .top, .top, .top, .top, .top, .top, .top, .top, .top, .top, .top, .top, .top, .top, .top, .top, .top, .top, .top, .top, .top, .top, .top, .top, .top, .top, .top, .top, .top, .top, .top, .top, .top, .top, .top, .top, .top, .top, .top, .top, .top, .top, .top, .top, .top, .top, .top, .top, .top, .top, .top, .top], [(.arr (.sl (.pair .str .str)) b0 true)]) := by
  exact turns_last (by simp) (M.run_of_path _ [false, false, false, false] _ _ (by kernel_rfl) (all_f c0 (all_f c0 (all_f c0 (all_f Bool.false_ne_true all_nil))))) 

set_option maxHeartbeats 20000000 in
theorem l5_0_step (m n : Nat) (ih : ∀ (x0 : List ((List Int) × (List Int))) (x1 : List ((List ((List UInt8) × (List UInt8) × Int)) × Int × Int)) (x2 : List ((List ((List UInt8) × (List UInt8) × Int)) × (List ((List UInt8) × (List UInt8) × Int)) × (List (List UInt8)))) (x3 : Int) (x4 : Int) (x5 : Int) (s14 : Int) (b0 : List (List ((List UInt8) × (List UInt8)))) (q : Nat × Int × (List (List ((List UInt8) × (List UInt8))))), l5_0 m n x0 x1 x2 x3 x4 x5 s14 b0 = some q → (turns (hds 5 24639) 0 24639 (evC byref (evCall F S13 (m + 24)) (m + 24) 0 (hds 5) lbl5_0) n (l5_0H x0 x1 x2 x3 x4 x5 s14 b0) (l5_0B x0 x1 x2 x3 x4 x5 s14 b0)).run = some (l5_0E (x0) (x1) (x2) (x3) (x4) (x5) (q.2.1) (q.2.2) q.1)) (x0 : List ((List Int) × (List Int))) (x1 : List ((List ((List UInt8) × (List UInt8) × Int)) × Int × Int)) (x2 : List ((List ((List UInt8) × (List UInt8) × Int)) × (List ((List UInt8) × (List UInt8) × Int)) × (List (List UInt8)))) (x3 : Int) (x4 : Int) (x5 : Int) (s14 : Int) (b0 : List (List ((List UInt8) × (List UInt8)))) (q : Nat × Int × (List (List ((List UInt8) × (List UInt8))))) (h : l5_0 m (n + 1) x0 x1 x2 x3 x4 x5 s14 b0 = some q) : (turns (hds 5 24639) 0 24639 (evC byref (evCall F S13 (m + 24)) (m + 24) 0 (hds 5) lbl5_0) (n + 1) (l5_0H x0 x1 x2 x3 x4 x5 s14 b0) (l5_0B x0 x1 x2 x3 x4 x5 s14 b0)).run = some (l5_0E (x0) (x1) (x2) (x3) (x4) (x5) (q.2.1) (q.2.2) q.1) := by
  rw [l5_0] at h
  refine ite_cases h (fun c0 h => ?_) (fun c0 h => ?_)
  · skip
    refine ite_cases h (fun c3 h => ?_) (fun c3 h => ?_)
    · skip
      refine ite_cases h (fun c4 h => ?_) (fun c4 h => ?_)
      · skip
        refine ite_cases h (fun c8 h => ?_) (fun c8 h => ?_)
        · skip
          exact l5_0_w0 m n x0 x1 x2 x3 x4 x5 s14 b0 _ c0 c3 c4 c8 (ih _ _ _ _ _ _ _ _ q h)
        · skip
          cases h
      · skip
        cases h
    · skip
      cases h
      exact l5_0_w1 m n x0 x1 x2 x3 x4 x5 s14 b0 c0 c3
  · skip
    cases h
    exact l5_0_w2 m n x0 x1 x2 x3 x4 x5 s14 b0 c0
set_option maxHeartbeats 20000000 in
theorem l5_0_ok (m : Nat) : ∀ (n : Nat) (x0 : List ((List Int) × (List Int))) (x1 : List ((List ((List UInt8) × (List UInt8) × Int)) × Int × Int)) (x2 : List ((List ((List UInt8) × (List UInt8) × Int)) × (List ((List UInt8) × (List UInt8) × Int)) × (List (List UInt8)))) (x3 : Int) (x4 : Int) (x5 : Int) (s14 : Int) (b0 : List (List ((List UInt8) × (List UInt8)))) (q : Nat × Int × (List (List ((List UInt8) × (List UInt8))))), l5_0 m n x0 x1 x2 x3 x4 x5 s14 b0 = some q → (turns (hds 5 24639) 0 24639 (evC byref (evCall F S13 (m + 24)) (m + 24) 0 (hds 5) lbl5_0) n (l5_0H x0 x1 x2 x3 x4 x5 s14 b0) (l5_0B x0 x1 x2 x3 x4 x5 s14 b0)).run = some (l5_0E (x0) (x1) (x2) (x3) (x4) (x5) (q.2.1) (q.2.2) q.1)
  | 0, x0, x1, x2, x3, x4, x5, s14, b0, q, h => by cases h
  | n + 1, x0, x1, x2, x3, x4, x5, s14, b0, q, h => l5_0_step m n (l5_0_ok m n) x0 x1 x2 x3 x4 x5 s14 b0 q h

def l5_1 (m : Nat) : Nat → List ((List ((List UInt8) × (List UInt8) × Int)) × (List ((List UInt8) × (List UInt8) × Int)) × (List (List UInt8))) → Int → Int → List (List ((List UInt8) × (List UInt8))) → Option (Nat × Int)
  | 0, _, _, _, _ => none
  | n + 1, s16, s134, s135, b0 => if decide (s135 < s134) = true then
      if (decide (0 ≤ (IntKind.wrap .i64 (s135 + (1)))) && decide ((IntKind.wrap .i64 (s135 + (1))) ≤ (((List.length b0) : Nat) : Int))) = true then
        if (decide (0 ≤ s135) && decide (s135 ≤ (((Int.toNat (IntKind.wrap .i64 (s135 + (1)))) : Nat) : Int))) = true then
          if (decide ((Int.toNat s135) < (List.length b0)) || decide ((Int.toNat s135) = 0)) = true then
            if decide (((0 + (Int.toNat s135)) + ((Int.toNat (IntKind.wrap .i64 (s135 + (1)))) - (Int.toNat s135))) ≤ (List.length b0)) = true then
              if inhPre (List.take ((Int.toNat (IntKind.wrap .i64 (s135 + (1)))) - (Int.toNat s135)) (List.drop (0 + (Int.toNat s135)) b0)) s16 = true then
                if (inhG (List.take ((Int.toNat (IntKind.wrap .i64 (s135 + (1)))) - (Int.toNat s135)) (List.drop (0 + (Int.toNat s135)) b0)) (0) s16) = true then
                  none
                else
                  l5_1 m n s16 s134 ((IntKind.wrap .i64 (s135 + (1)))) b0
              else
                none
            else
              none
          else
            if inhPre ([] : List (List ((List UInt8) × (List UInt8)))) s16 = true then
              if (inhG ([] : List (List ((List UInt8) × (List UInt8)))) (0) s16) = true then
                none
              else
                l5_1 m n s16 s134 ((IntKind.wrap .i64 (s135 + (1)))) b0
            else
              none
        else
          none
      else
        none
    else
      some (0, s135)
def l5_1D : Nat × Int := (0, 0)
@[reducible] def l5_1R (m n : Nat) (s16 : List ((List ((List UInt8) × (List UInt8) × Int)) × (List ((List UInt8) × (List UInt8) × Int)) × (List (List UInt8)))) (s134 : Int) (s135 : Int) (b0 : List (List ((List UInt8) × (List UInt8)))) : Nat × Int := Option.getD (l5_1 m n s16 s134 s135 b0) l5_1D
def l5_1H (s16 : List ((List ((List UInt8) × (List UInt8) × Int)) × (List ((List UInt8) × (List UInt8) × Int)) × (List (List UInt8)))) (s134 : Int) (s135 : Int) (b0 : List (List ((List UInt8) × (List UInt8)))) : Env := [.top, .top, .top, .top, .top, .top, .top, .top, .top, .top, .top, .top, .top, (.sr 0 0 (List.length b0) 1 none), .top, .top, (.d (.sl (.pair (.sl (.pair .str (.pair .str (.int .i64)))) (.pair (.sl (.pair .str (.pair .str (.int .i64)))) (.sl .str))) s16)), .top, .top, .top, .top, .top, .top, .top, .top, .top, .top, .top, .top, .top, .top, .top, .top, .top, .top, .top, .top, .top, .top, .top, .top, .top, .top, .top, .top, .top, .top, .top, .top, .top, .top, .top, .top, .top, .top, .top, .top, .top, .top, .top, .top, .top, .top, .top, .top, .top, .top, .top, .top, .top, .top, .top, .top, .top, .top, .top, .top, .top, .top, .top, .top, .top, .top, .top, .top, .top, .top, .top, .top, .top, .top, .top, .top, .top, .top, .top, .top, .top, .top, .top, .top, .top, .top, .top, .top, .top, .top, .top, .top, .top, .top, .top, .top, .top, .top, .top, .top, .top, .top, .top, .top, .top, .top, .top, .top, .top, .top, .top, .top, .top, .top, .top, .top, .top, (.d (.int .i64 s134)), (.d (.int .i64 s135)), .top, .top, .top, .top, .top, .top, .top, .top, .top, .top, .top]
def l5_1B (s16 : List ((List ((List UInt8) × (List UInt8) × Int)) × (List ((List UInt8) × (List UInt8) × Int)) × (List (List UInt8)))) (s134 : Int) (s135 : Int) (b0 : List (List ((List UInt8) × (List UInt8)))) : Boxes := [(.arr (.sl (.pair .str .str)) b0 false)]
def l5_1E (s16 : List ((List ((List UInt8) × (List UInt8) × Int)) × (List ((List UInt8) × (List UInt8) × Int)) × (List (List UInt8)))) (s134 : Int) (s135 : Int) (b0 : List (List ((List UInt8) × (List UInt8)))) : Nat → AEx × Env × Boxes
  | _ => (.exit 2, [.top, .top, .top, .top, .top, .top, .top, .top, .top, .top, .top, .top, .top, (.sr 0 0 (List.length b0) 1 none), .top, .top, (.d (.sl (.pair (.sl (.pair .str (.pair .str (.int .i64)))) (.pair (.sl (.pair .str (.pair .str (.int .i64)))) (.sl .str))) s16)), .top, .top, .top, .top, .top, .top, .top, .top, .top, .top, .top, .top, .top, .top, .top, .top, .top, .top, .top, .top, .top, .top, .top, .top, .top, .top, .top, .top, .top, .top, .top, .top, .top, .top, .top, .top, .top, .top, .top, .top, .top, .top, .top, .top, .top, .top, .top, .top, .top, .top, .top, .top, .top, .top, .top, .top, .top, .top, .top, .top, .top, .top, .top, .top, .top, .top, .top, .top, .top, .top, .top, .top, .top, .top, .top, .top, .top, .top, .top, .top, .top, .top, .top, .top, .top, .top, .top, .top, .top, .top, .top, .top, .top, .top, .top, .top, .top, .top, .top, .top, .top, .top, .top, .top, .top, .top, .top, .top, .top, .top, .top, .top, .top, .top, .top, .top, .top, (.d (.int .i64 s134)), (.d (.int .i64 s135)), (.d (.bool (decide (s135 < s134)))), .top, .top, .top, .top, .top, .top, .top, .top, .top, .top], [(.arr (.sl (.pair .str .str)) b0 false)])
noncomputable def lbl5_1 : AC := loopBody 65334214448820184984967924626899496673280 body5

set_option maxHeartbeats 20000000 in
theorem l5_1_w0 (m n : Nat) (s16 : List ((List ((List UInt8) × (List UInt8) × Int)) × (List ((List UInt8) × (List UInt8) × Int)) × (List (List UInt8)))) (s134 : Int) (s135 : Int) (b0 : List (List ((List UInt8) × (List UInt8)))) (r : AEx × Env × Boxes) (c0 : decide (s135 < s134) = true) (c1 : (decide (0 ≤ (IntKind.wrap .i64 (s135 + (1)))) && decide ((IntKind.wrap .i64 (s135 + (1))) ≤ (((List.length b0) : Nat) : Int))) = true) (c2 : (decide (0 ≤ s135) && decide (s135 ≤ (((Int.toNat (IntKind.wrap .i64 (s135 + (1)))) : Nat) : Int))) = true) (c3 : (decide ((Int.toNat s135) < (List.length b0)) || decide ((Int.toNat s135) = 0)) = true) (c4 : decide (((0 + (Int.toNat s135)) + ((Int.toNat (IntKind.wrap .i64 (s135 + (1)))) - (Int.toNat s135))) ≤ (List.length b0)) = true) (c5 : inhPre (List.take ((Int.toNat (IntKind.wrap .i64 (s135 + (1)))) - (Int.toNat s135)) (List.drop (0 + (Int.toNat s135)) b0)) s16 = true) (c6 : ¬ (inhG (List.take ((Int.toNat (IntKind.wrap .i64 (s135 + (1)))) - (Int.toNat s135)) (List.drop (0 + (Int.toNat s135)) b0)) (0) s16) = true) (ih : (turns (hds 5 65334214448820184984967924626899496673280) 0 65334214448820184984967924626899496673280 (evC byref (evCall F S13 (m + 24)) (m + 24) 0 (hds 5) lbl5_1) n (l5_1H s16 s134 ((IntKind.wrap .i64 (s135 + (1)))) b0) (l5_1B s16 s134 ((IntKind.wrap .i64 (s135 + (1)))) b0)).run = some r) : (turns (hds 5 65334214448820184984967924626899496673280) 0 65334214448820184984967924626899496673280 (evC byref (evCall F S13 (m + 24)) (m + 24) 0 (hds 5) lbl5_1) (n + 1) (l5_1H s16 s134 s135 b0) (l5_1B s16 s134 s135 b0)).run = some r := by
  exact turns_step (M.run_of_path _ [true, true, true, true, true, true, false] _ _ (by kernel_rfl) (all_t c0 (all_t c1 (all_t c2 (all_t c3 (all_t c4 (all_t c5 (all_f c6 all_nil)))))))) ih
set_option maxHeartbeats 20000000 in
theorem l5_1_w1 (m n : Nat) (s16 : List ((List ((List UInt8) × (List UInt8) × Int)) × (List ((List UInt8) × (List UInt8) × Int)) × (List (List UInt8)))) (s134 : Int) (s135 : Int) (b0 : List (List ((List UInt8) × (List UInt8)))) (r : AEx × Env × Boxes) (c0 : decide (s135 < s134) = true) (c1 : (decide (0 ≤ (IntKind.wrap .i64 (s135 + (1)))) && decide ((IntKind.wrap .i64 (s135 + (1))) ≤ (((List.length b0) : Nat) : Int))) = true) (c2 : (decide (0 ≤ s135) && decide (s135 ≤ (((Int.toNat (IntKind.wrap .i64 (s135 + (1)))) : Nat) : Int))) = true) (c3 : ¬ (decide ((Int.toNat s135) < (List.length b0)) || decide ((Int.toNat s135) = 0)) = true) (c4 : inhPre ([] : List (List ((List UInt8) × (List UInt8)))) s16 = true) (c5 : ¬ (inhG ([] : List (List ((List UInt8) × (List UInt8)))) (0) s16) = true) (ih : (turns (hds 5 65334214448820184984967924626899496673280) 0 65334214448820184984967924626899496673280 (evC byref (evCall F S13 (m + 24)) (m + 24) 0 (hds 5) lbl5_1) n (l5_1H s16 s134 ((IntKind.wrap .i64 (s135 + (1)))) b0) (l5_1B s16 s134 ((IntKind.wrap .i64 (s135 + (1)))) b0)).run = some r) : (turns (hds 5 65334214448820184984967924626899496673280) 0 65334214448820184984967924626899496673280 (evC byref (evCall F S13 (m + 24)) (m + 24) 0 (hds 5) lbl5_1) (n + 1) (l5_1H s16 s134 s135 b0) (l5_1B s16 s134 s135 b0)).run = some r := by
  exact turns_step (M.run_of_path _ [true, true, true, false, true, false] _ _ (by kernel_rfl) (all_t c0 (all_t c1 (all_t c2 (all_f c3 (all_t c4 (all_f c5 all_nil))))))) ih
set_option maxHeartbeats 20000000 in
theorem l5_1_w2 (m n : Nat) (s16 : List ((List ((List UInt8) × (List UInt8) × Int)) × (List ((List UInt8) × (List UInt8) × Int)) × (List (List UInt8)))) (s134 : Int) (s135 : Int) (b0 : List (List ((List UInt8) × (List UInt8)))) (c0 : ¬ decide (s135 < s134) = true) : (turns (hds 5 65334214448820184984967924626899496673280) 0 65334214448820184984967924626899496673280 (evC byref (evCall F S13 (m + 24)) (m + 24) 0 (hds 5) lbl5_1) (n + 1) (l5_1H s16 s134 s135 b0) (l5_1B s16 s134 s135 b0)).run = some (.exit 2, [.top, .top, .top, .top, .top, .top, .top, .top, .top, .top, .top, .top, .top, (.sr 0 0 (List.length b0) 1 none), .top, .top, (.d (.sl (.pair (.sl (.pair .str (.pair .str (.int .i64)))) (.pair (.sl (.pair .str (.pair .str (.int .i64)))) (.sl .str))) s16)), .top, .top, .top, .top, .top, .top, .top, .top, .top, .top, .top, .top, .top, .top, .top, .top, .top, .top, .top, .top, .top, .top, .top, .top, .top, .top, .top, .top, .top, .top, .top, .top, .top, .top, .top, .top, .top, .top, .top, .top, .top, .top, .top, .top, .top, .top, .top, .top, .top, .top, .top, .top, .top, .top, .top, .top, .top, .top, .top, .top, .top, .top, .top, .top, .top, .top, .top, .top, .top, .top, .top, .top, .top, .top, .top, .top, .top, .top, .top, .top, .top, .top, .top, .top, .top, .top, .top, .top, .top, .top, .top, .top, .top, .top, .top, .top, .top, .top, .top, .top, .top, .top, .top, .top, .top, .top, .top, .top, .top, .top, .top, .top, .top, .top, .top, .top, .top, (.d (.int .i64 s134)), (.d (.int .i64 s135)), (.d (.bool (decide (s135 < s134)))), .top, .top, .top, .top, .top, .top, .top, .top, .top, .top], [(.arr (.sl (.pair .str .str)) b0 false)]) := by
  exact turns_last (by simp) (M.run_of_path _ [false] _ _ (by kernel_rfl) (all_f c0 all_nil)) 

set_option maxHeartbeats 20000000 in
theorem l5_1_step (m n : Nat) (ih : ∀ (s16 : List ((List ((List UInt8) × (List UInt8) × Int)) × (List ((List UInt8) × (List UInt8) × Int)) × (List (List UInt8)))) (s134 : Int) (s135 : Int) (b0 : List (List ((List UInt8) × (List UInt8)))) (q : Nat × Int), l5_1 m n s16 s134 s135 b0 = some q → (turns (hds 5 65334214448820184984967924626899496673280) 0 65334214448820184984967924626899496673280 (evC byref (evCall F S13 (m + 24)) (m + 24) 0 (hds 5) lbl5_1) n (l5_1H s16 s134 s135 b0) (l5_1B s16 s134 s135 b0)).run = some (l5_1E (s16) (s134) (q.2) (b0) q.1)) (s16 : List ((List ((List UInt8) × (List UInt8) × Int)) × (List ((List UInt8) × (List UInt8) × Int)) × (List (List UInt8)))) (s134 : Int) (s135 : Int) (b0 : List (List ((List UInt8) × (List UInt8)))) (q : Nat × Int) (h : l5_1 m (n + 1) s16 s134 s135 b0 = some q) : (turns (hds 5 65334214448820184984967924626899496673280) 0 65334214448820184984967924626899496673280 (evC byref (evCall F S13 (m + 24)) (m + 24) 0 (hds 5) lbl5_1) (n + 1) (l5_1H s16 s134 s135 b0) (l5_1B s16 s134 s135 b0)).run = some (l5_1E (s16) (s134) (q.2) (b0) q.1) := by
  rw [l5_1] at h
  refine ite_cases h (fun c0 h => ?_) (fun c0 h => ?_)
  · skip
    refine ite_cases h (fun c1 h => ?_) (fun c1 h => ?_)
    · skip
      refine ite_cases h (fun c2 h => ?_) (fun c2 h => ?_)
      · skip
        refine ite_cases h (fun c3 h => ?_) (fun c3 h => ?_)
        · skip
          refine ite_cases h (fun c4 h => ?_) (fun c4 h => ?_)
          · skip
            refine ite_cases h (fun c5 h => ?_) (fun c5 h => ?_)
            · skip
              refine ite_cases h (fun c6 h => ?_) (fun c6 h => ?_)
              · skip
                cases h
              · skip
                exact l5_1_w0 m n s16 s134 s135 b0 _ c0 c1 c2 c3 c4 c5 c6 (ih _ _ _ _ q h)
            · skip
              cases h
          · skip
            cases h
        · skip
          refine ite_cases h (fun c4 h => ?_) (fun c4 h => ?_)
          · skip
            refine ite_cases h (fun c5 h => ?_) (fun c5 h => ?_)
            · skip
              cases h
            · skip
              exact l5_1_w1 m n s16 s134 s135 b0 _ c0 c1 c2 c3 c4 c5 (ih _ _ _ _ q h)
          · skip
            cases h
      · skip
        cases h
    · skip
      cases h
  · skip
    cases h
    exact l5_1_w2 m n s16 s134 s135 b0 c0
set_option maxHeartbeats 20000000 in
theorem l5_1_ok (m : Nat) : ∀ (n : Nat) (s16 : List ((List ((List UInt8) × (List UInt8) × Int)) × (List ((List UInt8) × (List UInt8) × Int)) × (List (List UInt8)))) (s134 : Int) (s135 : Int) (b0 : List (List ((List UInt8) × (List UInt8)))) (q : Nat × Int), l5_1 m n s16 s134 s135 b0 = some q → (turns (hds 5 65334214448820184984967924626899496673280) 0 65334214448820184984967924626899496673280 (evC byref (evCall F S13 (m + 24)) (m + 24) 0 (hds 5) lbl5_1) n (l5_1H s16 s134 s135 b0) (l5_1B s16 s134 s135 b0)).run = some (l5_1E (s16) (s134) (q.2) (b0) q.1)
  | 0, s16, s134, s135, b0, q, h => by cases h
  | n + 1, s16, s134, s135, b0, q, h => l5_1_step m n (l5_1_ok m n) s16 s134 s135 b0 q h

@[reducible] def more_k1 (x0 : List ((List Int) × (List Int))) (x1 : List ((List ((List UInt8) × (List UInt8) × Int)) × Int × Int)) (x2 : List ((List ((List UInt8) × (List UInt8) × Int)) × (List ((List UInt8) × (List UInt8) × Int)) × (List (List UInt8)))) (x3 : Int) (x4 : Int) (x5 : Int) (m : Nat) := (l5_0R m (m + 24) x0 x1 x2 x3 x4 x5 0 (([] : List (List ((List UInt8) × (List UInt8))))))
@[reducible] def more_k2 (x1 : List ((List ((List UInt8) × (List UInt8) × Int)) × Int × Int)) := (List.drop 0 (List.take (Int.toNat (if (4) < (((List.length x1) : Nat) : Int) then (4) else (((List.length x1) : Nat) : Int))) x1))
@[reducible] def more_k3 (x2 : List ((List ((List UInt8) × (List UInt8) × Int)) × (List ((List UInt8) × (List UInt8) × Int)) × (List (List UInt8)))) := (List.drop 0 (List.take (Int.toNat (if (4) < (((List.length x2) : Nat) : Int) then (4) else (((List.length x2) : Nat) : Int))) x2))
@[reducible] def more_k4 (x0 : List ((List Int) × (List Int))) (x1 : List ((List ((List UInt8) × (List UInt8) × Int)) × Int × Int)) (x2 : List ((List ((List UInt8) × (List UInt8) × Int)) × (List ((List UInt8) × (List UInt8) × Int)) × (List (List UInt8)))) (x3 : Int) (x4 : Int) (x5 : Int) (m : Nat) := (List.take (List.length (more_k1 x0 x1 x2 x3 x4 x5 m).2.2) (List.drop 0 (more_k1 x0 x1 x2 x3 x4 x5 m).2.2))
@[reducible] def more_k5 (x0 : List ((List Int) × (List Int))) (x1 : List ((List ((List UInt8) × (List UInt8) × Int)) × Int × Int)) (x2 : List ((List ((List UInt8) × (List UInt8) × Int)) × (List ((List UInt8) × (List UInt8) × Int)) × (List (List UInt8)))) (x3 : Int) (x4 : Int) (x5 : Int) (m : Nat) := (((List.length (heardG (more_k4 x0 x1 x2 x3 x4 x5 m) (withinI x3 (0) (60)) (List.take ((0 + (List.length (more_k2 x1))) + 1) (List.drop 0 ((more_k2 x1) ++ [(([] : List ((List UInt8) × (List UInt8) × Int)), ((withinI x4 (0) (50)), (withinI x5 (withinI x4 (0) (50)) (60))))]))) (more_k3 x2))) : Nat) : Int)
@[reducible] def more_k6 (x0 : List ((List Int) × (List Int))) (x1 : List ((List ((List UInt8) × (List UInt8) × Int)) × Int × Int)) (x2 : List ((List ((List UInt8) × (List UInt8) × Int)) × (List ((List UInt8) × (List UInt8) × Int)) × (List (List UInt8)))) (x3 : Int) (x4 : Int) (x5 : Int) (m : Nat) := (List.length (more_k1 x0 x1 x2 x3 x4 x5 m).2.2)
@[reducible] def more_k7 (x0 : List ((List Int) × (List Int))) (x1 : List ((List ((List UInt8) × (List UInt8) × Int)) × Int × Int)) (x2 : List ((List ((List UInt8) × (List UInt8) × Int)) × (List ((List UInt8) × (List UInt8) × Int)) × (List (List UInt8)))) (x3 : Int) (x4 : Int) (x5 : Int) (m : Nat) := (((List.length (heardG (more_k4 x0 x1 x2 x3 x4 x5 m) (withinI x3 (0) (60)) (more_k2 x1) (more_k3 x2))) : Nat) : Int)
@[reducible] def more_k8 (x0 : List ((List Int) × (List Int))) (x1 : List ((List ((List UInt8) × (List UInt8) × Int)) × Int × Int)) (x2 : List ((List ((List UInt8) × (List UInt8) × Int)) × (List ((List UInt8) × (List UInt8) × Int)) × (List (List UInt8)))) (x3 : Int) (x4 : Int) (x5 : Int) (m : Nat) := ((((List.length (heardG (more_k4 x0 x1 x2 x3 x4 x5 m) (withinI x3 (0) (60)) ([] : List ((List ((List UInt8) × (List UInt8) × Int)) × Int × Int)) ([] : List ((List ((List UInt8) × (List UInt8) × Int)) × (List ((List UInt8) × (List UInt8) × Int)) × (List (List UInt8)))))) : Nat) : Int) != (((more_k6 x0 x1 x2 x3 x4 x5 m) : Nat) : Int))
@[reducible] def more_k9 (x0 : List ((List Int) × (List Int))) (x1 : List ((List ((List UInt8) × (List UInt8) × Int)) × Int × Int)) (x2 : List ((List ((List UInt8) × (List UInt8) × Int)) × (List ((List UInt8) × (List UInt8) × Int)) × (List (List UInt8)))) (x3 : Int) (x4 : Int) (x5 : Int) (m : Nat) := (l5_1 m (m + 24) ((more_k3 x2)) ((((more_k6 x0 x1 x2 x3 x4 x5 m) : Nat) : Int)) 0 ((more_k1 x0 x1 x2 x3 x4 x5 m).2.2))
@[reducible] def more_k10 (x0 : List ((List Int) × (List Int))) (x1 : List ((List ((List UInt8) × (List UInt8) × Int)) × Int × Int)) (x2 : List ((List ((List UInt8) × (List UInt8) × Int)) × (List ((List UInt8) × (List UInt8) × Int)) × (List (List UInt8)))) (x3 : Int) (x4 : Int) (x5 : Int) (m : Nat) := (((List.length (heardG (more_k4 x0 x1 x2 x3 x4 x5 m) (withinI x3 (0) (60)) (more_k2 x1) ([] : List ((List ((List UInt8) × (List UInt8) × Int)) × (List ((List UInt8) × (List UInt8) × Int)) × (List (List UInt8)))))) : Nat) : Int)
@[reducible] def more_k11 (x0 : List ((List Int) × (List Int))) (x1 : List ((List ((List UInt8) × (List UInt8) × Int)) × Int × Int)) (x2 : List ((List ((List UInt8) × (List UInt8) × Int)) × (List ((List UInt8) × (List UInt8) × Int)) × (List (List UInt8)))) (x3 : Int) (x4 : Int) (x5 : Int) (m : Nat) := (l5_1E (((more_k3 x2))) (((((more_k6 x0 x1 x2 x3 x4 x5 m) : Nat) : Int))) ((l5_1R m (m + 24) ((more_k3 x2)) ((((more_k6 x0 x1 x2 x3 x4 x5 m) : Nat) : Int)) 0 ((more_k1 x0 x1 x2 x3 x4 x5 m).2.2)).2) (((more_k1 x0 x1 x2 x3 x4 x5 m).2.2)) 0)
@[reducible] def more_k12 (x1 : List ((List ((List UInt8) × (List UInt8) × Int)) × Int × Int)) (x4 : Int) (x5 : Int) := (List.take ((0 + (List.length (more_k2 x1))) + 1) (List.drop 0 ((more_k2 x1) ++ [(([] : List ((List UInt8) × (List UInt8) × Int)), ((withinI x4 (0) (50)), (withinI x5 (withinI x4 (0) (50)) (60))))])))
@[reducible] def more_k13 (x1 : List ((List ((List UInt8) × (List UInt8) × Int)) × Int × Int)) := (if (4) < (((List.length x1) : Nat) : Int) then (4) else (((List.length x1) : Nat) : Int))
@[reducible] def more_k14 (x2 : List ((List ((List UInt8) × (List UInt8) × Int)) × (List ((List UInt8) × (List UInt8) × Int)) × (List (List UInt8)))) := (if (4) < (((List.length x2) : Nat) : Int) then (4) else (((List.length x2) : Nat) : Int))
@[reducible] def more_k15 (x1 : List ((List ((List UInt8) × (List UInt8) × Int)) × Int × Int)) (x4 : Int) (x5 : Int) := (List.length ((more_k2 x1) ++ [(([] : List ((List UInt8) × (List UInt8) × Int)), ((withinI x4 (0) (50)), (withinI x5 (withinI x4 (0) (50)) (60))))]))
@[reducible] def more_k16 (x0 : List ((List Int) × (List Int))) (x1 : List ((List ((List UInt8) × (List UInt8) × Int)) × Int × Int)) (x2 : List ((List ((List UInt8) × (List UInt8) × Int)) × (List ((List UInt8) × (List UInt8) × Int)) × (List (List UInt8)))) (x3 : Int) (x4 : Int) (x5 : Int) (m : Nat) := (l5_0 m (m + 24) x0 x1 x2 x3 x4 x5 0 (([] : List (List ((List UInt8) × (List UInt8))))))
@[reducible] def more_k17 (x3 : Int) (x4 : Int) (x5 : Int) := ((withinI x3 (0) (60)) ≥ (withinI x5 (withinI x4 (0) (50)) (60)))
@[reducible] def more_k18 (x3 : Int) (x4 : Int) := ((withinI x3 (0) (60)) < (withinI x4 (0) (50)))
@[reducible] def more_k19 (x3 : Int) (x4 : Int) (x5 : Int) := ((withinI x3 (0) (60)) < (withinI x5 (withinI x4 (0) (50)) (60)))
@[reducible] def more_k20 (x0 : List ((List Int) × (List Int))) (x1 : List ((List ((List UInt8) × (List UInt8) × Int)) × Int × Int)) (x2 : List ((List ((List UInt8) × (List UInt8) × Int)) × (List ((List UInt8) × (List UInt8) × Int)) × (List (List UInt8)))) (x3 : Int) (x4 : Int) (x5 : Int) (m : Nat) := (l5_0E x0 x1 x2 x3 x4 x5 ((more_k1 x0 x1 x2 x3 x4 x5 m).2.1) ((more_k1 x0 x1 x2 x3 x4 x5 m).2.2) 0)
@[reducible] def more_k21 (x3 : Int) (x4 : Int) := ((withinI x3 (0) (60)) ≥ (withinI x4 (0) (50)))
@[reducible] def more_k22 (x0 : List ((List Int) × (List Int))) (x1 : List ((List ((List UInt8) × (List UInt8) × Int)) × Int × Int)) (x2 : List ((List ((List UInt8) × (List UInt8) × Int)) × (List ((List UInt8) × (List UInt8) × Int)) × (List (List UInt8)))) (x3 : Int) (x4 : Int) (x5 : Int) (m : Nat) := (l5_0E x0 x1 x2 x3 x4 x5 ((more_k1 x0 x1 x2 x3 x4 x5 m).2.1) ((more_k1 x0 x1 x2 x3 x4 x5 m).2.2) 1)
@[reducible] def more_k23 (x1 : List ((List ((List UInt8) × (List UInt8) × Int)) × Int × Int)) := (((List.length x1) : Nat) : Int)
@[reducible] def more_k24 (x2 : List ((List ((List UInt8) × (List UInt8) × Int)) × (List ((List UInt8) × (List UInt8) × Int)) × (List (List UInt8)))) := (((List.length x2) : Nat) : Int)
@[reducible] def more_k25 (x4 : Int) := ((withinI x4 (0) (50)) ≤ 60)
def more (m : Nat) (x0 : List ((List Int) × (List Int))) (x1 : List ((List ((List UInt8) × (List UInt8) × Int)) × Int × Int)) (x2 : List ((List ((List UInt8) × (List UInt8) × Int)) × (List ((List UInt8) × (List UInt8) × Int)) × (List (List UInt8)))) (x3 : Int) (x4 : Int) (x5 : Int) : Option Unit :=
  if (Option.isSome (more_k16 x0 x1 x2 x3 x4 x5 m)) = true then
    if ((more_k1 x0 x1 x2 x3 x4 x5 m).1 == 0) = true then
      if (decide (0 ≤ (more_k13 x1)) && decide ((more_k13 x1) ≤ (more_k23 x1))) = true then
        if (decide (0 ≤ (more_k14 x2)) && decide ((more_k14 x2) ≤ (more_k24 x2))) = true then
          if (((decide (-4611686018427387904 ≤ (withinI x4 (0) (50))) && decide (more_k25 x4)) && true) && decide (((60) - (withinI x4 (0) (50))) ≤ 2305843009213693951)) = true then
            if decide (((0 + (List.length (more_k2 x1))) * 40) ≤ 70368744177664) = true then
              if decide ((((0 + (List.length (more_k2 x1))) + 1) * 40) ≤ 70368744177664) = true then
                if decide ((0 + (List.length (more_k2 x1))) = (List.length (more_k2 x1))) = true then
                  if heardPre (more_k4 x0 x1 x2 x3 x4 x5 m) (more_k2 x1) (more_k3 x2) = true then
                    if decide ((0 + ((0 + (List.length (more_k2 x1))) + 1)) ≤ (more_k15 x1 x4 x5)) = true then
                      if heardPre (more_k4 x0 x1 x2 x3 x4 x5 m) (more_k12 x1 x4 x5) (more_k3 x2) = true then
                        if heardPre (more_k4 x0 x1 x2 x3 x4 x5 m) ([] : List ((List ((List UInt8) × (List UInt8) × Int)) × Int × Int)) ([] : List ((List ((List UInt8) × (List UInt8) × Int)) × (List ((List UInt8) × (List UInt8) × Int)) × (List (List UInt8)))) = true then
                          if decide ((more_k5 x0 x1 x2 x3 x4 x5 m) > (more_k7 x0 x1 x2 x3 x4 x5 m)) = true then
                            none
                          else
                            if heardPre (more_k4 x0 x1 x2 x3 x4 x5 m) (more_k2 x1) ([] : List ((List ((List UInt8) × (List UInt8) × Int)) × (List ((List UInt8) × (List UInt8) × Int)) × (List (List UInt8)))) = true then
                              if decide ((more_k7 x0 x1 x2 x3 x4 x5 m) > (more_k10 x0 x1 x2 x3 x4 x5 m)) = true then
                                none
                              else
                                if (more_k8 x0 x1 x2 x3 x4 x5 m) = true then
                                  none
                                else
                                  if decide (more_k21 x3 x4) = true then
                                    if decide (more_k19 x3 x4 x5) = true then
                                      if ((more_k5 x0 x1 x2 x3 x4 x5 m) != (0)) = true then
                                        none
                                      else
                                        if decide (more_k18 x3 x4) = true then
                                          if ((more_k5 x0 x1 x2 x3 x4 x5 m) != (more_k7 x0 x1 x2 x3 x4 x5 m)) = true then
                                            none
                                          else
                                            if (Option.isSome (more_k9 x0 x1 x2 x3 x4 x5 m)) = true then
                                              some ()
                                            else
                                              none
                                        else
                                          if decide (more_k17 x3 x4 x5) = true then
                                            if ((more_k5 x0 x1 x2 x3 x4 x5 m) != (more_k7 x0 x1 x2 x3 x4 x5 m)) = true then
                                              none
                                            else
                                              if (Option.isSome (more_k9 x0 x1 x2 x3 x4 x5 m)) = true then
                                                some ()
                                              else
                                                none
                                          else
                                            if (Option.isSome (more_k9 x0 x1 x2 x3 x4 x5 m)) = true then
                                              some ()
                                            else
                                              none
                                    else
                                      if decide (more_k18 x3 x4) = true then
                                        if ((more_k5 x0 x1 x2 x3 x4 x5 m) != (more_k7 x0 x1 x2 x3 x4 x5 m)) = true then
                                          none
                                        else
                                          if (Option.isSome (more_k9 x0 x1 x2 x3 x4 x5 m)) = true then
                                            some ()
                                          else
                                            none
                                      else
                                        if decide (more_k17 x3 x4 x5) = true then
                                          if ((more_k5 x0 x1 x2 x3 x4 x5 m) != (more_k7 x0 x1 x2 x3 x4 x5 m)) = true then
                                            none
                                          else
                                            if (Option.isSome (more_k9 x0 x1 x2 x3 x4 x5 m)) = true then
                                              some ()
                                            else
                                              none
                                        else
                                          if (Option.isSome (more_k9 x0 x1 x2 x3 x4 x5 m)) = true then
                                            some ()
                                          else
                                            none
                                  else
                                    if decide (more_k18 x3 x4) = true then
                                      if ((more_k5 x0 x1 x2 x3 x4 x5 m) != (more_k7 x0 x1 x2 x3 x4 x5 m)) = true then
                                        none
                                      else
                                        if (Option.isSome (more_k9 x0 x1 x2 x3 x4 x5 m)) = true then
                                          some ()
                                        else
                                          none
                                    else
                                      if decide (more_k17 x3 x4 x5) = true then
                                        if ((more_k5 x0 x1 x2 x3 x4 x5 m) != (more_k7 x0 x1 x2 x3 x4 x5 m)) = true then
                                          none
                                        else
                                          if (Option.isSome (more_k9 x0 x1 x2 x3 x4 x5 m)) = true then
                                            some ()
                                          else
                                            none
                                      else
                                        if (Option.isSome (more_k9 x0 x1 x2 x3 x4 x5 m)) = true then
                                          some ()
                                        else
                                          none
                            else
                              none
                        else
                          none
                      else
                        none
                    else
                      none
                  else
                    none
                else
                  none
              else
                none
            else
              none
          else
            none
        else
          none
      else
        none
    else
      if ((more_k1 x0 x1 x2 x3 x4 x5 m).1 == 1) = true then
        if (decide (0 ≤ (more_k13 x1)) && decide ((more_k13 x1) ≤ (more_k23 x1))) = true then
          if (decide (0 ≤ (more_k14 x2)) && decide ((more_k14 x2) ≤ (more_k24 x2))) = true then
            if (((decide (-4611686018427387904 ≤ (withinI x4 (0) (50))) && decide (more_k25 x4)) && true) && decide (((60) - (withinI x4 (0) (50))) ≤ 2305843009213693951)) = true then
              if decide (((0 + (List.length (more_k2 x1))) * 40) ≤ 70368744177664) = true then
                if decide ((((0 + (List.length (more_k2 x1))) + 1) * 40) ≤ 70368744177664) = true then
                  if decide ((0 + (List.length (more_k2 x1))) = (List.length (more_k2 x1))) = true then
                    if heardPre (more_k4 x0 x1 x2 x3 x4 x5 m) (more_k2 x1) (more_k3 x2) = true then
                      if decide ((0 + ((0 + (List.length (more_k2 x1))) + 1)) ≤ (more_k15 x1 x4 x5)) = true then
                        if heardPre (more_k4 x0 x1 x2 x3 x4 x5 m) (more_k12 x1 x4 x5) (more_k3 x2) = true then
                          if heardPre (more_k4 x0 x1 x2 x3 x4 x5 m) ([] : List ((List ((List UInt8) × (List UInt8) × Int)) × Int × Int)) ([] : List ((List ((List UInt8) × (List UInt8) × Int)) × (List ((List UInt8) × (List UInt8) × Int)) × (List (List UInt8)))) = true then
                            if decide ((more_k5 x0 x1 x2 x3 x4 x5 m) > (more_k7 x0 x1 x2 x3 x4 x5 m)) = true then
                              none
                            else
                              if heardPre (more_k4 x0 x1 x2 x3 x4 x5 m) (more_k2 x1) ([] : List ((List ((List UInt8) × (List UInt8) × Int)) × (List ((List UInt8) × (List UInt8) × Int)) × (List (List UInt8)))) = true then
                                if decide ((more_k7 x0 x1 x2 x3 x4 x5 m) > (more_k10 x0 x1 x2 x3 x4 x5 m)) = true then
                                  none
                                else
                                  if (more_k8 x0 x1 x2 x3 x4 x5 m) = true then
                                    none
                                  else
                                    if decide (more_k21 x3 x4) = true then
                                      if decide (more_k19 x3 x4 x5) = true then
                                        if ((more_k5 x0 x1 x2 x3 x4 x5 m) != (0)) = true then
                                          none
                                        else
                                          if decide (more_k18 x3 x4) = true then
                                            if ((more_k5 x0 x1 x2 x3 x4 x5 m) != (more_k7 x0 x1 x2 x3 x4 x5 m)) = true then
                                              none
                                            else
                                              if (Option.isSome (more_k9 x0 x1 x2 x3 x4 x5 m)) = true then
                                                some ()
                                              else
                                                none
                                          else
                                            if decide (more_k17 x3 x4 x5) = true then
                                              if ((more_k5 x0 x1 x2 x3 x4 x5 m) != (more_k7 x0 x1 x2 x3 x4 x5 m)) = true then
                                                none
                                              else
                                                if (Option.isSome (more_k9 x0 x1 x2 x3 x4 x5 m)) = true then
                                                  some ()
                                                else
                                                  none
                                            else
                                              if (Option.isSome (more_k9 x0 x1 x2 x3 x4 x5 m)) = true then
                                                some ()
                                              else
                                                none
                                      else
                                        if decide (more_k18 x3 x4) = true then
                                          if ((more_k5 x0 x1 x2 x3 x4 x5 m) != (more_k7 x0 x1 x2 x3 x4 x5 m)) = true then
                                            none
                                          else
                                            if (Option.isSome (more_k9 x0 x1 x2 x3 x4 x5 m)) = true then
                                              some ()
                                            else
                                              none
                                        else
                                          if decide (more_k17 x3 x4 x5) = true then
                                            if ((more_k5 x0 x1 x2 x3 x4 x5 m) != (more_k7 x0 x1 x2 x3 x4 x5 m)) = true then
                                              none
                                            else
                                              if (Option.isSome (more_k9 x0 x1 x2 x3 x4 x5 m)) = true then
                                                some ()
                                              else
                                                none
                                          else
                                            if (Option.isSome (more_k9 x0 x1 x2 x3 x4 x5 m)) = true then
                                              some ()
                                            else
                                              none
                                    else
                                      if decide (more_k18 x3 x4) = true then
                                        if ((more_k5 x0 x1 x2 x3 x4 x5 m) != (more_k7 x0 x1 x2 x3 x4 x5 m)) = true then
                                          none
                                        else
                                          if (Option.isSome (more_k9 x0 x1 x2 x3 x4 x5 m)) = true then
                                            some ()
                                          else
                                            none
                                      else
                                        if decide (more_k17 x3 x4 x5) = true then
                                          if ((more_k5 x0 x1 x2 x3 x4 x5 m) != (more_k7 x0 x1 x2 x3 x4 x5 m)) = true then
                                            none
                                          else
                                            if (Option.isSome (more_k9 x0 x1 x2 x3 x4 x5 m)) = true then
                                              some ()
                                            else
                                              none
                                        else
                                          if (Option.isSome (more_k9 x0 x1 x2 x3 x4 x5 m)) = true then
                                            some ()
                                          else
                                            none
                              else
                                none
                          else
                            none
                        else
                          none
                      else
                        none
                    else
                      none
                  else
                    none
                else
                  none
              else
                none
            else
              none
          else
            none
        else
          none
      else
        none
  else
    none

set_option maxHeartbeats 20000000 in
theorem more_w0 (m : Nat) (x0 : List ((List Int) × (List Int))) (x1 : List ((List ((List UInt8) × (List UInt8) × Int)) × Int × Int)) (x2 : List ((List ((List UInt8) × (List UInt8) × Int)) × (List ((List UInt8) × (List UInt8) × Int)) × (List (List UInt8)))) (x3 : Int) (x4 : Int) (x5 : Int) (c0 : (Option.isSome (more_k16 x0 x1 x2 x3 x4 x5 m)) = true) (c1 : ((more_k1 x0 x1 x2 x3 x4 x5 m).1 == 0) = true) (c2 : (decide (0 ≤ (more_k13 x1)) && decide ((more_k13 x1) ≤ (more_k23 x1))) = true) (c3 : (decide (0 ≤ (more_k14 x2)) && decide ((more_k14 x2) ≤ (more_k24 x2))) = true) (c5 : (((decide (-4611686018427387904 ≤ (withinI x4 (0) (50))) && decide (more_k25 x4)) && true) && decide (((60) - (withinI x4 (0) (50))) ≤ 2305843009213693951)) = true) (c7 : decide (((0 + (List.length (more_k2 x1))) * 40) ≤ 70368744177664) = true) (c10 : decide ((((0 + (List.length (more_k2 x1))) + 1) * 40) ≤ 70368744177664) = true) (c11 : decide ((0 + (List.length (more_k2 x1))) = (List.length (more_k2 x1))) = true) (c13 : heardPre (more_k4 x0 x1 x2 x3 x4 x5 m) (more_k2 x1) (more_k3 x2) = true) (c15 : decide ((0 + ((0 + (List.length (more_k2 x1))) + 1)) ≤ (more_k15 x1 x4 x5)) = true) (c16 : heardPre (more_k4 x0 x1 x2 x3 x4 x5 m) (more_k12 x1 x4 x5) (more_k3 x2) = true) (c18 : heardPre (more_k4 x0 x1 x2 x3 x4 x5 m) ([] : List ((List ((List UInt8) × (List UInt8) × Int)) × Int × Int)) ([] : List ((List ((List UInt8) × (List UInt8) × Int)) × (List ((List UInt8) × (List UInt8) × Int)) × (List (List UInt8)))) = true) (c19 : ¬ decide ((more_k5 x0 x1 x2 x3 x4 x5 m) > (more_k7 x0 x1 x2 x3 x4 x5 m)) = true) (c26 : heardPre (more_k4 x0 x1 x2 x3 x4 x5 m) (more_k2 x1) ([] : List ((List ((List UInt8) × (List UInt8) × Int)) × (List ((List UInt8) × (List UInt8) × Int)) × (List (List UInt8)))) = true) (c30 : ¬ decide ((more_k7 x0 x1 x2 x3 x4 x5 m) > (more_k10 x0 x1 x2 x3 x4 x5 m)) = true) (c36 : ¬ (more_k8 x0 x1 x2 x3 x4 x5 m) = true) (c37 : decide (more_k21 x3 x4) = true) (c41 : decide (more_k19 x3 x4 x5) = true) (c45 : ¬ ((more_k5 x0 x1 x2 x3 x4 x5 m) != (0)) = true) (c49 : decide (more_k18 x3 x4) = true) (c63 : ¬ ((more_k5 x0 x1 x2 x3 x4 x5 m) != (more_k7 x0 x1 x2 x3 x4 x5 m)) = true) (c64 : (Option.isSome (more_k9 x0 x1 x2 x3 x4 x5 m)) = true) : (evCall F S13 (m + 25) 5 [(.d (.sl (.pair (.sl (.int .i64)) (.sl (.int .i64))) x0)), (.d (.sl (.pair (.sl (.pair .str (.pair .str (.int .i64)))) (.pair (.int .i64) (.int .i64))) x1)), (.d (.sl (.pair (.sl (.pair .str (.pair .str (.int .i64)))) (.pair (.sl (.pair .str (.pair .str (.int .i64)))) (.sl .str))) x2)), (.d (.int .i64 x3)), (.d (.int .i64 x4)), (.d (.int .i64 x5))] []).run = some (.d (.bool true), []) := by
  refine runT_ok (LS := (fun k => if k = 24639 then some (more_k20 x0 x1 x2 x3 x4 x5 m) else if k = 65334214448820184984967924626899496673280 then some (more_k11 x0 x1 x2 x3 x4 x5 m) else none)) (fn := fn5) (r := .d (.bool true)) (B' := []) (vis := [(24639, l5_0H x0 x1 x2 x3 x4 x5 0 (([] : List (List ((List UInt8) × (List UInt8))))), l5_0B x0 x1 x2 x3 x4 x5 0 (([] : List (List ((List UInt8) × (List UInt8)))))), (65334214448820184984967924626899496673280, l5_1H ((more_k3 x2)) ((((more_k6 x0 x1 x2 x3 x4 x5 m) : Nat) : Int)) 0 ((more_k1 x0 x1 x2 x3 x4 x5 m).2.2), l5_1B ((more_k3 x2)) ((((more_k6 x0 x1 x2 x3 x4 x5 m) : Nat) : Int)) 0 ((more_k1 x0 x1 x2 x3 x4 x5 m).2.2))]) (by kernel_rfl) rfl (by kernel_rfl) (M.run_of_path _ [true, true, true, true, true, true, true, true, true, true, true, true, true, true, true, true, true, false, false, false, false, false, false, true, true, false, false, false, false, false, false, false, false, false, false, true, true, true, true, true, true, true, true, false, false, false, false, true, true, true, false, true, false, true, true, true, true, true, false, true, false, false] _ _ (by kernel_rfl) (all_t c2 (all_t c3 (all_t rfl (all_t c5 (all_t rfl (all_t c7 (all_t rfl (all_t rfl (all_t c10 (all_t c11 (all_t (show decide ((0 + (more_k6 x0 x1 x2 x3 x4 x5 m)) ≤ (more_k6 x0 x1 x2 x3 x4 x5 m)) = true from decide_eq_true (Nat.le_of_eq (Nat.zero_add _))) (all_t c13 (all_t (show decide ((0 + (more_k6 x0 x1 x2 x3 x4 x5 m)) ≤ (more_k6 x0 x1 x2 x3 x4 x5 m)) = true from decide_eq_true (Nat.le_of_eq (Nat.zero_add _))) (all_t c15 (all_t c16 (all_t (show decide ((0 + (more_k6 x0 x1 x2 x3 x4 x5 m)) ≤ (more_k6 x0 x1 x2 x3 x4 x5 m)) = true from decide_eq_true (Nat.le_of_eq (Nat.zero_add _))) (all_t c18 (all_f c19 (all_f c19 (all_f c19 (all_f c19 (all_f c19 (all_f c19 (all_t (show decide ((0 + (more_k6 x0 x1 x2 x3 x4 x5 m)) ≤ (more_k6 x0 x1 x2 x3 x4 x5 m)) = true from decide_eq_true (Nat.le_of_eq (Nat.zero_add _))) (all_t c26 (all_f c19 (all_f c19 (all_f c19 (all_f c30 (all_f c30 (all_f c30 (all_f c30 (all_f c30 (all_f c30 (all_f c36 (all_t c37 (all_t c37 (all_t c37 (all_t c37 (all_t c41 (all_t c41 (all_t c41 (all_t c41 (all_f c45 (all_f c45 (all_f c45 (all_f c45 (all_t c49 (all_t c49 (all_t c49 (all_f c45 (all_t c49 (all_f c45 (all_t rfl (all_t rfl (all_t rfl (all_t rfl (all_t rfl (all_f c45 (all_t rfl (all_f c45 (all_f c63 all_nil))))))))))))))))))))))))))))))))))))))))))))))))))))))))))))))) ?_
  intro p hp p2 hq
  rcases List.mem_cons.1 hp with rfl | hp
  · skip
    have h3 := l5_0_ok m (m + 24) x0 x1 x2 x3 x4 x5 0 (([] : List (List ((List UInt8) × (List UInt8))))) _ (some_getD (d := l5_0D) c0)
    rw [eq_of_beq c1] at h3
    exact Eq.trans (Eq.mp (by kernel_rfl) h3) hq
  rcases List.mem_cons.1 hp with rfl | hp
  · skip
    have h3 := l5_1_ok m (m + 24) ((more_k3 x2)) ((((more_k6 x0 x1 x2 x3 x4 x5 m) : Nat) : Int)) 0 ((more_k1 x0 x1 x2 x3 x4 x5 m).2.2) _ (some_getD (d := l5_1D) c64)
    exact Eq.trans (Eq.mp (by kernel_rfl) h3) hq
  cases hp

set_option maxHeartbeats 20000000 in
theorem more_w1 (m : Nat) (x0 : List ((List Int) × (List Int))) (x1 : List ((List ((List UInt8) × (List UInt8) × Int)) × Int × Int)) (x2 : List ((List ((List UInt8) × (List UInt8) × Int)) × (List ((List UInt8) × (List UInt8) × Int)) × (List (List UInt8)))) (x3 : Int) (x4 : Int) (x5 : Int) (c0 : (Option.isSome (more_k16 x0 x1 x2 x3 x4 x5 m)) = true) (c1 : ((more_k1 x0 x1 x2 x3 x4 x5 m).1 == 0) = true) (c2 : (decide (0 ≤ (more_k13 x1)) && decide ((more_k13 x1) ≤ (more_k23 x1))) = true) (c3 : (decide (0 ≤ (more_k14 x2)) && decide ((more_k14 x2) ≤ (more_k24 x2))) = true) (c5 : (((decide (-4611686018427387904 ≤ (withinI x4 (0) (50))) && decide (more_k25 x4)) && true) && decide (((60) - (withinI x4 (0) (50))) ≤ 2305843009213693951)) = true) (c7 : decide (((0 + (List.length (more_k2 x1))) * 40) ≤ 70368744177664) = true) (c10 : decide ((((0 + (List.length (more_k2 x1))) + 1) * 40) ≤ 70368744177664) = true) (c11 : decide ((0 + (List.length (more_k2 x1))) = (List.length (more_k2 x1))) = true) (c13 : heardPre (more_k4 x0 x1 x2 x3 x4 x5 m) (more_k2 x1) (more_k3 x2) = true) (c15 : decide ((0 + ((0 + (List.length (more_k2 x1))) + 1)) ≤ (more_k15 x1 x4 x5)) = true) (c16 : heardPre (more_k4 x0 x1 x2 x3 x4 x5 m) (more_k12 x1 x4 x5) (more_k3 x2) = true) (c18 : heardPre (more_k4 x0 x1 x2 x3 x4 x5 m) ([] : List ((List ((List UInt8) × (List UInt8) × Int)) × Int × Int)) ([] : List ((List ((List UInt8) × (List UInt8) × Int)) × (List ((List UInt8) × (List UInt8) × Int)) × (List (List UInt8)))) = true) (c19 : ¬ decide ((more_k5 x0 x1 x2 x3 x4 x5 m) > (more_k7 x0 x1 x2 x3 x4 x5 m)) = true) (c26 : heardPre (more_k4 x0 x1 x2 x3 x4 x5 m) (more_k2 x1) ([] : List ((List ((List UInt8) × (List UInt8) × Int)) × (List ((List UInt8) × (List UInt8) × Int)) × (List (List UInt8)))) = true) (c30 : ¬ decide ((more_k7 x0 x1 x2 x3 x4 x5 m) > (more_k10 x0 x1 x2 x3 x4 x5 m)) = true) (c36 : ¬ (more_k8 x0 x1 x2 x3 x4 x5 m) = true) (c37 : decide (more_k21 x3 x4) = true) (c41 : decide (more_k19 x3 x4 x5) = true) (c45 : ¬ ((more_k5 x0 x1 x2 x3 x4 x5 m) != (0)) = true) (c49 : ¬ decide (more_k18 x3 x4) = true) (c55 : decide (more_k17 x3 x4 x5) = true) (c63 : ¬ ((more_k5 x0 x1 x2 x3 x4 x5 m) != (more_k7 x0 x1 x2 x3 x4 x5 m)) = true) (c64 : (Option.isSome (more_k9 x0 x1 x2 x3 x4 x5 m)) = true) : (evCall F S13 (m + 25) 5 [(.d (.sl (.pair (.sl (.int .i64)) (.sl (.int .i64))) x0)), (.d (.sl (.pair (.sl (.pair .str (.pair .str (.int .i64)))) (.pair (.int .i64) (.int .i64))) x1)), (.d (.sl (.pair (.sl (.pair .str (.pair .str (.int .i64)))) (.pair (.sl (.pair .str (.pair .str (.int .i64)))) (.sl .str))) x2)), (.d (.int .i64 x3)), (.d (.int .i64 x4)), (.d (.int .i64 x5))] []).run = some (.d (.bool true), []) := by
  refine runT_ok (LS := (fun k => if k = 24639 then some (more_k20 x0 x1 x2 x3 x4 x5 m) else if k = 65334214448820184984967924626899496673280 then some (more_k11 x0 x1 x2 x3 x4 x5 m) else none)) (fn := fn5) (r := .d (.bool true)) (B' := []) (vis := [(24639, l5_0H x0 x1 x2 x3 x4 x5 0 (([] : List (List ((List UInt8) × (List UInt8))))), l5_0B x0 x1 x2 x3 x4 x5 0 (([] : List (List ((List UInt8) × (List UInt8)))))), (65334214448820184984967924626899496673280, l5_1H ((more_k3 x2)) ((((more_k6 x0 x1 x2 x3 x4 x5 m) : Nat) : Int)) 0 ((more_k1 x0 x1 x2 x3 x4 x5 m).2.2), l5_1B ((more_k3 x2)) ((((more_k6 x0 x1 x2 x3 x4 x5 m) : Nat) : Int)) 0 ((more_k1 x0 x1 x2 x3 x4 x5 m).2.2))]) (by kernel_rfl) rfl (by kernel_rfl) (M.run_of_path _ [true, true, true, true, true, true, true, true, true, true, true, true, true, true, true, true, true, false, false, false, false, false, false, true, true, false, false, false, false, false, false, false, false, false, false, true, true, true, true, true, true, true, true, false, false, false, false, false, false, false, false, false, false, true, true, true, true, true, false, true, false, false] _ _ (by kernel_rfl) (all_t c2 (all_t c3 (all_t rfl (all_t c5 (all_t rfl (all_t c7 (all_t rfl (all_t rfl (all_t c10 (all_t c11 (all_t (show decide ((0 + (more_k6 x0 x1 x2 x3 x4 x5 m)) ≤ (more_k6 x0 x1 x2 x3 x4 x5 m)) = true from decide_eq_true (Nat.le_of_eq (Nat.zero_add _))) (all_t c13 (all_t (show decide ((0 + (more_k6 x0 x1 x2 x3 x4 x5 m)) ≤ (more_k6 x0 x1 x2 x3 x4 x5 m)) = true from decide_eq_true (Nat.le_of_eq (Nat.zero_add _))) (all_t c15 (all_t c16 (all_t (show decide ((0 + (more_k6 x0 x1 x2 x3 x4 x5 m)) ≤ (more_k6 x0 x1 x2 x3 x4 x5 m)) = true from decide_eq_true (Nat.le_of_eq (Nat.zero_add _))) (all_t c18 (all_f c19 (all_f c19 (all_f c19 (all_f c19 (all_f c19 (all_f c19 (all_t (show decide ((0 + (more_k6 x0 x1 x2 x3 x4 x5 m)) ≤ (more_k6 x0 x1 x2 x3 x4 x5 m)) = true from decide_eq_true (Nat.le_of_eq (Nat.zero_add _))) (all_t c26 (all_f c19 (all_f c19 (all_f c19 (all_f c30 (all_f c30 (all_f c30 (all_f c30 (all_f c30 (all_f c30 (all_f c36 (all_t c37 (all_t c37 (all_t c37 (all_t c37 (all_t c41 (all_t c41 (all_t c41 (all_t c41 (all_f c45 (all_f c45 (all_f c45 (all_f c45 (all_f c49 (all_f c49 (all_f c49 (all_f c45 (all_f c49 (all_f c45 (all_t c55 (all_t c55 (all_t c55 (all_t c55 (all_t c55 (all_f c45 (all_t c55 (all_f c45 (all_f c63 all_nil))))))))))))))))))))))))))))))))))))))))))))))))))))))))))))))) ?_
  intro p hp p2 hq
  rcases List.mem_cons.1 hp with rfl | hp
  · skip
    have h3 := l5_0_ok m (m + 24) x0 x1 x2 x3 x4 x5 0 (([] : List (List ((List UInt8) × (List UInt8))))) _ (some_getD (d := l5_0D) c0)
    rw [eq_of_beq c1] at h3
    exact Eq.trans (Eq.mp (by kernel_rfl) h3) hq
  rcases List.mem_cons.1 hp with rfl | hp
  · skip
    have h3 := l5_1_ok m (m + 24) ((more_k3 x2)) ((((more_k6 x0 x1 x2 x3 x4 x5 m) : Nat) : Int)) 0 ((more_k1 x0 x1 x2 x3 x4 x5 m).2.2) _ (some_getD (d := l5_1D) c64)
    exact Eq.trans (Eq.mp (by kernel_rfl) h3) hq
  cases hp

set_option maxHeartbeats 20000000 in
theorem more_w2 (m : Nat) (x0 : List ((List Int) × (List Int))) (x1 : List ((List ((List UInt8) × (List UInt8) × Int)) × Int × Int)) (x2 : List ((List ((List UInt8) × (List UInt8) × Int)) × (List ((List UInt8) × (List UInt8) × Int)) × (List (List UInt8)))) (x3 : Int) (x4 : Int) (x5 : Int) (c0 : (Option.isSome (more_k16 x0 x1 x2 x3 x4 x5 m)) = true) (c1 : ((more_k1 x0 x1 x2 x3 x4 x5 m).1 == 0) = true) (c2 : (decide (0 ≤ (more_k13 x1)) && decide ((more_k13 x1) ≤ (more_k23 x1))) = true) (c3 : (decide (0 ≤ (more_k14 x2)) && decide ((more_k14 x2) ≤ (more_k24 x2))) = true) (c5 : (((decide (-4611686018427387904 ≤ (withinI x4 (0) (50))) && decide (more_k25 x4)) && true) && decide (((60) - (withinI x4 (0) (50))) ≤ 2305843009213693951)) = true) (c7 : decide (((0 + (List.length (more_k2 x1))) * 40) ≤ 70368744177664) = true) (c10 : decide ((((0 + (List.length (more_k2 x1))) + 1) * 40) ≤ 70368744177664) = true) (c11 : decide ((0 + (List.length (more_k2 x1))) = (List.length (more_k2 x1))) = true) (c13 : heardPre (more_k4 x0 x1 x2 x3 x4 x5 m) (more_k2 x1) (more_k3 x2) = true) (c15 : decide ((0 + ((0 + (List.length (more_k2 x1))) + 1)) ≤ (more_k15 x1 x4 x5)) = true) (c16 : heardPre (more_k4 x0 x1 x2 x3 x4 x5 m) (more_k12 x1 x4 x5) (more_k3 x2) = true) (c18 : heardPre (more_k4 x0 x1 x2 x3 x4 x5 m) ([] : List ((List ((List UInt8) × (List UInt8) × Int)) × Int × Int)) ([] : List ((List ((List UInt8) × (List UInt8) × Int)) × (List ((List UInt8) × (List UInt8) × Int)) × (List (List UInt8)))) = true) (c19 : ¬ decide ((more_k5 x0 x1 x2 x3 x4 x5 m) > (more_k7 x0 x1 x2 x3 x4 x5 m)) = true) (c26 : heardPre (more_k4 x0 x1 x2 x3 x4 x5 m) (more_k2 x1) ([] : List ((List ((List UInt8) × (List UInt8) × Int)) × (List ((List UInt8) × (List UInt8) × Int)) × (List (List UInt8)))) = true) (c30 : ¬ decide ((more_k7 x0 x1 x2 x3 x4 x5 m) > (more_k10 x0 x1 x2 x3 x4 x5 m)) = true) (c36 : ¬ (more_k8 x0 x1 x2 x3 x4 x5 m) = true) (c37 : decide (more_k21 x3 x4) = true) (c41 : decide (more_k19 x3 x4 x5) = true) (c45 : ¬ ((more_k5 x0 x1 x2 x3 x4 x5 m) != (0)) = true) (c49 : ¬ decide (more_k18 x3 x4) = true) (c55 : ¬ decide (more_k17 x3 x4 x5) = true) (c64 : (Option.isSome (more_k9 x0 x1 x2 x3 x4 x5 m)) = true) : (evCall F S13 (m + 25) 5 [(.d (.sl (.pair (.sl (.int .i64)) (.sl (.int .i64))) x0)), (.d (.sl (.pair (.sl (.pair .str (.pair .str (.int .i64)))) (.pair (.int .i64) (.int .i64))) x1)), (.d (.sl (.pair (.sl (.pair .str (.pair .str (.int .i64)))) (.pair (.sl (.pair .str (.pair .str (.int .i64)))) (.sl .str))) x2)), (.d (.int .i64 x3)), (.d (.int .i64 x4)), (.d (.int .i64 x5))] []).run = some (.d (.bool true), []) := by
  refine runT_ok (LS := (fun k => if k = 24639 then some (more_k20 x0 x1 x2 x3 x4 x5 m) else if k = 65334214448820184984967924626899496673280 then some (more_k11 x0 x1 x2 x3 x4 x5 m) else none)) (fn := fn5) (r := .d (.bool true)) (B' := []) (vis := [(24639, l5_0H x0 x1 x2 x3 x4 x5 0 (([] : List (List ((List UInt8) × (List UInt8))))), l5_0B x0 x1 x2 x3 x4 x5 0 (([] : List (List ((List UInt8) × (List UInt8)))))), (65334214448820184984967924626899496673280, l5_1H ((more_k3 x2)) ((((more_k6 x0 x1 x2 x3 x4 x5 m) : Nat) : Int)) 0 ((more_k1 x0 x1 x2 x3 x4 x5 m).2.2), l5_1B ((more_k3 x2)) ((((more_k6 x0 x1 x2 x3 x4 x5 m) : Nat) : Int)) 0 ((more_k1 x0 x1 x2 x3 x4 x5 m).2.2))]) (by kernel_rfl) rfl (by kernel_rfl) (M.run_of_path _ [true, true, true, true, true, true, true, true, true, true, true, true, true, true, true, true, true, false, false, false, false, false, false, true, true, false, false, false, false, false, false, false, false, false, false, true, true, true, true, true, true, true, true, false, false, false, false, false, false, false, false, false, false, false, false, false, false, false, false, false, false, false] _ _ (by kernel_rfl) (all_t c2 (all_t c3 (all_t rfl (all_t c5 (all_t rfl (all_t c7 (all_t rfl (all_t rfl (all_t c10 (all_t c11 (all_t (show decide ((0 + (more_k6 x0 x1 x2 x3 x4 x5 m)) ≤ (more_k6 x0 x1 x2 x3 x4 x5 m)) = true from decide_eq_true (Nat.le_of_eq (Nat.zero_add _))) (all_t c13 (all_t (show decide ((0 + (more_k6 x0 x1 x2 x3 x4 x5 m)) ≤ (more_k6 x0 x1 x2 x3 x4 x5 m)) = true from decide_eq_true (Nat.le_of_eq (Nat.zero_add _))) (all_t c15 (all_t c16 (all_t (show decide ((0 + (more_k6 x0 x1 x2 x3 x4 x5 m)) ≤ (more_k6 x0 x1 x2 x3 x4 x5 m)) = true from decide_eq_true (Nat.le_of_eq (Nat.zero_add _))) (all_t c18 (all_f c19 (all_f c19 (all_f c19 (all_f c19 (all_f c19 (all_f c19 (all_t (show decide ((0 + (more_k6 x0 x1 x2 x3 x4 x5 m)) ≤ (more_k6 x0 x1 x2 x3 x4 x5 m)) = true from decide_eq_true (Nat.le_of_eq (Nat.zero_add _))) (all_t c26 (all_f c19 (all_f c19 (all_f c19 (all_f c30 (all_f c30 (all_f c30 (all_f c30 (all_f c30 (all_f c30 (all_f c36 (all_t c37 (all_t c37 (all_t c37 (all_t c37 (all_t c41 (all_t c41 (all_t c41 (all_t c41 (all_f c45 (all_f c45 (all_f c45 (all_f c45 (all_f c49 (all_f c49 (all_f c49 (all_f c45 (all_f c49 (all_f c45 (all_f c55 (all_f c55 (all_f c55 (all_f c55 (all_f c55 (all_f c45 (all_f c55 (all_f c45 (all_f Bool.false_ne_true all_nil))))))))))))))))))))))))))))))))))))))))))))))))))))))))))))))) ?_
  intro p hp p2 hq
  rcases List.mem_cons.1 hp with rfl | hp
  · skip
    have h3 := l5_0_ok m (m + 24) x0 x1 x2 x3 x4 x5 0 (([] : List (List ((List UInt8) × (List UInt8))))) _ (some_getD (d := l5_0D) c0)
    rw [eq_of_beq c1] at h3
    exact Eq.trans (Eq.mp (by kernel_rfl) h3) hq
  rcases List.mem_cons.1 hp with rfl | hp
  · skip
    have h3 := l5_1_ok m (m + 24) ((more_k3 x2)) ((((more_k6 x0 x1 x2 x3 x4 x5 m) : Nat) : Int)) 0 ((more_k1 x0 x1 x2 x3 x4 x5 m).2.2) _ (some_getD (d := l5_1D) c64)
    exact Eq.trans (Eq.mp (by kernel_rfl) h3) hq
  cases hp

set_option maxHeartbeats 20000000 in
theorem more_w3 (m : Nat) (x0 : List ((List Int) × (List Int))) (x1 : List ((List ((List UInt8) × (List UInt8) × Int)) × Int × Int)) (x2 : List ((List ((List UInt8) × (List UInt8) × Int)) × (List ((List UInt8) × (List UInt8) × Int)) × (List (List UInt8)))) (x3 : Int) (x4 : Int) (x5 : Int) (c0 : (Option.isSome (more_k16 x0 x1 x2 x3 x4 x5 m)) = true) (c1 : ((more_k1 x0 x1 x2 x3 x4 x5 m).1 == 0) = true) (c2 : (decide (0 ≤ (more_k13 x1)) && decide ((more_k13 x1) ≤ (more_k23 x1))) = true) (c3 : (decide (0 ≤ (more_k14 x2)) && decide ((more_k14 x2) ≤ (more_k24 x2))) = true) (c5 : (((decide (-4611686018427387904 ≤ (withinI x4 (0) (50))) && decide (more_k25 x4)) && true) && decide (((60) - (withinI x4 (0) (50))) ≤ 2305843009213693951)) = true) (c7 : decide (((0 + (List.length (more_k2 x1))) * 40) ≤ 70368744177664) = true) (c10 : decide ((((0 + (List.length (more_k2 x1))) + 1) * 40) ≤ 70368744177664) = true) (c11 : decide ((0 + (List.length (more_k2 x1))) = (List.length (more_k2 x1))) = true) (c13 : heardPre (more_k4 x0 x1 x2 x3 x4 x5 m) (more_k2 x1) (more_k3 x2) = true) (c15 : decide ((0 + ((0 + (List.length (more_k2 x1))) + 1)) ≤ (more_k15 x1 x4 x5)) = true) (c16 : heardPre (more_k4 x0 x1 x2 x3 x4 x5 m) (more_k12 x1 x4 x5) (more_k3 x2) = true) (c18 : heardPre (more_k4 x0 x1 x2 x3 x4 x5 m) ([] : List ((List ((List UInt8) × (List UInt8) × Int)) × Int × Int)) ([] : List ((List ((List UInt8) × (List UInt8) × Int)) × (List ((List UInt8) × (List UInt8) × Int)) × (List (List UInt8)))) = true) (c19 : ¬ decide ((more_k5 x0 x1 x2 x3 x4 x5 m) > (more_k7 x0 x1 x2 x3 x4 x5 m)) = true) (c26 : heardPre (more_k4 x0 x1 x2 x3 x4 x5 m) (more_k2 x1) ([] : List ((List ((List UInt8) × (List UInt8) × Int)) × (List ((List UInt8) × (List UInt8) × Int)) × (List (List UInt8)))) = true) (c30 : ¬ decide ((more_k7 x0 x1 x2 x3 x4 x5 m) > (more_k10 x0 x1 x2 x3 x4 x5 m)) = true) (c36 : ¬ (more_k8 x0 x1 x2 x3 x4 x5 m) = true) (c37 : decide (more_k21 x3 x4) = true) (c41 : ¬ decide (more_k19 x3 x4 x5) = true) (c49 : decide (more_k18 x3 x4) = true) (c63 : ¬ ((more_k5 x0 x1 x2 x3 x4 x5 m) != (more_k7 x0 x1 x2 x3 x4 x5 m)) = true) (c64 : (Option.isSome (more_k9 x0 x1 x2 x3 x4 x5 m)) = true) : (evCall F S13 (m + 25) 5 [(.d (.sl (.pair (.sl (.int .i64)) (.sl (.int .i64))) x0)), (.d (.sl (.pair (.sl (.pair .str (.pair .str (.int .i64)))) (.pair (.int .i64) (.int .i64))) x1)), (.d (.sl (.pair (.sl (.pair .str (.pair .str (.int .i64)))) (.pair (.sl (.pair .str (.pair .str (.int .i64)))) (.sl .str))) x2)), (.d (.int .i64 x3)), (.d (.int .i64 x4)), (.d (.int .i64 x5))] []).run = some (.d (.bool true), []) := by
  refine runT_ok (LS := (fun k => if k = 24639 then some (more_k20 x0 x1 x2 x3 x4 x5 m) else if k = 65334214448820184984967924626899496673280 then some (more_k11 x0 x1 x2 x3 x4 x5 m) else none)) (fn := fn5) (r := .d (.bool true)) (B' := []) (vis := [(24639, l5_0H x0 x1 x2 x3 x4 x5 0 (([] : List (List ((List UInt8) × (List UInt8))))), l5_0B x0 x1 x2 x3 x4 x5 0 (([] : List (List ((List UInt8) × (List UInt8)))))), (65334214448820184984967924626899496673280, l5_1H ((more_k3 x2)) ((((more_k6 x0 x1 x2 x3 x4 x5 m) : Nat) : Int)) 0 ((more_k1 x0 x1 x2 x3 x4 x5 m).2.2), l5_1B ((more_k3 x2)) ((((more_k6 x0 x1 x2 x3 x4 x5 m) : Nat) : Int)) 0 ((more_k1 x0 x1 x2 x3 x4 x5 m).2.2))]) (by kernel_rfl) rfl (by kernel_rfl) (M.run_of_path _ [true, true, true, true, true, true, true, true, true, true, true, true, true, true, true, true, true, false, false, false, false, false, false, true, true, false, false, false, false, false, false, false, false, false, false, true, true, true, true, false, false, false, false, false, false, false, false, true, true, true, false, true, false, true, true, true, true, true, false, true, false, false] _ _ (by kernel_rfl) (all_t c2 (all_t c3 (all_t rfl (all_t c5 (all_t rfl (all_t c7 (all_t rfl (all_t rfl (all_t c10 (all_t c11 (all_t (show decide ((0 + (more_k6 x0 x1 x2 x3 x4 x5 m)) ≤ (more_k6 x0 x1 x2 x3 x4 x5 m)) = true from decide_eq_true (Nat.le_of_eq (Nat.zero_add _))) (all_t c13 (all_t (show decide ((0 + (more_k6 x0 x1 x2 x3 x4 x5 m)) ≤ (more_k6 x0 x1 x2 x3 x4 x5 m)) = true from decide_eq_true (Nat.le_of_eq (Nat.zero_add _))) (all_t c15 (all_t c16 (all_t (show decide ((0 + (more_k6 x0 x1 x2 x3 x4 x5 m)) ≤ (more_k6 x0 x1 x2 x3 x4 x5 m)) = true from decide_eq_true (Nat.le_of_eq (Nat.zero_add _))) (all_t c18 (all_f c19 (all_f c19 (all_f c19 (all_f c19 (all_f c19 (all_f c19 (all_t (show decide ((0 + (more_k6 x0 x1 x2 x3 x4 x5 m)) ≤ (more_k6 x0 x1 x2 x3 x4 x5 m)) = true from decide_eq_true (Nat.le_of_eq (Nat.zero_add _))) (all_t c26 (all_f c19 (all_f c19 (all_f c19 (all_f c30 (all_f c30 (all_f c30 (all_f c30 (all_f c30 (all_f c30 (all_f c36 (all_t c37 (all_t c37 (all_t c37 (all_t c37 (all_f c41 (all_f c41 (all_f c41 (all_f c41 (all_f Bool.false_ne_true (all_f Bool.false_ne_true (all_f Bool.false_ne_true (all_f Bool.false_ne_true (all_t c49 (all_t c49 (all_t c49 (all_f Bool.false_ne_true (all_t c49 (all_f Bool.false_ne_true (all_t rfl (all_t rfl (all_t rfl (all_t rfl (all_t rfl (all_f Bool.false_ne_true (all_t rfl (all_f Bool.false_ne_true (all_f c63 all_nil))))))))))))))))))))))))))))))))))))))))))))))))))))))))))))))) ?_
  intro p hp p2 hq
  rcases List.mem_cons.1 hp with rfl | hp
  · skip
    have h3 := l5_0_ok m (m + 24) x0 x1 x2 x3 x4 x5 0 (([] : List (List ((List UInt8) × (List UInt8))))) _ (some_getD (d := l5_0D) c0)
    rw [eq_of_beq c1] at h3
    exact Eq.trans (Eq.mp (by kernel_rfl) h3) hq
  rcases List.mem_cons.1 hp with rfl | hp
  · skip
    have h3 := l5_1_ok m (m + 24) ((more_k3 x2)) ((((more_k6 x0 x1 x2 x3 x4 x5 m) : Nat) : Int)) 0 ((more_k1 x0 x1 x2 x3 x4 x5 m).2.2) _ (some_getD (d := l5_1D) c64)
    exact Eq.trans (Eq.mp (by kernel_rfl) h3) hq
  cases hp

set_option maxHeartbeats 20000000 in
theorem more_w4 (m : Nat) (x0 : List ((List Int) × (List Int))) (x1 : List ((List ((List UInt8) × (List UInt8) × Int)) × Int × Int)) (x2 : List ((List ((List UInt8) × (List UInt8) × Int)) × (List ((List UInt8) × (List UInt8) × Int)) × (List (List UInt8)))) (x3 : Int) (x4 : Int) (x5 : Int) (c0 : (Option.isSome (more_k16 x0 x1 x2 x3 x4 x5 m)) = true) (c1 : ((more_k1 x0 x1 x2 x3 x4 x5 m).1 == 0) = true) (c2 : (decide (0 ≤ (more_k13 x1)) && decide ((more_k13 x1) ≤ (more_k23 x1))) = true) (c3 : (decide (0 ≤ (more_k14 x2)) && decide ((more_k14 x2) ≤ (more_k24 x2))) = true) (c5 : (((decide (-4611686018427387904 ≤ (withinI x4 (0) (50))) && decide (more_k25 x4)) && true) && decide (((60) - (withinI x4 (0) (50))) ≤ 2305843009213693951)) = true) (c7 : decide (((0 + (List.length (more_k2 x1))) * 40) ≤ 70368744177664) = true) (c10 : decide ((((0 + (List.length (more_k2 x1))) + 1) * 40) ≤ 70368744177664) = true) (c11 : decide ((0 + (List.length (more_k2 x1))) = (List.length (more_k2 x1))) = true) (c13 : heardPre (more_k4 x0 x1 x2 x3 x4 x5 m) (more_k2 x1) (more_k3 x2) = true) (c15 : decide ((0 + ((0 + (List.length (more_k2 x1))) + 1)) ≤ (more_k15 x1 x4 x5)) = true) (c16 : heardPre (more_k4 x0 x1 x2 x3 x4 x5 m) (more_k12 x1 x4 x5) (more_k3 x2) = true) (c18 : heardPre (more_k4 x0 x1 x2 x3 x4 x5 m) ([] : List ((List ((List UInt8) × (List UInt8) × Int)) × Int × Int)) ([] : List ((List ((List UInt8) × (List UInt8) × Int)) × (List ((List UInt8) × (List UInt8) × Int)) × (List (List UInt8)))) = true) (c19 : ¬ decide ((more_k5 x0 x1 x2 x3 x4 x5 m) > (more_k7 x0 x1 x2 x3 x4 x5 m)) = true) (c26 : heardPre (more_k4 x0 x1 x2 x3 x4 x5 m) (more_k2 x1) ([] : List ((List ((List UInt8) × (List UInt8) × Int)) × (List ((List UInt8) × (List UInt8) × Int)) × (List (List UInt8)))) = true) (c30 : ¬ decide ((more_k7 x0 x1 x2 x3 x4 x5 m) > (more_k10 x0 x1 x2 x3 x4 x5 m)) = true) (c36 : ¬ (more_k8 x0 x1 x2 x3 x4 x5 m) = true) (c37 : decide (more_k21 x3 x4) = true) (c41 : ¬ decide (more_k19 x3 x4 x5) = true) (c49 : ¬ decide (more_k18 x3 x4) = true) (c55 : decide (more_k17 x3 x4 x5) = true) (c63 : ¬ ((more_k5 x0 x1 x2 x3 x4 x5 m) != (more_k7 x0 x1 x2 x3 x4 x5 m)) = true) (c64 : (Option.isSome (more_k9 x0 x1 x2 x3 x4 x5 m)) = true) : (evCall F S13 (m + 25) 5 [(.d (.sl (.pair (.sl (.int .i64)) (.sl (.int .i64))) x0)), (.d (.sl (.pair (.sl (.pair .str (.pair .str (.int .i64)))) (.pair (.int .i64) (.int .i64))) x1)), (.d (.sl (.pair (.sl (.pair .str (.pair .str (.int .i64)))) (.pair (.sl (.pair .str (.pair .str (.int .i64)))) (.sl .str))) x2)), (.d (.int .i64 x3)), (.d (.int .i64 x4)), (.d (.int .i64 x5))] []).run = some (.d (.bool true), []) := by
  refine runT_ok (LS := (fun k => if k = 24639 then some (more_k20 x0 x1 x2 x3 x4 x5 m) else if k = 65334214448820184984967924626899496673280 then some (more_k11 x0 x1 x2 x3 x4 x5 m) else none)) (fn := fn5) (r := .d (.bool true)) (B' := []) (vis := [(24639, l5_0H x0 x1 x2 x3 x4 x5 0 (([] : List (List ((List UInt8) × (List UInt8))))), l5_0B x0 x1 x2 x3 x4 x5 0 (([] : List (List ((List UInt8) × (List UInt8)))))), (65334214448820184984967924626899496673280, l5_1H ((more_k3 x2)) ((((more_k6 x0 x1 x2 x3 x4 x5 m) : Nat) : Int)) 0 ((more_k1 x0 x1 x2 x3 x4 x5 m).2.2), l5_1B ((more_k3 x2)) ((((more_k6 x0 x1 x2 x3 x4 x5 m) : Nat) : Int)) 0 ((more_k1 x0 x1 x2 x3 x4 x5 m).2.2))]) (by kernel_rfl) rfl (by kernel_rfl) (M.run_of_path _ [true, true, true, true, true, true, true, true, true, true, true, true, true, true, true, true, true, false, false, false, false, false, false, true, true, false, false, false, false, false, false, false, false, false, false, true, true, true, true, false, false, false, false, false, false, false, false, false, false, false, false, false, false, true, true, true, true, true, false, true, false, false] _ _ (by kernel_rfl) (all_t c2 (all_t c3 (all_t rfl (all_t c5 (all_t rfl (all_t c7 (all_t rfl (all_t rfl (all_t c10 (all_t c11 (all_t (show decide ((0 + (more_k6 x0 x1 x2 x3 x4 x5 m)) ≤ (more_k6 x0 x1 x2 x3 x4 x5 m)) = true from decide_eq_true (Nat.le_of_eq (Nat.zero_add _))) (all_t c13 (all_t (show decide ((0 + (more_k6 x0 x1 x2 x3 x4 x5 m)) ≤ (more_k6 x0 x1 x2 x3 x4 x5 m)) = true from decide_eq_true (Nat.le_of_eq (Nat.zero_add _))) (all_t c15 (all_t c16 (all_t (show decide ((0 + (more_k6 x0 x1 x2 x3 x4 x5 m)) ≤ (more_k6 x0 x1 x2 x3 x4 x5 m)) = true from decide_eq_true (Nat.le_of_eq (Nat.zero_add _))) (all_t c18 (all_f c19 (all_f c19 (all_f c19 (all_f c19 (all_f c19 (all_f c19 (all_t (show decide ((0 + (more_k6 x0 x1 x2 x3 x4 x5 m)) ≤ (more_k6 x0 x1 x2 x3 x4 x5 m)) = true from decide_eq_true (Nat.le_of_eq (Nat.zero_add _))) (all_t c26 (all_f c19 (all_f c19 (all_f c19 (all_f c30 (all_f c30 (all_f c30 (all_f c30 (all_f c30 (all_f c30 (all_f c36 (all_t c37 (all_t c37 (all_t c37 (all_t c37 (all_f c41 (all_f c41 (all_f c41 (all_f c41 (all_f Bool.false_ne_true (all_f Bool.false_ne_true (all_f Bool.false_ne_true (all_f Bool.false_ne_true (all_f c49 (all_f c49 (all_f c49 (all_f Bool.false_ne_true (all_f c49 (all_f Bool.false_ne_true (all_t c55 (all_t c55 (all_t c55 (all_t c55 (all_t c55 (all_f Bool.false_ne_true (all_t c55 (all_f Bool.false_ne_true (all_f c63 all_nil))))))))))))))))))))))))))))))))))))))))))))))))))))))))))))))) ?_
  intro p hp p2 hq
  rcases List.mem_cons.1 hp with rfl | hp
  · skip
    have h3 := l5_0_ok m (m + 24) x0 x1 x2 x3 x4 x5 0 (([] : List (List ((List UInt8) × (List UInt8))))) _ (some_getD (d := l5_0D) c0)
    rw [eq_of_beq c1] at h3
    exact Eq.trans (Eq.mp (by kernel_rfl) h3) hq
  rcases List.mem_cons.1 hp with rfl | hp
  · skip
    have h3 := l5_1_ok m (m + 24) ((more_k3 x2)) ((((more_k6 x0 x1 x2 x3 x4 x5 m) : Nat) : Int)) 0 ((more_k1 x0 x1 x2 x3 x4 x5 m).2.2) _ (some_getD (d := l5_1D) c64)
    exact Eq.trans (Eq.mp (by kernel_rfl) h3) hq
  cases hp

set_option maxHeartbeats 20000000 in
theorem more_w5 (m : Nat) (x0 : List ((List Int) × (List Int))) (x1 : List ((List ((List UInt8) × (List UInt8) × Int)) × Int × Int)) (x2 : List ((List ((List UInt8) × (List UInt8) × Int)) × (List ((List UInt8) × (List UInt8) × Int)) × (List (List UInt8)))) (x3 : Int) (x4 : Int) (x5 : Int) (c0 : (Option.isSome (more_k16 x0 x1 x2 x3 x4 x5 m)) = true) (c1 : ((more_k1 x0 x1 x2 x3 x4 x5 m).1 == 0) = true) (c2 : (decide (0 ≤ (more_k13 x1)) && decide ((more_k13 x1) ≤ (more_k23 x1))) = true) (c3 : (decide (0 ≤ (more_k14 x2)) && decide ((more_k14 x2) ≤ (more_k24 x2))) = true) (c5 : (((decide (-4611686018427387904 ≤ (withinI x4 (0) (50))) && decide (more_k25 x4)) && true) && decide (((60) - (withinI x4 (0) (50))) ≤ 2305843009213693951)) = true) (c7 : decide (((0 + (List.length (more_k2 x1))) * 40) ≤ 70368744177664) = true) (c10 : decide ((((0 + (List.length (more_k2 x1))) + 1) * 40) ≤ 70368744177664) = true) (c11 : decide ((0 + (List.length (more_k2 x1))) = (List.length (more_k2 x1))) = true) (c13 : heardPre (more_k4 x0 x1 x2 x3 x4 x5 m) (more_k2 x1) (more_k3 x2) = true) (c15 : decide ((0 + ((0 + (List.length (more_k2 x1))) + 1)) ≤ (more_k15 x1 x4 x5)) = true) (c16 : heardPre (more_k4 x0 x1 x2 x3 x4 x5 m) (more_k12 x1 x4 x5) (more_k3 x2) = true) (c18 : heardPre (more_k4 x0 x1 x2 x3 x4 x5 m) ([] : List ((List ((List UInt8) × (List UInt8) × Int)) × Int × Int)) ([] : List ((List ((List UInt8) × (List UInt8) × Int)) × (List ((List UInt8) × (List UInt8) × Int)) × (List (List UInt8)))) = true) (c19 : ¬ decide ((more_k5 x0 x1 x2 x3 x4 x5 m) > (more_k7 x0 x1 x2 x3 x4 x5 m)) = true) (c26 : heardPre (more_k4 x0 x1 x2 x3 x4 x5 m) (more_k2 x1) ([] : List ((List ((List UInt8) × (List UInt8) × Int)) × (List ((List UInt8) × (List UInt8) × Int)) × (List (List UInt8)))) = true) (c30 : ¬ decide ((more_k7 x0 x1 x2 x3 x4 x5 m) > (more_k10 x0 x1 x2 x3 x4 x5 m)) = true) (c36 : ¬ (more_k8 x0 x1 x2 x3 x4 x5 m) = true) (c37 : decide (more_k21 x3 x4) = true) (c41 : ¬ decide (more_k19 x3 x4 x5) = true) (c49 : ¬ decide (more_k18 x3 x4) = true) (c55 : ¬ decide (more_k17 x3 x4 x5) = true) (c64 : (Option.isSome (more_k9 x0 x1 x2 x3 x4 x5 m)) = true) : (evCall F S13 (m + 25) 5 [(.d (.sl (.pair (.sl (.int .i64)) (.sl (.int .i64))) x0)), (.d (.sl (.pair (.sl (.pair .str (.pair .str (.int .i64)))) (.pair (.int .i64) (.int .i64))) x1)), (.d (.sl (.pair (.sl (.pair .str (.pair .str (.int .i64)))) (.pair (.sl (.pair .str (.pair .str (.int .i64)))) (.sl .str))) x2)), (.d (.int .i64 x3)), (.d (.int .i64 x4)), (.d (.int .i64 x5))] []).run = some (.d (.bool true), []) := by
  refine runT_ok (LS := (fun k => if k = 24639 then some (more_k20 x0 x1 x2 x3 x4 x5 m) else if k = 65334214448820184984967924626899496673280 then some (more_k11 x0 x1 x2 x3 x4 x5 m) else none)) (fn := fn5) (r := .d (.bool true)) (B' := []) (vis := [(24639, l5_0H x0 x1 x2 x3 x4 x5 0 (([] : List (List ((List UInt8) × (List UInt8))))), l5_0B x0 x1 x2 x3 x4 x5 0 (([] : List (List ((List UInt8) × (List UInt8)))))), (65334214448820184984967924626899496673280, l5_1H ((more_k3 x2)) ((((more_k6 x0 x1 x2 x3 x4 x5 m) : Nat) : Int)) 0 ((more_k1 x0 x1 x2 x3 x4 x5 m).2.2), l5_1B ((more_k3 x2)) ((((more_k6 x0 x1 x2 x3 x4 x5 m) : Nat) : Int)) 0 ((more_k1 x0 x1 x2 x3 x4 x5 m).2.2))]) (by kernel_rfl) rfl (by kernel_rfl) (M.run_of_path _ [true, true, true, true, true, true, true, true, true, true, true, true, true, true, true, true, true, false, false, false, false, false, false, true, true, false, false, false, false, false, false, false, false, false, false, true, true, true, true, false, false, false, false, false, false, false, false, false, false, false, false, false, false, false, false, false, false, false, false, false, false, false] _ _ (by kernel_rfl) (all_t c2 (all_t c3 (all_t rfl (all_t c5 (all_t rfl (all_t c7 (all_t rfl (all_t rfl (all_t c10 (all_t c11 (all_t (show decide ((0 + (more_k6 x0 x1 x2 x3 x4 x5 m)) ≤ (more_k6 x0 x1 x2 x3 x4 x5 m)) = true from decide_eq_true (Nat.le_of_eq (Nat.zero_add _))) (all_t c13 (all_t (show decide ((0 + (more_k6 x0 x1 x2 x3 x4 x5 m)) ≤ (more_k6 x0 x1 x2 x3 x4 x5 m)) = true from decide_eq_true (Nat.le_of_eq (Nat.zero_add _))) (all_t c15 (all_t c16 (all_t (show decide ((0 + (more_k6 x0 x1 x2 x3 x4 x5 m)) ≤ (more_k6 x0 x1 x2 x3 x4 x5 m)) = true from decide_eq_true (Nat.le_of_eq (Nat.zero_add _))) (all_t c18 (all_f c19 (all_f c19 (all_f c19 (all_f c19 (all_f c19 (all_f c19 (all_t (show decide ((0 + (more_k6 x0 x1 x2 x3 x4 x5 m)) ≤ (more_k6 x0 x1 x2 x3 x4 x5 m)) = true from decide_eq_true (Nat.le_of_eq (Nat.zero_add _))) (all_t c26 (all_f c19 (all_f c19 (all_f c19 (all_f c30 (all_f c30 (all_f c30 (all_f c30 (all_f c30 (all_f c30 (all_f c36 (all_t c37 (all_t c37 (all_t c37 (all_t c37 (all_f c41 (all_f c41 (all_f c41 (all_f c41 (all_f Bool.false_ne_true (all_f Bool.false_ne_true (all_f Bool.false_ne_true (all_f Bool.false_ne_true (all_f c49 (all_f c49 (all_f c49 (all_f Bool.false_ne_true (all_f c49 (all_f Bool.false_ne_true (all_f c55 (all_f c55 (all_f c55 (all_f c55 (all_f c55 (all_f Bool.false_ne_true (all_f c55 (all_f Bool.false_ne_true (all_f Bool.false_ne_true all_nil))))))))))))))))))))))))))))))))))))))))))))))))))))))))))))))) ?_
  intro p hp p2 hq
  rcases List.mem_cons.1 hp with rfl | hp
  · skip
    have h3 := l5_0_ok m (m + 24) x0 x1 x2 x3 x4 x5 0 (([] : List (List ((List UInt8) × (List UInt8))))) _ (some_getD (d := l5_0D) c0)
    rw [eq_of_beq c1] at h3
    exact Eq.trans (Eq.mp (by kernel_rfl) h3) hq
  rcases List.mem_cons.1 hp with rfl | hp
  · skip
    have h3 := l5_1_ok m (m + 24) ((more_k3 x2)) ((((more_k6 x0 x1 x2 x3 x4 x5 m) : Nat) : Int)) 0 ((more_k1 x0 x1 x2 x3 x4 x5 m).2.2) _ (some_getD (d := l5_1D) c64)
    exact Eq.trans (Eq.mp (by kernel_rfl) h3) hq
  cases hp

set_option maxHeartbeats 20000000 in
theorem more_w6 (m : Nat) (x0 : List ((List Int) × (List Int))) (x1 : List ((List ((List UInt8) × (List UInt8) × Int)) × Int × Int)) (x2 : List ((List ((List UInt8) × (List UInt8) × Int)) × (List ((List UInt8) × (List UInt8) × Int)) × (List (List UInt8)))) (x3 : Int) (x4 : Int) (x5 : Int) (c0 : (Option.isSome (more_k16 x0 x1 x2 x3 x4 x5 m)) = true) (c1 : ((more_k1 x0 x1 x2 x3 x4 x5 m).1 == 0) = true) (c2 : (decide (0 ≤ (more_k13 x1)) && decide ((more_k13 x1) ≤ (more_k23 x1))) = true) (c3 : (decide (0 ≤ (more_k14 x2)) && decide ((more_k14 x2) ≤ (more_k24 x2))) = true) (c5 : (((decide (-4611686018427387904 ≤ (withinI x4 (0) (50))) && decide (more_k25 x4)) && true) && decide (((60) - (withinI x4 (0) (50))) ≤ 2305843009213693951)) = true) (c7 : decide (((0 + (List.length (more_k2 x1))) * 40) ≤ 70368744177664) = true) (c10 : decide ((((0 + (List.length (more_k2 x1))) + 1) * 40) ≤ 70368744177664) = true) (c11 : decide ((0 + (List.length (more_k2 x1))) = (List.length (more_k2 x1))) = true) (c13 : heardPre (more_k4 x0 x1 x2 x3 x4 x5 m) (more_k2 x1) (more_k3 x2) = true) (c15 : decide ((0 + ((0 + (List.length (more_k2 x1))) + 1)) ≤ (more_k15 x1 x4 x5)) = true) (c16 : heardPre (more_k4 x0 x1 x2 x3 x4 x5 m) (more_k12 x1 x4 x5) (more_k3 x2) = true) (c18 : heardPre (more_k4 x0 x1 x2 x3 x4 x5 m) ([] : List ((List ((List UInt8) × (List UInt8) × Int)) × Int × Int)) ([] : List ((List ((List UInt8) × (List UInt8) × Int)) × (List ((List UInt8) × (List UInt8) × Int)) × (List (List UInt8)))) = true) (c19 : ¬ decide ((more_k5 x0 x1 x2 x3 x4 x5 m) > (more_k7 x0 x1 x2 x3 x4 x5 m)) = true) (c26 : heardPre (more_k4 x0 x1 x2 x3 x4 x5 m) (more_k2 x1) ([] : List ((List ((List UInt8) × (List UInt8) × Int)) × (List ((List UInt8) × (List UInt8) × Int)) × (List (List UInt8)))) = true) (c30 : ¬ decide ((more_k7 x0 x1 x2 x3 x4 x5 m) > (more_k10 x0 x1 x2 x3 x4 x5 m)) = true) (c36 : ¬ (more_k8 x0 x1 x2 x3 x4 x5 m) = true) (c37 : ¬ decide (more_k21 x3 x4) = true) (c49 : decide (more_k18 x3 x4) = true) (c63 : ¬ ((more_k5 x0 x1 x2 x3 x4 x5 m) != (more_k7 x0 x1 x2 x3 x4 x5 m)) = true) (c64 : (Option.isSome (more_k9 x0 x1 x2 x3 x4 x5 m)) = true) : (evCall F S13 (m + 25) 5 [(.d (.sl (.pair (.sl (.int .i64)) (.sl (.int .i64))) x0)), (.d (.sl (.pair (.sl (.pair .str (.pair .str (.int .i64)))) (.pair (.int .i64) (.int .i64))) x1)), (.d (.sl (.pair (.sl (.pair .str (.pair .str (.int .i64)))) (.pair (.sl (.pair .str (.pair .str (.int .i64)))) (.sl .str))) x2)), (.d (.int .i64 x3)), (.d (.int .i64 x4)), (.d (.int .i64 x5))] []).run = some (.d (.bool true), []) := by
  refine runT_ok (LS := (fun k => if k = 24639 then some (more_k20 x0 x1 x2 x3 x4 x5 m) else if k = 65334214448820184984967924626899496673280 then some (more_k11 x0 x1 x2 x3 x4 x5 m) else none)) (fn := fn5) (r := .d (.bool true)) (B' := []) (vis := [(24639, l5_0H x0 x1 x2 x3 x4 x5 0 (([] : List (List ((List UInt8) × (List UInt8))))), l5_0B x0 x1 x2 x3 x4 x5 0 (([] : List (List ((List UInt8) × (List UInt8)))))), (65334214448820184984967924626899496673280, l5_1H ((more_k3 x2)) ((((more_k6 x0 x1 x2 x3 x4 x5 m) : Nat) : Int)) 0 ((more_k1 x0 x1 x2 x3 x4 x5 m).2.2), l5_1B ((more_k3 x2)) ((((more_k6 x0 x1 x2 x3 x4 x5 m) : Nat) : Int)) 0 ((more_k1 x0 x1 x2 x3 x4 x5 m).2.2))]) (by kernel_rfl) rfl (by kernel_rfl) (M.run_of_path _ [true, true, true, true, true, true, true, true, true, true, true, true, true, true, true, true, true, false, false, false, false, false, false, true, true, false, false, false, false, false, false, false, false, false, false, false, false, false, false, false, false, false, false, false, false, false, false, true, true, true, false, true, false, true, true, true, true, true, false, true, false, false] _ _ (by kernel_rfl) (all_t c2 (all_t c3 (all_t rfl (all_t c5 (all_t rfl (all_t c7 (all_t rfl (all_t rfl (all_t c10 (all_t c11 (all_t (show decide ((0 + (more_k6 x0 x1 x2 x3 x4 x5 m)) ≤ (more_k6 x0 x1 x2 x3 x4 x5 m)) = true from decide_eq_true (Nat.le_of_eq (Nat.zero_add _))) (all_t c13 (all_t (show decide ((0 + (more_k6 x0 x1 x2 x3 x4 x5 m)) ≤ (more_k6 x0 x1 x2 x3 x4 x5 m)) = true from decide_eq_true (Nat.le_of_eq (Nat.zero_add _))) (all_t c15 (all_t c16 (all_t (show decide ((0 + (more_k6 x0 x1 x2 x3 x4 x5 m)) ≤ (more_k6 x0 x1 x2 x3 x4 x5 m)) = true from decide_eq_true (Nat.le_of_eq (Nat.zero_add _))) (all_t c18 (all_f c19 (all_f c19 (all_f c19 (all_f c19 (all_f c19 (all_f c19 (all_t (show decide ((0 + (more_k6 x0 x1 x2 x3 x4 x5 m)) ≤ (more_k6 x0 x1 x2 x3 x4 x5 m)) = true from decide_eq_true (Nat.le_of_eq (Nat.zero_add _))) (all_t c26 (all_f c19 (all_f c19 (all_f c19 (all_f c30 (all_f c30 (all_f c30 (all_f c30 (all_f c30 (all_f c30 (all_f c36 (all_f c37 (all_f c37 (all_f c37 (all_f c37 (all_f Bool.false_ne_true (all_f Bool.false_ne_true (all_f Bool.false_ne_true (all_f Bool.false_ne_true (all_f Bool.false_ne_true (all_f Bool.false_ne_true (all_f Bool.false_ne_true (all_f Bool.false_ne_true (all_t c49 (all_t c49 (all_t c49 (all_f Bool.false_ne_true (all_t c49 (all_f Bool.false_ne_true (all_t rfl (all_t rfl (all_t rfl (all_t rfl (all_t rfl (all_f Bool.false_ne_true (all_t rfl (all_f Bool.false_ne_true (all_f c63 all_nil))))))))))))))))))))))))))))))))))))))))))))))))))))))))))))))) ?_
  intro p hp p2 hq
  rcases List.mem_cons.1 hp with rfl | hp
  · skip
    have h3 := l5_0_ok m (m + 24) x0 x1 x2 x3 x4 x5 0 (([] : List (List ((List UInt8) × (List UInt8))))) _ (some_getD (d := l5_0D) c0)
    rw [eq_of_beq c1] at h3
    exact Eq.trans (Eq.mp (by kernel_rfl) h3) hq
  rcases List.mem_cons.1 hp with rfl | hp
  · skip
    have h3 := l5_1_ok m (m + 24) ((more_k3 x2)) ((((more_k6 x0 x1 x2 x3 x4 x5 m) : Nat) : Int)) 0 ((more_k1 x0 x1 x2 x3 x4 x5 m).2.2) _ (some_getD (d := l5_1D) c64)
    exact Eq.trans (Eq.mp (by kernel_rfl) h3) hq
  cases hp

set_option maxHeartbeats 20000000 in
theorem more_w7 (m : Nat) (x0 : List ((List Int) × (List Int))) (x1 : List ((List ((List UInt8) × (List UInt8) × Int)) × Int × Int)) (x2 : List ((List ((List UInt8) × (List UInt8) × Int)) × (List ((List UInt8) × (List UInt8) × Int)) × (List (List UInt8)))) (x3 : Int) (x4 : Int) (x5 : Int) (c0 : (Option.isSome (more_k16 x0 x1 x2 x3 x4 x5 m)) = true) (c1 : ((more_k1 x0 x1 x2 x3 x4 x5 m).1 == 0) = true) (c2 : (decide (0 ≤ (more_k13 x1)) && decide ((more_k13 x1) ≤ (more_k23 x1))) = true) (c3 : (decide (0 ≤ (more_k14 x2)) && decide ((more_k14 x2) ≤ (more_k24 x2))) = true) (c5 : (((decide (-4611686018427387904 ≤ (withinI x4 (0) (50))) && decide (more_k25 x4)) && true) && decide (((60) - (withinI x4 (0) (50))) ≤ 2305843009213693951)) = true) (c7 : decide (((0 + (List.length (more_k2 x1))) * 40) ≤ 70368744177664) = true) (c10 : decide ((((0 + (List.length (more_k2 x1))) + 1) * 40) ≤ 70368744177664) = true) (c11 : decide ((0 + (List.length (more_k2 x1))) = (List.length (more_k2 x1))) = true) (c13 : heardPre (more_k4 x0 x1 x2 x3 x4 x5 m) (more_k2 x1) (more_k3 x2) = true) (c15 : decide ((0 + ((0 + (List.length (more_k2 x1))) + 1)) ≤ (more_k15 x1 x4 x5)) = true) (c16 : heardPre (more_k4 x0 x1 x2 x3 x4 x5 m) (more_k12 x1 x4 x5) (more_k3 x2) = true) (c18 : heardPre (more_k4 x0 x1 x2 x3 x4 x5 m) ([] : List ((List ((List UInt8) × (List UInt8) × Int)) × Int × Int)) ([] : List ((List ((List UInt8) × (List UInt8) × Int)) × (List ((List UInt8) × (List UInt8) × Int)) × (List (List UInt8)))) = true) (c19 : ¬ decide ((more_k5 x0 x1 x2 x3 x4 x5 m) > (more_k7 x0 x1 x2 x3 x4 x5 m)) = true) (c26 : heardPre (more_k4 x0 x1 x2 x3 x4 x5 m) (more_k2 x1) ([] : List ((List ((List UInt8) × (List UInt8) × Int)) × (List ((List UInt8) × (List UInt8) × Int)) × (List (List UInt8)))) = true) (c30 : ¬ decide ((more_k7 x0 x1 x2 x3 x4 x5 m) > (more_k10 x0 x1 x2 x3 x4 x5 m)) = true) (c36 : ¬ (more_k8 x0 x1 x2 x3 x4 x5 m) = true) (c37 : ¬ decide (more_k21 x3 x4) = true) (c49 : ¬ decide (more_k18 x3 x4) = true) (c55 : decide (more_k17 x3 x4 x5) = true) (c63 : ¬ ((more_k5 x0 x1 x2 x3 x4 x5 m) != (more_k7 x0 x1 x2 x3 x4 x5 m)) = true) (c64 : (Option.isSome (more_k9 x0 x1 x2 x3 x4 x5 m)) = true) : (evCall F S13 (m + 25) 5 [(.d (.sl (.pair (.sl (.int .i64)) (.sl (.int .i64))) x0)), (.d (.sl (.pair (.sl (.pair .str (.pair .str (.int .i64)))) (.pair (.int .i64) (.int .i64))) x1)), (.d (.sl (.pair (.sl (.pair .str (.pair .str (.int .i64)))) (.pair (.sl (.pair .str (.pair .str (.int .i64)))) (.sl .str))) x2)), (.d (.int .i64 x3)), (.d (.int .i64 x4)), (.d (.int .i64 x5))] []).run = some (.d (.bool true), []) := by
  refine runT_ok (LS := (fun k => if k = 24639 then some (more_k20 x0 x1 x2 x3 x4 x5 m) else if k = 65334214448820184984967924626899496673280 then some (more_k11 x0 x1 x2 x3 x4 x5 m) else none)) (fn := fn5) (r := .d (.bool true)) (B' := []) (vis := [(24639, l5_0H x0 x1 x2 x3 x4 x5 0 (([] : List (List ((List UInt8) × (List UInt8))))), l5_0B x0 x1 x2 x3 x4 x5 0 (([] : List (List ((List UInt8) × (List UInt8)))))), (65334214448820184984967924626899496673280, l5_1H ((more_k3 x2)) ((((more_k6 x0 x1 x2 x3 x4 x5 m) : Nat) : Int)) 0 ((more_k1 x0 x1 x2 x3 x4 x5 m).2.2), l5_1B ((more_k3 x2)) ((((more_k6 x0 x1 x2 x3 x4 x5 m) : Nat) : Int)) 0 ((more_k1 x0 x1 x2 x3 x4 x5 m).2.2))]) (by kernel_rfl) rfl (by kernel_rfl) (M.run_of_path _ [true, true, true, true, true, true, true, true, true, true, true, true, true, true, true, true, true, false, false, false, false, false, false, true, true, false, false, false, false, false, false, false, false, false, false, false, false, false, false, false, false, false, false, false, false, false, false, false, false, false, false, false, false, true, true, true, true, true, false, true, false, false] _ _ (by kernel_rfl) (all_t c2 (all_t c3 (all_t rfl (all_t c5 (all_t rfl (all_t c7 (all_t rfl (all_t rfl (all_t c10 (all_t c11 (all_t (show decide ((0 + (more_k6 x0 x1 x2 x3 x4 x5 m)) ≤ (more_k6 x0 x1 x2 x3 x4 x5 m)) = true from decide_eq_true (Nat.le_of_eq (Nat.zero_add _))) (all_t c13 (all_t (show decide ((0 + (more_k6 x0 x1 x2 x3 x4 x5 m)) ≤ (more_k6 x0 x1 x2 x3 x4 x5 m)) = true from decide_eq_true (Nat.le_of_eq (Nat.zero_add _))) (all_t c15 (all_t c16 (all_t (show decide ((0 + (more_k6 x0 x1 x2 x3 x4 x5 m)) ≤ (more_k6 x0 x1 x2 x3 x4 x5 m)) = true from decide_eq_true (Nat.le_of_eq (Nat.zero_add _))) (all_t c18 (all_f c19 (all_f c19 (all_f c19 (all_f c19 (all_f c19 (all_f c19 (all_t (show decide ((0 + (more_k6 x0 x1 x2 x3 x4 x5 m)) ≤ (more_k6 x0 x1 x2 x3 x4 x5 m)) = true from decide_eq_true (Nat.le_of_eq (Nat.zero_add _))) (all_t c26 (all_f c19 (all_f c19 (all_f c19 (all_f c30 (all_f c30 (all_f c30 (all_f c30 (all_f c30 (all_f c30 (all_f c36 (all_f c37 (all_f c37 (all_f c37 (all_f c37 (all_f Bool.false_ne_true (all_f Bool.false_ne_true (all_f Bool.false_ne_true (all_f Bool.false_ne_true (all_f Bool.false_ne_true (all_f Bool.false_ne_true (all_f Bool.false_ne_true (all_f Bool.false_ne_true (all_f c49 (all_f c49 (all_f c49 (all_f Bool.false_ne_true (all_f c49 (all_f Bool.false_ne_true (all_t c55 (all_t c55 (all_t c55 (all_t c55 (all_t c55 (all_f Bool.false_ne_true (all_t c55 (all_f Bool.false_ne_true (all_f c63 all_nil))))))))))))))))))))))))))))))))))))))))))))))))))))))))))))))) ?_
  intro p hp p2 hq
  rcases List.mem_cons.1 hp with rfl | hp
  · skip
    have h3 := l5_0_ok m (m + 24) x0 x1 x2 x3 x4 x5 0 (([] : List (List ((List UInt8) × (List UInt8))))) _ (some_getD (d := l5_0D) c0)
    rw [eq_of_beq c1] at h3
    exact Eq.trans (Eq.mp (by kernel_rfl) h3) hq
  rcases List.mem_cons.1 hp with rfl | hp
  · skip
    have h3 := l5_1_ok m (m + 24) ((more_k3 x2)) ((((more_k6 x0 x1 x2 x3 x4 x5 m) : Nat) : Int)) 0 ((more_k1 x0 x1 x2 x3 x4 x5 m).2.2) _ (some_getD (d := l5_1D) c64)
    exact Eq.trans (Eq.mp (by kernel_rfl) h3) hq
  cases hp

set_option maxHeartbeats 20000000 in
theorem more_w8 (m : Nat) (x0 : List ((List Int) × (List Int))) (x1 : List ((List ((List UInt8) × (List UInt8) × Int)) × Int × Int)) (x2 : List ((List ((List UInt8) × (List UInt8) × Int)) × (List ((List UInt8) × (List UInt8) × Int)) × (List (List UInt8)))) (x3 : Int) (x4 : Int) (x5 : Int) (c0 : (Option.isSome (more_k16 x0 x1 x2 x3 x4 x5 m)) = true) (c1 : ((more_k1 x0 x1 x2 x3 x4 x5 m).1 == 0) = true) (c2 : (decide (0 ≤ (more_k13 x1)) && decide ((more_k13 x1) ≤ (more_k23 x1))) = true) (c3 : (decide (0 ≤ (more_k14 x2)) && decide ((more_k14 x2) ≤ (more_k24 x2))) = true) (c5 : (((decide (-4611686018427387904 ≤ (withinI x4 (0) (50))) && decide (more_k25 x4)) && true) && decide (((60) - (withinI x4 (0) (50))) ≤ 2305843009213693951)) = true) (c7 : decide (((0 + (List.length (more_k2 x1))) * 40) ≤ 70368744177664) = true) (c10 : decide ((((0 + (List.length (more_k2 x1))) + 1) * 40) ≤ 70368744177664) = true) (c11 : decide ((0 + (List.length (more_k2 x1))) = (List.length (more_k2 x1))) = true) (c13 : heardPre (more_k4 x0 x1 x2 x3 x4 x5 m) (more_k2 x1) (more_k3 x2) = true) (c15 : decide ((0 + ((0 + (List.length (more_k2 x1))) + 1)) ≤ (more_k15 x1 x4 x5)) = true) (c16 : heardPre (more_k4 x0 x1 x2 x3 x4 x5 m) (more_k12 x1 x4 x5) (more_k3 x2) = true) (c18 : heardPre (more_k4 x0 x1 x2 x3 x4 x5 m) ([] : List ((List ((List UInt8) × (List UInt8) × Int)) × Int × Int)) ([] : List ((List ((List UInt8) × (List UInt8) × Int)) × (List ((List UInt8) × (List UInt8) × Int)) × (List (List UInt8)))) = true) (c19 : ¬ decide ((more_k5 x0 x1 x2 x3 x4 x5 m) > (more_k7 x0 x1 x2 x3 x4 x5 m)) = true) (c26 : heardPre (more_k4 x0 x1 x2 x3 x4 x5 m) (more_k2 x1) ([] : List ((List ((List UInt8) × (List UInt8) × Int)) × (List ((List UInt8) × (List UInt8) × Int)) × (List (List UInt8)))) = true) (c30 : ¬ decide ((more_k7 x0 x1 x2 x3 x4 x5 m) > (more_k10 x0 x1 x2 x3 x4 x5 m)) = true) (c36 : ¬ (more_k8 x0 x1 x2 x3 x4 x5 m) = true) (c37 : ¬ decide (more_k21 x3 x4) = true) (c49 : ¬ decide (more_k18 x3 x4) = true) (c55 : ¬ decide (more_k17 x3 x4 x5) = true) (c64 : (Option.isSome (more_k9 x0 x1 x2 x3 x4 x5 m)) = true) : (evCall F S13 (m + 25) 5 [(.d (.sl (.pair (.sl (.int .i64)) (.sl (.int .i64))) x0)), (.d (.sl (.pair (.sl (.pair .str (.pair .str (.int .i64)))) (.pair (.int .i64) (.int .i64))) x1)), (.d (.sl (.pair (.sl (.pair .str (.pair .str (.int .i64)))) (.pair (.sl (.pair .str (.pair .str (.int .i64)))) (.sl .str))) x2)), (.d (.int .i64 x3)), (.d (.int .i64 x4)), (.d (.int .i64 x5))] []).run = some (.d (.bool true), []) := by
  refine runT_ok (LS := (fun k => if k = 24639 then some (more_k20 x0 x1 x2 x3 x4 x5 m) else if k = 65334214448820184984967924626899496673280 then some (more_k11 x0 x1 x2 x3 x4 x5 m) else none)) (fn := fn5) (r := .d (.bool true)) (B' := []) (vis := [(24639, l5_0H x0 x1 x2 x3 x4 x5 0 (([] : List (List ((List UInt8) × (List UInt8))))), l5_0B x0 x1 x2 x3 x4 x5 0 (([] : List (List ((List UInt8) × (List UInt8)))))), (65334214448820184984967924626899496673280, l5_1H ((more_k3 x2)) ((((more_k6 x0 x1 x2 x3 x4 x5 m) : Nat) : Int)) 0 ((more_k1 x0 x1 x2 x3 x4 x5 m).2.2), l5_1B ((more_k3 x2)) ((((more_k6 x0 x1 x2 x3 x4 x5 m) : Nat) : Int)) 0 ((more_k1 x0 x1 x2 x3 x4 x5 m).2.2))]) (by kernel_rfl) rfl (by kernel_rfl) (M.run_of_path _ [true, true, true, true, true, true, true, true, true, true, true, true, true, true, true, true, true, false, false, false, false, false, false, true, true, false, false, false, false, false, false, false, false, false, false, false, false, false, false, false, false, false, false, false, false, false, false, false, false, false, false, false, false, false, false, false, false, false, false, false, false, false] _ _ (by kernel_rfl) (all_t c2 (all_t c3 (all_t rfl (all_t c5 (all_t rfl (all_t c7 (all_t rfl (all_t rfl (all_t c10 (all_t c11 (all_t (show decide ((0 + (more_k6 x0 x1 x2 x3 x4 x5 m)) ≤ (more_k6 x0 x1 x2 x3 x4 x5 m)) = true from decide_eq_true (Nat.le_of_eq (Nat.zero_add _))) (all_t c13 (all_t (show decide ((0 + (more_k6 x0 x1 x2 x3 x4 x5 m)) ≤ (more_k6 x0 x1 x2 x3 x4 x5 m)) = true from decide_eq_true (Nat.le_of_eq (Nat.zero_add _))) (all_t c15 (all_t c16 (all_t (show decide ((0 + (more_k6 x0 x1 x2 x3 x4 x5 m)) ≤ (more_k6 x0 x1 x2 x3 x4 x5 m)) = true from decide_eq_true (Nat.le_of_eq (Nat.zero_add _))) (all_t c18 (all_f c19 (all_f c19 (all_f c19 (all_f c19 (all_f c19 (all_f c19 (all_t (show decide ((0 + (more_k6 x0 x1 x2 x3 x4 x5 m)) ≤ (more_k6 x0 x1 x2 x3 x4 x5 m)) = true from decide_eq_true (Nat.le_of_eq (Nat.zero_add _))) (all_t c26 (all_f c19 (all_f c19 (all_f c19 (all_f c30 (all_f c30 (all_f c30 (all_f c30 (all_f c30 (all_f c30 (all_f c36 (all_f c37 (all_f c37 (all_f c37 (all_f c37 (all_f Bool.false_ne_true (all_f Bool.false_ne_true (all_f Bool.false_ne_true (all_f Bool.false_ne_true (all_f Bool.false_ne_true (all_f Bool.false_ne_true (all_f Bool.false_ne_true (all_f Bool.false_ne_true (all_f c49 (all_f c49 (all_f c49 (all_f Bool.false_ne_true (all_f c49 (all_f Bool.false_ne_true (all_f c55 (all_f c55 (all_f c55 (all_f c55 (all_f c55 (all_f Bool.false_ne_true (all_f c55 (all_f Bool.false_ne_true (all_f Bool.false_ne_true all_nil))))))))))))))))))))))))))))))))))))))))))))))))))))))))))))))) ?_
  intro p hp p2 hq
  rcases List.mem_cons.1 hp with rfl | hp
  · skip
    have h3 := l5_0_ok m (m + 24) x0 x1 x2 x3 x4 x5 0 (([] : List (List ((List UInt8) × (List UInt8))))) _ (some_getD (d := l5_0D) c0)
    rw [eq_of_beq c1] at h3
    exact Eq.trans (Eq.mp (by kernel_rfl) h3) hq
  rcases List.mem_cons.1 hp with rfl | hp
  · skip
    have h3 := l5_1_ok m (m + 24) ((more_k3 x2)) ((((more_k6 x0 x1 x2 x3 x4 x5 m) : Nat) : Int)) 0 ((more_k1 x0 x1 x2 x3 x4 x5 m).2.2) _ (some_getD (d := l5_1D) c64)
    exact Eq.trans (Eq.mp (by kernel_rfl) h3) hq
  cases hp

set_option maxHeartbeats 20000000 in
theorem more_w9 (m : Nat) (x0 : List ((List Int) × (List Int))) (x1 : List ((List ((List UInt8) × (List UInt8) × Int)) × Int × Int)) (x2 : List ((List ((List UInt8) × (List UInt8) × Int)) × (List ((List UInt8) × (List UInt8) × Int)) × (List (List UInt8)))) (x3 : Int) (x4 : Int) (x5 : Int) (c0 : (Option.isSome (more_k16 x0 x1 x2 x3 x4 x5 m)) = true) (c1 : ¬ ((more_k1 x0 x1 x2 x3 x4 x5 m).1 == 0) = true) (c2 : ((more_k1 x0 x1 x2 x3 x4 x5 m).1 == 1) = true) (c3 : (decide (0 ≤ (more_k13 x1)) && decide ((more_k13 x1) ≤ (more_k23 x1))) = true) (c4 : (decide (0 ≤ (more_k14 x2)) && decide ((more_k14 x2) ≤ (more_k24 x2))) = true) (c6 : (((decide (-4611686018427387904 ≤ (withinI x4 (0) (50))) && decide (more_k25 x4)) && true) && decide (((60) - (withinI x4 (0) (50))) ≤ 2305843009213693951)) = true) (c8 : decide (((0 + (List.length (more_k2 x1))) * 40) ≤ 70368744177664) = true) (c11 : decide ((((0 + (List.length (more_k2 x1))) + 1) * 40) ≤ 70368744177664) = true) (c12 : decide ((0 + (List.length (more_k2 x1))) = (List.length (more_k2 x1))) = true) (c14 : heardPre (more_k4 x0 x1 x2 x3 x4 x5 m) (more_k2 x1) (more_k3 x2) = true) (c16 : decide ((0 + ((0 + (List.length (more_k2 x1))) + 1)) ≤ (more_k15 x1 x4 x5)) = true) (c17 : heardPre (more_k4 x0 x1 x2 x3 x4 x5 m) (more_k12 x1 x4 x5) (more_k3 x2) = true) (c19 : heardPre (more_k4 x0 x1 x2 x3 x4 x5 m) ([] : List ((List ((List UInt8) × (List UInt8) × Int)) × Int × Int)) ([] : List ((List ((List UInt8) × (List UInt8) × Int)) × (List ((List UInt8) × (List UInt8) × Int)) × (List (List UInt8)))) = true) (c20 : ¬ decide ((more_k5 x0 x1 x2 x3 x4 x5 m) > (more_k7 x0 x1 x2 x3 x4 x5 m)) = true) (c27 : heardPre (more_k4 x0 x1 x2 x3 x4 x5 m) (more_k2 x1) ([] : List ((List ((List UInt8) × (List UInt8) × Int)) × (List ((List UInt8) × (List UInt8) × Int)) × (List (List UInt8)))) = true) (c31 : ¬ decide ((more_k7 x0 x1 x2 x3 x4 x5 m) > (more_k10 x0 x1 x2 x3 x4 x5 m)) = true) (c37 : ¬ (more_k8 x0 x1 x2 x3 x4 x5 m) = true) (c38 : decide (more_k21 x3 x4) = true) (c42 : decide (more_k19 x3 x4 x5) = true) (c46 : ¬ ((more_k5 x0 x1 x2 x3 x4 x5 m) != (0)) = true) (c50 : decide (more_k18 x3 x4) = true) (c64 : ¬ ((more_k5 x0 x1 x2 x3 x4 x5 m) != (more_k7 x0 x1 x2 x3 x4 x5 m)) = true) (c65 : (Option.isSome (more_k9 x0 x1 x2 x3 x4 x5 m)) = true) : (evCall F S13 (m + 25) 5 [(.d (.sl (.pair (.sl (.int .i64)) (.sl (.int .i64))) x0)), (.d (.sl (.pair (.sl (.pair .str (.pair .str (.int .i64)))) (.pair (.int .i64) (.int .i64))) x1)), (.d (.sl (.pair (.sl (.pair .str (.pair .str (.int .i64)))) (.pair (.sl (.pair .str (.pair .str (.int .i64)))) (.sl .str))) x2)), (.d (.int .i64 x3)), (.d (.int .i64 x4)), (.d (.int .i64 x5))] []).run = some (.d (.bool true), []) := by
  refine runT_ok (LS := (fun k => if k = 24639 then some (more_k22 x0 x1 x2 x3 x4 x5 m) else if k = 65334214448820184984967924626899496673280 then some (more_k11 x0 x1 x2 x3 x4 x5 m) else none)) (fn := fn5) (r := .d (.bool true)) (B' := []) (vis := [(24639, l5_0H x0 x1 x2 x3 x4 x5 0 (([] : List (List ((List UInt8) × (List UInt8))))), l5_0B x0 x1 x2 x3 x4 x5 0 (([] : List (List ((List UInt8) × (List UInt8)))))), (65334214448820184984967924626899496673280, l5_1H ((more_k3 x2)) ((((more_k6 x0 x1 x2 x3 x4 x5 m) : Nat) : Int)) 0 ((more_k1 x0 x1 x2 x3 x4 x5 m).2.2), l5_1B ((more_k3 x2)) ((((more_k6 x0 x1 x2 x3 x4 x5 m) : Nat) : Int)) 0 ((more_k1 x0 x1 x2 x3 x4 x5 m).2.2))]) (by kernel_rfl) rfl (by kernel_rfl) (M.run_of_path _ [true, true, true, true, true, true, true, true, true, true, true, true, true, true, true, true, true, false, false, false, false, false, false, true, true, false, false, false, false, false, false, false, false, false, false, true, true, true, true, true, true, true, true, false, false, false, false, true, true, true, false, true, false, true, true, true, true, true, false, true, false, false] _ _ (by kernel_rfl) (all_t c3 (all_t c4 (all_t rfl (all_t c6 (all_t rfl (all_t c8 (all_t rfl (all_t rfl (all_t c11 (all_t c12 (all_t (show decide ((0 + (more_k6 x0 x1 x2 x3 x4 x5 m)) ≤ (more_k6 x0 x1 x2 x3 x4 x5 m)) = true from decide_eq_true (Nat.le_of_eq (Nat.zero_add _))) (all_t c14 (all_t (show decide ((0 + (more_k6 x0 x1 x2 x3 x4 x5 m)) ≤ (more_k6 x0 x1 x2 x3 x4 x5 m)) = true from decide_eq_true (Nat.le_of_eq (Nat.zero_add _))) (all_t c16 (all_t c17 (all_t (show decide ((0 + (more_k6 x0 x1 x2 x3 x4 x5 m)) ≤ (more_k6 x0 x1 x2 x3 x4 x5 m)) = true from decide_eq_true (Nat.le_of_eq (Nat.zero_add _))) (all_t c19 (all_f c20 (all_f c20 (all_f c20 (all_f c20 (all_f c20 (all_f c20 (all_t (show decide ((0 + (more_k6 x0 x1 x2 x3 x4 x5 m)) ≤ (more_k6 x0 x1 x2 x3 x4 x5 m)) = true from decide_eq_true (Nat.le_of_eq (Nat.zero_add _))) (all_t c27 (all_f c20 (all_f c20 (all_f c20 (all_f c31 (all_f c31 (all_f c31 (all_f c31 (all_f c31 (all_f c31 (all_f c37 (all_t c38 (all_t c38 (all_t c38 (all_t c38 (all_t c42 (all_t c42 (all_t c42 (all_t c42 (all_f c46 (all_f c46 (all_f c46 (all_f c46 (all_t c50 (all_t c50 (all_t c50 (all_f c46 (all_t c50 (all_f c46 (all_t rfl (all_t rfl (all_t rfl (all_t rfl (all_t rfl (all_f c46 (all_t rfl (all_f c46 (all_f c64 all_nil))))))))))))))))))))))))))))))))))))))))))))))))))))))))))))))) ?_
  intro p hp p2 hq
  rcases List.mem_cons.1 hp with rfl | hp
  · skip
    have h3 := l5_0_ok m (m + 24) x0 x1 x2 x3 x4 x5 0 (([] : List (List ((List UInt8) × (List UInt8))))) _ (some_getD (d := l5_0D) c0)
    rw [eq_of_beq c2] at h3
    exact Eq.trans (Eq.mp (by kernel_rfl) h3) hq
  rcases List.mem_cons.1 hp with rfl | hp
  · skip
    have h3 := l5_1_ok m (m + 24) ((more_k3 x2)) ((((more_k6 x0 x1 x2 x3 x4 x5 m) : Nat) : Int)) 0 ((more_k1 x0 x1 x2 x3 x4 x5 m).2.2) _ (some_getD (d := l5_1D) c65)
    exact Eq.trans (Eq.mp (by kernel_rfl) h3) hq
  cases hp

set_option maxHeartbeats 20000000 in
theorem more_w10 (m : Nat) (x0 : List ((List Int) × (List Int))) (x1 : List ((List ((List UInt8) × (List UInt8) × Int)) × Int × Int)) (x2 : List ((List ((List UInt8) × (List UInt8) × Int)) × (List ((List UInt8) × (List UInt8) × Int)) × (List (List UInt8)))) (x3 : Int) (x4 : Int) (x5 : Int) (c0 : (Option.isSome (more_k16 x0 x1 x2 x3 x4 x5 m)) = true) (c1 : ¬ ((more_k1 x0 x1 x2 x3 x4 x5 m).1 == 0) = true) (c2 : ((more_k1 x0 x1 x2 x3 x4 x5 m).1 == 1) = true) (c3 : (decide (0 ≤ (more_k13 x1)) && decide ((more_k13 x1) ≤ (more_k23 x1))) = true) (c4 : (decide (0 ≤ (more_k14 x2)) && decide ((more_k14 x2) ≤ (more_k24 x2))) = true) (c6 : (((decide (-4611686018427387904 ≤ (withinI x4 (0) (50))) && decide (more_k25 x4)) && true) && decide (((60) - (withinI x4 (0) (50))) ≤ 2305843009213693951)) = true) (c8 : decide (((0 + (List.length (more_k2 x1))) * 40) ≤ 70368744177664) = true) (c11 : decide ((((0 + (List.length (more_k2 x1))) + 1) * 40) ≤ 70368744177664) = true) (c12 : decide ((0 + (List.length (more_k2 x1))) = (List.length (more_k2 x1))) = true) (c14 : heardPre (more_k4 x0 x1 x2 x3 x4 x5 m) (more_k2 x1) (more_k3 x2) = true) (c16 : decide ((0 + ((0 + (List.length (more_k2 x1))) + 1)) ≤ (more_k15 x1 x4 x5)) = true) (c17 : heardPre (more_k4 x0 x1 x2 x3 x4 x5 m) (more_k12 x1 x4 x5) (more_k3 x2) = true) (c19 : heardPre (more_k4 x0 x1 x2 x3 x4 x5 m) ([] : List ((List ((List UInt8) × (List UInt8) × Int)) × Int × Int)) ([] : List ((List ((List UInt8) × (List UInt8) × Int)) × (List ((List UInt8) × (List UInt8) × Int)) × (List (List UInt8)))) = true) (c20 : ¬ decide ((more_k5 x0 x1 x2 x3 x4 x5 m) > (more_k7 x0 x1 x2 x3 x4 x5 m)) = true) (c27 : heardPre (more_k4 x0 x1 x2 x3 x4 x5 m) (more_k2 x1) ([] : List ((List ((List UInt8) × (List UInt8) × Int)) × (List ((List UInt8) × (List UInt8) × Int)) × (List (List UInt8)))) = true) (c31 : ¬ decide ((more_k7 x0 x1 x2 x3 x4 x5 m) > (more_k10 x0 x1 x2 x3 x4 x5 m)) = true) (c37 : ¬ (more_k8 x0 x1 x2 x3 x4 x5 m) = true) (c38 : decide (more_k21 x3 x4) = true) (c42 : decide (more_k19 x3 x4 x5) = true) (c46 : ¬ ((more_k5 x0 x1 x2 x3 x4 x5 m) != (0)) = true) (c50 : ¬ decide (more_k18 x3 x4) = true) (c56 : decide (more_k17 x3 x4 x5) = true) (c64 : ¬ ((more_k5 x0 x1 x2 x3 x4 x5 m) != (more_k7 x0 x1 x2 x3 x4 x5 m)) = true) (c65 : (Option.isSome (more_k9 x0 x1 x2 x3 x4 x5 m)) = true) : (evCall F S13 (m + 25) 5 [(.d (.sl (.pair (.sl (.int .i64)) (.sl (.int .i64))) x0)), (.d (.sl (.pair (.sl (.pair .str (.pair .str (.int .i64)))) (.pair (.int .i64) (.int .i64))) x1)), (.d (.sl (.pair (.sl (.pair .str (.pair .str (.int .i64)))) (.pair (.sl (.pair .str (.pair .str (.int .i64)))) (.sl .str))) x2)), (.d (.int .i64 x3)), (.d (.int .i64 x4)), (.d (.int .i64 x5))] []).run = some (.d (.bool true), []) := by
  refine runT_ok (LS := (fun k => if k = 24639 then some (more_k22 x0 x1 x2 x3 x4 x5 m) else if k = 65334214448820184984967924626899496673280 then some (more_k11 x0 x1 x2 x3 x4 x5 m) else none)) (fn := fn5) (r := .d (.bool true)) (B' := []) (vis := [(24639, l5_0H x0 x1 x2 x3 x4 x5 0 (([] : List (List ((List UInt8) × (List UInt8))))), l5_0B x0 x1 x2 x3 x4 x5 0 (([] : List (List ((List UInt8) × (List UInt8)))))), (65334214448820184984967924626899496673280, l5_1H ((more_k3 x2)) ((((more_k6 x0 x1 x2 x3 x4 x5 m) : Nat) : Int)) 0 ((more_k1 x0 x1 x2 x3 x4 x5 m).2.2), l5_1B ((more_k3 x2)) ((((more_k6 x0 x1 x2 x3 x4 x5 m) : Nat) : Int)) 0 ((more_k1 x0 x1 x2 x3 x4 x5 m).2.2))]) (by kernel_rfl) rfl (by kernel_rfl) (M.run_of_path _ [true, true, true, true, true, true, true, true, true, true, true, true, true, true, true, true, true, false, false, false, false, false, false, true, true, false, false, false, false, false, false, false, false, false, false, true, true, true, true, true, true, true, true, false, false, false, false, false, false, false, false, false, false, true, true, true, true, true, false, true, false, false] _ _ (by kernel_rfl) (all_t c3 (all_t c4 (all_t rfl (all_t c6 (all_t rfl (all_t c8 (all_t rfl (all_t rfl (all_t c11 (all_t c12 (all_t (show decide ((0 + (more_k6 x0 x1 x2 x3 x4 x5 m)) ≤ (more_k6 x0 x1 x2 x3 x4 x5 m)) = true from decide_eq_true (Nat.le_of_eq (Nat.zero_add _))) (all_t c14 (all_t (show decide ((0 + (more_k6 x0 x1 x2 x3 x4 x5 m)) ≤ (more_k6 x0 x1 x2 x3 x4 x5 m)) = true from decide_eq_true (Nat.le_of_eq (Nat.zero_add _))) (all_t c16 (all_t c17 (all_t (show decide ((0 + (more_k6 x0 x1 x2 x3 x4 x5 m)) ≤ (more_k6 x0 x1 x2 x3 x4 x5 m)) = true from decide_eq_true (Nat.le_of_eq (Nat.zero_add _))) (all_t c19 (all_f c20 (all_f c20 (all_f c20 (all_f c20 (all_f c20 (all_f c20 (all_t (show decide ((0 + (more_k6 x0 x1 x2 x3 x4 x5 m)) ≤ (more_k6 x0 x1 x2 x3 x4 x5 m)) = true from decide_eq_true (Nat.le_of_eq (Nat.zero_add _))) (all_t c27 (all_f c20 (all_f c20 (all_f c20 (all_f c31 (all_f c31 (all_f c31 (all_f c31 (all_f c31 (all_f c31 (all_f c37 (all_t c38 (all_t c38 (all_t c38 (all_t c38 (all_t c42 (all_t c42 (all_t c42 (all_t c42 (all_f c46 (all_f c46 (all_f c46 (all_f c46 (all_f c50 (all_f c50 (all_f c50 (all_f c46 (all_f c50 (all_f c46 (all_t c56 (all_t c56 (all_t c56 (all_t c56 (all_t c56 (all_f c46 (all_t c56 (all_f c46 (all_f c64 all_nil))))))))))))))))))))))))))))))))))))))))))))))))))))))))))))))) ?_
  intro p hp p2 hq
  rcases List.mem_cons.1 hp with rfl | hp
  · skip
    have h3 := l5_0_ok m (m + 24) x0 x1 x2 x3 x4 x5 0 (([] : List (List ((List UInt8) × (List UInt8))))) _ (some_getD (d := l5_0D) c0)
    rw [eq_of_beq c2] at h3
    exact Eq.trans (Eq.mp (by kernel_rfl) h3) hq
  rcases List.mem_cons.1 hp with rfl | hp
  · skip
    have h3 := l5_1_ok m (m + 24) ((more_k3 x2)) ((((more_k6 x0 x1 x2 x3 x4 x5 m) : Nat) : Int)) 0 ((more_k1 x0 x1 x2 x3 x4 x5 m).2.2) _ (some_getD (d := l5_1D) c65)
    exact Eq.trans (Eq.mp (by kernel_rfl) h3) hq
  cases hp

set_option maxHeartbeats 20000000 in
theorem more_w11 (m : Nat) (x0 : List ((List Int) × (List Int))) (x1 : List ((List ((List UInt8) × (List UInt8) × Int)) × Int × Int)) (x2 : List ((List ((List UInt8) × (List UInt8) × Int)) × (List ((List UInt8) × (List UInt8) × Int)) × (List (List UInt8)))) (x3 : Int) (x4 : Int) (x5 : Int) (c0 : (Option.isSome (more_k16 x0 x1 x2 x3 x4 x5 m)) = true) (c1 : ¬ ((more_k1 x0 x1 x2 x3 x4 x5 m).1 == 0) = true) (c2 : ((more_k1 x0 x1 x2 x3 x4 x5 m).1 == 1) = true) (c3 : (decide (0 ≤ (more_k13 x1)) && decide ((more_k13 x1) ≤ (more_k23 x1))) = true) (c4 : (decide (0 ≤ (more_k14 x2)) && decide ((more_k14 x2) ≤ (more_k24 x2))) = true) (c6 : (((decide (-4611686018427387904 ≤ (withinI x4 (0) (50))) && decide (more_k25 x4)) && true) && decide (((60) - (withinI x4 (0) (50))) ≤ 2305843009213693951)) = true) (c8 : decide (((0 + (List.length (more_k2 x1))) * 40) ≤ 70368744177664) = true) (c11 : decide ((((0 + (List.length (more_k2 x1))) + 1) * 40) ≤ 70368744177664) = true) (c12 : decide ((0 + (List.length (more_k2 x1))) = (List.length (more_k2 x1))) = true) (c14 : heardPre (more_k4 x0 x1 x2 x3 x4 x5 m) (more_k2 x1) (more_k3 x2) = true) (c16 : decide ((0 + ((0 + (List.length (more_k2 x1))) + 1)) ≤ (more_k15 x1 x4 x5)) = true) (c17 : heardPre (more_k4 x0 x1 x2 x3 x4 x5 m) (more_k12 x1 x4 x5) (more_k3 x2) = true) (c19 : heardPre (more_k4 x0 x1 x2 x3 x4 x5 m) ([] : List ((List ((List UInt8) × (List UInt8) × Int)) × Int × Int)) ([] : List ((List ((List UInt8) × (List UInt8) × Int)) × (List ((List UInt8) × (List UInt8) × Int)) × (List (List UInt8)))) = true) (c20 : ¬ decide ((more_k5 x0 x1 x2 x3 x4 x5 m) > (more_k7 x0 x1 x2 x3 x4 x5 m)) = true) (c27 : heardPre (more_k4 x0 x1 x2 x3 x4 x5 m) (more_k2 x1) ([] : List ((List ((List UInt8) × (List UInt8) × Int)) × (List ((List UInt8) × (List UInt8) × Int)) × (List (List UInt8)))) = true) (c31 : ¬ decide ((more_k7 x0 x1 x2 x3 x4 x5 m) > (more_k10 x0 x1 x2 x3 x4 x5 m)) = true) (c37 : ¬ (more_k8 x0 x1 x2 x3 x4 x5 m) = true) (c38 : decide (more_k21 x3 x4) = true) (c42 : decide (more_k19 x3 x4 x5) = true) (c46 : ¬ ((more_k5 x0 x1 x2 x3 x4 x5 m) != (0)) = true) (c50 : ¬ decide (more_k18 x3 x4) = true) (c56 : ¬ decide (more_k17 x3 x4 x5) = true) (c65 : (Option.isSome (more_k9 x0 x1 x2 x3 x4 x5 m)) = true) : (evCall F S13 (m + 25) 5 [(.d (.sl (.pair (.sl (.int .i64)) (.sl (.int .i64))) x0)), (.d (.sl (.pair (.sl (.pair .str (.pair .str (.int .i64)))) (.pair (.int .i64) (.int .i64))) x1)), (.d (.sl (.pair (.sl (.pair .str (.pair .str (.int .i64)))) (.pair (.sl (.pair .str (.pair .str (.int .i64)))) (.sl .str))) x2)), (.d (.int .i64 x3)), (.d (.int .i64 x4)), (.d (.int .i64 x5))] []).run = some (.d (.bool true), []) := by
  refine runT_ok (LS := (fun k => if k = 24639 then some (more_k22 x0 x1 x2 x3 x4 x5 m) else if k = 65334214448820184984967924626899496673280 then some (more_k11 x0 x1 x2 x3 x4 x5 m) else none)) (fn := fn5) (r := .d (.bool true)) (B' := []) (vis := [(24639, l5_0H x0 x1 x2 x3 x4 x5 0 (([] : List (List ((List UInt8) × (List UInt8))))), l5_0B x0 x1 x2 x3 x4 x5 0 (([] : List (List ((List UInt8) × (List UInt8)))))), (65334214448820184984967924626899496673280, l5_1H ((more_k3 x2)) ((((more_k6 x0 x1 x2 x3 x4 x5 m) : Nat) : Int)) 0 ((more_k1 x0 x1 x2 x3 x4 x5 m).2.2), l5_1B ((more_k3 x2)) ((((more_k6 x0 x1 x2 x3 x4 x5 m) : Nat) : Int)) 0 ((more_k1 x0 x1 x2 x3 x4 x5 m).2.2))]) (by kernel_rfl) rfl (by kernel_rfl) (M.run_of_path _ [true, true, true, true, true, true, true, true, true, true, true, true, true, true, true, true, true, false, false, false, false, false, false, true, true, false, false, false, false, false, false, false, false, false, false, true, true, true, true, true, true, true, true, false, false, false, false, false, false, false, false, false, false, false, false, false, false, false, false, false, false, false] _ _ (by kernel_rfl) (all_t c3 (all_t c4 (all_t rfl (all_t c6 (all_t rfl (all_t c8 (all_t rfl (all_t rfl (all_t c11 (all_t c12 (all_t (show decide ((0 + (more_k6 x0 x1 x2 x3 x4 x5 m)) ≤ (more_k6 x0 x1 x2 x3 x4 x5 m)) = true from decide_eq_true (Nat.le_of_eq (Nat.zero_add _))) (all_t c14 (all_t (show decide ((0 + (more_k6 x0 x1 x2 x3 x4 x5 m)) ≤ (more_k6 x0 x1 x2 x3 x4 x5 m)) = true from decide_eq_true (Nat.le_of_eq (Nat.zero_add _))) (all_t c16 (all_t c17 (all_t (show decide ((0 + (more_k6 x0 x1 x2 x3 x4 x5 m)) ≤ (more_k6 x0 x1 x2 x3 x4 x5 m)) = true from decide_eq_true (Nat.le_of_eq (Nat.zero_add _))) (all_t c19 (all_f c20 (all_f c20 (all_f c20 (all_f c20 (all_f c20 (all_f c20 (all_t (show decide ((0 + (more_k6 x0 x1 x2 x3 x4 x5 m)) ≤ (more_k6 x0 x1 x2 x3 x4 x5 m)) = true from decide_eq_true (Nat.le_of_eq (Nat.zero_add _))) (all_t c27 (all_f c20 (all_f c20 (all_f c20 (all_f c31 (all_f c31 (all_f c31 (all_f c31 (all_f c31 (all_f c31 (all_f c37 (all_t c38 (all_t c38 (all_t c38 (all_t c38 (all_t c42 (all_t c42 (all_t c42 (all_t c42 (all_f c46 (all_f c46 (all_f c46 (all_f c46 (all_f c50 (all_f c50 (all_f c50 (all_f c46 (all_f c50 (all_f c46 (all_f c56 (all_f c56 (all_f c56 (all_f c56 (all_f c56 (all_f c46 (all_f c56 (all_f c46 (all_f Bool.false_ne_true all_nil))))))))))))))))))))))))))))))))))))))))))))))))))))))))))))))) ?_
  intro p hp p2 hq
  rcases List.mem_cons.1 hp with rfl | hp
  · skip
    have h3 := l5_0_ok m (m + 24) x0 x1 x2 x3 x4 x5 0 (([] : List (List ((List UInt8) × (List UInt8))))) _ (some_getD (d := l5_0D) c0)
    rw [eq_of_beq c2] at h3
    exact Eq.trans (Eq.mp (by kernel_rfl) h3) hq
  rcases List.mem_cons.1 hp with rfl | hp
  · skip
    have h3 := l5_1_ok m (m + 24) ((more_k3 x2)) ((((more_k6 x0 x1 x2 x3 x4 x5 m) : Nat) : Int)) 0 ((more_k1 x0 x1 x2 x3 x4 x5 m).2.2) _ (some_getD (d := l5_1D) c65)
    exact Eq.trans (Eq.mp (by kernel_rfl) h3) hq
  cases hp

set_option maxHeartbeats 20000000 in
theorem more_w12 (m : Nat) (x0 : List ((List Int) × (List Int))) (x1 : List ((List ((List UInt8) × (List UInt8) × Int)) × Int × Int)) (x2 : List ((List ((List UInt8) × (List UInt8) × Int)) × (List ((List UInt8) × (List UInt8) × Int)) × (List (List UInt8)))) (x3 : Int) (x4 : Int) (x5 : Int) (c0 : (Option.isSome (more_k16 x0 x1 x2 x3 x4 x5 m)) = true) (c1 : ¬ ((more_k1 x0 x1 x2 x3 x4 x5 m).1 == 0) = true) (c2 : ((more_k1 x0 x1 x2 x3 x4 x5 m).1 == 1) = true) (c3 : (decide (0 ≤ (more_k13 x1)) && decide ((more_k13 x1) ≤ (more_k23 x1))) = true) (c4 : (decide (0 ≤ (more_k14 x2)) && decide ((more_k14 x2) ≤ (more_k24 x2))) = true) (c6 : (((decide (-4611686018427387904 ≤ (withinI x4 (0) (50))) && decide (more_k25 x4)) && true) && decide (((60) - (withinI x4 (0) (50))) ≤ 2305843009213693951)) = true) (c8 : decide (((0 + (List.length (more_k2 x1))) * 40) ≤ 70368744177664) = true) (c11 : decide ((((0 + (List.length (more_k2 x1))) + 1) * 40) ≤ 70368744177664) = true) (c12 : decide ((0 + (List.length (more_k2 x1))) = (List.length (more_k2 x1))) = true) (c14 : heardPre (more_k4 x0 x1 x2 x3 x4 x5 m) (more_k2 x1) (more_k3 x2) = true) (c16 : decide ((0 + ((0 + (List.length (more_k2 x1))) + 1)) ≤ (more_k15 x1 x4 x5)) = true) (c17 : heardPre (more_k4 x0 x1 x2 x3 x4 x5 m) (more_k12 x1 x4 x5) (more_k3 x2) = true) (c19 : heardPre (more_k4 x0 x1 x2 x3 x4 x5 m) ([] : List ((List ((List UInt8) × (List UInt8) × Int)) × Int × Int)) ([] : List ((List ((List UInt8) × (List UInt8) × Int)) × (List ((List UInt8) × (List UInt8) × Int)) × (List (List UInt8)))) = true) (c20 : ¬ decide ((more_k5 x0 x1 x2 x3 x4 x5 m) > (more_k7 x0 x1 x2 x3 x4 x5 m)) = true) (c27 : heardPre (more_k4 x0 x1 x2 x3 x4 x5 m) (more_k2 x1) ([] : List ((List ((List UInt8) × (List UInt8) × Int)) × (List ((List UInt8) × (List UInt8) × Int)) × (List (List UInt8)))) = true) (c31 : ¬ decide ((more_k7 x0 x1 x2 x3 x4 x5 m) > (more_k10 x0 x1 x2 x3 x4 x5 m)) = true) (c37 : ¬ (more_k8 x0 x1 x2 x3 x4 x5 m) = true) (c38 : decide (more_k21 x3 x4) = true) (c42 : ¬ decide (more_k19 x3 x4 x5) = true) (c50 : decide (more_k18 x3 x4) = true) (c64 : ¬ ((more_k5 x0 x1 x2 x3 x4 x5 m) != (more_k7 x0 x1 x2 x3 x4 x5 m)) = true) (c65 : (Option.isSome (more_k9 x0 x1 x2 x3 x4 x5 m)) = true) : (evCall F S13 (m + 25) 5 [(.d (.sl (.pair (.sl (.int .i64)) (.sl (.int .i64))) x0)), (.d (.sl (.pair (.sl (.pair .str (.pair .str (.int .i64)))) (.pair (.int .i64) (.int .i64))) x1)), (.d (.sl (.pair (.sl (.pair .str (.pair .str (.int .i64)))) (.pair (.sl (.pair .str (.pair .str (.int .i64)))) (.sl .str))) x2)), (.d (.int .i64 x3)), (.d (.int .i64 x4)), (.d (.int .i64 x5))] []).run = some (.d (.bool true), []) := by
  refine runT_ok (LS := (fun k => if k = 24639 then some (more_k22 x0 x1 x2 x3 x4 x5 m) else if k = 65334214448820184984967924626899496673280 then some (more_k11 x0 x1 x2 x3 x4 x5 m) else none)) (fn := fn5) (r := .d (.bool true)) (B' := []) (vis := [(24639, l5_0H x0 x1 x2 x3 x4 x5 0 (([] : List (List ((List UInt8) × (List UInt8))))), l5_0B x0 x1 x2 x3 x4 x5 0 (([] : List (List ((List UInt8) × (List UInt8)))))), (65334214448820184984967924626899496673280, l5_1H ((more_k3 x2)) ((((more_k6 x0 x1 x2 x3 x4 x5 m) : Nat) : Int)) 0 ((more_k1 x0 x1 x2 x3 x4 x5 m).2.2), l5_1B ((more_k3 x2)) ((((more_k6 x0 x1 x2 x3 x4 x5 m) : Nat) : Int)) 0 ((more_k1 x0 x1 x2 x3 x4 x5 m).2.2))]) (by kernel_rfl) rfl (by kernel_rfl) (M.run_of_path _ [true, true, true, true, true, true, true, true, true, true, true, true, true, true, true, true, true, false, false, false, false, false, false, true, true, false, false, false, false, false, false, false, false, false, false, true, true, true, true, false, false, false, false, false, false, false, false, true, true, true, false, true, false, true, true, true, true, true, false, true, false, false] _ _ (by kernel_rfl) (all_t c3 (all_t c4 (all_t rfl (all_t c6 (all_t rfl (all_t c8 (all_t rfl (all_t rfl (all_t c11 (all_t c12 (all_t (show decide ((0 + (more_k6 x0 x1 x2 x3 x4 x5 m)) ≤ (more_k6 x0 x1 x2 x3 x4 x5 m)) = true from decide_eq_true (Nat.le_of_eq (Nat.zero_add _))) (all_t c14 (all_t (show decide ((0 + (more_k6 x0 x1 x2 x3 x4 x5 m)) ≤ (more_k6 x0 x1 x2 x3 x4 x5 m)) = true from decide_eq_true (Nat.le_of_eq (Nat.zero_add _))) (all_t c16 (all_t c17 (all_t (show decide ((0 + (more_k6 x0 x1 x2 x3 x4 x5 m)) ≤ (more_k6 x0 x1 x2 x3 x4 x5 m)) = true from decide_eq_true (Nat.le_of_eq (Nat.zero_add _))) (all_t c19 (all_f c20 (all_f c20 (all_f c20 (all_f c20 (all_f c20 (all_f c20 (all_t (show decide ((0 + (more_k6 x0 x1 x2 x3 x4 x5 m)) ≤ (more_k6 x0 x1 x2 x3 x4 x5 m)) = true from decide_eq_true (Nat.le_of_eq (Nat.zero_add _))) (all_t c27 (all_f c20 (all_f c20 (all_f c20 (all_f c31 (all_f c31 (all_f c31 (all_f c31 (all_f c31 (all_f c31 (all_f c37 (all_t c38 (all_t c38 (all_t c38 (all_t c38 (all_f c42 (all_f c42 (all_f c42 (all_f c42 (all_f Bool.false_ne_true (all_f Bool.false_ne_true (all_f Bool.false_ne_true (all_f Bool.false_ne_true (all_t c50 (all_t c50 (all_t c50 (all_f Bool.false_ne_true (all_t c50 (all_f Bool.false_ne_true (all_t rfl (all_t rfl (all_t rfl (all_t rfl (all_t rfl (all_f Bool.false_ne_true (all_t rfl (all_f Bool.false_ne_true (all_f c64 all_nil))))))))))))))))))))))))))))))))))))))))))))))))))))))))))))))) ?_
  intro p hp p2 hq
  rcases List.mem_cons.1 hp with rfl | hp
  · skip
    have h3 := l5_0_ok m (m + 24) x0 x1 x2 x3 x4 x5 0 (([] : List (List ((List UInt8) × (List UInt8))))) _ (some_getD (d := l5_0D) c0)
    rw [eq_of_beq c2] at h3
    exact Eq.trans (Eq.mp (by kernel_rfl) h3) hq
  rcases List.mem_cons.1 hp with rfl | hp
  · skip
    have h3 := l5_1_ok m (m + 24) ((more_k3 x2)) ((((more_k6 x0 x1 x2 x3 x4 x5 m) : Nat) : Int)) 0 ((more_k1 x0 x1 x2 x3 x4 x5 m).2.2) _ (some_getD (d := l5_1D) c65)
    exact Eq.trans (Eq.mp (by kernel_rfl) h3) hq
  cases hp

set_option maxHeartbeats 20000000 in
theorem more_w13 (m : Nat) (x0 : List ((List Int) × (List Int))) (x1 : List ((List ((List UInt8) × (List UInt8) × Int)) × Int × Int)) (x2 : List ((List ((List UInt8) × (List UInt8) × Int)) × (List ((List UInt8) × (List UInt8) × Int)) × (List (List UInt8)))) (x3 : Int) (x4 : Int) (x5 : Int) (c0 : (Option.isSome (more_k16 x0 x1 x2 x3 x4 x5 m)) = true) (c1 : ¬ ((more_k1 x0 x1 x2 x3 x4 x5 m).1 == 0) = true) (c2 : ((more_k1 x0 x1 x2 x3 x4 x5 m).1 == 1) = true) (c3 : (decide (0 ≤ (more_k13 x1)) && decide ((more_k13 x1) ≤ (more_k23 x1))) = true) (c4 : (decide (0 ≤ (more_k14 x2)) && decide ((more_k14 x2) ≤ (more_k24 x2))) = true) (c6 : (((decide (-4611686018427387904 ≤ (withinI x4 (0) (50))) && decide (more_k25 x4)) && true) && decide (((60) - (withinI x4 (0) (50))) ≤ 2305843009213693951)) = true) (c8 : decide (((0 + (List.length (more_k2 x1))) * 40) ≤ 70368744177664) = true) (c11 : decide ((((0 + (List.length (more_k2 x1))) + 1) * 40) ≤ 70368744177664) = true) (c12 : decide ((0 + (List.length (more_k2 x1))) = (List.length (more_k2 x1))) = true) (c14 : heardPre (more_k4 x0 x1 x2 x3 x4 x5 m) (more_k2 x1) (more_k3 x2) = true) (c16 : decide ((0 + ((0 + (List.length (more_k2 x1))) + 1)) ≤ (more_k15 x1 x4 x5)) = true) (c17 : heardPre (more_k4 x0 x1 x2 x3 x4 x5 m) (more_k12 x1 x4 x5) (more_k3 x2) = true) (c19 : heardPre (more_k4 x0 x1 x2 x3 x4 x5 m) ([] : List ((List ((List UInt8) × (List UInt8) × Int)) × Int × Int)) ([] : List ((List ((List UInt8) × (List UInt8) × Int)) × (List ((List UInt8) × (List UInt8) × Int)) × (List (List UInt8)))) = true) (c20 : ¬ decide ((more_k5 x0 x1 x2 x3 x4 x5 m) > (more_k7 x0 x1 x2 x3 x4 x5 m)) = true) (c27 : heardPre (more_k4 x0 x1 x2 x3 x4 x5 m) (more_k2 x1) ([] : List ((List ((List UInt8) × (List UInt8) × Int)) × (List ((List UInt8) × (List UInt8) × Int)) × (List (List UInt8)))) = true) (c31 : ¬ decide ((more_k7 x0 x1 x2 x3 x4 x5 m) > (more_k10 x0 x1 x2 x3 x4 x5 m)) = true) (c37 : ¬ (more_k8 x0 x1 x2 x3 x4 x5 m) = true) (c38 : decide (more_k21 x3 x4) = true) (c42 : ¬ decide (more_k19 x3 x4 x5) = true) (c50 : ¬ decide (more_k18 x3 x4) = true) (c56 : decide (more_k17 x3 x4 x5) = true) (c64 : ¬ ((more_k5 x0 x1 x2 x3 x4 x5 m) != (more_k7 x0 x1 x2 x3 x4 x5 m)) = true) (c65 : (Option.isSome (more_k9 x0 x1 x2 x3 x4 x5 m)) = true) : (evCall F S13 (m + 25) 5 [(.d (.sl (.pair (.sl (.int .i64)) (.sl (.int .i64))) x0)), (.d (.sl (.pair (.sl (.pair .str (.pair .str (.int .i64)))) (.pair (.int .i64) (.int .i64))) x1)), (.d (.sl (.pair (.sl (.pair .str (.pair .str (.int .i64)))) (.pair (.sl (.pair .str (.pair .str (.int .i64)))) (.sl .str))) x2)), (.d (.int .i64 x3)), (.d (.int .i64 x4)), (.d (.int .i64 x5))] []).run = some (.d (.bool true), []) := by
  refine runT_ok (LS := (fun k => if k = 24639 then some (more_k22 x0 x1 x2 x3 x4 x5 m) else if k = 65334214448820184984967924626899496673280 then some (more_k11 x0 x1 x2 x3 x4 x5 m) else none)) (fn := fn5) (r := .d (.bool true)) (B' := []) (vis := [(24639, l5_0H x0 x1 x2 x3 x4 x5 0 (([] : List (List ((List UInt8) × (List UInt8))))), l5_0B x0 x1 x2 x3 x4 x5 0 (([] : List (List ((List UInt8) × (List UInt8)))))), (65334214448820184984967924626899496673280, l5_1H ((more_k3 x2)) ((((more_k6 x0 x1 x2 x3 x4 x5 m) : Nat) : Int)) 0 ((more_k1 x0 x1 x2 x3 x4 x5 m).2.2), l5_1B ((more_k3 x2)) ((((more_k6 x0 x1 x2 x3 x4 x5 m) : Nat) : Int)) 0 ((more_k1 x0 x1 x2 x3 x4 x5 m).2.2))]) (by kernel_rfl) rfl (by kernel_rfl) (M.run_of_path _ [true, true, true, true, true, true, true, true, true, true, true, true, true, true, true, true, true, false, false, false, false, false, false, true, true, false, false, false, false, false, false, false, false, false, false, true, true, true, true, false, false, false, false, false, false, false, false, false, false, false, false, false, false, true, true, true, true, true, false, true, false, false] _ _ (by kernel_rfl) (all_t c3 (all_t c4 (all_t rfl (all_t c6 (all_t rfl (all_t c8 (all_t rfl (all_t rfl (all_t c11 (all_t c12 (all_t (show decide ((0 + (more_k6 x0 x1 x2 x3 x4 x5 m)) ≤ (more_k6 x0 x1 x2 x3 x4 x5 m)) = true from decide_eq_true (Nat.le_of_eq (Nat.zero_add _))) (all_t c14 (all_t (show decide ((0 + (more_k6 x0 x1 x2 x3 x4 x5 m)) ≤ (more_k6 x0 x1 x2 x3 x4 x5 m)) = true from decide_eq_true (Nat.le_of_eq (Nat.zero_add _))) (all_t c16 (all_t c17 (all_t (show decide ((0 + (more_k6 x0 x1 x2 x3 x4 x5 m)) ≤ (more_k6 x0 x1 x2 x3 x4 x5 m)) = true from decide_eq_true (Nat.le_of_eq (Nat.zero_add _))) (all_t c19 (all_f c20 (all_f c20 (all_f c20 (all_f c20 (all_f c20 (all_f c20 (all_t (show decide ((0 + (more_k6 x0 x1 x2 x3 x4 x5 m)) ≤ (more_k6 x0 x1 x2 x3 x4 x5 m)) = true from decide_eq_true (Nat.le_of_eq (Nat.zero_add _))) (all_t c27 (all_f c20 (all_f c20 (all_f c20 (all_f c31 (all_f c31 (all_f c31 (all_f c31 (all_f c31 (all_f c31 (all_f c37 (all_t c38 (all_t c38 (all_t c38 (all_t c38 (all_f c42 (all_f c42 (all_f c42 (all_f c42 (all_f Bool.false_ne_true (all_f Bool.false_ne_true (all_f Bool.false_ne_true (all_f Bool.false_ne_true (all_f c50 (all_f c50 (all_f c50 (all_f Bool.false_ne_true (all_f c50 (all_f Bool.false_ne_true (all_t c56 (all_t c56 (all_t c56 (all_t c56 (all_t c56 (all_f Bool.false_ne_true (all_t c56 (all_f Bool.false_ne_true (all_f c64 all_nil))))))))))))))))))))))))))))))))))))))))))))))))))))))))))))))) ?_
  intro p hp p2 hq
  rcases List.mem_cons.1 hp with rfl | hp
  · skip
    have h3 := l5_0_ok m (m + 24) x0 x1 x2 x3 x4 x5 0 (([] : List (List ((List UInt8) × (List UInt8))))) _ (some_getD (d := l5_0D) c0)
    rw [eq_of_beq c2] at h3
    exact Eq.trans (Eq.mp (by kernel_rfl) h3) hq
  rcases List.mem_cons.1 hp with rfl | hp
  · skip
    have h3 := l5_1_ok m (m + 24) ((more_k3 x2)) ((((more_k6 x0 x1 x2 x3 x4 x5 m) : Nat) : Int)) 0 ((more_k1 x0 x1 x2 x3 x4 x5 m).2.2) _ (some_getD (d := l5_1D) c65)
    exact Eq.trans (Eq.mp (by kernel_rfl) h3) hq
  cases hp

set_option maxHeartbeats 20000000 in
theorem more_w14 (m : Nat) (x0 : List ((List Int) × (List Int))) (x1 : List ((List ((List UInt8) × (List UInt8) × Int)) × Int × Int)) (x2 : List ((List ((List UInt8) × (List UInt8) × Int)) × (List ((List UInt8) × (List UInt8) × Int)) × (List (List UInt8)))) (x3 : Int) (x4 : Int) (x5 : Int) (c0 : (Option.isSome (more_k16 x0 x1 x2 x3 x4 x5 m)) = true) (c1 : ¬ ((more_k1 x0 x1 x2 x3 x4 x5 m).1 == 0) = true) (c2 : ((more_k1 x0 x1 x2 x3 x4 x5 m).1 == 1) = true) (c3 : (decide (0 ≤ (more_k13 x1)) && decide ((more_k13 x1) ≤ (more_k23 x1))) = true) (c4 : (decide (0 ≤ (more_k14 x2)) && decide ((more_k14 x2) ≤ (more_k24 x2))) = true) (c6 : (((decide (-4611686018427387904 ≤ (withinI x4 (0) (50))) && decide (more_k25 x4)) && true) && decide (((60) - (withinI x4 (0) (50))) ≤ 2305843009213693951)) = true) (c8 : decide (((0 + (List.length (more_k2 x1))) * 40) ≤ 70368744177664) = true) (c11 : decide ((((0 + (List.length (more_k2 x1))) + 1) * 40) ≤ 70368744177664) = true) (c12 : decide ((0 + (List.length (more_k2 x1))) = (List.length (more_k2 x1))) = true) (c14 : heardPre (more_k4 x0 x1 x2 x3 x4 x5 m) (more_k2 x1) (more_k3 x2) = true) (c16 : decide ((0 + ((0 + (List.length (more_k2 x1))) + 1)) ≤ (more_k15 x1 x4 x5)) = true) (c17 : heardPre (more_k4 x0 x1 x2 x3 x4 x5 m) (more_k12 x1 x4 x5) (more_k3 x2) = true) (c19 : heardPre (more_k4 x0 x1 x2 x3 x4 x5 m) ([] : List ((List ((List UInt8) × (List UInt8) × Int)) × Int × Int)) ([] : List ((List ((List UInt8) × (List UInt8) × Int)) × (List ((List UInt8) × (List UInt8) × Int)) × (List (List UInt8)))) = true) (c20 : ¬ decide ((more_k5 x0 x1 x2 x3 x4 x5 m) > (more_k7 x0 x1 x2 x3 x4 x5 m)) = true) (c27 : heardPre (more_k4 x0 x1 x2 x3 x4 x5 m) (more_k2 x1) ([] : List ((List ((List UInt8) × (List UInt8) × Int)) × (List ((List UInt8) × (List UInt8) × Int)) × (List (List UInt8)))) = true) (c31 : ¬ decide ((more_k7 x0 x1 x2 x3 x4 x5 m) > (more_k10 x0 x1 x2 x3 x4 x5 m)) = true) (c37 : ¬ (more_k8 x0 x1 x2 x3 x4 x5 m) = true) (c38 : decide (more_k21 x3 x4) = true) (c42 : ¬ decide (more_k19 x3 x4 x5) = true) (c50 : ¬ decide (more_k18 x3 x4) = true) (c56 : ¬ decide (more_k17 x3 x4 x5) = true) (c65 : (Option.isSome (more_k9 x0 x1 x2 x3 x4 x5 m)) = true) : (evCall F S13 (m + 25) 5 [(.d (.sl (.pair (.sl (.int .i64)) (.sl (.int .i64))) x0)), (.d (.sl (.pair (.sl (.pair .str (.pair .str (.int .i64)))) (.pair (.int .i64) (.int .i64))) x1)), (.d (.sl (.pair (.sl (.pair .str (.pair .str (.int .i64)))) (.pair (.sl (.pair .str (.pair .str (.int .i64)))) (.sl .str))) x2)), (.d (.int .i64 x3)), (.d (.int .i64 x4)), (.d (.int .i64 x5))] []).run = some (.d (.bool true), []) := by
  refine runT_ok (LS := (fun k => if k = 24639 then some (more_k22 x0 x1 x2 x3 x4 x5 m) else if k = 65334214448820184984967924626899496673280 then some (more_k11 x0 x1 x2 x3 x4 x5 m) else none)) (fn := fn5) (r := .d (.bool true)) (B' := []) (vis := [(24639, l5_0H x0 x1 x2 x3 x4 x5 0 (([] : List (List ((List UInt8) × (List UInt8))))), l5_0B x0 x1 x2 x3 x4 x5 0 (([] : List (List ((List UInt8) × (List UInt8)))))), (65334214448820184984967924626899496673280, l5_1H ((more_k3 x2)) ((((more_k6 x0 x1 x2 x3 x4 x5 m) : Nat) : Int)) 0 ((more_k1 x0 x1 x2 x3 x4 x5 m).2.2), l5_1B ((more_k3 x2)) ((((more_k6 x0 x1 x2 x3 x4 x5 m) : Nat) : Int)) 0 ((more_k1 x0 x1 x2 x3 x4 x5 m).2.2))]) (by kernel_rfl) rfl (by kernel_rfl) (M.run_of_path _ [true, true, true, true, true, true, true, true, true, true, true, true, true, true, true, true, true, false, false, false, false, false, false, true, true, false, false, false, false, false, false, false, false, false, false, true, true, true, true, false, false, false, false, false, false, false, false, false, false, false, false, false, false, false, false, false, false, false, false, false, false, false] _ _ (by kernel_rfl) (all_t c3 (all_t c4 (all_t rfl (all_t c6 (all_t rfl (all_t c8 (all_t rfl (all_t rfl (all_t c11 (all_t c12 (all_t (show decide ((0 + (more_k6 x0 x1 x2 x3 x4 x5 m)) ≤ (more_k6 x0 x1 x2 x3 x4 x5 m)) = true from decide_eq_true (Nat.le_of_eq (Nat.zero_add _))) (all_t c14 (all_t (show decide ((0 + (more_k6 x0 x1 x2 x3 x4 x5 m)) ≤ (more_k6 x0 x1 x2 x3 x4 x5 m)) = true from decide_eq_true (Nat.le_of_eq (Nat.zero_add _))) (all_t c16 (all_t c17 (all_t (show decide ((0 + (more_k6 x0 x1 x2 x3 x4 x5 m)) ≤ (more_k6 x0 x1 x2 x3 x4 x5 m)) = true from decide_eq_true (Nat.le_of_eq (Nat.zero_add _))) (all_t c19 (all_f c20 (all_f c20 (all_f c20 (all_f c20 (all_f c20 (all_f c20 (all_t (show decide ((0 + (more_k6 x0 x1 x2 x3 x4 x5 m)) ≤ (more_k6 x0 x1 x2 x3 x4 x5 m)) = true from decide_eq_true (Nat.le_of_eq (Nat.zero_add _))) (all_t c27 (all_f c20 (all_f c20 (all_f c20 (all_f c31 (all_f c31 (all_f c31 (all_f c31 (all_f c31 (all_f c31 (all_f c37 (all_t c38 (all_t c38 (all_t c38 (all_t c38 (all_f c42 (all_f c42 (all_f c42 (all_f c42 (all_f Bool.false_ne_true (all_f Bool.false_ne_true (all_f Bool.false_ne_true (all_f Bool.false_ne_true (all_f c50 (all_f c50 (all_f c50 (all_f Bool.false_ne_true (all_f c50 (all_f Bool.false_ne_true (all_f c56 (all_f c56 (all_f c56 (all_f c56 (all_f c56 (all_f Bool.false_ne_true (all_f c56 (all_f Bool.false_ne_true (all_f Bool.false_ne_true all_nil))))))))))))))))))))))))))))))))))))))))))))))))))))))))))))))) ?_
  intro p hp p2 hq
  rcases List.mem_cons.1 hp with rfl | hp
  · skip
    have h3 := l5_0_ok m (m + 24) x0 x1 x2 x3 x4 x5 0 (([] : List (List ((List UInt8) × (List UInt8))))) _ (some_getD (d := l5_0D) c0)
    rw [eq_of_beq c2] at h3
    exact Eq.trans (Eq.mp (by kernel_rfl) h3) hq
  rcases List.mem_cons.1 hp with rfl | hp
  · skip
    have h3 := l5_1_ok m (m + 24) ((more_k3 x2)) ((((more_k6 x0 x1 x2 x3 x4 x5 m) : Nat) : Int)) 0 ((more_k1 x0 x1 x2 x3 x4 x5 m).2.2) _ (some_getD (d := l5_1D) c65)
    exact Eq.trans (Eq.mp (by kernel_rfl) h3) hq
  cases hp

set_option maxHeartbeats 20000000 in
theorem more_w15 (m : Nat) (x0 : List ((List Int) × (List Int))) (x1 : List ((List ((List UInt8) × (List UInt8) × Int)) × Int × Int)) (x2 : List ((List ((List UInt8) × (List UInt8) × Int)) × (List ((List UInt8) × (List UInt8) × Int)) × (List (List UInt8)))) (x3 : Int) (x4 : Int) (x5 : Int) (c0 : (Option.isSome (more_k16 x0 x1 x2 x3 x4 x5 m)) = true) (c1 : ¬ ((more_k1 x0 x1 x2 x3 x4 x5 m).1 == 0) = true) (c2 : ((more_k1 x0 x1 x2 x3 x4 x5 m).1 == 1) = true) (c3 : (decide (0 ≤ (more_k13 x1)) && decide ((more_k13 x1) ≤ (more_k23 x1))) = true) (c4 : (decide (0 ≤ (more_k14 x2)) && decide ((more_k14 x2) ≤ (more_k24 x2))) = true) (c6 : (((decide (-4611686018427387904 ≤ (withinI x4 (0) (50))) && decide (more_k25 x4)) && true) && decide (((60) - (withinI x4 (0) (50))) ≤ 2305843009213693951)) = true) (c8 : decide (((0 + (List.length (more_k2 x1))) * 40) ≤ 70368744177664) = true) (c11 : decide ((((0 + (List.length (more_k2 x1))) + 1) * 40) ≤ 70368744177664) = true) (c12 : decide ((0 + (List.length (more_k2 x1))) = (List.length (more_k2 x1))) = true) (c14 : heardPre (more_k4 x0 x1 x2 x3 x4 x5 m) (more_k2 x1) (more_k3 x2) = true) (c16 : decide ((0 + ((0 + (List.length (more_k2 x1))) + 1)) ≤ (more_k15 x1 x4 x5)) = true) (c17 : heardPre (more_k4 x0 x1 x2 x3 x4 x5 m) (more_k12 x1 x4 x5) (more_k3 x2) = true) (c19 : heardPre (more_k4 x0 x1 x2 x3 x4 x5 m) ([] : List ((List ((List UInt8) × (List UInt8) × Int)) × Int × Int)) ([] : List ((List ((List UInt8) × (List UInt8) × Int)) × (List ((List UInt8) × (List UInt8) × Int)) × (List (List UInt8)))) = true) (c20 : ¬ decide ((more_k5 x0 x1 x2 x3 x4 x5 m) > (more_k7 x0 x1 x2 x3 x4 x5 m)) = true) (c27 : heardPre (more_k4 x0 x1 x2 x3 x4 x5 m) (more_k2 x1) ([] : List ((List ((List UInt8) × (List UInt8) × Int)) × (List ((List UInt8) × (List UInt8) × Int)) × (List (List UInt8)))) = true) (c31 : ¬ decide ((more_k7 x0 x1 x2 x3 x4 x5 m) > (more_k10 x0 x1 x2 x3 x4 x5 m)) = true) (c37 : ¬ (more_k8 x0 x1 x2 x3 x4 x5 m) = true) (c38 : ¬ decide (more_k21 x3 x4) = true) (c50 : decide (more_k18 x3 x4) = true) (c64 : ¬ ((more_k5 x0 x1 x2 x3 x4 x5 m) != (more_k7 x0 x1 x2 x3 x4 x5 m)) = true) (c65 : (Option.isSome (more_k9 x0 x1 x2 x3 x4 x5 m)) = true) : (evCall F S13 (m + 25) 5 [(.d (.sl (.pair (.sl (.int .i64)) (.sl (.int .i64))) x0)), (.d (.sl (.pair (.sl (.pair .str (.pair .str (.int .i64)))) (.pair (.int .i64) (.int .i64))) x1)), (.d (.sl (.pair (.sl (.pair .str (.pair .str (.int .i64)))) (.pair (.sl (.pair .str (.pair .str (.int .i64)))) (.sl .str))) x2)), (.d (.int .i64 x3)), (.d (.int .i64 x4)), (.d (.int .i64 x5))] []).run = some (.d (.bool true), []) := by
  refine runT_ok (LS := (fun k => if k = 24639 then some (more_k22 x0 x1 x2 x3 x4 x5 m) else if k = 65334214448820184984967924626899496673280 then some (more_k11 x0 x1 x2 x3 x4 x5 m) else none)) (fn := fn5) (r := .d (.bool true)) (B' := []) (vis := [(24639, l5_0H x0 x1 x2 x3 x4 x5 0 (([] : List (List ((List UInt8) × (List UInt8))))), l5_0B x0 x1 x2 x3 x4 x5 0 (([] : List (List ((List UInt8) × (List UInt8)))))), (65334214448820184984967924626899496673280, l5_1H ((more_k3 x2)) ((((more_k6 x0 x1 x2 x3 x4 x5 m) : Nat) : Int)) 0 ((more_k1 x0 x1 x2 x3 x4 x5 m).2.2), l5_1B ((more_k3 x2)) ((((more_k6 x0 x1 x2 x3 x4 x5 m) : Nat) : Int)) 0 ((more_k1 x0 x1 x2 x3 x4 x5 m).2.2))]) (by kernel_rfl) rfl (by kernel_rfl) (M.run_of_path _ [true, true, true, true, true, true, true, true, true, true, true, true, true, true, true, true, true, false, false, false, false, false, false, true, true, false, false, false, false, false, false, false, false, false, false, false, false, false, false, false, false, false, false, false, false, false, false, true, true, true, false, true, false, true, true, true, true, true, false, true, false, false] _ _ (by kernel_rfl) (all_t c3 (all_t c4 (all_t rfl (all_t c6 (all_t rfl (all_t c8 (all_t rfl (all_t rfl (all_t c11 (all_t c12 (all_t (show decide ((0 + (more_k6 x0 x1 x2 x3 x4 x5 m)) ≤ (more_k6 x0 x1 x2 x3 x4 x5 m)) = true from decide_eq_true (Nat.le_of_eq (Nat.zero_add _))) (all_t c14 (all_t (show decide ((0 + (more_k6 x0 x1 x2 x3 x4 x5 m)) ≤ (more_k6 x0 x1 x2 x3 x4 x5 m)) = true from decide_eq_true (Nat.le_of_eq (Nat.zero_add _))) (all_t c16 (all_t c17 (all_t (show decide ((0 + (more_k6 x0 x1 x2 x3 x4 x5 m)) ≤ (more_k6 x0 x1 x2 x3 x4 x5 m)) = true from decide_eq_true (Nat.le_of_eq (Nat.zero_add _))) (all_t c19 (all_f c20 (all_f c20 (all_f c20 (all_f c20 (all_f c20 (all_f c20 (all_t (show decide ((0 + (more_k6 x0 x1 x2 x3 x4 x5 m)) ≤ (more_k6 x0 x1 x2 x3 x4 x5 m)) = true from decide_eq_true (Nat.le_of_eq (Nat.zero_add _))) (all_t c27 (all_f c20 (all_f c20 (all_f c20 (all_f c31 (all_f c31 (all_f c31 (all_f c31 (all_f c31 (all_f c31 (all_f c37 (all_f c38 (all_f c38 (all_f c38 (all_f c38 (all_f Bool.false_ne_true (all_f Bool.false_ne_true (all_f Bool.false_ne_true (all_f Bool.false_ne_true (all_f Bool.false_ne_true (all_f Bool.false_ne_true (all_f Bool.false_ne_true (all_f Bool.false_ne_true (all_t c50 (all_t c50 (all_t c50 (all_f Bool.false_ne_true (all_t c50 (all_f Bool.false_ne_true (all_t rfl (all_t rfl (all_t rfl (all_t rfl (all_t rfl (all_f Bool.false_ne_true (all_t rfl (all_f Bool.false_ne_true (all_f c64 all_nil))))))))))))))))))))))))))))))))))))))))))))))))))))))))))))))) ?_
  intro p hp p2 hq
  rcases List.mem_cons.1 hp with rfl | hp
  · skip
    have h3 := l5_0_ok m (m + 24) x0 x1 x2 x3 x4 x5 0 (([] : List (List ((List UInt8) × (List UInt8))))) _ (some_getD (d := l5_0D) c0)
    rw [eq_of_beq c2] at h3
    exact Eq.trans (Eq.mp (by kernel_rfl) h3) hq
  rcases List.mem_cons.1 hp with rfl | hp
  · skip
    have h3 := l5_1_ok m (m + 24) ((more_k3 x2)) ((((more_k6 x0 x1 x2 x3 x4 x5 m) : Nat) : Int)) 0 ((more_k1 x0 x1 x2 x3 x4 x5 m).2.2) _ (some_getD (d := l5_1D) c65)
    exact Eq.trans (Eq.mp (by kernel_rfl) h3) hq
  cases hp

set_option maxHeartbeats 20000000 in
theorem more_w16 (m : Nat) (x0 : List ((List Int) × (List Int))) (x1 : List ((List ((List UInt8) × (List UInt8) × Int)) × Int × Int)) (x2 : List ((List ((List UInt8) × (List UInt8) × Int)) × (List ((List UInt8) × (List UInt8) × Int)) × (List (List UInt8)))) (x3 : Int) (x4 : Int) (x5 : Int) (c0 : (Option.isSome (more_k16 x0 x1 x2 x3 x4 x5 m)) = true) (c1 : ¬ ((more_k1 x0 x1 x2 x3 x4 x5 m).1 == 0) = true) (c2 : ((more_k1 x0 x1 x2 x3 x4 x5 m).1 == 1) = true) (c3 : (decide (0 ≤ (more_k13 x1)) && decide ((more_k13 x1) ≤ (more_k23 x1))) = true) (c4 : (decide (0 ≤ (more_k14 x2)) && decide ((more_k14 x2) ≤ (more_k24 x2))) = true) (c6 : (((decide (-4611686018427387904 ≤ (withinI x4 (0) (50))) && decide (more_k25 x4)) && true) && decide (((60) - (withinI x4 (0) (50))) ≤ 2305843009213693951)) = true) (c8 : decide (((0 + (List.length (more_k2 x1))) * 40) ≤ 70368744177664) = true) (c11 : decide ((((0 + (List.length (more_k2 x1))) + 1) * 40) ≤ 70368744177664) = true) (c12 : decide ((0 + (List.length (more_k2 x1))) = (List.length (more_k2 x1))) = true) (c14 : heardPre (more_k4 x0 x1 x2 x3 x4 x5 m) (more_k2 x1) (more_k3 x2) = true) (c16 : decide ((0 + ((0 + (List.length (more_k2 x1))) + 1)) ≤ (more_k15 x1 x4 x5)) = true) (c17 : heardPre (more_k4 x0 x1 x2 x3 x4 x5 m) (more_k12 x1 x4 x5) (more_k3 x2) = true) (c19 : heardPre (more_k4 x0 x1 x2 x3 x4 x5 m) ([] : List ((List ((List UInt8) × (List UInt8) × Int)) × Int × Int)) ([] : List ((List ((List UInt8) × (List UInt8) × Int)) × (List ((List UInt8) × (List UInt8) × Int)) × (List (List UInt8)))) = true) (c20 : ¬ decide ((more_k5 x0 x1 x2 x3 x4 x5 m) > (more_k7 x0 x1 x2 x3 x4 x5 m)) = true) (c27 : heardPre (more_k4 x0 x1 x2 x3 x4 x5 m) (more_k2 x1) ([] : List ((List ((List UInt8) × (List UInt8) × Int)) × (List ((List UInt8) × (List UInt8) × Int)) × (List (List UInt8)))) = true) (c31 : ¬ decide ((more_k7 x0 x1 x2 x3 x4 x5 m) > (more_k10 x0 x1 x2 x3 x4 x5 m)) = true) (c37 : ¬ (more_k8 x0 x1 x2 x3 x4 x5 m) = true) (c38 : ¬ decide (more_k21 x3 x4) = true) (c50 : ¬ decide (more_k18 x3 x4) = true) (c56 : decide (more_k17 x3 x4 x5) = true) (c64 : ¬ ((more_k5 x0 x1 x2 x3 x4 x5 m) != (more_k7 x0 x1 x2 x3 x4 x5 m)) = true) (c65 : (Option.isSome (more_k9 x0 x1 x2 x3 x4 x5 m)) = true) : (evCall F S13 (m + 25) 5 [(.d (.sl (.pair (.sl (.int .i64)) (.sl (.int .i64))) x0)), (.d (.sl (.pair (.sl (.pair .str (.pair .str (.int .i64)))) (.pair (.int .i64) (.int .i64))) x1)), (.d (.sl (.pair (.sl (.pair .str (.pair .str (.int .i64)))) (.pair (.sl (.pair .str (.pair .str (.int .i64)))) (.sl .str))) x2)), (.d (.int .i64 x3)), (.d (.int .i64 x4)), (.d (.int .i64 x5))] []).run = some (.d (.bool true), []) := by
  refine runT_ok (LS := (fun k => if k = 24639 then some (more_k22 x0 x1 x2 x3 x4 x5 m) else if k = 65334214448820184984967924626899496673280 then some (more_k11 x0 x1 x2 x3 x4 x5 m) else none)) (fn := fn5) (r := .d (.bool true)) (B' := []) (vis := [(24639, l5_0H x0 x1 x2 x3 x4 x5 0 (([] : List (List ((List UInt8) × (List UInt8))))), l5_0B x0 x1 x2 x3 x4 x5 0 (([] : List (List ((List UInt8) × (List UInt8)))))), (65334214448820184984967924626899496673280, l5_1H ((more_k3 x2)) ((((more_k6 x0 x1 x2 x3 x4 x5 m) : Nat) : Int)) 0 ((more_k1 x0 x1 x2 x3 x4 x5 m).2.2), l5_1B ((more_k3 x2)) ((((more_k6 x0 x1 x2 x3 x4 x5 m) : Nat) : Int)) 0 ((more_k1 x0 x1 x2 x3 x4 x5 m).2.2))]) (by kernel_rfl) rfl (by kernel_rfl) (M.run_of_path _ [true, true, true, true, true, true, true, true, true, true, true, true, true, true, true, true, true, false, false, false, false, false, false, true, true, false, false, false, false, false, false, false, false, false, false, false, false, false, false, false, false, false, false, false, false, false, false, false, false, false, false, false, false, true, true, true, true, true, false, true, false, false] _ _ (by kernel_rfl) (all_t c3 (all_t c4 (all_t rfl (all_t c6 (all_t rfl (all_t c8 (all_t rfl (all_t rfl (all_t c11 (all_t c12 (all_t (show decide ((0 + (more_k6 x0 x1 x2 x3 x4 x5 m)) ≤ (more_k6 x0 x1 x2 x3 x4 x5 m)) = true from decide_eq_true (Nat.le_of_eq (Nat.zero_add _))) (all_t c14 (all_t (show decide ((0 + (more_k6 x0 x1 x2 x3 x4 x5 m)) ≤ (more_k6 x0 x1 x2 x3 x4 x5 m)) = true from decide_eq_true (Nat.le_of_eq (Nat.zero_add _))) (all_t c16 (all_t c17 (all_t (show decide ((0 + (more_k6 x0 x1 x2 x3 x4 x5 m)) ≤ (more_k6 x0 x1 x2 x3 x4 x5 m)) = true from decide_eq_true (Nat.le_of_eq (Nat.zero_add _))) (all_t c19 (all_f c20 (all_f c20 (all_f c20 (all_f c20 (all_f c20 (all_f c20 (all_t (show decide ((0 + (more_k6 x0 x1 x2 x3 x4 x5 m)) ≤ (more_k6 x0 x1 x2 x3 x4 x5 m)) = true from decide_eq_true (Nat.le_of_eq (Nat.zero_add _))) (all_t c27 (all_f c20 (all_f c20 (all_f c20 (all_f c31 (all_f c31 (all_f c31 (all_f c31 (all_f c31 (all_f c31 (all_f c37 (all_f c38 (all_f c38 (all_f c38 (all_f c38 (all_f Bool.false_ne_true (all_f Bool.false_ne_true (all_f Bool.false_ne_true (all_f Bool.false_ne_true (all_f Bool.false_ne_true (all_f Bool.false_ne_true (all_f Bool.false_ne_true (all_f Bool.false_ne_true (all_f c50 (all_f c50 (all_f c50 (all_f Bool.false_ne_true (all_f c50 (all_f Bool.false_ne_true (all_t c56 (all_t c56 (all_t c56 (all_t c56 (all_t c56 (all_f Bool.false_ne_true (all_t c56 (all_f Bool.false_ne_true (all_f c64 all_nil))))))))))))))))))))))))))))))))))))))))))))))))))))))))))))))) ?_
  intro p hp p2 hq
  rcases List.mem_cons.1 hp with rfl | hp
  · skip
    have h3 := l5_0_ok m (m + 24) x0 x1 x2 x3 x4 x5 0 (([] : List (List ((List UInt8) × (List UInt8))))) _ (some_getD (d := l5_0D) c0)
    rw [eq_of_beq c2] at h3
    exact Eq.trans (Eq.mp (by kernel_rfl) h3) hq
  rcases List.mem_cons.1 hp with rfl | hp
  · skip
    have h3 := l5_1_ok m (m + 24) ((more_k3 x2)) ((((more_k6 x0 x1 x2 x3 x4 x5 m) : Nat) : Int)) 0 ((more_k1 x0 x1 x2 x3 x4 x5 m).2.2) _ (some_getD (d := l5_1D) c65)
    exact Eq.trans (Eq.mp (by kernel_rfl) h3) hq
  cases hp

set_option maxHeartbeats 20000000 in
theorem more_w17 (m : Nat) (x0 : List ((List Int) × (List Int))) (x1 : List ((List ((List UInt8) × (List UInt8) × Int)) × Int × Int)) (x2 : List ((List ((List UInt8) × (List UInt8) × Int)) × (List ((List UInt8) × (List UInt8) × Int)) × (List (List UInt8)))) (x3 : Int) (x4 : Int) (x5 : Int) (c0 : (Option.isSome (more_k16 x0 x1 x2 x3 x4 x5 m)) = true) (c1 : ¬ ((more_k1 x0 x1 x2 x3 x4 x5 m).1 == 0) = true) (c2 : ((more_k1 x0 x1 x2 x3 x4 x5 m).1 == 1) = true) (c3 : (decide (0 ≤ (more_k13 x1)) && decide ((more_k13 x1) ≤ (more_k23 x1))) = true) (c4 : (decide (0 ≤ (more_k14 x2)) && decide ((more_k14 x2) ≤ (more_k24 x2))) = true) (c6 : (((decide (-4611686018427387904 ≤ (withinI x4 (0) (50))) && decide (more_k25 x4)) && true) && decide (((60) - (withinI x4 (0) (50))) ≤ 2305843009213693951)) = true) (c8 : decide (((0 + (List.length (more_k2 x1))) * 40) ≤ 70368744177664) = true) (c11 : decide ((((0 + (List.length (more_k2 x1))) + 1) * 40) ≤ 70368744177664) = true) (c12 : decide ((0 + (List.length (more_k2 x1))) = (List.length (more_k2 x1))) = true) (c14 : heardPre (more_k4 x0 x1 x2 x3 x4 x5 m) (more_k2 x1) (more_k3 x2) = true) (c16 : decide ((0 + ((0 + (List.length (more_k2 x1))) + 1)) ≤ (more_k15 x1 x4 x5)) = true) (c17 : heardPre (more_k4 x0 x1 x2 x3 x4 x5 m) (more_k12 x1 x4 x5) (more_k3 x2) = true) (c19 : heardPre (more_k4 x0 x1 x2 x3 x4 x5 m) ([] : List ((List ((List UInt8) × (List UInt8) × Int)) × Int × Int)) ([] : List ((List ((List UInt8) × (List UInt8) × Int)) × (List ((List UInt8) × (List UInt8) × Int)) × (List (List UInt8)))) = true) (c20 : ¬ decide ((more_k5 x0 x1 x2 x3 x4 x5 m) > (more_k7 x0 x1 x2 x3 x4 x5 m)) = true) (c27 : heardPre (more_k4 x0 x1 x2 x3 x4 x5 m) (more_k2 x1) ([] : List ((List ((List UInt8) × (List UInt8) × Int)) × (List ((List UInt8) × (List UInt8) × Int)) × (List (List UInt8)))) = true) (c31 : ¬ decide ((more_k7 x0 x1 x2 x3 x4 x5 m) > (more_k10 x0 x1 x2 x3 x4 x5 m)) = true) (c37 : ¬ (more_k8 x0 x1 x2 x3 x4 x5 m) = true) (c38 : ¬ decide (more_k21 x3 x4) = true) (c50 : ¬ decide (more_k18 x3 x4) = true) (c56 : ¬ decide (more_k17 x3 x4 x5) = true) (c65 : (Option.isSome (more_k9 x0 x1 x2 x3 x4 x5 m)) = true) : (evCall F S13 (m + 25) 5 [(.d (.sl (.pair (.sl (.int .i64)) (.sl (.int .i64))) x0)), (.d (.sl (.pair (.sl (.pair .str (.pair .str (.int .i64)))) (.pair (.int .i64) (.int .i64))) x1)), (.d (.sl (.pair (.sl (.pair .str (.pair .str (.int .i64)))) (.pair (.sl (.pair .str (.pair .str (.int .i64)))) (.sl .str))) x2)), (.d (.int .i64 x3)), (.d (.int .i64 x4)), (.d (.int .i64 x5))] []).run = some (.d (.bool true), []) := by
  refine runT_ok (LS := (fun k => if k = 24639 then some (more_k22 x0 x1 x2 x3 x4 x5 m) else if k = 65334214448820184984967924626899496673280 then some (more_k11 x0 x1 x2 x3 x4 x5 m) else none)) (fn := fn5) (r := .d (.bool true)) (B' := []) (vis := [(24639, l5_0H x0 x1 x2 x3 x4 x5 0 (([] : List (List ((List UInt8) × (List UInt8))))), l5_0B x0 x1 x2 x3 x4 x5 0 (([] : List (List ((List UInt8) × (List UInt8)))))), (65334214448820184984967924626899496673280, l5_1H ((more_k3 x2)) ((((more_k6 x0 x1 x2 x3 x4 x5 m) : Nat) : Int)) 0 ((more_k1 x0 x1 x2 x3 x4 x5 m).2.2), l5_1B ((more_k3 x2)) ((((more_k6 x0 x1 x2 x3 x4 x5 m) : Nat) : Int)) 0 ((more_k1 x0 x1 x2 x3 x4 x5 m).2.2))]) (by kernel_rfl) rfl (by kernel_rfl) (M.run_of_path _ [true, true, true, true, true, true, true, true, true, true, true, true, true, true, true, true, true, false, false, false, false, false, false, true, true, false, false, false, false, false, false, false, false, false, false, false, false, false, false, false, false, false, false, false, false, false, false, false, false, false, false, false, false, false, false, false, false, false, false, false, false, false] _ _ (by kernel_rfl) (all_t c3 (all_t c4 (all_t rfl (all_t c6 (all_t rfl (all_t c8 (all_t rfl (all_t rfl (all_t c11 (all_t c12 (all_t (show decide ((0 + (more_k6 x0 x1 x2 x3 x4 x5 m)) ≤ (more_k6 x0 x1 x2 x3 x4 x5 m)) = true from decide_eq_true (Nat.le_of_eq (Nat.zero_add _))) (all_t c14 (all_t (show decide ((0 + (more_k6 x0 x1 x2 x3 x4 x5 m)) ≤ (more_k6 x0 x1 x2 x3 x4 x5 m)) = true from decide_eq_true (Nat.le_of_eq (Nat.zero_add _))) (all_t c16 (all_t c17 (all_t (show decide ((0 + (more_k6 x0 x1 x2 x3 x4 x5 m)) ≤ (more_k6 x0 x1 x2 x3 x4 x5 m)) = true from decide_eq_true (Nat.le_of_eq (Nat.zero_add _))) (all_t c19 (all_f c20 (all_f c20 (all_f c20 (all_f c20 (all_f c20 (all_f c20 (all_t (show decide ((0 + (more_k6 x0 x1 x2 x3 x4 x5 m)) ≤ (more_k6 x0 x1 x2 x3 x4 x5 m)) = true from decide_eq_true (Nat.le_of_eq (Nat.zero_add _))) (all_t c27 (all_f c20 (all_f c20 (all_f c20 (all_f c31 (all_f c31 (all_f c31 (all_f c31 (all_f c31 (all_f c31 (all_f c37 (all_f c38 (all_f c38 (all_f c38 (all_f c38 (all_f Bool.false_ne_true (all_f Bool.false_ne_true (all_f Bool.false_ne_true (all_f Bool.false_ne_true (all_f Bool.false_ne_true (all_f Bool.false_ne_true (all_f Bool.false_ne_true (all_f Bool.false_ne_true (all_f c50 (all_f c50 (all_f c50 (all_f Bool.false_ne_true (all_f c50 (all_f Bool.false_ne_true (all_f c56 (all_f c56 (all_f c56 (all_f c56 (all_f c56 (all_f Bool.false_ne_true (all_f c56 (all_f Bool.false_ne_true (all_f Bool.false_ne_true all_nil))))))))))))))))))))))))))))))))))))))))))))))))))))))))))))))) ?_
  intro p hp p2 hq
  rcases List.mem_cons.1 hp with rfl | hp
  · skip
    have h3 := l5_0_ok m (m + 24) x0 x1 x2 x3 x4 x5 0 (([] : List (List ((List UInt8) × (List UInt8))))) _ (some_getD (d := l5_0D) c0)
    rw [eq_of_beq c2] at h3
    exact Eq.trans (Eq.mp (by kernel_rfl) h3) hq
  rcases List.mem_cons.1 hp with rfl | hp
  · skip
    have h3 := l5_1_ok m (m + 24) ((more_k3 x2)) ((((more_k6 x0 x1 x2 x3 x4 x5 m) : Nat) : Int)) 0 ((more_k1 x0 x1 x2 x3 x4 x5 m).2.2) _ (some_getD (d := l5_1D) c65)
    exact Eq.trans (Eq.mp (by kernel_rfl) h3) hq
  cases hp

set_option maxHeartbeats 20000000 in
theorem more_ok (m : Nat) (x0 : List ((List Int) × (List Int))) (x1 : List ((List ((List UInt8) × (List UInt8) × Int)) × Int × Int)) (x2 : List ((List ((List UInt8) × (List UInt8) × Int)) × (List ((List UInt8) × (List UInt8) × Int)) × (List (List UInt8)))) (x3 : Int) (x4 : Int) (x5 : Int) (q : Unit) (h : more m x0 x1 x2 x3 x4 x5 = some q) : (evCall F S13 (m + 25) 5 [(.d (.sl (.pair (.sl (.int .i64)) (.sl (.int .i64))) x0)), (.d (.sl (.pair (.sl (.pair .str (.pair .str (.int .i64)))) (.pair (.int .i64) (.int .i64))) x1)), (.d (.sl (.pair (.sl (.pair .str (.pair .str (.int .i64)))) (.pair (.sl (.pair .str (.pair .str (.int .i64)))) (.sl .str))) x2)), (.d (.int .i64 x3)), (.d (.int .i64 x4)), (.d (.int .i64 x5))] []).run = some (.d (.bool true), []) := by
  unfold more at h
  refine ite_cases h (fun c0 h => ?_) (fun c0 h => ?_)
  · skip
    refine ite_cases h (fun c1 h => ?_) (fun c1 h => ?_)
    · skip
      refine ite_cases h (fun c2 h => ?_) (fun c2 h => ?_)
      · skip
        refine ite_cases h (fun c3 h => ?_) (fun c3 h => ?_)
        · skip
          refine ite_cases h (fun c5 h => ?_) (fun c5 h => ?_)
          · skip
            refine ite_cases h (fun c7 h => ?_) (fun c7 h => ?_)
            · skip
              refine ite_cases h (fun c10 h => ?_) (fun c10 h => ?_)
              · skip
                refine ite_cases h (fun c11 h => ?_) (fun c11 h => ?_)
                · skip
                  refine ite_cases h (fun c13 h => ?_) (fun c13 h => ?_)
                  · skip
                    refine ite_cases h (fun c15 h => ?_) (fun c15 h => ?_)
                    · skip
                      refine ite_cases h (fun c16 h => ?_) (fun c16 h => ?_)
                      · skip
                        refine ite_cases h (fun c18 h => ?_) (fun c18 h => ?_)
                        · skip
                          refine ite_cases h (fun c19 h => ?_) (fun c19 h => ?_)
                          · skip
                            cases h
                          · skip
                            refine ite_cases h (fun c26 h => ?_) (fun c26 h => ?_)
                            · skip
                              refine ite_cases h (fun c30 h => ?_) (fun c30 h => ?_)
                              · skip
                                cases h
                              · skip
                                refine ite_cases h (fun c36 h => ?_) (fun c36 h => ?_)
                                · skip
                                  cases h
                                · skip
                                  refine ite_cases h (fun c37 h => ?_) (fun c37 h => ?_)
                                  · skip
                                    refine ite_cases h (fun c41 h => ?_) (fun c41 h => ?_)
                                    · skip
                                      refine ite_cases h (fun c45 h => ?_) (fun c45 h => ?_)
                                      · skip
                                        cases h
                                      · skip
                                        refine ite_cases h (fun c49 h => ?_) (fun c49 h => ?_)
                                        · skip
                                          refine ite_cases h (fun c63 h => ?_) (fun c63 h => ?_)
                                          · skip
                                            cases h
                                          · skip
                                            refine ite_cases h (fun c64 h => ?_) (fun c64 h => ?_)
                                            · skip
                                              cases h
                                              exact more_w0 m x0 x1 x2 x3 x4 x5 c0 c1 c2 c3 c5 c7 c10 c11 c13 c15 c16 c18 c19 c26 c30 c36 c37 c41 c45 c49 c63 c64
                                            · skip
                                              cases h
                                        · skip
                                          refine ite_cases h (fun c55 h => ?_) (fun c55 h => ?_)
                                          · skip
                                            refine ite_cases h (fun c63 h => ?_) (fun c63 h => ?_)
                                            · skip
                                              cases h
                                            · skip
                                              refine ite_cases h (fun c64 h => ?_) (fun c64 h => ?_)
                                              · skip
                                                cases h
                                                exact more_w1 m x0 x1 x2 x3 x4 x5 c0 c1 c2 c3 c5 c7 c10 c11 c13 c15 c16 c18 c19 c26 c30 c36 c37 c41 c45 c49 c55 c63 c64
                                              · skip
                                                cases h
                                          · skip
                                            refine ite_cases h (fun c64 h => ?_) (fun c64 h => ?_)
                                            · skip
                                              cases h
                                              exact more_w2 m x0 x1 x2 x3 x4 x5 c0 c1 c2 c3 c5 c7 c10 c11 c13 c15 c16 c18 c19 c26 c30 c36 c37 c41 c45 c49 c55 c64
                                            · skip
                                              cases h
                                    · skip
                                      refine ite_cases h (fun c49 h => ?_) (fun c49 h => ?_)
                                      · skip
                                        refine ite_cases h (fun c63 h => ?_) (fun c63 h => ?_)
                                        · skip
                                          cases h
                                        · skip
                                          refine ite_cases h (fun c64 h => ?_) (fun c64 h => ?_)
                                          · skip
                                            cases h
                                            exact more_w3 m x0 x1 x2 x3 x4 x5 c0 c1 c2 c3 c5 c7 c10 c11 c13 c15 c16 c18 c19 c26 c30 c36 c37 c41 c49 c63 c64
                                          · skip
                                            cases h
                                      · skip
                                        refine ite_cases h (fun c55 h => ?_) (fun c55 h => ?_)
                                        · skip
                                          refine ite_cases h (fun c63 h => ?_) (fun c63 h => ?_)
                                          · skip
                                            cases h
                                          · skip
                                            refine ite_cases h (fun c64 h => ?_) (fun c64 h => ?_)
                                            · skip
                                              cases h
                                              exact more_w4 m x0 x1 x2 x3 x4 x5 c0 c1 c2 c3 c5 c7 c10 c11 c13 c15 c16 c18 c19 c26 c30 c36 c37 c41 c49 c55 c63 c64
                                            · skip
                                              cases h
                                        · skip
                                          refine ite_cases h (fun c64 h => ?_) (fun c64 h => ?_)
                                          · skip
                                            cases h
                                            exact more_w5 m x0 x1 x2 x3 x4 x5 c0 c1 c2 c3 c5 c7 c10 c11 c13 c15 c16 c18 c19 c26 c30 c36 c37 c41 c49 c55 c64
                                          · skip
                                            cases h
                                  · skip
                                    refine ite_cases h (fun c49 h => ?_) (fun c49 h => ?_)
                                    · skip
                                      refine ite_cases h (fun c63 h => ?_) (fun c63 h => ?_)
                                      · skip
                                        cases h
                                      · skip
                                        refine ite_cases h (fun c64 h => ?_) (fun c64 h => ?_)
                                        · skip
                                          cases h
                                          exact more_w6 m x0 x1 x2 x3 x4 x5 c0 c1 c2 c3 c5 c7 c10 c11 c13 c15 c16 c18 c19 c26 c30 c36 c37 c49 c63 c64
                                        · skip
                                          cases h
                                    · skip
                                      refine ite_cases h (fun c55 h => ?_) (fun c55 h => ?_)
                                      · skip
                                        refine ite_cases h (fun c63 h => ?_) (fun c63 h => ?_)
                                        · skip
                                          cases h
                                        · skip
                                          refine ite_cases h (fun c64 h => ?_) (fun c64 h => ?_)
                                          · skip
                                            cases h
                                            exact more_w7 m x0 x1 x2 x3 x4 x5 c0 c1 c2 c3 c5 c7 c10 c11 c13 c15 c16 c18 c19 c26 c30 c36 c37 c49 c55 c63 c64
                                          · skip
                                            cases h
                                      · skip
                                        refine ite_cases h (fun c64 h => ?_) (fun c64 h => ?_)
                                        · skip
                                          cases h
                                          exact more_w8 m x0 x1 x2 x3 x4 x5 c0 c1 c2 c3 c5 c7 c10 c11 c13 c15 c16 c18 c19 c26 c30 c36 c37 c49 c55 c64
                                        · skip
                                          cases h
                            · skip
                              cases h
                        · skip
                          cases h
                      · skip
                        cases h
                    · skip
                      cases h
                  · skip
                    cases h
                · skip
                  cases h
              · skip
                cases h
            · skip
              cases h
          · skip
            cases h
        · skip
          cases h
      · skip
        cases h
    · skip
      refine ite_cases h (fun c2 h => ?_) (fun c2 h => ?_)
      · skip
        refine ite_cases h (fun c3 h => ?_) (fun c3 h => ?_)
        · skip
          refine ite_cases h (fun c4 h => ?_) (fun c4 h => ?_)
          · skip
            refine ite_cases h (fun c6 h => ?_) (fun c6 h => ?_)
            · skip
              refine ite_cases h (fun c8 h => ?_) (fun c8 h => ?_)
              · skip
                refine ite_cases h (fun c11 h => ?_) (fun c11 h => ?_)
                · skip
                  refine ite_cases h (fun c12 h => ?_) (fun c12 h => ?_)
                  · skip
                    refine ite_cases h (fun c14 h => ?_) (fun c14 h => ?_)
                    · skip
                      refine ite_cases h (fun c16 h => ?_) (fun c16 h => ?_)
                      · skip
                        refine ite_cases h (fun c17 h => ?_) (fun c17 h => ?_)
                        · skip
                          refine ite_cases h (fun c19 h => ?_) (fun c19 h => ?_)
                          · skip
                            refine ite_cases h (fun c20 h => ?_) (fun c20 h => ?_)
                            · skip
                              cases h
                            · skip
                              refine ite_cases h (fun c27 h => ?_) (fun c27 h => ?_)
                              · skip
                                refine ite_cases h (fun c31 h => ?_) (fun c31 h => ?_)
                                · skip
                                  cases h
                                · skip
                                  refine ite_cases h (fun c37 h => ?_) (fun c37 h => ?_)
                                  · skip
                                    cases h
                                  · skip
                                    refine ite_cases h (fun c38 h => ?_) (fun c38 h => ?_)
                                    · skip
                                      refine ite_cases h (fun c42 h => ?_) (fun c42 h => ?_)
                                      · skip
                                        refine ite_cases h (fun c46 h => ?_) (fun c46 h => ?_)
                                        · skip
                                          cases h
                                        · skip
                                          refine ite_cases h (fun c50 h => ?_) (fun c50 h => ?_)
                                          · skip
                                            refine ite_cases h (fun c64 h => ?_) (fun c64 h => ?_)
                                            · skip
                                              cases h
                                            · skip
                                              refine ite_cases h (fun c65 h => ?_) (fun c65 h => ?_)
                                              · skip
                                                cases h
                                                exact more_w9 m x0 x1 x2 x3 x4 x5 c0 c1 c2 c3 c4 c6 c8 c11 c12 c14 c16 c17 c19 c20 c27 c31 c37 c38 c42 c46 c50 c64 c65
                                              · skip
                                                cases h
                                          · skip
                                            refine ite_cases h (fun c56 h => ?_) (fun c56 h => ?_)
                                            · skip
                                              refine ite_cases h (fun c64 h => ?_) (fun c64 h => ?_)
                                              · skip
                                                cases h
                                              · skip
                                                refine ite_cases h (fun c65 h => ?_) (fun c65 h => ?_)
                                                · skip
                                                  cases h
                                                  exact more_w10 m x0 x1 x2 x3 x4 x5 c0 c1 c2 c3 c4 c6 c8 c11 c12 c14 c16 c17 c19 c20 c27 c31 c37 c38 c42 c46 c50 c56 c64 c65
                                                · skip
                                                  cases h
                                            · skip
                                              refine ite_cases h (fun c65 h => ?_) (fun c65 h => ?_)
                                              · skip
                                                cases h
                                                exact more_w11 m x0 x1 x2 x3 x4 x5 c0 c1 c2 c3 c4 c6 c8 c11 c12 c14 c16 c17 c19 c20 c27 c31 c37 c38 c42 c46 c50 c56 c65
                                              · skip
                                                cases h
                                      · skip
                                        refine ite_cases h (fun c50 h => ?_) (fun c50 h => ?_)
                                        · skip
                                          refine ite_cases h (fun c64 h => ?_) (fun c64 h => ?_)
                                          · skip
                                            cases h
                                          · skip
                                            refine ite_cases h (fun c65 h => ?_) (fun c65 h => ?_)
                                            · skip
                                              cases h
                                              exact more_w12 m x0 x1 x2 x3 x4 x5 c0 c1 c2 c3 c4 c6 c8 c11 c12 c14 c16 c17 c19 c20 c27 c31 c37 c38 c42 c50 c64 c65
                                            · skip
                                              cases h
                                        · skip
                                          refine ite_cases h (fun c56 h => ?_) (fun c56 h => ?_)
                                          · skip
                                            refine ite_cases h (fun c64 h => ?_) (fun c64 h => ?_)
                                            · skip
                                              cases h
                                            · skip
                                              refine ite_cases h (fun c65 h => ?_) (fun c65 h => ?_)
                                              · skip
                                                cases h
                                                exact more_w13 m x0 x1 x2 x3 x4 x5 c0 c1 c2 c3 c4 c6 c8 c11 c12 c14 c16 c17 c19 c20 c27 c31 c37 c38 c42 c50 c56 c64 c65
                                              · skip
                                                cases h
                                          · skip
                                            refine ite_cases h (fun c65 h => ?_) (fun c65 h => ?_)
                                            · skip
                                              cases h
                                              exact more_w14 m x0 x1 x2 x3 x4 x5 c0 c1 c2 c3 c4 c6 c8 c11 c12 c14 c16 c17 c19 c20 c27 c31 c37 c38 c42 c50 c56 c65
                                            · skip
                                              cases h
                                    · skip
                                      refine ite_cases h (fun c50 h => ?_) (fun c50 h => ?_)
                                      · skip
                                        refine ite_cases h (fun c64 h => ?_) (fun c64 h => ?_)
                                        · skip
                                          cases h
                                        · skip
                                          refine ite_cases h (fun c65 h => ?_) (fun c65 h => ?_)
                                          · skip
                                            cases h
                                            exact more_w15 m x0 x1 x2 x3 x4 x5 c0 c1 c2 c3 c4 c6 c8 c11 c12 c14 c16 c17 c19 c20 c27 c31 c37 c38 c50 c64 c65
                                          · skip
                                            cases h
                                      · skip
                                        refine ite_cases h (fun c56 h => ?_) (fun c56 h => ?_)
                                        · skip
                                          refine ite_cases h (fun c64 h => ?_) (fun c64 h => ?_)
                                          · skip
                                            cases h
                                          · skip
                                            refine ite_cases h (fun c65 h => ?_) (fun c65 h => ?_)
                                            · skip
                                              cases h
                                              exact more_w16 m x0 x1 x2 x3 x4 x5 c0 c1 c2 c3 c4 c6 c8 c11 c12 c14 c16 c17 c19 c20 c27 c31 c37 c38 c50 c56 c64 c65
                                            · skip
                                              cases h
                                        · skip
                                          refine ite_cases h (fun c65 h => ?_) (fun c65 h => ?_)
                                          · skip
                                            cases h
                                            exact more_w17 m x0 x1 x2 x3 x4 x5 c0 c1 c2 c3 c4 c6 c8 c11 c12 c14 c16 c17 c19 c20 c27 c31 c37 c38 c50 c56 c65
                                          · skip
                                            cases h
                              · skip
                                cases h
                          · skip
                            cases h
                        · skip
                          cases h
                      · skip
                        cases h
                    · skip
                      cases h
                  · skip
                    cases h
                · skip
                  cases h
              · skip
                cases h
            · skip
              cases h
          · skip
            cases h
        · skip
          cases h
      · skip
        cases h
  · skip
    cases h
theorem more_at (x0 : List ((List Int) × (List Int))) (x1 : List ((List ((List UInt8) × (List UInt8) × Int)) × Int × Int)) (x2 : List ((List ((List UInt8) × (List UInt8) × Int)) × (List ((List UInt8) × (List UInt8) × Int)) × (List (List UInt8)))) (x3 : Int) (x4 : Int) (x5 : Int) (h : ∃ m q, more m x0 x1 x2 x3 x4 x5 = some q) : ∃ g B', CallAt Tryd.prog 5 g ∧ (g [(.d (.sl (.pair (.sl (.int .i64)) (.sl (.int .i64))) x0)), (.d (.sl (.pair (.sl (.pair .str (.pair .str (.int .i64)))) (.pair (.int .i64) (.int .i64))) x1)), (.d (.sl (.pair (.sl (.pair .str (.pair .str (.int .i64)))) (.pair (.sl (.pair .str (.pair .str (.int .i64)))) (.sl .str))) x2)), (.d (.int .i64 x3)), (.d (.int .i64 x4)), (.d (.int .i64 x5))] []).run = some (.d (.bool true), B') := by
  obtain ⟨m, q, h⟩ := h
  exact ⟨_, _, evCall_atH mixed kinds hds S13 S13_ok (m + 25) 5, more_ok m x0 x1 x2 x3 x4 x5 q h⟩

end Go.Proofs.YtghkbjflejgieaaDoor.Dec
namespace Go.Proofs.YtghkbjflejgieaaDoor.Dec
open Go.Ev
set_option linter.unusedVariables false
set_option linter.unusedSimpArgs false
set_option maxRecDepth 100000
theorem setG_len (k : List Int × List Int) : (setG k).length ≤ 3 := by
  unfold setG
  split <;> split <;> split <;> simp
abbrev KS := List ((List Int) × (List Int))
theorem sets_loop (m : Nat) (x0 : KS) (x1 : SS) (x2 : HS) (x3 x4 x5 : Int) : ∀ (n k : Nat) (b : List LB), k ≤ 6 → k ≤ x0.length → 6 - k < n → b.length ≤ k → ∃ e j, l5_0 m n x0 x1 x2 x3 x4 x5 (k : Nat) b = some (e, j, b ++ ((x0.take 6).drop k).map setG) ∧ (e = 0 ∨ e = 1)
  | 0, k, b, _, _, h, _ => by omega
  | n + 1, k, b, g1, g2, g3, g4 => by
    rw [l5_0]
    by_cases hk : k < x0.length
    · have e1 : decide (((k : Nat) : Int) < (((List.length x0) : Nat) : Int)) = true := decide_eq_true (by omega)
      by_cases hj : k < 6
      · have e2 : decide (((k : Nat) : Int) < 6) = true := decide_eq_true (by omega)
        have e3 : decide ((0 : Int) ≤ ((k : Nat) : Int)) = true := decide_eq_true (by omega)
        have e4 : decide ((((List.length b) + 1) * 24) ≤ 70368744177664) = true := decide_eq_true (by omega)
        have e7 : IntKind.wrap .i64 (((k : Nat) : Int) + (1)) = ((k + 1 : Nat) : Int) := by rw [wrap_id (by omega) (by omega)]; rfl
        rw [e7, show Int.toNat ((k : Nat) : Int) = k from rfl, if_pos e1, if_pos e2, if_pos e3, if_pos e4]
        obtain ⟨e, j, hr, he⟩ := sets_loop m x0 x1 x2 x3 x4 x5 n (k + 1) (b ++ [setG (x0.getD k (([] : List Int), ([] : List Int)))]) (by omega) (by omega) (by omega) (by simp; omega)
        refine ⟨e, j, ?_, he⟩
        rw [hr]
        have hd : (x0.take 6).drop k = x0.getD k (([] : List Int), ([] : List Int)) :: (x0.take 6).drop (k + 1) := by
          rw [drop_getD (x0.take 6) k (([] : List Int), ([] : List Int)) (by rw [List.length_take]; omega)]
          congr 1
          rw [List.getD_eq_getElem?_getD, List.getD_eq_getElem?_getD, List.getElem?_take_of_lt hj]
        rw [hd]
        simp
      · have e2 : decide (((k : Nat) : Int) < 6) = false := decide_eq_false (by omega)
        rw [if_pos e1, e2, if_neg (by simp), List.drop_eq_nil_of_le (by rw [List.length_take]; omega)]
        exact ⟨0, (k : Nat), by simp, .inl rfl⟩
    · have e1 : decide (((k : Nat) : Int) < (((List.length x0) : Nat) : Int)) = false := decide_eq_false (by omega)
      rw [e1, if_neg (by simp), List.drop_eq_nil_of_le (by rw [List.length_take]; omega)]
      exact ⟨1, (k : Nat), by simp, .inr rfl⟩
theorem own_loop (m : Nat) (hs : HS) (all : List LB) (ha : all.length ≤ 6) (hx : ∀ x ∈ all, x.length ≤ 3) (h1 : hs.length ≤ 4) (h2 : ∀ h ∈ hs, h.1.length ≤ 9223372036854775807 ∧ h.2.1.length ≤ 9223372036854775807 ∧ h.2.2.length ≤ 9223372036854775807) : ∀ (n k : Nat), k ≤ all.length → all.length - k < n → ∃ j, l5_1 m n hs (all.length : Nat) (k : Nat) all = some (0, j)
  | 0, k, _, h => by omega
  | n + 1, k, g1, g2 => by
    rw [l5_1]
    by_cases hk : k < all.length
    · have e1 : decide (((k : Nat) : Int) < (((List.length all) : Nat) : Int)) = true := decide_eq_true (by omega)
      have e7 : IntKind.wrap .i64 (((k : Nat) : Int) + (1)) = ((k + 1 : Nat) : Int) := by rw [wrap_id (by omega) (by omega)]; rfl
      have e2 : (decide (0 ≤ ((k + 1 : Nat) : Int)) && decide (((k + 1 : Nat) : Int) ≤ (((List.length all) : Nat) : Int))) = true := by simp; omega
      have e3 : (decide (0 ≤ ((k : Nat) : Int)) && decide (((k : Nat) : Int) ≤ ((k + 1 : Nat) : Int))) = true := by simp; omega
      have e4 : (decide (k < List.length all) || decide (k = 0)) = true := by simp [hk]
      have e5 : decide (k + (k + 1 - k) ≤ List.length all) = true := decide_eq_true (by omega)
      have hq := hx _ (getD_mem all k ([] : LB) hk)
      have hT : List.take (k + 1 - k) (List.drop k all) = [all.getD k ([] : LB)] := by
        rw [drop_getD all k ([] : LB) hk, show k + 1 - k = 1 by omega]; rfl
      obtain ⟨o, ho⟩ : ∃ o, all.getD k ([] : LB) = o := ⟨_, rfl⟩
      rw [ho] at hq hT
      have e6 : inhPre [o] hs = true := decide_eq_true ⟨by simp, by simpa using by omega, by omega, h2⟩
      have e8 : inhG [o] (0) hs = false := by
        unfold inhG
        rw [if_neg (by omega), if_neg (by simp)]
        rw [List.any_eq_false]
        intro h _
        show ¬ (allG o h.2.1 && [o].any (hitG o h)) = true
        have : hitG o h o = false := by unfold hitG; rw [beq_self_eq_true]; rfl
        simp [this]
      simp only [e1, e2, e3, e4, e5, e6, e7, e8, hT, Int.toNat_natCast, Nat.zero_add, ↓reduceIte, Bool.false_eq_true]
      exact own_loop m hs all ha hx h1 h2 n (k + 1) (by omega) (by omega)
    · have e1 : decide (((k : Nat) : Int) < (((List.length all) : Nat) : Int)) = false := decide_eq_false (by omega)
      rw [e1, if_neg (by simp)]
      exact ⟨_, rfl⟩
theorem filter_mono {α : Type} (l : List α) (p q : α → Bool) (h : ∀ x, p x = true → q x = true) : (l.filter p).length ≤ (l.filter q).length := by
  rw [← List.countP_eq_length_filter, ← List.countP_eq_length_filter]
  exact List.countP_mono_left fun x _ => h x
theorem silG_app (x : LB) (t : Int) (s : SS) (z : (List MT) × Int × Int) : silG x t (s ++ [z]) = (silG x t s || silOne x t z) := by
  unfold silG; rw [List.any_append]; simp
theorem silOne_nil (x : LB) (t f e : Int) : silOne x t ([], f, e) = (decide (f ≤ t) && decide (t < e)) := by
  unfold silOne
  rw [show allG x ([] : List MT) = true from rfl, Bool.and_true]
theorem more_pure (x0 : KS) (x1 : SS) (x2 : HS) (x3 x4 x5 : Int) (ok1 : ∀ s ∈ x1, s.1.length ≤ 9223372036854775807) (ok2 : ∀ h ∈ x2, h.1.length ≤ 9223372036854775807 ∧ h.2.1.length ≤ 9223372036854775807 ∧ h.2.2.length ≤ 9223372036854775807) : ∃ m q, more m x0 x1 x2 x3 x4 x5 = some q := by
  obtain ⟨m, hm⟩ : ∃ m : Nat, m = 100 := ⟨_, rfl⟩
  refine ⟨m, (), ?_⟩
  unfold more
  try delta more_k25
  try delta more_k24
  try delta more_k23
  try delta more_k22
  try delta more_k21
  try delta more_k20
  try delta more_k19
  try delta more_k18
  try delta more_k17
  try delta more_k16
  try delta more_k15
  try delta more_k14
  try delta more_k13
  try delta more_k12
  try delta more_k11
  try delta more_k10
  try delta more_k9
  try delta more_k8
  try delta more_k7
  try delta more_k6
  try delta more_k5
  try delta more_k4
  try delta more_k3
  try delta more_k2
  try delta more_k1
  obtain ⟨e0, j0, hj0, he0⟩ := sets_loop m x0 x1 x2 x3 x4 x5 (m + 24) 0 [] (by omega) (by omega) (by omega) (by simp)
  rw [List.nil_append, List.drop_zero, Int.natCast_zero] at hj0
  have hA : ((x0.take 6).map setG).length ≤ 6 := by rw [List.length_map, List.length_take]; omega
  have hAx : ∀ x ∈ (x0.take 6).map setG, x.length ≤ 3 := fun x hx => by
    obtain ⟨k, _, rfl⟩ := List.mem_map.1 hx
    exact setG_len k
  obtain ⟨A, hAd⟩ : ∃ A, (x0.take 6).map setG = A := ⟨_, rfl⟩
  rw [hAd] at hj0 hA hAx
  have c1 : (decide (0 ≤ (if (4) < (((List.length x1) : Nat) : Int) then (4) else (((List.length x1) : Nat) : Int))) && decide ((if (4) < (((List.length x1) : Nat) : Int) then (4) else (((List.length x1) : Nat) : Int)) ≤ (((List.length x1) : Nat) : Int))) = true := by
    split <;> simp <;> omega
  have c2 : (decide (0 ≤ (if (4) < (((List.length x2) : Nat) : Int) then (4) else (((List.length x2) : Nat) : Int))) && decide ((if (4) < (((List.length x2) : Nat) : Int) then (4) else (((List.length x2) : Nat) : Int)) ≤ (((List.length x2) : Nat) : Int))) = true := by
    split <;> simp <;> omega
  have hS : List.drop 0 (List.take (Int.toNat (if (4) < (((List.length x1) : Nat) : Int) then (4) else (((List.length x1) : Nat) : Int))) x1) = x1.take 4 := by
    rw [List.drop_zero]
    split
    · rfl
    · rw [Int.toNat_natCast, List.take_length, List.take_of_length_le (by omega)]
  have hH : List.drop 0 (List.take (Int.toNat (if (4) < (((List.length x2) : Nat) : Int) then (4) else (((List.length x2) : Nat) : Int))) x2) = x2.take 4 := by
    rw [List.drop_zero]
    split
    · rfl
    · rw [Int.toNat_natCast, List.take_length, List.take_of_length_le (by omega)]
  have lS : (x1.take 4).length ≤ 4 := by rw [List.length_take]; omega
  have lH : (x2.take 4).length ≤ 4 := by rw [List.length_take]; omega
  have oS : ∀ s ∈ x1.take 4, s.1.length ≤ 9223372036854775807 := fun s h => ok1 s (List.mem_of_mem_take h)
  have oH : ∀ h ∈ x2.take 4, h.1.length ≤ 9223372036854775807 ∧ h.2.1.length ≤ 9223372036854775807 ∧ h.2.2.length ≤ 9223372036854775807 := fun h hh => ok2 h (List.mem_of_mem_take hh)
  obtain ⟨S, hSd⟩ : ∃ S, x1.take 4 = S := ⟨_, rfl⟩
  obtain ⟨H, hHd⟩ : ∃ H, x2.take 4 = H := ⟨_, rfl⟩
  rw [hSd] at hS lS oS
  rw [hHd] at hH lH oH
  have aF : 0 ≤ withinI x4 (0) (50) ∧ withinI x4 (0) (50) ≤ 50 := by unfold withinI; omega
  have aT : 0 ≤ withinI x3 (0) (60) ∧ withinI x3 (0) (60) ≤ 60 := by unfold withinI; omega
  obtain ⟨F, hF⟩ : ∃ F, withinI x4 (0) (50) = F := ⟨_, rfl⟩
  obtain ⟨T, hT⟩ : ∃ T, withinI x3 (0) (60) = T := ⟨_, rfl⟩
  rw [hF] at aF
  rw [hT] at aT
  obtain ⟨E, hE⟩ : ∃ E, withinI x5 F (60) = E := ⟨_, rfl⟩
  have d1 : (((decide (-4611686018427387904 ≤ F) && decide (F ≤ 60)) && true) && decide (((60) - F) ≤ 2305843009213693951)) = true := by simp; omega
  have d2 : decide ((List.length S * 40) ≤ 70368744177664) = true := decide_eq_true (by omega)
  have d3 : decide (((List.length S + 1) * 40) ≤ 70368744177664) = true := decide_eq_true (by omega)
  have tS : List.take (List.length S) (List.drop 0 S) = S := by rw [List.drop_zero, List.take_length]
  have tA : List.take (List.length A) (List.drop 0 A) = A := by rw [List.drop_zero, List.take_length]
  have d4 : decide (List.length S + 1 ≤ List.length (S ++ [(([] : List MT), (F, E))])) = true := decide_eq_true (by rw [List.length_append]; simp)
  have tO : List.take (List.length S + 1) (List.drop 0 (S ++ [(([] : List MT), (F, E))])) = S ++ [(([] : List MT), (F, E))] := by rw [List.drop_zero, List.take_of_length_le (by rw [List.length_append]; simp)]
  have iP : ∀ hs : HS, hs.length ≤ 4 → (∀ h ∈ hs, h.1.length ≤ 9223372036854775807 ∧ h.2.1.length ≤ 9223372036854775807 ∧ h.2.2.length ≤ 9223372036854775807) → inhPre A hs = true := fun hs h1 h2 => decide_eq_true ⟨by omega, fun x hx => Nat.le_trans (hAx x hx) (by omega), by omega, h2⟩
  have hp : ∀ (ss : SS) (hs : HS), ss.length ≤ 5 → (∀ s ∈ ss, s.1.length ≤ 9223372036854775807) → hs.length ≤ 4 → (∀ h ∈ hs, h.1.length ≤ 9223372036854775807 ∧ h.2.1.length ≤ 9223372036854775807 ∧ h.2.2.length ≤ 9223372036854775807) → heardPre A ss hs = true := fun ss hs h1 h2 h3 h4 => by
    unfold heardPre
    rw [iP hs h3 h4, Bool.and_true]
    exact decide_eq_true ⟨by omega, h2⟩
  have lO : (S ++ [(([] : List MT), (F, E))]).length ≤ 5 := by rw [List.length_append]; simp; omega
  have oO : ∀ s ∈ S ++ [(([] : List MT), (F, E))], s.1.length ≤ 9223372036854775807 := fun s hs => by
    rcases List.mem_append.1 hs with h | h
    · exact oS s h
    · rw [List.mem_singleton.1 h]; simp
  have p1 := hp S H (by omega) oS lH oH
  have p2 := hp (S ++ [(([] : List MT), (F, E))]) H lO oO lH oH
  have p3 := hp [] [] (by simp) (by simp) (by simp) (by simp)
  have p4 := hp S [] (by omega) oS (by simp) (by simp)
  obtain ⟨j1, hj1⟩ := own_loop m H A hA hAx lH oH (m + 24) 0 (by omega) (by omega)
  rw [Int.natCast_zero] at hj1
  have q : ∀ x, quietG A T (S ++ [(([] : List MT), (F, E))]) H x = (quietG A T S H x && !(decide (F ≤ T) && decide (T < E))) := fun x => by
    unfold quietG
    rw [silG_app, silOne_nil]
    cases silG x T S <;> cases decide (F ≤ T) <;> cases decide (T < E) <;> cases H.any (inhBy A x) <;> rfl
  have m1 : (heardG A T (S ++ [(([] : List MT), (F, E))]) H).length ≤ (heardG A T S H).length := filter_mono A _ _ fun x h => by
    rw [q x, Bool.and_eq_true] at h; exact h.1
  have m2 : (heardG A T S H).length ≤ (heardG A T S []).length := filter_mono A _ _ fun x h => by
    unfold quietG at h ⊢
    rw [Bool.and_eq_true] at h
    rw [h.1]; rfl
  have m3 : heardG A T [] [] = A := List.filter_eq_self.2 fun x _ => rfl
  have m4 : F ≤ T → T < E → (heardG A T (S ++ [(([] : List MT), (F, E))]) H).length = 0 := fun h1 h2 => by
    rw [List.length_eq_zero_iff]
    unfold heardG
    rw [List.filter_eq_nil_iff]
    intro x _
    rw [q x, show decide (F ≤ T) = true from decide_eq_true h1, show decide (T < E) = true from decide_eq_true h2]
    simp
  have m5 : ¬ (F ≤ T ∧ T < E) → (heardG A T (S ++ [(([] : List MT), (F, E))]) H).length = (heardG A T S H).length := fun h => by
    have : heardG A T (S ++ [(([] : List MT), (F, E))]) H = heardG A T S H := by
      unfold heardG
      congr 1
      funext x
      rw [q x]
      by_cases h1 : F ≤ T
      · have h2 : ¬ T < E := fun h2 => h ⟨h1, h2⟩
        rw [show decide (T < E) = false from decide_eq_false h2]; simp
      · rw [show decide (F ≤ T) = false from decide_eq_false h1]; simp
    rw [this]
  obtain ⟨lb, hlb⟩ : ∃ n, (heardG A T (S ++ [(([] : List MT), (F, E))]) H).length = n := ⟨_, rfl⟩
  obtain ⟨la, hla⟩ : ∃ n, (heardG A T S H).length = n := ⟨_, rfl⟩
  obtain ⟨lc, hlc⟩ : ∃ n, (heardG A T S []).length = n := ⟨_, rfl⟩
  rw [hlb] at m1 m4 m5
  rw [hla] at m1 m2 m5
  rw [hlc] at m2
  have g1 : decide (((lb : Nat) : Int) > ((la : Nat) : Int)) = false := decide_eq_false (by omega)
  have g2 : decide (((la : Nat) : Int) > ((lc : Nat) : Int)) = false := decide_eq_false (by omega)
  have g3 : ((((List.length A) : Nat) : Int) != (((List.length A) : Nat) : Int)) = false := by simp
  have y0 : ((0 : Nat) == 0) = true := rfl
  have y1 : ((1 : Nat) == 0) = false := rfl
  have y2 : ((1 : Nat) == 1) = true := rfl
  rcases he0 with rfl | rfl
  · simp only [l5_0R, l5_1R, hj0, hj1, y0, c1, c2, hS, hH, hF, hT, hE, d1, d2, d3, Nat.zero_add, tS, tA, d4, tO, p1, p2, p3, p4, m3, hlb, hla, hlc, g1, g2, g3, decide_true, beq_self_eq_true, bne_self_eq_false, Option.isSome_some, Option.getD_some, ↓reduceIte, Bool.false_eq_true]
    by_cases k1 : T ≥ F
    · by_cases k2 : T < E
      · have z := m4 k1 k2
        subst z
        have z1 : decide (T ≥ F) = true := decide_eq_true k1
        have z2 : decide (T < E) = true := decide_eq_true k2
        have z3 : decide (T < F) = false := decide_eq_false (by omega)
        have z4 : decide (T ≥ E) = false := decide_eq_false (by omega)
        have z5 : (((0 : Nat) : Int) != (0)) = false := rfl
        simp only [z1, z2, z3, z4, z5, ↓reduceIte, Bool.false_eq_true]
      · have z := m5 (fun h => k2 h.2)
        subst z
        have z1 : decide (T ≥ F) = true := decide_eq_true k1
        have z2 : decide (T < E) = false := decide_eq_false k2
        have z3 : decide (T < F) = false := decide_eq_false (by omega)
        have z4 : decide (T ≥ E) = true := decide_eq_true (by omega)
        simp only [z1, z2, z3, z4, bne_self_eq_false, ↓reduceIte, Bool.false_eq_true]
    · have z := m5 (fun h => k1 h.1)
      subst z
      have z1 : decide (T ≥ F) = false := decide_eq_false k1
      have z3 : decide (T < F) = true := decide_eq_true (by omega)
      simp only [z1, z3, bne_self_eq_false, ↓reduceIte, Bool.false_eq_true]
  · simp only [l5_0R, l5_1R, hj0, hj1, y1, y2, c1, c2, hS, hH, hF, hT, hE, d1, d2, d3, Nat.zero_add, tS, tA, d4, tO, p1, p2, p3, p4, m3, hlb, hla, hlc, g1, g2, g3, decide_true, beq_self_eq_true, bne_self_eq_false, Option.isSome_some, Option.getD_some, ↓reduceIte, Bool.false_eq_true]
    by_cases k1 : T ≥ F
    · by_cases k2 : T < E
      · have z := m4 k1 k2
        subst z
        have z1 : decide (T ≥ F) = true := decide_eq_true k1
        have z2 : decide (T < E) = true := decide_eq_true k2
        have z3 : decide (T < F) = false := decide_eq_false (by omega)
        have z4 : decide (T ≥ E) = false := decide_eq_false (by omega)
        have z5 : (((0 : Nat) : Int) != (0)) = false := rfl
        simp only [z1, z2, z3, z4, z5, ↓reduceIte, Bool.false_eq_true]
      · have z := m5 (fun h => k2 h.2)
        subst z
        have z1 : decide (T ≥ F) = true := decide_eq_true k1
        have z2 : decide (T < E) = false := decide_eq_false k2
        have z3 : decide (T < F) = false := decide_eq_false (by omega)
        have z4 : decide (T ≥ E) = true := decide_eq_true (by omega)
        simp only [z1, z2, z3, z4, bne_self_eq_false, ↓reduceIte, Bool.false_eq_true]
    · have z := m5 (fun h => k1 h.1)
      subst z
      have z1 : decide (T ≥ F) = false := decide_eq_false k1
      have z3 : decide (T < F) = true := decide_eq_true (by omega)
      simp only [z1, z3, bne_self_eq_false, ↓reduceIte, Bool.false_eq_true]
theorem more_law (x0 : KS) (x1 : SS) (x2 : HS) (x3 x4 x5 : Int) (_ : Ty.ok (.sl (.pair (.sl (.int .i64)) (.sl (.int .i64)))) x0) (ok1 : Ty.ok (.sl (.pair (.sl (.pair .str (.pair .str (.int .i64)))) (.pair (.int .i64) (.int .i64)))) x1) (ok2 : Ty.ok (.sl (.pair (.sl (.pair .str (.pair .str (.int .i64)))) (.pair (.sl (.pair .str (.pair .str (.int .i64)))) (.sl .str)))) x2) (_ : Ty.ok (.int .i64) x3) (_ : Ty.ok (.int .i64) x4) (_ : Ty.ok (.int .i64) x5) : ∃ g B', CallAt Tryd.prog 5 g ∧ (g [argAV false (.sl (.pair (.sl (.int .i64)) (.sl (.int .i64)))) x0, argAV false (.sl (.pair (.sl (.pair .str (.pair .str (.int .i64)))) (.pair (.int .i64) (.int .i64)))) x1, argAV false (.sl (.pair (.sl (.pair .str (.pair .str (.int .i64)))) (.pair (.sl (.pair .str (.pair .str (.int .i64)))) (.sl .str)))) x2, argAV false (.int .i64) x3, argAV false (.int .i64) x4, argAV false (.int .i64) x5] []).run = some (.d (.bool true), B') := more_at x0 x1 x2 x3 x4 x5 (more_pure x0 x1 x2 x3 x4 x5 (fun s hs => (ok1.2 s hs).1.1) (fun h hh => ⟨(ok2.2 h hh).1.1, (ok2.2 h hh).2.1.1, (ok2.2 h hh).2.2.1⟩))

end Go.Proofs.YtghkbjflejgieaaDoor.Dec
