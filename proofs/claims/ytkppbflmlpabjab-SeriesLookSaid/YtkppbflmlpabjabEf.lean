/- SeriesLook, as a plain function. -/
import Derived.Test.YtkppbflmlpabjabEe
import Derived.KernelRfl
namespace Go.Proofs.Ytkppbflmlpabjab.Dec
open Go.Ev
set_option linter.unusedVariables false
set_option linter.unusedSimpArgs false
set_option maxRecDepth 100000
noncomputable def fn9 : AFn := (F 9).getD ⟨0, [], .bad, false, false, noHd⟩
noncomputable def body9 : AC := fn9.body
def l9_0 (m : Nat) : Nat → Int → Int → List (Int × Int) → Int → List (Int × Int) → Int → Int → List (Int × Int) → Option (Nat × Int)
  | 0, _, _, _, _, _, _, _, _ => none
  | n + 1, x2, x3, s9, s11, s35, s36, s37, b0 => if decide (s37 < s36) = true then
      if decide (0 ≤ s37) = true then
        if decide (s37 < (((List.length s35) : Nat) : Int)) = true then
          if atPre b0 (List.getD s35 (Int.toNat s37) (0, 0)).1 s11 = true then
            if (atB b0 (List.getD s35 (Int.toNat s37) (0, 0)).1 s11) = true then
              if ((atV b0 (List.getD s35 (Int.toNat s37) (0, 0)).1 s11) != (List.getD s35 (Int.toNat s37) (0, 0)).2) = true then
                none
              else
                if decide ((IntKind.wrap .i64 (s37 + (1))) < (((List.length s9) : Nat) : Int)) = true then
                  if decide (0 ≤ (IntKind.wrap .i64 (s37 + (1)))) = true then
                    if decide ((List.getD s9 (Int.toNat (IntKind.wrap .i64 (s37 + (1)))) (0, 0)).1 < (IntKind.wrap .i64 ((List.getD s35 (Int.toNat s37) (0, 0)).1 + s11))) = true then
                      if atPre b0 (IntKind.wrap .i64 ((List.getD s9 (Int.toNat (IntKind.wrap .i64 (s37 + (1)))) (0, 0)).1 - (1))) s11 = true then
                        if (atB b0 (IntKind.wrap .i64 ((List.getD s9 (Int.toNat (IntKind.wrap .i64 (s37 + (1)))) (0, 0)).1 - (1))) s11) = true then
                          if ((atV b0 (IntKind.wrap .i64 ((List.getD s9 (Int.toNat (IntKind.wrap .i64 (s37 + (1)))) (0, 0)).1 - (1))) s11) != (List.getD s35 (Int.toNat s37) (0, 0)).2) = true then
                            none
                          else
                            if atPre b0 (IntKind.wrap .i64 ((List.getD s35 (Int.toNat s37) (0, 0)).1 + s11)) s11 = true then
                              if (atB b0 (IntKind.wrap .i64 ((List.getD s35 (Int.toNat s37) (0, 0)).1 + s11)) s11) = true then
                                if ((IntKind.wrap .i64 (s37 + (1))) == (((List.length s9) : Nat) : Int)) = true then
                                  none
                                else
                                  if decide ((List.getD s9 (Int.toNat (IntKind.wrap .i64 (s37 + (1)))) (0, 0)).1 > (IntKind.wrap .i64 ((List.getD s35 (Int.toNat s37) (0, 0)).1 + s11))) = true then
                                    none
                                  else
                                    l9_0 m n x2 x3 s9 s11 s35 s36 ((IntKind.wrap .i64 (s37 + (1)))) b0
                              else
                                l9_0 m n x2 x3 s9 s11 s35 s36 ((IntKind.wrap .i64 (s37 + (1)))) b0
                            else
                              none
                        else
                          none
                      else
                        none
                    else
                      if atPre b0 (IntKind.wrap .i64 ((IntKind.wrap .i64 ((List.getD s35 (Int.toNat s37) (0, 0)).1 + s11)) - (1))) s11 = true then
                        if (atB b0 (IntKind.wrap .i64 ((IntKind.wrap .i64 ((List.getD s35 (Int.toNat s37) (0, 0)).1 + s11)) - (1))) s11) = true then
                          if ((atV b0 (IntKind.wrap .i64 ((IntKind.wrap .i64 ((List.getD s35 (Int.toNat s37) (0, 0)).1 + s11)) - (1))) s11) != (List.getD s35 (Int.toNat s37) (0, 0)).2) = true then
                            none
                          else
                            if atPre b0 (IntKind.wrap .i64 ((List.getD s35 (Int.toNat s37) (0, 0)).1 + s11)) s11 = true then
                              if (atB b0 (IntKind.wrap .i64 ((List.getD s35 (Int.toNat s37) (0, 0)).1 + s11)) s11) = true then
                                if ((IntKind.wrap .i64 (s37 + (1))) == (((List.length s9) : Nat) : Int)) = true then
                                  none
                                else
                                  if decide ((List.getD s9 (Int.toNat (IntKind.wrap .i64 (s37 + (1)))) (0, 0)).1 > (IntKind.wrap .i64 ((List.getD s35 (Int.toNat s37) (0, 0)).1 + s11))) = true then
                                    none
                                  else
                                    l9_0 m n x2 x3 s9 s11 s35 s36 ((IntKind.wrap .i64 (s37 + (1)))) b0
                              else
                                l9_0 m n x2 x3 s9 s11 s35 s36 ((IntKind.wrap .i64 (s37 + (1)))) b0
                            else
                              none
                        else
                          none
                      else
                        none
                  else
                    none
                else
                  if atPre b0 (IntKind.wrap .i64 ((IntKind.wrap .i64 ((List.getD s35 (Int.toNat s37) (0, 0)).1 + s11)) - (1))) s11 = true then
                    if (atB b0 (IntKind.wrap .i64 ((IntKind.wrap .i64 ((List.getD s35 (Int.toNat s37) (0, 0)).1 + s11)) - (1))) s11) = true then
                      if ((atV b0 (IntKind.wrap .i64 ((IntKind.wrap .i64 ((List.getD s35 (Int.toNat s37) (0, 0)).1 + s11)) - (1))) s11) != (List.getD s35 (Int.toNat s37) (0, 0)).2) = true then
                        none
                      else
                        if atPre b0 (IntKind.wrap .i64 ((List.getD s35 (Int.toNat s37) (0, 0)).1 + s11)) s11 = true then
                          if (atB b0 (IntKind.wrap .i64 ((List.getD s35 (Int.toNat s37) (0, 0)).1 + s11)) s11) = true then
                            none
                          else
                            l9_0 m n x2 x3 s9 s11 s35 s36 ((IntKind.wrap .i64 (s37 + (1)))) b0
                        else
                          none
                    else
                      none
                  else
                    none
            else
              none
          else
            none
        else
          none
      else
        none
    else
      some (0, s37)
def l9_0D : Nat × Int := (0, 0)
@[reducible] def l9_0R (m n : Nat) (x2 : Int) (x3 : Int) (s9 : List (Int × Int)) (s11 : Int) (s35 : List (Int × Int)) (s36 : Int) (s37 : Int) (b0 : List (Int × Int)) : Nat × Int := Option.getD (l9_0 m n x2 x3 s9 s11 s35 s36 s37 b0) l9_0D
def l9_0H (x2 : Int) (x3 : Int) (s9 : List (Int × Int)) (s11 : Int) (s35 : List (Int × Int)) (s36 : Int) (s37 : Int) (b0 : List (Int × Int)) : Env := [.top, .top, (.d (.int .i64 x2)), (.d (.int .i64 x3)), .top, .top, .top, .top, .top, (.d (.sl (.pair (.int .i64) (.int .i64)) s9)), (.ptr 0 0), (.d (.int .i64 s11)), .top, .top, .top, .top, .top, .top, .top, .top, .top, .top, .top, .top, .top, .top, .top, .top, .top, .top, .top, .top, .top, .top, .top, (.d (.sl (.pair (.int .i64) (.int .i64)) s35)), (.d (.int .i64 s36)), (.d (.int .i64 s37)), .top, .top, .top, .top, .top, .top, .top, .top, .top, .top, .top, .top, .top, .top, .top, .top, .top, .top, .top, .top, .top, .top, .top, .top, .top, .top, .top, .top, .top, .top, .top, .top, .top, .top, .top, .top, .top, .top, .top, .top, .top, .top, .top, .top, .top, .top, .top, .top, .top, .top, .top, .top, .top, .top, .top, .top, .top, .top, .top, .top, .top, .top, .top, .top, .top, .top, .top, .top, .top, .top, .top, .top, .top, .top, .top, .top, .top, .top, .top, .top, .top, .top, .top, .top, .top, .top, .top, .top, .top, .top, .top, .top, .top, .top, .top, .top, .top, .top, .top, .top, .top, .top, .top, .top, .top, .top, .top, .top, .top, .top, .top, .top, .top, .top, .top, .top, .top, .top, .top, .top, .top, .top, .top, .top, .top, .top, .top, .top, .top]
def l9_0B (x2 : Int) (x3 : Int) (s9 : List (Int × Int)) (s11 : Int) (s35 : List (Int × Int)) (s36 : Int) (s37 : Int) (b0 : List (Int × Int)) : Boxes := [(.cells [(.d (.sl (.pair (.int .i64) (.int .i64)) b0))])]
def l9_0E (x2 : Int) (x3 : Int) (s9 : List (Int × Int)) (s11 : Int) (s35 : List (Int × Int)) (s36 : Int) (s37 : Int) (b0 : List (Int × Int)) : Nat → AEx × Env × Boxes
  | _ => (.exit 0, [.top, .top, (.d (.int .i64 x2)), (.d (.int .i64 x3)), .top, .top, .top, .top, .top, (.d (.sl (.pair (.int .i64) (.int .i64)) s9)), (.ptr 0 0), (.d (.int .i64 s11)), .top, .top, .top, .top, .top, .top, .top, .top, .top, .top, .top, .top, .top, .top, .top, .top, .top, .top, .top, .top, .top, .top, .top, (.d (.sl (.pair (.int .i64) (.int .i64)) s35)), (.d (.int .i64 s36)), (.d (.int .i64 s37)), (.d (.bool (decide (s37 < s36)))), .top, .top, .top, .top, .top, .top, .top, .top, .top, .top, .top, .top, .top, .top, .top, .top, .top, .top, .top, .top, .top, .top, .top, .top, .top, .top, .top, .top, .top, .top, .top, .top, .top, .top, .top, .top, .top, .top, .top, .top, .top, .top, .top, .top, .top, .top, .top, .top, .top, .top, .top, .top, .top, .top, .top, .top, .top, .top, .top, .top, .top, .top, .top, .top, .top, .top, .top, .top, .top, .top, .top, .top, .top, .top, .top, .top, .top, .top, .top, .top, .top, .top, .top, .top, .top, .top, .top, .top, .top, .top, .top, .top, .top, .top, .top, .top, .top, .top, .top, .top, .top, .top, .top, .top, .top, .top, .top, .top, .top, .top, .top, .top, .top, .top, .top, .top, .top, .top, .top, .top, .top, .top, .top, .top, .top, .top, .top, .top], [(.cells [(.d (.sl (.pair (.int .i64) (.int .i64)) b0))])])
noncomputable def lbl9_0 : AC := loopBody 240518172172 body9

set_option maxHeartbeats 20000000 in
theorem l9_0_w0 (m n : Nat) (x2 : Int) (x3 : Int) (s9 : List (Int × Int)) (s11 : Int) (s35 : List (Int × Int)) (s36 : Int) (s37 : Int) (b0 : List (Int × Int)) (r : AEx × Env × Boxes) (c0 : decide (s37 < s36) = true) (c1 : decide (0 ≤ s37) = true) (c2 : decide (s37 < (((List.length s35) : Nat) : Int)) = true) (c3 : atPre b0 (List.getD s35 (Int.toNat s37) (0, 0)).1 s11 = true) (c4 : (atB b0 (List.getD s35 (Int.toNat s37) (0, 0)).1 s11) = true) (c9 : ¬ ((atV b0 (List.getD s35 (Int.toNat s37) (0, 0)).1 s11) != (List.getD s35 (Int.toNat s37) (0, 0)).2) = true) (c10 : decide ((IntKind.wrap .i64 (s37 + (1))) < (((List.length s9) : Nat) : Int)) = true) (c14 : decide (0 ≤ (IntKind.wrap .i64 (s37 + (1)))) = true) (c21 : decide ((List.getD s9 (Int.toNat (IntKind.wrap .i64 (s37 + (1)))) (0, 0)).1 < (IntKind.wrap .i64 ((List.getD s35 (Int.toNat s37) (0, 0)).1 + s11))) = true) (c24 : atPre b0 (IntKind.wrap .i64 ((List.getD s9 (Int.toNat (IntKind.wrap .i64 (s37 + (1)))) (0, 0)).1 - (1))) s11 = true) (c25 : (atB b0 (IntKind.wrap .i64 ((List.getD s9 (Int.toNat (IntKind.wrap .i64 (s37 + (1)))) (0, 0)).1 - (1))) s11) = true) (c30 : ¬ ((atV b0 (IntKind.wrap .i64 ((List.getD s9 (Int.toNat (IntKind.wrap .i64 (s37 + (1)))) (0, 0)).1 - (1))) s11) != (List.getD s35 (Int.toNat s37) (0, 0)).2) = true) (c31 : atPre b0 (IntKind.wrap .i64 ((List.getD s35 (Int.toNat s37) (0, 0)).1 + s11)) s11 = true) (c32 : (atB b0 (IntKind.wrap .i64 ((List.getD s35 (Int.toNat s37) (0, 0)).1 + s11)) s11) = true) (c38 : ¬ ((IntKind.wrap .i64 (s37 + (1))) == (((List.length s9) : Nat) : Int)) = true) (c54 : ¬ decide ((List.getD s9 (Int.toNat (IntKind.wrap .i64 (s37 + (1)))) (0, 0)).1 > (IntKind.wrap .i64 ((List.getD s35 (Int.toNat s37) (0, 0)).1 + s11))) = true) (ih : (turns (hds 9 240518172172) 0 240518172172 (evC byref (evCall F S7 (m + 24)) (m + 24) 0 (hds 9) lbl9_0) n (l9_0H x2 x3 s9 s11 s35 s36 ((IntKind.wrap .i64 (s37 + (1)))) b0) (l9_0B x2 x3 s9 s11 s35 s36 ((IntKind.wrap .i64 (s37 + (1)))) b0)).run = some r) : (turns (hds 9 240518172172) 0 240518172172 (evC byref (evCall F S7 (m + 24)) (m + 24) 0 (hds 9) lbl9_0) (n + 1) (l9_0H x2 x3 s9 s11 s35 s36 s37 b0) (l9_0B x2 x3 s9 s11 s35 s36 s37 b0)).run = some r := by
  exact turns_step (M.run_of_path _ [true, true, true, true, false, false, false, false, false, false, true, true, true, true, true, true, true, true, true, true, true, true, true, true, true, false, false, false, false, false, false, true, true, true, true, true, true, true, false, false, false, false, true, true, false, false, false, false, false, false, false, true, false, true, false] _ _ (by kernel_rfl) (all_t c0 (all_t c1 (all_t c2 (all_t c3 (all_nt c4 (all_nt c4 (all_nt c4 (all_nt c4 (all_nt c4 (all_f c9 (all_t c10 (all_t c10 (all_t c10 (all_t c10 (all_t c14 (all_t c10 (all_t c10 (all_t c10 (all_t c10 (all_t c10 (all_t c10 (all_t c21 (all_t c14 (all_t c10 (all_t c24 (all_nt c25 (all_nt c25 (all_nt c25 (all_nt c25 (all_nt c25 (all_f c30 (all_t c31 (all_t c32 (all_t c32 (all_t c32 (all_t c32 (all_t c32 (all_t c32 (all_f c38 (all_f c38 (all_f c38 (all_f c38 (all_t c14 (all_t c10 (all_f c38 (all_f c38 (all_f c38 (all_f c38 (all_f c38 (all_f c38 (all_f c38 (all_t c32 (all_f c38 (all_t c32 (all_f c54 all_nil)))))))))))))))))))))))))))))))))))))))))))))))))))))))) ih
set_option maxHeartbeats 20000000 in
theorem l9_0_w1 (m n : Nat) (x2 : Int) (x3 : Int) (s9 : List (Int × Int)) (s11 : Int) (s35 : List (Int × Int)) (s36 : Int) (s37 : Int) (b0 : List (Int × Int)) (r : AEx × Env × Boxes) (c0 : decide (s37 < s36) = true) (c1 : decide (0 ≤ s37) = true) (c2 : decide (s37 < (((List.length s35) : Nat) : Int)) = true) (c3 : atPre b0 (List.getD s35 (Int.toNat s37) (0, 0)).1 s11 = true) (c4 : (atB b0 (List.getD s35 (Int.toNat s37) (0, 0)).1 s11) = true) (c9 : ¬ ((atV b0 (List.getD s35 (Int.toNat s37) (0, 0)).1 s11) != (List.getD s35 (Int.toNat s37) (0, 0)).2) = true) (c10 : decide ((IntKind.wrap .i64 (s37 + (1))) < (((List.length s9) : Nat) : Int)) = true) (c14 : decide (0 ≤ (IntKind.wrap .i64 (s37 + (1)))) = true) (c21 : decide ((List.getD s9 (Int.toNat (IntKind.wrap .i64 (s37 + (1)))) (0, 0)).1 < (IntKind.wrap .i64 ((List.getD s35 (Int.toNat s37) (0, 0)).1 + s11))) = true) (c24 : atPre b0 (IntKind.wrap .i64 ((List.getD s9 (Int.toNat (IntKind.wrap .i64 (s37 + (1)))) (0, 0)).1 - (1))) s11 = true) (c25 : (atB b0 (IntKind.wrap .i64 ((List.getD s9 (Int.toNat (IntKind.wrap .i64 (s37 + (1)))) (0, 0)).1 - (1))) s11) = true) (c30 : ¬ ((atV b0 (IntKind.wrap .i64 ((List.getD s9 (Int.toNat (IntKind.wrap .i64 (s37 + (1)))) (0, 0)).1 - (1))) s11) != (List.getD s35 (Int.toNat s37) (0, 0)).2) = true) (c31 : atPre b0 (IntKind.wrap .i64 ((List.getD s35 (Int.toNat s37) (0, 0)).1 + s11)) s11 = true) (c32 : ¬ (atB b0 (IntKind.wrap .i64 ((List.getD s35 (Int.toNat s37) (0, 0)).1 + s11)) s11) = true) (ih : (turns (hds 9 240518172172) 0 240518172172 (evC byref (evCall F S7 (m + 24)) (m + 24) 0 (hds 9) lbl9_0) n (l9_0H x2 x3 s9 s11 s35 s36 ((IntKind.wrap .i64 (s37 + (1)))) b0) (l9_0B x2 x3 s9 s11 s35 s36 ((IntKind.wrap .i64 (s37 + (1)))) b0)).run = some r) : (turns (hds 9 240518172172) 0 240518172172 (evC byref (evCall F S7 (m + 24)) (m + 24) 0 (hds 9) lbl9_0) (n + 1) (l9_0H x2 x3 s9 s11 s35 s36 s37 b0) (l9_0B x2 x3 s9 s11 s35 s36 s37 b0)).run = some r := by
  exact turns_step (M.run_of_path _ [true, true, true, true, false, false, false, false, false, false, true, true, true, true, true, true, true, true, true, true, true, true, true, true, true, false, false, false, false, false, false, true, false, false, false, false, false, false, false, false, false] _ _ (by kernel_rfl) (all_t c0 (all_t c1 (all_t c2 (all_t c3 (all_nt c4 (all_nt c4 (all_nt c4 (all_nt c4 (all_nt c4 (all_f c9 (all_t c10 (all_t c10 (all_t c10 (all_t c10 (all_t c14 (all_t c10 (all_t c10 (all_t c10 (all_t c10 (all_t c10 (all_t c10 (all_t c21 (all_t c14 (all_t c10 (all_t c24 (all_nt c25 (all_nt c25 (all_nt c25 (all_nt c25 (all_nt c25 (all_f c30 (all_t c31 (all_f c32 (all_f c32 (all_f c32 (all_f c32 (all_f c32 (all_f c32 (all_f c32 (all_f c32 (all_f Bool.false_ne_true all_nil)))))))))))))))))))))))))))))))))))))))))) ih
set_option maxHeartbeats 20000000 in
theorem l9_0_w2 (m n : Nat) (x2 : Int) (x3 : Int) (s9 : List (Int × Int)) (s11 : Int) (s35 : List (Int × Int)) (s36 : Int) (s37 : Int) (b0 : List (Int × Int)) (r : AEx × Env × Boxes) (c0 : decide (s37 < s36) = true) (c1 : decide (0 ≤ s37) = true) (c2 : decide (s37 < (((List.length s35) : Nat) : Int)) = true) (c3 : atPre b0 (List.getD s35 (Int.toNat s37) (0, 0)).1 s11 = true) (c4 : (atB b0 (List.getD s35 (Int.toNat s37) (0, 0)).1 s11) = true) (c9 : ¬ ((atV b0 (List.getD s35 (Int.toNat s37) (0, 0)).1 s11) != (List.getD s35 (Int.toNat s37) (0, 0)).2) = true) (c10 : decide ((IntKind.wrap .i64 (s37 + (1))) < (((List.length s9) : Nat) : Int)) = true) (c14 : decide (0 ≤ (IntKind.wrap .i64 (s37 + (1)))) = true) (c21 : ¬ decide ((List.getD s9 (Int.toNat (IntKind.wrap .i64 (s37 + (1)))) (0, 0)).1 < (IntKind.wrap .i64 ((List.getD s35 (Int.toNat s37) (0, 0)).1 + s11))) = true) (c22 : atPre b0 (IntKind.wrap .i64 ((IntKind.wrap .i64 ((List.getD s35 (Int.toNat s37) (0, 0)).1 + s11)) - (1))) s11 = true) (c23 : (atB b0 (IntKind.wrap .i64 ((IntKind.wrap .i64 ((List.getD s35 (Int.toNat s37) (0, 0)).1 + s11)) - (1))) s11) = true) (c28 : ¬ ((atV b0 (IntKind.wrap .i64 ((IntKind.wrap .i64 ((List.getD s35 (Int.toNat s37) (0, 0)).1 + s11)) - (1))) s11) != (List.getD s35 (Int.toNat s37) (0, 0)).2) = true) (c29 : atPre b0 (IntKind.wrap .i64 ((List.getD s35 (Int.toNat s37) (0, 0)).1 + s11)) s11 = true) (c30 : (atB b0 (IntKind.wrap .i64 ((List.getD s35 (Int.toNat s37) (0, 0)).1 + s11)) s11) = true) (c36 : ¬ ((IntKind.wrap .i64 (s37 + (1))) == (((List.length s9) : Nat) : Int)) = true) (c52 : ¬ decide ((List.getD s9 (Int.toNat (IntKind.wrap .i64 (s37 + (1)))) (0, 0)).1 > (IntKind.wrap .i64 ((List.getD s35 (Int.toNat s37) (0, 0)).1 + s11))) = true) (ih : (turns (hds 9 240518172172) 0 240518172172 (evC byref (evCall F S7 (m + 24)) (m + 24) 0 (hds 9) lbl9_0) n (l9_0H x2 x3 s9 s11 s35 s36 ((IntKind.wrap .i64 (s37 + (1)))) b0) (l9_0B x2 x3 s9 s11 s35 s36 ((IntKind.wrap .i64 (s37 + (1)))) b0)).run = some r) : (turns (hds 9 240518172172) 0 240518172172 (evC byref (evCall F S7 (m + 24)) (m + 24) 0 (hds 9) lbl9_0) (n + 1) (l9_0H x2 x3 s9 s11 s35 s36 s37 b0) (l9_0B x2 x3 s9 s11 s35 s36 s37 b0)).run = some r := by
  exact turns_step (M.run_of_path _ [true, true, true, true, false, false, false, false, false, false, true, true, true, true, true, true, true, true, true, true, true, false, true, false, false, false, false, false, false, true, true, true, true, true, true, true, false, false, false, false, true, true, false, false, false, false, false, false, false, true, false, true, false] _ _ (by kernel_rfl) (all_t c0 (all_t c1 (all_t c2 (all_t c3 (all_nt c4 (all_nt c4 (all_nt c4 (all_nt c4 (all_nt c4 (all_f c9 (all_t c10 (all_t c10 (all_t c10 (all_t c10 (all_t c14 (all_t c10 (all_t c10 (all_t c10 (all_t c10 (all_t c10 (all_t c10 (all_f c21 (all_t c22 (all_nt c23 (all_nt c23 (all_nt c23 (all_nt c23 (all_nt c23 (all_f c28 (all_t c29 (all_t c30 (all_t c30 (all_t c30 (all_t c30 (all_t c30 (all_t c30 (all_f c36 (all_f c36 (all_f c36 (all_f c36 (all_t c14 (all_t c10 (all_f c36 (all_f c36 (all_f c36 (all_f c36 (all_f c36 (all_f c36 (all_f c36 (all_t c30 (all_f c36 (all_t c30 (all_f c52 all_nil)))))))))))))))))))))))))))))))))))))))))))))))))))))) ih
set_option maxHeartbeats 20000000 in
theorem l9_0_w3 (m n : Nat) (x2 : Int) (x3 : Int) (s9 : List (Int × Int)) (s11 : Int) (s35 : List (Int × Int)) (s36 : Int) (s37 : Int) (b0 : List (Int × Int)) (r : AEx × Env × Boxes) (c0 : decide (s37 < s36) = true) (c1 : decide (0 ≤ s37) = true) (c2 : decide (s37 < (((List.length s35) : Nat) : Int)) = true) (c3 : atPre b0 (List.getD s35 (Int.toNat s37) (0, 0)).1 s11 = true) (c4 : (atB b0 (List.getD s35 (Int.toNat s37) (0, 0)).1 s11) = true) (c9 : ¬ ((atV b0 (List.getD s35 (Int.toNat s37) (0, 0)).1 s11) != (List.getD s35 (Int.toNat s37) (0, 0)).2) = true) (c10 : decide ((IntKind.wrap .i64 (s37 + (1))) < (((List.length s9) : Nat) : Int)) = true) (c14 : decide (0 ≤ (IntKind.wrap .i64 (s37 + (1)))) = true) (c21 : ¬ decide ((List.getD s9 (Int.toNat (IntKind.wrap .i64 (s37 + (1)))) (0, 0)).1 < (IntKind.wrap .i64 ((List.getD s35 (Int.toNat s37) (0, 0)).1 + s11))) = true) (c22 : atPre b0 (IntKind.wrap .i64 ((IntKind.wrap .i64 ((List.getD s35 (Int.toNat s37) (0, 0)).1 + s11)) - (1))) s11 = true) (c23 : (atB b0 (IntKind.wrap .i64 ((IntKind.wrap .i64 ((List.getD s35 (Int.toNat s37) (0, 0)).1 + s11)) - (1))) s11) = true) (c28 : ¬ ((atV b0 (IntKind.wrap .i64 ((IntKind.wrap .i64 ((List.getD s35 (Int.toNat s37) (0, 0)).1 + s11)) - (1))) s11) != (List.getD s35 (Int.toNat s37) (0, 0)).2) = true) (c29 : atPre b0 (IntKind.wrap .i64 ((List.getD s35 (Int.toNat s37) (0, 0)).1 + s11)) s11 = true) (c30 : ¬ (atB b0 (IntKind.wrap .i64 ((List.getD s35 (Int.toNat s37) (0, 0)).1 + s11)) s11) = true) (ih : (turns (hds 9 240518172172) 0 240518172172 (evC byref (evCall F S7 (m + 24)) (m + 24) 0 (hds 9) lbl9_0) n (l9_0H x2 x3 s9 s11 s35 s36 ((IntKind.wrap .i64 (s37 + (1)))) b0) (l9_0B x2 x3 s9 s11 s35 s36 ((IntKind.wrap .i64 (s37 + (1)))) b0)).run = some r) : (turns (hds 9 240518172172) 0 240518172172 (evC byref (evCall F S7 (m + 24)) (m + 24) 0 (hds 9) lbl9_0) (n + 1) (l9_0H x2 x3 s9 s11 s35 s36 s37 b0) (l9_0B x2 x3 s9 s11 s35 s36 s37 b0)).run = some r := by
  exact turns_step (M.run_of_path _ [true, true, true, true, false, false, false, false, false, false, true, true, true, true, true, true, true, true, true, true, true, false, true, false, false, false, false, false, false, true, false, false, false, false, false, false, false, false, false] _ _ (by kernel_rfl) (all_t c0 (all_t c1 (all_t c2 (all_t c3 (all_nt c4 (all_nt c4 (all_nt c4 (all_nt c4 (all_nt c4 (all_f c9 (all_t c10 (all_t c10 (all_t c10 (all_t c10 (all_t c14 (all_t c10 (all_t c10 (all_t c10 (all_t c10 (all_t c10 (all_t c10 (all_f c21 (all_t c22 (all_nt c23 (all_nt c23 (all_nt c23 (all_nt c23 (all_nt c23 (all_f c28 (all_t c29 (all_f c30 (all_f c30 (all_f c30 (all_f c30 (all_f c30 (all_f c30 (all_f c30 (all_f c30 (all_f Bool.false_ne_true all_nil)))))))))))))))))))))))))))))))))))))))) ih
set_option maxHeartbeats 20000000 in
theorem l9_0_w4 (m n : Nat) (x2 : Int) (x3 : Int) (s9 : List (Int × Int)) (s11 : Int) (s35 : List (Int × Int)) (s36 : Int) (s37 : Int) (b0 : List (Int × Int)) (r : AEx × Env × Boxes) (c0 : decide (s37 < s36) = true) (c1 : decide (0 ≤ s37) = true) (c2 : decide (s37 < (((List.length s35) : Nat) : Int)) = true) (c3 : atPre b0 (List.getD s35 (Int.toNat s37) (0, 0)).1 s11 = true) (c4 : (atB b0 (List.getD s35 (Int.toNat s37) (0, 0)).1 s11) = true) (c9 : ¬ ((atV b0 (List.getD s35 (Int.toNat s37) (0, 0)).1 s11) != (List.getD s35 (Int.toNat s37) (0, 0)).2) = true) (c10 : ¬ decide ((IntKind.wrap .i64 (s37 + (1))) < (((List.length s9) : Nat) : Int)) = true) (c20 : atPre b0 (IntKind.wrap .i64 ((IntKind.wrap .i64 ((List.getD s35 (Int.toNat s37) (0, 0)).1 + s11)) - (1))) s11 = true) (c21 : (atB b0 (IntKind.wrap .i64 ((IntKind.wrap .i64 ((List.getD s35 (Int.toNat s37) (0, 0)).1 + s11)) - (1))) s11) = true) (c26 : ¬ ((atV b0 (IntKind.wrap .i64 ((IntKind.wrap .i64 ((List.getD s35 (Int.toNat s37) (0, 0)).1 + s11)) - (1))) s11) != (List.getD s35 (Int.toNat s37) (0, 0)).2) = true) (c27 : atPre b0 (IntKind.wrap .i64 ((List.getD s35 (Int.toNat s37) (0, 0)).1 + s11)) s11 = true) (c28 : ¬ (atB b0 (IntKind.wrap .i64 ((List.getD s35 (Int.toNat s37) (0, 0)).1 + s11)) s11) = true) (ih : (turns (hds 9 240518172172) 0 240518172172 (evC byref (evCall F S7 (m + 24)) (m + 24) 0 (hds 9) lbl9_0) n (l9_0H x2 x3 s9 s11 s35 s36 ((IntKind.wrap .i64 (s37 + (1)))) b0) (l9_0B x2 x3 s9 s11 s35 s36 ((IntKind.wrap .i64 (s37 + (1)))) b0)).run = some r) : (turns (hds 9 240518172172) 0 240518172172 (evC byref (evCall F S7 (m + 24)) (m + 24) 0 (hds 9) lbl9_0) (n + 1) (l9_0H x2 x3 s9 s11 s35 s36 s37 b0) (l9_0B x2 x3 s9 s11 s35 s36 s37 b0)).run = some r := by
  exact turns_step (M.run_of_path _ [true, true, true, true, false, false, false, false, false, false, false, false, false, false, false, false, false, false, false, false, true, false, false, false, false, false, false, true, false, false, false, false, false, false, false, false, false] _ _ (by kernel_rfl) (all_t c0 (all_t c1 (all_t c2 (all_t c3 (all_nt c4 (all_nt c4 (all_nt c4 (all_nt c4 (all_nt c4 (all_f c9 (all_f c10 (all_f c10 (all_f c10 (all_f c10 (all_f c10 (all_f c10 (all_f c10 (all_f c10 (all_f c10 (all_f Bool.false_ne_true (all_t c20 (all_nt c21 (all_nt c21 (all_nt c21 (all_nt c21 (all_nt c21 (all_f c26 (all_t c27 (all_f c28 (all_f c28 (all_f c28 (all_f c28 (all_f c28 (all_f c28 (all_f c28 (all_f c28 (all_f Bool.false_ne_true all_nil)))))))))))))))))))))))))))))))))))))) ih
set_option maxHeartbeats 20000000 in
theorem l9_0_w5 (m n : Nat) (x2 : Int) (x3 : Int) (s9 : List (Int × Int)) (s11 : Int) (s35 : List (Int × Int)) (s36 : Int) (s37 : Int) (b0 : List (Int × Int)) (c0 : ¬ decide (s37 < s36) = true) : (turns (hds 9 240518172172) 0 240518172172 (evC byref (evCall F S7 (m + 24)) (m + 24) 0 (hds 9) lbl9_0) (n + 1) (l9_0H x2 x3 s9 s11 s35 s36 s37 b0) (l9_0B x2 x3 s9 s11 s35 s36 s37 b0)).run = some (.exit 0, [.top, .top, (.d (.int .i64 x2)), (.d (.int .i64 x3)), .top, .top, .top, .top, .top, (.d (.sl (.pair (.int .i64) (.int .i64)) s9)), (.ptr 0 0), (.d (.int .i64 s11)), .top, .top, .top, .top, .top, .top, .top, .top, .top, .top, .top, .top, .top, .top, .top, .top, .top, .top, .top, .top, .top, .top, .top, (.d (.sl (.pair (.int .i64) (.int .i64)) s35)), (.d (.int .i64 s36)), (.d (.int .i64 s37)), (.d (.bool (decide (s37 < s36)))), .top, .top, .top, .top, .top, .top, .top, .top, .top, .top, .top, .top, .top, .top, .top, .top, .top, .top, .top, .top, .top, .top, .top, .top, .top, .top, .top, .top, .top, .top, .top, .top, .top, .top, .top, .top, .top, .top, .top, .top, .top, .top, .top, .top, .top, .top, .top, .top, .top, .top, .top, .top, .top, .top, .top, .top, .top, .top, .top, .top, .top, .top, .top, .top, .top, .top, .top, .top, .top, .top, .top, .top, .top, .top, .top, .top, .top, .top, .top, .top, .top, .top, .top, .top, .top, .top, .top, .top, .top, .top, .top, .top, .top, .top, .top, .top, .top, .top, .top, .top, .top, .top, .top, .top, .top, .top, .top, .top, .top, .top, .top, .top, .top, .top, .top, .top, .top, .top, .top, .top, .top, .top, .top, .top, .top, .top, .top, .top], [(.cells [(.d (.sl (.pair (.int .i64) (.int .i64)) b0))])]) := by
  exact turns_last (by simp) (M.run_of_path _ [false] _ _ (by kernel_rfl) (all_f c0 all_nil)) 

set_option maxHeartbeats 20000000 in
theorem l9_0_step (m n : Nat) (ih : ∀ (x2 : Int) (x3 : Int) (s9 : List (Int × Int)) (s11 : Int) (s35 : List (Int × Int)) (s36 : Int) (s37 : Int) (b0 : List (Int × Int)) (q : Nat × Int), l9_0 m n x2 x3 s9 s11 s35 s36 s37 b0 = some q → (turns (hds 9 240518172172) 0 240518172172 (evC byref (evCall F S7 (m + 24)) (m + 24) 0 (hds 9) lbl9_0) n (l9_0H x2 x3 s9 s11 s35 s36 s37 b0) (l9_0B x2 x3 s9 s11 s35 s36 s37 b0)).run = some (l9_0E (x2) (x3) (s9) (s11) (s35) (s36) (q.2) (b0) q.1)) (x2 : Int) (x3 : Int) (s9 : List (Int × Int)) (s11 : Int) (s35 : List (Int × Int)) (s36 : Int) (s37 : Int) (b0 : List (Int × Int)) (q : Nat × Int) (h : l9_0 m (n + 1) x2 x3 s9 s11 s35 s36 s37 b0 = some q) : (turns (hds 9 240518172172) 0 240518172172 (evC byref (evCall F S7 (m + 24)) (m + 24) 0 (hds 9) lbl9_0) (n + 1) (l9_0H x2 x3 s9 s11 s35 s36 s37 b0) (l9_0B x2 x3 s9 s11 s35 s36 s37 b0)).run = some (l9_0E (x2) (x3) (s9) (s11) (s35) (s36) (q.2) (b0) q.1) := by
  rw [l9_0] at h
  refine ite_cases h (fun c0 h => ?_) (fun c0 h => ?_)
  · skip
    refine ite_cases h (fun c1 h => ?_) (fun c1 h => ?_)
    · skip
      refine ite_cases h (fun c2 h => ?_) (fun c2 h => ?_)
      · skip
        refine ite_cases h (fun c3 h => ?_) (fun c3 h => ?_)
        · skip
          refine ite_cases h (fun c4 h => ?_) (fun c4 h => ?_)
          · skip
            refine ite_cases h (fun c9 h => ?_) (fun c9 h => ?_)
            · skip
              cases h
            · skip
              refine ite_cases h (fun c10 h => ?_) (fun c10 h => ?_)
              · skip
                refine ite_cases h (fun c14 h => ?_) (fun c14 h => ?_)
                · skip
                  refine ite_cases h (fun c21 h => ?_) (fun c21 h => ?_)
                  · skip
                    refine ite_cases h (fun c24 h => ?_) (fun c24 h => ?_)
                    · skip
                      refine ite_cases h (fun c25 h => ?_) (fun c25 h => ?_)
                      · skip
                        refine ite_cases h (fun c30 h => ?_) (fun c30 h => ?_)
                        · skip
                          cases h
                        · skip
                          refine ite_cases h (fun c31 h => ?_) (fun c31 h => ?_)
                          · skip
                            refine ite_cases h (fun c32 h => ?_) (fun c32 h => ?_)
                            · skip
                              refine ite_cases h (fun c38 h => ?_) (fun c38 h => ?_)
                              · skip
                                cases h
                              · skip
                                refine ite_cases h (fun c54 h => ?_) (fun c54 h => ?_)
                                · skip
                                  cases h
                                · skip
                                  exact l9_0_w0 m n x2 x3 s9 s11 s35 s36 s37 b0 _ c0 c1 c2 c3 c4 c9 c10 c14 c21 c24 c25 c30 c31 c32 c38 c54 (ih _ _ _ _ _ _ _ _ q h)
                            · skip
                              exact l9_0_w1 m n x2 x3 s9 s11 s35 s36 s37 b0 _ c0 c1 c2 c3 c4 c9 c10 c14 c21 c24 c25 c30 c31 c32 (ih _ _ _ _ _ _ _ _ q h)
                          · skip
                            cases h
                      · skip
                        cases h
                    · skip
                      cases h
                  · skip
                    refine ite_cases h (fun c22 h => ?_) (fun c22 h => ?_)
                    · skip
                      refine ite_cases h (fun c23 h => ?_) (fun c23 h => ?_)
                      · skip
                        refine ite_cases h (fun c28 h => ?_) (fun c28 h => ?_)
                        · skip
                          cases h
                        · skip
                          refine ite_cases h (fun c29 h => ?_) (fun c29 h => ?_)
                          · skip
                            refine ite_cases h (fun c30 h => ?_) (fun c30 h => ?_)
                            · skip
                              refine ite_cases h (fun c36 h => ?_) (fun c36 h => ?_)
                              · skip
                                cases h
                              · skip
                                refine ite_cases h (fun c52 h => ?_) (fun c52 h => ?_)
                                · skip
                                  cases h
                                · skip
                                  exact l9_0_w2 m n x2 x3 s9 s11 s35 s36 s37 b0 _ c0 c1 c2 c3 c4 c9 c10 c14 c21 c22 c23 c28 c29 c30 c36 c52 (ih _ _ _ _ _ _ _ _ q h)
                            · skip
                              exact l9_0_w3 m n x2 x3 s9 s11 s35 s36 s37 b0 _ c0 c1 c2 c3 c4 c9 c10 c14 c21 c22 c23 c28 c29 c30 (ih _ _ _ _ _ _ _ _ q h)
                          · skip
                            cases h
                      · skip
                        cases h
                    · skip
                      cases h
                · skip
                  cases h
              · skip
                refine ite_cases h (fun c20 h => ?_) (fun c20 h => ?_)
                · skip
                  refine ite_cases h (fun c21 h => ?_) (fun c21 h => ?_)
                  · skip
                    refine ite_cases h (fun c26 h => ?_) (fun c26 h => ?_)
                    · skip
                      cases h
                    · skip
                      refine ite_cases h (fun c27 h => ?_) (fun c27 h => ?_)
                      · skip
                        refine ite_cases h (fun c28 h => ?_) (fun c28 h => ?_)
                        · skip
                          cases h
                        · skip
                          exact l9_0_w4 m n x2 x3 s9 s11 s35 s36 s37 b0 _ c0 c1 c2 c3 c4 c9 c10 c20 c21 c26 c27 c28 (ih _ _ _ _ _ _ _ _ q h)
                      · skip
                        cases h
                  · skip
                    cases h
                · skip
                  cases h
          · skip
            cases h
        · skip
          cases h
      · skip
        cases h
    · skip
      cases h
  · skip
    cases h
    exact l9_0_w5 m n x2 x3 s9 s11 s35 s36 s37 b0 c0
set_option maxHeartbeats 20000000 in
theorem l9_0_ok (m : Nat) : ∀ (n : Nat) (x2 : Int) (x3 : Int) (s9 : List (Int × Int)) (s11 : Int) (s35 : List (Int × Int)) (s36 : Int) (s37 : Int) (b0 : List (Int × Int)) (q : Nat × Int), l9_0 m n x2 x3 s9 s11 s35 s36 s37 b0 = some q → (turns (hds 9 240518172172) 0 240518172172 (evC byref (evCall F S7 (m + 24)) (m + 24) 0 (hds 9) lbl9_0) n (l9_0H x2 x3 s9 s11 s35 s36 s37 b0) (l9_0B x2 x3 s9 s11 s35 s36 s37 b0)).run = some (l9_0E (x2) (x3) (s9) (s11) (s35) (s36) (q.2) (b0) q.1)
  | 0, x2, x3, s9, s11, s35, s36, s37, b0, q, h => by cases h
  | n + 1, x2, x3, s9, s11, s35, s36, s37, b0, q, h => l9_0_step m n (l9_0_ok m n) x2 x3 s9 s11 s35 s36 s37 b0 q h

def look (m : Nat) (x0 : List Int) (x1 : Int) (x2 : Int) (x3 : Int) : Option Unit :=
  if decide (List.length ([] : List (Int × Int)) ≤ 200 ∧ List.length (samplesG x0) < 4611686018427387904) = true then
    if ((addG ([] : List (Int × Int)) (samplesG x0)).1 != (0)) = true then
      none
    else
      if (Option.isSome (l9_0 m (m + 24) x2 x3 ((samplesG x0)) ((withinI x1 (1) (40))) ((samplesG x0)) ((((List.length (samplesG x0)) : Nat) : Int)) 0 ((addG ([] : List (Int × Int)) (samplesG x0)).2))) = true then
        if atPre ((addG ([] : List (Int × Int)) (samplesG x0)).2) (withinI x3 (0) (300)) ((withinI x1 (1) (40))) = true then
          if atPre ((addG ([] : List (Int × Int)) (samplesG x0)).2) (withinI x3 (0) (300)) (IntKind.wrap .i64 (((withinI x1 (1) (40))) + (withinI x2 (0) (50)))) = true then
            if atPre ((addG ([] : List (Int × Int)) (samplesG x0)).2) (withinI x3 (0) (300)) (0) = true then
              if (atB ((addG ([] : List (Int × Int)) (samplesG x0)).2) (withinI x3 (0) (300)) ((withinI x1 (1) (40)))) = true then
                if (atB ((addG ([] : List (Int × Int)) (samplesG x0)).2) (withinI x3 (0) (300)) (IntKind.wrap .i64 (((withinI x1 (1) (40))) + (withinI x2 (0) (50))))) = true then
                  if ((atV ((addG ([] : List (Int × Int)) (samplesG x0)).2) (withinI x3 (0) (300)) ((withinI x1 (1) (40)))) == (atV ((addG ([] : List (Int × Int)) (samplesG x0)).2) (withinI x3 (0) (300)) (IntKind.wrap .i64 (((withinI x1 (1) (40))) + (withinI x2 (0) (50)))))) = true then
                    if (atB ((addG ([] : List (Int × Int)) (samplesG x0)).2) (withinI x3 (0) (300)) (0)) = true then
                      none
                    else
                      some ()
                  else
                    none
                else
                  none
              else
                if (atB ((addG ([] : List (Int × Int)) (samplesG x0)).2) (withinI x3 (0) (300)) (0)) = true then
                  none
                else
                  some ()
            else
              none
          else
            none
        else
          none
      else
        none
  else
    none
set_option maxHeartbeats 20000000 in
theorem look_ok (m : Nat) (x0 : List Int) (x1 : Int) (x2 : Int) (x3 : Int) (q : Unit) (h : look m x0 x1 x2 x3 = some q) : (evCall F S7 (m + 25) 9 [(.d (.sl (.int .i64) x0)), (.d (.int .i64 x1)), (.d (.int .i64 x2)), (.d (.int .i64 x3))] []).run = some (.d (.bool true), []) := by
  unfold look at h
  refine ite_cases h (fun c1 h => ?_) (fun c1 h => ?_)
  · skip
    refine ite_cases h (fun c2 h => ?_) (fun c2 h => ?_)
    · skip
      cases h
    · skip
      refine ite_cases h (fun c4 h => ?_) (fun c4 h => ?_)
      · skip
        refine ite_cases h (fun c6 h => ?_) (fun c6 h => ?_)
        · skip
          refine ite_cases h (fun c8 h => ?_) (fun c8 h => ?_)
          · skip
            refine ite_cases h (fun c9 h => ?_) (fun c9 h => ?_)
            · skip
              refine ite_cases h (fun c10 h => ?_) (fun c10 h => ?_)
              · skip
                refine ite_cases h (fun c12 h => ?_) (fun c12 h => ?_)
                · skip
                  refine ite_cases h (fun c18 h => ?_) (fun c18 h => ?_)
                  · skip
                    refine ite_cases h (fun c21 h => ?_) (fun c21 h => ?_)
                    · skip
                      cases h
                    · skip
                      cases h
                      refine runT_ok (LS := (fun k => if k = 240518172172 then some (l9_0E x2 x3 (((samplesG x0))) (((withinI x1 (1) (40)))) (((samplesG x0))) (((((List.length (samplesG x0)) : Nat) : Int))) ((l9_0R m (m + 24) x2 x3 ((samplesG x0)) ((withinI x1 (1) (40))) ((samplesG x0)) ((((List.length (samplesG x0)) : Nat) : Int)) 0 ((addG ([] : List (Int × Int)) (samplesG x0)).2)).2) (((addG ([] : List (Int × Int)) (samplesG x0)).2)) 0) else none)) (fn := fn9) (r := .d (.bool true)) (B' := []) (vis := [(240518172172, l9_0H x2 x3 ((samplesG x0)) ((withinI x1 (1) (40))) ((samplesG x0)) ((((List.length (samplesG x0)) : Nat) : Int)) 0 ((addG ([] : List (Int × Int)) (samplesG x0)).2), l9_0B x2 x3 ((samplesG x0)) ((withinI x1 (1) (40))) ((samplesG x0)) ((((List.length (samplesG x0)) : Nat) : Int)) 0 ((addG ([] : List (Int × Int)) (samplesG x0)).2))]) (by kernel_rfl) rfl (by kernel_rfl) (M.run_of_path _ [true, true, false, true, true, true, true, true, true, false, false, true, true, true, false, true, false, true, true, true, true, true] _ _ (by kernel_rfl) (all_t rfl (all_t c1 (all_f c2 (all_t rfl (all_t rfl (all_t c6 (all_t rfl (all_t c8 (all_t c9 (all_nt c10 (all_nt c10 (all_t c12 (all_t c12 (all_t c12 (all_nt c10 (all_t c12 (all_nt c10 (all_t c18 (all_t c18 (all_t c18 (all_nf c21 (all_nf c21 all_nil))))))))))))))))))))))) ?_
                      intro p hp p2 hq
                      rcases List.mem_cons.1 hp with rfl | hp
                      · skip
                        have h3 := l9_0_ok m (m + 24) x2 x3 ((samplesG x0)) ((withinI x1 (1) (40))) ((samplesG x0)) ((((List.length (samplesG x0)) : Nat) : Int)) 0 ((addG ([] : List (Int × Int)) (samplesG x0)).2) _ (some_getD (d := l9_0D) c4)
                        exact Eq.trans (Eq.mp (by kernel_rfl) h3) hq
                      cases hp
                  · skip
                    cases h
                · skip
                  cases h
              · skip
                refine ite_cases h (fun c17 h => ?_) (fun c17 h => ?_)
                · skip
                  cases h
                · skip
                  cases h
                  refine runT_ok (LS := (fun k => if k = 240518172172 then some (l9_0E x2 x3 (((samplesG x0))) (((withinI x1 (1) (40)))) (((samplesG x0))) (((((List.length (samplesG x0)) : Nat) : Int))) ((l9_0R m (m + 24) x2 x3 ((samplesG x0)) ((withinI x1 (1) (40))) ((samplesG x0)) ((((List.length (samplesG x0)) : Nat) : Int)) 0 ((addG ([] : List (Int × Int)) (samplesG x0)).2)).2) (((addG ([] : List (Int × Int)) (samplesG x0)).2)) 0) else none)) (fn := fn9) (r := .d (.bool true)) (B' := []) (vis := [(240518172172, l9_0H x2 x3 ((samplesG x0)) ((withinI x1 (1) (40))) ((samplesG x0)) ((((List.length (samplesG x0)) : Nat) : Int)) 0 ((addG ([] : List (Int × Int)) (samplesG x0)).2), l9_0B x2 x3 ((samplesG x0)) ((withinI x1 (1) (40))) ((samplesG x0)) ((((List.length (samplesG x0)) : Nat) : Int)) 0 ((addG ([] : List (Int × Int)) (samplesG x0)).2))]) (by kernel_rfl) rfl (by kernel_rfl) (M.run_of_path _ [true, true, false, true, true, true, true, true, true, true, true, true, true, true, true, true, true, true] _ _ (by kernel_rfl) (all_t rfl (all_t c1 (all_f c2 (all_t rfl (all_t rfl (all_t c6 (all_t rfl (all_t c8 (all_t c9 (all_nf c10 (all_nf c10 (all_nf c10 (all_nf c10 (all_t rfl (all_t rfl (all_t rfl (all_nf c17 (all_nf c17 all_nil))))))))))))))))))) ?_
                  intro p hp p2 hq
                  rcases List.mem_cons.1 hp with rfl | hp
                  · skip
                    have h3 := l9_0_ok m (m + 24) x2 x3 ((samplesG x0)) ((withinI x1 (1) (40))) ((samplesG x0)) ((((List.length (samplesG x0)) : Nat) : Int)) 0 ((addG ([] : List (Int × Int)) (samplesG x0)).2) _ (some_getD (d := l9_0D) c4)
                    exact Eq.trans (Eq.mp (by kernel_rfl) h3) hq
                  cases hp
            · skip
              cases h
          · skip
            cases h
        · skip
          cases h
      · skip
        cases h
  · skip
    cases h
theorem look_at (x0 : List Int) (x1 : Int) (x2 : Int) (x3 : Int) (h : ∃ m q, look m x0 x1 x2 x3 = some q) : ∃ g B', CallAt Try.prog 9 g ∧ (g [(.d (.sl (.int .i64) x0)), (.d (.int .i64 x1)), (.d (.int .i64 x2)), (.d (.int .i64 x3))] []).run = some (.d (.bool true), B') := by
  obtain ⟨m, q, h⟩ := h
  exact ⟨_, _, evCall_atH mixed kinds hds S7 S7_ok (m + 25) 9, look_ok m x0 x1 x2 x3 q h⟩

end Go.Proofs.Ytkppbflmlpabjab.Dec
