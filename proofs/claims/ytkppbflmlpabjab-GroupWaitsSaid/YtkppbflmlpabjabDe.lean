/- GroupQuiet, as a plain function. -/
import Derived.Test.YtkppbflmlpabjabDd
import Derived.KernelRfl
namespace Go.Proofs.Ytkppbflmlpabjab.Dec
open Go.Ev
set_option linter.unusedVariables false
set_option linter.unusedSimpArgs false
set_option maxRecDepth 100000
noncomputable def fn4 : AFn := (F 4).getD ⟨0, [], .bad, false, false, noHd⟩
noncomputable def body4 : AC := fn4.body
def l4_0 (m : Nat) : Nat → Int → Int → Int → Int × Int × Int → (Int × Int × Int) × Bool × Int × Bool × (List (List UInt8)) × Int → (Int × Int × Int) × Bool × Int × Bool × (List (List UInt8)) × Int → (Int × Int × Int) × Bool × Int × Bool × (List (List UInt8)) × Int → Option (Nat × Int × Int × ((Int × Int × Int) × Bool × Int × Bool × (List (List UInt8)) × Int) × ((Int × Int × Int) × Bool × Int × Bool × (List (List UInt8)) × Int) × ((Int × Int × Int) × Bool × Int × Bool × (List (List UInt8)) × Int))
  | 0, _, _, _, _, _, _, _ => none
  | n + 1, x3, s13, s14, b0, b1, b2, b3 => if decide (s14 < 120) = true then
      if tickPre b1 s14 ([] : List (List UInt8)) = true then
        if (tickG b1 s14 ([] : List (List UInt8))).2.1 = true then
          none
        else
          if ((((List.length (tickG b1 s14 ([] : List (List UInt8))).1) : Nat) : Int) != (0)) = true then
            none
          else
            if (tickG b1 s14 ([] : List (List UInt8))).2.2.2.1 = true then
              none
            else
              if ((decide (0 ≤ b0.1) && decide (b0.1 ≤ 2305843009213693951)) && decide ((b0.1 - (0)) ≤ 2305843009213693951)) = true then
                if decide (s14 < (withinI x3 (0) b0.1)) = true then
                  if tickPre b2 s14 [([97] : List UInt8)] = true then
                    if (tickG b2 s14 [([97] : List UInt8)]).2.1 = true then
                      none
                    else
                      if decide (s14 ≤ b0.1) = true then
                        if tickPre b3 s14 [([97] : List UInt8)] = true then
                          if (tickG b3 s14 [([97] : List UInt8)]).2.1 = true then
                            if ((((List.length (tickG b3 s14 [([97] : List UInt8)]).1) : Nat) : Int) == (0)) = true then
                              l4_0 m n x3 ((IntKind.wrap .i64 (s13 + (1)))) ((IntKind.wrap .i64 (s14 + (1)))) b0 ((tickG b1 s14 ([] : List (List UInt8))).2.2) ((tickG b2 s14 [([97] : List UInt8)]).2.2) ((tickG b3 s14 [([97] : List UInt8)]).2.2)
                            else
                              l4_0 m n x3 s13 ((IntKind.wrap .i64 (s14 + (1)))) b0 ((tickG b1 s14 ([] : List (List UInt8))).2.2) ((tickG b2 s14 [([97] : List UInt8)]).2.2) ((tickG b3 s14 [([97] : List UInt8)]).2.2)
                          else
                            l4_0 m n x3 s13 ((IntKind.wrap .i64 (s14 + (1)))) b0 ((tickG b1 s14 ([] : List (List UInt8))).2.2) ((tickG b2 s14 [([97] : List UInt8)]).2.2) ((tickG b3 s14 [([97] : List UInt8)]).2.2)
                        else
                          none
                      else
                        if tickPre b3 s14 ([] : List (List UInt8)) = true then
                          if (tickG b3 s14 ([] : List (List UInt8))).2.1 = true then
                            if ((((List.length (tickG b3 s14 ([] : List (List UInt8))).1) : Nat) : Int) == (0)) = true then
                              l4_0 m n x3 ((IntKind.wrap .i64 (s13 + (1)))) ((IntKind.wrap .i64 (s14 + (1)))) b0 ((tickG b1 s14 ([] : List (List UInt8))).2.2) ((tickG b2 s14 [([97] : List UInt8)]).2.2) ((tickG b3 s14 ([] : List (List UInt8))).2.2)
                            else
                              l4_0 m n x3 s13 ((IntKind.wrap .i64 (s14 + (1)))) b0 ((tickG b1 s14 ([] : List (List UInt8))).2.2) ((tickG b2 s14 [([97] : List UInt8)]).2.2) ((tickG b3 s14 ([] : List (List UInt8))).2.2)
                          else
                            l4_0 m n x3 s13 ((IntKind.wrap .i64 (s14 + (1)))) b0 ((tickG b1 s14 ([] : List (List UInt8))).2.2) ((tickG b2 s14 [([97] : List UInt8)]).2.2) ((tickG b3 s14 ([] : List (List UInt8))).2.2)
                        else
                          none
                  else
                    none
                else
                  if tickPre b2 s14 ([] : List (List UInt8)) = true then
                    if (tickG b2 s14 ([] : List (List UInt8))).2.1 = true then
                      none
                    else
                      if decide (s14 ≤ b0.1) = true then
                        if tickPre b3 s14 [([97] : List UInt8)] = true then
                          if (tickG b3 s14 [([97] : List UInt8)]).2.1 = true then
                            if ((((List.length (tickG b3 s14 [([97] : List UInt8)]).1) : Nat) : Int) == (0)) = true then
                              l4_0 m n x3 ((IntKind.wrap .i64 (s13 + (1)))) ((IntKind.wrap .i64 (s14 + (1)))) b0 ((tickG b1 s14 ([] : List (List UInt8))).2.2) ((tickG b2 s14 ([] : List (List UInt8))).2.2) ((tickG b3 s14 [([97] : List UInt8)]).2.2)
                            else
                              l4_0 m n x3 s13 ((IntKind.wrap .i64 (s14 + (1)))) b0 ((tickG b1 s14 ([] : List (List UInt8))).2.2) ((tickG b2 s14 ([] : List (List UInt8))).2.2) ((tickG b3 s14 [([97] : List UInt8)]).2.2)
                          else
                            l4_0 m n x3 s13 ((IntKind.wrap .i64 (s14 + (1)))) b0 ((tickG b1 s14 ([] : List (List UInt8))).2.2) ((tickG b2 s14 ([] : List (List UInt8))).2.2) ((tickG b3 s14 [([97] : List UInt8)]).2.2)
                        else
                          none
                      else
                        if tickPre b3 s14 ([] : List (List UInt8)) = true then
                          if (tickG b3 s14 ([] : List (List UInt8))).2.1 = true then
                            if ((((List.length (tickG b3 s14 ([] : List (List UInt8))).1) : Nat) : Int) == (0)) = true then
                              l4_0 m n x3 ((IntKind.wrap .i64 (s13 + (1)))) ((IntKind.wrap .i64 (s14 + (1)))) b0 ((tickG b1 s14 ([] : List (List UInt8))).2.2) ((tickG b2 s14 ([] : List (List UInt8))).2.2) ((tickG b3 s14 ([] : List (List UInt8))).2.2)
                            else
                              l4_0 m n x3 s13 ((IntKind.wrap .i64 (s14 + (1)))) b0 ((tickG b1 s14 ([] : List (List UInt8))).2.2) ((tickG b2 s14 ([] : List (List UInt8))).2.2) ((tickG b3 s14 ([] : List (List UInt8))).2.2)
                          else
                            l4_0 m n x3 s13 ((IntKind.wrap .i64 (s14 + (1)))) b0 ((tickG b1 s14 ([] : List (List UInt8))).2.2) ((tickG b2 s14 ([] : List (List UInt8))).2.2) ((tickG b3 s14 ([] : List (List UInt8))).2.2)
                        else
                          none
                  else
                    none
              else
                none
      else
        none
    else
      some (0, s13, s14, b1, b2, b3)
def l4_0D : Nat × Int × Int × ((Int × Int × Int) × Bool × Int × Bool × (List (List UInt8)) × Int) × ((Int × Int × Int) × Bool × Int × Bool × (List (List UInt8)) × Int) × ((Int × Int × Int) × Bool × Int × Bool × (List (List UInt8)) × Int) := (0, 0, 0, ((0, (0, 0)), (false, (0, (false, (([] : List (List UInt8)), 0))))), ((0, (0, 0)), (false, (0, (false, (([] : List (List UInt8)), 0))))), ((0, (0, 0)), (false, (0, (false, (([] : List (List UInt8)), 0))))))
@[reducible] def l4_0R (m n : Nat) (x3 : Int) (s13 : Int) (s14 : Int) (b0 : Int × Int × Int) (b1 : (Int × Int × Int) × Bool × Int × Bool × (List (List UInt8)) × Int) (b2 : (Int × Int × Int) × Bool × Int × Bool × (List (List UInt8)) × Int) (b3 : (Int × Int × Int) × Bool × Int × Bool × (List (List UInt8)) × Int) : Nat × Int × Int × ((Int × Int × Int) × Bool × Int × Bool × (List (List UInt8)) × Int) × ((Int × Int × Int) × Bool × Int × Bool × (List (List UInt8)) × Int) × ((Int × Int × Int) × Bool × Int × Bool × (List (List UInt8)) × Int) := Option.getD (l4_0 m n x3 s13 s14 b0 b1 b2 b3) l4_0D
def l4_0H (x3 : Int) (s13 : Int) (s14 : Int) (b0 : Int × Int × Int) (b1 : (Int × Int × Int) × Bool × Int × Bool × (List (List UInt8)) × Int) (b2 : (Int × Int × Int) × Bool × Int × Bool × (List (List UInt8)) × Int) (b3 : (Int × Int × Int) × Bool × Int × Bool × (List (List UInt8)) × Int) : Env := [.top, .top, .top, (.d (.int .i64 x3)), .top, .top, .top, .top, .top, (.ptr 0 0), (.ptr 1 0), (.ptr 2 0), (.ptr 3 0), (.d (.int .i64 s13)), (.d (.int .i64 s14)), .top, .top, .top, .top, .top, .top, .top, .top, .top, .top, .top, .top, .top, .top, .top, .top, .top, .top, .top, .top, .top, .top, .top, .top, .top, .top, .top, .top, .top, .top, .top, .top, .top, .top, .top, .top, .top, .top, .top, .top, .top, .top, .top, .top, .top, .top, .top, .top, .top, .top, .top, .top, .top, .top, .top, .top, .top, .top, .top, .top, .top, .top, .top, .top, .top, .top, .top, .top, .top, .top, .top, .top, .top, .top, .top, .top, .top, .top, .top, .top, .top, .top, .top, .top, .top, .top, .top, .top, .top, .top, .top, .top, .top, .top, .top, .top, .top, .top, .top, .top, .top]
def l4_0B (x3 : Int) (s13 : Int) (s14 : Int) (b0 : Int × Int × Int) (b1 : (Int × Int × Int) × Bool × Int × Bool × (List (List UInt8)) × Int) (b2 : (Int × Int × Int) × Bool × Int × Bool × (List (List UInt8)) × Int) (b3 : (Int × Int × Int) × Bool × Int × Bool × (List (List UInt8)) × Int) : Boxes := [(.cells [(.d (.int .i64 b0.1)), (.d (.int .i64 b0.2.1)), (.d (.int .i64 b0.2.2))]), (.cells [(.d (.int .i64 b1.1.1)), (.d (.int .i64 b1.1.2.1)), (.d (.int .i64 b1.1.2.2)), (.d (.bool (b1.2.1))), (.d (.int .i64 b1.2.2.1)), (.d (.bool (b1.2.2.2.1))), (.d (.sl .str b1.2.2.2.2.1)), (.d (.int .i64 b1.2.2.2.2.2))]), (.cells [(.d (.int .i64 b2.1.1)), (.d (.int .i64 b2.1.2.1)), (.d (.int .i64 b2.1.2.2)), (.d (.bool (b2.2.1))), (.d (.int .i64 b2.2.2.1)), (.d (.bool (b2.2.2.2.1))), (.d (.sl .str b2.2.2.2.2.1)), (.d (.int .i64 b2.2.2.2.2.2))]), (.cells [(.d (.int .i64 b3.1.1)), (.d (.int .i64 b3.1.2.1)), (.d (.int .i64 b3.1.2.2)), (.d (.bool (b3.2.1))), (.d (.int .i64 b3.2.2.1)), (.d (.bool (b3.2.2.2.1))), (.d (.sl .str b3.2.2.2.2.1)), (.d (.int .i64 b3.2.2.2.2.2))])]
def l4_0E (x3 : Int) (s13 : Int) (s14 : Int) (b0 : Int × Int × Int) (b1 : (Int × Int × Int) × Bool × Int × Bool × (List (List UInt8)) × Int) (b2 : (Int × Int × Int) × Bool × Int × Bool × (List (List UInt8)) × Int) (b3 : (Int × Int × Int) × Bool × Int × Bool × (List (List UInt8)) × Int) : Nat → AEx × Env × Boxes
  | _ => (.exit 0, [.top, .top, .top, (.d (.int .i64 x3)), .top, .top, .top, .top, .top, (.ptr 0 0), (.ptr 1 0), (.ptr 2 0), (.ptr 3 0), (.d (.int .i64 s13)), (.d (.int .i64 s14)), .top, .top, .top, .top, .top, .top, .top, .top, .top, .top, .top, .top, .top, .top, .top, .top, .top, .top, .top, .top, .top, .top, .top, .top, .top, .top, .top, (.d (.int .i64 s14)), (.d (.bool (decide (s14 < 120)))), .top, .top, .top, .top, .top, .top, .top, .top, .top, .top, .top, .top, .top, .top, .top, .top, .top, .top, .top, .top, .top, .top, .top, .top, .top, .top, .top, .top, .top, .top, .top, .top, .top, .top, .top, .top, .top, .top, .top, .top, .top, .top, .top, .top, .top, .top, .top, .top, .top, .top, .top, .top, .top, .top, .top, .top, .top, .top, .top, .top, .top, .top, .top, .top, .top, .top, .top, .top, .top, .top, .top, .top], [(.cells [(.d (.int .i64 b0.1)), (.d (.int .i64 b0.2.1)), (.d (.int .i64 b0.2.2))]), (.cells [(.d (.int .i64 b1.1.1)), (.d (.int .i64 b1.1.2.1)), (.d (.int .i64 b1.1.2.2)), (.d (.bool (b1.2.1))), (.d (.int .i64 b1.2.2.1)), (.d (.bool (b1.2.2.2.1))), (.d (.sl .str b1.2.2.2.2.1)), (.d (.int .i64 b1.2.2.2.2.2))]), (.cells [(.d (.int .i64 b2.1.1)), (.d (.int .i64 b2.1.2.1)), (.d (.int .i64 b2.1.2.2)), (.d (.bool (b2.2.1))), (.d (.int .i64 b2.2.2.1)), (.d (.bool (b2.2.2.2.1))), (.d (.sl .str b2.2.2.2.2.1)), (.d (.int .i64 b2.2.2.2.2.2))]), (.cells [(.d (.int .i64 b3.1.1)), (.d (.int .i64 b3.1.2.1)), (.d (.int .i64 b3.1.2.2)), (.d (.bool (b3.2.1))), (.d (.int .i64 b3.2.2.1)), (.d (.bool (b3.2.2.2.1))), (.d (.sl .str b3.2.2.2.2.1)), (.d (.int .i64 b3.2.2.2.2.2))])])
noncomputable def lbl4_0 : AC := loopBody 32264 body4

set_option maxHeartbeats 20000000 in
theorem l4_0_w0 (m n : Nat) (x3 : Int) (s13 : Int) (s14 : Int) (b0 : Int × Int × Int) (b1 : (Int × Int × Int) × Bool × Int × Bool × (List (List UInt8)) × Int) (b2 : (Int × Int × Int) × Bool × Int × Bool × (List (List UInt8)) × Int) (b3 : (Int × Int × Int) × Bool × Int × Bool × (List (List UInt8)) × Int) (r : AEx × Env × Boxes) (c0 : decide (s14 < 120) = true) (c1 : tickPre b1 s14 ([] : List (List UInt8)) = true) (c2 : ¬ (tickG b1 s14 ([] : List (List UInt8))).2.1 = true) (c6 : ¬ ((((List.length (tickG b1 s14 ([] : List (List UInt8))).1) : Nat) : Int) != (0)) = true) (c10 : ¬ (tickG b1 s14 ([] : List (List UInt8))).2.2.2.1 = true) (c16 : ((decide (0 ≤ b0.1) && decide (b0.1 ≤ 2305843009213693951)) && decide ((b0.1 - (0)) ≤ 2305843009213693951)) = true) (c17 : decide (s14 < (withinI x3 (0) b0.1)) = true) (c19 : tickPre b2 s14 [([97] : List UInt8)] = true) (c20 : ¬ (tickG b2 s14 [([97] : List UInt8)]).2.1 = true) (c21 : decide (s14 ≤ b0.1) = true) (c23 : tickPre b3 s14 [([97] : List UInt8)] = true) (c24 : (tickG b3 s14 [([97] : List UInt8)]).2.1 = true) (c28 : ((((List.length (tickG b3 s14 [([97] : List UInt8)]).1) : Nat) : Int) == (0)) = true) (ih : (turns (hds 4 32264) 0 32264 (evC byref (evCall F S5 (m + 24)) (m + 24) 0 (hds 4) lbl4_0) n (l4_0H x3 ((IntKind.wrap .i64 (s13 + (1)))) ((IntKind.wrap .i64 (s14 + (1)))) b0 ((tickG b1 s14 ([] : List (List UInt8))).2.2) ((tickG b2 s14 [([97] : List UInt8)]).2.2) ((tickG b3 s14 [([97] : List UInt8)]).2.2)) (l4_0B x3 ((IntKind.wrap .i64 (s13 + (1)))) ((IntKind.wrap .i64 (s14 + (1)))) b0 ((tickG b1 s14 ([] : List (List UInt8))).2.2) ((tickG b2 s14 [([97] : List UInt8)]).2.2) ((tickG b3 s14 [([97] : List UInt8)]).2.2))).run = some r) : (turns (hds 4 32264) 0 32264 (evC byref (evCall F S5 (m + 24)) (m + 24) 0 (hds 4) lbl4_0) (n + 1) (l4_0H x3 s13 s14 b0 b1 b2 b3) (l4_0B x3 s13 s14 b0 b1 b2 b3)).run = some r := by
  exact turns_step (M.run_of_path _ [true, true, false, false, false, false, false, false, false, false, false, false, true, false, false, false, true, true, true, true, false, true, true, true, true, true, true, true, true] _ _ (by kernel_rfl) (all_t c0 (all_t c1 (all_f c2 (all_f c2 (all_f c2 (all_f c2 (all_f c6 (all_f c6 (all_f c6 (all_f c6 (all_nnf c10 (all_nnf c10 (all_nf c10 (all_nnf c10 (all_nnf c10 (all_f Bool.false_ne_true (all_t c16 (all_t c17 (all_t rfl (all_t c19 (all_f c20 (all_t c21 (all_t rfl (all_t c23 (all_t c24 (all_t c24 (all_t c24 (all_t c24 (all_t c28 all_nil)))))))))))))))))))))))))))))) ih
set_option maxHeartbeats 20000000 in
theorem l4_0_w1 (m n : Nat) (x3 : Int) (s13 : Int) (s14 : Int) (b0 : Int × Int × Int) (b1 : (Int × Int × Int) × Bool × Int × Bool × (List (List UInt8)) × Int) (b2 : (Int × Int × Int) × Bool × Int × Bool × (List (List UInt8)) × Int) (b3 : (Int × Int × Int) × Bool × Int × Bool × (List (List UInt8)) × Int) (r : AEx × Env × Boxes) (c0 : decide (s14 < 120) = true) (c1 : tickPre b1 s14 ([] : List (List UInt8)) = true) (c2 : ¬ (tickG b1 s14 ([] : List (List UInt8))).2.1 = true) (c6 : ¬ ((((List.length (tickG b1 s14 ([] : List (List UInt8))).1) : Nat) : Int) != (0)) = true) (c10 : ¬ (tickG b1 s14 ([] : List (List UInt8))).2.2.2.1 = true) (c16 : ((decide (0 ≤ b0.1) && decide (b0.1 ≤ 2305843009213693951)) && decide ((b0.1 - (0)) ≤ 2305843009213693951)) = true) (c17 : decide (s14 < (withinI x3 (0) b0.1)) = true) (c19 : tickPre b2 s14 [([97] : List UInt8)] = true) (c20 : ¬ (tickG b2 s14 [([97] : List UInt8)]).2.1 = true) (c21 : decide (s14 ≤ b0.1) = true) (c23 : tickPre b3 s14 [([97] : List UInt8)] = true) (c24 : (tickG b3 s14 [([97] : List UInt8)]).2.1 = true) (c28 : ¬ ((((List.length (tickG b3 s14 [([97] : List UInt8)]).1) : Nat) : Int) == (0)) = true) (ih : (turns (hds 4 32264) 0 32264 (evC byref (evCall F S5 (m + 24)) (m + 24) 0 (hds 4) lbl4_0) n (l4_0H x3 s13 ((IntKind.wrap .i64 (s14 + (1)))) b0 ((tickG b1 s14 ([] : List (List UInt8))).2.2) ((tickG b2 s14 [([97] : List UInt8)]).2.2) ((tickG b3 s14 [([97] : List UInt8)]).2.2)) (l4_0B x3 s13 ((IntKind.wrap .i64 (s14 + (1)))) b0 ((tickG b1 s14 ([] : List (List UInt8))).2.2) ((tickG b2 s14 [([97] : List UInt8)]).2.2) ((tickG b3 s14 [([97] : List UInt8)]).2.2))).run = some r) : (turns (hds 4 32264) 0 32264 (evC byref (evCall F S5 (m + 24)) (m + 24) 0 (hds 4) lbl4_0) (n + 1) (l4_0H x3 s13 s14 b0 b1 b2 b3) (l4_0B x3 s13 s14 b0 b1 b2 b3)).run = some r := by
  exact turns_step (M.run_of_path _ [true, true, false, false, false, false, false, false, false, false, false, false, true, false, false, false, true, true, true, true, false, true, true, true, true, true, true, true, false] _ _ (by kernel_rfl) (all_t c0 (all_t c1 (all_f c2 (all_f c2 (all_f c2 (all_f c2 (all_f c6 (all_f c6 (all_f c6 (all_f c6 (all_nnf c10 (all_nnf c10 (all_nf c10 (all_nnf c10 (all_nnf c10 (all_f Bool.false_ne_true (all_t c16 (all_t c17 (all_t rfl (all_t c19 (all_f c20 (all_t c21 (all_t rfl (all_t c23 (all_t c24 (all_t c24 (all_t c24 (all_t c24 (all_f c28 all_nil)))))))))))))))))))))))))))))) ih
set_option maxHeartbeats 20000000 in
theorem l4_0_w2 (m n : Nat) (x3 : Int) (s13 : Int) (s14 : Int) (b0 : Int × Int × Int) (b1 : (Int × Int × Int) × Bool × Int × Bool × (List (List UInt8)) × Int) (b2 : (Int × Int × Int) × Bool × Int × Bool × (List (List UInt8)) × Int) (b3 : (Int × Int × Int) × Bool × Int × Bool × (List (List UInt8)) × Int) (r : AEx × Env × Boxes) (c0 : decide (s14 < 120) = true) (c1 : tickPre b1 s14 ([] : List (List UInt8)) = true) (c2 : ¬ (tickG b1 s14 ([] : List (List UInt8))).2.1 = true) (c6 : ¬ ((((List.length (tickG b1 s14 ([] : List (List UInt8))).1) : Nat) : Int) != (0)) = true) (c10 : ¬ (tickG b1 s14 ([] : List (List UInt8))).2.2.2.1 = true) (c16 : ((decide (0 ≤ b0.1) && decide (b0.1 ≤ 2305843009213693951)) && decide ((b0.1 - (0)) ≤ 2305843009213693951)) = true) (c17 : decide (s14 < (withinI x3 (0) b0.1)) = true) (c19 : tickPre b2 s14 [([97] : List UInt8)] = true) (c20 : ¬ (tickG b2 s14 [([97] : List UInt8)]).2.1 = true) (c21 : decide (s14 ≤ b0.1) = true) (c23 : tickPre b3 s14 [([97] : List UInt8)] = true) (c24 : ¬ (tickG b3 s14 [([97] : List UInt8)]).2.1 = true) (ih : (turns (hds 4 32264) 0 32264 (evC byref (evCall F S5 (m + 24)) (m + 24) 0 (hds 4) lbl4_0) n (l4_0H x3 s13 ((IntKind.wrap .i64 (s14 + (1)))) b0 ((tickG b1 s14 ([] : List (List UInt8))).2.2) ((tickG b2 s14 [([97] : List UInt8)]).2.2) ((tickG b3 s14 [([97] : List UInt8)]).2.2)) (l4_0B x3 s13 ((IntKind.wrap .i64 (s14 + (1)))) b0 ((tickG b1 s14 ([] : List (List UInt8))).2.2) ((tickG b2 s14 [([97] : List UInt8)]).2.2) ((tickG b3 s14 [([97] : List UInt8)]).2.2))).run = some r) : (turns (hds 4 32264) 0 32264 (evC byref (evCall F S5 (m + 24)) (m + 24) 0 (hds 4) lbl4_0) (n + 1) (l4_0H x3 s13 s14 b0 b1 b2 b3) (l4_0B x3 s13 s14 b0 b1 b2 b3)).run = some r := by
  exact turns_step (M.run_of_path _ [true, true, false, false, false, false, false, false, false, false, false, false, true, false, false, false, true, true, true, true, false, true, true, true, false, false, false, false, false] _ _ (by kernel_rfl) (all_t c0 (all_t c1 (all_f c2 (all_f c2 (all_f c2 (all_f c2 (all_f c6 (all_f c6 (all_f c6 (all_f c6 (all_nnf c10 (all_nnf c10 (all_nf c10 (all_nnf c10 (all_nnf c10 (all_f Bool.false_ne_true (all_t c16 (all_t c17 (all_t rfl (all_t c19 (all_f c20 (all_t c21 (all_t rfl (all_t c23 (all_f c24 (all_f c24 (all_f c24 (all_f c24 (all_f Bool.false_ne_true all_nil)))))))))))))))))))))))))))))) ih
set_option maxHeartbeats 20000000 in
theorem l4_0_w3 (m n : Nat) (x3 : Int) (s13 : Int) (s14 : Int) (b0 : Int × Int × Int) (b1 : (Int × Int × Int) × Bool × Int × Bool × (List (List UInt8)) × Int) (b2 : (Int × Int × Int) × Bool × Int × Bool × (List (List UInt8)) × Int) (b3 : (Int × Int × Int) × Bool × Int × Bool × (List (List UInt8)) × Int) (r : AEx × Env × Boxes) (c0 : decide (s14 < 120) = true) (c1 : tickPre b1 s14 ([] : List (List UInt8)) = true) (c2 : ¬ (tickG b1 s14 ([] : List (List UInt8))).2.1 = true) (c6 : ¬ ((((List.length (tickG b1 s14 ([] : List (List UInt8))).1) : Nat) : Int) != (0)) = true) (c10 : ¬ (tickG b1 s14 ([] : List (List UInt8))).2.2.2.1 = true) (c16 : ((decide (0 ≤ b0.1) && decide (b0.1 ≤ 2305843009213693951)) && decide ((b0.1 - (0)) ≤ 2305843009213693951)) = true) (c17 : decide (s14 < (withinI x3 (0) b0.1)) = true) (c19 : tickPre b2 s14 [([97] : List UInt8)] = true) (c20 : ¬ (tickG b2 s14 [([97] : List UInt8)]).2.1 = true) (c21 : ¬ decide (s14 ≤ b0.1) = true) (c23 : tickPre b3 s14 ([] : List (List UInt8)) = true) (c24 : (tickG b3 s14 ([] : List (List UInt8))).2.1 = true) (c28 : ((((List.length (tickG b3 s14 ([] : List (List UInt8))).1) : Nat) : Int) == (0)) = true) (ih : (turns (hds 4 32264) 0 32264 (evC byref (evCall F S5 (m + 24)) (m + 24) 0 (hds 4) lbl4_0) n (l4_0H x3 ((IntKind.wrap .i64 (s13 + (1)))) ((IntKind.wrap .i64 (s14 + (1)))) b0 ((tickG b1 s14 ([] : List (List UInt8))).2.2) ((tickG b2 s14 [([97] : List UInt8)]).2.2) ((tickG b3 s14 ([] : List (List UInt8))).2.2)) (l4_0B x3 ((IntKind.wrap .i64 (s13 + (1)))) ((IntKind.wrap .i64 (s14 + (1)))) b0 ((tickG b1 s14 ([] : List (List UInt8))).2.2) ((tickG b2 s14 [([97] : List UInt8)]).2.2) ((tickG b3 s14 ([] : List (List UInt8))).2.2))).run = some r) : (turns (hds 4 32264) 0 32264 (evC byref (evCall F S5 (m + 24)) (m + 24) 0 (hds 4) lbl4_0) (n + 1) (l4_0H x3 s13 s14 b0 b1 b2 b3) (l4_0B x3 s13 s14 b0 b1 b2 b3)).run = some r := by
  exact turns_step (M.run_of_path _ [true, true, false, false, false, false, false, false, false, false, false, false, true, false, false, false, true, true, true, true, false, false, true, true, true, true, true, true, true] _ _ (by kernel_rfl) (all_t c0 (all_t c1 (all_f c2 (all_f c2 (all_f c2 (all_f c2 (all_f c6 (all_f c6 (all_f c6 (all_f c6 (all_nnf c10 (all_nnf c10 (all_nf c10 (all_nnf c10 (all_nnf c10 (all_f Bool.false_ne_true (all_t c16 (all_t c17 (all_t rfl (all_t c19 (all_f c20 (all_f c21 (all_t rfl (all_t c23 (all_t c24 (all_t c24 (all_t c24 (all_t c24 (all_t c28 all_nil)))))))))))))))))))))))))))))) ih
set_option maxHeartbeats 20000000 in
theorem l4_0_w4 (m n : Nat) (x3 : Int) (s13 : Int) (s14 : Int) (b0 : Int × Int × Int) (b1 : (Int × Int × Int) × Bool × Int × Bool × (List (List UInt8)) × Int) (b2 : (Int × Int × Int) × Bool × Int × Bool × (List (List UInt8)) × Int) (b3 : (Int × Int × Int) × Bool × Int × Bool × (List (List UInt8)) × Int) (r : AEx × Env × Boxes) (c0 : decide (s14 < 120) = true) (c1 : tickPre b1 s14 ([] : List (List UInt8)) = true) (c2 : ¬ (tickG b1 s14 ([] : List (List UInt8))).2.1 = true) (c6 : ¬ ((((List.length (tickG b1 s14 ([] : List (List UInt8))).1) : Nat) : Int) != (0)) = true) (c10 : ¬ (tickG b1 s14 ([] : List (List UInt8))).2.2.2.1 = true) (c16 : ((decide (0 ≤ b0.1) && decide (b0.1 ≤ 2305843009213693951)) && decide ((b0.1 - (0)) ≤ 2305843009213693951)) = true) (c17 : decide (s14 < (withinI x3 (0) b0.1)) = true) (c19 : tickPre b2 s14 [([97] : List UInt8)] = true) (c20 : ¬ (tickG b2 s14 [([97] : List UInt8)]).2.1 = true) (c21 : ¬ decide (s14 ≤ b0.1) = true) (c23 : tickPre b3 s14 ([] : List (List UInt8)) = true) (c24 : (tickG b3 s14 ([] : List (List UInt8))).2.1 = true) (c28 : ¬ ((((List.length (tickG b3 s14 ([] : List (List UInt8))).1) : Nat) : Int) == (0)) = true) (ih : (turns (hds 4 32264) 0 32264 (evC byref (evCall F S5 (m + 24)) (m + 24) 0 (hds 4) lbl4_0) n (l4_0H x3 s13 ((IntKind.wrap .i64 (s14 + (1)))) b0 ((tickG b1 s14 ([] : List (List UInt8))).2.2) ((tickG b2 s14 [([97] : List UInt8)]).2.2) ((tickG b3 s14 ([] : List (List UInt8))).2.2)) (l4_0B x3 s13 ((IntKind.wrap .i64 (s14 + (1)))) b0 ((tickG b1 s14 ([] : List (List UInt8))).2.2) ((tickG b2 s14 [([97] : List UInt8)]).2.2) ((tickG b3 s14 ([] : List (List UInt8))).2.2))).run = some r) : (turns (hds 4 32264) 0 32264 (evC byref (evCall F S5 (m + 24)) (m + 24) 0 (hds 4) lbl4_0) (n + 1) (l4_0H x3 s13 s14 b0 b1 b2 b3) (l4_0B x3 s13 s14 b0 b1 b2 b3)).run = some r := by
  exact turns_step (M.run_of_path _ [true, true, false, false, false, false, false, false, false, false, false, false, true, false, false, false, true, true, true, true, false, false, true, true, true, true, true, true, false] _ _ (by kernel_rfl) (all_t c0 (all_t c1 (all_f c2 (all_f c2 (all_f c2 (all_f c2 (all_f c6 (all_f c6 (all_f c6 (all_f c6 (all_nnf c10 (all_nnf c10 (all_nf c10 (all_nnf c10 (all_nnf c10 (all_f Bool.false_ne_true (all_t c16 (all_t c17 (all_t rfl (all_t c19 (all_f c20 (all_f c21 (all_t rfl (all_t c23 (all_t c24 (all_t c24 (all_t c24 (all_t c24 (all_f c28 all_nil)))))))))))))))))))))))))))))) ih
set_option maxHeartbeats 20000000 in
theorem l4_0_w5 (m n : Nat) (x3 : Int) (s13 : Int) (s14 : Int) (b0 : Int × Int × Int) (b1 : (Int × Int × Int) × Bool × Int × Bool × (List (List UInt8)) × Int) (b2 : (Int × Int × Int) × Bool × Int × Bool × (List (List UInt8)) × Int) (b3 : (Int × Int × Int) × Bool × Int × Bool × (List (List UInt8)) × Int) (r : AEx × Env × Boxes) (c0 : decide (s14 < 120) = true) (c1 : tickPre b1 s14 ([] : List (List UInt8)) = true) (c2 : ¬ (tickG b1 s14 ([] : List (List UInt8))).2.1 = true) (c6 : ¬ ((((List.length (tickG b1 s14 ([] : List (List UInt8))).1) : Nat) : Int) != (0)) = true) (c10 : ¬ (tickG b1 s14 ([] : List (List UInt8))).2.2.2.1 = true) (c16 : ((decide (0 ≤ b0.1) && decide (b0.1 ≤ 2305843009213693951)) && decide ((b0.1 - (0)) ≤ 2305843009213693951)) = true) (c17 : decide (s14 < (withinI x3 (0) b0.1)) = true) (c19 : tickPre b2 s14 [([97] : List UInt8)] = true) (c20 : ¬ (tickG b2 s14 [([97] : List UInt8)]).2.1 = true) (c21 : ¬ decide (s14 ≤ b0.1) = true) (c23 : tickPre b3 s14 ([] : List (List UInt8)) = true) (c24 : ¬ (tickG b3 s14 ([] : List (List UInt8))).2.1 = true) (ih : (turns (hds 4 32264) 0 32264 (evC byref (evCall F S5 (m + 24)) (m + 24) 0 (hds 4) lbl4_0) n (l4_0H x3 s13 ((IntKind.wrap .i64 (s14 + (1)))) b0 ((tickG b1 s14 ([] : List (List UInt8))).2.2) ((tickG b2 s14 [([97] : List UInt8)]).2.2) ((tickG b3 s14 ([] : List (List UInt8))).2.2)) (l4_0B x3 s13 ((IntKind.wrap .i64 (s14 + (1)))) b0 ((tickG b1 s14 ([] : List (List UInt8))).2.2) ((tickG b2 s14 [([97] : List UInt8)]).2.2) ((tickG b3 s14 ([] : List (List UInt8))).2.2))).run = some r) : (turns (hds 4 32264) 0 32264 (evC byref (evCall F S5 (m + 24)) (m + 24) 0 (hds 4) lbl4_0) (n + 1) (l4_0H x3 s13 s14 b0 b1 b2 b3) (l4_0B x3 s13 s14 b0 b1 b2 b3)).run = some r := by
  exact turns_step (M.run_of_path _ [true, true, false, false, false, false, false, false, false, false, false, false, true, false, false, false, true, true, true, true, false, false, true, true, false, false, false, false, false] _ _ (by kernel_rfl) (all_t c0 (all_t c1 (all_f c2 (all_f c2 (all_f c2 (all_f c2 (all_f c6 (all_f c6 (all_f c6 (all_f c6 (all_nnf c10 (all_nnf c10 (all_nf c10 (all_nnf c10 (all_nnf c10 (all_f Bool.false_ne_true (all_t c16 (all_t c17 (all_t rfl (all_t c19 (all_f c20 (all_f c21 (all_t rfl (all_t c23 (all_f c24 (all_f c24 (all_f c24 (all_f c24 (all_f Bool.false_ne_true all_nil)))))))))))))))))))))))))))))) ih
set_option maxHeartbeats 20000000 in
theorem l4_0_w6 (m n : Nat) (x3 : Int) (s13 : Int) (s14 : Int) (b0 : Int × Int × Int) (b1 : (Int × Int × Int) × Bool × Int × Bool × (List (List UInt8)) × Int) (b2 : (Int × Int × Int) × Bool × Int × Bool × (List (List UInt8)) × Int) (b3 : (Int × Int × Int) × Bool × Int × Bool × (List (List UInt8)) × Int) (r : AEx × Env × Boxes) (c0 : decide (s14 < 120) = true) (c1 : tickPre b1 s14 ([] : List (List UInt8)) = true) (c2 : ¬ (tickG b1 s14 ([] : List (List UInt8))).2.1 = true) (c6 : ¬ ((((List.length (tickG b1 s14 ([] : List (List UInt8))).1) : Nat) : Int) != (0)) = true) (c10 : ¬ (tickG b1 s14 ([] : List (List UInt8))).2.2.2.1 = true) (c16 : ((decide (0 ≤ b0.1) && decide (b0.1 ≤ 2305843009213693951)) && decide ((b0.1 - (0)) ≤ 2305843009213693951)) = true) (c17 : ¬ decide (s14 < (withinI x3 (0) b0.1)) = true) (c19 : tickPre b2 s14 ([] : List (List UInt8)) = true) (c20 : ¬ (tickG b2 s14 ([] : List (List UInt8))).2.1 = true) (c21 : decide (s14 ≤ b0.1) = true) (c23 : tickPre b3 s14 [([97] : List UInt8)] = true) (c24 : (tickG b3 s14 [([97] : List UInt8)]).2.1 = true) (c28 : ((((List.length (tickG b3 s14 [([97] : List UInt8)]).1) : Nat) : Int) == (0)) = true) (ih : (turns (hds 4 32264) 0 32264 (evC byref (evCall F S5 (m + 24)) (m + 24) 0 (hds 4) lbl4_0) n (l4_0H x3 ((IntKind.wrap .i64 (s13 + (1)))) ((IntKind.wrap .i64 (s14 + (1)))) b0 ((tickG b1 s14 ([] : List (List UInt8))).2.2) ((tickG b2 s14 ([] : List (List UInt8))).2.2) ((tickG b3 s14 [([97] : List UInt8)]).2.2)) (l4_0B x3 ((IntKind.wrap .i64 (s13 + (1)))) ((IntKind.wrap .i64 (s14 + (1)))) b0 ((tickG b1 s14 ([] : List (List UInt8))).2.2) ((tickG b2 s14 ([] : List (List UInt8))).2.2) ((tickG b3 s14 [([97] : List UInt8)]).2.2))).run = some r) : (turns (hds 4 32264) 0 32264 (evC byref (evCall F S5 (m + 24)) (m + 24) 0 (hds 4) lbl4_0) (n + 1) (l4_0H x3 s13 s14 b0 b1 b2 b3) (l4_0B x3 s13 s14 b0 b1 b2 b3)).run = some r := by
  exact turns_step (M.run_of_path _ [true, true, false, false, false, false, false, false, false, false, false, false, true, false, false, false, true, false, true, true, false, true, true, true, true, true, true, true, true] _ _ (by kernel_rfl) (all_t c0 (all_t c1 (all_f c2 (all_f c2 (all_f c2 (all_f c2 (all_f c6 (all_f c6 (all_f c6 (all_f c6 (all_nnf c10 (all_nnf c10 (all_nf c10 (all_nnf c10 (all_nnf c10 (all_f Bool.false_ne_true (all_t c16 (all_f c17 (all_t rfl (all_t c19 (all_f c20 (all_t c21 (all_t rfl (all_t c23 (all_t c24 (all_t c24 (all_t c24 (all_t c24 (all_t c28 all_nil)))))))))))))))))))))))))))))) ih
set_option maxHeartbeats 20000000 in
theorem l4_0_w7 (m n : Nat) (x3 : Int) (s13 : Int) (s14 : Int) (b0 : Int × Int × Int) (b1 : (Int × Int × Int) × Bool × Int × Bool × (List (List UInt8)) × Int) (b2 : (Int × Int × Int) × Bool × Int × Bool × (List (List UInt8)) × Int) (b3 : (Int × Int × Int) × Bool × Int × Bool × (List (List UInt8)) × Int) (r : AEx × Env × Boxes) (c0 : decide (s14 < 120) = true) (c1 : tickPre b1 s14 ([] : List (List UInt8)) = true) (c2 : ¬ (tickG b1 s14 ([] : List (List UInt8))).2.1 = true) (c6 : ¬ ((((List.length (tickG b1 s14 ([] : List (List UInt8))).1) : Nat) : Int) != (0)) = true) (c10 : ¬ (tickG b1 s14 ([] : List (List UInt8))).2.2.2.1 = true) (c16 : ((decide (0 ≤ b0.1) && decide (b0.1 ≤ 2305843009213693951)) && decide ((b0.1 - (0)) ≤ 2305843009213693951)) = true) (c17 : ¬ decide (s14 < (withinI x3 (0) b0.1)) = true) (c19 : tickPre b2 s14 ([] : List (List UInt8)) = true) (c20 : ¬ (tickG b2 s14 ([] : List (List UInt8))).2.1 = true) (c21 : decide (s14 ≤ b0.1) = true) (c23 : tickPre b3 s14 [([97] : List UInt8)] = true) (c24 : (tickG b3 s14 [([97] : List UInt8)]).2.1 = true) (c28 : ¬ ((((List.length (tickG b3 s14 [([97] : List UInt8)]).1) : Nat) : Int) == (0)) = true) (ih : (turns (hds 4 32264) 0 32264 (evC byref (evCall F S5 (m + 24)) (m + 24) 0 (hds 4) lbl4_0) n (l4_0H x3 s13 ((IntKind.wrap .i64 (s14 + (1)))) b0 ((tickG b1 s14 ([] : List (List UInt8))).2.2) ((tickG b2 s14 ([] : List (List UInt8))).2.2) ((tickG b3 s14 [([97] : List UInt8)]).2.2)) (l4_0B x3 s13 ((IntKind.wrap .i64 (s14 + (1)))) b0 ((tickG b1 s14 ([] : List (List UInt8))).2.2) ((tickG b2 s14 ([] : List (List UInt8))).2.2) ((tickG b3 s14 [([97] : List UInt8)]).2.2))).run = some r) : (turns (hds 4 32264) 0 32264 (evC byref (evCall F S5 (m + 24)) (m + 24) 0 (hds 4) lbl4_0) (n + 1) (l4_0H x3 s13 s14 b0 b1 b2 b3) (l4_0B x3 s13 s14 b0 b1 b2 b3)).run = some r := by
  exact turns_step (M.run_of_path _ [true, true, false, false, false, false, false, false, false, false, false, false, true, false, false, false, true, false, true, true, false, true, true, true, true, true, true, true, false] _ _ (by kernel_rfl) (all_t c0 (all_t c1 (all_f c2 (all_f c2 (all_f c2 (all_f c2 (all_f c6 (all_f c6 (all_f c6 (all_f c6 (all_nnf c10 (all_nnf c10 (all_nf c10 (all_nnf c10 (all_nnf c10 (all_f Bool.false_ne_true (all_t c16 (all_f c17 (all_t rfl (all_t c19 (all_f c20 (all_t c21 (all_t rfl (all_t c23 (all_t c24 (all_t c24 (all_t c24 (all_t c24 (all_f c28 all_nil)))))))))))))))))))))))))))))) ih
set_option maxHeartbeats 20000000 in
theorem l4_0_w8 (m n : Nat) (x3 : Int) (s13 : Int) (s14 : Int) (b0 : Int × Int × Int) (b1 : (Int × Int × Int) × Bool × Int × Bool × (List (List UInt8)) × Int) (b2 : (Int × Int × Int) × Bool × Int × Bool × (List (List UInt8)) × Int) (b3 : (Int × Int × Int) × Bool × Int × Bool × (List (List UInt8)) × Int) (r : AEx × Env × Boxes) (c0 : decide (s14 < 120) = true) (c1 : tickPre b1 s14 ([] : List (List UInt8)) = true) (c2 : ¬ (tickG b1 s14 ([] : List (List UInt8))).2.1 = true) (c6 : ¬ ((((List.length (tickG b1 s14 ([] : List (List UInt8))).1) : Nat) : Int) != (0)) = true) (c10 : ¬ (tickG b1 s14 ([] : List (List UInt8))).2.2.2.1 = true) (c16 : ((decide (0 ≤ b0.1) && decide (b0.1 ≤ 2305843009213693951)) && decide ((b0.1 - (0)) ≤ 2305843009213693951)) = true) (c17 : ¬ decide (s14 < (withinI x3 (0) b0.1)) = true) (c19 : tickPre b2 s14 ([] : List (List UInt8)) = true) (c20 : ¬ (tickG b2 s14 ([] : List (List UInt8))).2.1 = true) (c21 : decide (s14 ≤ b0.1) = true) (c23 : tickPre b3 s14 [([97] : List UInt8)] = true) (c24 : ¬ (tickG b3 s14 [([97] : List UInt8)]).2.1 = true) (ih : (turns (hds 4 32264) 0 32264 (evC byref (evCall F S5 (m + 24)) (m + 24) 0 (hds 4) lbl4_0) n (l4_0H x3 s13 ((IntKind.wrap .i64 (s14 + (1)))) b0 ((tickG b1 s14 ([] : List (List UInt8))).2.2) ((tickG b2 s14 ([] : List (List UInt8))).2.2) ((tickG b3 s14 [([97] : List UInt8)]).2.2)) (l4_0B x3 s13 ((IntKind.wrap .i64 (s14 + (1)))) b0 ((tickG b1 s14 ([] : List (List UInt8))).2.2) ((tickG b2 s14 ([] : List (List UInt8))).2.2) ((tickG b3 s14 [([97] : List UInt8)]).2.2))).run = some r) : (turns (hds 4 32264) 0 32264 (evC byref (evCall F S5 (m + 24)) (m + 24) 0 (hds 4) lbl4_0) (n + 1) (l4_0H x3 s13 s14 b0 b1 b2 b3) (l4_0B x3 s13 s14 b0 b1 b2 b3)).run = some r := by
  exact turns_step (M.run_of_path _ [true, true, false, false, false, false, false, false, false, false, false, false, true, false, false, false, true, false, true, true, false, true, true, true, false, false, false, false, false] _ _ (by kernel_rfl) (all_t c0 (all_t c1 (all_f c2 (all_f c2 (all_f c2 (all_f c2 (all_f c6 (all_f c6 (all_f c6 (all_f c6 (all_nnf c10 (all_nnf c10 (all_nf c10 (all_nnf c10 (all_nnf c10 (all_f Bool.false_ne_true (all_t c16 (all_f c17 (all_t rfl (all_t c19 (all_f c20 (all_t c21 (all_t rfl (all_t c23 (all_f c24 (all_f c24 (all_f c24 (all_f c24 (all_f Bool.false_ne_true all_nil)))))))))))))))))))))))))))))) ih
set_option maxHeartbeats 20000000 in
theorem l4_0_w9 (m n : Nat) (x3 : Int) (s13 : Int) (s14 : Int) (b0 : Int × Int × Int) (b1 : (Int × Int × Int) × Bool × Int × Bool × (List (List UInt8)) × Int) (b2 : (Int × Int × Int) × Bool × Int × Bool × (List (List UInt8)) × Int) (b3 : (Int × Int × Int) × Bool × Int × Bool × (List (List UInt8)) × Int) (r : AEx × Env × Boxes) (c0 : decide (s14 < 120) = true) (c1 : tickPre b1 s14 ([] : List (List UInt8)) = true) (c2 : ¬ (tickG b1 s14 ([] : List (List UInt8))).2.1 = true) (c6 : ¬ ((((List.length (tickG b1 s14 ([] : List (List UInt8))).1) : Nat) : Int) != (0)) = true) (c10 : ¬ (tickG b1 s14 ([] : List (List UInt8))).2.2.2.1 = true) (c16 : ((decide (0 ≤ b0.1) && decide (b0.1 ≤ 2305843009213693951)) && decide ((b0.1 - (0)) ≤ 2305843009213693951)) = true) (c17 : ¬ decide (s14 < (withinI x3 (0) b0.1)) = true) (c19 : tickPre b2 s14 ([] : List (List UInt8)) = true) (c20 : ¬ (tickG b2 s14 ([] : List (List UInt8))).2.1 = true) (c21 : ¬ decide (s14 ≤ b0.1) = true) (c23 : tickPre b3 s14 ([] : List (List UInt8)) = true) (c24 : (tickG b3 s14 ([] : List (List UInt8))).2.1 = true) (c28 : ((((List.length (tickG b3 s14 ([] : List (List UInt8))).1) : Nat) : Int) == (0)) = true) (ih : (turns (hds 4 32264) 0 32264 (evC byref (evCall F S5 (m + 24)) (m + 24) 0 (hds 4) lbl4_0) n (l4_0H x3 ((IntKind.wrap .i64 (s13 + (1)))) ((IntKind.wrap .i64 (s14 + (1)))) b0 ((tickG b1 s14 ([] : List (List UInt8))).2.2) ((tickG b2 s14 ([] : List (List UInt8))).2.2) ((tickG b3 s14 ([] : List (List UInt8))).2.2)) (l4_0B x3 ((IntKind.wrap .i64 (s13 + (1)))) ((IntKind.wrap .i64 (s14 + (1)))) b0 ((tickG b1 s14 ([] : List (List UInt8))).2.2) ((tickG b2 s14 ([] : List (List UInt8))).2.2) ((tickG b3 s14 ([] : List (List UInt8))).2.2))).run = some r) : (turns (hds 4 32264) 0 32264 (evC byref (evCall F S5 (m + 24)) (m + 24) 0 (hds 4) lbl4_0) (n + 1) (l4_0H x3 s13 s14 b0 b1 b2 b3) (l4_0B x3 s13 s14 b0 b1 b2 b3)).run = some r := by
  exact turns_step (M.run_of_path _ [true, true, false, false, false, false, false, false, false, false, false, false, true, false, false, false, true, false, true, true, false, false, true, true, true, true, true, true, true] _ _ (by kernel_rfl) (all_t c0 (all_t c1 (all_f c2 (all_f c2 (all_f c2 (all_f c2 (all_f c6 (all_f c6 (all_f c6 (all_f c6 (all_nnf c10 (all_nnf c10 (all_nf c10 (all_nnf c10 (all_nnf c10 (all_f Bool.false_ne_true (all_t c16 (all_f c17 (all_t rfl (all_t c19 (all_f c20 (all_f c21 (all_t rfl (all_t c23 (all_t c24 (all_t c24 (all_t c24 (all_t c24 (all_t c28 all_nil)))))))))))))))))))))))))))))) ih
set_option maxHeartbeats 20000000 in
theorem l4_0_w10 (m n : Nat) (x3 : Int) (s13 : Int) (s14 : Int) (b0 : Int × Int × Int) (b1 : (Int × Int × Int) × Bool × Int × Bool × (List (List UInt8)) × Int) (b2 : (Int × Int × Int) × Bool × Int × Bool × (List (List UInt8)) × Int) (b3 : (Int × Int × Int) × Bool × Int × Bool × (List (List UInt8)) × Int) (r : AEx × Env × Boxes) (c0 : decide (s14 < 120) = true) (c1 : tickPre b1 s14 ([] : List (List UInt8)) = true) (c2 : ¬ (tickG b1 s14 ([] : List (List UInt8))).2.1 = true) (c6 : ¬ ((((List.length (tickG b1 s14 ([] : List (List UInt8))).1) : Nat) : Int) != (0)) = true) (c10 : ¬ (tickG b1 s14 ([] : List (List UInt8))).2.2.2.1 = true) (c16 : ((decide (0 ≤ b0.1) && decide (b0.1 ≤ 2305843009213693951)) && decide ((b0.1 - (0)) ≤ 2305843009213693951)) = true) (c17 : ¬ decide (s14 < (withinI x3 (0) b0.1)) = true) (c19 : tickPre b2 s14 ([] : List (List UInt8)) = true) (c20 : ¬ (tickG b2 s14 ([] : List (List UInt8))).2.1 = true) (c21 : ¬ decide (s14 ≤ b0.1) = true) (c23 : tickPre b3 s14 ([] : List (List UInt8)) = true) (c24 : (tickG b3 s14 ([] : List (List UInt8))).2.1 = true) (c28 : ¬ ((((List.length (tickG b3 s14 ([] : List (List UInt8))).1) : Nat) : Int) == (0)) = true) (ih : (turns (hds 4 32264) 0 32264 (evC byref (evCall F S5 (m + 24)) (m + 24) 0 (hds 4) lbl4_0) n (l4_0H x3 s13 ((IntKind.wrap .i64 (s14 + (1)))) b0 ((tickG b1 s14 ([] : List (List UInt8))).2.2) ((tickG b2 s14 ([] : List (List UInt8))).2.2) ((tickG b3 s14 ([] : List (List UInt8))).2.2)) (l4_0B x3 s13 ((IntKind.wrap .i64 (s14 + (1)))) b0 ((tickG b1 s14 ([] : List (List UInt8))).2.2) ((tickG b2 s14 ([] : List (List UInt8))).2.2) ((tickG b3 s14 ([] : List (List UInt8))).2.2))).run = some r) : (turns (hds 4 32264) 0 32264 (evC byref (evCall F S5 (m + 24)) (m + 24) 0 (hds 4) lbl4_0) (n + 1) (l4_0H x3 s13 s14 b0 b1 b2 b3) (l4_0B x3 s13 s14 b0 b1 b2 b3)).run = some r := by
  exact turns_step (M.run_of_path _ [true, true, false, false, false, false, false, false, false, false, false, false, true, false, false, false, true, false, true, true, false, false, true, true, true, true, true, true, false] _ _ (by kernel_rfl) (all_t c0 (all_t c1 (all_f c2 (all_f c2 (all_f c2 (all_f c2 (all_f c6 (all_f c6 (all_f c6 (all_f c6 (all_nnf c10 (all_nnf c10 (all_nf c10 (all_nnf c10 (all_nnf c10 (all_f Bool.false_ne_true (all_t c16 (all_f c17 (all_t rfl (all_t c19 (all_f c20 (all_f c21 (all_t rfl (all_t c23 (all_t c24 (all_t c24 (all_t c24 (all_t c24 (all_f c28 all_nil)))))))))))))))))))))))))))))) ih
set_option maxHeartbeats 20000000 in
theorem l4_0_w11 (m n : Nat) (x3 : Int) (s13 : Int) (s14 : Int) (b0 : Int × Int × Int) (b1 : (Int × Int × Int) × Bool × Int × Bool × (List (List UInt8)) × Int) (b2 : (Int × Int × Int) × Bool × Int × Bool × (List (List UInt8)) × Int) (b3 : (Int × Int × Int) × Bool × Int × Bool × (List (List UInt8)) × Int) (r : AEx × Env × Boxes) (c0 : decide (s14 < 120) = true) (c1 : tickPre b1 s14 ([] : List (List UInt8)) = true) (c2 : ¬ (tickG b1 s14 ([] : List (List UInt8))).2.1 = true) (c6 : ¬ ((((List.length (tickG b1 s14 ([] : List (List UInt8))).1) : Nat) : Int) != (0)) = true) (c10 : ¬ (tickG b1 s14 ([] : List (List UInt8))).2.2.2.1 = true) (c16 : ((decide (0 ≤ b0.1) && decide (b0.1 ≤ 2305843009213693951)) && decide ((b0.1 - (0)) ≤ 2305843009213693951)) = true) (c17 : ¬ decide (s14 < (withinI x3 (0) b0.1)) = true) (c19 : tickPre b2 s14 ([] : List (List UInt8)) = true) (c20 : ¬ (tickG b2 s14 ([] : List (List UInt8))).2.1 = true) (c21 : ¬ decide (s14 ≤ b0.1) = true) (c23 : tickPre b3 s14 ([] : List (List UInt8)) = true) (c24 : ¬ (tickG b3 s14 ([] : List (List UInt8))).2.1 = true) (ih : (turns (hds 4 32264) 0 32264 (evC byref (evCall F S5 (m + 24)) (m + 24) 0 (hds 4) lbl4_0) n (l4_0H x3 s13 ((IntKind.wrap .i64 (s14 + (1)))) b0 ((tickG b1 s14 ([] : List (List UInt8))).2.2) ((tickG b2 s14 ([] : List (List UInt8))).2.2) ((tickG b3 s14 ([] : List (List UInt8))).2.2)) (l4_0B x3 s13 ((IntKind.wrap .i64 (s14 + (1)))) b0 ((tickG b1 s14 ([] : List (List UInt8))).2.2) ((tickG b2 s14 ([] : List (List UInt8))).2.2) ((tickG b3 s14 ([] : List (List UInt8))).2.2))).run = some r) : (turns (hds 4 32264) 0 32264 (evC byref (evCall F S5 (m + 24)) (m + 24) 0 (hds 4) lbl4_0) (n + 1) (l4_0H x3 s13 s14 b0 b1 b2 b3) (l4_0B x3 s13 s14 b0 b1 b2 b3)).run = some r := by
  exact turns_step (M.run_of_path _ [true, true, false, false, false, false, false, false, false, false, false, false, true, false, false, false, true, false, true, true, false, false, true, true, false, false, false, false, false] _ _ (by kernel_rfl) (all_t c0 (all_t c1 (all_f c2 (all_f c2 (all_f c2 (all_f c2 (all_f c6 (all_f c6 (all_f c6 (all_f c6 (all_nnf c10 (all_nnf c10 (all_nf c10 (all_nnf c10 (all_nnf c10 (all_f Bool.false_ne_true (all_t c16 (all_f c17 (all_t rfl (all_t c19 (all_f c20 (all_f c21 (all_t rfl (all_t c23 (all_f c24 (all_f c24 (all_f c24 (all_f c24 (all_f Bool.false_ne_true all_nil)))))))))))))))))))))))))))))) ih
set_option maxHeartbeats 20000000 in
theorem l4_0_w12 (m n : Nat) (x3 : Int) (s13 : Int) (s14 : Int) (b0 : Int × Int × Int) (b1 : (Int × Int × Int) × Bool × Int × Bool × (List (List UInt8)) × Int) (b2 : (Int × Int × Int) × Bool × Int × Bool × (List (List UInt8)) × Int) (b3 : (Int × Int × Int) × Bool × Int × Bool × (List (List UInt8)) × Int) (c0 : ¬ decide (s14 < 120) = true) : (turns (hds 4 32264) 0 32264 (evC byref (evCall F S5 (m + 24)) (m + 24) 0 (hds 4) lbl4_0) (n + 1) (l4_0H x3 s13 s14 b0 b1 b2 b3) (l4_0B x3 s13 s14 b0 b1 b2 b3)).run = some (.exit 0, [.top, .top, .top, (.d (.int .i64 x3)), .top, .top, .top, .top, .top, (.ptr 0 0), (.ptr 1 0), (.ptr 2 0), (.ptr 3 0), (.d (.int .i64 s13)), (.d (.int .i64 s14)), .top, .top, .top, .top, .top, .top, .top, .top, .top, .top, .top, .top, .top, .top, .top, .top, .top, .top, .top, .top, .top, .top, .top, .top, .top, .top, .top, (.d (.int .i64 s14)), (.d (.bool (decide (s14 < 120)))), .top, .top, .top, .top, .top, .top, .top, .top, .top, .top, .top, .top, .top, .top, .top, .top, .top, .top, .top, .top, .top, .top, .top, .top, .top, .top, .top, .top, .top, .top, .top, .top, .top, .top, .top, .top, .top, .top, .top, .top, .top, .top, .top, .top, .top, .top, .top, .top, .top, .top, .top, .top, .top, .top, .top, .top, .top, .top, .top, .top, .top, .top, .top, .top, .top, .top, .top, .top, .top, .top, .top, .top], [(.cells [(.d (.int .i64 b0.1)), (.d (.int .i64 b0.2.1)), (.d (.int .i64 b0.2.2))]), (.cells [(.d (.int .i64 b1.1.1)), (.d (.int .i64 b1.1.2.1)), (.d (.int .i64 b1.1.2.2)), (.d (.bool (b1.2.1))), (.d (.int .i64 b1.2.2.1)), (.d (.bool (b1.2.2.2.1))), (.d (.sl .str b1.2.2.2.2.1)), (.d (.int .i64 b1.2.2.2.2.2))]), (.cells [(.d (.int .i64 b2.1.1)), (.d (.int .i64 b2.1.2.1)), (.d (.int .i64 b2.1.2.2)), (.d (.bool (b2.2.1))), (.d (.int .i64 b2.2.2.1)), (.d (.bool (b2.2.2.2.1))), (.d (.sl .str b2.2.2.2.2.1)), (.d (.int .i64 b2.2.2.2.2.2))]), (.cells [(.d (.int .i64 b3.1.1)), (.d (.int .i64 b3.1.2.1)), (.d (.int .i64 b3.1.2.2)), (.d (.bool (b3.2.1))), (.d (.int .i64 b3.2.2.1)), (.d (.bool (b3.2.2.2.1))), (.d (.sl .str b3.2.2.2.2.1)), (.d (.int .i64 b3.2.2.2.2.2))])]) := by
  exact turns_last (by simp) (M.run_of_path _ [false] _ _ (by kernel_rfl) (all_f c0 all_nil)) 

set_option maxHeartbeats 20000000 in
theorem l4_0_step (m n : Nat) (ih : ∀ (x3 : Int) (s13 : Int) (s14 : Int) (b0 : Int × Int × Int) (b1 : (Int × Int × Int) × Bool × Int × Bool × (List (List UInt8)) × Int) (b2 : (Int × Int × Int) × Bool × Int × Bool × (List (List UInt8)) × Int) (b3 : (Int × Int × Int) × Bool × Int × Bool × (List (List UInt8)) × Int) (q : Nat × Int × Int × ((Int × Int × Int) × Bool × Int × Bool × (List (List UInt8)) × Int) × ((Int × Int × Int) × Bool × Int × Bool × (List (List UInt8)) × Int) × ((Int × Int × Int) × Bool × Int × Bool × (List (List UInt8)) × Int)), l4_0 m n x3 s13 s14 b0 b1 b2 b3 = some q → (turns (hds 4 32264) 0 32264 (evC byref (evCall F S5 (m + 24)) (m + 24) 0 (hds 4) lbl4_0) n (l4_0H x3 s13 s14 b0 b1 b2 b3) (l4_0B x3 s13 s14 b0 b1 b2 b3)).run = some (l4_0E (x3) (q.2.1) (q.2.2.1) (b0) (q.2.2.2.1) (q.2.2.2.2.1) (q.2.2.2.2.2) q.1)) (x3 : Int) (s13 : Int) (s14 : Int) (b0 : Int × Int × Int) (b1 : (Int × Int × Int) × Bool × Int × Bool × (List (List UInt8)) × Int) (b2 : (Int × Int × Int) × Bool × Int × Bool × (List (List UInt8)) × Int) (b3 : (Int × Int × Int) × Bool × Int × Bool × (List (List UInt8)) × Int) (q : Nat × Int × Int × ((Int × Int × Int) × Bool × Int × Bool × (List (List UInt8)) × Int) × ((Int × Int × Int) × Bool × Int × Bool × (List (List UInt8)) × Int) × ((Int × Int × Int) × Bool × Int × Bool × (List (List UInt8)) × Int)) (h : l4_0 m (n + 1) x3 s13 s14 b0 b1 b2 b3 = some q) : (turns (hds 4 32264) 0 32264 (evC byref (evCall F S5 (m + 24)) (m + 24) 0 (hds 4) lbl4_0) (n + 1) (l4_0H x3 s13 s14 b0 b1 b2 b3) (l4_0B x3 s13 s14 b0 b1 b2 b3)).run = some (l4_0E (x3) (q.2.1) (q.2.2.1) (b0) (q.2.2.2.1) (q.2.2.2.2.1) (q.2.2.2.2.2) q.1) := by
  rw [l4_0] at h
  refine ite_cases h (fun c0 h => ?_) (fun c0 h => ?_)
  · skip
    refine ite_cases h (fun c1 h => ?_) (fun c1 h => ?_)
    · skip
      refine ite_cases h (fun c2 h => ?_) (fun c2 h => ?_)
      · skip
        cases h
      · skip
        refine ite_cases h (fun c6 h => ?_) (fun c6 h => ?_)
        · skip
          cases h
        · skip
          refine ite_cases h (fun c10 h => ?_) (fun c10 h => ?_)
          · skip
            cases h
          · skip
            refine ite_cases h (fun c16 h => ?_) (fun c16 h => ?_)
            · skip
              refine ite_cases h (fun c17 h => ?_) (fun c17 h => ?_)
              · skip
                refine ite_cases h (fun c19 h => ?_) (fun c19 h => ?_)
                · skip
                  refine ite_cases h (fun c20 h => ?_) (fun c20 h => ?_)
                  · skip
                    cases h
                  · skip
                    refine ite_cases h (fun c21 h => ?_) (fun c21 h => ?_)
                    · skip
                      refine ite_cases h (fun c23 h => ?_) (fun c23 h => ?_)
                      · skip
                        refine ite_cases h (fun c24 h => ?_) (fun c24 h => ?_)
                        · skip
                          refine ite_cases h (fun c28 h => ?_) (fun c28 h => ?_)
                          · skip
                            exact l4_0_w0 m n x3 s13 s14 b0 b1 b2 b3 _ c0 c1 c2 c6 c10 c16 c17 c19 c20 c21 c23 c24 c28 (ih _ _ _ _ _ _ _ q h)
                          · skip
                            exact l4_0_w1 m n x3 s13 s14 b0 b1 b2 b3 _ c0 c1 c2 c6 c10 c16 c17 c19 c20 c21 c23 c24 c28 (ih _ _ _ _ _ _ _ q h)
                        · skip
                          exact l4_0_w2 m n x3 s13 s14 b0 b1 b2 b3 _ c0 c1 c2 c6 c10 c16 c17 c19 c20 c21 c23 c24 (ih _ _ _ _ _ _ _ q h)
                      · skip
                        cases h
                    · skip
                      refine ite_cases h (fun c23 h => ?_) (fun c23 h => ?_)
                      · skip
                        refine ite_cases h (fun c24 h => ?_) (fun c24 h => ?_)
                        · skip
                          refine ite_cases h (fun c28 h => ?_) (fun c28 h => ?_)
                          · skip
                            exact l4_0_w3 m n x3 s13 s14 b0 b1 b2 b3 _ c0 c1 c2 c6 c10 c16 c17 c19 c20 c21 c23 c24 c28 (ih _ _ _ _ _ _ _ q h)
                          · skip
                            exact l4_0_w4 m n x3 s13 s14 b0 b1 b2 b3 _ c0 c1 c2 c6 c10 c16 c17 c19 c20 c21 c23 c24 c28 (ih _ _ _ _ _ _ _ q h)
                        · skip
                          exact l4_0_w5 m n x3 s13 s14 b0 b1 b2 b3 _ c0 c1 c2 c6 c10 c16 c17 c19 c20 c21 c23 c24 (ih _ _ _ _ _ _ _ q h)
                      · skip
                        cases h
                · skip
                  cases h
              · skip
                refine ite_cases h (fun c19 h => ?_) (fun c19 h => ?_)
                · skip
                  refine ite_cases h (fun c20 h => ?_) (fun c20 h => ?_)
                  · skip
                    cases h
                  · skip
                    refine ite_cases h (fun c21 h => ?_) (fun c21 h => ?_)
                    · skip
                      refine ite_cases h (fun c23 h => ?_) (fun c23 h => ?_)
                      · skip
                        refine ite_cases h (fun c24 h => ?_) (fun c24 h => ?_)
                        · skip
                          refine ite_cases h (fun c28 h => ?_) (fun c28 h => ?_)
                          · skip
                            exact l4_0_w6 m n x3 s13 s14 b0 b1 b2 b3 _ c0 c1 c2 c6 c10 c16 c17 c19 c20 c21 c23 c24 c28 (ih _ _ _ _ _ _ _ q h)
                          · skip
                            exact l4_0_w7 m n x3 s13 s14 b0 b1 b2 b3 _ c0 c1 c2 c6 c10 c16 c17 c19 c20 c21 c23 c24 c28 (ih _ _ _ _ _ _ _ q h)
                        · skip
                          exact l4_0_w8 m n x3 s13 s14 b0 b1 b2 b3 _ c0 c1 c2 c6 c10 c16 c17 c19 c20 c21 c23 c24 (ih _ _ _ _ _ _ _ q h)
                      · skip
                        cases h
                    · skip
                      refine ite_cases h (fun c23 h => ?_) (fun c23 h => ?_)
                      · skip
                        refine ite_cases h (fun c24 h => ?_) (fun c24 h => ?_)
                        · skip
                          refine ite_cases h (fun c28 h => ?_) (fun c28 h => ?_)
                          · skip
                            exact l4_0_w9 m n x3 s13 s14 b0 b1 b2 b3 _ c0 c1 c2 c6 c10 c16 c17 c19 c20 c21 c23 c24 c28 (ih _ _ _ _ _ _ _ q h)
                          · skip
                            exact l4_0_w10 m n x3 s13 s14 b0 b1 b2 b3 _ c0 c1 c2 c6 c10 c16 c17 c19 c20 c21 c23 c24 c28 (ih _ _ _ _ _ _ _ q h)
                        · skip
                          exact l4_0_w11 m n x3 s13 s14 b0 b1 b2 b3 _ c0 c1 c2 c6 c10 c16 c17 c19 c20 c21 c23 c24 (ih _ _ _ _ _ _ _ q h)
                      · skip
                        cases h
                · skip
                  cases h
            · skip
              cases h
    · skip
      cases h
  · skip
    cases h
    exact l4_0_w12 m n x3 s13 s14 b0 b1 b2 b3 c0
set_option maxHeartbeats 20000000 in
theorem l4_0_ok (m : Nat) : ∀ (n : Nat) (x3 : Int) (s13 : Int) (s14 : Int) (b0 : Int × Int × Int) (b1 : (Int × Int × Int) × Bool × Int × Bool × (List (List UInt8)) × Int) (b2 : (Int × Int × Int) × Bool × Int × Bool × (List (List UInt8)) × Int) (b3 : (Int × Int × Int) × Bool × Int × Bool × (List (List UInt8)) × Int) (q : Nat × Int × Int × ((Int × Int × Int) × Bool × Int × Bool × (List (List UInt8)) × Int) × ((Int × Int × Int) × Bool × Int × Bool × (List (List UInt8)) × Int) × ((Int × Int × Int) × Bool × Int × Bool × (List (List UInt8)) × Int)), l4_0 m n x3 s13 s14 b0 b1 b2 b3 = some q → (turns (hds 4 32264) 0 32264 (evC byref (evCall F S5 (m + 24)) (m + 24) 0 (hds 4) lbl4_0) n (l4_0H x3 s13 s14 b0 b1 b2 b3) (l4_0B x3 s13 s14 b0 b1 b2 b3)).run = some (l4_0E (x3) (q.2.1) (q.2.2.1) (b0) (q.2.2.2.1) (q.2.2.2.2.1) (q.2.2.2.2.2) q.1)
  | 0, x3, s13, s14, b0, b1, b2, b3, q, h => by cases h
  | n + 1, x3, s13, s14, b0, b1, b2, b3, q, h => l4_0_step m n (l4_0_ok m n) x3 s13 s14 b0 b1 b2 b3 q h

def quiet (m : Nat) (x0 : Int) (x1 : Int) (x2 : Int) (x3 : Int) : Option Unit :=
  if decide ((withinI x0 (0) (30)) ≥ 0) = true then
    if decide ((withinI x0 (0) (30)) ≤ 1048576) = true then
      if decide ((withinI x1 (1) (20)) ≥ 1) = true then
        if decide ((withinI x1 (1) (20)) ≤ 1048576) = true then
          if decide ((withinI x2 (1) (40)) ≥ 1) = true then
            if decide ((withinI x2 (1) (40)) ≤ 1048576) = true then
              if (Option.isSome (l4_0 m (m + 24) x3 0 0 (((withinI x0 (0) (30)), ((withinI x1 (1) (20)), (withinI x2 (1) (40))))) ((((withinI x0 (0) (30)), ((withinI x1 (1) (20)), (withinI x2 (1) (40)))), (false, ((0), (false, (([] : List (List UInt8)), (0))))))) ((((withinI x0 (0) (30)), ((withinI x1 (1) (20)), (withinI x2 (1) (40)))), (false, ((0), (false, (([] : List (List UInt8)), (0))))))) ((((withinI x0 (0) (30)), ((withinI x1 (1) (20)), (withinI x2 (1) (40)))), (false, ((0), (false, (([] : List (List UInt8)), (0))))))))) = true then
                if ((l4_0R m (m + 24) x3 0 0 (((withinI x0 (0) (30)), ((withinI x1 (1) (20)), (withinI x2 (1) (40))))) ((((withinI x0 (0) (30)), ((withinI x1 (1) (20)), (withinI x2 (1) (40)))), (false, ((0), (false, (([] : List (List UInt8)), (0))))))) ((((withinI x0 (0) (30)), ((withinI x1 (1) (20)), (withinI x2 (1) (40)))), (false, ((0), (false, (([] : List (List UInt8)), (0))))))) ((((withinI x0 (0) (30)), ((withinI x1 (1) (20)), (withinI x2 (1) (40)))), (false, ((0), (false, (([] : List (List UInt8)), (0)))))))).2.1 == (1)) = true then
                  if (l4_0R m (m + 24) x3 0 0 (((withinI x0 (0) (30)), ((withinI x1 (1) (20)), (withinI x2 (1) (40))))) ((((withinI x0 (0) (30)), ((withinI x1 (1) (20)), (withinI x2 (1) (40)))), (false, ((0), (false, (([] : List (List UInt8)), (0))))))) ((((withinI x0 (0) (30)), ((withinI x1 (1) (20)), (withinI x2 (1) (40)))), (false, ((0), (false, (([] : List (List UInt8)), (0))))))) ((((withinI x0 (0) (30)), ((withinI x1 (1) (20)), (withinI x2 (1) (40)))), (false, ((0), (false, (([] : List (List UInt8)), (0)))))))).2.2.2.2.1.2.1 = true then
                    none
                  else
                    if (l4_0R m (m + 24) x3 0 0 (((withinI x0 (0) (30)), ((withinI x1 (1) (20)), (withinI x2 (1) (40))))) ((((withinI x0 (0) (30)), ((withinI x1 (1) (20)), (withinI x2 (1) (40)))), (false, ((0), (false, (([] : List (List UInt8)), (0))))))) ((((withinI x0 (0) (30)), ((withinI x1 (1) (20)), (withinI x2 (1) (40)))), (false, ((0), (false, (([] : List (List UInt8)), (0))))))) ((((withinI x0 (0) (30)), ((withinI x1 (1) (20)), (withinI x2 (1) (40)))), (false, ((0), (false, (([] : List (List UInt8)), (0)))))))).2.2.2.2.2.2.1 = true then
                      none
                    else
                      some ()
                else
                  none
              else
                none
            else
              none
          else
            none
        else
          none
      else
        none
    else
      none
  else
    none
set_option maxHeartbeats 20000000 in
theorem quiet_ok (m : Nat) (x0 : Int) (x1 : Int) (x2 : Int) (x3 : Int) (q : Unit) (h : quiet m x0 x1 x2 x3 = some q) : (evCall F S5 (m + 25) 4 [(.d (.int .i64 x0)), (.d (.int .i64 x1)), (.d (.int .i64 x2)), (.d (.int .i64 x3))] []).run = some (.d (.bool true), []) := by
  unfold quiet at h
  refine ite_cases h (fun c3 h => ?_) (fun c3 h => ?_)
  · skip
    refine ite_cases h (fun c7 h => ?_) (fun c7 h => ?_)
    · skip
      refine ite_cases h (fun c10 h => ?_) (fun c10 h => ?_)
      · skip
        refine ite_cases h (fun c15 h => ?_) (fun c15 h => ?_)
        · skip
          refine ite_cases h (fun c18 h => ?_) (fun c18 h => ?_)
          · skip
            refine ite_cases h (fun c23 h => ?_) (fun c23 h => ?_)
            · skip
              refine ite_cases h (fun c73 h => ?_) (fun c73 h => ?_)
              · skip
                refine ite_cases h (fun c74 h => ?_) (fun c74 h => ?_)
                · skip
                  refine ite_cases h (fun c77 h => ?_) (fun c77 h => ?_)
                  · skip
                    cases h
                  · skip
                    refine ite_cases h (fun c80 h => ?_) (fun c80 h => ?_)
                    · skip
                      cases h
                    · skip
                      cases h
                      refine runT_ok (LS := (fun k => if k = 32264 then some (l4_0E x3 ((l4_0R m (m + 24) x3 0 0 (((withinI x0 (0) (30)), ((withinI x1 (1) (20)), (withinI x2 (1) (40))))) ((((withinI x0 (0) (30)), ((withinI x1 (1) (20)), (withinI x2 (1) (40)))), (false, ((0), (false, (([] : List (List UInt8)), (0))))))) ((((withinI x0 (0) (30)), ((withinI x1 (1) (20)), (withinI x2 (1) (40)))), (false, ((0), (false, (([] : List (List UInt8)), (0))))))) ((((withinI x0 (0) (30)), ((withinI x1 (1) (20)), (withinI x2 (1) (40)))), (false, ((0), (false, (([] : List (List UInt8)), (0)))))))).2.1) ((l4_0R m (m + 24) x3 0 0 (((withinI x0 (0) (30)), ((withinI x1 (1) (20)), (withinI x2 (1) (40))))) ((((withinI x0 (0) (30)), ((withinI x1 (1) (20)), (withinI x2 (1) (40)))), (false, ((0), (false, (([] : List (List UInt8)), (0))))))) ((((withinI x0 (0) (30)), ((withinI x1 (1) (20)), (withinI x2 (1) (40)))), (false, ((0), (false, (([] : List (List UInt8)), (0))))))) ((((withinI x0 (0) (30)), ((withinI x1 (1) (20)), (withinI x2 (1) (40)))), (false, ((0), (false, (([] : List (List UInt8)), (0)))))))).2.2.1) ((((withinI x0 (0) (30)), ((withinI x1 (1) (20)), (withinI x2 (1) (40)))))) ((l4_0R m (m + 24) x3 0 0 (((withinI x0 (0) (30)), ((withinI x1 (1) (20)), (withinI x2 (1) (40))))) ((((withinI x0 (0) (30)), ((withinI x1 (1) (20)), (withinI x2 (1) (40)))), (false, ((0), (false, (([] : List (List UInt8)), (0))))))) ((((withinI x0 (0) (30)), ((withinI x1 (1) (20)), (withinI x2 (1) (40)))), (false, ((0), (false, (([] : List (List UInt8)), (0))))))) ((((withinI x0 (0) (30)), ((withinI x1 (1) (20)), (withinI x2 (1) (40)))), (false, ((0), (false, (([] : List (List UInt8)), (0)))))))).2.2.2.1) ((l4_0R m (m + 24) x3 0 0 (((withinI x0 (0) (30)), ((withinI x1 (1) (20)), (withinI x2 (1) (40))))) ((((withinI x0 (0) (30)), ((withinI x1 (1) (20)), (withinI x2 (1) (40)))), (false, ((0), (false, (([] : List (List UInt8)), (0))))))) ((((withinI x0 (0) (30)), ((withinI x1 (1) (20)), (withinI x2 (1) (40)))), (false, ((0), (false, (([] : List (List UInt8)), (0))))))) ((((withinI x0 (0) (30)), ((withinI x1 (1) (20)), (withinI x2 (1) (40)))), (false, ((0), (false, (([] : List (List UInt8)), (0)))))))).2.2.2.2.1) ((l4_0R m (m + 24) x3 0 0 (((withinI x0 (0) (30)), ((withinI x1 (1) (20)), (withinI x2 (1) (40))))) ((((withinI x0 (0) (30)), ((withinI x1 (1) (20)), (withinI x2 (1) (40)))), (false, ((0), (false, (([] : List (List UInt8)), (0))))))) ((((withinI x0 (0) (30)), ((withinI x1 (1) (20)), (withinI x2 (1) (40)))), (false, ((0), (false, (([] : List (List UInt8)), (0))))))) ((((withinI x0 (0) (30)), ((withinI x1 (1) (20)), (withinI x2 (1) (40)))), (false, ((0), (false, (([] : List (List UInt8)), (0)))))))).2.2.2.2.2) 0) else none)) (fn := fn4) (r := .d (.bool true)) (B' := []) (vis := [(32264, l4_0H x3 0 0 (((withinI x0 (0) (30)), ((withinI x1 (1) (20)), (withinI x2 (1) (40))))) ((((withinI x0 (0) (30)), ((withinI x1 (1) (20)), (withinI x2 (1) (40)))), (false, ((0), (false, (([] : List (List UInt8)), (0))))))) ((((withinI x0 (0) (30)), ((withinI x1 (1) (20)), (withinI x2 (1) (40)))), (false, ((0), (false, (([] : List (List UInt8)), (0))))))) ((((withinI x0 (0) (30)), ((withinI x1 (1) (20)), (withinI x2 (1) (40)))), (false, ((0), (false, (([] : List (List UInt8)), (0))))))), l4_0B x3 0 0 (((withinI x0 (0) (30)), ((withinI x1 (1) (20)), (withinI x2 (1) (40))))) ((((withinI x0 (0) (30)), ((withinI x1 (1) (20)), (withinI x2 (1) (40)))), (false, ((0), (false, (([] : List (List UInt8)), (0))))))) ((((withinI x0 (0) (30)), ((withinI x1 (1) (20)), (withinI x2 (1) (40)))), (false, ((0), (false, (([] : List (List UInt8)), (0))))))) ((((withinI x0 (0) (30)), ((withinI x1 (1) (20)), (withinI x2 (1) (40)))), (false, ((0), (false, (([] : List (List UInt8)), (0))))))))]) (by kernel_rfl) rfl (by kernel_rfl) (M.run_of_path _ [true, true, true, true, true, true, true, true, true, true, true, true, true, true, true, true, true, true, true, true, true, true, true, false, true, true, true, true, true, true, true, true, true, true, true, true, true, true, true, true, true, true, true, true, false, true, true, true, true, true, true, true, true, true, true, true, true, true, true, true, true, true, true, true, true, false, false, false, false, false, false, false, false, true, true, true, true, true, true, true, true] _ _ (by kernel_rfl) (all_t rfl (all_t rfl (all_t rfl (all_t c3 (all_t c3 (all_t c3 (all_t c3 (all_t c7 (all_t c7 (all_t c7 (all_t c10 (all_t c10 (all_t c10 (all_t c10 (all_t c7 (all_t c15 (all_t c15 (all_t c15 (all_t c18 (all_t c18 (all_t c18 (all_t c18 (all_t c15 (all_nt c23 (all_t c3 (all_t c3 (all_t c3 (all_t c3 (all_t c7 (all_t c7 (all_t c7 (all_t c10 (all_t c10 (all_t c10 (all_t c10 (all_t c7 (all_t c15 (all_t c15 (all_t c15 (all_t c18 (all_t c18 (all_t c18 (all_t c18 (all_t c15 (all_nt c23 (all_t c3 (all_t c3 (all_t c3 (all_t c3 (all_t c7 (all_t c7 (all_t c7 (all_t c10 (all_t c10 (all_t c10 (all_t c10 (all_t c7 (all_t c15 (all_t c15 (all_t c15 (all_t c18 (all_t c18 (all_t c18 (all_t c18 (all_t c15 (all_nt c23 (all_f Bool.false_ne_true (all_f Bool.false_ne_true (all_f Bool.false_ne_true (all_f Bool.false_ne_true (all_f Bool.false_ne_true (all_f Bool.false_ne_true (all_f Bool.false_ne_true (all_t c74 (all_t c74 (all_t c74 (all_nf c77 (all_nf c77 (all_nf c77 (all_nf c80 (all_nf c80 all_nil)))))))))))))))))))))))))))))))))))))))))))))))))))))))))))))))))))))))))))))))))) ?_
                      intro p hp p2 hq
                      rcases List.mem_cons.1 hp with rfl | hp
                      · skip
                        have h3 := l4_0_ok m (m + 24) x3 0 0 (((withinI x0 (0) (30)), ((withinI x1 (1) (20)), (withinI x2 (1) (40))))) ((((withinI x0 (0) (30)), ((withinI x1 (1) (20)), (withinI x2 (1) (40)))), (false, ((0), (false, (([] : List (List UInt8)), (0))))))) ((((withinI x0 (0) (30)), ((withinI x1 (1) (20)), (withinI x2 (1) (40)))), (false, ((0), (false, (([] : List (List UInt8)), (0))))))) ((((withinI x0 (0) (30)), ((withinI x1 (1) (20)), (withinI x2 (1) (40)))), (false, ((0), (false, (([] : List (List UInt8)), (0))))))) _ (some_getD (d := l4_0D) c73)
                        exact Eq.trans (Eq.mp (by kernel_rfl) h3) hq
                      cases hp
                · skip
                  cases h
              · skip
                cases h
            · skip
              cases h
          · skip
            cases h
        · skip
          cases h
      · skip
        cases h
    · skip
      cases h
  · skip
    cases h
theorem quiet_at (x0 : Int) (x1 : Int) (x2 : Int) (x3 : Int) (h : ∃ m q, quiet m x0 x1 x2 x3 = some q) : ∃ g B', CallAt Try.prog 4 g ∧ (g [(.d (.int .i64 x0)), (.d (.int .i64 x1)), (.d (.int .i64 x2)), (.d (.int .i64 x3))] []).run = some (.d (.bool true), B') := by
  obtain ⟨m, q, h⟩ := h
  exact ⟨_, _, evCall_atH mixed kinds hds S5 S5_ok (m + 25) 4, quiet_ok m x0 x1 x2 x3 q h⟩

end Go.Proofs.Ytkppbflmlpabjab.Dec
