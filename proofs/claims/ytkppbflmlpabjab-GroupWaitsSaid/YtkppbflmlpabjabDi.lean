/- GroupWaits, as a plain function. -/
import Derived.Test.YtkppbflmlpabjabDix0
import Derived.KernelRfl
namespace Go.Proofs.Ytkppbflmlpabjab.Dec
open Go.Ev
set_option linter.unusedVariables false
set_option linter.unusedSimpArgs false
set_option maxRecDepth 100000
set_option maxHeartbeats 20000000 in
theorem l3_0_w33 (m n : Nat) (x3 : List Int) (s12 : Int) (s13 : Int) (s15 : Int) (b0 : Int × Int × Int) (b1 : (Int × Int × Int) × Bool × Int × Bool × (List (List UInt8)) × Int) (b2 : (Int × Int × Int) × Bool × Int × Bool × (List (List UInt8)) × Int) (b3 : List (List UInt8)) (r : AEx × Env × Boxes) (c0 : decide (s15 < 60) = true) (c2 : ¬ decide (s15 < (((List.length x3) : Nat) : Int)) = true) (c3 : decide (s12 < 0) = true) (c7 : decide ((((List.length (alertsG (5))) : Nat) : Int) > 0) = true) (c8 : tickPre b1 s15 (alertsG (5)) = true) (c9 : (tickG b1 s15 (alertsG (5))).2.1 = true) (c12 : decide (List.length (tickG b1 s15 (alertsG (5))).1 < 4611686018427387904) = true) (c15 : ((show List (List UInt8) from (tickG b1 s15 (alertsG (5))).1) == (alertsG (5))) = true) (c24 : ¬ decide (s15 < (IntKind.wrap .i64 (s15 + b0.1))) = true) (c27 : decide (s13 ≥ 0) = true) (c30 : decide ((0 + (List.length b3)) ≤ (List.length b3)) = true) (c35 : ((show List (List UInt8) from (tickG b1 s15 (alertsG (5))).1) == (List.take (List.length b3) (List.drop 0 b3))) = true) (c41 : ¬ decide ((((List.length (tickG b1 s15 (alertsG (5))).1) : Nat) : Int) > 0) = true) (c66 : ¬ decide (s15 < (IntKind.wrap .i64 (s13 + b0.2.1))) = true) (c68 : decide (((0 + (List.length (tickG b1 s15 (alertsG (5))).1)) * 16) ≤ 70368744177664) = true) (c70 : ¬ (tickG b1 s15 (alertsG (5))).2.2.2.1 = true) (ih : (turns (hds 3 65032) 0 65032 (evC byref (evCall F S7 (m + 24)) (m + 24) 0 (hds 3) lbl3_0) n (l3_0H x3 ((-1)) ((-1)) ((IntKind.wrap .i64 (s15 + (1)))) b0 ((tickG b1 s15 (alertsG (5))).2.2) b2 ((tickG b1 s15 (alertsG (5))).1)) (l3_0B x3 ((-1)) ((-1)) ((IntKind.wrap .i64 (s15 + (1)))) b0 ((tickG b1 s15 (alertsG (5))).2.2) b2 ((tickG b1 s15 (alertsG (5))).1))).run = some r) : (turns (hds 3 65032) 0 65032 (evC byref (evCall F S7 (m + 24)) (m + 24) 0 (hds 3) lbl3_0) (n + 1) (l3_0H x3 s12 s13 s15 b0 b1 b2 b3) (l3_0B x3 s12 s13 s15 b0 b1 b2 b3)).run = some r := by
  have ht : (turn (hds 3 65032) 0 65032 (evC byref (evCall F S7 (m + 24)) (m + 24) 0 (hds 3) lbl3_0) (l3_0H x3 s12 s13 s15 b0 b1 b2 b3) (l3_0B x3 s12 s13 s15 b0 b1 b2 b3)).run = some (.normal, [.top, .top, .top, (.d (.sl (.int .i64) x3)), .top, .top, .top, .top, .top, (.ptr 0 0), (.ptr 1 0), (.ptr 2 0), (.d (.int .i64 (-1))), (.d (.int .i64 (-1))), (.sr 3 0 (0 + (List.length (tickG b1 s15 (alertsG (5))).1)) 1 none), (.d (.int .i64 (IntKind.wrap .i64 (s15 + (1))))), .top, .top, .top, .top, .top, .top, .top, .top, .top, .top, .top, .top, .top, .top, .top, .top, .top, .top, .top, .top, .top, .top, .top, .top, .top, .top, .top, .top, .top, .top, .top, .top, .top, .top, .top, .top, .top, .top, .top, .top, .top, .top, .top, .top, .top, .top, .top, .top, .top, .top, .top, .top, .top, .top, .top, .top, .top, .top, .top, .top, .top, .top, .top, .top, .top, .top, .top, .top, .top, .top, .top, .top, .top, .top, .top, .top, .top, .top, .top, .top, .top, .top, .top, .top, .top, .top, .top, .top, .top, .top, .top, .top, .top, .top, .top, .top, .top, .top, .top, .top, .top, .top, .top, .top, .top, .top, .top, .top, .top, .top, .top, .top, .top, .top, .top, .top, .top, .top, .top, .top, .top, .top, .top, .top, .top, .top, .top, .top, .top, .top, .top, .top, .top, .top, .top, .top, .top, .top, .top, .top, .top, .top, .top, .top, .top], [(.cells [(.d (.int .i64 b0.1)), (.d (.int .i64 b0.2.1)), (.d (.int .i64 b0.2.2))]), (.cells [(.d (.int .i64 (tickG b1 s15 (alertsG (5))).2.2.1.1)), (.d (.int .i64 (tickG b1 s15 (alertsG (5))).2.2.1.2.1)), (.d (.int .i64 (tickG b1 s15 (alertsG (5))).2.2.1.2.2)), (.d (.bool (tickG b1 s15 (alertsG (5))).2.2.2.1)), (.d (.int .i64 (tickG b1 s15 (alertsG (5))).2.2.2.2.1)), (.d (.bool (tickG b1 s15 (alertsG (5))).2.2.2.2.2.1)), (.d (.sl .str (tickG b1 s15 (alertsG (5))).2.2.2.2.2.2.1)), (.d (.int .i64 (tickG b1 s15 (alertsG (5))).2.2.2.2.2.2.2))]), (.cells [(.d (.int .i64 b2.1.1)), (.d (.int .i64 b2.1.2.1)), (.d (.int .i64 b2.1.2.2)), (.d (.bool (b2.2.1))), (.d (.int .i64 b2.2.2.1)), (.d (.bool (b2.2.2.2.1))), (.d (.sl .str b2.2.2.2.2.1)), (.d (.int .i64 b2.2.2.2.2.2))]), (.arr .str (tickG b1 s15 (alertsG (5))).1 true)]) := M.run_of_path _ [true, true, false, true, true, true, true, true, true, true, true, true, true, true, true, false, false, false, false, false, false, true, false, true, false, false, false, true, true, true, true, true, false, true, false, true, true, true, false, true, false, false, false, false, false, false, false, false, false, true, false, true, false, false, false, true, true, true, true, true, true, false, true, true, false, true, false, true, true, true, true] _ _ (by kernel_rfl) (all_t c0 (all_t rfl (all_f c2 (all_t c3 (all_t c3 (all_t c3 (all_t c3 (all_t c7 (all_t c8 (all_t c9 (all_t c9 (all_t c9 (all_t c12 (all_t c9 (all_t c9 (all_nt c15 (all_nt c15 (all_nt c15 (all_nt c15 (all_nt c15 (all_nt c15 (all_t c9 (all_nt c15 (all_t c9 (all_f c24 (all_f c24 (all_f c24 (all_t c27 (all_t c27 (all_t c27 (all_t c30 (all_t c12 (all_f c24 (all_t c27 (all_f c24 (all_t c35 (all_t c35 (all_t c35 (all_f c24 (all_t c35 (all_f c24 (all_f c41 (all_f c41 (all_f c41 (all_f c41 (all_f c41 (all_f c41 (all_f c24 (all_f c41 (all_t c9 (all_f c24 (all_t c9 (all_f Bool.false_ne_true (all_f Bool.false_ne_true (all_f Bool.false_ne_true (all_t c27 (all_t c27 (all_t c27 (all_t c27 (all_t c27 (all_t c27 (all_f Bool.false_ne_true (all_t c27 (all_t c9 (all_f Bool.false_ne_true (all_t c9 (all_f c66 (all_t c9 (all_t c68 (all_t rfl (all_nf c70 all_nil)))))))))))))))))))))))))))))))))))))))))))))))))))))))))))))))))))))))
  refine turns_step ht (turns_eq ?_ ?_ ih)
  · unfold l3_0H
    simp
  · unfold l3_0B
    simp
set_option maxHeartbeats 20000000 in
theorem l3_0_w34 (m n : Nat) (x3 : List Int) (s12 : Int) (s13 : Int) (s15 : Int) (b0 : Int × Int × Int) (b1 : (Int × Int × Int) × Bool × Int × Bool × (List (List UInt8)) × Int) (b2 : (Int × Int × Int) × Bool × Int × Bool × (List (List UInt8)) × Int) (b3 : List (List UInt8)) (r : AEx × Env × Boxes) (c0 : decide (s15 < 60) = true) (c2 : ¬ decide (s15 < (((List.length x3) : Nat) : Int)) = true) (c3 : decide (s12 < 0) = true) (c7 : decide ((((List.length (alertsG (5))) : Nat) : Int) > 0) = true) (c8 : tickPre b1 s15 (alertsG (5)) = true) (c9 : (tickG b1 s15 (alertsG (5))).2.1 = true) (c12 : decide (List.length (tickG b1 s15 (alertsG (5))).1 < 4611686018427387904) = true) (c15 : ((show List (List UInt8) from (tickG b1 s15 (alertsG (5))).1) == (alertsG (5))) = true) (c24 : ¬ decide (s15 < (IntKind.wrap .i64 (s15 + b0.1))) = true) (c27 : decide (s13 ≥ 0) = true) (c30 : decide ((0 + (List.length b3)) ≤ (List.length b3)) = true) (c35 : ¬ ((show List (List UInt8) from (tickG b1 s15 (alertsG (5))).1) == (List.take (List.length b3) (List.drop 0 b3))) = true) (c66 : ¬ decide (s15 < (IntKind.wrap .i64 (s13 + b0.2.1))) = true) (c68 : decide (((0 + (List.length (tickG b1 s15 (alertsG (5))).1)) * 16) ≤ 70368744177664) = true) (c70 : (tickG b1 s15 (alertsG (5))).2.2.2.1 = true) (ih : (turns (hds 3 65032) 0 65032 (evC byref (evCall F S7 (m + 24)) (m + 24) 0 (hds 3) lbl3_0) n (l3_0H x3 s15 s15 ((IntKind.wrap .i64 (s15 + (1)))) b0 ((tickG b1 s15 (alertsG (5))).2.2) b2 ((tickG b1 s15 (alertsG (5))).1)) (l3_0B x3 s15 s15 ((IntKind.wrap .i64 (s15 + (1)))) b0 ((tickG b1 s15 (alertsG (5))).2.2) b2 ((tickG b1 s15 (alertsG (5))).1))).run = some r) : (turns (hds 3 65032) 0 65032 (evC byref (evCall F S7 (m + 24)) (m + 24) 0 (hds 3) lbl3_0) (n + 1) (l3_0H x3 s12 s13 s15 b0 b1 b2 b3) (l3_0B x3 s12 s13 s15 b0 b1 b2 b3)).run = some r := by
  have ht : (turn (hds 3 65032) 0 65032 (evC byref (evCall F S7 (m + 24)) (m + 24) 0 (hds 3) lbl3_0) (l3_0H x3 s12 s13 s15 b0 b1 b2 b3) (l3_0B x3 s12 s13 s15 b0 b1 b2 b3)).run = some (.normal, [.top, .top, .top, (.d (.sl (.int .i64) x3)), .top, .top, .top, .top, .top, (.ptr 0 0), (.ptr 1 0), (.ptr 2 0), (.d (.int .i64 s15)), (.d (.int .i64 s15)), (.sr 3 0 (0 + (List.length (tickG b1 s15 (alertsG (5))).1)) 1 none), (.d (.int .i64 (IntKind.wrap .i64 (s15 + (1))))), .top, .top, .top, .top, .top, .top, .top, .top, .top, .top, .top, .top, .top, .top, .top, .top, .top, .top, .top, .top, .top, .top, .top, .top, .top, .top, .top, .top, .top, .top, .top, .top, .top, .top, .top, .top, .top, .top, .top, .top, .top, .top, .top, .top, .top, .top, .top, .top, .top, .top, .top, .top, .top, .top, .top, .top, .top, .top, .top, .top, .top, .top, .top, .top, .top, .top, .top, .top, .top, .top, .top, .top, .top, .top, .top, .top, .top, .top, .top, .top, .top, .top, .top, .top, .top, .top, .top, .top, .top, .top, .top, .top, .top, .top, .top, .top, .top, .top, .top, .top, .top, .top, .top, .top, .top, .top, .top, .top, .top, .top, .top, .top, .top, .top, .top, .top, .top, .top, .top, .top, .top, .top, .top, .top, .top, .top, .top, .top, .top, .top, .top, .top, .top, .top, .top, .top, .top, .top, .top, .top, .top, .top, .top, .top, .top], [(.cells [(.d (.int .i64 b0.1)), (.d (.int .i64 b0.2.1)), (.d (.int .i64 b0.2.2))]), (.cells [(.d (.int .i64 (tickG b1 s15 (alertsG (5))).2.2.1.1)), (.d (.int .i64 (tickG b1 s15 (alertsG (5))).2.2.1.2.1)), (.d (.int .i64 (tickG b1 s15 (alertsG (5))).2.2.1.2.2)), (.d (.bool (tickG b1 s15 (alertsG (5))).2.2.2.1)), (.d (.int .i64 (tickG b1 s15 (alertsG (5))).2.2.2.2.1)), (.d (.bool (tickG b1 s15 (alertsG (5))).2.2.2.2.2.1)), (.d (.sl .str (tickG b1 s15 (alertsG (5))).2.2.2.2.2.2.1)), (.d (.int .i64 (tickG b1 s15 (alertsG (5))).2.2.2.2.2.2.2))]), (.cells [(.d (.int .i64 b2.1.1)), (.d (.int .i64 b2.1.2.1)), (.d (.int .i64 b2.1.2.2)), (.d (.bool (b2.2.1))), (.d (.int .i64 b2.2.2.1)), (.d (.bool (b2.2.2.2.1))), (.d (.sl .str b2.2.2.2.2.1)), (.d (.int .i64 b2.2.2.2.2.2))]), (.arr .str (tickG b1 s15 (alertsG (5))).1 true)]) := M.run_of_path _ [true, true, false, true, true, true, true, true, true, true, true, true, true, true, true, false, false, false, false, false, false, true, false, true, false, false, false, true, true, true, true, true, false, true, false, false, false, false, false, false, false, false, false, false, false, false, false, false, false, true, false, true, false, false, false, true, true, true, true, true, true, false, true, true, false, true, false, true, true, true, false] _ _ (by kernel_rfl) (all_t c0 (all_t rfl (all_f c2 (all_t c3 (all_t c3 (all_t c3 (all_t c3 (all_t c7 (all_t c8 (all_t c9 (all_t c9 (all_t c9 (all_t c12 (all_t c9 (all_t c9 (all_nt c15 (all_nt c15 (all_nt c15 (all_nt c15 (all_nt c15 (all_nt c15 (all_t c9 (all_nt c15 (all_t c9 (all_f c24 (all_f c24 (all_f c24 (all_t c27 (all_t c27 (all_t c27 (all_t c30 (all_t c12 (all_f c24 (all_t c27 (all_f c24 (all_f c35 (all_f c35 (all_f c35 (all_f c24 (all_f c35 (all_f c24 (all_f Bool.false_ne_true (all_f Bool.false_ne_true (all_f Bool.false_ne_true (all_f Bool.false_ne_true (all_f Bool.false_ne_true (all_f Bool.false_ne_true (all_f c24 (all_f Bool.false_ne_true (all_t c9 (all_f c24 (all_t c9 (all_f Bool.false_ne_true (all_f Bool.false_ne_true (all_f Bool.false_ne_true (all_t c27 (all_t c27 (all_t c27 (all_t c27 (all_t c27 (all_t c27 (all_f Bool.false_ne_true (all_t c27 (all_t c9 (all_f Bool.false_ne_true (all_t c9 (all_f c66 (all_t c9 (all_t c68 (all_t rfl (all_nt c70 all_nil)))))))))))))))))))))))))))))))))))))))))))))))))))))))))))))))))))))))
  refine turns_step ht (turns_eq ?_ ?_ ih)
  · unfold l3_0H
    simp
  · unfold l3_0B
    simp
set_option maxHeartbeats 20000000 in
theorem l3_0_w35 (m n : Nat) (x3 : List Int) (s12 : Int) (s13 : Int) (s15 : Int) (b0 : Int × Int × Int) (b1 : (Int × Int × Int) × Bool × Int × Bool × (List (List UInt8)) × Int) (b2 : (Int × Int × Int) × Bool × Int × Bool × (List (List UInt8)) × Int) (b3 : List (List UInt8)) (r : AEx × Env × Boxes) (c0 : decide (s15 < 60) = true) (c2 : ¬ decide (s15 < (((List.length x3) : Nat) : Int)) = true) (c3 : decide (s12 < 0) = true) (c7 : decide ((((List.length (alertsG (5))) : Nat) : Int) > 0) = true) (c8 : tickPre b1 s15 (alertsG (5)) = true) (c9 : (tickG b1 s15 (alertsG (5))).2.1 = true) (c12 : decide (List.length (tickG b1 s15 (alertsG (5))).1 < 4611686018427387904) = true) (c15 : ((show List (List UInt8) from (tickG b1 s15 (alertsG (5))).1) == (alertsG (5))) = true) (c24 : ¬ decide (s15 < (IntKind.wrap .i64 (s15 + b0.1))) = true) (c27 : decide (s13 ≥ 0) = true) (c30 : decide ((0 + (List.length b3)) ≤ (List.length b3)) = true) (c35 : ¬ ((show List (List UInt8) from (tickG b1 s15 (alertsG (5))).1) == (List.take (List.length b3) (List.drop 0 b3))) = true) (c66 : ¬ decide (s15 < (IntKind.wrap .i64 (s13 + b0.2.1))) = true) (c68 : decide (((0 + (List.length (tickG b1 s15 (alertsG (5))).1)) * 16) ≤ 70368744177664) = true) (c70 : ¬ (tickG b1 s15 (alertsG (5))).2.2.2.1 = true) (ih : (turns (hds 3 65032) 0 65032 (evC byref (evCall F S7 (m + 24)) (m + 24) 0 (hds 3) lbl3_0) n (l3_0H x3 ((-1)) ((-1)) ((IntKind.wrap .i64 (s15 + (1)))) b0 ((tickG b1 s15 (alertsG (5))).2.2) b2 ((tickG b1 s15 (alertsG (5))).1)) (l3_0B x3 ((-1)) ((-1)) ((IntKind.wrap .i64 (s15 + (1)))) b0 ((tickG b1 s15 (alertsG (5))).2.2) b2 ((tickG b1 s15 (alertsG (5))).1))).run = some r) : (turns (hds 3 65032) 0 65032 (evC byref (evCall F S7 (m + 24)) (m + 24) 0 (hds 3) lbl3_0) (n + 1) (l3_0H x3 s12 s13 s15 b0 b1 b2 b3) (l3_0B x3 s12 s13 s15 b0 b1 b2 b3)).run = some r := by
  have ht : (turn (hds 3 65032) 0 65032 (evC byref (evCall F S7 (m + 24)) (m + 24) 0 (hds 3) lbl3_0) (l3_0H x3 s12 s13 s15 b0 b1 b2 b3) (l3_0B x3 s12 s13 s15 b0 b1 b2 b3)).run = some (.normal, [.top, .top, .top, (.d (.sl (.int .i64) x3)), .top, .top, .top, .top, .top, (.ptr 0 0), (.ptr 1 0), (.ptr 2 0), (.d (.int .i64 (-1))), (.d (.int .i64 (-1))), (.sr 3 0 (0 + (List.length (tickG b1 s15 (alertsG (5))).1)) 1 none), (.d (.int .i64 (IntKind.wrap .i64 (s15 + (1))))), .top, .top, .top, .top, .top, .top, .top, .top, .top, .top, .top, .top, .top, .top, .top, .top, .top, .top, .top, .top, .top, .top, .top, .top, .top, .top, .top, .top, .top, .top, .top, .top, .top, .top, .top, .top, .top, .top, .top, .top, .top, .top, .top, .top, .top, .top, .top, .top, .top, .top, .top, .top, .top, .top, .top, .top, .top, .top, .top, .top, .top, .top, .top, .top, .top, .top, .top, .top, .top, .top, .top, .top, .top, .top, .top, .top, .top, .top, .top, .top, .top, .top, .top, .top, .top, .top, .top, .top, .top, .top, .top, .top, .top, .top, .top, .top, .top, .top, .top, .top, .top, .top, .top, .top, .top, .top, .top, .top, .top, .top, .top, .top, .top, .top, .top, .top, .top, .top, .top, .top, .top, .top, .top, .top, .top, .top, .top, .top, .top, .top, .top, .top, .top, .top, .top, .top, .top, .top, .top, .top, .top, .top, .top, .top, .top], [(.cells [(.d (.int .i64 b0.1)), (.d (.int .i64 b0.2.1)), (.d (.int .i64 b0.2.2))]), (.cells [(.d (.int .i64 (tickG b1 s15 (alertsG (5))).2.2.1.1)), (.d (.int .i64 (tickG b1 s15 (alertsG (5))).2.2.1.2.1)), (.d (.int .i64 (tickG b1 s15 (alertsG (5))).2.2.1.2.2)), (.d (.bool (tickG b1 s15 (alertsG (5))).2.2.2.1)), (.d (.int .i64 (tickG b1 s15 (alertsG (5))).2.2.2.2.1)), (.d (.bool (tickG b1 s15 (alertsG (5))).2.2.2.2.2.1)), (.d (.sl .str (tickG b1 s15 (alertsG (5))).2.2.2.2.2.2.1)), (.d (.int .i64 (tickG b1 s15 (alertsG (5))).2.2.2.2.2.2.2))]), (.cells [(.d (.int .i64 b2.1.1)), (.d (.int .i64 b2.1.2.1)), (.d (.int .i64 b2.1.2.2)), (.d (.bool (b2.2.1))), (.d (.int .i64 b2.2.2.1)), (.d (.bool (b2.2.2.2.1))), (.d (.sl .str b2.2.2.2.2.1)), (.d (.int .i64 b2.2.2.2.2.2))]), (.arr .str (tickG b1 s15 (alertsG (5))).1 true)]) := M.run_of_path _ [true, true, false, true, true, true, true, true, true, true, true, true, true, true, true, false, false, false, false, false, false, true, false, true, false, false, false, true, true, true, true, true, false, true, false, false, false, false, false, false, false, false, false, false, false, false, false, false, false, true, false, true, false, false, false, true, true, true, true, true, true, false, true, true, false, true, false, true, true, true, true] _ _ (by kernel_rfl) (all_t c0 (all_t rfl (all_f c2 (all_t c3 (all_t c3 (all_t c3 (all_t c3 (all_t c7 (all_t c8 (all_t c9 (all_t c9 (all_t c9 (all_t c12 (all_t c9 (all_t c9 (all_nt c15 (all_nt c15 (all_nt c15 (all_nt c15 (all_nt c15 (all_nt c15 (all_t c9 (all_nt c15 (all_t c9 (all_f c24 (all_f c24 (all_f c24 (all_t c27 (all_t c27 (all_t c27 (all_t c30 (all_t c12 (all_f c24 (all_t c27 (all_f c24 (all_f c35 (all_f c35 (all_f c35 (all_f c24 (all_f c35 (all_f c24 (all_f Bool.false_ne_true (all_f Bool.false_ne_true (all_f Bool.false_ne_true (all_f Bool.false_ne_true (all_f Bool.false_ne_true (all_f Bool.false_ne_true (all_f c24 (all_f Bool.false_ne_true (all_t c9 (all_f c24 (all_t c9 (all_f Bool.false_ne_true (all_f Bool.false_ne_true (all_f Bool.false_ne_true (all_t c27 (all_t c27 (all_t c27 (all_t c27 (all_t c27 (all_t c27 (all_f Bool.false_ne_true (all_t c27 (all_t c9 (all_f Bool.false_ne_true (all_t c9 (all_f c66 (all_t c9 (all_t c68 (all_t rfl (all_nf c70 all_nil)))))))))))))))))))))))))))))))))))))))))))))))))))))))))))))))))))))))
  refine turns_step ht (turns_eq ?_ ?_ ih)
  · unfold l3_0H
    simp
  · unfold l3_0B
    simp
set_option maxHeartbeats 20000000 in
theorem l3_0_w36 (m n : Nat) (x3 : List Int) (s12 : Int) (s13 : Int) (s15 : Int) (b0 : Int × Int × Int) (b1 : (Int × Int × Int) × Bool × Int × Bool × (List (List UInt8)) × Int) (b2 : (Int × Int × Int) × Bool × Int × Bool × (List (List UInt8)) × Int) (b3 : List (List UInt8)) (r : AEx × Env × Boxes) (c0 : decide (s15 < 60) = true) (c2 : ¬ decide (s15 < (((List.length x3) : Nat) : Int)) = true) (c3 : decide (s12 < 0) = true) (c7 : decide ((((List.length (alertsG (5))) : Nat) : Int) > 0) = true) (c8 : tickPre b1 s15 (alertsG (5)) = true) (c9 : (tickG b1 s15 (alertsG (5))).2.1 = true) (c12 : decide (List.length (tickG b1 s15 (alertsG (5))).1 < 4611686018427387904) = true) (c15 : ((show List (List UInt8) from (tickG b1 s15 (alertsG (5))).1) == (alertsG (5))) = true) (c24 : ¬ decide (s15 < (IntKind.wrap .i64 (s15 + b0.1))) = true) (c27 : ¬ decide (s13 ≥ 0) = true) (c66 : decide (((0 + (List.length (tickG b1 s15 (alertsG (5))).1)) * 16) ≤ 70368744177664) = true) (c68 : (tickG b1 s15 (alertsG (5))).2.2.2.1 = true) (ih : (turns (hds 3 65032) 0 65032 (evC byref (evCall F S7 (m + 24)) (m + 24) 0 (hds 3) lbl3_0) n (l3_0H x3 s15 s15 ((IntKind.wrap .i64 (s15 + (1)))) b0 ((tickG b1 s15 (alertsG (5))).2.2) b2 ((tickG b1 s15 (alertsG (5))).1)) (l3_0B x3 s15 s15 ((IntKind.wrap .i64 (s15 + (1)))) b0 ((tickG b1 s15 (alertsG (5))).2.2) b2 ((tickG b1 s15 (alertsG (5))).1))).run = some r) : (turns (hds 3 65032) 0 65032 (evC byref (evCall F S7 (m + 24)) (m + 24) 0 (hds 3) lbl3_0) (n + 1) (l3_0H x3 s12 s13 s15 b0 b1 b2 b3) (l3_0B x3 s12 s13 s15 b0 b1 b2 b3)).run = some r := by
  have ht : (turn (hds 3 65032) 0 65032 (evC byref (evCall F S7 (m + 24)) (m + 24) 0 (hds 3) lbl3_0) (l3_0H x3 s12 s13 s15 b0 b1 b2 b3) (l3_0B x3 s12 s13 s15 b0 b1 b2 b3)).run = some (.normal, [.top, .top, .top, (.d (.sl (.int .i64) x3)), .top, .top, .top, .top, .top, (.ptr 0 0), (.ptr 1 0), (.ptr 2 0), (.d (.int .i64 s15)), (.d (.int .i64 s15)), (.sr 3 0 (0 + (List.length (tickG b1 s15 (alertsG (5))).1)) 1 none), (.d (.int .i64 (IntKind.wrap .i64 (s15 + (1))))), .top, .top, .top, .top, .top, .top, .top, .top, .top, .top, .top, .top, .top, .top, .top, .top, .top, .top, .top, .top, .top, .top, .top, .top, .top, .top, .top, .top, .top, .top, .top, .top, .top, .top, .top, .top, .top, .top, .top, .top, .top, .top, .top, .top, .top, .top, .top, .top, .top, .top, .top, .top, .top, .top, .top, .top, .top, .top, .top, .top, .top, .top, .top, .top, .top, .top, .top, .top, .top, .top, .top, .top, .top, .top, .top, .top, .top, .top, .top, .top, .top, .top, .top, .top, .top, .top, .top, .top, .top, .top, .top, .top, .top, .top, .top, .top, .top, .top, .top, .top, .top, .top, .top, .top, .top, .top, .top, .top, .top, .top, .top, .top, .top, .top, .top, .top, .top, .top, .top, .top, .top, .top, .top, .top, .top, .top, .top, .top, .top, .top, .top, .top, .top, .top, .top, .top, .top, .top, .top, .top, .top, .top, .top, .top, .top], [(.cells [(.d (.int .i64 b0.1)), (.d (.int .i64 b0.2.1)), (.d (.int .i64 b0.2.2))]), (.cells [(.d (.int .i64 (tickG b1 s15 (alertsG (5))).2.2.1.1)), (.d (.int .i64 (tickG b1 s15 (alertsG (5))).2.2.1.2.1)), (.d (.int .i64 (tickG b1 s15 (alertsG (5))).2.2.1.2.2)), (.d (.bool (tickG b1 s15 (alertsG (5))).2.2.2.1)), (.d (.int .i64 (tickG b1 s15 (alertsG (5))).2.2.2.2.1)), (.d (.bool (tickG b1 s15 (alertsG (5))).2.2.2.2.2.1)), (.d (.sl .str (tickG b1 s15 (alertsG (5))).2.2.2.2.2.2.1)), (.d (.int .i64 (tickG b1 s15 (alertsG (5))).2.2.2.2.2.2.2))]), (.cells [(.d (.int .i64 b2.1.1)), (.d (.int .i64 b2.1.2.1)), (.d (.int .i64 b2.1.2.2)), (.d (.bool (b2.2.1))), (.d (.int .i64 b2.2.2.1)), (.d (.bool (b2.2.2.2.1))), (.d (.sl .str b2.2.2.2.2.1)), (.d (.int .i64 b2.2.2.2.2.2))]), (.arr .str (tickG b1 s15 (alertsG (5))).1 true)]) := M.run_of_path _ [true, true, false, true, true, true, true, true, true, true, true, true, true, true, true, false, false, false, false, false, false, true, false, true, false, false, false, false, false, false, false, false, false, false, false, false, false, false, false, false, false, false, false, false, false, false, false, true, false, true, false, false, false, false, false, false, false, false, false, false, false, true, false, true, false, true, true, true, false] _ _ (by kernel_rfl) (all_t c0 (all_t rfl (all_f c2 (all_t c3 (all_t c3 (all_t c3 (all_t c3 (all_t c7 (all_t c8 (all_t c9 (all_t c9 (all_t c9 (all_t c12 (all_t c9 (all_t c9 (all_nt c15 (all_nt c15 (all_nt c15 (all_nt c15 (all_nt c15 (all_nt c15 (all_t c9 (all_nt c15 (all_t c9 (all_f c24 (all_f c24 (all_f c24 (all_f c27 (all_f c27 (all_f c27 (all_f c24 (all_f c27 (all_f c24 (all_f Bool.false_ne_true (all_f Bool.false_ne_true (all_f Bool.false_ne_true (all_f c24 (all_f Bool.false_ne_true (all_f c24 (all_f Bool.false_ne_true (all_f Bool.false_ne_true (all_f Bool.false_ne_true (all_f Bool.false_ne_true (all_f Bool.false_ne_true (all_f Bool.false_ne_true (all_f c24 (all_f Bool.false_ne_true (all_t c9 (all_f c24 (all_t c9 (all_f Bool.false_ne_true (all_f Bool.false_ne_true (all_f Bool.false_ne_true (all_f c27 (all_f c27 (all_f c27 (all_f c27 (all_f c27 (all_f c27 (all_f Bool.false_ne_true (all_f c27 (all_t c9 (all_f Bool.false_ne_true (all_t c9 (all_f Bool.false_ne_true (all_t c9 (all_t c66 (all_t rfl (all_nt c68 all_nil)))))))))))))))))))))))))))))))))))))))))))))))))))))))))))))))))))))
  refine turns_step ht (turns_eq ?_ ?_ ih)
  · unfold l3_0H
    simp
  · unfold l3_0B
    simp
set_option maxHeartbeats 20000000 in
theorem l3_0_w37 (m n : Nat) (x3 : List Int) (s12 : Int) (s13 : Int) (s15 : Int) (b0 : Int × Int × Int) (b1 : (Int × Int × Int) × Bool × Int × Bool × (List (List UInt8)) × Int) (b2 : (Int × Int × Int) × Bool × Int × Bool × (List (List UInt8)) × Int) (b3 : List (List UInt8)) (r : AEx × Env × Boxes) (c0 : decide (s15 < 60) = true) (c2 : ¬ decide (s15 < (((List.length x3) : Nat) : Int)) = true) (c3 : decide (s12 < 0) = true) (c7 : decide ((((List.length (alertsG (5))) : Nat) : Int) > 0) = true) (c8 : tickPre b1 s15 (alertsG (5)) = true) (c9 : (tickG b1 s15 (alertsG (5))).2.1 = true) (c12 : decide (List.length (tickG b1 s15 (alertsG (5))).1 < 4611686018427387904) = true) (c15 : ((show List (List UInt8) from (tickG b1 s15 (alertsG (5))).1) == (alertsG (5))) = true) (c24 : ¬ decide (s15 < (IntKind.wrap .i64 (s15 + b0.1))) = true) (c27 : ¬ decide (s13 ≥ 0) = true) (c66 : decide (((0 + (List.length (tickG b1 s15 (alertsG (5))).1)) * 16) ≤ 70368744177664) = true) (c68 : ¬ (tickG b1 s15 (alertsG (5))).2.2.2.1 = true) (ih : (turns (hds 3 65032) 0 65032 (evC byref (evCall F S7 (m + 24)) (m + 24) 0 (hds 3) lbl3_0) n (l3_0H x3 ((-1)) ((-1)) ((IntKind.wrap .i64 (s15 + (1)))) b0 ((tickG b1 s15 (alertsG (5))).2.2) b2 ((tickG b1 s15 (alertsG (5))).1)) (l3_0B x3 ((-1)) ((-1)) ((IntKind.wrap .i64 (s15 + (1)))) b0 ((tickG b1 s15 (alertsG (5))).2.2) b2 ((tickG b1 s15 (alertsG (5))).1))).run = some r) : (turns (hds 3 65032) 0 65032 (evC byref (evCall F S7 (m + 24)) (m + 24) 0 (hds 3) lbl3_0) (n + 1) (l3_0H x3 s12 s13 s15 b0 b1 b2 b3) (l3_0B x3 s12 s13 s15 b0 b1 b2 b3)).run = some r := by
  have ht : (turn (hds 3 65032) 0 65032 (evC byref (evCall F S7 (m + 24)) (m + 24) 0 (hds 3) lbl3_0) (l3_0H x3 s12 s13 s15 b0 b1 b2 b3) (l3_0B x3 s12 s13 s15 b0 b1 b2 b3)).run = some (.normal, [.top, .top, .top, (.d (.sl (.int .i64) x3)), .top, .top, .top, .top, .top, (.ptr 0 0), (.ptr 1 0), (.ptr 2 0), (.d (.int .i64 (-1))), (.d (.int .i64 (-1))), (.sr 3 0 (0 + (List.length (tickG b1 s15 (alertsG (5))).1)) 1 none), (.d (.int .i64 (IntKind.wrap .i64 (s15 + (1))))), .top, .top, .top, .top, .top, .top, .top, .top, .top, .top, .top, .top, .top, .top, .top, .top, .top, .top, .top, .top, .top, .top, .top, .top, .top, .top, .top, .top, .top, .top, .top, .top, .top, .top, .top, .top, .top, .top, .top, .top, .top, .top, .top, .top, .top, .top, .top, .top, .top, .top, .top, .top, .top, .top, .top, .top, .top, .top, .top, .top, .top, .top, .top, .top, .top, .top, .top, .top, .top, .top, .top, .top, .top, .top, .top, .top, .top, .top, .top, .top, .top, .top, .top, .top, .top, .top, .top, .top, .top, .top, .top, .top, .top, .top, .top, .top, .top, .top, .top, .top, .top, .top, .top, .top, .top, .top, .top, .top, .top, .top, .top, .top, .top, .top, .top, .top, .top, .top, .top, .top, .top, .top, .top, .top, .top, .top, .top, .top, .top, .top, .top, .top, .top, .top, .top, .top, .top, .top, .top, .top, .top, .top, .top, .top, .top], [(.cells [(.d (.int .i64 b0.1)), (.d (.int .i64 b0.2.1)), (.d (.int .i64 b0.2.2))]), (.cells [(.d (.int .i64 (tickG b1 s15 (alertsG (5))).2.2.1.1)), (.d (.int .i64 (tickG b1 s15 (alertsG (5))).2.2.1.2.1)), (.d (.int .i64 (tickG b1 s15 (alertsG (5))).2.2.1.2.2)), (.d (.bool (tickG b1 s15 (alertsG (5))).2.2.2.1)), (.d (.int .i64 (tickG b1 s15 (alertsG (5))).2.2.2.2.1)), (.d (.bool (tickG b1 s15 (alertsG (5))).2.2.2.2.2.1)), (.d (.sl .str (tickG b1 s15 (alertsG (5))).2.2.2.2.2.2.1)), (.d (.int .i64 (tickG b1 s15 (alertsG (5))).2.2.2.2.2.2.2))]), (.cells [(.d (.int .i64 b2.1.1)), (.d (.int .i64 b2.1.2.1)), (.d (.int .i64 b2.1.2.2)), (.d (.bool (b2.2.1))), (.d (.int .i64 b2.2.2.1)), (.d (.bool (b2.2.2.2.1))), (.d (.sl .str b2.2.2.2.2.1)), (.d (.int .i64 b2.2.2.2.2.2))]), (.arr .str (tickG b1 s15 (alertsG (5))).1 true)]) := M.run_of_path _ [true, true, false, true, true, true, true, true, true, true, true, true, true, true, true, false, false, false, false, false, false, true, false, true, false, false, false, false, false, false, false, false, false, false, false, false, false, false, false, false, false, false, false, false, false, false, false, true, false, true, false, false, false, false, false, false, false, false, false, false, false, true, false, true, false, true, true, true, true] _ _ (by kernel_rfl) (all_t c0 (all_t rfl (all_f c2 (all_t c3 (all_t c3 (all_t c3 (all_t c3 (all_t c7 (all_t c8 (all_t c9 (all_t c9 (all_t c9 (all_t c12 (all_t c9 (all_t c9 (all_nt c15 (all_nt c15 (all_nt c15 (all_nt c15 (all_nt c15 (all_nt c15 (all_t c9 (all_nt c15 (all_t c9 (all_f c24 (all_f c24 (all_f c24 (all_f c27 (all_f c27 (all_f c27 (all_f c24 (all_f c27 (all_f c24 (all_f Bool.false_ne_true (all_f Bool.false_ne_true (all_f Bool.false_ne_true (all_f c24 (all_f Bool.false_ne_true (all_f c24 (all_f Bool.false_ne_true (all_f Bool.false_ne_true (all_f Bool.false_ne_true (all_f Bool.false_ne_true (all_f Bool.false_ne_true (all_f Bool.false_ne_true (all_f c24 (all_f Bool.false_ne_true (all_t c9 (all_f c24 (all_t c9 (all_f Bool.false_ne_true (all_f Bool.false_ne_true (all_f Bool.false_ne_true (all_f c27 (all_f c27 (all_f c27 (all_f c27 (all_f c27 (all_f c27 (all_f Bool.false_ne_true (all_f c27 (all_t c9 (all_f Bool.false_ne_true (all_t c9 (all_f Bool.false_ne_true (all_t c9 (all_t c66 (all_t rfl (all_nf c68 all_nil)))))))))))))))))))))))))))))))))))))))))))))))))))))))))))))))))))))
  refine turns_step ht (turns_eq ?_ ?_ ih)
  · unfold l3_0H
    simp
  · unfold l3_0B
    simp
set_option maxHeartbeats 20000000 in
theorem l3_0_w38 (m n : Nat) (x3 : List Int) (s12 : Int) (s13 : Int) (s15 : Int) (b0 : Int × Int × Int) (b1 : (Int × Int × Int) × Bool × Int × Bool × (List (List UInt8)) × Int) (b2 : (Int × Int × Int) × Bool × Int × Bool × (List (List UInt8)) × Int) (b3 : List (List UInt8)) (r : AEx × Env × Boxes) (c0 : decide (s15 < 60) = true) (c2 : ¬ decide (s15 < (((List.length x3) : Nat) : Int)) = true) (c3 : decide (s12 < 0) = true) (c7 : decide ((((List.length (alertsG (5))) : Nat) : Int) > 0) = true) (c8 : tickPre b1 s15 (alertsG (5)) = true) (c9 : ¬ (tickG b1 s15 (alertsG (5))).2.1 = true) (c22 : (tickG b1 s15 (alertsG (5))).2.2.2.1 = true) (ih : (turns (hds 3 65032) 0 65032 (evC byref (evCall F S7 (m + 24)) (m + 24) 0 (hds 3) lbl3_0) n (l3_0H x3 s15 s13 ((IntKind.wrap .i64 (s15 + (1)))) b0 ((tickG b1 s15 (alertsG (5))).2.2) b2 b3) (l3_0B x3 s15 s13 ((IntKind.wrap .i64 (s15 + (1)))) b0 ((tickG b1 s15 (alertsG (5))).2.2) b2 b3)).run = some r) : (turns (hds 3 65032) 0 65032 (evC byref (evCall F S7 (m + 24)) (m + 24) 0 (hds 3) lbl3_0) (n + 1) (l3_0H x3 s12 s13 s15 b0 b1 b2 b3) (l3_0B x3 s12 s13 s15 b0 b1 b2 b3)).run = some r := by
  exact turns_step (M.run_of_path _ [true, true, false, true, true, true, true, true, true, false, false, false, false, false, false, false, false, false, false, false, false, false, false] _ _ (by kernel_rfl) (all_t c0 (all_t rfl (all_f c2 (all_t c3 (all_t c3 (all_t c3 (all_t c3 (all_t c7 (all_t c8 (all_f c9 (all_f c9 (all_f c9 (all_f c9 (all_f c9 (all_f c9 (all_f c9 (all_f c9 (all_f c9 (all_f c9 (all_f c9 (all_f Bool.false_ne_true (all_f c9 (all_nt c22 all_nil)))))))))))))))))))))))) ih
set_option maxHeartbeats 20000000 in
theorem l3_0_w39 (m n : Nat) (x3 : List Int) (s12 : Int) (s13 : Int) (s15 : Int) (b0 : Int × Int × Int) (b1 : (Int × Int × Int) × Bool × Int × Bool × (List (List UInt8)) × Int) (b2 : (Int × Int × Int) × Bool × Int × Bool × (List (List UInt8)) × Int) (b3 : List (List UInt8)) (r : AEx × Env × Boxes) (c0 : decide (s15 < 60) = true) (c2 : ¬ decide (s15 < (((List.length x3) : Nat) : Int)) = true) (c3 : decide (s12 < 0) = true) (c7 : decide ((((List.length (alertsG (5))) : Nat) : Int) > 0) = true) (c8 : tickPre b1 s15 (alertsG (5)) = true) (c9 : ¬ (tickG b1 s15 (alertsG (5))).2.1 = true) (c22 : ¬ (tickG b1 s15 (alertsG (5))).2.2.2.1 = true) (ih : (turns (hds 3 65032) 0 65032 (evC byref (evCall F S7 (m + 24)) (m + 24) 0 (hds 3) lbl3_0) n (l3_0H x3 ((-1)) ((-1)) ((IntKind.wrap .i64 (s15 + (1)))) b0 ((tickG b1 s15 (alertsG (5))).2.2) b2 b3) (l3_0B x3 ((-1)) ((-1)) ((IntKind.wrap .i64 (s15 + (1)))) b0 ((tickG b1 s15 (alertsG (5))).2.2) b2 b3)).run = some r) : (turns (hds 3 65032) 0 65032 (evC byref (evCall F S7 (m + 24)) (m + 24) 0 (hds 3) lbl3_0) (n + 1) (l3_0H x3 s12 s13 s15 b0 b1 b2 b3) (l3_0B x3 s12 s13 s15 b0 b1 b2 b3)).run = some r := by
  exact turns_step (M.run_of_path _ [true, true, false, true, true, true, true, true, true, false, false, false, false, false, false, false, false, false, false, false, false, false, true] _ _ (by kernel_rfl) (all_t c0 (all_t rfl (all_f c2 (all_t c3 (all_t c3 (all_t c3 (all_t c3 (all_t c7 (all_t c8 (all_f c9 (all_f c9 (all_f c9 (all_f c9 (all_f c9 (all_f c9 (all_f c9 (all_f c9 (all_f c9 (all_f c9 (all_f c9 (all_f Bool.false_ne_true (all_f c9 (all_nf c22 all_nil)))))))))))))))))))))))) ih
set_option maxHeartbeats 20000000 in
theorem l3_0_w40 (m n : Nat) (x3 : List Int) (s12 : Int) (s13 : Int) (s15 : Int) (b0 : Int × Int × Int) (b1 : (Int × Int × Int) × Bool × Int × Bool × (List (List UInt8)) × Int) (b2 : (Int × Int × Int) × Bool × Int × Bool × (List (List UInt8)) × Int) (b3 : List (List UInt8)) (r : AEx × Env × Boxes) (c0 : decide (s15 < 60) = true) (c2 : ¬ decide (s15 < (((List.length x3) : Nat) : Int)) = true) (c3 : decide (s12 < 0) = true) (c7 : ¬ decide ((((List.length (alertsG (5))) : Nat) : Int) > 0) = true) (c8 : tickPre b1 s15 (alertsG (5)) = true) (c9 : (tickG b1 s15 (alertsG (5))).2.1 = true) (c12 : decide (List.length (tickG b1 s15 (alertsG (5))).1 < 4611686018427387904) = true) (c15 : ((show List (List UInt8) from (tickG b1 s15 (alertsG (5))).1) == (alertsG (5))) = true) (c24 : ¬ decide (s15 < (IntKind.wrap .i64 (s12 + b0.1))) = true) (c27 : decide (s13 ≥ 0) = true) (c30 : decide ((0 + (List.length b3)) ≤ (List.length b3)) = true) (c35 : ((show List (List UInt8) from (tickG b1 s15 (alertsG (5))).1) == (List.take (List.length b3) (List.drop 0 b3))) = true) (c41 : decide ((((List.length (tickG b1 s15 (alertsG (5))).1) : Nat) : Int) > 0) = true) (c52 : ¬ decide (s15 < (IntKind.wrap .i64 (s13 + b0.2.2))) = true) (c66 : ¬ decide (s15 < (IntKind.wrap .i64 (s13 + b0.2.1))) = true) (c68 : decide (((0 + (List.length (tickG b1 s15 (alertsG (5))).1)) * 16) ≤ 70368744177664) = true) (c70 : (tickG b1 s15 (alertsG (5))).2.2.2.1 = true) (ih : (turns (hds 3 65032) 0 65032 (evC byref (evCall F S7 (m + 24)) (m + 24) 0 (hds 3) lbl3_0) n (l3_0H x3 s12 s15 ((IntKind.wrap .i64 (s15 + (1)))) b0 ((tickG b1 s15 (alertsG (5))).2.2) b2 ((tickG b1 s15 (alertsG (5))).1)) (l3_0B x3 s12 s15 ((IntKind.wrap .i64 (s15 + (1)))) b0 ((tickG b1 s15 (alertsG (5))).2.2) b2 ((tickG b1 s15 (alertsG (5))).1))).run = some r) : (turns (hds 3 65032) 0 65032 (evC byref (evCall F S7 (m + 24)) (m + 24) 0 (hds 3) lbl3_0) (n + 1) (l3_0H x3 s12 s13 s15 b0 b1 b2 b3) (l3_0B x3 s12 s13 s15 b0 b1 b2 b3)).run = some r := by
  have ht : (turn (hds 3 65032) 0 65032 (evC byref (evCall F S7 (m + 24)) (m + 24) 0 (hds 3) lbl3_0) (l3_0H x3 s12 s13 s15 b0 b1 b2 b3) (l3_0B x3 s12 s13 s15 b0 b1 b2 b3)).run = some (.normal, [.top, .top, .top, (.d (.sl (.int .i64) x3)), .top, .top, .top, .top, .top, (.ptr 0 0), (.ptr 1 0), (.ptr 2 0), (.d (.int .i64 s12)), (.d (.int .i64 s15)), (.sr 3 0 (0 + (List.length (tickG b1 s15 (alertsG (5))).1)) 1 none), (.d (.int .i64 (IntKind.wrap .i64 (s15 + (1))))), .top, .top, .top, .top, .top, .top, .top, .top, .top, .top, .top, .top, .top, .top, .top, .top, .top, .top, .top, .top, .top, .top, .top, .top, .top, .top, .top, .top, .top, .top, .top, .top, .top, .top, .top, .top, .top, .top, .top, .top, .top, .top, .top, .top, .top, .top, .top, .top, .top, .top, .top, .top, .top, .top, .top, .top, .top, .top, .top, .top, .top, .top, .top, .top, .top, .top, .top, .top, .top, .top, .top, .top, .top, .top, .top, .top, .top, .top, .top, .top, .top, .top, .top, .top, .top, .top, .top, .top, .top, .top, .top, .top, .top, .top, .top, .top, .top, .top, .top, .top, .top, .top, .top, .top, .top, .top, .top, .top, .top, .top, .top, .top, .top, .top, .top, .top, .top, .top, .top, .top, .top, .top, .top, .top, .top, .top, .top, .top, .top, .top, .top, .top, .top, .top, .top, .top, .top, .top, .top, .top, .top, .top, .top, .top, .top], [(.cells [(.d (.int .i64 b0.1)), (.d (.int .i64 b0.2.1)), (.d (.int .i64 b0.2.2))]), (.cells [(.d (.int .i64 (tickG b1 s15 (alertsG (5))).2.2.1.1)), (.d (.int .i64 (tickG b1 s15 (alertsG (5))).2.2.1.2.1)), (.d (.int .i64 (tickG b1 s15 (alertsG (5))).2.2.1.2.2)), (.d (.bool (tickG b1 s15 (alertsG (5))).2.2.2.1)), (.d (.int .i64 (tickG b1 s15 (alertsG (5))).2.2.2.2.1)), (.d (.bool (tickG b1 s15 (alertsG (5))).2.2.2.2.2.1)), (.d (.sl .str (tickG b1 s15 (alertsG (5))).2.2.2.2.2.2.1)), (.d (.int .i64 (tickG b1 s15 (alertsG (5))).2.2.2.2.2.2.2))]), (.cells [(.d (.int .i64 b2.1.1)), (.d (.int .i64 b2.1.2.1)), (.d (.int .i64 b2.1.2.2)), (.d (.bool (b2.2.1))), (.d (.int .i64 b2.2.2.1)), (.d (.bool (b2.2.2.2.1))), (.d (.sl .str b2.2.2.2.2.1)), (.d (.int .i64 b2.2.2.2.2.2))]), (.arr .str (tickG b1 s15 (alertsG (5))).1 true)]) := M.run_of_path _ [true, true, false, true, true, true, true, false, true, true, true, true, true, true, true, false, false, false, false, false, false, true, false, true, false, false, false, true, true, true, true, true, false, true, false, true, true, true, false, true, false, true, true, true, true, true, true, false, true, true, false, true, false, false, false, true, true, true, true, true, true, false, true, true, false, true, false, true, true, true, false] _ _ (by kernel_rfl) (all_t c0 (all_t rfl (all_f c2 (all_t c3 (all_t c3 (all_t c3 (all_t c3 (all_f c7 (all_t c8 (all_t c9 (all_t c9 (all_t c9 (all_t c12 (all_t c9 (all_t c9 (all_nt c15 (all_nt c15 (all_nt c15 (all_nt c15 (all_nt c15 (all_nt c15 (all_t c9 (all_nt c15 (all_t c9 (all_f c24 (all_f c24 (all_f c24 (all_t c27 (all_t c27 (all_t c27 (all_t c30 (all_t c12 (all_f c24 (all_t c27 (all_f c24 (all_t c35 (all_t c35 (all_t c35 (all_f c24 (all_t c35 (all_f c24 (all_t c41 (all_t c41 (all_t c41 (all_t c41 (all_t c41 (all_t c41 (all_f c24 (all_t c41 (all_t c9 (all_f c24 (all_t c9 (all_f c52 (all_f c52 (all_f c52 (all_t c27 (all_t c27 (all_t c27 (all_t c27 (all_t c27 (all_t c27 (all_f c52 (all_t c27 (all_t c9 (all_f c52 (all_t c9 (all_f c66 (all_t c9 (all_t c68 (all_t rfl (all_nt c70 all_nil)))))))))))))))))))))))))))))))))))))))))))))))))))))))))))))))))))))))
  refine turns_step ht (turns_eq ?_ ?_ ih)
  · unfold l3_0H
    simp
  · unfold l3_0B
    simp
set_option maxHeartbeats 20000000 in
theorem l3_0_w41 (m n : Nat) (x3 : List Int) (s12 : Int) (s13 : Int) (s15 : Int) (b0 : Int × Int × Int) (b1 : (Int × Int × Int) × Bool × Int × Bool × (List (List UInt8)) × Int) (b2 : (Int × Int × Int) × Bool × Int × Bool × (List (List UInt8)) × Int) (b3 : List (List UInt8)) (r : AEx × Env × Boxes) (c0 : decide (s15 < 60) = true) (c2 : ¬ decide (s15 < (((List.length x3) : Nat) : Int)) = true) (c3 : decide (s12 < 0) = true) (c7 : ¬ decide ((((List.length (alertsG (5))) : Nat) : Int) > 0) = true) (c8 : tickPre b1 s15 (alertsG (5)) = true) (c9 : (tickG b1 s15 (alertsG (5))).2.1 = true) (c12 : decide (List.length (tickG b1 s15 (alertsG (5))).1 < 4611686018427387904) = true) (c15 : ((show List (List UInt8) from (tickG b1 s15 (alertsG (5))).1) == (alertsG (5))) = true) (c24 : ¬ decide (s15 < (IntKind.wrap .i64 (s12 + b0.1))) = true) (c27 : decide (s13 ≥ 0) = true) (c30 : decide ((0 + (List.length b3)) ≤ (List.length b3)) = true) (c35 : ((show List (List UInt8) from (tickG b1 s15 (alertsG (5))).1) == (List.take (List.length b3) (List.drop 0 b3))) = true) (c41 : decide ((((List.length (tickG b1 s15 (alertsG (5))).1) : Nat) : Int) > 0) = true) (c52 : ¬ decide (s15 < (IntKind.wrap .i64 (s13 + b0.2.2))) = true) (c66 : ¬ decide (s15 < (IntKind.wrap .i64 (s13 + b0.2.1))) = true) (c68 : decide (((0 + (List.length (tickG b1 s15 (alertsG (5))).1)) * 16) ≤ 70368744177664) = true) (c70 : ¬ (tickG b1 s15 (alertsG (5))).2.2.2.1 = true) (ih : (turns (hds 3 65032) 0 65032 (evC byref (evCall F S7 (m + 24)) (m + 24) 0 (hds 3) lbl3_0) n (l3_0H x3 ((-1)) ((-1)) ((IntKind.wrap .i64 (s15 + (1)))) b0 ((tickG b1 s15 (alertsG (5))).2.2) b2 ((tickG b1 s15 (alertsG (5))).1)) (l3_0B x3 ((-1)) ((-1)) ((IntKind.wrap .i64 (s15 + (1)))) b0 ((tickG b1 s15 (alertsG (5))).2.2) b2 ((tickG b1 s15 (alertsG (5))).1))).run = some r) : (turns (hds 3 65032) 0 65032 (evC byref (evCall F S7 (m + 24)) (m + 24) 0 (hds 3) lbl3_0) (n + 1) (l3_0H x3 s12 s13 s15 b0 b1 b2 b3) (l3_0B x3 s12 s13 s15 b0 b1 b2 b3)).run = some r := by
  have ht : (turn (hds 3 65032) 0 65032 (evC byref (evCall F S7 (m + 24)) (m + 24) 0 (hds 3) lbl3_0) (l3_0H x3 s12 s13 s15 b0 b1 b2 b3) (l3_0B x3 s12 s13 s15 b0 b1 b2 b3)).run = some (.normal, [.top, .top, .top, (.d (.sl (.int .i64) x3)), .top, .top, .top, .top, .top, (.ptr 0 0), (.ptr 1 0), (.ptr 2 0), (.d (.int .i64 (-1))), (.d (.int .i64 (-1))), (.sr 3 0 (0 + (List.length (tickG b1 s15 (alertsG (5))).1)) 1 none), (.d (.int .i64 (IntKind.wrap .i64 (s15 + (1))))), .top, .top, .top, .top, .top, .top, .top, .top, .top, .top, .top, .top, .top, .top, .top, .top, .top, .top, .top, .top, .top, .top, .top, .top, .top, .top, .top, .top, .top, .top, .top, .top, .top, .top, .top, .top, .top, .top, .top, .top, .top, .top, .top, .top, .top, .top, .top, .top, .top, .top, .top, .top, .top, .top, .top, .top, .top, .top, .top, .top, .top, .top, .top, .top, .top, .top, .top, .top, .top, .top, .top, .top, .top, .top, .top, .top, .top, .top, .top, .top, .top, .top, .top, .top, .top, .top, .top, .top, .top, .top, .top, .top, .top, .top, .top, .top, .top, .top, .top, .top, .top, .top, .top, .top, .top, .top, .top, .top, .top, .top, .top, .top, .top, .top, .top, .top, .top, .top, .top, .top, .top, .top, .top, .top, .top, .top, .top, .top, .top, .top, .top, .top, .top, .top, .top, .top, .top, .top, .top, .top, .top, .top, .top, .top, .top], [(.cells [(.d (.int .i64 b0.1)), (.d (.int .i64 b0.2.1)), (.d (.int .i64 b0.2.2))]), (.cells [(.d (.int .i64 (tickG b1 s15 (alertsG (5))).2.2.1.1)), (.d (.int .i64 (tickG b1 s15 (alertsG (5))).2.2.1.2.1)), (.d (.int .i64 (tickG b1 s15 (alertsG (5))).2.2.1.2.2)), (.d (.bool (tickG b1 s15 (alertsG (5))).2.2.2.1)), (.d (.int .i64 (tickG b1 s15 (alertsG (5))).2.2.2.2.1)), (.d (.bool (tickG b1 s15 (alertsG (5))).2.2.2.2.2.1)), (.d (.sl .str (tickG b1 s15 (alertsG (5))).2.2.2.2.2.2.1)), (.d (.int .i64 (tickG b1 s15 (alertsG (5))).2.2.2.2.2.2.2))]), (.cells [(.d (.int .i64 b2.1.1)), (.d (.int .i64 b2.1.2.1)), (.d (.int .i64 b2.1.2.2)), (.d (.bool (b2.2.1))), (.d (.int .i64 b2.2.2.1)), (.d (.bool (b2.2.2.2.1))), (.d (.sl .str b2.2.2.2.2.1)), (.d (.int .i64 b2.2.2.2.2.2))]), (.arr .str (tickG b1 s15 (alertsG (5))).1 true)]) := M.run_of_path _ [true, true, false, true, true, true, true, false, true, true, true, true, true, true, true, false, false, false, false, false, false, true, false, true, false, false, false, true, true, true, true, true, false, true, false, true, true, true, false, true, false, true, true, true, true, true, true, false, true, true, false, true, false, false, false, true, true, true, true, true, true, false, true, true, false, true, false, true, true, true, true] _ _ (by kernel_rfl) (all_t c0 (all_t rfl (all_f c2 (all_t c3 (all_t c3 (all_t c3 (all_t c3 (all_f c7 (all_t c8 (all_t c9 (all_t c9 (all_t c9 (all_t c12 (all_t c9 (all_t c9 (all_nt c15 (all_nt c15 (all_nt c15 (all_nt c15 (all_nt c15 (all_nt c15 (all_t c9 (all_nt c15 (all_t c9 (all_f c24 (all_f c24 (all_f c24 (all_t c27 (all_t c27 (all_t c27 (all_t c30 (all_t c12 (all_f c24 (all_t c27 (all_f c24 (all_t c35 (all_t c35 (all_t c35 (all_f c24 (all_t c35 (all_f c24 (all_t c41 (all_t c41 (all_t c41 (all_t c41 (all_t c41 (all_t c41 (all_f c24 (all_t c41 (all_t c9 (all_f c24 (all_t c9 (all_f c52 (all_f c52 (all_f c52 (all_t c27 (all_t c27 (all_t c27 (all_t c27 (all_t c27 (all_t c27 (all_f c52 (all_t c27 (all_t c9 (all_f c52 (all_t c9 (all_f c66 (all_t c9 (all_t c68 (all_t rfl (all_nf c70 all_nil)))))))))))))))))))))))))))))))))))))))))))))))))))))))))))))))))))))))
  refine turns_step ht (turns_eq ?_ ?_ ih)
  · unfold l3_0H
    simp
  · unfold l3_0B
    simp
set_option maxHeartbeats 20000000 in
theorem l3_0_w42 (m n : Nat) (x3 : List Int) (s12 : Int) (s13 : Int) (s15 : Int) (b0 : Int × Int × Int) (b1 : (Int × Int × Int) × Bool × Int × Bool × (List (List UInt8)) × Int) (b2 : (Int × Int × Int) × Bool × Int × Bool × (List (List UInt8)) × Int) (b3 : List (List UInt8)) (r : AEx × Env × Boxes) (c0 : decide (s15 < 60) = true) (c2 : ¬ decide (s15 < (((List.length x3) : Nat) : Int)) = true) (c3 : decide (s12 < 0) = true) (c7 : ¬ decide ((((List.length (alertsG (5))) : Nat) : Int) > 0) = true) (c8 : tickPre b1 s15 (alertsG (5)) = true) (c9 : (tickG b1 s15 (alertsG (5))).2.1 = true) (c12 : decide (List.length (tickG b1 s15 (alertsG (5))).1 < 4611686018427387904) = true) (c15 : ((show List (List UInt8) from (tickG b1 s15 (alertsG (5))).1) == (alertsG (5))) = true) (c24 : ¬ decide (s15 < (IntKind.wrap .i64 (s12 + b0.1))) = true) (c27 : decide (s13 ≥ 0) = true) (c30 : decide ((0 + (List.length b3)) ≤ (List.length b3)) = true) (c35 : ((show List (List UInt8) from (tickG b1 s15 (alertsG (5))).1) == (List.take (List.length b3) (List.drop 0 b3))) = true) (c41 : ¬ decide ((((List.length (tickG b1 s15 (alertsG (5))).1) : Nat) : Int) > 0) = true) (c66 : ¬ decide (s15 < (IntKind.wrap .i64 (s13 + b0.2.1))) = true) (c68 : decide (((0 + (List.length (tickG b1 s15 (alertsG (5))).1)) * 16) ≤ 70368744177664) = true) (c70 : (tickG b1 s15 (alertsG (5))).2.2.2.1 = true) (ih : (turns (hds 3 65032) 0 65032 (evC byref (evCall F S7 (m + 24)) (m + 24) 0 (hds 3) lbl3_0) n (l3_0H x3 s12 s15 ((IntKind.wrap .i64 (s15 + (1)))) b0 ((tickG b1 s15 (alertsG (5))).2.2) b2 ((tickG b1 s15 (alertsG (5))).1)) (l3_0B x3 s12 s15 ((IntKind.wrap .i64 (s15 + (1)))) b0 ((tickG b1 s15 (alertsG (5))).2.2) b2 ((tickG b1 s15 (alertsG (5))).1))).run = some r) : (turns (hds 3 65032) 0 65032 (evC byref (evCall F S7 (m + 24)) (m + 24) 0 (hds 3) lbl3_0) (n + 1) (l3_0H x3 s12 s13 s15 b0 b1 b2 b3) (l3_0B x3 s12 s13 s15 b0 b1 b2 b3)).run = some r := by
  have ht : (turn (hds 3 65032) 0 65032 (evC byref (evCall F S7 (m + 24)) (m + 24) 0 (hds 3) lbl3_0) (l3_0H x3 s12 s13 s15 b0 b1 b2 b3) (l3_0B x3 s12 s13 s15 b0 b1 b2 b3)).run = some (.normal, [.top, .top, .top, (.d (.sl (.int .i64) x3)), .top, .top, .top, .top, .top, (.ptr 0 0), (.ptr 1 0), (.ptr 2 0), (.d (.int .i64 s12)), (.d (.int .i64 s15)), (.sr 3 0 (0 + (List.length (tickG b1 s15 (alertsG (5))).1)) 1 none), (.d (.int .i64 (IntKind.wrap .i64 (s15 + (1))))), .top, .top, .top, .top, .top, .top, .top, .top, .top, .top, .top, .top, .top, .top, .top, .top, .top, .top, .top, .top, .top, .top, .top, .top, .top, .top, .top, .top, .top, .top, .top, .top, .top, .top, .top, .top, .top, .top, .top, .top, .top, .top, .top, .top, .top, .top, .top, .top, .top, .top, .top, .top, .top, .top, .top, .top, .top, .top, .top, .top, .top, .top, .top, .top, .top, .top, .top, .top, .top, .top, .top, .top, .top, .top, .top, .top, .top, .top, .top, .top, .top, .top, .top, .top, .top, .top, .top, .top, .top, .top, .top, .top, .top, .top, .top, .top, .top, .top, .top, .top, .top, .top, .top, .top, .top, .top, .top, .top, .top, .top, .top, .top, .top, .top, .top, .top, .top, .top, .top, .top, .top, .top, .top, .top, .top, .top, .top, .top, .top, .top, .top, .top, .top, .top, .top, .top, .top, .top, .top, .top, .top, .top, .top, .top, .top], [(.cells [(.d (.int .i64 b0.1)), (.d (.int .i64 b0.2.1)), (.d (.int .i64 b0.2.2))]), (.cells [(.d (.int .i64 (tickG b1 s15 (alertsG (5))).2.2.1.1)), (.d (.int .i64 (tickG b1 s15 (alertsG (5))).2.2.1.2.1)), (.d (.int .i64 (tickG b1 s15 (alertsG (5))).2.2.1.2.2)), (.d (.bool (tickG b1 s15 (alertsG (5))).2.2.2.1)), (.d (.int .i64 (tickG b1 s15 (alertsG (5))).2.2.2.2.1)), (.d (.bool (tickG b1 s15 (alertsG (5))).2.2.2.2.2.1)), (.d (.sl .str (tickG b1 s15 (alertsG (5))).2.2.2.2.2.2.1)), (.d (.int .i64 (tickG b1 s15 (alertsG (5))).2.2.2.2.2.2.2))]), (.cells [(.d (.int .i64 b2.1.1)), (.d (.int .i64 b2.1.2.1)), (.d (.int .i64 b2.1.2.2)), (.d (.bool (b2.2.1))), (.d (.int .i64 b2.2.2.1)), (.d (.bool (b2.2.2.2.1))), (.d (.sl .str b2.2.2.2.2.1)), (.d (.int .i64 b2.2.2.2.2.2))]), (.arr .str (tickG b1 s15 (alertsG (5))).1 true)]) := M.run_of_path _ [true, true, false, true, true, true, true, false, true, true, true, true, true, true, true, false, false, false, false, false, false, true, false, true, false, false, false, true, true, true, true, true, false, true, false, true, true, true, false, true, false, false, false, false, false, false, false, false, false, true, false, true, false, false, false, true, true, true, true, true, true, false, true, true, false, true, false, true, true, true, false] _ _ (by kernel_rfl) (all_t c0 (all_t rfl (all_f c2 (all_t c3 (all_t c3 (all_t c3 (all_t c3 (all_f c7 (all_t c8 (all_t c9 (all_t c9 (all_t c9 (all_t c12 (all_t c9 (all_t c9 (all_nt c15 (all_nt c15 (all_nt c15 (all_nt c15 (all_nt c15 (all_nt c15 (all_t c9 (all_nt c15 (all_t c9 (all_f c24 (all_f c24 (all_f c24 (all_t c27 (all_t c27 (all_t c27 (all_t c30 (all_t c12 (all_f c24 (all_t c27 (all_f c24 (all_t c35 (all_t c35 (all_t c35 (all_f c24 (all_t c35 (all_f c24 (all_f c41 (all_f c41 (all_f c41 (all_f c41 (all_f c41 (all_f c41 (all_f c24 (all_f c41 (all_t c9 (all_f c24 (all_t c9 (all_f Bool.false_ne_true (all_f Bool.false_ne_true (all_f Bool.false_ne_true (all_t c27 (all_t c27 (all_t c27 (all_t c27 (all_t c27 (all_t c27 (all_f Bool.false_ne_true (all_t c27 (all_t c9 (all_f Bool.false_ne_true (all_t c9 (all_f c66 (all_t c9 (all_t c68 (all_t rfl (all_nt c70 all_nil)))))))))))))))))))))))))))))))))))))))))))))))))))))))))))))))))))))))
  refine turns_step ht (turns_eq ?_ ?_ ih)
  · unfold l3_0H
    simp
  · unfold l3_0B
    simp
set_option maxHeartbeats 20000000 in
theorem l3_0_w43 (m n : Nat) (x3 : List Int) (s12 : Int) (s13 : Int) (s15 : Int) (b0 : Int × Int × Int) (b1 : (Int × Int × Int) × Bool × Int × Bool × (List (List UInt8)) × Int) (b2 : (Int × Int × Int) × Bool × Int × Bool × (List (List UInt8)) × Int) (b3 : List (List UInt8)) (r : AEx × Env × Boxes) (c0 : decide (s15 < 60) = true) (c2 : ¬ decide (s15 < (((List.length x3) : Nat) : Int)) = true) (c3 : decide (s12 < 0) = true) (c7 : ¬ decide ((((List.length (alertsG (5))) : Nat) : Int) > 0) = true) (c8 : tickPre b1 s15 (alertsG (5)) = true) (c9 : (tickG b1 s15 (alertsG (5))).2.1 = true) (c12 : decide (List.length (tickG b1 s15 (alertsG (5))).1 < 4611686018427387904) = true) (c15 : ((show List (List UInt8) from (tickG b1 s15 (alertsG (5))).1) == (alertsG (5))) = true) (c24 : ¬ decide (s15 < (IntKind.wrap .i64 (s12 + b0.1))) = true) (c27 : decide (s13 ≥ 0) = true) (c30 : decide ((0 + (List.length b3)) ≤ (List.length b3)) = true) (c35 : ((show List (List UInt8) from (tickG b1 s15 (alertsG (5))).1) == (List.take (List.length b3) (List.drop 0 b3))) = true) (c41 : ¬ decide ((((List.length (tickG b1 s15 (alertsG (5))).1) : Nat) : Int) > 0) = true) (c66 : ¬ decide (s15 < (IntKind.wrap .i64 (s13 + b0.2.1))) = true) (c68 : decide (((0 + (List.length (tickG b1 s15 (alertsG (5))).1)) * 16) ≤ 70368744177664) = true) (c70 : ¬ (tickG b1 s15 (alertsG (5))).2.2.2.1 = true) (ih : (turns (hds 3 65032) 0 65032 (evC byref (evCall F S7 (m + 24)) (m + 24) 0 (hds 3) lbl3_0) n (l3_0H x3 ((-1)) ((-1)) ((IntKind.wrap .i64 (s15 + (1)))) b0 ((tickG b1 s15 (alertsG (5))).2.2) b2 ((tickG b1 s15 (alertsG (5))).1)) (l3_0B x3 ((-1)) ((-1)) ((IntKind.wrap .i64 (s15 + (1)))) b0 ((tickG b1 s15 (alertsG (5))).2.2) b2 ((tickG b1 s15 (alertsG (5))).1))).run = some r) : (turns (hds 3 65032) 0 65032 (evC byref (evCall F S7 (m + 24)) (m + 24) 0 (hds 3) lbl3_0) (n + 1) (l3_0H x3 s12 s13 s15 b0 b1 b2 b3) (l3_0B x3 s12 s13 s15 b0 b1 b2 b3)).run = some r := by
  have ht : (turn (hds 3 65032) 0 65032 (evC byref (evCall F S7 (m + 24)) (m + 24) 0 (hds 3) lbl3_0) (l3_0H x3 s12 s13 s15 b0 b1 b2 b3) (l3_0B x3 s12 s13 s15 b0 b1 b2 b3)).run = some (.normal, [.top, .top, .top, (.d (.sl (.int .i64) x3)), .top, .top, .top, .top, .top, (.ptr 0 0), (.ptr 1 0), (.ptr 2 0), (.d (.int .i64 (-1))), (.d (.int .i64 (-1))), (.sr 3 0 (0 + (List.length (tickG b1 s15 (alertsG (5))).1)) 1 none), (.d (.int .i64 (IntKind.wrap .i64 (s15 + (1))))), .top, .top, .top, .top, .top, .top, .top, .top, .top, .top, .top, .top, .top, .top, .top, .top, .top, .top, .top, .top, .top, .top, .top, .top, .top, .top, .top, .top, .top, .top, .top, .top, .top, .top, .top, .top, .top, .top, .top, .top, .top, .top, .top, .top, .top, .top, .top, .top, .top, .top, .top, .top, .top, .top, .top, .top, .top, .top, .top, .top, .top, .top, .top, .top, .top, .top, .top, .top, .top, .top, .top, .top, .top, .top, .top, .top, .top, .top, .top, .top, .top, .top, .top, .top, .top, .top, .top, .top, .top, .top, .top, .top, .top, .top, .top, .top, .top, .top, .top, .top, .top, .top, .top, .top, .top, .top, .top, .top, .top, .top, .top, .top, .top, .top, .top, .top, .top, .top, .top, .top, .top, .top, .top, .top, .top, .top, .top, .top, .top, .top, .top, .top, .top, .top, .top, .top, .top, .top, .top, .top, .top, .top, .top, .top, .top], [(.cells [(.d (.int .i64 b0.1)), (.d (.int .i64 b0.2.1)), (.d (.int .i64 b0.2.2))]), (.cells [(.d (.int .i64 (tickG b1 s15 (alertsG (5))).2.2.1.1)), (.d (.int .i64 (tickG b1 s15 (alertsG (5))).2.2.1.2.1)), (.d (.int .i64 (tickG b1 s15 (alertsG (5))).2.2.1.2.2)), (.d (.bool (tickG b1 s15 (alertsG (5))).2.2.2.1)), (.d (.int .i64 (tickG b1 s15 (alertsG (5))).2.2.2.2.1)), (.d (.bool (tickG b1 s15 (alertsG (5))).2.2.2.2.2.1)), (.d (.sl .str (tickG b1 s15 (alertsG (5))).2.2.2.2.2.2.1)), (.d (.int .i64 (tickG b1 s15 (alertsG (5))).2.2.2.2.2.2.2))]), (.cells [(.d (.int .i64 b2.1.1)), (.d (.int .i64 b2.1.2.1)), (.d (.int .i64 b2.1.2.2)), (.d (.bool (b2.2.1))), (.d (.int .i64 b2.2.2.1)), (.d (.bool (b2.2.2.2.1))), (.d (.sl .str b2.2.2.2.2.1)), (.d (.int .i64 b2.2.2.2.2.2))]), (.arr .str (tickG b1 s15 (alertsG (5))).1 true)]) := M.run_of_path _ [true, true, false, true, true, true, true, false, true, true, true, true, true, true, true, false, false, false, false, false, false, true, false, true, false, false, false, true, true, true, true, true, false, true, false, true, true, true, false, true, false, false, false, false, false, false, false, false, false, true, false, true, false, false, false, true, true, true, true, true, true, false, true, true, false, true, false, true, true, true, true] _ _ (by kernel_rfl) (all_t c0 (all_t rfl (all_f c2 (all_t c3 (all_t c3 (all_t c3 (all_t c3 (all_f c7 (all_t c8 (all_t c9 (all_t c9 (all_t c9 (all_t c12 (all_t c9 (all_t c9 (all_nt c15 (all_nt c15 (all_nt c15 (all_nt c15 (all_nt c15 (all_nt c15 (all_t c9 (all_nt c15 (all_t c9 (all_f c24 (all_f c24 (all_f c24 (all_t c27 (all_t c27 (all_t c27 (all_t c30 (all_t c12 (all_f c24 (all_t c27 (all_f c24 (all_t c35 (all_t c35 (all_t c35 (all_f c24 (all_t c35 (all_f c24 (all_f c41 (all_f c41 (all_f c41 (all_f c41 (all_f c41 (all_f c41 (all_f c24 (all_f c41 (all_t c9 (all_f c24 (all_t c9 (all_f Bool.false_ne_true (all_f Bool.false_ne_true (all_f Bool.false_ne_true (all_t c27 (all_t c27 (all_t c27 (all_t c27 (all_t c27 (all_t c27 (all_f Bool.false_ne_true (all_t c27 (all_t c9 (all_f Bool.false_ne_true (all_t c9 (all_f c66 (all_t c9 (all_t c68 (all_t rfl (all_nf c70 all_nil)))))))))))))))))))))))))))))))))))))))))))))))))))))))))))))))))))))))
  refine turns_step ht (turns_eq ?_ ?_ ih)
  · unfold l3_0H
    simp
  · unfold l3_0B
    simp
set_option maxHeartbeats 20000000 in
theorem l3_0_w44 (m n : Nat) (x3 : List Int) (s12 : Int) (s13 : Int) (s15 : Int) (b0 : Int × Int × Int) (b1 : (Int × Int × Int) × Bool × Int × Bool × (List (List UInt8)) × Int) (b2 : (Int × Int × Int) × Bool × Int × Bool × (List (List UInt8)) × Int) (b3 : List (List UInt8)) (r : AEx × Env × Boxes) (c0 : decide (s15 < 60) = true) (c2 : ¬ decide (s15 < (((List.length x3) : Nat) : Int)) = true) (c3 : decide (s12 < 0) = true) (c7 : ¬ decide ((((List.length (alertsG (5))) : Nat) : Int) > 0) = true) (c8 : tickPre b1 s15 (alertsG (5)) = true) (c9 : (tickG b1 s15 (alertsG (5))).2.1 = true) (c12 : decide (List.length (tickG b1 s15 (alertsG (5))).1 < 4611686018427387904) = true) (c15 : ((show List (List UInt8) from (tickG b1 s15 (alertsG (5))).1) == (alertsG (5))) = true) (c24 : ¬ decide (s15 < (IntKind.wrap .i64 (s12 + b0.1))) = true) (c27 : decide (s13 ≥ 0) = true) (c30 : decide ((0 + (List.length b3)) ≤ (List.length b3)) = true) (c35 : ¬ ((show List (List UInt8) from (tickG b1 s15 (alertsG (5))).1) == (List.take (List.length b3) (List.drop 0 b3))) = true) (c66 : ¬ decide (s15 < (IntKind.wrap .i64 (s13 + b0.2.1))) = true) (c68 : decide (((0 + (List.length (tickG b1 s15 (alertsG (5))).1)) * 16) ≤ 70368744177664) = true) (c70 : (tickG b1 s15 (alertsG (5))).2.2.2.1 = true) (ih : (turns (hds 3 65032) 0 65032 (evC byref (evCall F S7 (m + 24)) (m + 24) 0 (hds 3) lbl3_0) n (l3_0H x3 s12 s15 ((IntKind.wrap .i64 (s15 + (1)))) b0 ((tickG b1 s15 (alertsG (5))).2.2) b2 ((tickG b1 s15 (alertsG (5))).1)) (l3_0B x3 s12 s15 ((IntKind.wrap .i64 (s15 + (1)))) b0 ((tickG b1 s15 (alertsG (5))).2.2) b2 ((tickG b1 s15 (alertsG (5))).1))).run = some r) : (turns (hds 3 65032) 0 65032 (evC byref (evCall F S7 (m + 24)) (m + 24) 0 (hds 3) lbl3_0) (n + 1) (l3_0H x3 s12 s13 s15 b0 b1 b2 b3) (l3_0B x3 s12 s13 s15 b0 b1 b2 b3)).run = some r := by
  have ht : (turn (hds 3 65032) 0 65032 (evC byref (evCall F S7 (m + 24)) (m + 24) 0 (hds 3) lbl3_0) (l3_0H x3 s12 s13 s15 b0 b1 b2 b3) (l3_0B x3 s12 s13 s15 b0 b1 b2 b3)).run = some (.normal, [.top, .top, .top, (.d (.sl (.int .i64) x3)), .top, .top, .top, .top, .top, (.ptr 0 0), (.ptr 1 0), (.ptr 2 0), (.d (.int .i64 s12)), (.d (.int .i64 s15)), (.sr 3 0 (0 + (List.length (tickG b1 s15 (alertsG (5))).1)) 1 none), (.d (.int .i64 (IntKind.wrap .i64 (s15 + (1))))), .top, .top, .top, .top, .top, .top, .top, .top, .top, .top, .top, .top, .top, .top, .top, .top, .top, .top, .top, .top, .top, .top, .top, .top, .top, .top, .top, .top, .top, .top, .top, .top, .top, .top, .top, .top, .top, .top, .top, .top, .top, .top, .top, .top, .top, .top, .top, .top, .top, .top, .top, .top, .top, .top, .top, .top, .top, .top, .top, .top, .top, .top, .top, .top, .top, .top, .top, .top, .top, .top, .top, .top, .top, .top, .top, .top, .top, .top, .top, .top, .top, .top, .top, .top, .top, .top, .top, .top, .top, .top, .top, .top, .top, .top, .top, .top, .top, .top, .top, .top, .top, .top, .top, .top, .top, .top, .top, .top, .top, .top, .top, .top, .top, .top, .top, .top, .top, .top, .top, .top, .top, .top, .top, .top, .top, .top, .top, .top, .top, .top, .top, .top, .top, .top, .top, .top, .top, .top, .top, .top, .top, .top, .top, .top, .top], [(.cells [(.d (.int .i64 b0.1)), (.d (.int .i64 b0.2.1)), (.d (.int .i64 b0.2.2))]), (.cells [(.d (.int .i64 (tickG b1 s15 (alertsG (5))).2.2.1.1)), (.d (.int .i64 (tickG b1 s15 (alertsG (5))).2.2.1.2.1)), (.d (.int .i64 (tickG b1 s15 (alertsG (5))).2.2.1.2.2)), (.d (.bool (tickG b1 s15 (alertsG (5))).2.2.2.1)), (.d (.int .i64 (tickG b1 s15 (alertsG (5))).2.2.2.2.1)), (.d (.bool (tickG b1 s15 (alertsG (5))).2.2.2.2.2.1)), (.d (.sl .str (tickG b1 s15 (alertsG (5))).2.2.2.2.2.2.1)), (.d (.int .i64 (tickG b1 s15 (alertsG (5))).2.2.2.2.2.2.2))]), (.cells [(.d (.int .i64 b2.1.1)), (.d (.int .i64 b2.1.2.1)), (.d (.int .i64 b2.1.2.2)), (.d (.bool (b2.2.1))), (.d (.int .i64 b2.2.2.1)), (.d (.bool (b2.2.2.2.1))), (.d (.sl .str b2.2.2.2.2.1)), (.d (.int .i64 b2.2.2.2.2.2))]), (.arr .str (tickG b1 s15 (alertsG (5))).1 true)]) := M.run_of_path _ [true, true, false, true, true, true, true, false, true, true, true, true, true, true, true, false, false, false, false, false, false, true, false, true, false, false, false, true, true, true, true, true, false, true, false, false, false, false, false, false, false, false, false, false, false, false, false, false, false, true, false, true, false, false, false, true, true, true, true, true, true, false, true, true, false, true, false, true, true, true, false] _ _ (by kernel_rfl) (all_t c0 (all_t rfl (all_f c2 (all_t c3 (all_t c3 (all_t c3 (all_t c3 (all_f c7 (all_t c8 (all_t c9 (all_t c9 (all_t c9 (all_t c12 (all_t c9 (all_t c9 (all_nt c15 (all_nt c15 (all_nt c15 (all_nt c15 (all_nt c15 (all_nt c15 (all_t c9 (all_nt c15 (all_t c9 (all_f c24 (all_f c24 (all_f c24 (all_t c27 (all_t c27 (all_t c27 (all_t c30 (all_t c12 (all_f c24 (all_t c27 (all_f c24 (all_f c35 (all_f c35 (all_f c35 (all_f c24 (all_f c35 (all_f c24 (all_f Bool.false_ne_true (all_f Bool.false_ne_true (all_f Bool.false_ne_true (all_f Bool.false_ne_true (all_f Bool.false_ne_true (all_f Bool.false_ne_true (all_f c24 (all_f Bool.false_ne_true (all_t c9 (all_f c24 (all_t c9 (all_f Bool.false_ne_true (all_f Bool.false_ne_true (all_f Bool.false_ne_true (all_t c27 (all_t c27 (all_t c27 (all_t c27 (all_t c27 (all_t c27 (all_f Bool.false_ne_true (all_t c27 (all_t c9 (all_f Bool.false_ne_true (all_t c9 (all_f c66 (all_t c9 (all_t c68 (all_t rfl (all_nt c70 all_nil)))))))))))))))))))))))))))))))))))))))))))))))))))))))))))))))))))))))
  refine turns_step ht (turns_eq ?_ ?_ ih)
  · unfold l3_0H
    simp
  · unfold l3_0B
    simp

set_option maxHeartbeats 20000000 in
theorem l3_0_w45 (m n : Nat) (x3 : List Int) (s12 : Int) (s13 : Int) (s15 : Int) (b0 : Int × Int × Int) (b1 : (Int × Int × Int) × Bool × Int × Bool × (List (List UInt8)) × Int) (b2 : (Int × Int × Int) × Bool × Int × Bool × (List (List UInt8)) × Int) (b3 : List (List UInt8)) (r : AEx × Env × Boxes) (c0 : decide (s15 < 60) = true) (c2 : ¬ decide (s15 < (((List.length x3) : Nat) : Int)) = true) (c3 : decide (s12 < 0) = true) (c7 : ¬ decide ((((List.length (alertsG (5))) : Nat) : Int) > 0) = true) (c8 : tickPre b1 s15 (alertsG (5)) = true) (c9 : (tickG b1 s15 (alertsG (5))).2.1 = true) (c12 : decide (List.length (tickG b1 s15 (alertsG (5))).1 < 4611686018427387904) = true) (c15 : ((show List (List UInt8) from (tickG b1 s15 (alertsG (5))).1) == (alertsG (5))) = true) (c24 : ¬ decide (s15 < (IntKind.wrap .i64 (s12 + b0.1))) = true) (c27 : decide (s13 ≥ 0) = true) (c30 : decide ((0 + (List.length b3)) ≤ (List.length b3)) = true) (c35 : ¬ ((show List (List UInt8) from (tickG b1 s15 (alertsG (5))).1) == (List.take (List.length b3) (List.drop 0 b3))) = true) (c66 : ¬ decide (s15 < (IntKind.wrap .i64 (s13 + b0.2.1))) = true) (c68 : decide (((0 + (List.length (tickG b1 s15 (alertsG (5))).1)) * 16) ≤ 70368744177664) = true) (c70 : ¬ (tickG b1 s15 (alertsG (5))).2.2.2.1 = true) (ih : (turns (hds 3 65032) 0 65032 (evC byref (evCall F S7 (m + 24)) (m + 24) 0 (hds 3) lbl3_0) n (l3_0H x3 ((-1)) ((-1)) ((IntKind.wrap .i64 (s15 + (1)))) b0 ((tickG b1 s15 (alertsG (5))).2.2) b2 ((tickG b1 s15 (alertsG (5))).1)) (l3_0B x3 ((-1)) ((-1)) ((IntKind.wrap .i64 (s15 + (1)))) b0 ((tickG b1 s15 (alertsG (5))).2.2) b2 ((tickG b1 s15 (alertsG (5))).1))).run = some r) : (turns (hds 3 65032) 0 65032 (evC byref (evCall F S7 (m + 24)) (m + 24) 0 (hds 3) lbl3_0) (n + 1) (l3_0H x3 s12 s13 s15 b0 b1 b2 b3) (l3_0B x3 s12 s13 s15 b0 b1 b2 b3)).run = some r := by
  have ht : (turn (hds 3 65032) 0 65032 (evC byref (evCall F S7 (m + 24)) (m + 24) 0 (hds 3) lbl3_0) (l3_0H x3 s12 s13 s15 b0 b1 b2 b3) (l3_0B x3 s12 s13 s15 b0 b1 b2 b3)).run = some (.normal, [.top, .top, .top, (.d (.sl (.int .i64) x3)), .top, .top, .top, .top, .top, (.ptr 0 0), (.ptr 1 0), (.ptr 2 0), (.d (.int .i64 (-1))), (.d (.int .i64 (-1))), (.sr 3 0 (0 + (List.length (tickG b1 s15 (alertsG (5))).1)) 1 none), (.d (.int .i64 (IntKind.wrap .i64 (s15 + (1))))), .top, .top, .top, .top, .top, .top, .top, .top, .top, .top, .top, .top, .top, .top, .top, .top, .top, .top, .top, .top, .top, .top, .top, .top, .top, .top, .top, .top, .top, .top, .top, .top, .top, .top, .top, .top, .top, .top, .top, .top, .top, .top, .top, .top, .top, .top, .top, .top, .top, .top, .top, .top, .top, .top, .top, .top, .top, .top, .top, .top, .top, .top, .top, .top, .top, .top, .top, .top, .top, .top, .top, .top, .top, .top, .top, .top, .top, .top, .top, .top, .top, .top, .top, .top, .top, .top, .top, .top, .top, .top, .top, .top, .top, .top, .top, .top, .top, .top, .top, .top, .top, .top, .top, .top, .top, .top, .top, .top, .top, .top, .top, .top, .top, .top, .top, .top, .top, .top, .top, .top, .top, .top, .top, .top, .top, .top, .top, .top, .top, .top, .top, .top, .top, .top, .top, .top, .top, .top, .top, .top, .top, .top, .top, .top, .top], [(.cells [(.d (.int .i64 b0.1)), (.d (.int .i64 b0.2.1)), (.d (.int .i64 b0.2.2))]), (.cells [(.d (.int .i64 (tickG b1 s15 (alertsG (5))).2.2.1.1)), (.d (.int .i64 (tickG b1 s15 (alertsG (5))).2.2.1.2.1)), (.d (.int .i64 (tickG b1 s15 (alertsG (5))).2.2.1.2.2)), (.d (.bool (tickG b1 s15 (alertsG (5))).2.2.2.1)), (.d (.int .i64 (tickG b1 s15 (alertsG (5))).2.2.2.2.1)), (.d (.bool (tickG b1 s15 (alertsG (5))).2.2.2.2.2.1)), (.d (.sl .str (tickG b1 s15 (alertsG (5))).2.2.2.2.2.2.1)), (.d (.int .i64 (tickG b1 s15 (alertsG (5))).2.2.2.2.2.2.2))]), (.cells [(.d (.int .i64 b2.1.1)), (.d (.int .i64 b2.1.2.1)), (.d (.int .i64 b2.1.2.2)), (.d (.bool (b2.2.1))), (.d (.int .i64 b2.2.2.1)), (.d (.bool (b2.2.2.2.1))), (.d (.sl .str b2.2.2.2.2.1)), (.d (.int .i64 b2.2.2.2.2.2))]), (.arr .str (tickG b1 s15 (alertsG (5))).1 true)]) := M.run_of_path _ [true, true, false, true, true, true, true, false, true, true, true, true, true, true, true, false, false, false, false, false, false, true, false, true, false, false, false, true, true, true, true, true, false, true, false, false, false, false, false, false, false, false, false, false, false, false, false, false, false, true, false, true, false, false, false, true, true, true, true, true, true, false, true, true, false, true, false, true, true, true, true] _ _ (by kernel_rfl) (all_t c0 (all_t rfl (all_f c2 (all_t c3 (all_t c3 (all_t c3 (all_t c3 (all_f c7 (all_t c8 (all_t c9 (all_t c9 (all_t c9 (all_t c12 (all_t c9 (all_t c9 (all_nt c15 (all_nt c15 (all_nt c15 (all_nt c15 (all_nt c15 (all_nt c15 (all_t c9 (all_nt c15 (all_t c9 (all_f c24 (all_f c24 (all_f c24 (all_t c27 (all_t c27 (all_t c27 (all_t c30 (all_t c12 (all_f c24 (all_t c27 (all_f c24 (all_f c35 (all_f c35 (all_f c35 (all_f c24 (all_f c35 (all_f c24 (all_f Bool.false_ne_true (all_f Bool.false_ne_true (all_f Bool.false_ne_true (all_f Bool.false_ne_true (all_f Bool.false_ne_true (all_f Bool.false_ne_true (all_f c24 (all_f Bool.false_ne_true (all_t c9 (all_f c24 (all_t c9 (all_f Bool.false_ne_true (all_f Bool.false_ne_true (all_f Bool.false_ne_true (all_t c27 (all_t c27 (all_t c27 (all_t c27 (all_t c27 (all_t c27 (all_f Bool.false_ne_true (all_t c27 (all_t c9 (all_f Bool.false_ne_true (all_t c9 (all_f c66 (all_t c9 (all_t c68 (all_t rfl (all_nf c70 all_nil)))))))))))))))))))))))))))))))))))))))))))))))))))))))))))))))))))))))
  refine turns_step ht (turns_eq ?_ ?_ ih)
  · unfold l3_0H
    simp
  · unfold l3_0B
    simp
set_option maxHeartbeats 20000000 in
theorem l3_0_w46 (m n : Nat) (x3 : List Int) (s12 : Int) (s13 : Int) (s15 : Int) (b0 : Int × Int × Int) (b1 : (Int × Int × Int) × Bool × Int × Bool × (List (List UInt8)) × Int) (b2 : (Int × Int × Int) × Bool × Int × Bool × (List (List UInt8)) × Int) (b3 : List (List UInt8)) (r : AEx × Env × Boxes) (c0 : decide (s15 < 60) = true) (c2 : ¬ decide (s15 < (((List.length x3) : Nat) : Int)) = true) (c3 : decide (s12 < 0) = true) (c7 : ¬ decide ((((List.length (alertsG (5))) : Nat) : Int) > 0) = true) (c8 : tickPre b1 s15 (alertsG (5)) = true) (c9 : (tickG b1 s15 (alertsG (5))).2.1 = true) (c12 : decide (List.length (tickG b1 s15 (alertsG (5))).1 < 4611686018427387904) = true) (c15 : ((show List (List UInt8) from (tickG b1 s15 (alertsG (5))).1) == (alertsG (5))) = true) (c24 : ¬ decide (s15 < (IntKind.wrap .i64 (s12 + b0.1))) = true) (c27 : ¬ decide (s13 ≥ 0) = true) (c66 : decide (((0 + (List.length (tickG b1 s15 (alertsG (5))).1)) * 16) ≤ 70368744177664) = true) (c68 : (tickG b1 s15 (alertsG (5))).2.2.2.1 = true) (ih : (turns (hds 3 65032) 0 65032 (evC byref (evCall F S7 (m + 24)) (m + 24) 0 (hds 3) lbl3_0) n (l3_0H x3 s12 s15 ((IntKind.wrap .i64 (s15 + (1)))) b0 ((tickG b1 s15 (alertsG (5))).2.2) b2 ((tickG b1 s15 (alertsG (5))).1)) (l3_0B x3 s12 s15 ((IntKind.wrap .i64 (s15 + (1)))) b0 ((tickG b1 s15 (alertsG (5))).2.2) b2 ((tickG b1 s15 (alertsG (5))).1))).run = some r) : (turns (hds 3 65032) 0 65032 (evC byref (evCall F S7 (m + 24)) (m + 24) 0 (hds 3) lbl3_0) (n + 1) (l3_0H x3 s12 s13 s15 b0 b1 b2 b3) (l3_0B x3 s12 s13 s15 b0 b1 b2 b3)).run = some r := by
  have ht : (turn (hds 3 65032) 0 65032 (evC byref (evCall F S7 (m + 24)) (m + 24) 0 (hds 3) lbl3_0) (l3_0H x3 s12 s13 s15 b0 b1 b2 b3) (l3_0B x3 s12 s13 s15 b0 b1 b2 b3)).run = some (.normal, [.top, .top, .top, (.d (.sl (.int .i64) x3)), .top, .top, .top, .top, .top, (.ptr 0 0), (.ptr 1 0), (.ptr 2 0), (.d (.int .i64 s12)), (.d (.int .i64 s15)), (.sr 3 0 (0 + (List.length (tickG b1 s15 (alertsG (5))).1)) 1 none), (.d (.int .i64 (IntKind.wrap .i64 (s15 + (1))))), .top, .top, .top, .top, .top, .top, .top, .top, .top, .top, .top, .top, .top, .top, .top, .top, .top, .top, .top, .top, .top, .top, .top, .top, .top, .top, .top, .top, .top, .top, .top, .top, .top, .top, .top, .top, .top, .top, .top, .top, .top, .top, .top, .top, .top, .top, .top, .top, .top, .top, .top, .top, .top, .top, .top, .top, .top, .top, .top, .top, .top, .top, .top, .top, .top, .top, .top, .top, .top, .top, .top, .top, .top, .top, .top, .top, .top, .top, .top, .top, .top, .top, .top, .top, .top, .top, .top, .top, .top, .top, .top, .top, .top, .top, .top, .top, .top, .top, .top, .top, .top, .top, .top, .top, .top, .top, .top, .top, .top, .top, .top, .top, .top, .top, .top, .top, .top, .top, .top, .top, .top, .top, .top, .top, .top, .top, .top, .top, .top, .top, .top, .top, .top, .top, .top, .top, .top, .top, .top, .top, .top, .top, .top, .top, .top], [(.cells [(.d (.int .i64 b0.1)), (.d (.int .i64 b0.2.1)), (.d (.int .i64 b0.2.2))]), (.cells [(.d (.int .i64 (tickG b1 s15 (alertsG (5))).2.2.1.1)), (.d (.int .i64 (tickG b1 s15 (alertsG (5))).2.2.1.2.1)), (.d (.int .i64 (tickG b1 s15 (alertsG (5))).2.2.1.2.2)), (.d (.bool (tickG b1 s15 (alertsG (5))).2.2.2.1)), (.d (.int .i64 (tickG b1 s15 (alertsG (5))).2.2.2.2.1)), (.d (.bool (tickG b1 s15 (alertsG (5))).2.2.2.2.2.1)), (.d (.sl .str (tickG b1 s15 (alertsG (5))).2.2.2.2.2.2.1)), (.d (.int .i64 (tickG b1 s15 (alertsG (5))).2.2.2.2.2.2.2))]), (.cells [(.d (.int .i64 b2.1.1)), (.d (.int .i64 b2.1.2.1)), (.d (.int .i64 b2.1.2.2)), (.d (.bool (b2.2.1))), (.d (.int .i64 b2.2.2.1)), (.d (.bool (b2.2.2.2.1))), (.d (.sl .str b2.2.2.2.2.1)), (.d (.int .i64 b2.2.2.2.2.2))]), (.arr .str (tickG b1 s15 (alertsG (5))).1 true)]) := M.run_of_path _ [true, true, false, true, true, true, true, false, true, true, true, true, true, true, true, false, false, false, false, false, false, true, false, true, false, false, false, false, false, false, false, false, false, false, false, false, false, false, false, false, false, false, false, false, false, false, false, true, false, true, false, false, false, false, false, false, false, false, false, false, false, true, false, true, false, true, true, true, false] _ _ (by kernel_rfl) (all_t c0 (all_t rfl (all_f c2 (all_t c3 (all_t c3 (all_t c3 (all_t c3 (all_f c7 (all_t c8 (all_t c9 (all_t c9 (all_t c9 (all_t c12 (all_t c9 (all_t c9 (all_nt c15 (all_nt c15 (all_nt c15 (all_nt c15 (all_nt c15 (all_nt c15 (all_t c9 (all_nt c15 (all_t c9 (all_f c24 (all_f c24 (all_f c24 (all_f c27 (all_f c27 (all_f c27 (all_f c24 (all_f c27 (all_f c24 (all_f Bool.false_ne_true (all_f Bool.false_ne_true (all_f Bool.false_ne_true (all_f c24 (all_f Bool.false_ne_true (all_f c24 (all_f Bool.false_ne_true (all_f Bool.false_ne_true (all_f Bool.false_ne_true (all_f Bool.false_ne_true (all_f Bool.false_ne_true (all_f Bool.false_ne_true (all_f c24 (all_f Bool.false_ne_true (all_t c9 (all_f c24 (all_t c9 (all_f Bool.false_ne_true (all_f Bool.false_ne_true (all_f Bool.false_ne_true (all_f c27 (all_f c27 (all_f c27 (all_f c27 (all_f c27 (all_f c27 (all_f Bool.false_ne_true (all_f c27 (all_t c9 (all_f Bool.false_ne_true (all_t c9 (all_f Bool.false_ne_true (all_t c9 (all_t c66 (all_t rfl (all_nt c68 all_nil)))))))))))))))))))))))))))))))))))))))))))))))))))))))))))))))))))))
  refine turns_step ht (turns_eq ?_ ?_ ih)
  · unfold l3_0H
    simp
  · unfold l3_0B
    simp
set_option maxHeartbeats 20000000 in
theorem l3_0_w47 (m n : Nat) (x3 : List Int) (s12 : Int) (s13 : Int) (s15 : Int) (b0 : Int × Int × Int) (b1 : (Int × Int × Int) × Bool × Int × Bool × (List (List UInt8)) × Int) (b2 : (Int × Int × Int) × Bool × Int × Bool × (List (List UInt8)) × Int) (b3 : List (List UInt8)) (r : AEx × Env × Boxes) (c0 : decide (s15 < 60) = true) (c2 : ¬ decide (s15 < (((List.length x3) : Nat) : Int)) = true) (c3 : decide (s12 < 0) = true) (c7 : ¬ decide ((((List.length (alertsG (5))) : Nat) : Int) > 0) = true) (c8 : tickPre b1 s15 (alertsG (5)) = true) (c9 : (tickG b1 s15 (alertsG (5))).2.1 = true) (c12 : decide (List.length (tickG b1 s15 (alertsG (5))).1 < 4611686018427387904) = true) (c15 : ((show List (List UInt8) from (tickG b1 s15 (alertsG (5))).1) == (alertsG (5))) = true) (c24 : ¬ decide (s15 < (IntKind.wrap .i64 (s12 + b0.1))) = true) (c27 : ¬ decide (s13 ≥ 0) = true) (c66 : decide (((0 + (List.length (tickG b1 s15 (alertsG (5))).1)) * 16) ≤ 70368744177664) = true) (c68 : ¬ (tickG b1 s15 (alertsG (5))).2.2.2.1 = true) (ih : (turns (hds 3 65032) 0 65032 (evC byref (evCall F S7 (m + 24)) (m + 24) 0 (hds 3) lbl3_0) n (l3_0H x3 ((-1)) ((-1)) ((IntKind.wrap .i64 (s15 + (1)))) b0 ((tickG b1 s15 (alertsG (5))).2.2) b2 ((tickG b1 s15 (alertsG (5))).1)) (l3_0B x3 ((-1)) ((-1)) ((IntKind.wrap .i64 (s15 + (1)))) b0 ((tickG b1 s15 (alertsG (5))).2.2) b2 ((tickG b1 s15 (alertsG (5))).1))).run = some r) : (turns (hds 3 65032) 0 65032 (evC byref (evCall F S7 (m + 24)) (m + 24) 0 (hds 3) lbl3_0) (n + 1) (l3_0H x3 s12 s13 s15 b0 b1 b2 b3) (l3_0B x3 s12 s13 s15 b0 b1 b2 b3)).run = some r := by
  have ht : (turn (hds 3 65032) 0 65032 (evC byref (evCall F S7 (m + 24)) (m + 24) 0 (hds 3) lbl3_0) (l3_0H x3 s12 s13 s15 b0 b1 b2 b3) (l3_0B x3 s12 s13 s15 b0 b1 b2 b3)).run = some (.normal, [.top, .top, .top, (.d (.sl (.int .i64) x3)), .top, .top, .top, .top, .top, (.ptr 0 0), (.ptr 1 0), (.ptr 2 0), (.d (.int .i64 (-1))), (.d (.int .i64 (-1))), (.sr 3 0 (0 + (List.length (tickG b1 s15 (alertsG (5))).1)) 1 none), (.d (.int .i64 (IntKind.wrap .i64 (s15 + (1))))), .top, .top, .top, .top, .top, .top, .top, .top, .top, .top, .top, .top, .top, .top, .top, .top, .top, .top, .top, .top, .top, .top, .top, .top, .top, .top, .top, .top, .top, .top, .top, .top, .top, .top, .top, .top, .top, .top, .top, .top, .top, .top, .top, .top, .top, .top, .top, .top, .top, .top, .top, .top, .top, .top, .top, .top, .top, .top, .top, .top, .top, .top, .top, .top, .top, .top, .top, .top, .top, .top, .top, .top, .top, .top, .top, .top, .top, .top, .top, .top, .top, .top, .top, .top, .top, .top, .top, .top, .top, .top, .top, .top, .top, .top, .top, .top, .top, .top, .top, .top, .top, .top, .top, .top, .top, .top, .top, .top, .top, .top, .top, .top, .top, .top, .top, .top, .top, .top, .top, .top, .top, .top, .top, .top, .top, .top, .top, .top, .top, .top, .top, .top, .top, .top, .top, .top, .top, .top, .top, .top, .top, .top, .top, .top, .top], [(.cells [(.d (.int .i64 b0.1)), (.d (.int .i64 b0.2.1)), (.d (.int .i64 b0.2.2))]), (.cells [(.d (.int .i64 (tickG b1 s15 (alertsG (5))).2.2.1.1)), (.d (.int .i64 (tickG b1 s15 (alertsG (5))).2.2.1.2.1)), (.d (.int .i64 (tickG b1 s15 (alertsG (5))).2.2.1.2.2)), (.d (.bool (tickG b1 s15 (alertsG (5))).2.2.2.1)), (.d (.int .i64 (tickG b1 s15 (alertsG (5))).2.2.2.2.1)), (.d (.bool (tickG b1 s15 (alertsG (5))).2.2.2.2.2.1)), (.d (.sl .str (tickG b1 s15 (alertsG (5))).2.2.2.2.2.2.1)), (.d (.int .i64 (tickG b1 s15 (alertsG (5))).2.2.2.2.2.2.2))]), (.cells [(.d (.int .i64 b2.1.1)), (.d (.int .i64 b2.1.2.1)), (.d (.int .i64 b2.1.2.2)), (.d (.bool (b2.2.1))), (.d (.int .i64 b2.2.2.1)), (.d (.bool (b2.2.2.2.1))), (.d (.sl .str b2.2.2.2.2.1)), (.d (.int .i64 b2.2.2.2.2.2))]), (.arr .str (tickG b1 s15 (alertsG (5))).1 true)]) := M.run_of_path _ [true, true, false, true, true, true, true, false, true, true, true, true, true, true, true, false, false, false, false, false, false, true, false, true, false, false, false, false, false, false, false, false, false, false, false, false, false, false, false, false, false, false, false, false, false, false, false, true, false, true, false, false, false, false, false, false, false, false, false, false, false, true, false, true, false, true, true, true, true] _ _ (by kernel_rfl) (all_t c0 (all_t rfl (all_f c2 (all_t c3 (all_t c3 (all_t c3 (all_t c3 (all_f c7 (all_t c8 (all_t c9 (all_t c9 (all_t c9 (all_t c12 (all_t c9 (all_t c9 (all_nt c15 (all_nt c15 (all_nt c15 (all_nt c15 (all_nt c15 (all_nt c15 (all_t c9 (all_nt c15 (all_t c9 (all_f c24 (all_f c24 (all_f c24 (all_f c27 (all_f c27 (all_f c27 (all_f c24 (all_f c27 (all_f c24 (all_f Bool.false_ne_true (all_f Bool.false_ne_true (all_f Bool.false_ne_true (all_f c24 (all_f Bool.false_ne_true (all_f c24 (all_f Bool.false_ne_true (all_f Bool.false_ne_true (all_f Bool.false_ne_true (all_f Bool.false_ne_true (all_f Bool.false_ne_true (all_f Bool.false_ne_true (all_f c24 (all_f Bool.false_ne_true (all_t c9 (all_f c24 (all_t c9 (all_f Bool.false_ne_true (all_f Bool.false_ne_true (all_f Bool.false_ne_true (all_f c27 (all_f c27 (all_f c27 (all_f c27 (all_f c27 (all_f c27 (all_f Bool.false_ne_true (all_f c27 (all_t c9 (all_f Bool.false_ne_true (all_t c9 (all_f Bool.false_ne_true (all_t c9 (all_t c66 (all_t rfl (all_nf c68 all_nil)))))))))))))))))))))))))))))))))))))))))))))))))))))))))))))))))))))
  refine turns_step ht (turns_eq ?_ ?_ ih)
  · unfold l3_0H
    simp
  · unfold l3_0B
    simp
set_option maxHeartbeats 20000000 in
theorem l3_0_w48 (m n : Nat) (x3 : List Int) (s12 : Int) (s13 : Int) (s15 : Int) (b0 : Int × Int × Int) (b1 : (Int × Int × Int) × Bool × Int × Bool × (List (List UInt8)) × Int) (b2 : (Int × Int × Int) × Bool × Int × Bool × (List (List UInt8)) × Int) (b3 : List (List UInt8)) (r : AEx × Env × Boxes) (c0 : decide (s15 < 60) = true) (c2 : ¬ decide (s15 < (((List.length x3) : Nat) : Int)) = true) (c3 : decide (s12 < 0) = true) (c7 : ¬ decide ((((List.length (alertsG (5))) : Nat) : Int) > 0) = true) (c8 : tickPre b1 s15 (alertsG (5)) = true) (c9 : ¬ (tickG b1 s15 (alertsG (5))).2.1 = true) (c22 : (tickG b1 s15 (alertsG (5))).2.2.2.1 = true) (ih : (turns (hds 3 65032) 0 65032 (evC byref (evCall F S7 (m + 24)) (m + 24) 0 (hds 3) lbl3_0) n (l3_0H x3 s12 s13 ((IntKind.wrap .i64 (s15 + (1)))) b0 ((tickG b1 s15 (alertsG (5))).2.2) b2 b3) (l3_0B x3 s12 s13 ((IntKind.wrap .i64 (s15 + (1)))) b0 ((tickG b1 s15 (alertsG (5))).2.2) b2 b3)).run = some r) : (turns (hds 3 65032) 0 65032 (evC byref (evCall F S7 (m + 24)) (m + 24) 0 (hds 3) lbl3_0) (n + 1) (l3_0H x3 s12 s13 s15 b0 b1 b2 b3) (l3_0B x3 s12 s13 s15 b0 b1 b2 b3)).run = some r := by
  exact turns_step (M.run_of_path _ [true, true, false, true, true, true, true, false, true, false, false, false, false, false, false, false, false, false, false, false, false, false, false] _ _ (by kernel_rfl) (all_t c0 (all_t rfl (all_f c2 (all_t c3 (all_t c3 (all_t c3 (all_t c3 (all_f c7 (all_t c8 (all_f c9 (all_f c9 (all_f c9 (all_f c9 (all_f c9 (all_f c9 (all_f c9 (all_f c9 (all_f c9 (all_f c9 (all_f c9 (all_f Bool.false_ne_true (all_f c9 (all_nt c22 all_nil)))))))))))))))))))))))) ih
set_option maxHeartbeats 20000000 in
theorem l3_0_w49 (m n : Nat) (x3 : List Int) (s12 : Int) (s13 : Int) (s15 : Int) (b0 : Int × Int × Int) (b1 : (Int × Int × Int) × Bool × Int × Bool × (List (List UInt8)) × Int) (b2 : (Int × Int × Int) × Bool × Int × Bool × (List (List UInt8)) × Int) (b3 : List (List UInt8)) (r : AEx × Env × Boxes) (c0 : decide (s15 < 60) = true) (c2 : ¬ decide (s15 < (((List.length x3) : Nat) : Int)) = true) (c3 : decide (s12 < 0) = true) (c7 : ¬ decide ((((List.length (alertsG (5))) : Nat) : Int) > 0) = true) (c8 : tickPre b1 s15 (alertsG (5)) = true) (c9 : ¬ (tickG b1 s15 (alertsG (5))).2.1 = true) (c22 : ¬ (tickG b1 s15 (alertsG (5))).2.2.2.1 = true) (ih : (turns (hds 3 65032) 0 65032 (evC byref (evCall F S7 (m + 24)) (m + 24) 0 (hds 3) lbl3_0) n (l3_0H x3 ((-1)) ((-1)) ((IntKind.wrap .i64 (s15 + (1)))) b0 ((tickG b1 s15 (alertsG (5))).2.2) b2 b3) (l3_0B x3 ((-1)) ((-1)) ((IntKind.wrap .i64 (s15 + (1)))) b0 ((tickG b1 s15 (alertsG (5))).2.2) b2 b3)).run = some r) : (turns (hds 3 65032) 0 65032 (evC byref (evCall F S7 (m + 24)) (m + 24) 0 (hds 3) lbl3_0) (n + 1) (l3_0H x3 s12 s13 s15 b0 b1 b2 b3) (l3_0B x3 s12 s13 s15 b0 b1 b2 b3)).run = some r := by
  exact turns_step (M.run_of_path _ [true, true, false, true, true, true, true, false, true, false, false, false, false, false, false, false, false, false, false, false, false, false, true] _ _ (by kernel_rfl) (all_t c0 (all_t rfl (all_f c2 (all_t c3 (all_t c3 (all_t c3 (all_t c3 (all_f c7 (all_t c8 (all_f c9 (all_f c9 (all_f c9 (all_f c9 (all_f c9 (all_f c9 (all_f c9 (all_f c9 (all_f c9 (all_f c9 (all_f c9 (all_f Bool.false_ne_true (all_f c9 (all_nf c22 all_nil)))))))))))))))))))))))) ih
set_option maxHeartbeats 20000000 in
theorem l3_0_w50 (m n : Nat) (x3 : List Int) (s12 : Int) (s13 : Int) (s15 : Int) (b0 : Int × Int × Int) (b1 : (Int × Int × Int) × Bool × Int × Bool × (List (List UInt8)) × Int) (b2 : (Int × Int × Int) × Bool × Int × Bool × (List (List UInt8)) × Int) (b3 : List (List UInt8)) (r : AEx × Env × Boxes) (c0 : decide (s15 < 60) = true) (c2 : ¬ decide (s15 < (((List.length x3) : Nat) : Int)) = true) (c3 : ¬ decide (s12 < 0) = true) (c8 : tickPre b1 s15 (alertsG (5)) = true) (c9 : (tickG b1 s15 (alertsG (5))).2.1 = true) (c12 : decide (List.length (tickG b1 s15 (alertsG (5))).1 < 4611686018427387904) = true) (c15 : ((show List (List UInt8) from (tickG b1 s15 (alertsG (5))).1) == (alertsG (5))) = true) (c24 : ¬ decide (s15 < (IntKind.wrap .i64 (s12 + b0.1))) = true) (c27 : decide (s13 ≥ 0) = true) (c30 : decide ((0 + (List.length b3)) ≤ (List.length b3)) = true) (c35 : ((show List (List UInt8) from (tickG b1 s15 (alertsG (5))).1) == (List.take (List.length b3) (List.drop 0 b3))) = true) (c41 : decide ((((List.length (tickG b1 s15 (alertsG (5))).1) : Nat) : Int) > 0) = true) (c52 : ¬ decide (s15 < (IntKind.wrap .i64 (s13 + b0.2.2))) = true) (c66 : ¬ decide (s15 < (IntKind.wrap .i64 (s13 + b0.2.1))) = true) (c68 : decide (((0 + (List.length (tickG b1 s15 (alertsG (5))).1)) * 16) ≤ 70368744177664) = true) (c70 : (tickG b1 s15 (alertsG (5))).2.2.2.1 = true) (ih : (turns (hds 3 65032) 0 65032 (evC byref (evCall F S7 (m + 24)) (m + 24) 0 (hds 3) lbl3_0) n (l3_0H x3 s12 s15 ((IntKind.wrap .i64 (s15 + (1)))) b0 ((tickG b1 s15 (alertsG (5))).2.2) b2 ((tickG b1 s15 (alertsG (5))).1)) (l3_0B x3 s12 s15 ((IntKind.wrap .i64 (s15 + (1)))) b0 ((tickG b1 s15 (alertsG (5))).2.2) b2 ((tickG b1 s15 (alertsG (5))).1))).run = some r) : (turns (hds 3 65032) 0 65032 (evC byref (evCall F S7 (m + 24)) (m + 24) 0 (hds 3) lbl3_0) (n + 1) (l3_0H x3 s12 s13 s15 b0 b1 b2 b3) (l3_0B x3 s12 s13 s15 b0 b1 b2 b3)).run = some r := by
  have ht : (turn (hds 3 65032) 0 65032 (evC byref (evCall F S7 (m + 24)) (m + 24) 0 (hds 3) lbl3_0) (l3_0H x3 s12 s13 s15 b0 b1 b2 b3) (l3_0B x3 s12 s13 s15 b0 b1 b2 b3)).run = some (.normal, [.top, .top, .top, (.d (.sl (.int .i64) x3)), .top, .top, .top, .top, .top, (.ptr 0 0), (.ptr 1 0), (.ptr 2 0), (.d (.int .i64 s12)), (.d (.int .i64 s15)), (.sr 3 0 (0 + (List.length (tickG b1 s15 (alertsG (5))).1)) 1 none), (.d (.int .i64 (IntKind.wrap .i64 (s15 + (1))))), .top, .top, .top, .top, .top, .top, .top, .top, .top, .top, .top, .top, .top, .top, .top, .top, .top, .top, .top, .top, .top, .top, .top, .top, .top, .top, .top, .top, .top, .top, .top, .top, .top, .top, .top, .top, .top, .top, .top, .top, .top, .top, .top, .top, .top, .top, .top, .top, .top, .top, .top, .top, .top, .top, .top, .top, .top, .top, .top, .top, .top, .top, .top, .top, .top, .top, .top, .top, .top, .top, .top, .top, .top, .top, .top, .top, .top, .top, .top, .top, .top, .top, .top, .top, .top, .top, .top, .top, .top, .top, .top, .top, .top, .top, .top, .top, .top, .top, .top, .top, .top, .top, .top, .top, .top, .top, .top, .top, .top, .top, .top, .top, .top, .top, .top, .top, .top, .top, .top, .top, .top, .top, .top, .top, .top, .top, .top, .top, .top, .top, .top, .top, .top, .top, .top, .top, .top, .top, .top, .top, .top, .top, .top, .top, .top], [(.cells [(.d (.int .i64 b0.1)), (.d (.int .i64 b0.2.1)), (.d (.int .i64 b0.2.2))]), (.cells [(.d (.int .i64 (tickG b1 s15 (alertsG (5))).2.2.1.1)), (.d (.int .i64 (tickG b1 s15 (alertsG (5))).2.2.1.2.1)), (.d (.int .i64 (tickG b1 s15 (alertsG (5))).2.2.1.2.2)), (.d (.bool (tickG b1 s15 (alertsG (5))).2.2.2.1)), (.d (.int .i64 (tickG b1 s15 (alertsG (5))).2.2.2.2.1)), (.d (.bool (tickG b1 s15 (alertsG (5))).2.2.2.2.2.1)), (.d (.sl .str (tickG b1 s15 (alertsG (5))).2.2.2.2.2.2.1)), (.d (.int .i64 (tickG b1 s15 (alertsG (5))).2.2.2.2.2.2.2))]), (.cells [(.d (.int .i64 b2.1.1)), (.d (.int .i64 b2.1.2.1)), (.d (.int .i64 b2.1.2.2)), (.d (.bool (b2.2.1))), (.d (.int .i64 b2.2.2.1)), (.d (.bool (b2.2.2.2.1))), (.d (.sl .str b2.2.2.2.2.1)), (.d (.int .i64 b2.2.2.2.2.2))]), (.arr .str (tickG b1 s15 (alertsG (5))).1 true)]) := M.run_of_path _ [true, true, false, false, false, false, false, false, true, true, true, true, true, true, true, false, false, false, false, false, false, true, false, true, false, false, false, true, true, true, true, true, false, true, false, true, true, true, false, true, false, true, true, true, true, true, true, false, true, true, false, true, false, false, false, true, true, true, true, true, true, false, true, true, false, true, false, true, true, true, false] _ _ (by kernel_rfl) (all_t c0 (all_t rfl (all_f c2 (all_f c3 (all_f c3 (all_f c3 (all_f c3 (all_f Bool.false_ne_true (all_t c8 (all_t c9 (all_t c9 (all_t c9 (all_t c12 (all_t c9 (all_t c9 (all_nt c15 (all_nt c15 (all_nt c15 (all_nt c15 (all_nt c15 (all_nt c15 (all_t c9 (all_nt c15 (all_t c9 (all_f c24 (all_f c24 (all_f c24 (all_t c27 (all_t c27 (all_t c27 (all_t c30 (all_t c12 (all_f c24 (all_t c27 (all_f c24 (all_t c35 (all_t c35 (all_t c35 (all_f c24 (all_t c35 (all_f c24 (all_t c41 (all_t c41 (all_t c41 (all_t c41 (all_t c41 (all_t c41 (all_f c24 (all_t c41 (all_t c9 (all_f c24 (all_t c9 (all_f c52 (all_f c52 (all_f c52 (all_t c27 (all_t c27 (all_t c27 (all_t c27 (all_t c27 (all_t c27 (all_f c52 (all_t c27 (all_t c9 (all_f c52 (all_t c9 (all_f c66 (all_t c9 (all_t c68 (all_t rfl (all_nt c70 all_nil)))))))))))))))))))))))))))))))))))))))))))))))))))))))))))))))))))))))
  refine turns_step ht (turns_eq ?_ ?_ ih)
  · unfold l3_0H
    simp
  · unfold l3_0B
    simp
set_option maxHeartbeats 20000000 in
theorem l3_0_w51 (m n : Nat) (x3 : List Int) (s12 : Int) (s13 : Int) (s15 : Int) (b0 : Int × Int × Int) (b1 : (Int × Int × Int) × Bool × Int × Bool × (List (List UInt8)) × Int) (b2 : (Int × Int × Int) × Bool × Int × Bool × (List (List UInt8)) × Int) (b3 : List (List UInt8)) (r : AEx × Env × Boxes) (c0 : decide (s15 < 60) = true) (c2 : ¬ decide (s15 < (((List.length x3) : Nat) : Int)) = true) (c3 : ¬ decide (s12 < 0) = true) (c8 : tickPre b1 s15 (alertsG (5)) = true) (c9 : (tickG b1 s15 (alertsG (5))).2.1 = true) (c12 : decide (List.length (tickG b1 s15 (alertsG (5))).1 < 4611686018427387904) = true) (c15 : ((show List (List UInt8) from (tickG b1 s15 (alertsG (5))).1) == (alertsG (5))) = true) (c24 : ¬ decide (s15 < (IntKind.wrap .i64 (s12 + b0.1))) = true) (c27 : decide (s13 ≥ 0) = true) (c30 : decide ((0 + (List.length b3)) ≤ (List.length b3)) = true) (c35 : ((show List (List UInt8) from (tickG b1 s15 (alertsG (5))).1) == (List.take (List.length b3) (List.drop 0 b3))) = true) (c41 : decide ((((List.length (tickG b1 s15 (alertsG (5))).1) : Nat) : Int) > 0) = true) (c52 : ¬ decide (s15 < (IntKind.wrap .i64 (s13 + b0.2.2))) = true) (c66 : ¬ decide (s15 < (IntKind.wrap .i64 (s13 + b0.2.1))) = true) (c68 : decide (((0 + (List.length (tickG b1 s15 (alertsG (5))).1)) * 16) ≤ 70368744177664) = true) (c70 : ¬ (tickG b1 s15 (alertsG (5))).2.2.2.1 = true) (ih : (turns (hds 3 65032) 0 65032 (evC byref (evCall F S7 (m + 24)) (m + 24) 0 (hds 3) lbl3_0) n (l3_0H x3 ((-1)) ((-1)) ((IntKind.wrap .i64 (s15 + (1)))) b0 ((tickG b1 s15 (alertsG (5))).2.2) b2 ((tickG b1 s15 (alertsG (5))).1)) (l3_0B x3 ((-1)) ((-1)) ((IntKind.wrap .i64 (s15 + (1)))) b0 ((tickG b1 s15 (alertsG (5))).2.2) b2 ((tickG b1 s15 (alertsG (5))).1))).run = some r) : (turns (hds 3 65032) 0 65032 (evC byref (evCall F S7 (m + 24)) (m + 24) 0 (hds 3) lbl3_0) (n + 1) (l3_0H x3 s12 s13 s15 b0 b1 b2 b3) (l3_0B x3 s12 s13 s15 b0 b1 b2 b3)).run = some r := by
  have ht : (turn (hds 3 65032) 0 65032 (evC byref (evCall F S7 (m + 24)) (m + 24) 0 (hds 3) lbl3_0) (l3_0H x3 s12 s13 s15 b0 b1 b2 b3) (l3_0B x3 s12 s13 s15 b0 b1 b2 b3)).run = some (.normal, [.top, .top, .top, (.d (.sl (.int .i64) x3)), .top, .top, .top, .top, .top, (.ptr 0 0), (.ptr 1 0), (.ptr 2 0), (.d (.int .i64 (-1))), (.d (.int .i64 (-1))), (.sr 3 0 (0 + (List.length (tickG b1 s15 (alertsG (5))).1)) 1 none), (.d (.int .i64 (IntKind.wrap .i64 (s15 + (1))))), .top, .top, .top, .top, .top, .top, .top, .top, .top, .top, .top, .top, .top, .top, .top, .top, .top, .top, .top, .top, .top, .top, .top, .top, .top, .top, .top, .top, .top, .top, .top, .top, .top, .top, .top, .top, .top, .top, .top, .top, .top, .top, .top, .top, .top, .top, .top, .top, .top, .top, .top, .top, .top, .top, .top, .top, .top, .top, .top, .top, .top, .top, .top, .top, .top, .top, .top, .top, .top, .top, .top, .top, .top, .top, .top, .top, .top, .top, .top, .top, .top, .top, .top, .top, .top, .top, .top, .top, .top, .top, .top, .top, .top, .top, .top, .top, .top, .top, .top, .top, .top, .top, .top, .top, .top, .top, .top, .top, .top, .top, .top, .top, .top, .top, .top, .top, .top, .top, .top, .top, .top, .top, .top, .top, .top, .top, .top, .top, .top, .top, .top, .top, .top, .top, .top, .top, .top, .top, .top, .top, .top, .top, .top, .top, .top], [(.cells [(.d (.int .i64 b0.1)), (.d (.int .i64 b0.2.1)), (.d (.int .i64 b0.2.2))]), (.cells [(.d (.int .i64 (tickG b1 s15 (alertsG (5))).2.2.1.1)), (.d (.int .i64 (tickG b1 s15 (alertsG (5))).2.2.1.2.1)), (.d (.int .i64 (tickG b1 s15 (alertsG (5))).2.2.1.2.2)), (.d (.bool (tickG b1 s15 (alertsG (5))).2.2.2.1)), (.d (.int .i64 (tickG b1 s15 (alertsG (5))).2.2.2.2.1)), (.d (.bool (tickG b1 s15 (alertsG (5))).2.2.2.2.2.1)), (.d (.sl .str (tickG b1 s15 (alertsG (5))).2.2.2.2.2.2.1)), (.d (.int .i64 (tickG b1 s15 (alertsG (5))).2.2.2.2.2.2.2))]), (.cells [(.d (.int .i64 b2.1.1)), (.d (.int .i64 b2.1.2.1)), (.d (.int .i64 b2.1.2.2)), (.d (.bool (b2.2.1))), (.d (.int .i64 b2.2.2.1)), (.d (.bool (b2.2.2.2.1))), (.d (.sl .str b2.2.2.2.2.1)), (.d (.int .i64 b2.2.2.2.2.2))]), (.arr .str (tickG b1 s15 (alertsG (5))).1 true)]) := M.run_of_path _ [true, true, false, false, false, false, false, false, true, true, true, true, true, true, true, false, false, false, false, false, false, true, false, true, false, false, false, true, true, true, true, true, false, true, false, true, true, true, false, true, false, true, true, true, true, true, true, false, true, true, false, true, false, false, false, true, true, true, true, true, true, false, true, true, false, true, false, true, true, true, true] _ _ (by kernel_rfl) (all_t c0 (all_t rfl (all_f c2 (all_f c3 (all_f c3 (all_f c3 (all_f c3 (all_f Bool.false_ne_true (all_t c8 (all_t c9 (all_t c9 (all_t c9 (all_t c12 (all_t c9 (all_t c9 (all_nt c15 (all_nt c15 (all_nt c15 (all_nt c15 (all_nt c15 (all_nt c15 (all_t c9 (all_nt c15 (all_t c9 (all_f c24 (all_f c24 (all_f c24 (all_t c27 (all_t c27 (all_t c27 (all_t c30 (all_t c12 (all_f c24 (all_t c27 (all_f c24 (all_t c35 (all_t c35 (all_t c35 (all_f c24 (all_t c35 (all_f c24 (all_t c41 (all_t c41 (all_t c41 (all_t c41 (all_t c41 (all_t c41 (all_f c24 (all_t c41 (all_t c9 (all_f c24 (all_t c9 (all_f c52 (all_f c52 (all_f c52 (all_t c27 (all_t c27 (all_t c27 (all_t c27 (all_t c27 (all_t c27 (all_f c52 (all_t c27 (all_t c9 (all_f c52 (all_t c9 (all_f c66 (all_t c9 (all_t c68 (all_t rfl (all_nf c70 all_nil)))))))))))))))))))))))))))))))))))))))))))))))))))))))))))))))))))))))
  refine turns_step ht (turns_eq ?_ ?_ ih)
  · unfold l3_0H
    simp
  · unfold l3_0B
    simp
set_option maxHeartbeats 20000000 in
theorem l3_0_w52 (m n : Nat) (x3 : List Int) (s12 : Int) (s13 : Int) (s15 : Int) (b0 : Int × Int × Int) (b1 : (Int × Int × Int) × Bool × Int × Bool × (List (List UInt8)) × Int) (b2 : (Int × Int × Int) × Bool × Int × Bool × (List (List UInt8)) × Int) (b3 : List (List UInt8)) (r : AEx × Env × Boxes) (c0 : decide (s15 < 60) = true) (c2 : ¬ decide (s15 < (((List.length x3) : Nat) : Int)) = true) (c3 : ¬ decide (s12 < 0) = true) (c8 : tickPre b1 s15 (alertsG (5)) = true) (c9 : (tickG b1 s15 (alertsG (5))).2.1 = true) (c12 : decide (List.length (tickG b1 s15 (alertsG (5))).1 < 4611686018427387904) = true) (c15 : ((show List (List UInt8) from (tickG b1 s15 (alertsG (5))).1) == (alertsG (5))) = true) (c24 : ¬ decide (s15 < (IntKind.wrap .i64 (s12 + b0.1))) = true) (c27 : decide (s13 ≥ 0) = true) (c30 : decide ((0 + (List.length b3)) ≤ (List.length b3)) = true) (c35 : ((show List (List UInt8) from (tickG b1 s15 (alertsG (5))).1) == (List.take (List.length b3) (List.drop 0 b3))) = true) (c41 : ¬ decide ((((List.length (tickG b1 s15 (alertsG (5))).1) : Nat) : Int) > 0) = true) (c66 : ¬ decide (s15 < (IntKind.wrap .i64 (s13 + b0.2.1))) = true) (c68 : decide (((0 + (List.length (tickG b1 s15 (alertsG (5))).1)) * 16) ≤ 70368744177664) = true) (c70 : (tickG b1 s15 (alertsG (5))).2.2.2.1 = true) (ih : (turns (hds 3 65032) 0 65032 (evC byref (evCall F S7 (m + 24)) (m + 24) 0 (hds 3) lbl3_0) n (l3_0H x3 s12 s15 ((IntKind.wrap .i64 (s15 + (1)))) b0 ((tickG b1 s15 (alertsG (5))).2.2) b2 ((tickG b1 s15 (alertsG (5))).1)) (l3_0B x3 s12 s15 ((IntKind.wrap .i64 (s15 + (1)))) b0 ((tickG b1 s15 (alertsG (5))).2.2) b2 ((tickG b1 s15 (alertsG (5))).1))).run = some r) : (turns (hds 3 65032) 0 65032 (evC byref (evCall F S7 (m + 24)) (m + 24) 0 (hds 3) lbl3_0) (n + 1) (l3_0H x3 s12 s13 s15 b0 b1 b2 b3) (l3_0B x3 s12 s13 s15 b0 b1 b2 b3)).run = some r := by
  have ht : (turn (hds 3 65032) 0 65032 (evC byref (evCall F S7 (m + 24)) (m + 24) 0 (hds 3) lbl3_0) (l3_0H x3 s12 s13 s15 b0 b1 b2 b3) (l3_0B x3 s12 s13 s15 b0 b1 b2 b3)).run = some (.normal, [.top, .top, .top, (.d (.sl (.int .i64) x3)), .top, .top, .top, .top, .top, (.ptr 0 0), (.ptr 1 0), (.ptr 2 0), (.d (.int .i64 s12)), (.d (.int .i64 s15)), (.sr 3 0 (0 + (List.length (tickG b1 s15 (alertsG (5))).1)) 1 none), (.d (.int .i64 (IntKind.wrap .i64 (s15 + (1))))), .top, .top, .top, .top, .top, .top, .top, .top, .top, .top, .top, .top, .top, .top, .top, .top, .top, .top, .top, .top, .top, .top, .top, .top, .top, .top, .top, .top, .top, .top, .top, .top, .top, .top, .top, .top, .top, .top, .top, .top, .top, .top, .top, .top, .top, .top, .top, .top, .top, .top, .top, .top, .top, .top, .top, .top, .top, .top, .top, .top, .top, .top, .top, .top, .top, .top, .top, .top, .top, .top, .top, .top, .top, .top, .top, .top, .top, .top, .top, .top, .top, .top, .top, .top, .top, .top, .top, .top, .top, .top, .top, .top, .top, .top, .top, .top, .top, .top, .top, .top, .top, .top, .top, .top, .top, .top, .top, .top, .top, .top, .top, .top, .top, .top, .top, .top, .top, .top, .top, .top, .top, .top, .top, .top, .top, .top, .top, .top, .top, .top, .top, .top, .top, .top, .top, .top, .top, .top, .top, .top, .top, .top, .top, .top, .top], [(.cells [(.d (.int .i64 b0.1)), (.d (.int .i64 b0.2.1)), (.d (.int .i64 b0.2.2))]), (.cells [(.d (.int .i64 (tickG b1 s15 (alertsG (5))).2.2.1.1)), (.d (.int .i64 (tickG b1 s15 (alertsG (5))).2.2.1.2.1)), (.d (.int .i64 (tickG b1 s15 (alertsG (5))).2.2.1.2.2)), (.d (.bool (tickG b1 s15 (alertsG (5))).2.2.2.1)), (.d (.int .i64 (tickG b1 s15 (alertsG (5))).2.2.2.2.1)), (.d (.bool (tickG b1 s15 (alertsG (5))).2.2.2.2.2.1)), (.d (.sl .str (tickG b1 s15 (alertsG (5))).2.2.2.2.2.2.1)), (.d (.int .i64 (tickG b1 s15 (alertsG (5))).2.2.2.2.2.2.2))]), (.cells [(.d (.int .i64 b2.1.1)), (.d (.int .i64 b2.1.2.1)), (.d (.int .i64 b2.1.2.2)), (.d (.bool (b2.2.1))), (.d (.int .i64 b2.2.2.1)), (.d (.bool (b2.2.2.2.1))), (.d (.sl .str b2.2.2.2.2.1)), (.d (.int .i64 b2.2.2.2.2.2))]), (.arr .str (tickG b1 s15 (alertsG (5))).1 true)]) := M.run_of_path _ [true, true, false, false, false, false, false, false, true, true, true, true, true, true, true, false, false, false, false, false, false, true, false, true, false, false, false, true, true, true, true, true, false, true, false, true, true, true, false, true, false, false, false, false, false, false, false, false, false, true, false, true, false, false, false, true, true, true, true, true, true, false, true, true, false, true, false, true, true, true, false] _ _ (by kernel_rfl) (all_t c0 (all_t rfl (all_f c2 (all_f c3 (all_f c3 (all_f c3 (all_f c3 (all_f Bool.false_ne_true (all_t c8 (all_t c9 (all_t c9 (all_t c9 (all_t c12 (all_t c9 (all_t c9 (all_nt c15 (all_nt c15 (all_nt c15 (all_nt c15 (all_nt c15 (all_nt c15 (all_t c9 (all_nt c15 (all_t c9 (all_f c24 (all_f c24 (all_f c24 (all_t c27 (all_t c27 (all_t c27 (all_t c30 (all_t c12 (all_f c24 (all_t c27 (all_f c24 (all_t c35 (all_t c35 (all_t c35 (all_f c24 (all_t c35 (all_f c24 (all_f c41 (all_f c41 (all_f c41 (all_f c41 (all_f c41 (all_f c41 (all_f c24 (all_f c41 (all_t c9 (all_f c24 (all_t c9 (all_f Bool.false_ne_true (all_f Bool.false_ne_true (all_f Bool.false_ne_true (all_t c27 (all_t c27 (all_t c27 (all_t c27 (all_t c27 (all_t c27 (all_f Bool.false_ne_true (all_t c27 (all_t c9 (all_f Bool.false_ne_true (all_t c9 (all_f c66 (all_t c9 (all_t c68 (all_t rfl (all_nt c70 all_nil)))))))))))))))))))))))))))))))))))))))))))))))))))))))))))))))))))))))
  refine turns_step ht (turns_eq ?_ ?_ ih)
  · unfold l3_0H
    simp
  · unfold l3_0B
    simp
set_option maxHeartbeats 20000000 in
theorem l3_0_w53 (m n : Nat) (x3 : List Int) (s12 : Int) (s13 : Int) (s15 : Int) (b0 : Int × Int × Int) (b1 : (Int × Int × Int) × Bool × Int × Bool × (List (List UInt8)) × Int) (b2 : (Int × Int × Int) × Bool × Int × Bool × (List (List UInt8)) × Int) (b3 : List (List UInt8)) (r : AEx × Env × Boxes) (c0 : decide (s15 < 60) = true) (c2 : ¬ decide (s15 < (((List.length x3) : Nat) : Int)) = true) (c3 : ¬ decide (s12 < 0) = true) (c8 : tickPre b1 s15 (alertsG (5)) = true) (c9 : (tickG b1 s15 (alertsG (5))).2.1 = true) (c12 : decide (List.length (tickG b1 s15 (alertsG (5))).1 < 4611686018427387904) = true) (c15 : ((show List (List UInt8) from (tickG b1 s15 (alertsG (5))).1) == (alertsG (5))) = true) (c24 : ¬ decide (s15 < (IntKind.wrap .i64 (s12 + b0.1))) = true) (c27 : decide (s13 ≥ 0) = true) (c30 : decide ((0 + (List.length b3)) ≤ (List.length b3)) = true) (c35 : ((show List (List UInt8) from (tickG b1 s15 (alertsG (5))).1) == (List.take (List.length b3) (List.drop 0 b3))) = true) (c41 : ¬ decide ((((List.length (tickG b1 s15 (alertsG (5))).1) : Nat) : Int) > 0) = true) (c66 : ¬ decide (s15 < (IntKind.wrap .i64 (s13 + b0.2.1))) = true) (c68 : decide (((0 + (List.length (tickG b1 s15 (alertsG (5))).1)) * 16) ≤ 70368744177664) = true) (c70 : ¬ (tickG b1 s15 (alertsG (5))).2.2.2.1 = true) (ih : (turns (hds 3 65032) 0 65032 (evC byref (evCall F S7 (m + 24)) (m + 24) 0 (hds 3) lbl3_0) n (l3_0H x3 ((-1)) ((-1)) ((IntKind.wrap .i64 (s15 + (1)))) b0 ((tickG b1 s15 (alertsG (5))).2.2) b2 ((tickG b1 s15 (alertsG (5))).1)) (l3_0B x3 ((-1)) ((-1)) ((IntKind.wrap .i64 (s15 + (1)))) b0 ((tickG b1 s15 (alertsG (5))).2.2) b2 ((tickG b1 s15 (alertsG (5))).1))).run = some r) : (turns (hds 3 65032) 0 65032 (evC byref (evCall F S7 (m + 24)) (m + 24) 0 (hds 3) lbl3_0) (n + 1) (l3_0H x3 s12 s13 s15 b0 b1 b2 b3) (l3_0B x3 s12 s13 s15 b0 b1 b2 b3)).run = some r := by
  have ht : (turn (hds 3 65032) 0 65032 (evC byref (evCall F S7 (m + 24)) (m + 24) 0 (hds 3) lbl3_0) (l3_0H x3 s12 s13 s15 b0 b1 b2 b3) (l3_0B x3 s12 s13 s15 b0 b1 b2 b3)).run = some (.normal, [.top, .top, .top, (.d (.sl (.int .i64) x3)), .top, .top, .top, .top, .top, (.ptr 0 0), (.ptr 1 0), (.ptr 2 0), (.d (.int .i64 (-1))), (.d (.int .i64 (-1))), (.sr 3 0 (0 + (List.length (tickG b1 s15 (alertsG (5))).1)) 1 none), (.d (.int .i64 (IntKind.wrap .i64 (s15 + (1))))), .top, .top, .top, .top, .top, .top, .top, .top, .top, .top, .top, .top, .top, .top, .top, .top, .top, .top, .top, .top, .top, .top, .top, .top, .top, .top, .top, .top, .top, .top, .top, .top, .top, .top, .top, .top, .top, .top, .top, .top, .top, .top, .top, .top, .top, .top, .top, .top, .top, .top, .top, .top, .top, .top, .top, .top, .top, .top, .top, .top, .top, .top, .top, .top, .top, .top, .top, .top, .top, .top, .top, .top, .top, .top, .top, .top, .top, .top, .top, .top, .top, .top, .top, .top, .top, .top, .top, .top, .top, .top, .top, .top, .top, .top, .top, .top, .top, .top, .top, .top, .top, .top, .top, .top, .top, .top, .top, .top, .top, .top, .top, .top, .top, .top, .top, .top, .top, .top, .top, .top, .top, .top, .top, .top, .top, .top, .top, .top, .top, .top, .top, .top, .top, .top, .top, .top, .top, .top, .top, .top, .top, .top, .top, .top, .top], [(.cells [(.d (.int .i64 b0.1)), (.d (.int .i64 b0.2.1)), (.d (.int .i64 b0.2.2))]), (.cells [(.d (.int .i64 (tickG b1 s15 (alertsG (5))).2.2.1.1)), (.d (.int .i64 (tickG b1 s15 (alertsG (5))).2.2.1.2.1)), (.d (.int .i64 (tickG b1 s15 (alertsG (5))).2.2.1.2.2)), (.d (.bool (tickG b1 s15 (alertsG (5))).2.2.2.1)), (.d (.int .i64 (tickG b1 s15 (alertsG (5))).2.2.2.2.1)), (.d (.bool (tickG b1 s15 (alertsG (5))).2.2.2.2.2.1)), (.d (.sl .str (tickG b1 s15 (alertsG (5))).2.2.2.2.2.2.1)), (.d (.int .i64 (tickG b1 s15 (alertsG (5))).2.2.2.2.2.2.2))]), (.cells [(.d (.int .i64 b2.1.1)), (.d (.int .i64 b2.1.2.1)), (.d (.int .i64 b2.1.2.2)), (.d (.bool (b2.2.1))), (.d (.int .i64 b2.2.2.1)), (.d (.bool (b2.2.2.2.1))), (.d (.sl .str b2.2.2.2.2.1)), (.d (.int .i64 b2.2.2.2.2.2))]), (.arr .str (tickG b1 s15 (alertsG (5))).1 true)]) := M.run_of_path _ [true, true, false, false, false, false, false, false, true, true, true, true, true, true, true, false, false, false, false, false, false, true, false, true, false, false, false, true, true, true, true, true, false, true, false, true, true, true, false, true, false, false, false, false, false, false, false, false, false, true, false, true, false, false, false, true, true, true, true, true, true, false, true, true, false, true, false, true, true, true, true] _ _ (by kernel_rfl) (all_t c0 (all_t rfl (all_f c2 (all_f c3 (all_f c3 (all_f c3 (all_f c3 (all_f Bool.false_ne_true (all_t c8 (all_t c9 (all_t c9 (all_t c9 (all_t c12 (all_t c9 (all_t c9 (all_nt c15 (all_nt c15 (all_nt c15 (all_nt c15 (all_nt c15 (all_nt c15 (all_t c9 (all_nt c15 (all_t c9 (all_f c24 (all_f c24 (all_f c24 (all_t c27 (all_t c27 (all_t c27 (all_t c30 (all_t c12 (all_f c24 (all_t c27 (all_f c24 (all_t c35 (all_t c35 (all_t c35 (all_f c24 (all_t c35 (all_f c24 (all_f c41 (all_f c41 (all_f c41 (all_f c41 (all_f c41 (all_f c41 (all_f c24 (all_f c41 (all_t c9 (all_f c24 (all_t c9 (all_f Bool.false_ne_true (all_f Bool.false_ne_true (all_f Bool.false_ne_true (all_t c27 (all_t c27 (all_t c27 (all_t c27 (all_t c27 (all_t c27 (all_f Bool.false_ne_true (all_t c27 (all_t c9 (all_f Bool.false_ne_true (all_t c9 (all_f c66 (all_t c9 (all_t c68 (all_t rfl (all_nf c70 all_nil)))))))))))))))))))))))))))))))))))))))))))))))))))))))))))))))))))))))
  refine turns_step ht (turns_eq ?_ ?_ ih)
  · unfold l3_0H
    simp
  · unfold l3_0B
    simp
set_option maxHeartbeats 20000000 in
theorem l3_0_w54 (m n : Nat) (x3 : List Int) (s12 : Int) (s13 : Int) (s15 : Int) (b0 : Int × Int × Int) (b1 : (Int × Int × Int) × Bool × Int × Bool × (List (List UInt8)) × Int) (b2 : (Int × Int × Int) × Bool × Int × Bool × (List (List UInt8)) × Int) (b3 : List (List UInt8)) (r : AEx × Env × Boxes) (c0 : decide (s15 < 60) = true) (c2 : ¬ decide (s15 < (((List.length x3) : Nat) : Int)) = true) (c3 : ¬ decide (s12 < 0) = true) (c8 : tickPre b1 s15 (alertsG (5)) = true) (c9 : (tickG b1 s15 (alertsG (5))).2.1 = true) (c12 : decide (List.length (tickG b1 s15 (alertsG (5))).1 < 4611686018427387904) = true) (c15 : ((show List (List UInt8) from (tickG b1 s15 (alertsG (5))).1) == (alertsG (5))) = true) (c24 : ¬ decide (s15 < (IntKind.wrap .i64 (s12 + b0.1))) = true) (c27 : decide (s13 ≥ 0) = true) (c30 : decide ((0 + (List.length b3)) ≤ (List.length b3)) = true) (c35 : ¬ ((show List (List UInt8) from (tickG b1 s15 (alertsG (5))).1) == (List.take (List.length b3) (List.drop 0 b3))) = true) (c66 : ¬ decide (s15 < (IntKind.wrap .i64 (s13 + b0.2.1))) = true) (c68 : decide (((0 + (List.length (tickG b1 s15 (alertsG (5))).1)) * 16) ≤ 70368744177664) = true) (c70 : (tickG b1 s15 (alertsG (5))).2.2.2.1 = true) (ih : (turns (hds 3 65032) 0 65032 (evC byref (evCall F S7 (m + 24)) (m + 24) 0 (hds 3) lbl3_0) n (l3_0H x3 s12 s15 ((IntKind.wrap .i64 (s15 + (1)))) b0 ((tickG b1 s15 (alertsG (5))).2.2) b2 ((tickG b1 s15 (alertsG (5))).1)) (l3_0B x3 s12 s15 ((IntKind.wrap .i64 (s15 + (1)))) b0 ((tickG b1 s15 (alertsG (5))).2.2) b2 ((tickG b1 s15 (alertsG (5))).1))).run = some r) : (turns (hds 3 65032) 0 65032 (evC byref (evCall F S7 (m + 24)) (m + 24) 0 (hds 3) lbl3_0) (n + 1) (l3_0H x3 s12 s13 s15 b0 b1 b2 b3) (l3_0B x3 s12 s13 s15 b0 b1 b2 b3)).run = some r := by
  have ht : (turn (hds 3 65032) 0 65032 (evC byref (evCall F S7 (m + 24)) (m + 24) 0 (hds 3) lbl3_0) (l3_0H x3 s12 s13 s15 b0 b1 b2 b3) (l3_0B x3 s12 s13 s15 b0 b1 b2 b3)).run = some (.normal, [.top, .top, .top, (.d (.sl (.int .i64) x3)), .top, .top, .top, .top, .top, (.ptr 0 0), (.ptr 1 0), (.ptr 2 0), (.d (.int .i64 s12)), (.d (.int .i64 s15)), (.sr 3 0 (0 + (List.length (tickG b1 s15 (alertsG (5))).1)) 1 none), (.d (.int .i64 (IntKind.wrap .i64 (s15 + (1))))), .top, .top, .top, .top, .top, .top, .top, .top, .top, .top, .top, .top, .top, .top, .top, .top, .top, .top, .top, .top, .top, .top, .top, .top, .top, .top, .top, .top, .top, .top, .top, .top, .top, .top, .top, .top, .top, .top, .top, .top, .top, .top, .top, .top, .top, .top, .top, .top, .top, .top, .top, .top, .top, .top, .top, .top, .top, .top, .top, .top, .top, .top, .top, .top, .top, .top, .top, .top, .top, .top, .top, .top, .top, .top, .top, .top, .top, .top, .top, .top, .top, .top, .top, .top, .top, .top, .top, .top, .top, .top, .top, .top, .top, .top, .top, .top, .top, .top, .top, .top, .top, .top, .top, .top, .top, .top, .top, .top, .top, .top, .top, .top, .top, .top, .top, .top, .top, .top, .top, .top, .top, .top, .top, .top, .top, .top, .top, .top, .top, .top, .top, .top, .top, .top, .top, .top, .top, .top, .top, .top, .top, .top, .top, .top, .top], [(.cells [(.d (.int .i64 b0.1)), (.d (.int .i64 b0.2.1)), (.d (.int .i64 b0.2.2))]), (.cells [(.d (.int .i64 (tickG b1 s15 (alertsG (5))).2.2.1.1)), (.d (.int .i64 (tickG b1 s15 (alertsG (5))).2.2.1.2.1)), (.d (.int .i64 (tickG b1 s15 (alertsG (5))).2.2.1.2.2)), (.d (.bool (tickG b1 s15 (alertsG (5))).2.2.2.1)), (.d (.int .i64 (tickG b1 s15 (alertsG (5))).2.2.2.2.1)), (.d (.bool (tickG b1 s15 (alertsG (5))).2.2.2.2.2.1)), (.d (.sl .str (tickG b1 s15 (alertsG (5))).2.2.2.2.2.2.1)), (.d (.int .i64 (tickG b1 s15 (alertsG (5))).2.2.2.2.2.2.2))]), (.cells [(.d (.int .i64 b2.1.1)), (.d (.int .i64 b2.1.2.1)), (.d (.int .i64 b2.1.2.2)), (.d (.bool (b2.2.1))), (.d (.int .i64 b2.2.2.1)), (.d (.bool (b2.2.2.2.1))), (.d (.sl .str b2.2.2.2.2.1)), (.d (.int .i64 b2.2.2.2.2.2))]), (.arr .str (tickG b1 s15 (alertsG (5))).1 true)]) := M.run_of_path _ [true, true, false, false, false, false, false, false, true, true, true, true, true, true, true, false, false, false, false, false, false, true, false, true, false, false, false, true, true, true, true, true, false, true, false, false, false, false, false, false, false, false, false, false, false, false, false, false, false, true, false, true, false, false, false, true, true, true, true, true, true, false, true, true, false, true, false, true, true, true, false] _ _ (by kernel_rfl) (all_t c0 (all_t rfl (all_f c2 (all_f c3 (all_f c3 (all_f c3 (all_f c3 (all_f Bool.false_ne_true (all_t c8 (all_t c9 (all_t c9 (all_t c9 (all_t c12 (all_t c9 (all_t c9 (all_nt c15 (all_nt c15 (all_nt c15 (all_nt c15 (all_nt c15 (all_nt c15 (all_t c9 (all_nt c15 (all_t c9 (all_f c24 (all_f c24 (all_f c24 (all_t c27 (all_t c27 (all_t c27 (all_t c30 (all_t c12 (all_f c24 (all_t c27 (all_f c24 (all_f c35 (all_f c35 (all_f c35 (all_f c24 (all_f c35 (all_f c24 (all_f Bool.false_ne_true (all_f Bool.false_ne_true (all_f Bool.false_ne_true (all_f Bool.false_ne_true (all_f Bool.false_ne_true (all_f Bool.false_ne_true (all_f c24 (all_f Bool.false_ne_true (all_t c9 (all_f c24 (all_t c9 (all_f Bool.false_ne_true (all_f Bool.false_ne_true (all_f Bool.false_ne_true (all_t c27 (all_t c27 (all_t c27 (all_t c27 (all_t c27 (all_t c27 (all_f Bool.false_ne_true (all_t c27 (all_t c9 (all_f Bool.false_ne_true (all_t c9 (all_f c66 (all_t c9 (all_t c68 (all_t rfl (all_nt c70 all_nil)))))))))))))))))))))))))))))))))))))))))))))))))))))))))))))))))))))))
  refine turns_step ht (turns_eq ?_ ?_ ih)
  · unfold l3_0H
    simp
  · unfold l3_0B
    simp
set_option maxHeartbeats 20000000 in
theorem l3_0_w55 (m n : Nat) (x3 : List Int) (s12 : Int) (s13 : Int) (s15 : Int) (b0 : Int × Int × Int) (b1 : (Int × Int × Int) × Bool × Int × Bool × (List (List UInt8)) × Int) (b2 : (Int × Int × Int) × Bool × Int × Bool × (List (List UInt8)) × Int) (b3 : List (List UInt8)) (r : AEx × Env × Boxes) (c0 : decide (s15 < 60) = true) (c2 : ¬ decide (s15 < (((List.length x3) : Nat) : Int)) = true) (c3 : ¬ decide (s12 < 0) = true) (c8 : tickPre b1 s15 (alertsG (5)) = true) (c9 : (tickG b1 s15 (alertsG (5))).2.1 = true) (c12 : decide (List.length (tickG b1 s15 (alertsG (5))).1 < 4611686018427387904) = true) (c15 : ((show List (List UInt8) from (tickG b1 s15 (alertsG (5))).1) == (alertsG (5))) = true) (c24 : ¬ decide (s15 < (IntKind.wrap .i64 (s12 + b0.1))) = true) (c27 : decide (s13 ≥ 0) = true) (c30 : decide ((0 + (List.length b3)) ≤ (List.length b3)) = true) (c35 : ¬ ((show List (List UInt8) from (tickG b1 s15 (alertsG (5))).1) == (List.take (List.length b3) (List.drop 0 b3))) = true) (c66 : ¬ decide (s15 < (IntKind.wrap .i64 (s13 + b0.2.1))) = true) (c68 : decide (((0 + (List.length (tickG b1 s15 (alertsG (5))).1)) * 16) ≤ 70368744177664) = true) (c70 : ¬ (tickG b1 s15 (alertsG (5))).2.2.2.1 = true) (ih : (turns (hds 3 65032) 0 65032 (evC byref (evCall F S7 (m + 24)) (m + 24) 0 (hds 3) lbl3_0) n (l3_0H x3 ((-1)) ((-1)) ((IntKind.wrap .i64 (s15 + (1)))) b0 ((tickG b1 s15 (alertsG (5))).2.2) b2 ((tickG b1 s15 (alertsG (5))).1)) (l3_0B x3 ((-1)) ((-1)) ((IntKind.wrap .i64 (s15 + (1)))) b0 ((tickG b1 s15 (alertsG (5))).2.2) b2 ((tickG b1 s15 (alertsG (5))).1))).run = some r) : (turns (hds 3 65032) 0 65032 (evC byref (evCall F S7 (m + 24)) (m + 24) 0 (hds 3) lbl3_0) (n + 1) (l3_0H x3 s12 s13 s15 b0 b1 b2 b3) (l3_0B x3 s12 s13 s15 b0 b1 b2 b3)).run = some r := by
  have ht : (turn (hds 3 65032) 0 65032 (evC byref (evCall F S7 (m + 24)) (m + 24) 0 (hds 3) lbl3_0) (l3_0H x3 s12 s13 s15 b0 b1 b2 b3) (l3_0B x3 s12 s13 s15 b0 b1 b2 b3)).run = some (.normal, [.top, .top, .top, (.d (.sl (.int .i64) x3)), .top, .top, .top, .top, .top, (.ptr 0 0), (.ptr 1 0), (.ptr 2 0), (.d (.int .i64 (-1))), (.d (.int .i64 (-1))), (.sr 3 0 (0 + (List.length (tickG b1 s15 (alertsG (5))).1)) 1 none), (.d (.int .i64 (IntKind.wrap .i64 (s15 + (1))))), .top, .top, .top, .top, .top, .top, .top, .top, .top, .top, .top, .top, .top, .top, .top, .top, .top, .top, .top, .top, .top, .top, .top, .top, .top, .top, .top, .top, .top, .top, .top, .top, .top, .top, .top, .top, .top, .top, .top, .top, .top, .top, .top, .top, .top, .top, .top, .top, .top, .top, .top, .top, .top, .top, .top, .top, .top, .top, .top, .top, .top, .top, .top, .top, .top, .top, .top, .top, .top, .top, .top, .top, .top, .top, .top, .top, .top, .top, .top, .top, .top, .top, .top, .top, .top, .top, .top, .top, .top, .top, .top, .top, .top, .top, .top, .top, .top, .top, .top, .top, .top, .top, .top, .top, .top, .top, .top, .top, .top, .top, .top, .top, .top, .top, .top, .top, .top, .top, .top, .top, .top, .top, .top, .top, .top, .top, .top, .top, .top, .top, .top, .top, .top, .top, .top, .top, .top, .top, .top, .top, .top, .top, .top, .top, .top], [(.cells [(.d (.int .i64 b0.1)), (.d (.int .i64 b0.2.1)), (.d (.int .i64 b0.2.2))]), (.cells [(.d (.int .i64 (tickG b1 s15 (alertsG (5))).2.2.1.1)), (.d (.int .i64 (tickG b1 s15 (alertsG (5))).2.2.1.2.1)), (.d (.int .i64 (tickG b1 s15 (alertsG (5))).2.2.1.2.2)), (.d (.bool (tickG b1 s15 (alertsG (5))).2.2.2.1)), (.d (.int .i64 (tickG b1 s15 (alertsG (5))).2.2.2.2.1)), (.d (.bool (tickG b1 s15 (alertsG (5))).2.2.2.2.2.1)), (.d (.sl .str (tickG b1 s15 (alertsG (5))).2.2.2.2.2.2.1)), (.d (.int .i64 (tickG b1 s15 (alertsG (5))).2.2.2.2.2.2.2))]), (.cells [(.d (.int .i64 b2.1.1)), (.d (.int .i64 b2.1.2.1)), (.d (.int .i64 b2.1.2.2)), (.d (.bool (b2.2.1))), (.d (.int .i64 b2.2.2.1)), (.d (.bool (b2.2.2.2.1))), (.d (.sl .str b2.2.2.2.2.1)), (.d (.int .i64 b2.2.2.2.2.2))]), (.arr .str (tickG b1 s15 (alertsG (5))).1 true)]) := M.run_of_path _ [true, true, false, false, false, false, false, false, true, true, true, true, true, true, true, false, false, false, false, false, false, true, false, true, false, false, false, true, true, true, true, true, false, true, false, false, false, false, false, false, false, false, false, false, false, false, false, false, false, true, false, true, false, false, false, true, true, true, true, true, true, false, true, true, false, true, false, true, true, true, true] _ _ (by kernel_rfl) (all_t c0 (all_t rfl (all_f c2 (all_f c3 (all_f c3 (all_f c3 (all_f c3 (all_f Bool.false_ne_true (all_t c8 (all_t c9 (all_t c9 (all_t c9 (all_t c12 (all_t c9 (all_t c9 (all_nt c15 (all_nt c15 (all_nt c15 (all_nt c15 (all_nt c15 (all_nt c15 (all_t c9 (all_nt c15 (all_t c9 (all_f c24 (all_f c24 (all_f c24 (all_t c27 (all_t c27 (all_t c27 (all_t c30 (all_t c12 (all_f c24 (all_t c27 (all_f c24 (all_f c35 (all_f c35 (all_f c35 (all_f c24 (all_f c35 (all_f c24 (all_f Bool.false_ne_true (all_f Bool.false_ne_true (all_f Bool.false_ne_true (all_f Bool.false_ne_true (all_f Bool.false_ne_true (all_f Bool.false_ne_true (all_f c24 (all_f Bool.false_ne_true (all_t c9 (all_f c24 (all_t c9 (all_f Bool.false_ne_true (all_f Bool.false_ne_true (all_f Bool.false_ne_true (all_t c27 (all_t c27 (all_t c27 (all_t c27 (all_t c27 (all_t c27 (all_f Bool.false_ne_true (all_t c27 (all_t c9 (all_f Bool.false_ne_true (all_t c9 (all_f c66 (all_t c9 (all_t c68 (all_t rfl (all_nf c70 all_nil)))))))))))))))))))))))))))))))))))))))))))))))))))))))))))))))))))))))
  refine turns_step ht (turns_eq ?_ ?_ ih)
  · unfold l3_0H
    simp
  · unfold l3_0B
    simp
set_option maxHeartbeats 20000000 in
theorem l3_0_w56 (m n : Nat) (x3 : List Int) (s12 : Int) (s13 : Int) (s15 : Int) (b0 : Int × Int × Int) (b1 : (Int × Int × Int) × Bool × Int × Bool × (List (List UInt8)) × Int) (b2 : (Int × Int × Int) × Bool × Int × Bool × (List (List UInt8)) × Int) (b3 : List (List UInt8)) (r : AEx × Env × Boxes) (c0 : decide (s15 < 60) = true) (c2 : ¬ decide (s15 < (((List.length x3) : Nat) : Int)) = true) (c3 : ¬ decide (s12 < 0) = true) (c8 : tickPre b1 s15 (alertsG (5)) = true) (c9 : (tickG b1 s15 (alertsG (5))).2.1 = true) (c12 : decide (List.length (tickG b1 s15 (alertsG (5))).1 < 4611686018427387904) = true) (c15 : ((show List (List UInt8) from (tickG b1 s15 (alertsG (5))).1) == (alertsG (5))) = true) (c24 : ¬ decide (s15 < (IntKind.wrap .i64 (s12 + b0.1))) = true) (c27 : ¬ decide (s13 ≥ 0) = true) (c66 : decide (((0 + (List.length (tickG b1 s15 (alertsG (5))).1)) * 16) ≤ 70368744177664) = true) (c68 : (tickG b1 s15 (alertsG (5))).2.2.2.1 = true) (ih : (turns (hds 3 65032) 0 65032 (evC byref (evCall F S7 (m + 24)) (m + 24) 0 (hds 3) lbl3_0) n (l3_0H x3 s12 s15 ((IntKind.wrap .i64 (s15 + (1)))) b0 ((tickG b1 s15 (alertsG (5))).2.2) b2 ((tickG b1 s15 (alertsG (5))).1)) (l3_0B x3 s12 s15 ((IntKind.wrap .i64 (s15 + (1)))) b0 ((tickG b1 s15 (alertsG (5))).2.2) b2 ((tickG b1 s15 (alertsG (5))).1))).run = some r) : (turns (hds 3 65032) 0 65032 (evC byref (evCall F S7 (m + 24)) (m + 24) 0 (hds 3) lbl3_0) (n + 1) (l3_0H x3 s12 s13 s15 b0 b1 b2 b3) (l3_0B x3 s12 s13 s15 b0 b1 b2 b3)).run = some r := by
  have ht : (turn (hds 3 65032) 0 65032 (evC byref (evCall F S7 (m + 24)) (m + 24) 0 (hds 3) lbl3_0) (l3_0H x3 s12 s13 s15 b0 b1 b2 b3) (l3_0B x3 s12 s13 s15 b0 b1 b2 b3)).run = some (.normal, [.top, .top, .top, (.d (.sl (.int .i64) x3)), .top, .top, .top, .top, .top, (.ptr 0 0), (.ptr 1 0), (.ptr 2 0), (.d (.int .i64 s12)), (.d (.int .i64 s15)), (.sr 3 0 (0 + (List.length (tickG b1 s15 (alertsG (5))).1)) 1 none), (.d (.int .i64 (IntKind.wrap .i64 (s15 + (1))))), .top, .top, .top, .top, .top, .top, .top, .top, .top, .top, .top, .top, .top, .top, .top, .top, .top, .top, .top, .top, .top, .top, .top, .top, .top, .top, .top, .top, .top, .top, .top, .top, .top, .top, .top, .top, .top, .top, .top, .top, .top, .top, .top, .top, .top, .top, .top, .top, .top, .top, .top, .top, .top, .top, .top, .top, .top, .top, .top, .top, .top, .top, .top, .top, .top, .top, .top, .top, .top, .top, .top, .top, .top, .top, .top, .top, .top, .top, .top, .top, .top, .top, .top, .top, .top, .top, .top, .top, .top, .top, .top, .top, .top, .top, .top, .top, .top, .top, .top, .top, .top, .top, .top, .top, .top, .top, .top, .top, .top, .top, .top, .top, .top, .top, .top, .top, .top, .top, .top, .top, .top, .top, .top, .top, .top, .top, .top, .top, .top, .top, .top, .top, .top, .top, .top, .top, .top, .top, .top, .top, .top, .top, .top, .top, .top], [(.cells [(.d (.int .i64 b0.1)), (.d (.int .i64 b0.2.1)), (.d (.int .i64 b0.2.2))]), (.cells [(.d (.int .i64 (tickG b1 s15 (alertsG (5))).2.2.1.1)), (.d (.int .i64 (tickG b1 s15 (alertsG (5))).2.2.1.2.1)), (.d (.int .i64 (tickG b1 s15 (alertsG (5))).2.2.1.2.2)), (.d (.bool (tickG b1 s15 (alertsG (5))).2.2.2.1)), (.d (.int .i64 (tickG b1 s15 (alertsG (5))).2.2.2.2.1)), (.d (.bool (tickG b1 s15 (alertsG (5))).2.2.2.2.2.1)), (.d (.sl .str (tickG b1 s15 (alertsG (5))).2.2.2.2.2.2.1)), (.d (.int .i64 (tickG b1 s15 (alertsG (5))).2.2.2.2.2.2.2))]), (.cells [(.d (.int .i64 b2.1.1)), (.d (.int .i64 b2.1.2.1)), (.d (.int .i64 b2.1.2.2)), (.d (.bool (b2.2.1))), (.d (.int .i64 b2.2.2.1)), (.d (.bool (b2.2.2.2.1))), (.d (.sl .str b2.2.2.2.2.1)), (.d (.int .i64 b2.2.2.2.2.2))]), (.arr .str (tickG b1 s15 (alertsG (5))).1 true)]) := M.run_of_path _ [true, true, false, false, false, false, false, false, true, true, true, true, true, true, true, false, false, false, false, false, false, true, false, true, false, false, false, false, false, false, false, false, false, false, false, false, false, false, false, false, false, false, false, false, false, false, false, true, false, true, false, false, false, false, false, false, false, false, false, false, false, true, false, true, false, true, true, true, false] _ _ (by kernel_rfl) (all_t c0 (all_t rfl (all_f c2 (all_f c3 (all_f c3 (all_f c3 (all_f c3 (all_f Bool.false_ne_true (all_t c8 (all_t c9 (all_t c9 (all_t c9 (all_t c12 (all_t c9 (all_t c9 (all_nt c15 (all_nt c15 (all_nt c15 (all_nt c15 (all_nt c15 (all_nt c15 (all_t c9 (all_nt c15 (all_t c9 (all_f c24 (all_f c24 (all_f c24 (all_f c27 (all_f c27 (all_f c27 (all_f c24 (all_f c27 (all_f c24 (all_f Bool.false_ne_true (all_f Bool.false_ne_true (all_f Bool.false_ne_true (all_f c24 (all_f Bool.false_ne_true (all_f c24 (all_f Bool.false_ne_true (all_f Bool.false_ne_true (all_f Bool.false_ne_true (all_f Bool.false_ne_true (all_f Bool.false_ne_true (all_f Bool.false_ne_true (all_f c24 (all_f Bool.false_ne_true (all_t c9 (all_f c24 (all_t c9 (all_f Bool.false_ne_true (all_f Bool.false_ne_true (all_f Bool.false_ne_true (all_f c27 (all_f c27 (all_f c27 (all_f c27 (all_f c27 (all_f c27 (all_f Bool.false_ne_true (all_f c27 (all_t c9 (all_f Bool.false_ne_true (all_t c9 (all_f Bool.false_ne_true (all_t c9 (all_t c66 (all_t rfl (all_nt c68 all_nil)))))))))))))))))))))))))))))))))))))))))))))))))))))))))))))))))))))
  refine turns_step ht (turns_eq ?_ ?_ ih)
  · unfold l3_0H
    simp
  · unfold l3_0B
    simp

set_option maxHeartbeats 20000000 in
theorem l3_0_w57 (m n : Nat) (x3 : List Int) (s12 : Int) (s13 : Int) (s15 : Int) (b0 : Int × Int × Int) (b1 : (Int × Int × Int) × Bool × Int × Bool × (List (List UInt8)) × Int) (b2 : (Int × Int × Int) × Bool × Int × Bool × (List (List UInt8)) × Int) (b3 : List (List UInt8)) (r : AEx × Env × Boxes) (c0 : decide (s15 < 60) = true) (c2 : ¬ decide (s15 < (((List.length x3) : Nat) : Int)) = true) (c3 : ¬ decide (s12 < 0) = true) (c8 : tickPre b1 s15 (alertsG (5)) = true) (c9 : (tickG b1 s15 (alertsG (5))).2.1 = true) (c12 : decide (List.length (tickG b1 s15 (alertsG (5))).1 < 4611686018427387904) = true) (c15 : ((show List (List UInt8) from (tickG b1 s15 (alertsG (5))).1) == (alertsG (5))) = true) (c24 : ¬ decide (s15 < (IntKind.wrap .i64 (s12 + b0.1))) = true) (c27 : ¬ decide (s13 ≥ 0) = true) (c66 : decide (((0 + (List.length (tickG b1 s15 (alertsG (5))).1)) * 16) ≤ 70368744177664) = true) (c68 : ¬ (tickG b1 s15 (alertsG (5))).2.2.2.1 = true) (ih : (turns (hds 3 65032) 0 65032 (evC byref (evCall F S7 (m + 24)) (m + 24) 0 (hds 3) lbl3_0) n (l3_0H x3 ((-1)) ((-1)) ((IntKind.wrap .i64 (s15 + (1)))) b0 ((tickG b1 s15 (alertsG (5))).2.2) b2 ((tickG b1 s15 (alertsG (5))).1)) (l3_0B x3 ((-1)) ((-1)) ((IntKind.wrap .i64 (s15 + (1)))) b0 ((tickG b1 s15 (alertsG (5))).2.2) b2 ((tickG b1 s15 (alertsG (5))).1))).run = some r) : (turns (hds 3 65032) 0 65032 (evC byref (evCall F S7 (m + 24)) (m + 24) 0 (hds 3) lbl3_0) (n + 1) (l3_0H x3 s12 s13 s15 b0 b1 b2 b3) (l3_0B x3 s12 s13 s15 b0 b1 b2 b3)).run = some r := by
  have ht : (turn (hds 3 65032) 0 65032 (evC byref (evCall F S7 (m + 24)) (m + 24) 0 (hds 3) lbl3_0) (l3_0H x3 s12 s13 s15 b0 b1 b2 b3) (l3_0B x3 s12 s13 s15 b0 b1 b2 b3)).run = some (.normal, [.top, .top, .top, (.d (.sl (.int .i64) x3)), .top, .top, .top, .top, .top, (.ptr 0 0), (.ptr 1 0), (.ptr 2 0), (.d (.int .i64 (-1))), (.d (.int .i64 (-1))), (.sr 3 0 (0 + (List.length (tickG b1 s15 (alertsG (5))).1)) 1 none), (.d (.int .i64 (IntKind.wrap .i64 (s15 + (1))))), .top, .top, .top, .top, .top, .top, .top, .top, .top, .top, .top, .top, .top, .top, .top, .top, .top, .top, .top, .top, .top, .top, .top, .top, .top, .top, .top, .top, .top, .top, .top, .top, .top, .top, .top, .top, .top, .top, .top, .top, .top, .top, .top, .top, .top, .top, .top, .top, .top, .top, .top, .top, .top, .top, .top, .top, .top, .top, .top, .top, .top, .top, .top, .top, .top, .top, .top, .top, .top, .top, .top, .top, .top, .top, .top, .top, .top, .top, .top, .top, .top, .top, .top, .top, .top, .top, .top, .top, .top, .top, .top, .top, .top, .top, .top, .top, .top, .top, .top, .top, .top, .top, .top, .top, .top, .top, .top, .top, .top, .top, .top, .top, .top, .top, .top, .top, .top, .top, .top, .top, .top, .top, .top, .top, .top, .top, .top, .top, .top, .top, .top, .top, .top, .top, .top, .top, .top, .top, .top, .top, .top, .top, .top, .top, .top], [(.cells [(.d (.int .i64 b0.1)), (.d (.int .i64 b0.2.1)), (.d (.int .i64 b0.2.2))]), (.cells [(.d (.int .i64 (tickG b1 s15 (alertsG (5))).2.2.1.1)), (.d (.int .i64 (tickG b1 s15 (alertsG (5))).2.2.1.2.1)), (.d (.int .i64 (tickG b1 s15 (alertsG (5))).2.2.1.2.2)), (.d (.bool (tickG b1 s15 (alertsG (5))).2.2.2.1)), (.d (.int .i64 (tickG b1 s15 (alertsG (5))).2.2.2.2.1)), (.d (.bool (tickG b1 s15 (alertsG (5))).2.2.2.2.2.1)), (.d (.sl .str (tickG b1 s15 (alertsG (5))).2.2.2.2.2.2.1)), (.d (.int .i64 (tickG b1 s15 (alertsG (5))).2.2.2.2.2.2.2))]), (.cells [(.d (.int .i64 b2.1.1)), (.d (.int .i64 b2.1.2.1)), (.d (.int .i64 b2.1.2.2)), (.d (.bool (b2.2.1))), (.d (.int .i64 b2.2.2.1)), (.d (.bool (b2.2.2.2.1))), (.d (.sl .str b2.2.2.2.2.1)), (.d (.int .i64 b2.2.2.2.2.2))]), (.arr .str (tickG b1 s15 (alertsG (5))).1 true)]) := M.run_of_path _ [true, true, false, false, false, false, false, false, true, true, true, true, true, true, true, false, false, false, false, false, false, true, false, true, false, false, false, false, false, false, false, false, false, false, false, false, false, false, false, false, false, false, false, false, false, false, false, true, false, true, false, false, false, false, false, false, false, false, false, false, false, true, false, true, false, true, true, true, true] _ _ (by kernel_rfl) (all_t c0 (all_t rfl (all_f c2 (all_f c3 (all_f c3 (all_f c3 (all_f c3 (all_f Bool.false_ne_true (all_t c8 (all_t c9 (all_t c9 (all_t c9 (all_t c12 (all_t c9 (all_t c9 (all_nt c15 (all_nt c15 (all_nt c15 (all_nt c15 (all_nt c15 (all_nt c15 (all_t c9 (all_nt c15 (all_t c9 (all_f c24 (all_f c24 (all_f c24 (all_f c27 (all_f c27 (all_f c27 (all_f c24 (all_f c27 (all_f c24 (all_f Bool.false_ne_true (all_f Bool.false_ne_true (all_f Bool.false_ne_true (all_f c24 (all_f Bool.false_ne_true (all_f c24 (all_f Bool.false_ne_true (all_f Bool.false_ne_true (all_f Bool.false_ne_true (all_f Bool.false_ne_true (all_f Bool.false_ne_true (all_f Bool.false_ne_true (all_f c24 (all_f Bool.false_ne_true (all_t c9 (all_f c24 (all_t c9 (all_f Bool.false_ne_true (all_f Bool.false_ne_true (all_f Bool.false_ne_true (all_f c27 (all_f c27 (all_f c27 (all_f c27 (all_f c27 (all_f c27 (all_f Bool.false_ne_true (all_f c27 (all_t c9 (all_f Bool.false_ne_true (all_t c9 (all_f Bool.false_ne_true (all_t c9 (all_t c66 (all_t rfl (all_nf c68 all_nil)))))))))))))))))))))))))))))))))))))))))))))))))))))))))))))))))))))
  refine turns_step ht (turns_eq ?_ ?_ ih)
  · unfold l3_0H
    simp
  · unfold l3_0B
    simp
set_option maxHeartbeats 20000000 in
theorem l3_0_w58 (m n : Nat) (x3 : List Int) (s12 : Int) (s13 : Int) (s15 : Int) (b0 : Int × Int × Int) (b1 : (Int × Int × Int) × Bool × Int × Bool × (List (List UInt8)) × Int) (b2 : (Int × Int × Int) × Bool × Int × Bool × (List (List UInt8)) × Int) (b3 : List (List UInt8)) (r : AEx × Env × Boxes) (c0 : decide (s15 < 60) = true) (c2 : ¬ decide (s15 < (((List.length x3) : Nat) : Int)) = true) (c3 : ¬ decide (s12 < 0) = true) (c8 : tickPre b1 s15 (alertsG (5)) = true) (c9 : ¬ (tickG b1 s15 (alertsG (5))).2.1 = true) (c22 : (tickG b1 s15 (alertsG (5))).2.2.2.1 = true) (ih : (turns (hds 3 65032) 0 65032 (evC byref (evCall F S7 (m + 24)) (m + 24) 0 (hds 3) lbl3_0) n (l3_0H x3 s12 s13 ((IntKind.wrap .i64 (s15 + (1)))) b0 ((tickG b1 s15 (alertsG (5))).2.2) b2 b3) (l3_0B x3 s12 s13 ((IntKind.wrap .i64 (s15 + (1)))) b0 ((tickG b1 s15 (alertsG (5))).2.2) b2 b3)).run = some r) : (turns (hds 3 65032) 0 65032 (evC byref (evCall F S7 (m + 24)) (m + 24) 0 (hds 3) lbl3_0) (n + 1) (l3_0H x3 s12 s13 s15 b0 b1 b2 b3) (l3_0B x3 s12 s13 s15 b0 b1 b2 b3)).run = some r := by
  exact turns_step (M.run_of_path _ [true, true, false, false, false, false, false, false, true, false, false, false, false, false, false, false, false, false, false, false, false, false, false] _ _ (by kernel_rfl) (all_t c0 (all_t rfl (all_f c2 (all_f c3 (all_f c3 (all_f c3 (all_f c3 (all_f Bool.false_ne_true (all_t c8 (all_f c9 (all_f c9 (all_f c9 (all_f c9 (all_f c9 (all_f c9 (all_f c9 (all_f c9 (all_f c9 (all_f c9 (all_f c9 (all_f Bool.false_ne_true (all_f c9 (all_nt c22 all_nil)))))))))))))))))))))))) ih
set_option maxHeartbeats 20000000 in
theorem l3_0_w59 (m n : Nat) (x3 : List Int) (s12 : Int) (s13 : Int) (s15 : Int) (b0 : Int × Int × Int) (b1 : (Int × Int × Int) × Bool × Int × Bool × (List (List UInt8)) × Int) (b2 : (Int × Int × Int) × Bool × Int × Bool × (List (List UInt8)) × Int) (b3 : List (List UInt8)) (r : AEx × Env × Boxes) (c0 : decide (s15 < 60) = true) (c2 : ¬ decide (s15 < (((List.length x3) : Nat) : Int)) = true) (c3 : ¬ decide (s12 < 0) = true) (c8 : tickPre b1 s15 (alertsG (5)) = true) (c9 : ¬ (tickG b1 s15 (alertsG (5))).2.1 = true) (c22 : ¬ (tickG b1 s15 (alertsG (5))).2.2.2.1 = true) (ih : (turns (hds 3 65032) 0 65032 (evC byref (evCall F S7 (m + 24)) (m + 24) 0 (hds 3) lbl3_0) n (l3_0H x3 ((-1)) ((-1)) ((IntKind.wrap .i64 (s15 + (1)))) b0 ((tickG b1 s15 (alertsG (5))).2.2) b2 b3) (l3_0B x3 ((-1)) ((-1)) ((IntKind.wrap .i64 (s15 + (1)))) b0 ((tickG b1 s15 (alertsG (5))).2.2) b2 b3)).run = some r) : (turns (hds 3 65032) 0 65032 (evC byref (evCall F S7 (m + 24)) (m + 24) 0 (hds 3) lbl3_0) (n + 1) (l3_0H x3 s12 s13 s15 b0 b1 b2 b3) (l3_0B x3 s12 s13 s15 b0 b1 b2 b3)).run = some r := by
  exact turns_step (M.run_of_path _ [true, true, false, false, false, false, false, false, true, false, false, false, false, false, false, false, false, false, false, false, false, false, true] _ _ (by kernel_rfl) (all_t c0 (all_t rfl (all_f c2 (all_f c3 (all_f c3 (all_f c3 (all_f c3 (all_f Bool.false_ne_true (all_t c8 (all_f c9 (all_f c9 (all_f c9 (all_f c9 (all_f c9 (all_f c9 (all_f c9 (all_f c9 (all_f c9 (all_f c9 (all_f c9 (all_f Bool.false_ne_true (all_f c9 (all_nf c22 all_nil)))))))))))))))))))))))) ih
set_option maxHeartbeats 20000000 in
theorem l3_0_w60 (m n : Nat) (x3 : List Int) (s12 : Int) (s13 : Int) (s15 : Int) (b0 : Int × Int × Int) (b1 : (Int × Int × Int) × Bool × Int × Bool × (List (List UInt8)) × Int) (b2 : (Int × Int × Int) × Bool × Int × Bool × (List (List UInt8)) × Int) (b3 : List (List UInt8)) (c0 : ¬ decide (s15 < 60) = true) : (turns (hds 3 65032) 0 65032 (evC byref (evCall F S7 (m + 24)) (m + 24) 0 (hds 3) lbl3_0) (n + 1) (l3_0H x3 s12 s13 s15 b0 b1 b2 b3) (l3_0B x3 s12 s13 s15 b0 b1 b2 b3)).run = some (.exit 0, [.top, .top, .top, (.d (.sl (.int .i64) x3)), .top, .top, .top, .top, .top, (.ptr 0 0), (.ptr 1 0), (.ptr 2 0), (.d (.int .i64 s12)), (.d (.int .i64 s13)), (.sr 3 0 (List.length b3) 1 none), (.d (.int .i64 s15)), .top, .top, .top, .top, .top, .top, .top, .top, .top, .top, .top, .top, .top, .top, .top, .top, .top, .top, .top, .top, .top, (.d (.int .i64 s15)), (.d (.bool (decide (s15 < 60)))), .top, .top, .top, .top, .top, .top, .top, .top, .top, .top, .top, .top, .top, .top, .top, .top, .top, .top, .top, .top, .top, .top, .top, .top, .top, .top, .top, .top, .top, .top, .top, .top, .top, .top, .top, .top, .top, .top, .top, .top, .top, .top, .top, .top, .top, .top, .top, .top, .top, .top, .top, .top, .top, .top, .top, .top, .top, .top, .top, .top, .top, .top, .top, .top, .top, .top, .top, .top, .top, .top, .top, .top, .top, .top, .top, .top, .top, .top, .top, .top, .top, .top, .top, .top, .top, .top, .top, .top, .top, .top, .top, .top, .top, .top, .top, .top, .top, .top, .top, .top, .top, .top, .top, .top, .top, .top, .top, .top, .top, .top, .top, .top, .top, .top, .top, .top, .top, .top, .top, .top, .top, .top], [(.cells [(.d (.int .i64 b0.1)), (.d (.int .i64 b0.2.1)), (.d (.int .i64 b0.2.2))]), (.cells [(.d (.int .i64 b1.1.1)), (.d (.int .i64 b1.1.2.1)), (.d (.int .i64 b1.1.2.2)), (.d (.bool (b1.2.1))), (.d (.int .i64 b1.2.2.1)), (.d (.bool (b1.2.2.2.1))), (.d (.sl .str b1.2.2.2.2.1)), (.d (.int .i64 b1.2.2.2.2.2))]), (.cells [(.d (.int .i64 b2.1.1)), (.d (.int .i64 b2.1.2.1)), (.d (.int .i64 b2.1.2.2)), (.d (.bool (b2.2.1))), (.d (.int .i64 b2.2.2.1)), (.d (.bool (b2.2.2.2.1))), (.d (.sl .str b2.2.2.2.2.1)), (.d (.int .i64 b2.2.2.2.2.2))]), (.arr .str b3 true)]) := by
  exact turns_last (by simp) (M.run_of_path _ [false] _ _ (by kernel_rfl) (all_f c0 all_nil)) 

set_option maxHeartbeats 20000000 in
theorem l3_0_step (m n : Nat) (ih : ∀ (x3 : List Int) (s12 : Int) (s13 : Int) (s15 : Int) (b0 : Int × Int × Int) (b1 : (Int × Int × Int) × Bool × Int × Bool × (List (List UInt8)) × Int) (b2 : (Int × Int × Int) × Bool × Int × Bool × (List (List UInt8)) × Int) (b3 : List (List UInt8)) (q : Nat × Int × Int × Int × ((Int × Int × Int) × Bool × Int × Bool × (List (List UInt8)) × Int) × (List (List UInt8))), l3_0 m n x3 s12 s13 s15 b0 b1 b2 b3 = some q → (turns (hds 3 65032) 0 65032 (evC byref (evCall F S7 (m + 24)) (m + 24) 0 (hds 3) lbl3_0) n (l3_0H x3 s12 s13 s15 b0 b1 b2 b3) (l3_0B x3 s12 s13 s15 b0 b1 b2 b3)).run = some (l3_0E (x3) (q.2.1) (q.2.2.1) (q.2.2.2.1) (b0) (q.2.2.2.2.1) (b2) (q.2.2.2.2.2) q.1)) (x3 : List Int) (s12 : Int) (s13 : Int) (s15 : Int) (b0 : Int × Int × Int) (b1 : (Int × Int × Int) × Bool × Int × Bool × (List (List UInt8)) × Int) (b2 : (Int × Int × Int) × Bool × Int × Bool × (List (List UInt8)) × Int) (b3 : List (List UInt8)) (q : Nat × Int × Int × Int × ((Int × Int × Int) × Bool × Int × Bool × (List (List UInt8)) × Int) × (List (List UInt8))) (h : l3_0 m (n + 1) x3 s12 s13 s15 b0 b1 b2 b3 = some q) : (turns (hds 3 65032) 0 65032 (evC byref (evCall F S7 (m + 24)) (m + 24) 0 (hds 3) lbl3_0) (n + 1) (l3_0H x3 s12 s13 s15 b0 b1 b2 b3) (l3_0B x3 s12 s13 s15 b0 b1 b2 b3)).run = some (l3_0E (x3) (q.2.1) (q.2.2.1) (q.2.2.2.1) (b0) (q.2.2.2.2.1) (b2) (q.2.2.2.2.2) q.1) := by
  rw [l3_0] at h
  refine ite_cases h (fun c0 h => ?_) (fun c0 h => ?_)
  · skip
    refine ite_cases h (fun c2 h => ?_) (fun c2 h => ?_)
    · skip
      refine ite_cases h (fun c3 h => ?_) (fun c3 h => ?_)
      · skip
        refine ite_cases h (fun c7 h => ?_) (fun c7 h => ?_)
        · skip
          refine ite_cases h (fun c11 h => ?_) (fun c11 h => ?_)
          · skip
            refine ite_cases h (fun c12 h => ?_) (fun c12 h => ?_)
            · skip
              refine ite_cases h (fun c13 h => ?_) (fun c13 h => ?_)
              · skip
                refine ite_cases h (fun c16 h => ?_) (fun c16 h => ?_)
                · skip
                  refine ite_cases h (fun c19 h => ?_) (fun c19 h => ?_)
                  · skip
                    refine ite_cases h (fun c28 h => ?_) (fun c28 h => ?_)
                    · skip
                      cases h
                    · skip
                      refine ite_cases h (fun c31 h => ?_) (fun c31 h => ?_)
                      · skip
                        refine ite_cases h (fun c34 h => ?_) (fun c34 h => ?_)
                        · skip
                          refine ite_cases h (fun c39 h => ?_) (fun c39 h => ?_)
                          · skip
                            refine ite_cases h (fun c45 h => ?_) (fun c45 h => ?_)
                            · skip
                              refine ite_cases h (fun c56 h => ?_) (fun c56 h => ?_)
                              · skip
                                cases h
                              · skip
                                refine ite_cases h (fun c70 h => ?_) (fun c70 h => ?_)
                                · skip
                                  cases h
                                · skip
                                  refine ite_cases h (fun c72 h => ?_) (fun c72 h => ?_)
                                  · skip
                                    refine ite_cases h (fun c74 h => ?_) (fun c74 h => ?_)
                                    · skip
                                      exact l3_0_w0 m n x3 s12 s13 s15 b0 b1 b2 b3 _ c0 c2 c3 c7 c11 c12 c13 c16 c19 c28 c31 c34 c39 c45 c56 c70 c72 c74 (ih _ _ _ _ _ _ _ _ q h)
                                    · skip
                                      exact l3_0_w1 m n x3 s12 s13 s15 b0 b1 b2 b3 _ c0 c2 c3 c7 c11 c12 c13 c16 c19 c28 c31 c34 c39 c45 c56 c70 c72 c74 (ih _ _ _ _ _ _ _ _ q h)
                                  · skip
                                    cases h
                            · skip
                              refine ite_cases h (fun c70 h => ?_) (fun c70 h => ?_)
                              · skip
                                cases h
                              · skip
                                refine ite_cases h (fun c72 h => ?_) (fun c72 h => ?_)
                                · skip
                                  refine ite_cases h (fun c74 h => ?_) (fun c74 h => ?_)
                                  · skip
                                    exact l3_0_w2 m n x3 s12 s13 s15 b0 b1 b2 b3 _ c0 c2 c3 c7 c11 c12 c13 c16 c19 c28 c31 c34 c39 c45 c70 c72 c74 (ih _ _ _ _ _ _ _ _ q h)
                                  · skip
                                    exact l3_0_w3 m n x3 s12 s13 s15 b0 b1 b2 b3 _ c0 c2 c3 c7 c11 c12 c13 c16 c19 c28 c31 c34 c39 c45 c70 c72 c74 (ih _ _ _ _ _ _ _ _ q h)
                                · skip
                                  cases h
                          · skip
                            refine ite_cases h (fun c70 h => ?_) (fun c70 h => ?_)
                            · skip
                              cases h
                            · skip
                              refine ite_cases h (fun c72 h => ?_) (fun c72 h => ?_)
                              · skip
                                refine ite_cases h (fun c74 h => ?_) (fun c74 h => ?_)
                                · skip
                                  exact l3_0_w4 m n x3 s12 s13 s15 b0 b1 b2 b3 _ c0 c2 c3 c7 c11 c12 c13 c16 c19 c28 c31 c34 c39 c70 c72 c74 (ih _ _ _ _ _ _ _ _ q h)
                                · skip
                                  exact l3_0_w5 m n x3 s12 s13 s15 b0 b1 b2 b3 _ c0 c2 c3 c7 c11 c12 c13 c16 c19 c28 c31 c34 c39 c70 c72 c74 (ih _ _ _ _ _ _ _ _ q h)
                              · skip
                                cases h
                        · skip
                          cases h
                      · skip
                        refine ite_cases h (fun c70 h => ?_) (fun c70 h => ?_)
                        · skip
                          refine ite_cases h (fun c72 h => ?_) (fun c72 h => ?_)
                          · skip
                            exact l3_0_w6 m n x3 s12 s13 s15 b0 b1 b2 b3 _ c0 c2 c3 c7 c11 c12 c13 c16 c19 c28 c31 c70 c72 (ih _ _ _ _ _ _ _ _ q h)
                          · skip
                            exact l3_0_w7 m n x3 s12 s13 s15 b0 b1 b2 b3 _ c0 c2 c3 c7 c11 c12 c13 c16 c19 c28 c31 c70 c72 (ih _ _ _ _ _ _ _ _ q h)
                        · skip
                          cases h
                  · skip
                    cases h
                · skip
                  cases h
              · skip
                refine ite_cases h (fun c26 h => ?_) (fun c26 h => ?_)
                · skip
                  exact l3_0_w8 m n x3 s12 s13 s15 b0 b1 b2 b3 _ c0 c2 c3 c7 c11 c12 c13 c26 (ih _ _ _ _ _ _ _ _ q h)
                · skip
                  exact l3_0_w9 m n x3 s12 s13 s15 b0 b1 b2 b3 _ c0 c2 c3 c7 c11 c12 c13 c26 (ih _ _ _ _ _ _ _ _ q h)
            · skip
              cases h
          · skip
            refine ite_cases h (fun c12 h => ?_) (fun c12 h => ?_)
            · skip
              refine ite_cases h (fun c13 h => ?_) (fun c13 h => ?_)
              · skip
                refine ite_cases h (fun c16 h => ?_) (fun c16 h => ?_)
                · skip
                  refine ite_cases h (fun c19 h => ?_) (fun c19 h => ?_)
                  · skip
                    refine ite_cases h (fun c28 h => ?_) (fun c28 h => ?_)
                    · skip
                      cases h
                    · skip
                      refine ite_cases h (fun c31 h => ?_) (fun c31 h => ?_)
                      · skip
                        refine ite_cases h (fun c34 h => ?_) (fun c34 h => ?_)
                        · skip
                          refine ite_cases h (fun c39 h => ?_) (fun c39 h => ?_)
                          · skip
                            refine ite_cases h (fun c45 h => ?_) (fun c45 h => ?_)
                            · skip
                              refine ite_cases h (fun c56 h => ?_) (fun c56 h => ?_)
                              · skip
                                cases h
                              · skip
                                refine ite_cases h (fun c70 h => ?_) (fun c70 h => ?_)
                                · skip
                                  cases h
                                · skip
                                  refine ite_cases h (fun c72 h => ?_) (fun c72 h => ?_)
                                  · skip
                                    refine ite_cases h (fun c74 h => ?_) (fun c74 h => ?_)
                                    · skip
                                      exact l3_0_w10 m n x3 s12 s13 s15 b0 b1 b2 b3 _ c0 c2 c3 c7 c11 c12 c13 c16 c19 c28 c31 c34 c39 c45 c56 c70 c72 c74 (ih _ _ _ _ _ _ _ _ q h)
                                    · skip
                                      exact l3_0_w11 m n x3 s12 s13 s15 b0 b1 b2 b3 _ c0 c2 c3 c7 c11 c12 c13 c16 c19 c28 c31 c34 c39 c45 c56 c70 c72 c74 (ih _ _ _ _ _ _ _ _ q h)
                                  · skip
                                    cases h
                            · skip
                              refine ite_cases h (fun c70 h => ?_) (fun c70 h => ?_)
                              · skip
                                cases h
                              · skip
                                refine ite_cases h (fun c72 h => ?_) (fun c72 h => ?_)
                                · skip
                                  refine ite_cases h (fun c74 h => ?_) (fun c74 h => ?_)
                                  · skip
                                    exact l3_0_w12 m n x3 s12 s13 s15 b0 b1 b2 b3 _ c0 c2 c3 c7 c11 c12 c13 c16 c19 c28 c31 c34 c39 c45 c70 c72 c74 (ih _ _ _ _ _ _ _ _ q h)
                                  · skip
                                    exact l3_0_w13 m n x3 s12 s13 s15 b0 b1 b2 b3 _ c0 c2 c3 c7 c11 c12 c13 c16 c19 c28 c31 c34 c39 c45 c70 c72 c74 (ih _ _ _ _ _ _ _ _ q h)
                                · skip
                                  cases h
                          · skip
                            refine ite_cases h (fun c70 h => ?_) (fun c70 h => ?_)
                            · skip
                              cases h
                            · skip
                              refine ite_cases h (fun c72 h => ?_) (fun c72 h => ?_)
                              · skip
                                refine ite_cases h (fun c74 h => ?_) (fun c74 h => ?_)
                                · skip
                                  exact l3_0_w14 m n x3 s12 s13 s15 b0 b1 b2 b3 _ c0 c2 c3 c7 c11 c12 c13 c16 c19 c28 c31 c34 c39 c70 c72 c74 (ih _ _ _ _ _ _ _ _ q h)
                                · skip
                                  exact l3_0_w15 m n x3 s12 s13 s15 b0 b1 b2 b3 _ c0 c2 c3 c7 c11 c12 c13 c16 c19 c28 c31 c34 c39 c70 c72 c74 (ih _ _ _ _ _ _ _ _ q h)
                              · skip
                                cases h
                        · skip
                          cases h
                      · skip
                        refine ite_cases h (fun c70 h => ?_) (fun c70 h => ?_)
                        · skip
                          refine ite_cases h (fun c72 h => ?_) (fun c72 h => ?_)
                          · skip
                            exact l3_0_w16 m n x3 s12 s13 s15 b0 b1 b2 b3 _ c0 c2 c3 c7 c11 c12 c13 c16 c19 c28 c31 c70 c72 (ih _ _ _ _ _ _ _ _ q h)
                          · skip
                            exact l3_0_w17 m n x3 s12 s13 s15 b0 b1 b2 b3 _ c0 c2 c3 c7 c11 c12 c13 c16 c19 c28 c31 c70 c72 (ih _ _ _ _ _ _ _ _ q h)
                        · skip
                          cases h
                  · skip
                    cases h
                · skip
                  cases h
              · skip
                refine ite_cases h (fun c26 h => ?_) (fun c26 h => ?_)
                · skip
                  exact l3_0_w18 m n x3 s12 s13 s15 b0 b1 b2 b3 _ c0 c2 c3 c7 c11 c12 c13 c26 (ih _ _ _ _ _ _ _ _ q h)
                · skip
                  exact l3_0_w19 m n x3 s12 s13 s15 b0 b1 b2 b3 _ c0 c2 c3 c7 c11 c12 c13 c26 (ih _ _ _ _ _ _ _ _ q h)
            · skip
              cases h
        · skip
          refine ite_cases h (fun c12 h => ?_) (fun c12 h => ?_)
          · skip
            refine ite_cases h (fun c13 h => ?_) (fun c13 h => ?_)
            · skip
              refine ite_cases h (fun c16 h => ?_) (fun c16 h => ?_)
              · skip
                refine ite_cases h (fun c19 h => ?_) (fun c19 h => ?_)
                · skip
                  refine ite_cases h (fun c28 h => ?_) (fun c28 h => ?_)
                  · skip
                    cases h
                  · skip
                    refine ite_cases h (fun c31 h => ?_) (fun c31 h => ?_)
                    · skip
                      refine ite_cases h (fun c34 h => ?_) (fun c34 h => ?_)
                      · skip
                        refine ite_cases h (fun c39 h => ?_) (fun c39 h => ?_)
                        · skip
                          refine ite_cases h (fun c45 h => ?_) (fun c45 h => ?_)
                          · skip
                            refine ite_cases h (fun c56 h => ?_) (fun c56 h => ?_)
                            · skip
                              cases h
                            · skip
                              refine ite_cases h (fun c70 h => ?_) (fun c70 h => ?_)
                              · skip
                                cases h
                              · skip
                                refine ite_cases h (fun c72 h => ?_) (fun c72 h => ?_)
                                · skip
                                  refine ite_cases h (fun c74 h => ?_) (fun c74 h => ?_)
                                  · skip
                                    exact l3_0_w20 m n x3 s12 s13 s15 b0 b1 b2 b3 _ c0 c2 c3 c7 c12 c13 c16 c19 c28 c31 c34 c39 c45 c56 c70 c72 c74 (ih _ _ _ _ _ _ _ _ q h)
                                  · skip
                                    exact l3_0_w21 m n x3 s12 s13 s15 b0 b1 b2 b3 _ c0 c2 c3 c7 c12 c13 c16 c19 c28 c31 c34 c39 c45 c56 c70 c72 c74 (ih _ _ _ _ _ _ _ _ q h)
                                · skip
                                  cases h
                          · skip
                            refine ite_cases h (fun c70 h => ?_) (fun c70 h => ?_)
                            · skip
                              cases h
                            · skip
                              refine ite_cases h (fun c72 h => ?_) (fun c72 h => ?_)
                              · skip
                                refine ite_cases h (fun c74 h => ?_) (fun c74 h => ?_)
                                · skip
                                  exact l3_0_w22 m n x3 s12 s13 s15 b0 b1 b2 b3 _ c0 c2 c3 c7 c12 c13 c16 c19 c28 c31 c34 c39 c45 c70 c72 c74 (ih _ _ _ _ _ _ _ _ q h)
                                · skip
                                  exact l3_0_w23 m n x3 s12 s13 s15 b0 b1 b2 b3 _ c0 c2 c3 c7 c12 c13 c16 c19 c28 c31 c34 c39 c45 c70 c72 c74 (ih _ _ _ _ _ _ _ _ q h)
                              · skip
                                cases h
                        · skip
                          refine ite_cases h (fun c70 h => ?_) (fun c70 h => ?_)
                          · skip
                            cases h
                          · skip
                            refine ite_cases h (fun c72 h => ?_) (fun c72 h => ?_)
                            · skip
                              refine ite_cases h (fun c74 h => ?_) (fun c74 h => ?_)
                              · skip
                                exact l3_0_w24 m n x3 s12 s13 s15 b0 b1 b2 b3 _ c0 c2 c3 c7 c12 c13 c16 c19 c28 c31 c34 c39 c70 c72 c74 (ih _ _ _ _ _ _ _ _ q h)
                              · skip
                                exact l3_0_w25 m n x3 s12 s13 s15 b0 b1 b2 b3 _ c0 c2 c3 c7 c12 c13 c16 c19 c28 c31 c34 c39 c70 c72 c74 (ih _ _ _ _ _ _ _ _ q h)
                            · skip
                              cases h
                      · skip
                        cases h
                    · skip
                      refine ite_cases h (fun c70 h => ?_) (fun c70 h => ?_)
                      · skip
                        refine ite_cases h (fun c72 h => ?_) (fun c72 h => ?_)
                        · skip
                          exact l3_0_w26 m n x3 s12 s13 s15 b0 b1 b2 b3 _ c0 c2 c3 c7 c12 c13 c16 c19 c28 c31 c70 c72 (ih _ _ _ _ _ _ _ _ q h)
                        · skip
                          exact l3_0_w27 m n x3 s12 s13 s15 b0 b1 b2 b3 _ c0 c2 c3 c7 c12 c13 c16 c19 c28 c31 c70 c72 (ih _ _ _ _ _ _ _ _ q h)
                      · skip
                        cases h
                · skip
                  cases h
              · skip
                cases h
            · skip
              refine ite_cases h (fun c26 h => ?_) (fun c26 h => ?_)
              · skip
                exact l3_0_w28 m n x3 s12 s13 s15 b0 b1 b2 b3 _ c0 c2 c3 c7 c12 c13 c26 (ih _ _ _ _ _ _ _ _ q h)
              · skip
                exact l3_0_w29 m n x3 s12 s13 s15 b0 b1 b2 b3 _ c0 c2 c3 c7 c12 c13 c26 (ih _ _ _ _ _ _ _ _ q h)
          · skip
            cases h
      · skip
        cases h
    · skip
      refine ite_cases h (fun c3 h => ?_) (fun c3 h => ?_)
      · skip
        refine ite_cases h (fun c7 h => ?_) (fun c7 h => ?_)
        · skip
          refine ite_cases h (fun c8 h => ?_) (fun c8 h => ?_)
          · skip
            refine ite_cases h (fun c9 h => ?_) (fun c9 h => ?_)
            · skip
              refine ite_cases h (fun c12 h => ?_) (fun c12 h => ?_)
              · skip
                refine ite_cases h (fun c15 h => ?_) (fun c15 h => ?_)
                · skip
                  refine ite_cases h (fun c24 h => ?_) (fun c24 h => ?_)
                  · skip
                    cases h
                  · skip
                    refine ite_cases h (fun c27 h => ?_) (fun c27 h => ?_)
                    · skip
                      refine ite_cases h (fun c30 h => ?_) (fun c30 h => ?_)
                      · skip
                        refine ite_cases h (fun c35 h => ?_) (fun c35 h => ?_)
                        · skip
                          refine ite_cases h (fun c41 h => ?_) (fun c41 h => ?_)
                          · skip
                            refine ite_cases h (fun c52 h => ?_) (fun c52 h => ?_)
                            · skip
                              cases h
                            · skip
                              refine ite_cases h (fun c66 h => ?_) (fun c66 h => ?_)
                              · skip
                                cases h
                              · skip
                                refine ite_cases h (fun c68 h => ?_) (fun c68 h => ?_)
                                · skip
                                  refine ite_cases h (fun c70 h => ?_) (fun c70 h => ?_)
                                  · skip
                                    exact l3_0_w30 m n x3 s12 s13 s15 b0 b1 b2 b3 _ c0 c2 c3 c7 c8 c9 c12 c15 c24 c27 c30 c35 c41 c52 c66 c68 c70 (ih _ _ _ _ _ _ _ _ q h)
                                  · skip
                                    exact l3_0_w31 m n x3 s12 s13 s15 b0 b1 b2 b3 _ c0 c2 c3 c7 c8 c9 c12 c15 c24 c27 c30 c35 c41 c52 c66 c68 c70 (ih _ _ _ _ _ _ _ _ q h)
                                · skip
                                  cases h
                          · skip
                            refine ite_cases h (fun c66 h => ?_) (fun c66 h => ?_)
                            · skip
                              cases h
                            · skip
                              refine ite_cases h (fun c68 h => ?_) (fun c68 h => ?_)
                              · skip
                                refine ite_cases h (fun c70 h => ?_) (fun c70 h => ?_)
                                · skip
                                  exact l3_0_w32 m n x3 s12 s13 s15 b0 b1 b2 b3 _ c0 c2 c3 c7 c8 c9 c12 c15 c24 c27 c30 c35 c41 c66 c68 c70 (ih _ _ _ _ _ _ _ _ q h)
                                · skip
                                  exact l3_0_w33 m n x3 s12 s13 s15 b0 b1 b2 b3 _ c0 c2 c3 c7 c8 c9 c12 c15 c24 c27 c30 c35 c41 c66 c68 c70 (ih _ _ _ _ _ _ _ _ q h)
                              · skip
                                cases h
                        · skip
                          refine ite_cases h (fun c66 h => ?_) (fun c66 h => ?_)
                          · skip
                            cases h
                          · skip
                            refine ite_cases h (fun c68 h => ?_) (fun c68 h => ?_)
                            · skip
                              refine ite_cases h (fun c70 h => ?_) (fun c70 h => ?_)
                              · skip
                                exact l3_0_w34 m n x3 s12 s13 s15 b0 b1 b2 b3 _ c0 c2 c3 c7 c8 c9 c12 c15 c24 c27 c30 c35 c66 c68 c70 (ih _ _ _ _ _ _ _ _ q h)
                              · skip
                                exact l3_0_w35 m n x3 s12 s13 s15 b0 b1 b2 b3 _ c0 c2 c3 c7 c8 c9 c12 c15 c24 c27 c30 c35 c66 c68 c70 (ih _ _ _ _ _ _ _ _ q h)
                            · skip
                              cases h
                      · skip
                        cases h
                    · skip
                      refine ite_cases h (fun c66 h => ?_) (fun c66 h => ?_)
                      · skip
                        refine ite_cases h (fun c68 h => ?_) (fun c68 h => ?_)
                        · skip
                          exact l3_0_w36 m n x3 s12 s13 s15 b0 b1 b2 b3 _ c0 c2 c3 c7 c8 c9 c12 c15 c24 c27 c66 c68 (ih _ _ _ _ _ _ _ _ q h)
                        · skip
                          exact l3_0_w37 m n x3 s12 s13 s15 b0 b1 b2 b3 _ c0 c2 c3 c7 c8 c9 c12 c15 c24 c27 c66 c68 (ih _ _ _ _ _ _ _ _ q h)
                      · skip
                        cases h
                · skip
                  cases h
              · skip
                cases h
            · skip
              refine ite_cases h (fun c22 h => ?_) (fun c22 h => ?_)
              · skip
                exact l3_0_w38 m n x3 s12 s13 s15 b0 b1 b2 b3 _ c0 c2 c3 c7 c8 c9 c22 (ih _ _ _ _ _ _ _ _ q h)
              · skip
                exact l3_0_w39 m n x3 s12 s13 s15 b0 b1 b2 b3 _ c0 c2 c3 c7 c8 c9 c22 (ih _ _ _ _ _ _ _ _ q h)
          · skip
            cases h
        · skip
          refine ite_cases h (fun c8 h => ?_) (fun c8 h => ?_)
          · skip
            refine ite_cases h (fun c9 h => ?_) (fun c9 h => ?_)
            · skip
              refine ite_cases h (fun c12 h => ?_) (fun c12 h => ?_)
              · skip
                refine ite_cases h (fun c15 h => ?_) (fun c15 h => ?_)
                · skip
                  refine ite_cases h (fun c24 h => ?_) (fun c24 h => ?_)
                  · skip
                    cases h
                  · skip
                    refine ite_cases h (fun c27 h => ?_) (fun c27 h => ?_)
                    · skip
                      refine ite_cases h (fun c30 h => ?_) (fun c30 h => ?_)
                      · skip
                        refine ite_cases h (fun c35 h => ?_) (fun c35 h => ?_)
                        · skip
                          refine ite_cases h (fun c41 h => ?_) (fun c41 h => ?_)
                          · skip
                            refine ite_cases h (fun c52 h => ?_) (fun c52 h => ?_)
                            · skip
                              cases h
                            · skip
                              refine ite_cases h (fun c66 h => ?_) (fun c66 h => ?_)
                              · skip
                                cases h
                              · skip
                                refine ite_cases h (fun c68 h => ?_) (fun c68 h => ?_)
                                · skip
                                  refine ite_cases h (fun c70 h => ?_) (fun c70 h => ?_)
                                  · skip
                                    exact l3_0_w40 m n x3 s12 s13 s15 b0 b1 b2 b3 _ c0 c2 c3 c7 c8 c9 c12 c15 c24 c27 c30 c35 c41 c52 c66 c68 c70 (ih _ _ _ _ _ _ _ _ q h)
                                  · skip
                                    exact l3_0_w41 m n x3 s12 s13 s15 b0 b1 b2 b3 _ c0 c2 c3 c7 c8 c9 c12 c15 c24 c27 c30 c35 c41 c52 c66 c68 c70 (ih _ _ _ _ _ _ _ _ q h)
                                · skip
                                  cases h
                          · skip
                            refine ite_cases h (fun c66 h => ?_) (fun c66 h => ?_)
                            · skip
                              cases h
                            · skip
                              refine ite_cases h (fun c68 h => ?_) (fun c68 h => ?_)
                              · skip
                                refine ite_cases h (fun c70 h => ?_) (fun c70 h => ?_)
                                · skip
                                  exact l3_0_w42 m n x3 s12 s13 s15 b0 b1 b2 b3 _ c0 c2 c3 c7 c8 c9 c12 c15 c24 c27 c30 c35 c41 c66 c68 c70 (ih _ _ _ _ _ _ _ _ q h)
                                · skip
                                  exact l3_0_w43 m n x3 s12 s13 s15 b0 b1 b2 b3 _ c0 c2 c3 c7 c8 c9 c12 c15 c24 c27 c30 c35 c41 c66 c68 c70 (ih _ _ _ _ _ _ _ _ q h)
                              · skip
                                cases h
                        · skip
                          refine ite_cases h (fun c66 h => ?_) (fun c66 h => ?_)
                          · skip
                            cases h
                          · skip
                            refine ite_cases h (fun c68 h => ?_) (fun c68 h => ?_)
                            · skip
                              refine ite_cases h (fun c70 h => ?_) (fun c70 h => ?_)
                              · skip
                                exact l3_0_w44 m n x3 s12 s13 s15 b0 b1 b2 b3 _ c0 c2 c3 c7 c8 c9 c12 c15 c24 c27 c30 c35 c66 c68 c70 (ih _ _ _ _ _ _ _ _ q h)
                              · skip
                                exact l3_0_w45 m n x3 s12 s13 s15 b0 b1 b2 b3 _ c0 c2 c3 c7 c8 c9 c12 c15 c24 c27 c30 c35 c66 c68 c70 (ih _ _ _ _ _ _ _ _ q h)
                            · skip
                              cases h
                      · skip
                        cases h
                    · skip
                      refine ite_cases h (fun c66 h => ?_) (fun c66 h => ?_)
                      · skip
                        refine ite_cases h (fun c68 h => ?_) (fun c68 h => ?_)
                        · skip
                          exact l3_0_w46 m n x3 s12 s13 s15 b0 b1 b2 b3 _ c0 c2 c3 c7 c8 c9 c12 c15 c24 c27 c66 c68 (ih _ _ _ _ _ _ _ _ q h)
                        · skip
                          exact l3_0_w47 m n x3 s12 s13 s15 b0 b1 b2 b3 _ c0 c2 c3 c7 c8 c9 c12 c15 c24 c27 c66 c68 (ih _ _ _ _ _ _ _ _ q h)
                      · skip
                        cases h
                · skip
                  cases h
              · skip
                cases h
            · skip
              refine ite_cases h (fun c22 h => ?_) (fun c22 h => ?_)
              · skip
                exact l3_0_w48 m n x3 s12 s13 s15 b0 b1 b2 b3 _ c0 c2 c3 c7 c8 c9 c22 (ih _ _ _ _ _ _ _ _ q h)
              · skip
                exact l3_0_w49 m n x3 s12 s13 s15 b0 b1 b2 b3 _ c0 c2 c3 c7 c8 c9 c22 (ih _ _ _ _ _ _ _ _ q h)
          · skip
            cases h
      · skip
        refine ite_cases h (fun c8 h => ?_) (fun c8 h => ?_)
        · skip
          refine ite_cases h (fun c9 h => ?_) (fun c9 h => ?_)
          · skip
            refine ite_cases h (fun c12 h => ?_) (fun c12 h => ?_)
            · skip
              refine ite_cases h (fun c15 h => ?_) (fun c15 h => ?_)
              · skip
                refine ite_cases h (fun c24 h => ?_) (fun c24 h => ?_)
                · skip
                  cases h
                · skip
                  refine ite_cases h (fun c27 h => ?_) (fun c27 h => ?_)
                  · skip
                    refine ite_cases h (fun c30 h => ?_) (fun c30 h => ?_)
                    · skip
                      refine ite_cases h (fun c35 h => ?_) (fun c35 h => ?_)
                      · skip
                        refine ite_cases h (fun c41 h => ?_) (fun c41 h => ?_)
                        · skip
                          refine ite_cases h (fun c52 h => ?_) (fun c52 h => ?_)
                          · skip
                            cases h
                          · skip
                            refine ite_cases h (fun c66 h => ?_) (fun c66 h => ?_)
                            · skip
                              cases h
                            · skip
                              refine ite_cases h (fun c68 h => ?_) (fun c68 h => ?_)
                              · skip
                                refine ite_cases h (fun c70 h => ?_) (fun c70 h => ?_)
                                · skip
                                  exact l3_0_w50 m n x3 s12 s13 s15 b0 b1 b2 b3 _ c0 c2 c3 c8 c9 c12 c15 c24 c27 c30 c35 c41 c52 c66 c68 c70 (ih _ _ _ _ _ _ _ _ q h)
                                · skip
                                  exact l3_0_w51 m n x3 s12 s13 s15 b0 b1 b2 b3 _ c0 c2 c3 c8 c9 c12 c15 c24 c27 c30 c35 c41 c52 c66 c68 c70 (ih _ _ _ _ _ _ _ _ q h)
                              · skip
                                cases h
                        · skip
                          refine ite_cases h (fun c66 h => ?_) (fun c66 h => ?_)
                          · skip
                            cases h
                          · skip
                            refine ite_cases h (fun c68 h => ?_) (fun c68 h => ?_)
                            · skip
                              refine ite_cases h (fun c70 h => ?_) (fun c70 h => ?_)
                              · skip
                                exact l3_0_w52 m n x3 s12 s13 s15 b0 b1 b2 b3 _ c0 c2 c3 c8 c9 c12 c15 c24 c27 c30 c35 c41 c66 c68 c70 (ih _ _ _ _ _ _ _ _ q h)
                              · skip
                                exact l3_0_w53 m n x3 s12 s13 s15 b0 b1 b2 b3 _ c0 c2 c3 c8 c9 c12 c15 c24 c27 c30 c35 c41 c66 c68 c70 (ih _ _ _ _ _ _ _ _ q h)
                            · skip
                              cases h
                      · skip
                        refine ite_cases h (fun c66 h => ?_) (fun c66 h => ?_)
                        · skip
                          cases h
                        · skip
                          refine ite_cases h (fun c68 h => ?_) (fun c68 h => ?_)
                          · skip
                            refine ite_cases h (fun c70 h => ?_) (fun c70 h => ?_)
                            · skip
                              exact l3_0_w54 m n x3 s12 s13 s15 b0 b1 b2 b3 _ c0 c2 c3 c8 c9 c12 c15 c24 c27 c30 c35 c66 c68 c70 (ih _ _ _ _ _ _ _ _ q h)
                            · skip
                              exact l3_0_w55 m n x3 s12 s13 s15 b0 b1 b2 b3 _ c0 c2 c3 c8 c9 c12 c15 c24 c27 c30 c35 c66 c68 c70 (ih _ _ _ _ _ _ _ _ q h)
                          · skip
                            cases h
                    · skip
                      cases h
                  · skip
                    refine ite_cases h (fun c66 h => ?_) (fun c66 h => ?_)
                    · skip
                      refine ite_cases h (fun c68 h => ?_) (fun c68 h => ?_)
                      · skip
                        exact l3_0_w56 m n x3 s12 s13 s15 b0 b1 b2 b3 _ c0 c2 c3 c8 c9 c12 c15 c24 c27 c66 c68 (ih _ _ _ _ _ _ _ _ q h)
                      · skip
                        exact l3_0_w57 m n x3 s12 s13 s15 b0 b1 b2 b3 _ c0 c2 c3 c8 c9 c12 c15 c24 c27 c66 c68 (ih _ _ _ _ _ _ _ _ q h)
                    · skip
                      cases h
              · skip
                cases h
            · skip
              cases h
          · skip
            refine ite_cases h (fun c22 h => ?_) (fun c22 h => ?_)
            · skip
              exact l3_0_w58 m n x3 s12 s13 s15 b0 b1 b2 b3 _ c0 c2 c3 c8 c9 c22 (ih _ _ _ _ _ _ _ _ q h)
            · skip
              exact l3_0_w59 m n x3 s12 s13 s15 b0 b1 b2 b3 _ c0 c2 c3 c8 c9 c22 (ih _ _ _ _ _ _ _ _ q h)
        · skip
          cases h
  · skip
    cases h
    exact l3_0_w60 m n x3 s12 s13 s15 b0 b1 b2 b3 c0
set_option maxHeartbeats 20000000 in
theorem l3_0_ok (m : Nat) : ∀ (n : Nat) (x3 : List Int) (s12 : Int) (s13 : Int) (s15 : Int) (b0 : Int × Int × Int) (b1 : (Int × Int × Int) × Bool × Int × Bool × (List (List UInt8)) × Int) (b2 : (Int × Int × Int) × Bool × Int × Bool × (List (List UInt8)) × Int) (b3 : List (List UInt8)) (q : Nat × Int × Int × Int × ((Int × Int × Int) × Bool × Int × Bool × (List (List UInt8)) × Int) × (List (List UInt8))), l3_0 m n x3 s12 s13 s15 b0 b1 b2 b3 = some q → (turns (hds 3 65032) 0 65032 (evC byref (evCall F S7 (m + 24)) (m + 24) 0 (hds 3) lbl3_0) n (l3_0H x3 s12 s13 s15 b0 b1 b2 b3) (l3_0B x3 s12 s13 s15 b0 b1 b2 b3)).run = some (l3_0E (x3) (q.2.1) (q.2.2.1) (q.2.2.2.1) (b0) (q.2.2.2.2.1) (b2) (q.2.2.2.2.2) q.1)
  | 0, x3, s12, s13, s15, b0, b1, b2, b3, q, h => by cases h
  | n + 1, x3, s12, s13, s15, b0, b1, b2, b3, q, h => l3_0_step m n (l3_0_ok m n) x3 s12 s13 s15 b0 b1 b2 b3 q h

def l3_1 (m : Nat) : Nat → Int → Int → Int × Int × Int → (Int × Int × Int) × Bool × Int × Bool × (List (List UInt8)) × Int → Option (Nat × Int × Int × ((Int × Int × Int) × Bool × Int × Bool × (List (List UInt8)) × Int))
  | 0, _, _, _, _ => none
  | n + 1, s19, s20, b0, b1 => if decide (s20 < 100) = true then
      if tickPre b1 s20 [([97] : List UInt8)] = true then
        if (tickG b1 s20 [([97] : List UInt8)]).2.1 = true then
          if decide (s19 < 0) = true then
            if (s20 != b0.1) = true then
              none
            else
              if decide (s19 ≥ 0) = true then
                if decide ((IntKind.wrap .i64 (s20 - s19)) < b0.2.2) = true then
                  none
                else
                  l3_1 m n s20 ((IntKind.wrap .i64 (s20 + (1)))) b0 ((tickG b1 s20 [([97] : List UInt8)]).2.2)
              else
                l3_1 m n s20 ((IntKind.wrap .i64 (s20 + (1)))) b0 ((tickG b1 s20 [([97] : List UInt8)]).2.2)
          else
            if decide (s19 ≥ 0) = true then
              if decide ((IntKind.wrap .i64 (s20 - s19)) < b0.2.2) = true then
                none
              else
                l3_1 m n s20 ((IntKind.wrap .i64 (s20 + (1)))) b0 ((tickG b1 s20 [([97] : List UInt8)]).2.2)
            else
              l3_1 m n s20 ((IntKind.wrap .i64 (s20 + (1)))) b0 ((tickG b1 s20 [([97] : List UInt8)]).2.2)
        else
          l3_1 m n s19 ((IntKind.wrap .i64 (s20 + (1)))) b0 ((tickG b1 s20 [([97] : List UInt8)]).2.2)
      else
        none
    else
      some (0, s19, s20, b1)
def l3_1D : Nat × Int × Int × ((Int × Int × Int) × Bool × Int × Bool × (List (List UInt8)) × Int) := (0, 0, 0, ((0, (0, 0)), (false, (0, (false, (([] : List (List UInt8)), 0))))))
@[reducible] def l3_1R (m n : Nat) (s19 : Int) (s20 : Int) (b0 : Int × Int × Int) (b1 : (Int × Int × Int) × Bool × Int × Bool × (List (List UInt8)) × Int) : Nat × Int × Int × ((Int × Int × Int) × Bool × Int × Bool × (List (List UInt8)) × Int) := Option.getD (l3_1 m n s19 s20 b0 b1) l3_1D
def l3_1H (s19 : Int) (s20 : Int) (b0 : Int × Int × Int) (b1 : (Int × Int × Int) × Bool × Int × Bool × (List (List UInt8)) × Int) : Env := [.top, .top, .top, .top, .top, .top, .top, .top, .top, (.ptr 0 0), .top, (.ptr 1 0), .top, .top, .top, .top, .top, .top, .top, (.d (.int .i64 s19)), (.d (.int .i64 s20)), .top, .top, .top, .top, .top, .top, .top, .top, .top, .top, .top, .top, .top, .top, .top, .top, .top, .top, .top, .top, .top, .top, .top, .top, .top, .top, .top, .top, .top, .top, .top, .top, .top, .top, .top, .top, .top, .top, .top, .top, .top, .top, .top, .top, .top, .top, .top, .top, .top, .top, .top, .top, .top, .top, .top, .top, .top, .top, .top, .top, .top, .top, .top, .top, .top, .top, .top, .top, .top, .top, .top, .top, .top, .top, .top, .top, .top, .top, .top, .top, .top, .top, .top, .top, .top, .top, .top, .top, .top, .top, .top, .top, .top, .top, .top, .top, .top, .top, .top, .top, .top, .top, .top, .top, .top, .top, .top, .top, .top, .top, .top, .top, .top, .top, .top, .top, .top, .top, .top, .top, .top, .top, .top, .top, .top, .top, .top, .top, .top, .top, .top, .top, .top, .top, .top, .top, .top, .top, .top, .top]
def l3_1B (s19 : Int) (s20 : Int) (b0 : Int × Int × Int) (b1 : (Int × Int × Int) × Bool × Int × Bool × (List (List UInt8)) × Int) : Boxes := [(.cells [(.d (.int .i64 b0.1)), (.d (.int .i64 b0.2.1)), (.d (.int .i64 b0.2.2))]), (.cells [(.d (.int .i64 b1.1.1)), (.d (.int .i64 b1.1.2.1)), (.d (.int .i64 b1.1.2.2)), (.d (.bool (b1.2.1))), (.d (.int .i64 b1.2.2.1)), (.d (.bool (b1.2.2.2.1))), (.d (.sl .str b1.2.2.2.2.1)), (.d (.int .i64 b1.2.2.2.2.2))])]
def l3_1E (s19 : Int) (s20 : Int) (b0 : Int × Int × Int) (b1 : (Int × Int × Int) × Bool × Int × Bool × (List (List UInt8)) × Int) : Nat → AEx × Env × Boxes
  | _ => (.exit 2, [.top, .top, .top, .top, .top, .top, .top, .top, .top, (.ptr 0 0), .top, (.ptr 1 0), .top, .top, .top, .top, .top, .top, .top, (.d (.int .i64 s19)), (.d (.int .i64 s20)), .top, .top, .top, .top, .top, .top, .top, .top, .top, .top, .top, .top, .top, .top, .top, .top, .top, .top, .top, .top, .top, .top, .top, .top, .top, .top, .top, .top, .top, .top, .top, .top, .top, .top, .top, .top, .top, .top, .top, .top, .top, .top, .top, .top, .top, .top, .top, .top, .top, .top, .top, .top, .top, .top, .top, .top, .top, .top, .top, .top, .top, .top, .top, .top, .top, .top, .top, .top, .top, .top, .top, .top, .top, .top, .top, .top, .top, .top, .top, .top, .top, .top, .top, .top, .top, .top, .top, .top, .top, .top, .top, .top, .top, .top, .top, .top, .top, .top, .top, .top, .top, .top, (.d (.int .i64 s20)), (.d (.bool (decide (s20 < 100)))), .top, .top, .top, .top, .top, .top, .top, .top, .top, .top, .top, .top, .top, .top, .top, .top, .top, .top, .top, .top, .top, .top, .top, .top, .top, .top, .top, .top, .top, .top, .top, .top, .top, .top, .top, .top], [(.cells [(.d (.int .i64 b0.1)), (.d (.int .i64 b0.2.1)), (.d (.int .i64 b0.2.2))]), (.cells [(.d (.int .i64 b1.1.1)), (.d (.int .i64 b1.1.2.1)), (.d (.int .i64 b1.1.2.2)), (.d (.bool (b1.2.1))), (.d (.int .i64 b1.2.2.1)), (.d (.bool (b1.2.2.2.1))), (.d (.sl .str b1.2.2.2.2.1)), (.d (.int .i64 b1.2.2.2.2.2))])])
noncomputable def lbl3_1 : AC := loopBody 1575424 body3

set_option maxHeartbeats 20000000 in
theorem l3_1_w0 (m n : Nat) (s19 : Int) (s20 : Int) (b0 : Int × Int × Int) (b1 : (Int × Int × Int) × Bool × Int × Bool × (List (List UInt8)) × Int) (r : AEx × Env × Boxes) (c0 : decide (s20 < 100) = true) (c2 : tickPre b1 s20 [([97] : List UInt8)] = true) (c3 : (tickG b1 s20 [([97] : List UInt8)]).2.1 = true) (c4 : decide (s19 < 0) = true) (c9 : ¬ (s20 != b0.1) = true) (c10 : decide (s19 ≥ 0) = true) (c17 : ¬ decide ((IntKind.wrap .i64 (s20 - s19)) < b0.2.2) = true) (ih : (turns (hds 3 1575424) 0 1575424 (evC byref (evCall F S7 (m + 24)) (m + 24) 0 (hds 3) lbl3_1) n (l3_1H s20 ((IntKind.wrap .i64 (s20 + (1)))) b0 ((tickG b1 s20 [([97] : List UInt8)]).2.2)) (l3_1B s20 ((IntKind.wrap .i64 (s20 + (1)))) b0 ((tickG b1 s20 [([97] : List UInt8)]).2.2))).run = some r) : (turns (hds 3 1575424) 0 1575424 (evC byref (evCall F S7 (m + 24)) (m + 24) 0 (hds 3) lbl3_1) (n + 1) (l3_1H s19 s20 b0 b1) (l3_1B s19 s20 b0 b1)).run = some r := by
  exact turns_step (M.run_of_path _ [true, true, true, true, true, true, true, true, true, false, true, true, true, true, true, true, true, false] _ _ (by kernel_rfl) (all_t c0 (all_t rfl (all_t c2 (all_t c3 (all_t c4 (all_t c4 (all_t c4 (all_t c4 (all_t c4 (all_f c9 (all_t c10 (all_t c10 (all_t c10 (all_t c10 (all_t c10 (all_t c10 (all_t c10 (all_f c17 all_nil))))))))))))))))))) ih
set_option maxHeartbeats 20000000 in
theorem l3_1_w1 (m n : Nat) (s19 : Int) (s20 : Int) (b0 : Int × Int × Int) (b1 : (Int × Int × Int) × Bool × Int × Bool × (List (List UInt8)) × Int) (r : AEx × Env × Boxes) (c0 : decide (s20 < 100) = true) (c2 : tickPre b1 s20 [([97] : List UInt8)] = true) (c3 : (tickG b1 s20 [([97] : List UInt8)]).2.1 = true) (c4 : decide (s19 < 0) = true) (c9 : ¬ (s20 != b0.1) = true) (c10 : ¬ decide (s19 ≥ 0) = true) (ih : (turns (hds 3 1575424) 0 1575424 (evC byref (evCall F S7 (m + 24)) (m + 24) 0 (hds 3) lbl3_1) n (l3_1H s20 ((IntKind.wrap .i64 (s20 + (1)))) b0 ((tickG b1 s20 [([97] : List UInt8)]).2.2)) (l3_1B s20 ((IntKind.wrap .i64 (s20 + (1)))) b0 ((tickG b1 s20 [([97] : List UInt8)]).2.2))).run = some r) : (turns (hds 3 1575424) 0 1575424 (evC byref (evCall F S7 (m + 24)) (m + 24) 0 (hds 3) lbl3_1) (n + 1) (l3_1H s19 s20 b0 b1) (l3_1B s19 s20 b0 b1)).run = some r := by
  exact turns_step (M.run_of_path _ [true, true, true, true, true, true, true, true, true, false, false, false, false, false, false, false, false, false] _ _ (by kernel_rfl) (all_t c0 (all_t rfl (all_t c2 (all_t c3 (all_t c4 (all_t c4 (all_t c4 (all_t c4 (all_t c4 (all_f c9 (all_f c10 (all_f c10 (all_f c10 (all_f c10 (all_f c10 (all_f c10 (all_f c10 (all_f Bool.false_ne_true all_nil))))))))))))))))))) ih
set_option maxHeartbeats 20000000 in
theorem l3_1_w2 (m n : Nat) (s19 : Int) (s20 : Int) (b0 : Int × Int × Int) (b1 : (Int × Int × Int) × Bool × Int × Bool × (List (List UInt8)) × Int) (r : AEx × Env × Boxes) (c0 : decide (s20 < 100) = true) (c2 : tickPre b1 s20 [([97] : List UInt8)] = true) (c3 : (tickG b1 s20 [([97] : List UInt8)]).2.1 = true) (c4 : ¬ decide (s19 < 0) = true) (c10 : decide (s19 ≥ 0) = true) (c17 : ¬ decide ((IntKind.wrap .i64 (s20 - s19)) < b0.2.2) = true) (ih : (turns (hds 3 1575424) 0 1575424 (evC byref (evCall F S7 (m + 24)) (m + 24) 0 (hds 3) lbl3_1) n (l3_1H s20 ((IntKind.wrap .i64 (s20 + (1)))) b0 ((tickG b1 s20 [([97] : List UInt8)]).2.2)) (l3_1B s20 ((IntKind.wrap .i64 (s20 + (1)))) b0 ((tickG b1 s20 [([97] : List UInt8)]).2.2))).run = some r) : (turns (hds 3 1575424) 0 1575424 (evC byref (evCall F S7 (m + 24)) (m + 24) 0 (hds 3) lbl3_1) (n + 1) (l3_1H s19 s20 b0 b1) (l3_1B s19 s20 b0 b1)).run = some r := by
  exact turns_step (M.run_of_path _ [true, true, true, true, false, false, false, false, false, false, true, true, true, true, true, true, true, false] _ _ (by kernel_rfl) (all_t c0 (all_t rfl (all_t c2 (all_t c3 (all_f c4 (all_f c4 (all_f c4 (all_f c4 (all_f c4 (all_f Bool.false_ne_true (all_t c10 (all_t c10 (all_t c10 (all_t c10 (all_t c10 (all_t c10 (all_t c10 (all_f c17 all_nil))))))))))))))))))) ih
set_option maxHeartbeats 20000000 in
theorem l3_1_w3 (m n : Nat) (s19 : Int) (s20 : Int) (b0 : Int × Int × Int) (b1 : (Int × Int × Int) × Bool × Int × Bool × (List (List UInt8)) × Int) (r : AEx × Env × Boxes) (c0 : decide (s20 < 100) = true) (c2 : tickPre b1 s20 [([97] : List UInt8)] = true) (c3 : (tickG b1 s20 [([97] : List UInt8)]).2.1 = true) (c4 : ¬ decide (s19 < 0) = true) (c10 : ¬ decide (s19 ≥ 0) = true) (ih : (turns (hds 3 1575424) 0 1575424 (evC byref (evCall F S7 (m + 24)) (m + 24) 0 (hds 3) lbl3_1) n (l3_1H s20 ((IntKind.wrap .i64 (s20 + (1)))) b0 ((tickG b1 s20 [([97] : List UInt8)]).2.2)) (l3_1B s20 ((IntKind.wrap .i64 (s20 + (1)))) b0 ((tickG b1 s20 [([97] : List UInt8)]).2.2))).run = some r) : (turns (hds 3 1575424) 0 1575424 (evC byref (evCall F S7 (m + 24)) (m + 24) 0 (hds 3) lbl3_1) (n + 1) (l3_1H s19 s20 b0 b1) (l3_1B s19 s20 b0 b1)).run = some r := by
  exact turns_step (M.run_of_path _ [true, true, true, true, false, false, false, false, false, false, false, false, false, false, false, false, false, false] _ _ (by kernel_rfl) (all_t c0 (all_t rfl (all_t c2 (all_t c3 (all_f c4 (all_f c4 (all_f c4 (all_f c4 (all_f c4 (all_f Bool.false_ne_true (all_f c10 (all_f c10 (all_f c10 (all_f c10 (all_f c10 (all_f c10 (all_f c10 (all_f Bool.false_ne_true all_nil))))))))))))))))))) ih
set_option maxHeartbeats 20000000 in
theorem l3_1_w4 (m n : Nat) (s19 : Int) (s20 : Int) (b0 : Int × Int × Int) (b1 : (Int × Int × Int) × Bool × Int × Bool × (List (List UInt8)) × Int) (r : AEx × Env × Boxes) (c0 : decide (s20 < 100) = true) (c2 : tickPre b1 s20 [([97] : List UInt8)] = true) (c3 : ¬ (tickG b1 s20 [([97] : List UInt8)]).2.1 = true) (ih : (turns (hds 3 1575424) 0 1575424 (evC byref (evCall F S7 (m + 24)) (m + 24) 0 (hds 3) lbl3_1) n (l3_1H s19 ((IntKind.wrap .i64 (s20 + (1)))) b0 ((tickG b1 s20 [([97] : List UInt8)]).2.2)) (l3_1B s19 ((IntKind.wrap .i64 (s20 + (1)))) b0 ((tickG b1 s20 [([97] : List UInt8)]).2.2))).run = some r) : (turns (hds 3 1575424) 0 1575424 (evC byref (evCall F S7 (m + 24)) (m + 24) 0 (hds 3) lbl3_1) (n + 1) (l3_1H s19 s20 b0 b1) (l3_1B s19 s20 b0 b1)).run = some r := by
  exact turns_step (M.run_of_path _ [true, true, true, false] _ _ (by kernel_rfl) (all_t c0 (all_t rfl (all_t c2 (all_f c3 all_nil))))) ih
set_option maxHeartbeats 20000000 in
theorem l3_1_w5 (m n : Nat) (s19 : Int) (s20 : Int) (b0 : Int × Int × Int) (b1 : (Int × Int × Int) × Bool × Int × Bool × (List (List UInt8)) × Int) (c0 : ¬ decide (s20 < 100) = true) : (turns (hds 3 1575424) 0 1575424 (evC byref (evCall F S7 (m + 24)) (m + 24) 0 (hds 3) lbl3_1) (n + 1) (l3_1H s19 s20 b0 b1) (l3_1B s19 s20 b0 b1)).run = some (.exit 2, [.top, .top, .top, .top, .top, .top, .top, .top, .top, (.ptr 0 0), .top, (.ptr 1 0), .top, .top, .top, .top, .top, .top, .top, (.d (.int .i64 s19)), (.d (.int .i64 s20)), .top, .top, .top, .top, .top, .top, .top, .top, .top, .top, .top, .top, .top, .top, .top, .top, .top, .top, .top, .top, .top, .top, .top, .top, .top, .top, .top, .top, .top, .top, .top, .top, .top, .top, .top, .top, .top, .top, .top, .top, .top, .top, .top, .top, .top, .top, .top, .top, .top, .top, .top, .top, .top, .top, .top, .top, .top, .top, .top, .top, .top, .top, .top, .top, .top, .top, .top, .top, .top, .top, .top, .top, .top, .top, .top, .top, .top, .top, .top, .top, .top, .top, .top, .top, .top, .top, .top, .top, .top, .top, .top, .top, .top, .top, .top, .top, .top, .top, .top, .top, .top, .top, (.d (.int .i64 s20)), (.d (.bool (decide (s20 < 100)))), .top, .top, .top, .top, .top, .top, .top, .top, .top, .top, .top, .top, .top, .top, .top, .top, .top, .top, .top, .top, .top, .top, .top, .top, .top, .top, .top, .top, .top, .top, .top, .top, .top, .top, .top, .top], [(.cells [(.d (.int .i64 b0.1)), (.d (.int .i64 b0.2.1)), (.d (.int .i64 b0.2.2))]), (.cells [(.d (.int .i64 b1.1.1)), (.d (.int .i64 b1.1.2.1)), (.d (.int .i64 b1.1.2.2)), (.d (.bool (b1.2.1))), (.d (.int .i64 b1.2.2.1)), (.d (.bool (b1.2.2.2.1))), (.d (.sl .str b1.2.2.2.2.1)), (.d (.int .i64 b1.2.2.2.2.2))])]) := by
  exact turns_last (by simp) (M.run_of_path _ [false] _ _ (by kernel_rfl) (all_f c0 all_nil)) 

set_option maxHeartbeats 20000000 in
theorem l3_1_step (m n : Nat) (ih : ∀ (s19 : Int) (s20 : Int) (b0 : Int × Int × Int) (b1 : (Int × Int × Int) × Bool × Int × Bool × (List (List UInt8)) × Int) (q : Nat × Int × Int × ((Int × Int × Int) × Bool × Int × Bool × (List (List UInt8)) × Int)), l3_1 m n s19 s20 b0 b1 = some q → (turns (hds 3 1575424) 0 1575424 (evC byref (evCall F S7 (m + 24)) (m + 24) 0 (hds 3) lbl3_1) n (l3_1H s19 s20 b0 b1) (l3_1B s19 s20 b0 b1)).run = some (l3_1E (q.2.1) (q.2.2.1) (b0) (q.2.2.2) q.1)) (s19 : Int) (s20 : Int) (b0 : Int × Int × Int) (b1 : (Int × Int × Int) × Bool × Int × Bool × (List (List UInt8)) × Int) (q : Nat × Int × Int × ((Int × Int × Int) × Bool × Int × Bool × (List (List UInt8)) × Int)) (h : l3_1 m (n + 1) s19 s20 b0 b1 = some q) : (turns (hds 3 1575424) 0 1575424 (evC byref (evCall F S7 (m + 24)) (m + 24) 0 (hds 3) lbl3_1) (n + 1) (l3_1H s19 s20 b0 b1) (l3_1B s19 s20 b0 b1)).run = some (l3_1E (q.2.1) (q.2.2.1) (b0) (q.2.2.2) q.1) := by
  rw [l3_1] at h
  refine ite_cases h (fun c0 h => ?_) (fun c0 h => ?_)
  · skip
    refine ite_cases h (fun c2 h => ?_) (fun c2 h => ?_)
    · skip
      refine ite_cases h (fun c3 h => ?_) (fun c3 h => ?_)
      · skip
        refine ite_cases h (fun c4 h => ?_) (fun c4 h => ?_)
        · skip
          refine ite_cases h (fun c9 h => ?_) (fun c9 h => ?_)
          · skip
            cases h
          · skip
            refine ite_cases h (fun c10 h => ?_) (fun c10 h => ?_)
            · skip
              refine ite_cases h (fun c17 h => ?_) (fun c17 h => ?_)
              · skip
                cases h
              · skip
                exact l3_1_w0 m n s19 s20 b0 b1 _ c0 c2 c3 c4 c9 c10 c17 (ih _ _ _ _ q h)
            · skip
              exact l3_1_w1 m n s19 s20 b0 b1 _ c0 c2 c3 c4 c9 c10 (ih _ _ _ _ q h)
        · skip
          refine ite_cases h (fun c10 h => ?_) (fun c10 h => ?_)
          · skip
            refine ite_cases h (fun c17 h => ?_) (fun c17 h => ?_)
            · skip
              cases h
            · skip
              exact l3_1_w2 m n s19 s20 b0 b1 _ c0 c2 c3 c4 c10 c17 (ih _ _ _ _ q h)
          · skip
            exact l3_1_w3 m n s19 s20 b0 b1 _ c0 c2 c3 c4 c10 (ih _ _ _ _ q h)
      · skip
        exact l3_1_w4 m n s19 s20 b0 b1 _ c0 c2 c3 (ih _ _ _ _ q h)
    · skip
      cases h
  · skip
    cases h
    exact l3_1_w5 m n s19 s20 b0 b1 c0
set_option maxHeartbeats 20000000 in
theorem l3_1_ok (m : Nat) : ∀ (n : Nat) (s19 : Int) (s20 : Int) (b0 : Int × Int × Int) (b1 : (Int × Int × Int) × Bool × Int × Bool × (List (List UInt8)) × Int) (q : Nat × Int × Int × ((Int × Int × Int) × Bool × Int × Bool × (List (List UInt8)) × Int)), l3_1 m n s19 s20 b0 b1 = some q → (turns (hds 3 1575424) 0 1575424 (evC byref (evCall F S7 (m + 24)) (m + 24) 0 (hds 3) lbl3_1) n (l3_1H s19 s20 b0 b1) (l3_1B s19 s20 b0 b1)).run = some (l3_1E (q.2.1) (q.2.2.1) (b0) (q.2.2.2) q.1)
  | 0, s19, s20, b0, b1, q, h => by cases h
  | n + 1, s19, s20, b0, b1, q, h => l3_1_step m n (l3_1_ok m n) s19 s20 b0 b1 q h

def waits (m : Nat) (x0 : Int) (x1 : Int) (x2 : Int) (x3 : List Int) : Option Unit :=
  if decide ((withinI x0 (0) (30)) ≥ 0) = true then
    if decide ((withinI x0 (0) (30)) ≤ 1048576) = true then
      if decide ((withinI x1 (1) (20)) ≥ 1) = true then
        if decide ((withinI x1 (1) (20)) ≤ 1048576) = true then
          if decide ((withinI x2 (1) (40)) ≥ 1) = true then
            if decide ((withinI x2 (1) (40)) ≤ 1048576) = true then
              if (Option.isSome (l3_0 m (m + 24) x3 ((-1)) ((-1)) 0 (((withinI x0 (0) (30)), ((withinI x1 (1) (20)), (withinI x2 (1) (40))))) ((((withinI x0 (0) (30)), ((withinI x1 (1) (20)), (withinI x2 (1) (40)))), (false, ((0), (false, (([] : List (List UInt8)), (0))))))) ((((withinI x0 (0) (30)), ((withinI x1 (1) (20)), (withinI x2 (1) (40)))), (false, ((0), (false, (([] : List (List UInt8)), (0))))))) (([] : List (List UInt8))))) = true then
                if (Option.isSome (l3_1 m (m + 24) ((-1)) 0 ((((withinI x0 (0) (30)), ((withinI x1 (1) (20)), (withinI x2 (1) (40)))))) (((((withinI x0 (0) (30)), ((withinI x1 (1) (20)), (withinI x2 (1) (40)))), (false, ((0), (false, (([] : List (List UInt8)), (0)))))))))) = true then
                  if decide ((l3_1R m (m + 24) ((-1)) 0 ((((withinI x0 (0) (30)), ((withinI x1 (1) (20)), (withinI x2 (1) (40)))))) (((((withinI x0 (0) (30)), ((withinI x1 (1) (20)), (withinI x2 (1) (40)))), (false, ((0), (false, (([] : List (List UInt8)), (0))))))))).2.1 ≥ ((((withinI x0 (0) (30)), ((withinI x1 (1) (20)), (withinI x2 (1) (40)))))).1) = true then
                    some ()
                  else
                    none
                else
                  none
              else
                none
            else
              none
          else
            none
        else
          none
      else
        none
    else
      none
  else
    none
set_option maxHeartbeats 20000000 in
theorem waits_ok (m : Nat) (x0 : Int) (x1 : Int) (x2 : Int) (x3 : List Int) (q : Unit) (h : waits m x0 x1 x2 x3 = some q) : (evCall F S7 (m + 25) 3 [(.d (.int .i64 x0)), (.d (.int .i64 x1)), (.d (.int .i64 x2)), (.d (.sl (.int .i64) x3))] []).run = some (.d (.bool true), []) := by
  unfold waits at h
  refine ite_cases h (fun c3 h => ?_) (fun c3 h => ?_)
  · skip
    refine ite_cases h (fun c7 h => ?_) (fun c7 h => ?_)
    · skip
      refine ite_cases h (fun c10 h => ?_) (fun c10 h => ?_)
      · skip
        refine ite_cases h (fun c15 h => ?_) (fun c15 h => ?_)
        · skip
          refine ite_cases h (fun c18 h => ?_) (fun c18 h => ?_)
          · skip
            refine ite_cases h (fun c23 h => ?_) (fun c23 h => ?_)
            · skip
              refine ite_cases h (fun c49 h => ?_) (fun c49 h => ?_)
              · skip
                refine ite_cases h (fun c50 h => ?_) (fun c50 h => ?_)
                · skip
                  refine ite_cases h (fun c51 h => ?_) (fun c51 h => ?_)
                  · skip
                    cases h
                    refine runT_ok (LS := (fun k => if k = 65032 then some (l3_0E x3 ((l3_0R m (m + 24) x3 ((-1)) ((-1)) 0 (((withinI x0 (0) (30)), ((withinI x1 (1) (20)), (withinI x2 (1) (40))))) ((((withinI x0 (0) (30)), ((withinI x1 (1) (20)), (withinI x2 (1) (40)))), (false, ((0), (false, (([] : List (List UInt8)), (0))))))) ((((withinI x0 (0) (30)), ((withinI x1 (1) (20)), (withinI x2 (1) (40)))), (false, ((0), (false, (([] : List (List UInt8)), (0))))))) (([] : List (List UInt8)))).2.1) ((l3_0R m (m + 24) x3 ((-1)) ((-1)) 0 (((withinI x0 (0) (30)), ((withinI x1 (1) (20)), (withinI x2 (1) (40))))) ((((withinI x0 (0) (30)), ((withinI x1 (1) (20)), (withinI x2 (1) (40)))), (false, ((0), (false, (([] : List (List UInt8)), (0))))))) ((((withinI x0 (0) (30)), ((withinI x1 (1) (20)), (withinI x2 (1) (40)))), (false, ((0), (false, (([] : List (List UInt8)), (0))))))) (([] : List (List UInt8)))).2.2.1) ((l3_0R m (m + 24) x3 ((-1)) ((-1)) 0 (((withinI x0 (0) (30)), ((withinI x1 (1) (20)), (withinI x2 (1) (40))))) ((((withinI x0 (0) (30)), ((withinI x1 (1) (20)), (withinI x2 (1) (40)))), (false, ((0), (false, (([] : List (List UInt8)), (0))))))) ((((withinI x0 (0) (30)), ((withinI x1 (1) (20)), (withinI x2 (1) (40)))), (false, ((0), (false, (([] : List (List UInt8)), (0))))))) (([] : List (List UInt8)))).2.2.2.1) ((((withinI x0 (0) (30)), ((withinI x1 (1) (20)), (withinI x2 (1) (40)))))) ((l3_0R m (m + 24) x3 ((-1)) ((-1)) 0 (((withinI x0 (0) (30)), ((withinI x1 (1) (20)), (withinI x2 (1) (40))))) ((((withinI x0 (0) (30)), ((withinI x1 (1) (20)), (withinI x2 (1) (40)))), (false, ((0), (false, (([] : List (List UInt8)), (0))))))) ((((withinI x0 (0) (30)), ((withinI x1 (1) (20)), (withinI x2 (1) (40)))), (false, ((0), (false, (([] : List (List UInt8)), (0))))))) (([] : List (List UInt8)))).2.2.2.2.1) (((((withinI x0 (0) (30)), ((withinI x1 (1) (20)), (withinI x2 (1) (40)))), (false, ((0), (false, (([] : List (List UInt8)), (0)))))))) ((l3_0R m (m + 24) x3 ((-1)) ((-1)) 0 (((withinI x0 (0) (30)), ((withinI x1 (1) (20)), (withinI x2 (1) (40))))) ((((withinI x0 (0) (30)), ((withinI x1 (1) (20)), (withinI x2 (1) (40)))), (false, ((0), (false, (([] : List (List UInt8)), (0))))))) ((((withinI x0 (0) (30)), ((withinI x1 (1) (20)), (withinI x2 (1) (40)))), (false, ((0), (false, (([] : List (List UInt8)), (0))))))) (([] : List (List UInt8)))).2.2.2.2.2) 0) else if k = 1575424 then some (l3_1E ((l3_1R m (m + 24) ((-1)) 0 ((((withinI x0 (0) (30)), ((withinI x1 (1) (20)), (withinI x2 (1) (40)))))) (((((withinI x0 (0) (30)), ((withinI x1 (1) (20)), (withinI x2 (1) (40)))), (false, ((0), (false, (([] : List (List UInt8)), (0))))))))).2.1) ((l3_1R m (m + 24) ((-1)) 0 ((((withinI x0 (0) (30)), ((withinI x1 (1) (20)), (withinI x2 (1) (40)))))) (((((withinI x0 (0) (30)), ((withinI x1 (1) (20)), (withinI x2 (1) (40)))), (false, ((0), (false, (([] : List (List UInt8)), (0))))))))).2.2.1) (((((withinI x0 (0) (30)), ((withinI x1 (1) (20)), (withinI x2 (1) (40))))))) ((l3_1R m (m + 24) ((-1)) 0 ((((withinI x0 (0) (30)), ((withinI x1 (1) (20)), (withinI x2 (1) (40)))))) (((((withinI x0 (0) (30)), ((withinI x1 (1) (20)), (withinI x2 (1) (40)))), (false, ((0), (false, (([] : List (List UInt8)), (0))))))))).2.2.2) 0) else none)) (fn := fn3) (r := .d (.bool true)) (B' := []) (vis := [(65032, l3_0H x3 ((-1)) ((-1)) 0 (((withinI x0 (0) (30)), ((withinI x1 (1) (20)), (withinI x2 (1) (40))))) ((((withinI x0 (0) (30)), ((withinI x1 (1) (20)), (withinI x2 (1) (40)))), (false, ((0), (false, (([] : List (List UInt8)), (0))))))) ((((withinI x0 (0) (30)), ((withinI x1 (1) (20)), (withinI x2 (1) (40)))), (false, ((0), (false, (([] : List (List UInt8)), (0))))))) (([] : List (List UInt8))), l3_0B x3 ((-1)) ((-1)) 0 (((withinI x0 (0) (30)), ((withinI x1 (1) (20)), (withinI x2 (1) (40))))) ((((withinI x0 (0) (30)), ((withinI x1 (1) (20)), (withinI x2 (1) (40)))), (false, ((0), (false, (([] : List (List UInt8)), (0))))))) ((((withinI x0 (0) (30)), ((withinI x1 (1) (20)), (withinI x2 (1) (40)))), (false, ((0), (false, (([] : List (List UInt8)), (0))))))) (([] : List (List UInt8)))), (1575424, l3_1H ((-1)) 0 ((((withinI x0 (0) (30)), ((withinI x1 (1) (20)), (withinI x2 (1) (40)))))) (((((withinI x0 (0) (30)), ((withinI x1 (1) (20)), (withinI x2 (1) (40)))), (false, ((0), (false, (([] : List (List UInt8)), (0)))))))), l3_1B ((-1)) 0 ((((withinI x0 (0) (30)), ((withinI x1 (1) (20)), (withinI x2 (1) (40)))))) (((((withinI x0 (0) (30)), ((withinI x1 (1) (20)), (withinI x2 (1) (40)))), (false, ((0), (false, (([] : List (List UInt8)), (0)))))))))]) (by kernel_rfl) rfl (by kernel_rfl) (M.run_of_path _ [true, true, true, true, true, true, true, true, true, true, true, true, true, true, true, true, true, true, true, true, true, true, true, false, true, true, true, true, true, true, true, true, true, true, true, true, true, true, true, true, true, true, true, true, false, false, false, false, false, true, true] _ _ (by kernel_rfl) (all_t rfl (all_t rfl (all_t rfl (all_t c3 (all_t c3 (all_t c3 (all_t c3 (all_t c7 (all_t c7 (all_t c7 (all_t c10 (all_t c10 (all_t c10 (all_t c10 (all_t c7 (all_t c15 (all_t c15 (all_t c15 (all_t c18 (all_t c18 (all_t c18 (all_t c18 (all_t c15 (all_nt c23 (all_t c3 (all_t c3 (all_t c3 (all_t c3 (all_t c7 (all_t c7 (all_t c7 (all_t c10 (all_t c10 (all_t c10 (all_t c10 (all_t c7 (all_t c15 (all_t c15 (all_t c15 (all_t c18 (all_t c18 (all_t c18 (all_t c18 (all_t c15 (all_nt c23 (all_f Bool.false_ne_true (all_f Bool.false_ne_true (all_f Bool.false_ne_true (all_f Bool.false_ne_true (all_t c51 (all_t c51 all_nil)))))))))))))))))))))))))))))))))))))))))))))))))))) ?_
                    intro p hp p2 hq
                    rcases List.mem_cons.1 hp with rfl | hp
                    · skip
                      have h3 := l3_0_ok m (m + 24) x3 ((-1)) ((-1)) 0 (((withinI x0 (0) (30)), ((withinI x1 (1) (20)), (withinI x2 (1) (40))))) ((((withinI x0 (0) (30)), ((withinI x1 (1) (20)), (withinI x2 (1) (40)))), (false, ((0), (false, (([] : List (List UInt8)), (0))))))) ((((withinI x0 (0) (30)), ((withinI x1 (1) (20)), (withinI x2 (1) (40)))), (false, ((0), (false, (([] : List (List UInt8)), (0))))))) (([] : List (List UInt8))) _ (some_getD (d := l3_0D) c49)
                      exact Eq.trans (Eq.mp (by kernel_rfl) h3) hq
                    rcases List.mem_cons.1 hp with rfl | hp
                    · skip
                      have h3 := l3_1_ok m (m + 24) ((-1)) 0 ((((withinI x0 (0) (30)), ((withinI x1 (1) (20)), (withinI x2 (1) (40)))))) (((((withinI x0 (0) (30)), ((withinI x1 (1) (20)), (withinI x2 (1) (40)))), (false, ((0), (false, (([] : List (List UInt8)), (0)))))))) _ (some_getD (d := l3_1D) c50)
                      exact Eq.trans (Eq.mp (by kernel_rfl) h3) hq
                    cases hp
                  · skip
                    cases h
                · skip
                  cases h
              · skip
                cases h
            · skip
              cases h
          · skip
            cases h
        · skip
          cases h
      · skip
        cases h
    · skip
      cases h
  · skip
    cases h
theorem waits_at (x0 : Int) (x1 : Int) (x2 : Int) (x3 : List Int) (h : ∃ m q, waits m x0 x1 x2 x3 = some q) : ∃ g B', CallAt Try.prog 3 g ∧ (g [(.d (.int .i64 x0)), (.d (.int .i64 x1)), (.d (.int .i64 x2)), (.d (.sl (.int .i64) x3))] []).run = some (.d (.bool true), B') := by
  obtain ⟨m, q, h⟩ := h
  exact ⟨_, _, evCall_atH mixed kinds hds S7 S7_ok (m + 25) 3, waits_ok m x0 x1 x2 x3 q h⟩

end Go.Proofs.Ytkppbflmlpabjab.Dec
