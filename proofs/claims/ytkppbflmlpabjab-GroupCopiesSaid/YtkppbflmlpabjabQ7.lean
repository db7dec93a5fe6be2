/- GroupCopies, as a plain function. GroupCopies, as a plain function. GroupCopies, as a plain function. GroupCopies: its plain law. -/
import Derived.Test.YtkppbflmlpabjabQ6
import Derived.KernelRfl
namespace Go.Proofs.Ytkppbflmlpabjab.Dec
open Go.Ev
set_option linter.unusedVariables false
set_option linter.unusedSimpArgs false
set_option maxRecDepth 100000
set_option maxHeartbeats 20000000 in
theorem l6_0_w65 (m n : Nat) (x3 : List Int) (s13 : Int) (s15 : Int) (b0 : Int × Int × Int) (b1 : (Int × Int × Int) × Bool × Int × Bool × (List (List UInt8)) × Int) (b2 : (Int × Int × Int) × Bool × Int × Bool × (List (List UInt8)) × Int) (r : AEx × Env × Boxes) (c0 : decide (s15 < 60) = true) (c2 : decide (s15 < (l6_0_k7 x3)) = true) (c3 : decide (0 ≤ s15) = true) (c7 : ¬ (s15 == s13) = true) (c8 : b1.2.1 = true) (c14 : tickPre b1 s15 (l6_0_k1 x3 s15) = true) (c16 : tickPre b2 s15 (l6_0_k1 x3 s15) = true) (c17 : ((l6_0_k2 x3 s15 b1).2.1 == (l6_0_k5 x3 s15 b2).2.1) = true) (c20 : decide (l6_0_k8 x3 s15 b1) = true) (c23 : ((show List (List UInt8) from (l6_0_k2 x3 s15 b1).1) == (l6_0_k5 x3 s15 b2).1) = true) (c25 : ¬ (l6_0_k5 x3 s15 b2).2.2.2.1 = true) (c28 : ¬ (l6_0_k2 x3 s15 b1).2.2.2.1 = true) (c32 : (l6_0_k2 x3 s15 b1).2.1 = true) (c35 : decide (s15 ≥ b1.2.2.1) = true) (c54 : ¬ ((-1) != (l6_0_k9 s15 b0)) = true) (ih : (turns (hds 6 63496) 0 63496 (evC byref (evCall F S7 (m + 24)) (m + 24) 0 (hds 6) lbl6_0) n (l6_0H x3 1 s13 (l6_0_k4 s15) b0 ((l6_0_k2 x3 s15 b1).2.2) ((l6_0_k5 x3 s15 b2).2.2)) (l6_0B x3 1 s13 (l6_0_k4 s15) b0 ((l6_0_k2 x3 s15 b1).2.2) ((l6_0_k5 x3 s15 b2).2.2))).run = some r) : (turns (hds 6 63496) 0 63496 (evC byref (evCall F S7 (m + 24)) (m + 24) 0 (hds 6) lbl6_0) (n + 1) (l6_0_k70 x3 s13 s15 b0 b1 b2) (l6_0B x3 1 s13 s15 b0 b1 b2)).run = some r := by
  exact turns_step (M.run_of_path _ [true, true, true, true, true, true, true, false, true, true, true, false, true, true, true, true, true, false, false, false, true, false, false, false, false, true, false, false, true, false, false, false, true, true, true, false, false, false, false, false, false, false, false, true, true, true, true, true, true, true, true, false, true, false, false] _ _ (by kernel_rfl) (all_t c0 (all_t rfl (all_t c2 (all_t c3 (all_t c2 (all_t rfl (all_t rfl (all_f c7 (all_nnt c8 (all_nnt c8 (all_nnt c8 (all_nt c8 (all_nnt c8 (all_nnt c8 (all_t c14 (all_t rfl (all_t c16 (all_nt c17 (all_nt c17 (all_nt c17 (all_t c20 (all_nt c17 (all_nt c17 (all_nt c23 (all_nt c23 (all_nf c25 (all_nt c23 (all_nt c23 (all_nf c28 (all_nt c23 (all_nt c23 (all_f Bool.false_ne_true (all_t c32 (all_t c32 (all_t c32 (all_nt c35 (all_nt c35 (all_nt c35 (all_nt c35 (all_nt c35 (all_nt c35 (all_f Bool.false_ne_true (all_f Bool.false_ne_true (all_t c35 (all_t c35 (all_nf c28 (all_t c35 (all_t c35 (all_t c35 (all_t c35 (all_t c35 (all_f Bool.false_ne_true (all_t c35 (all_f Bool.false_ne_true (all_f c54 all_nil)))))))))))))))))))))))))))))))))))))))))))))))))))))))) ih
set_option maxHeartbeats 20000000 in
theorem l6_0_w66 (m n : Nat) (x3 : List Int) (s13 : Int) (s15 : Int) (b0 : Int × Int × Int) (b1 : (Int × Int × Int) × Bool × Int × Bool × (List (List UInt8)) × Int) (b2 : (Int × Int × Int) × Bool × Int × Bool × (List (List UInt8)) × Int) (r : AEx × Env × Boxes) (c0 : decide (s15 < 60) = true) (c2 : decide (s15 < (l6_0_k7 x3)) = true) (c3 : decide (0 ≤ s15) = true) (c7 : ¬ (s15 == s13) = true) (c8 : b1.2.1 = true) (c14 : tickPre b1 s15 (l6_0_k1 x3 s15) = true) (c16 : tickPre b2 s15 (l6_0_k1 x3 s15) = true) (c17 : ((l6_0_k2 x3 s15 b1).2.1 == (l6_0_k5 x3 s15 b2).2.1) = true) (c20 : decide (l6_0_k8 x3 s15 b1) = true) (c23 : ((show List (List UInt8) from (l6_0_k2 x3 s15 b1).1) == (l6_0_k5 x3 s15 b2).1) = true) (c25 : ¬ (l6_0_k5 x3 s15 b2).2.2.2.1 = true) (c28 : ¬ (l6_0_k2 x3 s15 b1).2.2.2.1 = true) (c32 : (l6_0_k2 x3 s15 b1).2.1 = true) (c35 : ¬ decide (s15 ≥ b1.2.2.1) = true) (c39 : ¬ decide (b0.1 > 0) = true) (c44 : ¬ decide (s15 > 0) = true) (ih : (turns (hds 6 63496) 0 63496 (evC byref (evCall F S7 (m + 24)) (m + 24) 0 (hds 6) lbl6_0) n (l6_0H x3 1 s13 (l6_0_k4 s15) b0 ((l6_0_k2 x3 s15 b1).2.2) ((l6_0_k5 x3 s15 b2).2.2)) (l6_0B x3 1 s13 (l6_0_k4 s15) b0 ((l6_0_k2 x3 s15 b1).2.2) ((l6_0_k5 x3 s15 b2).2.2))).run = some r) : (turns (hds 6 63496) 0 63496 (evC byref (evCall F S7 (m + 24)) (m + 24) 0 (hds 6) lbl6_0) (n + 1) (l6_0_k70 x3 s13 s15 b0 b1 b2) (l6_0B x3 1 s13 s15 b0 b1 b2)).run = some r := by
  exact turns_step (M.run_of_path _ [true, true, true, true, true, true, true, false, true, true, true, false, true, true, true, true, true, false, false, false, true, false, false, false, false, true, false, false, true, false, false, false, true, true, true, true, true, true, true, false, false, true, false, true, false, false, false, false, false, false, false, false, false, false, false, false, false] _ _ (by kernel_rfl) (all_t c0 (all_t rfl (all_t c2 (all_t c3 (all_t c2 (all_t rfl (all_t rfl (all_f c7 (all_nnt c8 (all_nnt c8 (all_nnt c8 (all_nt c8 (all_nnt c8 (all_nnt c8 (all_t c14 (all_t rfl (all_t c16 (all_nt c17 (all_nt c17 (all_nt c17 (all_t c20 (all_nt c17 (all_nt c17 (all_nt c23 (all_nt c23 (all_nf c25 (all_nt c23 (all_nt c23 (all_nf c28 (all_nt c23 (all_nt c23 (all_f Bool.false_ne_true (all_t c32 (all_t c32 (all_t c32 (all_nf c35 (all_nf c35 (all_nf c35 (all_nf c35 (all_f c39 (all_f c39 (all_nf c35 (all_f c39 (all_nf c35 (all_f c44 (all_f c44 (all_f c35 (all_f c35 (all_f c35 (all_f c35 (all_f c35 (all_f c35 (all_f c35 (all_f c44 (all_f c35 (all_f c44 (all_f Bool.false_ne_true all_nil)))))))))))))))))))))))))))))))))))))))))))))))))))))))))) ih
set_option maxHeartbeats 20000000 in
theorem l6_0_w67 (m n : Nat) (x3 : List Int) (s13 : Int) (s15 : Int) (b0 : Int × Int × Int) (b1 : (Int × Int × Int) × Bool × Int × Bool × (List (List UInt8)) × Int) (b2 : (Int × Int × Int) × Bool × Int × Bool × (List (List UInt8)) × Int) (r : AEx × Env × Boxes) (c0 : decide (s15 < 60) = true) (c2 : decide (s15 < (l6_0_k7 x3)) = true) (c3 : decide (0 ≤ s15) = true) (c7 : ¬ (s15 == s13) = true) (c8 : b1.2.1 = true) (c14 : tickPre b1 s15 (l6_0_k1 x3 s15) = true) (c16 : tickPre b2 s15 (l6_0_k1 x3 s15) = true) (c17 : ((l6_0_k2 x3 s15 b1).2.1 == (l6_0_k5 x3 s15 b2).2.1) = true) (c20 : decide (l6_0_k8 x3 s15 b1) = true) (c23 : ((show List (List UInt8) from (l6_0_k2 x3 s15 b1).1) == (l6_0_k5 x3 s15 b2).1) = true) (c25 : ¬ (l6_0_k5 x3 s15 b2).2.2.2.1 = true) (c28 : ¬ (l6_0_k2 x3 s15 b1).2.2.2.1 = true) (c32 : ¬ (l6_0_k2 x3 s15 b1).2.1 = true) (c43 : decide (s15 ≥ b1.2.2.1) = true) (c54 : ¬ ((-1) != (l6_0_k9 s15 b0)) = true) (ih : (turns (hds 6 63496) 0 63496 (evC byref (evCall F S7 (m + 24)) (m + 24) 0 (hds 6) lbl6_0) n (l6_0H x3 1 s13 (l6_0_k4 s15) b0 ((l6_0_k2 x3 s15 b1).2.2) ((l6_0_k5 x3 s15 b2).2.2)) (l6_0B x3 1 s13 (l6_0_k4 s15) b0 ((l6_0_k2 x3 s15 b1).2.2) ((l6_0_k5 x3 s15 b2).2.2))).run = some r) : (turns (hds 6 63496) 0 63496 (evC byref (evCall F S7 (m + 24)) (m + 24) 0 (hds 6) lbl6_0) (n + 1) (l6_0_k70 x3 s13 s15 b0 b1 b2) (l6_0B x3 1 s13 s15 b0 b1 b2)).run = some r := by
  exact turns_step (M.run_of_path _ [true, true, true, true, true, true, true, false, true, true, true, false, true, true, true, true, true, false, false, false, true, false, false, false, false, true, false, false, true, false, false, false, false, false, false, false, false, false, false, false, false, false, false, true, true, true, true, true, true, true, true, false, true, false, false] _ _ (by kernel_rfl) (all_t c0 (all_t rfl (all_t c2 (all_t c3 (all_t c2 (all_t rfl (all_t rfl (all_f c7 (all_nnt c8 (all_nnt c8 (all_nnt c8 (all_nt c8 (all_nnt c8 (all_nnt c8 (all_t c14 (all_t rfl (all_t c16 (all_nt c17 (all_nt c17 (all_nt c17 (all_t c20 (all_nt c17 (all_nt c17 (all_nt c23 (all_nt c23 (all_nf c25 (all_nt c23 (all_nt c23 (all_nf c28 (all_nt c23 (all_nt c23 (all_f Bool.false_ne_true (all_f c32 (all_f c32 (all_f c32 (all_f Bool.false_ne_true (all_f Bool.false_ne_true (all_f Bool.false_ne_true (all_f Bool.false_ne_true (all_f Bool.false_ne_true (all_f Bool.false_ne_true (all_f Bool.false_ne_true (all_f Bool.false_ne_true (all_t c43 (all_t c43 (all_nf c28 (all_t c43 (all_t c43 (all_t c43 (all_t c43 (all_t c43 (all_f Bool.false_ne_true (all_t c43 (all_f Bool.false_ne_true (all_f c54 all_nil)))))))))))))))))))))))))))))))))))))))))))))))))))))))) ih
set_option maxHeartbeats 20000000 in
theorem l6_0_w68 (m n : Nat) (x3 : List Int) (s13 : Int) (s15 : Int) (b0 : Int × Int × Int) (b1 : (Int × Int × Int) × Bool × Int × Bool × (List (List UInt8)) × Int) (b2 : (Int × Int × Int) × Bool × Int × Bool × (List (List UInt8)) × Int) (r : AEx × Env × Boxes) (c0 : decide (s15 < 60) = true) (c2 : decide (s15 < (l6_0_k7 x3)) = true) (c3 : decide (0 ≤ s15) = true) (c7 : ¬ (s15 == s13) = true) (c8 : b1.2.1 = true) (c14 : tickPre b1 s15 (l6_0_k1 x3 s15) = true) (c16 : tickPre b2 s15 (l6_0_k1 x3 s15) = true) (c17 : ((l6_0_k2 x3 s15 b1).2.1 == (l6_0_k5 x3 s15 b2).2.1) = true) (c20 : decide (l6_0_k8 x3 s15 b1) = true) (c23 : ((show List (List UInt8) from (l6_0_k2 x3 s15 b1).1) == (l6_0_k5 x3 s15 b2).1) = true) (c25 : ¬ (l6_0_k5 x3 s15 b2).2.2.2.1 = true) (c28 : ¬ (l6_0_k2 x3 s15 b1).2.2.2.1 = true) (c32 : ¬ (l6_0_k2 x3 s15 b1).2.1 = true) (c43 : ¬ decide (s15 ≥ b1.2.2.1) = true) (ih : (turns (hds 6 63496) 0 63496 (evC byref (evCall F S7 (m + 24)) (m + 24) 0 (hds 6) lbl6_0) n (l6_0H x3 1 s13 (l6_0_k4 s15) b0 ((l6_0_k2 x3 s15 b1).2.2) ((l6_0_k5 x3 s15 b2).2.2)) (l6_0B x3 1 s13 (l6_0_k4 s15) b0 ((l6_0_k2 x3 s15 b1).2.2) ((l6_0_k5 x3 s15 b2).2.2))).run = some r) : (turns (hds 6 63496) 0 63496 (evC byref (evCall F S7 (m + 24)) (m + 24) 0 (hds 6) lbl6_0) (n + 1) (l6_0_k70 x3 s13 s15 b0 b1 b2) (l6_0B x3 1 s13 s15 b0 b1 b2)).run = some r := by
  exact turns_step (M.run_of_path _ [true, true, true, true, true, true, true, false, true, true, true, false, true, true, true, true, true, false, false, false, true, false, false, false, false, true, false, false, true, false, false, false, false, false, false, false, false, false, false, false, false, false, false, false, false, false, false, false, false, false, false, false, false, false] _ _ (by kernel_rfl) (all_t c0 (all_t rfl (all_t c2 (all_t c3 (all_t c2 (all_t rfl (all_t rfl (all_f c7 (all_nnt c8 (all_nnt c8 (all_nnt c8 (all_nt c8 (all_nnt c8 (all_nnt c8 (all_t c14 (all_t rfl (all_t c16 (all_nt c17 (all_nt c17 (all_nt c17 (all_t c20 (all_nt c17 (all_nt c17 (all_nt c23 (all_nt c23 (all_nf c25 (all_nt c23 (all_nt c23 (all_nf c28 (all_nt c23 (all_nt c23 (all_f Bool.false_ne_true (all_f c32 (all_f c32 (all_f c32 (all_f Bool.false_ne_true (all_f Bool.false_ne_true (all_f Bool.false_ne_true (all_f Bool.false_ne_true (all_f Bool.false_ne_true (all_f Bool.false_ne_true (all_f Bool.false_ne_true (all_f Bool.false_ne_true (all_f c43 (all_f c43 (all_f c43 (all_f c43 (all_f c43 (all_f c43 (all_f c43 (all_f Bool.false_ne_true (all_f c43 (all_f Bool.false_ne_true (all_f Bool.false_ne_true all_nil))))))))))))))))))))))))))))))))))))))))))))))))))))))) ih
set_option maxHeartbeats 20000000 in
theorem l6_0_w69 (m n : Nat) (x3 : List Int) (s13 : Int) (s15 : Int) (b0 : Int × Int × Int) (b1 : (Int × Int × Int) × Bool × Int × Bool × (List (List UInt8)) × Int) (b2 : (Int × Int × Int) × Bool × Int × Bool × (List (List UInt8)) × Int) (r : AEx × Env × Boxes) (c0 : decide (s15 < 60) = true) (c2 : decide (s15 < (l6_0_k7 x3)) = true) (c3 : decide (0 ≤ s15) = true) (c7 : ¬ (s15 == s13) = true) (c8 : ¬ b1.2.1 = true) (c13 : tickPre b1 s15 (l6_0_k1 x3 s15) = true) (c15 : tickPre b2 s15 (l6_0_k1 x3 s15) = true) (c16 : ((l6_0_k2 x3 s15 b1).2.1 == (l6_0_k5 x3 s15 b2).2.1) = true) (c19 : decide (l6_0_k8 x3 s15 b1) = true) (c22 : ((show List (List UInt8) from (l6_0_k2 x3 s15 b1).1) == (l6_0_k5 x3 s15 b2).1) = true) (c24 : (l6_0_k5 x3 s15 b2).2.2.2.1 = true) (c27 : (l6_0_k2 x3 s15 b1).2.2.2.1 = true) (c30 : ¬ ((l6_0_k5 x3 s15 b2).2.2.2.2.1 != (l6_0_k2 x3 s15 b1).2.2.2.2.1) = true) (c31 : (l6_0_k2 x3 s15 b1).2.1 = true) (c38 : ¬ decide (b0.1 > 0) = true) (c43 : ¬ decide (s15 > 0) = true) (ih : (turns (hds 6 63496) 0 63496 (evC byref (evCall F S7 (m + 24)) (m + 24) 0 (hds 6) lbl6_0) n (l6_0H x3 1 s13 (l6_0_k4 s15) b0 ((l6_0_k2 x3 s15 b1).2.2) ((l6_0_k5 x3 s15 b2).2.2)) (l6_0B x3 1 s13 (l6_0_k4 s15) b0 ((l6_0_k2 x3 s15 b1).2.2) ((l6_0_k5 x3 s15 b2).2.2))).run = some r) : (turns (hds 6 63496) 0 63496 (evC byref (evCall F S7 (m + 24)) (m + 24) 0 (hds 6) lbl6_0) (n + 1) (l6_0_k70 x3 s13 s15 b0 b1 b2) (l6_0B x3 1 s13 s15 b0 b1 b2)).run = some r := by
  exact turns_step (M.run_of_path _ [true, true, true, true, true, true, true, false, false, false, false, false, false, true, true, true, false, false, false, true, false, false, false, false, false, false, false, false, false, false, false, true, true, true, true, true, true, true, false, false, true, false, true, false, false, false, false, false, false, false, false, false, false, false, false, false] _ _ (by kernel_rfl) (all_t c0 (all_t rfl (all_t c2 (all_t c3 (all_t c2 (all_t rfl (all_t rfl (all_f c7 (all_nnf c8 (all_nnf c8 (all_nnf c8 (all_nnf c8 (all_nnf c8 (all_t c13 (all_t rfl (all_t c15 (all_nt c16 (all_nt c16 (all_nt c16 (all_t c19 (all_nt c16 (all_nt c16 (all_nt c22 (all_nt c22 (all_nt c24 (all_nt c22 (all_nt c22 (all_nt c27 (all_nt c22 (all_nt c22 (all_f c30 (all_t c31 (all_t c31 (all_t c31 (all_t rfl (all_t rfl (all_t rfl (all_t rfl (all_f c38 (all_f c38 (all_t rfl (all_f c38 (all_t rfl (all_f c43 (all_f c43 (all_f Bool.false_ne_true (all_f Bool.false_ne_true (all_f Bool.false_ne_true (all_f Bool.false_ne_true (all_f Bool.false_ne_true (all_f Bool.false_ne_true (all_f Bool.false_ne_true (all_f c43 (all_f Bool.false_ne_true (all_f c43 (all_f Bool.false_ne_true all_nil))))))))))))))))))))))))))))))))))))))))))))))))))))))))) ih
set_option maxHeartbeats 20000000 in
theorem l6_0_w70 (m n : Nat) (x3 : List Int) (s13 : Int) (s15 : Int) (b0 : Int × Int × Int) (b1 : (Int × Int × Int) × Bool × Int × Bool × (List (List UInt8)) × Int) (b2 : (Int × Int × Int) × Bool × Int × Bool × (List (List UInt8)) × Int) (r : AEx × Env × Boxes) (c0 : decide (s15 < 60) = true) (c2 : decide (s15 < (l6_0_k7 x3)) = true) (c3 : decide (0 ≤ s15) = true) (c7 : ¬ (s15 == s13) = true) (c8 : ¬ b1.2.1 = true) (c13 : tickPre b1 s15 (l6_0_k1 x3 s15) = true) (c15 : tickPre b2 s15 (l6_0_k1 x3 s15) = true) (c16 : ((l6_0_k2 x3 s15 b1).2.1 == (l6_0_k5 x3 s15 b2).2.1) = true) (c19 : decide (l6_0_k8 x3 s15 b1) = true) (c22 : ((show List (List UInt8) from (l6_0_k2 x3 s15 b1).1) == (l6_0_k5 x3 s15 b2).1) = true) (c24 : (l6_0_k5 x3 s15 b2).2.2.2.1 = true) (c27 : (l6_0_k2 x3 s15 b1).2.2.2.1 = true) (c30 : ¬ ((l6_0_k5 x3 s15 b2).2.2.2.2.1 != (l6_0_k2 x3 s15 b1).2.2.2.2.1) = true) (c31 : ¬ (l6_0_k2 x3 s15 b1).2.1 = true) (ih : (turns (hds 6 63496) 0 63496 (evC byref (evCall F S7 (m + 24)) (m + 24) 0 (hds 6) lbl6_0) n (l6_0H x3 1 s13 (l6_0_k4 s15) b0 ((l6_0_k2 x3 s15 b1).2.2) ((l6_0_k5 x3 s15 b2).2.2)) (l6_0B x3 1 s13 (l6_0_k4 s15) b0 ((l6_0_k2 x3 s15 b1).2.2) ((l6_0_k5 x3 s15 b2).2.2))).run = some r) : (turns (hds 6 63496) 0 63496 (evC byref (evCall F S7 (m + 24)) (m + 24) 0 (hds 6) lbl6_0) (n + 1) (l6_0_k70 x3 s13 s15 b0 b1 b2) (l6_0B x3 1 s13 s15 b0 b1 b2)).run = some r := by
  exact turns_step (M.run_of_path _ [true, true, true, true, true, true, true, false, false, false, false, false, false, true, true, true, false, false, false, true, false, false, false, false, false, false, false, false, false, false, false, false, false, false, false, false, false, false, false, false, false, false, false, false, false, false, false, false, false, false, false, false, false] _ _ (by kernel_rfl) (all_t c0 (all_t rfl (all_t c2 (all_t c3 (all_t c2 (all_t rfl (all_t rfl (all_f c7 (all_nnf c8 (all_nnf c8 (all_nnf c8 (all_nnf c8 (all_nnf c8 (all_t c13 (all_t rfl (all_t c15 (all_nt c16 (all_nt c16 (all_nt c16 (all_t c19 (all_nt c16 (all_nt c16 (all_nt c22 (all_nt c22 (all_nt c24 (all_nt c22 (all_nt c22 (all_nt c27 (all_nt c22 (all_nt c22 (all_f c30 (all_f c31 (all_f c31 (all_f c31 (all_f Bool.false_ne_true (all_f Bool.false_ne_true (all_f Bool.false_ne_true (all_f Bool.false_ne_true (all_f Bool.false_ne_true (all_f Bool.false_ne_true (all_f Bool.false_ne_true (all_f Bool.false_ne_true (all_f Bool.false_ne_true (all_f Bool.false_ne_true (all_f Bool.false_ne_true (all_f Bool.false_ne_true (all_f Bool.false_ne_true (all_f Bool.false_ne_true (all_f Bool.false_ne_true (all_f Bool.false_ne_true (all_f Bool.false_ne_true (all_f Bool.false_ne_true (all_f Bool.false_ne_true all_nil)))))))))))))))))))))))))))))))))))))))))))))))))))))) ih
set_option maxHeartbeats 20000000 in
theorem l6_0_w71 (m n : Nat) (x3 : List Int) (s13 : Int) (s15 : Int) (b0 : Int × Int × Int) (b1 : (Int × Int × Int) × Bool × Int × Bool × (List (List UInt8)) × Int) (b2 : (Int × Int × Int) × Bool × Int × Bool × (List (List UInt8)) × Int) (r : AEx × Env × Boxes) (c0 : decide (s15 < 60) = true) (c2 : decide (s15 < (l6_0_k7 x3)) = true) (c3 : decide (0 ≤ s15) = true) (c7 : ¬ (s15 == s13) = true) (c8 : ¬ b1.2.1 = true) (c13 : tickPre b1 s15 (l6_0_k1 x3 s15) = true) (c15 : tickPre b2 s15 (l6_0_k1 x3 s15) = true) (c16 : ((l6_0_k2 x3 s15 b1).2.1 == (l6_0_k5 x3 s15 b2).2.1) = true) (c19 : decide (l6_0_k8 x3 s15 b1) = true) (c22 : ((show List (List UInt8) from (l6_0_k2 x3 s15 b1).1) == (l6_0_k5 x3 s15 b2).1) = true) (c24 : (l6_0_k5 x3 s15 b2).2.2.2.1 = true) (c27 : ¬ (l6_0_k2 x3 s15 b1).2.2.2.1 = true) (c30 : ¬ ((l6_0_k5 x3 s15 b2).2.2.2.2.1 != (-1)) = true) (c31 : (l6_0_k2 x3 s15 b1).2.1 = true) (c38 : ¬ decide (b0.1 > 0) = true) (c43 : ¬ decide (s15 > 0) = true) (ih : (turns (hds 6 63496) 0 63496 (evC byref (evCall F S7 (m + 24)) (m + 24) 0 (hds 6) lbl6_0) n (l6_0H x3 1 s13 (l6_0_k4 s15) b0 ((l6_0_k2 x3 s15 b1).2.2) ((l6_0_k5 x3 s15 b2).2.2)) (l6_0B x3 1 s13 (l6_0_k4 s15) b0 ((l6_0_k2 x3 s15 b1).2.2) ((l6_0_k5 x3 s15 b2).2.2))).run = some r) : (turns (hds 6 63496) 0 63496 (evC byref (evCall F S7 (m + 24)) (m + 24) 0 (hds 6) lbl6_0) (n + 1) (l6_0_k70 x3 s13 s15 b0 b1 b2) (l6_0B x3 1 s13 s15 b0 b1 b2)).run = some r := by
  exact turns_step (M.run_of_path _ [true, true, true, true, true, true, true, false, false, false, false, false, false, true, true, true, false, false, false, true, false, false, false, false, false, false, false, true, false, false, false, true, true, true, true, true, true, true, false, false, true, false, true, false, false, false, false, false, false, false, false, false, false, false, false, false] _ _ (by kernel_rfl) (all_t c0 (all_t rfl (all_t c2 (all_t c3 (all_t c2 (all_t rfl (all_t rfl (all_f c7 (all_nnf c8 (all_nnf c8 (all_nnf c8 (all_nnf c8 (all_nnf c8 (all_t c13 (all_t rfl (all_t c15 (all_nt c16 (all_nt c16 (all_nt c16 (all_t c19 (all_nt c16 (all_nt c16 (all_nt c22 (all_nt c22 (all_nt c24 (all_nt c22 (all_nt c22 (all_nf c27 (all_nt c22 (all_nt c22 (all_f c30 (all_t c31 (all_t c31 (all_t c31 (all_t rfl (all_t rfl (all_t rfl (all_t rfl (all_f c38 (all_f c38 (all_t rfl (all_f c38 (all_t rfl (all_f c43 (all_f c43 (all_f Bool.false_ne_true (all_f Bool.false_ne_true (all_f Bool.false_ne_true (all_f Bool.false_ne_true (all_f Bool.false_ne_true (all_f Bool.false_ne_true (all_f Bool.false_ne_true (all_f c43 (all_f Bool.false_ne_true (all_f c43 (all_f Bool.false_ne_true all_nil))))))))))))))))))))))))))))))))))))))))))))))))))))))))) ih
set_option maxHeartbeats 20000000 in
theorem l6_0_w72 (m n : Nat) (x3 : List Int) (s13 : Int) (s15 : Int) (b0 : Int × Int × Int) (b1 : (Int × Int × Int) × Bool × Int × Bool × (List (List UInt8)) × Int) (b2 : (Int × Int × Int) × Bool × Int × Bool × (List (List UInt8)) × Int) (r : AEx × Env × Boxes) (c0 : decide (s15 < 60) = true) (c2 : decide (s15 < (l6_0_k7 x3)) = true) (c3 : decide (0 ≤ s15) = true) (c7 : ¬ (s15 == s13) = true) (c8 : ¬ b1.2.1 = true) (c13 : tickPre b1 s15 (l6_0_k1 x3 s15) = true) (c15 : tickPre b2 s15 (l6_0_k1 x3 s15) = true) (c16 : ((l6_0_k2 x3 s15 b1).2.1 == (l6_0_k5 x3 s15 b2).2.1) = true) (c19 : decide (l6_0_k8 x3 s15 b1) = true) (c22 : ((show List (List UInt8) from (l6_0_k2 x3 s15 b1).1) == (l6_0_k5 x3 s15 b2).1) = true) (c24 : (l6_0_k5 x3 s15 b2).2.2.2.1 = true) (c27 : ¬ (l6_0_k2 x3 s15 b1).2.2.2.1 = true) (c30 : ¬ ((l6_0_k5 x3 s15 b2).2.2.2.2.1 != (-1)) = true) (c31 : ¬ (l6_0_k2 x3 s15 b1).2.1 = true) (ih : (turns (hds 6 63496) 0 63496 (evC byref (evCall F S7 (m + 24)) (m + 24) 0 (hds 6) lbl6_0) n (l6_0H x3 1 s13 (l6_0_k4 s15) b0 ((l6_0_k2 x3 s15 b1).2.2) ((l6_0_k5 x3 s15 b2).2.2)) (l6_0B x3 1 s13 (l6_0_k4 s15) b0 ((l6_0_k2 x3 s15 b1).2.2) ((l6_0_k5 x3 s15 b2).2.2))).run = some r) : (turns (hds 6 63496) 0 63496 (evC byref (evCall F S7 (m + 24)) (m + 24) 0 (hds 6) lbl6_0) (n + 1) (l6_0_k70 x3 s13 s15 b0 b1 b2) (l6_0B x3 1 s13 s15 b0 b1 b2)).run = some r := by
  exact turns_step (M.run_of_path _ [true, true, true, true, true, true, true, false, false, false, false, false, false, true, true, true, false, false, false, true, false, false, false, false, false, false, false, true, false, false, false, false, false, false, false, false, false, false, false, false, false, false, false, false, false, false, false, false, false, false, false, false, false] _ _ (by kernel_rfl) (all_t c0 (all_t rfl (all_t c2 (all_t c3 (all_t c2 (all_t rfl (all_t rfl (all_f c7 (all_nnf c8 (all_nnf c8 (all_nnf c8 (all_nnf c8 (all_nnf c8 (all_t c13 (all_t rfl (all_t c15 (all_nt c16 (all_nt c16 (all_nt c16 (all_t c19 (all_nt c16 (all_nt c16 (all_nt c22 (all_nt c22 (all_nt c24 (all_nt c22 (all_nt c22 (all_nf c27 (all_nt c22 (all_nt c22 (all_f c30 (all_f c31 (all_f c31 (all_f c31 (all_f Bool.false_ne_true (all_f Bool.false_ne_true (all_f Bool.false_ne_true (all_f Bool.false_ne_true (all_f Bool.false_ne_true (all_f Bool.false_ne_true (all_f Bool.false_ne_true (all_f Bool.false_ne_true (all_f Bool.false_ne_true (all_f Bool.false_ne_true (all_f Bool.false_ne_true (all_f Bool.false_ne_true (all_f Bool.false_ne_true (all_f Bool.false_ne_true (all_f Bool.false_ne_true (all_f Bool.false_ne_true (all_f Bool.false_ne_true (all_f Bool.false_ne_true (all_f Bool.false_ne_true all_nil)))))))))))))))))))))))))))))))))))))))))))))))))))))) ih
set_option maxHeartbeats 20000000 in
theorem l6_0_w73 (m n : Nat) (x3 : List Int) (s13 : Int) (s15 : Int) (b0 : Int × Int × Int) (b1 : (Int × Int × Int) × Bool × Int × Bool × (List (List UInt8)) × Int) (b2 : (Int × Int × Int) × Bool × Int × Bool × (List (List UInt8)) × Int) (r : AEx × Env × Boxes) (c0 : decide (s15 < 60) = true) (c2 : decide (s15 < (l6_0_k7 x3)) = true) (c3 : decide (0 ≤ s15) = true) (c7 : ¬ (s15 == s13) = true) (c8 : ¬ b1.2.1 = true) (c13 : tickPre b1 s15 (l6_0_k1 x3 s15) = true) (c15 : tickPre b2 s15 (l6_0_k1 x3 s15) = true) (c16 : ((l6_0_k2 x3 s15 b1).2.1 == (l6_0_k5 x3 s15 b2).2.1) = true) (c19 : decide (l6_0_k8 x3 s15 b1) = true) (c22 : ((show List (List UInt8) from (l6_0_k2 x3 s15 b1).1) == (l6_0_k5 x3 s15 b2).1) = true) (c24 : ¬ (l6_0_k5 x3 s15 b2).2.2.2.1 = true) (c27 : (l6_0_k2 x3 s15 b1).2.2.2.1 = true) (c30 : ¬ ((-1) != (l6_0_k2 x3 s15 b1).2.2.2.2.1) = true) (c31 : (l6_0_k2 x3 s15 b1).2.1 = true) (c38 : ¬ decide (b0.1 > 0) = true) (c43 : ¬ decide (s15 > 0) = true) (ih : (turns (hds 6 63496) 0 63496 (evC byref (evCall F S7 (m + 24)) (m + 24) 0 (hds 6) lbl6_0) n (l6_0H x3 1 s13 (l6_0_k4 s15) b0 ((l6_0_k2 x3 s15 b1).2.2) ((l6_0_k5 x3 s15 b2).2.2)) (l6_0B x3 1 s13 (l6_0_k4 s15) b0 ((l6_0_k2 x3 s15 b1).2.2) ((l6_0_k5 x3 s15 b2).2.2))).run = some r) : (turns (hds 6 63496) 0 63496 (evC byref (evCall F S7 (m + 24)) (m + 24) 0 (hds 6) lbl6_0) (n + 1) (l6_0_k70 x3 s13 s15 b0 b1 b2) (l6_0B x3 1 s13 s15 b0 b1 b2)).run = some r := by
  exact turns_step (M.run_of_path _ [true, true, true, true, true, true, true, false, false, false, false, false, false, true, true, true, false, false, false, true, false, false, false, false, true, false, false, false, false, false, false, true, true, true, true, true, true, true, false, false, true, false, true, false, false, false, false, false, false, false, false, false, false, false, false, false] _ _ (by kernel_rfl) (all_t c0 (all_t rfl (all_t c2 (all_t c3 (all_t c2 (all_t rfl (all_t rfl (all_f c7 (all_nnf c8 (all_nnf c8 (all_nnf c8 (all_nnf c8 (all_nnf c8 (all_t c13 (all_t rfl (all_t c15 (all_nt c16 (all_nt c16 (all_nt c16 (all_t c19 (all_nt c16 (all_nt c16 (all_nt c22 (all_nt c22 (all_nf c24 (all_nt c22 (all_nt c22 (all_nt c27 (all_nt c22 (all_nt c22 (all_f c30 (all_t c31 (all_t c31 (all_t c31 (all_t rfl (all_t rfl (all_t rfl (all_t rfl (all_f c38 (all_f c38 (all_t rfl (all_f c38 (all_t rfl (all_f c43 (all_f c43 (all_f Bool.false_ne_true (all_f Bool.false_ne_true (all_f Bool.false_ne_true (all_f Bool.false_ne_true (all_f Bool.false_ne_true (all_f Bool.false_ne_true (all_f Bool.false_ne_true (all_f c43 (all_f Bool.false_ne_true (all_f c43 (all_f Bool.false_ne_true all_nil))))))))))))))))))))))))))))))))))))))))))))))))))))))))) ih
set_option maxHeartbeats 20000000 in
theorem l6_0_w74 (m n : Nat) (x3 : List Int) (s13 : Int) (s15 : Int) (b0 : Int × Int × Int) (b1 : (Int × Int × Int) × Bool × Int × Bool × (List (List UInt8)) × Int) (b2 : (Int × Int × Int) × Bool × Int × Bool × (List (List UInt8)) × Int) (r : AEx × Env × Boxes) (c0 : decide (s15 < 60) = true) (c2 : decide (s15 < (l6_0_k7 x3)) = true) (c3 : decide (0 ≤ s15) = true) (c7 : ¬ (s15 == s13) = true) (c8 : ¬ b1.2.1 = true) (c13 : tickPre b1 s15 (l6_0_k1 x3 s15) = true) (c15 : tickPre b2 s15 (l6_0_k1 x3 s15) = true) (c16 : ((l6_0_k2 x3 s15 b1).2.1 == (l6_0_k5 x3 s15 b2).2.1) = true) (c19 : decide (l6_0_k8 x3 s15 b1) = true) (c22 : ((show List (List UInt8) from (l6_0_k2 x3 s15 b1).1) == (l6_0_k5 x3 s15 b2).1) = true) (c24 : ¬ (l6_0_k5 x3 s15 b2).2.2.2.1 = true) (c27 : (l6_0_k2 x3 s15 b1).2.2.2.1 = true) (c30 : ¬ ((-1) != (l6_0_k2 x3 s15 b1).2.2.2.2.1) = true) (c31 : ¬ (l6_0_k2 x3 s15 b1).2.1 = true) (ih : (turns (hds 6 63496) 0 63496 (evC byref (evCall F S7 (m + 24)) (m + 24) 0 (hds 6) lbl6_0) n (l6_0H x3 1 s13 (l6_0_k4 s15) b0 ((l6_0_k2 x3 s15 b1).2.2) ((l6_0_k5 x3 s15 b2).2.2)) (l6_0B x3 1 s13 (l6_0_k4 s15) b0 ((l6_0_k2 x3 s15 b1).2.2) ((l6_0_k5 x3 s15 b2).2.2))).run = some r) : (turns (hds 6 63496) 0 63496 (evC byref (evCall F S7 (m + 24)) (m + 24) 0 (hds 6) lbl6_0) (n + 1) (l6_0_k70 x3 s13 s15 b0 b1 b2) (l6_0B x3 1 s13 s15 b0 b1 b2)).run = some r := by
  exact turns_step (M.run_of_path _ [true, true, true, true, true, true, true, false, false, false, false, false, false, true, true, true, false, false, false, true, false, false, false, false, true, false, false, false, false, false, false, false, false, false, false, false, false, false, false, false, false, false, false, false, false, false, false, false, false, false, false, false, false] _ _ (by kernel_rfl) (all_t c0 (all_t rfl (all_t c2 (all_t c3 (all_t c2 (all_t rfl (all_t rfl (all_f c7 (all_nnf c8 (all_nnf c8 (all_nnf c8 (all_nnf c8 (all_nnf c8 (all_t c13 (all_t rfl (all_t c15 (all_nt c16 (all_nt c16 (all_nt c16 (all_t c19 (all_nt c16 (all_nt c16 (all_nt c22 (all_nt c22 (all_nf c24 (all_nt c22 (all_nt c22 (all_nt c27 (all_nt c22 (all_nt c22 (all_f c30 (all_f c31 (all_f c31 (all_f c31 (all_f Bool.false_ne_true (all_f Bool.false_ne_true (all_f Bool.false_ne_true (all_f Bool.false_ne_true (all_f Bool.false_ne_true (all_f Bool.false_ne_true (all_f Bool.false_ne_true (all_f Bool.false_ne_true (all_f Bool.false_ne_true (all_f Bool.false_ne_true (all_f Bool.false_ne_true (all_f Bool.false_ne_true (all_f Bool.false_ne_true (all_f Bool.false_ne_true (all_f Bool.false_ne_true (all_f Bool.false_ne_true (all_f Bool.false_ne_true (all_f Bool.false_ne_true (all_f Bool.false_ne_true all_nil)))))))))))))))))))))))))))))))))))))))))))))))))))))) ih
set_option maxHeartbeats 20000000 in
theorem l6_0_w75 (m n : Nat) (x3 : List Int) (s13 : Int) (s15 : Int) (b0 : Int × Int × Int) (b1 : (Int × Int × Int) × Bool × Int × Bool × (List (List UInt8)) × Int) (b2 : (Int × Int × Int) × Bool × Int × Bool × (List (List UInt8)) × Int) (r : AEx × Env × Boxes) (c0 : decide (s15 < 60) = true) (c2 : decide (s15 < (l6_0_k7 x3)) = true) (c3 : decide (0 ≤ s15) = true) (c7 : ¬ (s15 == s13) = true) (c8 : ¬ b1.2.1 = true) (c13 : tickPre b1 s15 (l6_0_k1 x3 s15) = true) (c15 : tickPre b2 s15 (l6_0_k1 x3 s15) = true) (c16 : ((l6_0_k2 x3 s15 b1).2.1 == (l6_0_k5 x3 s15 b2).2.1) = true) (c19 : decide (l6_0_k8 x3 s15 b1) = true) (c22 : ((show List (List UInt8) from (l6_0_k2 x3 s15 b1).1) == (l6_0_k5 x3 s15 b2).1) = true) (c24 : ¬ (l6_0_k5 x3 s15 b2).2.2.2.1 = true) (c27 : ¬ (l6_0_k2 x3 s15 b1).2.2.2.1 = true) (c31 : (l6_0_k2 x3 s15 b1).2.1 = true) (c38 : ¬ decide (b0.1 > 0) = true) (c43 : ¬ decide (s15 > 0) = true) (ih : (turns (hds 6 63496) 0 63496 (evC byref (evCall F S7 (m + 24)) (m + 24) 0 (hds 6) lbl6_0) n (l6_0H x3 1 s13 (l6_0_k4 s15) b0 ((l6_0_k2 x3 s15 b1).2.2) ((l6_0_k5 x3 s15 b2).2.2)) (l6_0B x3 1 s13 (l6_0_k4 s15) b0 ((l6_0_k2 x3 s15 b1).2.2) ((l6_0_k5 x3 s15 b2).2.2))).run = some r) : (turns (hds 6 63496) 0 63496 (evC byref (evCall F S7 (m + 24)) (m + 24) 0 (hds 6) lbl6_0) (n + 1) (l6_0_k70 x3 s13 s15 b0 b1 b2) (l6_0B x3 1 s13 s15 b0 b1 b2)).run = some r := by
  exact turns_step (M.run_of_path _ [true, true, true, true, true, true, true, false, false, false, false, false, false, true, true, true, false, false, false, true, false, false, false, false, true, false, false, true, false, false, false, true, true, true, true, true, true, true, false, false, true, false, true, false, false, false, false, false, false, false, false, false, false, false, false, false] _ _ (by kernel_rfl) (all_t c0 (all_t rfl (all_t c2 (all_t c3 (all_t c2 (all_t rfl (all_t rfl (all_f c7 (all_nnf c8 (all_nnf c8 (all_nnf c8 (all_nnf c8 (all_nnf c8 (all_t c13 (all_t rfl (all_t c15 (all_nt c16 (all_nt c16 (all_nt c16 (all_t c19 (all_nt c16 (all_nt c16 (all_nt c22 (all_nt c22 (all_nf c24 (all_nt c22 (all_nt c22 (all_nf c27 (all_nt c22 (all_nt c22 (all_f Bool.false_ne_true (all_t c31 (all_t c31 (all_t c31 (all_t rfl (all_t rfl (all_t rfl (all_t rfl (all_f c38 (all_f c38 (all_t rfl (all_f c38 (all_t rfl (all_f c43 (all_f c43 (all_f Bool.false_ne_true (all_f Bool.false_ne_true (all_f Bool.false_ne_true (all_f Bool.false_ne_true (all_f Bool.false_ne_true (all_f Bool.false_ne_true (all_f Bool.false_ne_true (all_f c43 (all_f Bool.false_ne_true (all_f c43 (all_f Bool.false_ne_true all_nil))))))))))))))))))))))))))))))))))))))))))))))))))))))))) ih
set_option maxHeartbeats 20000000 in
theorem l6_0_w76 (m n : Nat) (x3 : List Int) (s13 : Int) (s15 : Int) (b0 : Int × Int × Int) (b1 : (Int × Int × Int) × Bool × Int × Bool × (List (List UInt8)) × Int) (b2 : (Int × Int × Int) × Bool × Int × Bool × (List (List UInt8)) × Int) (r : AEx × Env × Boxes) (c0 : decide (s15 < 60) = true) (c2 : decide (s15 < (l6_0_k7 x3)) = true) (c3 : decide (0 ≤ s15) = true) (c7 : ¬ (s15 == s13) = true) (c8 : ¬ b1.2.1 = true) (c13 : tickPre b1 s15 (l6_0_k1 x3 s15) = true) (c15 : tickPre b2 s15 (l6_0_k1 x3 s15) = true) (c16 : ((l6_0_k2 x3 s15 b1).2.1 == (l6_0_k5 x3 s15 b2).2.1) = true) (c19 : decide (l6_0_k8 x3 s15 b1) = true) (c22 : ((show List (List UInt8) from (l6_0_k2 x3 s15 b1).1) == (l6_0_k5 x3 s15 b2).1) = true) (c24 : ¬ (l6_0_k5 x3 s15 b2).2.2.2.1 = true) (c27 : ¬ (l6_0_k2 x3 s15 b1).2.2.2.1 = true) (c31 : ¬ (l6_0_k2 x3 s15 b1).2.1 = true) (ih : (turns (hds 6 63496) 0 63496 (evC byref (evCall F S7 (m + 24)) (m + 24) 0 (hds 6) lbl6_0) n (l6_0H x3 1 s13 (l6_0_k4 s15) b0 ((l6_0_k2 x3 s15 b1).2.2) ((l6_0_k5 x3 s15 b2).2.2)) (l6_0B x3 1 s13 (l6_0_k4 s15) b0 ((l6_0_k2 x3 s15 b1).2.2) ((l6_0_k5 x3 s15 b2).2.2))).run = some r) : (turns (hds 6 63496) 0 63496 (evC byref (evCall F S7 (m + 24)) (m + 24) 0 (hds 6) lbl6_0) (n + 1) (l6_0_k70 x3 s13 s15 b0 b1 b2) (l6_0B x3 1 s13 s15 b0 b1 b2)).run = some r := by
  exact turns_step (M.run_of_path _ [true, true, true, true, true, true, true, false, false, false, false, false, false, true, true, true, false, false, false, true, false, false, false, false, true, false, false, true, false, false, false, false, false, false, false, false, false, false, false, false, false, false, false, false, false, false, false, false, false, false, false, false, false] _ _ (by kernel_rfl) (all_t c0 (all_t rfl (all_t c2 (all_t c3 (all_t c2 (all_t rfl (all_t rfl (all_f c7 (all_nnf c8 (all_nnf c8 (all_nnf c8 (all_nnf c8 (all_nnf c8 (all_t c13 (all_t rfl (all_t c15 (all_nt c16 (all_nt c16 (all_nt c16 (all_t c19 (all_nt c16 (all_nt c16 (all_nt c22 (all_nt c22 (all_nf c24 (all_nt c22 (all_nt c22 (all_nf c27 (all_nt c22 (all_nt c22 (all_f Bool.false_ne_true (all_f c31 (all_f c31 (all_f c31 (all_f Bool.false_ne_true (all_f Bool.false_ne_true (all_f Bool.false_ne_true (all_f Bool.false_ne_true (all_f Bool.false_ne_true (all_f Bool.false_ne_true (all_f Bool.false_ne_true (all_f Bool.false_ne_true (all_f Bool.false_ne_true (all_f Bool.false_ne_true (all_f Bool.false_ne_true (all_f Bool.false_ne_true (all_f Bool.false_ne_true (all_f Bool.false_ne_true (all_f Bool.false_ne_true (all_f Bool.false_ne_true (all_f Bool.false_ne_true (all_f Bool.false_ne_true (all_f Bool.false_ne_true all_nil)))))))))))))))))))))))))))))))))))))))))))))))))))))) ih
set_option maxHeartbeats 20000000 in
theorem l6_0_w77 (m n : Nat) (x3 : List Int) (s13 : Int) (s15 : Int) (b0 : Int × Int × Int) (b1 : (Int × Int × Int) × Bool × Int × Bool × (List (List UInt8)) × Int) (b2 : (Int × Int × Int) × Bool × Int × Bool × (List (List UInt8)) × Int) (r : AEx × Env × Boxes) (c0 : decide (s15 < 60) = true) (c2 : ¬ decide (s15 < (l6_0_k7 x3)) = true) (c3 : (s15 == s13) = true) (c4 : decide (l6_0_k11 b1) = true) (c6 : b1.2.1 = true) (c12 : tickPre b1 s15 (alertsG (3)) = true) (c15 : ((l6_0_k3 s15 b1).2.1 == (l6_0_k3 s15 b1).2.1) = true) (c18 : decide (l6_0_k10 s15 b1) = true) (c21 : ((show List (List UInt8) from (l6_0_k3 s15 b1).1) == (l6_0_k3 s15 b1).1) = true) (c23 : (l6_0_k3 s15 b1).2.2.2.1 = true) (c29 : ¬ ((l6_0_k3 s15 b1).2.2.2.2.1 != (l6_0_k3 s15 b1).2.2.2.2.1) = true) (c30 : (l6_0_k3 s15 b1).2.1 = true) (c33 : decide (s15 ≥ b1.2.2.1) = true) (c52 : ¬ ((l6_0_k3 s15 b1).2.2.2.2.1 != (l6_0_k9 s15 b0)) = true) (ih : (turns (hds 6 63496) 0 63496 (evC byref (evCall F S7 (m + 24)) (m + 24) 0 (hds 6) lbl6_0) n (l6_0H x3 1 s13 (l6_0_k4 s15) b0 ((l6_0_k3 s15 b1).2.2) ((l6_0_k3 s15 b1).2.2)) (l6_0B x3 1 s13 (l6_0_k4 s15) b0 ((l6_0_k3 s15 b1).2.2) ((l6_0_k3 s15 b1).2.2))).run = some r) : (turns (hds 6 63496) 0 63496 (evC byref (evCall F S7 (m + 24)) (m + 24) 0 (hds 6) lbl6_0) (n + 1) (l6_0_k70 x3 s13 s15 b0 b1 b2) (l6_0B x3 1 s13 s15 b0 b1 b2)).run = some r := by
  exact turns_step (M.run_of_path _ [true, true, false, true, true, false, true, true, true, false, true, true, true, true, true, false, false, false, true, false, false, false, false, false, false, false, false, false, false, false, true, true, true, false, false, false, false, false, false, false, false, true, true, false, true, true, true, true, true, false, true, false, false] _ _ (by kernel_rfl) (all_t c0 (all_t rfl (all_f c2 (all_t c3 (all_t c4 (all_f Bool.false_ne_true (all_nnt c6 (all_nnt c6 (all_nnt c6 (all_nt c6 (all_nnt c6 (all_nnt c6 (all_t c12 (all_t rfl (all_t c12 (all_nt c15 (all_nt c15 (all_nt c15 (all_t c18 (all_nt c15 (all_nt c15 (all_nt c21 (all_nt c21 (all_nt c23 (all_nt c21 (all_nt c21 (all_nt c23 (all_nt c21 (all_nt c21 (all_f c29 (all_t c30 (all_t c30 (all_t c30 (all_nt c33 (all_nt c33 (all_nt c33 (all_nt c33 (all_nt c33 (all_nt c33 (all_f Bool.false_ne_true (all_f Bool.false_ne_true (all_t c33 (all_t c33 (all_nt c23 (all_t c33 (all_t c33 (all_t c33 (all_t c33 (all_t c33 (all_f Bool.false_ne_true (all_t c33 (all_f Bool.false_ne_true (all_f c52 all_nil)))))))))))))))))))))))))))))))))))))))))))))))))))))) ih
set_option maxHeartbeats 20000000 in
theorem l6_0_w78 (m n : Nat) (x3 : List Int) (s13 : Int) (s15 : Int) (b0 : Int × Int × Int) (b1 : (Int × Int × Int) × Bool × Int × Bool × (List (List UInt8)) × Int) (b2 : (Int × Int × Int) × Bool × Int × Bool × (List (List UInt8)) × Int) (r : AEx × Env × Boxes) (c0 : decide (s15 < 60) = true) (c2 : ¬ decide (s15 < (l6_0_k7 x3)) = true) (c3 : (s15 == s13) = true) (c4 : decide (l6_0_k11 b1) = true) (c6 : b1.2.1 = true) (c12 : tickPre b1 s15 (alertsG (3)) = true) (c15 : ((l6_0_k3 s15 b1).2.1 == (l6_0_k3 s15 b1).2.1) = true) (c18 : decide (l6_0_k10 s15 b1) = true) (c21 : ((show List (List UInt8) from (l6_0_k3 s15 b1).1) == (l6_0_k3 s15 b1).1) = true) (c23 : (l6_0_k3 s15 b1).2.2.2.1 = true) (c29 : ¬ ((l6_0_k3 s15 b1).2.2.2.2.1 != (l6_0_k3 s15 b1).2.2.2.2.1) = true) (c30 : (l6_0_k3 s15 b1).2.1 = true) (c33 : ¬ decide (s15 ≥ b1.2.2.1) = true) (c37 : ¬ decide (b0.1 > 0) = true) (c42 : ¬ decide (s15 > 0) = true) (ih : (turns (hds 6 63496) 0 63496 (evC byref (evCall F S7 (m + 24)) (m + 24) 0 (hds 6) lbl6_0) n (l6_0H x3 1 s13 (l6_0_k4 s15) b0 ((l6_0_k3 s15 b1).2.2) ((l6_0_k3 s15 b1).2.2)) (l6_0B x3 1 s13 (l6_0_k4 s15) b0 ((l6_0_k3 s15 b1).2.2) ((l6_0_k3 s15 b1).2.2))).run = some r) : (turns (hds 6 63496) 0 63496 (evC byref (evCall F S7 (m + 24)) (m + 24) 0 (hds 6) lbl6_0) (n + 1) (l6_0_k70 x3 s13 s15 b0 b1 b2) (l6_0B x3 1 s13 s15 b0 b1 b2)).run = some r := by
  exact turns_step (M.run_of_path _ [true, true, false, true, true, false, true, true, true, false, true, true, true, true, true, false, false, false, true, false, false, false, false, false, false, false, false, false, false, false, true, true, true, true, true, true, true, false, false, true, false, true, false, false, false, false, false, false, false, false, false, false, false, false, false] _ _ (by kernel_rfl) (all_t c0 (all_t rfl (all_f c2 (all_t c3 (all_t c4 (all_f Bool.false_ne_true (all_nnt c6 (all_nnt c6 (all_nnt c6 (all_nt c6 (all_nnt c6 (all_nnt c6 (all_t c12 (all_t rfl (all_t c12 (all_nt c15 (all_nt c15 (all_nt c15 (all_t c18 (all_nt c15 (all_nt c15 (all_nt c21 (all_nt c21 (all_nt c23 (all_nt c21 (all_nt c21 (all_nt c23 (all_nt c21 (all_nt c21 (all_f c29 (all_t c30 (all_t c30 (all_t c30 (all_nf c33 (all_nf c33 (all_nf c33 (all_nf c33 (all_f c37 (all_f c37 (all_nf c33 (all_f c37 (all_nf c33 (all_f c42 (all_f c42 (all_f c33 (all_f c33 (all_f c33 (all_f c33 (all_f c33 (all_f c33 (all_f c33 (all_f c42 (all_f c33 (all_f c42 (all_f Bool.false_ne_true all_nil)))))))))))))))))))))))))))))))))))))))))))))))))))))))) ih
set_option maxHeartbeats 20000000 in
theorem l6_0_w79 (m n : Nat) (x3 : List Int) (s13 : Int) (s15 : Int) (b0 : Int × Int × Int) (b1 : (Int × Int × Int) × Bool × Int × Bool × (List (List UInt8)) × Int) (b2 : (Int × Int × Int) × Bool × Int × Bool × (List (List UInt8)) × Int) (r : AEx × Env × Boxes) (c0 : decide (s15 < 60) = true) (c2 : ¬ decide (s15 < (l6_0_k7 x3)) = true) (c3 : (s15 == s13) = true) (c4 : decide (l6_0_k11 b1) = true) (c6 : b1.2.1 = true) (c12 : tickPre b1 s15 (alertsG (3)) = true) (c15 : ((l6_0_k3 s15 b1).2.1 == (l6_0_k3 s15 b1).2.1) = true) (c18 : decide (l6_0_k10 s15 b1) = true) (c21 : ((show List (List UInt8) from (l6_0_k3 s15 b1).1) == (l6_0_k3 s15 b1).1) = true) (c23 : (l6_0_k3 s15 b1).2.2.2.1 = true) (c29 : ¬ ((l6_0_k3 s15 b1).2.2.2.2.1 != (l6_0_k3 s15 b1).2.2.2.2.1) = true) (c30 : ¬ (l6_0_k3 s15 b1).2.1 = true) (c41 : decide (s15 ≥ b1.2.2.1) = true) (c52 : ¬ ((l6_0_k3 s15 b1).2.2.2.2.1 != (l6_0_k9 s15 b0)) = true) (ih : (turns (hds 6 63496) 0 63496 (evC byref (evCall F S7 (m + 24)) (m + 24) 0 (hds 6) lbl6_0) n (l6_0H x3 1 s13 (l6_0_k4 s15) b0 ((l6_0_k3 s15 b1).2.2) ((l6_0_k3 s15 b1).2.2)) (l6_0B x3 1 s13 (l6_0_k4 s15) b0 ((l6_0_k3 s15 b1).2.2) ((l6_0_k3 s15 b1).2.2))).run = some r) : (turns (hds 6 63496) 0 63496 (evC byref (evCall F S7 (m + 24)) (m + 24) 0 (hds 6) lbl6_0) (n + 1) (l6_0_k70 x3 s13 s15 b0 b1 b2) (l6_0B x3 1 s13 s15 b0 b1 b2)).run = some r := by
  exact turns_step (M.run_of_path _ [true, true, false, true, true, false, true, true, true, false, true, true, true, true, true, false, false, false, true, false, false, false, false, false, false, false, false, false, false, false, false, false, false, false, false, false, false, false, false, false, false, true, true, false, true, true, true, true, true, false, true, false, false] _ _ (by kernel_rfl) (all_t c0 (all_t rfl (all_f c2 (all_t c3 (all_t c4 (all_f Bool.false_ne_true (all_nnt c6 (all_nnt c6 (all_nnt c6 (all_nt c6 (all_nnt c6 (all_nnt c6 (all_t c12 (all_t rfl (all_t c12 (all_nt c15 (all_nt c15 (all_nt c15 (all_t c18 (all_nt c15 (all_nt c15 (all_nt c21 (all_nt c21 (all_nt c23 (all_nt c21 (all_nt c21 (all_nt c23 (all_nt c21 (all_nt c21 (all_f c29 (all_f c30 (all_f c30 (all_f c30 (all_f Bool.false_ne_true (all_f Bool.false_ne_true (all_f Bool.false_ne_true (all_f Bool.false_ne_true (all_f Bool.false_ne_true (all_f Bool.false_ne_true (all_f Bool.false_ne_true (all_f Bool.false_ne_true (all_t c41 (all_t c41 (all_nt c23 (all_t c41 (all_t c41 (all_t c41 (all_t c41 (all_t c41 (all_f Bool.false_ne_true (all_t c41 (all_f Bool.false_ne_true (all_f c52 all_nil)))))))))))))))))))))))))))))))))))))))))))))))))))))) ih
set_option maxHeartbeats 20000000 in
theorem l6_0_w80 (m n : Nat) (x3 : List Int) (s13 : Int) (s15 : Int) (b0 : Int × Int × Int) (b1 : (Int × Int × Int) × Bool × Int × Bool × (List (List UInt8)) × Int) (b2 : (Int × Int × Int) × Bool × Int × Bool × (List (List UInt8)) × Int) (r : AEx × Env × Boxes) (c0 : decide (s15 < 60) = true) (c2 : ¬ decide (s15 < (l6_0_k7 x3)) = true) (c3 : (s15 == s13) = true) (c4 : decide (l6_0_k11 b1) = true) (c6 : b1.2.1 = true) (c12 : tickPre b1 s15 (alertsG (3)) = true) (c15 : ((l6_0_k3 s15 b1).2.1 == (l6_0_k3 s15 b1).2.1) = true) (c18 : decide (l6_0_k10 s15 b1) = true) (c21 : ((show List (List UInt8) from (l6_0_k3 s15 b1).1) == (l6_0_k3 s15 b1).1) = true) (c23 : (l6_0_k3 s15 b1).2.2.2.1 = true) (c29 : ¬ ((l6_0_k3 s15 b1).2.2.2.2.1 != (l6_0_k3 s15 b1).2.2.2.2.1) = true) (c30 : ¬ (l6_0_k3 s15 b1).2.1 = true) (c41 : ¬ decide (s15 ≥ b1.2.2.1) = true) (ih : (turns (hds 6 63496) 0 63496 (evC byref (evCall F S7 (m + 24)) (m + 24) 0 (hds 6) lbl6_0) n (l6_0H x3 1 s13 (l6_0_k4 s15) b0 ((l6_0_k3 s15 b1).2.2) ((l6_0_k3 s15 b1).2.2)) (l6_0B x3 1 s13 (l6_0_k4 s15) b0 ((l6_0_k3 s15 b1).2.2) ((l6_0_k3 s15 b1).2.2))).run = some r) : (turns (hds 6 63496) 0 63496 (evC byref (evCall F S7 (m + 24)) (m + 24) 0 (hds 6) lbl6_0) (n + 1) (l6_0_k70 x3 s13 s15 b0 b1 b2) (l6_0B x3 1 s13 s15 b0 b1 b2)).run = some r := by
  exact turns_step (M.run_of_path _ [true, true, false, true, true, false, true, true, true, false, true, true, true, true, true, false, false, false, true, false, false, false, false, false, false, false, false, false, false, false, false, false, false, false, false, false, false, false, false, false, false, false, false, false, false, false, false, false, false, false, false, false] _ _ (by kernel_rfl) (all_t c0 (all_t rfl (all_f c2 (all_t c3 (all_t c4 (all_f Bool.false_ne_true (all_nnt c6 (all_nnt c6 (all_nnt c6 (all_nt c6 (all_nnt c6 (all_nnt c6 (all_t c12 (all_t rfl (all_t c12 (all_nt c15 (all_nt c15 (all_nt c15 (all_t c18 (all_nt c15 (all_nt c15 (all_nt c21 (all_nt c21 (all_nt c23 (all_nt c21 (all_nt c21 (all_nt c23 (all_nt c21 (all_nt c21 (all_f c29 (all_f c30 (all_f c30 (all_f c30 (all_f Bool.false_ne_true (all_f Bool.false_ne_true (all_f Bool.false_ne_true (all_f Bool.false_ne_true (all_f Bool.false_ne_true (all_f Bool.false_ne_true (all_f Bool.false_ne_true (all_f Bool.false_ne_true (all_f c41 (all_f c41 (all_f c41 (all_f c41 (all_f c41 (all_f c41 (all_f c41 (all_f Bool.false_ne_true (all_f c41 (all_f Bool.false_ne_true (all_f Bool.false_ne_true all_nil))))))))))))))))))))))))))))))))))))))))))))))))))))) ih
set_option maxHeartbeats 20000000 in
theorem l6_0_w81 (m n : Nat) (x3 : List Int) (s13 : Int) (s15 : Int) (b0 : Int × Int × Int) (b1 : (Int × Int × Int) × Bool × Int × Bool × (List (List UInt8)) × Int) (b2 : (Int × Int × Int) × Bool × Int × Bool × (List (List UInt8)) × Int) (r : AEx × Env × Boxes) (c0 : decide (s15 < 60) = true) (c2 : ¬ decide (s15 < (l6_0_k7 x3)) = true) (c3 : (s15 == s13) = true) (c4 : decide (l6_0_k11 b1) = true) (c6 : b1.2.1 = true) (c12 : tickPre b1 s15 (alertsG (3)) = true) (c15 : ((l6_0_k3 s15 b1).2.1 == (l6_0_k3 s15 b1).2.1) = true) (c18 : decide (l6_0_k10 s15 b1) = true) (c21 : ((show List (List UInt8) from (l6_0_k3 s15 b1).1) == (l6_0_k3 s15 b1).1) = true) (c23 : ¬ (l6_0_k3 s15 b1).2.2.2.1 = true) (c30 : (l6_0_k3 s15 b1).2.1 = true) (c33 : decide (s15 ≥ b1.2.2.1) = true) (c52 : ¬ ((-1) != (l6_0_k9 s15 b0)) = true) (ih : (turns (hds 6 63496) 0 63496 (evC byref (evCall F S7 (m + 24)) (m + 24) 0 (hds 6) lbl6_0) n (l6_0H x3 1 s13 (l6_0_k4 s15) b0 ((l6_0_k3 s15 b1).2.2) ((l6_0_k3 s15 b1).2.2)) (l6_0B x3 1 s13 (l6_0_k4 s15) b0 ((l6_0_k3 s15 b1).2.2) ((l6_0_k3 s15 b1).2.2))).run = some r) : (turns (hds 6 63496) 0 63496 (evC byref (evCall F S7 (m + 24)) (m + 24) 0 (hds 6) lbl6_0) (n + 1) (l6_0_k70 x3 s13 s15 b0 b1 b2) (l6_0B x3 1 s13 s15 b0 b1 b2)).run = some r := by
  exact turns_step (M.run_of_path _ [true, true, false, true, true, false, true, true, true, false, true, true, true, true, true, false, false, false, true, false, false, false, false, true, false, false, true, false, false, false, true, true, true, false, false, false, false, false, false, false, false, true, true, true, true, true, true, true, true, false, true, false, false] _ _ (by kernel_rfl) (all_t c0 (all_t rfl (all_f c2 (all_t c3 (all_t c4 (all_f Bool.false_ne_true (all_nnt c6 (all_nnt c6 (all_nnt c6 (all_nt c6 (all_nnt c6 (all_nnt c6 (all_t c12 (all_t rfl (all_t c12 (all_nt c15 (all_nt c15 (all_nt c15 (all_t c18 (all_nt c15 (all_nt c15 (all_nt c21 (all_nt c21 (all_nf c23 (all_nt c21 (all_nt c21 (all_nf c23 (all_nt c21 (all_nt c21 (all_f Bool.false_ne_true (all_t c30 (all_t c30 (all_t c30 (all_nt c33 (all_nt c33 (all_nt c33 (all_nt c33 (all_nt c33 (all_nt c33 (all_f Bool.false_ne_true (all_f Bool.false_ne_true (all_t c33 (all_t c33 (all_nf c23 (all_t c33 (all_t c33 (all_t c33 (all_t c33 (all_t c33 (all_f Bool.false_ne_true (all_t c33 (all_f Bool.false_ne_true (all_f c52 all_nil)))))))))))))))))))))))))))))))))))))))))))))))))))))) ih
set_option maxHeartbeats 20000000 in
theorem l6_0_w82 (m n : Nat) (x3 : List Int) (s13 : Int) (s15 : Int) (b0 : Int × Int × Int) (b1 : (Int × Int × Int) × Bool × Int × Bool × (List (List UInt8)) × Int) (b2 : (Int × Int × Int) × Bool × Int × Bool × (List (List UInt8)) × Int) (r : AEx × Env × Boxes) (c0 : decide (s15 < 60) = true) (c2 : ¬ decide (s15 < (l6_0_k7 x3)) = true) (c3 : (s15 == s13) = true) (c4 : decide (l6_0_k11 b1) = true) (c6 : b1.2.1 = true) (c12 : tickPre b1 s15 (alertsG (3)) = true) (c15 : ((l6_0_k3 s15 b1).2.1 == (l6_0_k3 s15 b1).2.1) = true) (c18 : decide (l6_0_k10 s15 b1) = true) (c21 : ((show List (List UInt8) from (l6_0_k3 s15 b1).1) == (l6_0_k3 s15 b1).1) = true) (c23 : ¬ (l6_0_k3 s15 b1).2.2.2.1 = true) (c30 : (l6_0_k3 s15 b1).2.1 = true) (c33 : ¬ decide (s15 ≥ b1.2.2.1) = true) (c37 : ¬ decide (b0.1 > 0) = true) (c42 : ¬ decide (s15 > 0) = true) (ih : (turns (hds 6 63496) 0 63496 (evC byref (evCall F S7 (m + 24)) (m + 24) 0 (hds 6) lbl6_0) n (l6_0H x3 1 s13 (l6_0_k4 s15) b0 ((l6_0_k3 s15 b1).2.2) ((l6_0_k3 s15 b1).2.2)) (l6_0B x3 1 s13 (l6_0_k4 s15) b0 ((l6_0_k3 s15 b1).2.2) ((l6_0_k3 s15 b1).2.2))).run = some r) : (turns (hds 6 63496) 0 63496 (evC byref (evCall F S7 (m + 24)) (m + 24) 0 (hds 6) lbl6_0) (n + 1) (l6_0_k70 x3 s13 s15 b0 b1 b2) (l6_0B x3 1 s13 s15 b0 b1 b2)).run = some r := by
  exact turns_step (M.run_of_path _ [true, true, false, true, true, false, true, true, true, false, true, true, true, true, true, false, false, false, true, false, false, false, false, true, false, false, true, false, false, false, true, true, true, true, true, true, true, false, false, true, false, true, false, false, false, false, false, false, false, false, false, false, false, false, false] _ _ (by kernel_rfl) (all_t c0 (all_t rfl (all_f c2 (all_t c3 (all_t c4 (all_f Bool.false_ne_true (all_nnt c6 (all_nnt c6 (all_nnt c6 (all_nt c6 (all_nnt c6 (all_nnt c6 (all_t c12 (all_t rfl (all_t c12 (all_nt c15 (all_nt c15 (all_nt c15 (all_t c18 (all_nt c15 (all_nt c15 (all_nt c21 (all_nt c21 (all_nf c23 (all_nt c21 (all_nt c21 (all_nf c23 (all_nt c21 (all_nt c21 (all_f Bool.false_ne_true (all_t c30 (all_t c30 (all_t c30 (all_nf c33 (all_nf c33 (all_nf c33 (all_nf c33 (all_f c37 (all_f c37 (all_nf c33 (all_f c37 (all_nf c33 (all_f c42 (all_f c42 (all_f c33 (all_f c33 (all_f c33 (all_f c33 (all_f c33 (all_f c33 (all_f c33 (all_f c42 (all_f c33 (all_f c42 (all_f Bool.false_ne_true all_nil)))))))))))))))))))))))))))))))))))))))))))))))))))))))) ih
set_option maxHeartbeats 20000000 in
theorem l6_0_w83 (m n : Nat) (x3 : List Int) (s13 : Int) (s15 : Int) (b0 : Int × Int × Int) (b1 : (Int × Int × Int) × Bool × Int × Bool × (List (List UInt8)) × Int) (b2 : (Int × Int × Int) × Bool × Int × Bool × (List (List UInt8)) × Int) (r : AEx × Env × Boxes) (c0 : decide (s15 < 60) = true) (c2 : ¬ decide (s15 < (l6_0_k7 x3)) = true) (c3 : (s15 == s13) = true) (c4 : decide (l6_0_k11 b1) = true) (c6 : b1.2.1 = true) (c12 : tickPre b1 s15 (alertsG (3)) = true) (c15 : ((l6_0_k3 s15 b1).2.1 == (l6_0_k3 s15 b1).2.1) = true) (c18 : decide (l6_0_k10 s15 b1) = true) (c21 : ((show List (List UInt8) from (l6_0_k3 s15 b1).1) == (l6_0_k3 s15 b1).1) = true) (c23 : ¬ (l6_0_k3 s15 b1).2.2.2.1 = true) (c30 : ¬ (l6_0_k3 s15 b1).2.1 = true) (c41 : decide (s15 ≥ b1.2.2.1) = true) (c52 : ¬ ((-1) != (l6_0_k9 s15 b0)) = true) (ih : (turns (hds 6 63496) 0 63496 (evC byref (evCall F S7 (m + 24)) (m + 24) 0 (hds 6) lbl6_0) n (l6_0H x3 1 s13 (l6_0_k4 s15) b0 ((l6_0_k3 s15 b1).2.2) ((l6_0_k3 s15 b1).2.2)) (l6_0B x3 1 s13 (l6_0_k4 s15) b0 ((l6_0_k3 s15 b1).2.2) ((l6_0_k3 s15 b1).2.2))).run = some r) : (turns (hds 6 63496) 0 63496 (evC byref (evCall F S7 (m + 24)) (m + 24) 0 (hds 6) lbl6_0) (n + 1) (l6_0_k70 x3 s13 s15 b0 b1 b2) (l6_0B x3 1 s13 s15 b0 b1 b2)).run = some r := by
  exact turns_step (M.run_of_path _ [true, true, false, true, true, false, true, true, true, false, true, true, true, true, true, false, false, false, true, false, false, false, false, true, false, false, true, false, false, false, false, false, false, false, false, false, false, false, false, false, false, true, true, true, true, true, true, true, true, false, true, false, false] _ _ (by kernel_rfl) (all_t c0 (all_t rfl (all_f c2 (all_t c3 (all_t c4 (all_f Bool.false_ne_true (all_nnt c6 (all_nnt c6 (all_nnt c6 (all_nt c6 (all_nnt c6 (all_nnt c6 (all_t c12 (all_t rfl (all_t c12 (all_nt c15 (all_nt c15 (all_nt c15 (all_t c18 (all_nt c15 (all_nt c15 (all_nt c21 (all_nt c21 (all_nf c23 (all_nt c21 (all_nt c21 (all_nf c23 (all_nt c21 (all_nt c21 (all_f Bool.false_ne_true (all_f c30 (all_f c30 (all_f c30 (all_f Bool.false_ne_true (all_f Bool.false_ne_true (all_f Bool.false_ne_true (all_f Bool.false_ne_true (all_f Bool.false_ne_true (all_f Bool.false_ne_true (all_f Bool.false_ne_true (all_f Bool.false_ne_true (all_t c41 (all_t c41 (all_nf c23 (all_t c41 (all_t c41 (all_t c41 (all_t c41 (all_t c41 (all_f Bool.false_ne_true (all_t c41 (all_f Bool.false_ne_true (all_f c52 all_nil)))))))))))))))))))))))))))))))))))))))))))))))))))))) ih
set_option maxHeartbeats 20000000 in
theorem l6_0_w84 (m n : Nat) (x3 : List Int) (s13 : Int) (s15 : Int) (b0 : Int × Int × Int) (b1 : (Int × Int × Int) × Bool × Int × Bool × (List (List UInt8)) × Int) (b2 : (Int × Int × Int) × Bool × Int × Bool × (List (List UInt8)) × Int) (r : AEx × Env × Boxes) (c0 : decide (s15 < 60) = true) (c2 : ¬ decide (s15 < (l6_0_k7 x3)) = true) (c3 : (s15 == s13) = true) (c4 : decide (l6_0_k11 b1) = true) (c6 : b1.2.1 = true) (c12 : tickPre b1 s15 (alertsG (3)) = true) (c15 : ((l6_0_k3 s15 b1).2.1 == (l6_0_k3 s15 b1).2.1) = true) (c18 : decide (l6_0_k10 s15 b1) = true) (c21 : ((show List (List UInt8) from (l6_0_k3 s15 b1).1) == (l6_0_k3 s15 b1).1) = true) (c23 : ¬ (l6_0_k3 s15 b1).2.2.2.1 = true) (c30 : ¬ (l6_0_k3 s15 b1).2.1 = true) (c41 : ¬ decide (s15 ≥ b1.2.2.1) = true) (ih : (turns (hds 6 63496) 0 63496 (evC byref (evCall F S7 (m + 24)) (m + 24) 0 (hds 6) lbl6_0) n (l6_0H x3 1 s13 (l6_0_k4 s15) b0 ((l6_0_k3 s15 b1).2.2) ((l6_0_k3 s15 b1).2.2)) (l6_0B x3 1 s13 (l6_0_k4 s15) b0 ((l6_0_k3 s15 b1).2.2) ((l6_0_k3 s15 b1).2.2))).run = some r) : (turns (hds 6 63496) 0 63496 (evC byref (evCall F S7 (m + 24)) (m + 24) 0 (hds 6) lbl6_0) (n + 1) (l6_0_k70 x3 s13 s15 b0 b1 b2) (l6_0B x3 1 s13 s15 b0 b1 b2)).run = some r := by
  exact turns_step (M.run_of_path _ [true, true, false, true, true, false, true, true, true, false, true, true, true, true, true, false, false, false, true, false, false, false, false, true, false, false, true, false, false, false, false, false, false, false, false, false, false, false, false, false, false, false, false, false, false, false, false, false, false, false, false, false] _ _ (by kernel_rfl) (all_t c0 (all_t rfl (all_f c2 (all_t c3 (all_t c4 (all_f Bool.false_ne_true (all_nnt c6 (all_nnt c6 (all_nnt c6 (all_nt c6 (all_nnt c6 (all_nnt c6 (all_t c12 (all_t rfl (all_t c12 (all_nt c15 (all_nt c15 (all_nt c15 (all_t c18 (all_nt c15 (all_nt c15 (all_nt c21 (all_nt c21 (all_nf c23 (all_nt c21 (all_nt c21 (all_nf c23 (all_nt c21 (all_nt c21 (all_f Bool.false_ne_true (all_f c30 (all_f c30 (all_f c30 (all_f Bool.false_ne_true (all_f Bool.false_ne_true (all_f Bool.false_ne_true (all_f Bool.false_ne_true (all_f Bool.false_ne_true (all_f Bool.false_ne_true (all_f Bool.false_ne_true (all_f Bool.false_ne_true (all_f c41 (all_f c41 (all_f c41 (all_f c41 (all_f c41 (all_f c41 (all_f c41 (all_f Bool.false_ne_true (all_f c41 (all_f Bool.false_ne_true (all_f Bool.false_ne_true all_nil))))))))))))))))))))))))))))))))))))))))))))))))))))) ih
set_option maxHeartbeats 20000000 in
theorem l6_0_w85 (m n : Nat) (x3 : List Int) (s13 : Int) (s15 : Int) (b0 : Int × Int × Int) (b1 : (Int × Int × Int) × Bool × Int × Bool × (List (List UInt8)) × Int) (b2 : (Int × Int × Int) × Bool × Int × Bool × (List (List UInt8)) × Int) (r : AEx × Env × Boxes) (c0 : decide (s15 < 60) = true) (c2 : ¬ decide (s15 < (l6_0_k7 x3)) = true) (c3 : (s15 == s13) = true) (c4 : decide (l6_0_k11 b1) = true) (c6 : ¬ b1.2.1 = true) (c11 : tickPre b1 s15 (alertsG (3)) = true) (c14 : ((l6_0_k3 s15 b1).2.1 == (l6_0_k3 s15 b1).2.1) = true) (c17 : decide (l6_0_k10 s15 b1) = true) (c20 : ((show List (List UInt8) from (l6_0_k3 s15 b1).1) == (l6_0_k3 s15 b1).1) = true) (c22 : (l6_0_k3 s15 b1).2.2.2.1 = true) (c28 : ¬ ((l6_0_k3 s15 b1).2.2.2.2.1 != (l6_0_k3 s15 b1).2.2.2.2.1) = true) (c29 : (l6_0_k3 s15 b1).2.1 = true) (c36 : ¬ decide (b0.1 > 0) = true) (c41 : ¬ decide (s15 > 0) = true) (ih : (turns (hds 6 63496) 0 63496 (evC byref (evCall F S7 (m + 24)) (m + 24) 0 (hds 6) lbl6_0) n (l6_0H x3 1 s13 (l6_0_k4 s15) b0 ((l6_0_k3 s15 b1).2.2) ((l6_0_k3 s15 b1).2.2)) (l6_0B x3 1 s13 (l6_0_k4 s15) b0 ((l6_0_k3 s15 b1).2.2) ((l6_0_k3 s15 b1).2.2))).run = some r) : (turns (hds 6 63496) 0 63496 (evC byref (evCall F S7 (m + 24)) (m + 24) 0 (hds 6) lbl6_0) (n + 1) (l6_0_k70 x3 s13 s15 b0 b1 b2) (l6_0B x3 1 s13 s15 b0 b1 b2)).run = some r := by
  exact turns_step (M.run_of_path _ [true, true, false, true, true, false, false, false, false, false, false, true, true, true, false, false, false, true, false, false, false, false, false, false, false, false, false, false, false, true, true, true, true, true, true, true, false, false, true, false, true, false, false, false, false, false, false, false, false, false, false, false, false, false] _ _ (by kernel_rfl) (all_t c0 (all_t rfl (all_f c2 (all_t c3 (all_t c4 (all_f Bool.false_ne_true (all_nnf c6 (all_nnf c6 (all_nnf c6 (all_nnf c6 (all_nnf c6 (all_t c11 (all_t rfl (all_t c11 (all_nt c14 (all_nt c14 (all_nt c14 (all_t c17 (all_nt c14 (all_nt c14 (all_nt c20 (all_nt c20 (all_nt c22 (all_nt c20 (all_nt c20 (all_nt c22 (all_nt c20 (all_nt c20 (all_f c28 (all_t c29 (all_t c29 (all_t c29 (all_t rfl (all_t rfl (all_t rfl (all_t rfl (all_f c36 (all_f c36 (all_t rfl (all_f c36 (all_t rfl (all_f c41 (all_f c41 (all_f Bool.false_ne_true (all_f Bool.false_ne_true (all_f Bool.false_ne_true (all_f Bool.false_ne_true (all_f Bool.false_ne_true (all_f Bool.false_ne_true (all_f Bool.false_ne_true (all_f c41 (all_f Bool.false_ne_true (all_f c41 (all_f Bool.false_ne_true all_nil))))))))))))))))))))))))))))))))))))))))))))))))))))))) ih
set_option maxHeartbeats 20000000 in
theorem l6_0_w86 (m n : Nat) (x3 : List Int) (s13 : Int) (s15 : Int) (b0 : Int × Int × Int) (b1 : (Int × Int × Int) × Bool × Int × Bool × (List (List UInt8)) × Int) (b2 : (Int × Int × Int) × Bool × Int × Bool × (List (List UInt8)) × Int) (r : AEx × Env × Boxes) (c0 : decide (s15 < 60) = true) (c2 : ¬ decide (s15 < (l6_0_k7 x3)) = true) (c3 : (s15 == s13) = true) (c4 : decide (l6_0_k11 b1) = true) (c6 : ¬ b1.2.1 = true) (c11 : tickPre b1 s15 (alertsG (3)) = true) (c14 : ((l6_0_k3 s15 b1).2.1 == (l6_0_k3 s15 b1).2.1) = true) (c17 : decide (l6_0_k10 s15 b1) = true) (c20 : ((show List (List UInt8) from (l6_0_k3 s15 b1).1) == (l6_0_k3 s15 b1).1) = true) (c22 : (l6_0_k3 s15 b1).2.2.2.1 = true) (c28 : ¬ ((l6_0_k3 s15 b1).2.2.2.2.1 != (l6_0_k3 s15 b1).2.2.2.2.1) = true) (c29 : ¬ (l6_0_k3 s15 b1).2.1 = true) (ih : (turns (hds 6 63496) 0 63496 (evC byref (evCall F S7 (m + 24)) (m + 24) 0 (hds 6) lbl6_0) n (l6_0H x3 1 s13 (l6_0_k4 s15) b0 ((l6_0_k3 s15 b1).2.2) ((l6_0_k3 s15 b1).2.2)) (l6_0B x3 1 s13 (l6_0_k4 s15) b0 ((l6_0_k3 s15 b1).2.2) ((l6_0_k3 s15 b1).2.2))).run = some r) : (turns (hds 6 63496) 0 63496 (evC byref (evCall F S7 (m + 24)) (m + 24) 0 (hds 6) lbl6_0) (n + 1) (l6_0_k70 x3 s13 s15 b0 b1 b2) (l6_0B x3 1 s13 s15 b0 b1 b2)).run = some r := by
  exact turns_step (M.run_of_path _ [true, true, false, true, true, false, false, false, false, false, false, true, true, true, false, false, false, true, false, false, false, false, false, false, false, false, false, false, false, false, false, false, false, false, false, false, false, false, false, false, false, false, false, false, false, false, false, false, false, false, false] _ _ (by kernel_rfl) (all_t c0 (all_t rfl (all_f c2 (all_t c3 (all_t c4 (all_f Bool.false_ne_true (all_nnf c6 (all_nnf c6 (all_nnf c6 (all_nnf c6 (all_nnf c6 (all_t c11 (all_t rfl (all_t c11 (all_nt c14 (all_nt c14 (all_nt c14 (all_t c17 (all_nt c14 (all_nt c14 (all_nt c20 (all_nt c20 (all_nt c22 (all_nt c20 (all_nt c20 (all_nt c22 (all_nt c20 (all_nt c20 (all_f c28 (all_f c29 (all_f c29 (all_f c29 (all_f Bool.false_ne_true (all_f Bool.false_ne_true (all_f Bool.false_ne_true (all_f Bool.false_ne_true (all_f Bool.false_ne_true (all_f Bool.false_ne_true (all_f Bool.false_ne_true (all_f Bool.false_ne_true (all_f Bool.false_ne_true (all_f Bool.false_ne_true (all_f Bool.false_ne_true (all_f Bool.false_ne_true (all_f Bool.false_ne_true (all_f Bool.false_ne_true (all_f Bool.false_ne_true (all_f Bool.false_ne_true (all_f Bool.false_ne_true (all_f Bool.false_ne_true (all_f Bool.false_ne_true all_nil)))))))))))))))))))))))))))))))))))))))))))))))))))) ih
set_option maxHeartbeats 20000000 in
theorem l6_0_w87 (m n : Nat) (x3 : List Int) (s13 : Int) (s15 : Int) (b0 : Int × Int × Int) (b1 : (Int × Int × Int) × Bool × Int × Bool × (List (List UInt8)) × Int) (b2 : (Int × Int × Int) × Bool × Int × Bool × (List (List UInt8)) × Int) (r : AEx × Env × Boxes) (c0 : decide (s15 < 60) = true) (c2 : ¬ decide (s15 < (l6_0_k7 x3)) = true) (c3 : (s15 == s13) = true) (c4 : decide (l6_0_k11 b1) = true) (c6 : ¬ b1.2.1 = true) (c11 : tickPre b1 s15 (alertsG (3)) = true) (c14 : ((l6_0_k3 s15 b1).2.1 == (l6_0_k3 s15 b1).2.1) = true) (c17 : decide (l6_0_k10 s15 b1) = true) (c20 : ((show List (List UInt8) from (l6_0_k3 s15 b1).1) == (l6_0_k3 s15 b1).1) = true) (c22 : ¬ (l6_0_k3 s15 b1).2.2.2.1 = true) (c29 : (l6_0_k3 s15 b1).2.1 = true) (c36 : ¬ decide (b0.1 > 0) = true) (c41 : ¬ decide (s15 > 0) = true) (ih : (turns (hds 6 63496) 0 63496 (evC byref (evCall F S7 (m + 24)) (m + 24) 0 (hds 6) lbl6_0) n (l6_0H x3 1 s13 (l6_0_k4 s15) b0 ((l6_0_k3 s15 b1).2.2) ((l6_0_k3 s15 b1).2.2)) (l6_0B x3 1 s13 (l6_0_k4 s15) b0 ((l6_0_k3 s15 b1).2.2) ((l6_0_k3 s15 b1).2.2))).run = some r) : (turns (hds 6 63496) 0 63496 (evC byref (evCall F S7 (m + 24)) (m + 24) 0 (hds 6) lbl6_0) (n + 1) (l6_0_k70 x3 s13 s15 b0 b1 b2) (l6_0B x3 1 s13 s15 b0 b1 b2)).run = some r := by
  exact turns_step (M.run_of_path _ [true, true, false, true, true, false, false, false, false, false, false, true, true, true, false, false, false, true, false, false, false, false, true, false, false, true, false, false, false, true, true, true, true, true, true, true, false, false, true, false, true, false, false, false, false, false, false, false, false, false, false, false, false, false] _ _ (by kernel_rfl) (all_t c0 (all_t rfl (all_f c2 (all_t c3 (all_t c4 (all_f Bool.false_ne_true (all_nnf c6 (all_nnf c6 (all_nnf c6 (all_nnf c6 (all_nnf c6 (all_t c11 (all_t rfl (all_t c11 (all_nt c14 (all_nt c14 (all_nt c14 (all_t c17 (all_nt c14 (all_nt c14 (all_nt c20 (all_nt c20 (all_nf c22 (all_nt c20 (all_nt c20 (all_nf c22 (all_nt c20 (all_nt c20 (all_f Bool.false_ne_true (all_t c29 (all_t c29 (all_t c29 (all_t rfl (all_t rfl (all_t rfl (all_t rfl (all_f c36 (all_f c36 (all_t rfl (all_f c36 (all_t rfl (all_f c41 (all_f c41 (all_f Bool.false_ne_true (all_f Bool.false_ne_true (all_f Bool.false_ne_true (all_f Bool.false_ne_true (all_f Bool.false_ne_true (all_f Bool.false_ne_true (all_f Bool.false_ne_true (all_f c41 (all_f Bool.false_ne_true (all_f c41 (all_f Bool.false_ne_true all_nil))))))))))))))))))))))))))))))))))))))))))))))))))))))) ih

set_option maxHeartbeats 20000000 in
theorem l6_0_w88 (m n : Nat) (x3 : List Int) (s13 : Int) (s15 : Int) (b0 : Int × Int × Int) (b1 : (Int × Int × Int) × Bool × Int × Bool × (List (List UInt8)) × Int) (b2 : (Int × Int × Int) × Bool × Int × Bool × (List (List UInt8)) × Int) (r : AEx × Env × Boxes) (c0 : decide (s15 < 60) = true) (c2 : ¬ decide (s15 < (l6_0_k7 x3)) = true) (c3 : (s15 == s13) = true) (c4 : decide (l6_0_k11 b1) = true) (c6 : ¬ b1.2.1 = true) (c11 : tickPre b1 s15 (alertsG (3)) = true) (c14 : ((l6_0_k3 s15 b1).2.1 == (l6_0_k3 s15 b1).2.1) = true) (c17 : decide (l6_0_k10 s15 b1) = true) (c20 : ((show List (List UInt8) from (l6_0_k3 s15 b1).1) == (l6_0_k3 s15 b1).1) = true) (c22 : ¬ (l6_0_k3 s15 b1).2.2.2.1 = true) (c29 : ¬ (l6_0_k3 s15 b1).2.1 = true) (ih : (turns (hds 6 63496) 0 63496 (evC byref (evCall F S7 (m + 24)) (m + 24) 0 (hds 6) lbl6_0) n (l6_0H x3 1 s13 (l6_0_k4 s15) b0 ((l6_0_k3 s15 b1).2.2) ((l6_0_k3 s15 b1).2.2)) (l6_0B x3 1 s13 (l6_0_k4 s15) b0 ((l6_0_k3 s15 b1).2.2) ((l6_0_k3 s15 b1).2.2))).run = some r) : (turns (hds 6 63496) 0 63496 (evC byref (evCall F S7 (m + 24)) (m + 24) 0 (hds 6) lbl6_0) (n + 1) (l6_0_k70 x3 s13 s15 b0 b1 b2) (l6_0B x3 1 s13 s15 b0 b1 b2)).run = some r := by
  exact turns_step (M.run_of_path _ [true, true, false, true, true, false, false, false, false, false, false, true, true, true, false, false, false, true, false, false, false, false, true, false, false, true, false, false, false, false, false, false, false, false, false, false, false, false, false, false, false, false, false, false, false, false, false, false, false, false, false] _ _ (by kernel_rfl) (all_t c0 (all_t rfl (all_f c2 (all_t c3 (all_t c4 (all_f Bool.false_ne_true (all_nnf c6 (all_nnf c6 (all_nnf c6 (all_nnf c6 (all_nnf c6 (all_t c11 (all_t rfl (all_t c11 (all_nt c14 (all_nt c14 (all_nt c14 (all_t c17 (all_nt c14 (all_nt c14 (all_nt c20 (all_nt c20 (all_nf c22 (all_nt c20 (all_nt c20 (all_nf c22 (all_nt c20 (all_nt c20 (all_f Bool.false_ne_true (all_f c29 (all_f c29 (all_f c29 (all_f Bool.false_ne_true (all_f Bool.false_ne_true (all_f Bool.false_ne_true (all_f Bool.false_ne_true (all_f Bool.false_ne_true (all_f Bool.false_ne_true (all_f Bool.false_ne_true (all_f Bool.false_ne_true (all_f Bool.false_ne_true (all_f Bool.false_ne_true (all_f Bool.false_ne_true (all_f Bool.false_ne_true (all_f Bool.false_ne_true (all_f Bool.false_ne_true (all_f Bool.false_ne_true (all_f Bool.false_ne_true (all_f Bool.false_ne_true (all_f Bool.false_ne_true (all_f Bool.false_ne_true all_nil)))))))))))))))))))))))))))))))))))))))))))))))))))) ih
set_option maxHeartbeats 20000000 in
theorem l6_0_w89 (m n : Nat) (x3 : List Int) (s13 : Int) (s15 : Int) (b0 : Int × Int × Int) (b1 : (Int × Int × Int) × Bool × Int × Bool × (List (List UInt8)) × Int) (b2 : (Int × Int × Int) × Bool × Int × Bool × (List (List UInt8)) × Int) (r : AEx × Env × Boxes) (c0 : decide (s15 < 60) = true) (c2 : ¬ decide (s15 < (l6_0_k7 x3)) = true) (c3 : ¬ (s15 == s13) = true) (c4 : b1.2.1 = true) (c10 : tickPre b1 s15 (alertsG (3)) = true) (c12 : tickPre b2 s15 (alertsG (3)) = true) (c13 : ((l6_0_k3 s15 b1).2.1 == (l6_0_k6 s15 b2).2.1) = true) (c16 : decide (l6_0_k10 s15 b1) = true) (c19 : ((show List (List UInt8) from (l6_0_k3 s15 b1).1) == (l6_0_k6 s15 b2).1) = true) (c21 : (l6_0_k6 s15 b2).2.2.2.1 = true) (c24 : (l6_0_k3 s15 b1).2.2.2.1 = true) (c27 : ¬ ((l6_0_k6 s15 b2).2.2.2.2.1 != (l6_0_k3 s15 b1).2.2.2.2.1) = true) (c28 : (l6_0_k3 s15 b1).2.1 = true) (c31 : decide (s15 ≥ b1.2.2.1) = true) (c50 : ¬ ((l6_0_k3 s15 b1).2.2.2.2.1 != (l6_0_k9 s15 b0)) = true) (ih : (turns (hds 6 63496) 0 63496 (evC byref (evCall F S7 (m + 24)) (m + 24) 0 (hds 6) lbl6_0) n (l6_0H x3 1 s13 (l6_0_k4 s15) b0 ((l6_0_k3 s15 b1).2.2) ((l6_0_k6 s15 b2).2.2)) (l6_0B x3 1 s13 (l6_0_k4 s15) b0 ((l6_0_k3 s15 b1).2.2) ((l6_0_k6 s15 b2).2.2))).run = some r) : (turns (hds 6 63496) 0 63496 (evC byref (evCall F S7 (m + 24)) (m + 24) 0 (hds 6) lbl6_0) (n + 1) (l6_0_k70 x3 s13 s15 b0 b1 b2) (l6_0B x3 1 s13 s15 b0 b1 b2)).run = some r := by
  exact turns_step (M.run_of_path _ [true, true, false, false, true, true, true, false, true, true, true, true, true, false, false, false, true, false, false, false, false, false, false, false, false, false, false, false, true, true, true, false, false, false, false, false, false, false, false, true, true, false, true, true, true, true, true, false, true, false, false] _ _ (by kernel_rfl) (all_t c0 (all_t rfl (all_f c2 (all_f c3 (all_nnt c4 (all_nnt c4 (all_nnt c4 (all_nt c4 (all_nnt c4 (all_nnt c4 (all_t c10 (all_t rfl (all_t c12 (all_nt c13 (all_nt c13 (all_nt c13 (all_t c16 (all_nt c13 (all_nt c13 (all_nt c19 (all_nt c19 (all_nt c21 (all_nt c19 (all_nt c19 (all_nt c24 (all_nt c19 (all_nt c19 (all_f c27 (all_t c28 (all_t c28 (all_t c28 (all_nt c31 (all_nt c31 (all_nt c31 (all_nt c31 (all_nt c31 (all_nt c31 (all_f Bool.false_ne_true (all_f Bool.false_ne_true (all_t c31 (all_t c31 (all_nt c24 (all_t c31 (all_t c31 (all_t c31 (all_t c31 (all_t c31 (all_f Bool.false_ne_true (all_t c31 (all_f Bool.false_ne_true (all_f c50 all_nil)))))))))))))))))))))))))))))))))))))))))))))))))))) ih
set_option maxHeartbeats 20000000 in
theorem l6_0_w90 (m n : Nat) (x3 : List Int) (s13 : Int) (s15 : Int) (b0 : Int × Int × Int) (b1 : (Int × Int × Int) × Bool × Int × Bool × (List (List UInt8)) × Int) (b2 : (Int × Int × Int) × Bool × Int × Bool × (List (List UInt8)) × Int) (r : AEx × Env × Boxes) (c0 : decide (s15 < 60) = true) (c2 : ¬ decide (s15 < (l6_0_k7 x3)) = true) (c3 : ¬ (s15 == s13) = true) (c4 : b1.2.1 = true) (c10 : tickPre b1 s15 (alertsG (3)) = true) (c12 : tickPre b2 s15 (alertsG (3)) = true) (c13 : ((l6_0_k3 s15 b1).2.1 == (l6_0_k6 s15 b2).2.1) = true) (c16 : decide (l6_0_k10 s15 b1) = true) (c19 : ((show List (List UInt8) from (l6_0_k3 s15 b1).1) == (l6_0_k6 s15 b2).1) = true) (c21 : (l6_0_k6 s15 b2).2.2.2.1 = true) (c24 : (l6_0_k3 s15 b1).2.2.2.1 = true) (c27 : ¬ ((l6_0_k6 s15 b2).2.2.2.2.1 != (l6_0_k3 s15 b1).2.2.2.2.1) = true) (c28 : (l6_0_k3 s15 b1).2.1 = true) (c31 : ¬ decide (s15 ≥ b1.2.2.1) = true) (c35 : ¬ decide (b0.1 > 0) = true) (c40 : ¬ decide (s15 > 0) = true) (ih : (turns (hds 6 63496) 0 63496 (evC byref (evCall F S7 (m + 24)) (m + 24) 0 (hds 6) lbl6_0) n (l6_0H x3 1 s13 (l6_0_k4 s15) b0 ((l6_0_k3 s15 b1).2.2) ((l6_0_k6 s15 b2).2.2)) (l6_0B x3 1 s13 (l6_0_k4 s15) b0 ((l6_0_k3 s15 b1).2.2) ((l6_0_k6 s15 b2).2.2))).run = some r) : (turns (hds 6 63496) 0 63496 (evC byref (evCall F S7 (m + 24)) (m + 24) 0 (hds 6) lbl6_0) (n + 1) (l6_0_k70 x3 s13 s15 b0 b1 b2) (l6_0B x3 1 s13 s15 b0 b1 b2)).run = some r := by
  exact turns_step (M.run_of_path _ [true, true, false, false, true, true, true, false, true, true, true, true, true, false, false, false, true, false, false, false, false, false, false, false, false, false, false, false, true, true, true, true, true, true, true, false, false, true, false, true, false, false, false, false, false, false, false, false, false, false, false, false, false] _ _ (by kernel_rfl) (all_t c0 (all_t rfl (all_f c2 (all_f c3 (all_nnt c4 (all_nnt c4 (all_nnt c4 (all_nt c4 (all_nnt c4 (all_nnt c4 (all_t c10 (all_t rfl (all_t c12 (all_nt c13 (all_nt c13 (all_nt c13 (all_t c16 (all_nt c13 (all_nt c13 (all_nt c19 (all_nt c19 (all_nt c21 (all_nt c19 (all_nt c19 (all_nt c24 (all_nt c19 (all_nt c19 (all_f c27 (all_t c28 (all_t c28 (all_t c28 (all_nf c31 (all_nf c31 (all_nf c31 (all_nf c31 (all_f c35 (all_f c35 (all_nf c31 (all_f c35 (all_nf c31 (all_f c40 (all_f c40 (all_f c31 (all_f c31 (all_f c31 (all_f c31 (all_f c31 (all_f c31 (all_f c31 (all_f c40 (all_f c31 (all_f c40 (all_f Bool.false_ne_true all_nil)))))))))))))))))))))))))))))))))))))))))))))))))))))) ih
set_option maxHeartbeats 20000000 in
theorem l6_0_w91 (m n : Nat) (x3 : List Int) (s13 : Int) (s15 : Int) (b0 : Int × Int × Int) (b1 : (Int × Int × Int) × Bool × Int × Bool × (List (List UInt8)) × Int) (b2 : (Int × Int × Int) × Bool × Int × Bool × (List (List UInt8)) × Int) (r : AEx × Env × Boxes) (c0 : decide (s15 < 60) = true) (c2 : ¬ decide (s15 < (l6_0_k7 x3)) = true) (c3 : ¬ (s15 == s13) = true) (c4 : b1.2.1 = true) (c10 : tickPre b1 s15 (alertsG (3)) = true) (c12 : tickPre b2 s15 (alertsG (3)) = true) (c13 : ((l6_0_k3 s15 b1).2.1 == (l6_0_k6 s15 b2).2.1) = true) (c16 : decide (l6_0_k10 s15 b1) = true) (c19 : ((show List (List UInt8) from (l6_0_k3 s15 b1).1) == (l6_0_k6 s15 b2).1) = true) (c21 : (l6_0_k6 s15 b2).2.2.2.1 = true) (c24 : (l6_0_k3 s15 b1).2.2.2.1 = true) (c27 : ¬ ((l6_0_k6 s15 b2).2.2.2.2.1 != (l6_0_k3 s15 b1).2.2.2.2.1) = true) (c28 : ¬ (l6_0_k3 s15 b1).2.1 = true) (c39 : decide (s15 ≥ b1.2.2.1) = true) (c50 : ¬ ((l6_0_k3 s15 b1).2.2.2.2.1 != (l6_0_k9 s15 b0)) = true) (ih : (turns (hds 6 63496) 0 63496 (evC byref (evCall F S7 (m + 24)) (m + 24) 0 (hds 6) lbl6_0) n (l6_0H x3 1 s13 (l6_0_k4 s15) b0 ((l6_0_k3 s15 b1).2.2) ((l6_0_k6 s15 b2).2.2)) (l6_0B x3 1 s13 (l6_0_k4 s15) b0 ((l6_0_k3 s15 b1).2.2) ((l6_0_k6 s15 b2).2.2))).run = some r) : (turns (hds 6 63496) 0 63496 (evC byref (evCall F S7 (m + 24)) (m + 24) 0 (hds 6) lbl6_0) (n + 1) (l6_0_k70 x3 s13 s15 b0 b1 b2) (l6_0B x3 1 s13 s15 b0 b1 b2)).run = some r := by
  exact turns_step (M.run_of_path _ [true, true, false, false, true, true, true, false, true, true, true, true, true, false, false, false, true, false, false, false, false, false, false, false, false, false, false, false, false, false, false, false, false, false, false, false, false, false, false, true, true, false, true, true, true, true, true, false, true, false, false] _ _ (by kernel_rfl) (all_t c0 (all_t rfl (all_f c2 (all_f c3 (all_nnt c4 (all_nnt c4 (all_nnt c4 (all_nt c4 (all_nnt c4 (all_nnt c4 (all_t c10 (all_t rfl (all_t c12 (all_nt c13 (all_nt c13 (all_nt c13 (all_t c16 (all_nt c13 (all_nt c13 (all_nt c19 (all_nt c19 (all_nt c21 (all_nt c19 (all_nt c19 (all_nt c24 (all_nt c19 (all_nt c19 (all_f c27 (all_f c28 (all_f c28 (all_f c28 (all_f Bool.false_ne_true (all_f Bool.false_ne_true (all_f Bool.false_ne_true (all_f Bool.false_ne_true (all_f Bool.false_ne_true (all_f Bool.false_ne_true (all_f Bool.false_ne_true (all_f Bool.false_ne_true (all_t c39 (all_t c39 (all_nt c24 (all_t c39 (all_t c39 (all_t c39 (all_t c39 (all_t c39 (all_f Bool.false_ne_true (all_t c39 (all_f Bool.false_ne_true (all_f c50 all_nil)))))))))))))))))))))))))))))))))))))))))))))))))))) ih
set_option maxHeartbeats 20000000 in
theorem l6_0_w92 (m n : Nat) (x3 : List Int) (s13 : Int) (s15 : Int) (b0 : Int × Int × Int) (b1 : (Int × Int × Int) × Bool × Int × Bool × (List (List UInt8)) × Int) (b2 : (Int × Int × Int) × Bool × Int × Bool × (List (List UInt8)) × Int) (r : AEx × Env × Boxes) (c0 : decide (s15 < 60) = true) (c2 : ¬ decide (s15 < (l6_0_k7 x3)) = true) (c3 : ¬ (s15 == s13) = true) (c4 : b1.2.1 = true) (c10 : tickPre b1 s15 (alertsG (3)) = true) (c12 : tickPre b2 s15 (alertsG (3)) = true) (c13 : ((l6_0_k3 s15 b1).2.1 == (l6_0_k6 s15 b2).2.1) = true) (c16 : decide (l6_0_k10 s15 b1) = true) (c19 : ((show List (List UInt8) from (l6_0_k3 s15 b1).1) == (l6_0_k6 s15 b2).1) = true) (c21 : (l6_0_k6 s15 b2).2.2.2.1 = true) (c24 : (l6_0_k3 s15 b1).2.2.2.1 = true) (c27 : ¬ ((l6_0_k6 s15 b2).2.2.2.2.1 != (l6_0_k3 s15 b1).2.2.2.2.1) = true) (c28 : ¬ (l6_0_k3 s15 b1).2.1 = true) (c39 : ¬ decide (s15 ≥ b1.2.2.1) = true) (ih : (turns (hds 6 63496) 0 63496 (evC byref (evCall F S7 (m + 24)) (m + 24) 0 (hds 6) lbl6_0) n (l6_0H x3 1 s13 (l6_0_k4 s15) b0 ((l6_0_k3 s15 b1).2.2) ((l6_0_k6 s15 b2).2.2)) (l6_0B x3 1 s13 (l6_0_k4 s15) b0 ((l6_0_k3 s15 b1).2.2) ((l6_0_k6 s15 b2).2.2))).run = some r) : (turns (hds 6 63496) 0 63496 (evC byref (evCall F S7 (m + 24)) (m + 24) 0 (hds 6) lbl6_0) (n + 1) (l6_0_k70 x3 s13 s15 b0 b1 b2) (l6_0B x3 1 s13 s15 b0 b1 b2)).run = some r := by
  exact turns_step (M.run_of_path _ [true, true, false, false, true, true, true, false, true, true, true, true, true, false, false, false, true, false, false, false, false, false, false, false, false, false, false, false, false, false, false, false, false, false, false, false, false, false, false, false, false, false, false, false, false, false, false, false, false, false] _ _ (by kernel_rfl) (all_t c0 (all_t rfl (all_f c2 (all_f c3 (all_nnt c4 (all_nnt c4 (all_nnt c4 (all_nt c4 (all_nnt c4 (all_nnt c4 (all_t c10 (all_t rfl (all_t c12 (all_nt c13 (all_nt c13 (all_nt c13 (all_t c16 (all_nt c13 (all_nt c13 (all_nt c19 (all_nt c19 (all_nt c21 (all_nt c19 (all_nt c19 (all_nt c24 (all_nt c19 (all_nt c19 (all_f c27 (all_f c28 (all_f c28 (all_f c28 (all_f Bool.false_ne_true (all_f Bool.false_ne_true (all_f Bool.false_ne_true (all_f Bool.false_ne_true (all_f Bool.false_ne_true (all_f Bool.false_ne_true (all_f Bool.false_ne_true (all_f Bool.false_ne_true (all_f c39 (all_f c39 (all_f c39 (all_f c39 (all_f c39 (all_f c39 (all_f c39 (all_f Bool.false_ne_true (all_f c39 (all_f Bool.false_ne_true (all_f Bool.false_ne_true all_nil))))))))))))))))))))))))))))))))))))))))))))))))))) ih
set_option maxHeartbeats 20000000 in
theorem l6_0_w93 (m n : Nat) (x3 : List Int) (s13 : Int) (s15 : Int) (b0 : Int × Int × Int) (b1 : (Int × Int × Int) × Bool × Int × Bool × (List (List UInt8)) × Int) (b2 : (Int × Int × Int) × Bool × Int × Bool × (List (List UInt8)) × Int) (r : AEx × Env × Boxes) (c0 : decide (s15 < 60) = true) (c2 : ¬ decide (s15 < (l6_0_k7 x3)) = true) (c3 : ¬ (s15 == s13) = true) (c4 : b1.2.1 = true) (c10 : tickPre b1 s15 (alertsG (3)) = true) (c12 : tickPre b2 s15 (alertsG (3)) = true) (c13 : ((l6_0_k3 s15 b1).2.1 == (l6_0_k6 s15 b2).2.1) = true) (c16 : decide (l6_0_k10 s15 b1) = true) (c19 : ((show List (List UInt8) from (l6_0_k3 s15 b1).1) == (l6_0_k6 s15 b2).1) = true) (c21 : (l6_0_k6 s15 b2).2.2.2.1 = true) (c24 : ¬ (l6_0_k3 s15 b1).2.2.2.1 = true) (c27 : ¬ ((l6_0_k6 s15 b2).2.2.2.2.1 != (-1)) = true) (c28 : (l6_0_k3 s15 b1).2.1 = true) (c31 : decide (s15 ≥ b1.2.2.1) = true) (c50 : ¬ ((-1) != (l6_0_k9 s15 b0)) = true) (ih : (turns (hds 6 63496) 0 63496 (evC byref (evCall F S7 (m + 24)) (m + 24) 0 (hds 6) lbl6_0) n (l6_0H x3 1 s13 (l6_0_k4 s15) b0 ((l6_0_k3 s15 b1).2.2) ((l6_0_k6 s15 b2).2.2)) (l6_0B x3 1 s13 (l6_0_k4 s15) b0 ((l6_0_k3 s15 b1).2.2) ((l6_0_k6 s15 b2).2.2))).run = some r) : (turns (hds 6 63496) 0 63496 (evC byref (evCall F S7 (m + 24)) (m + 24) 0 (hds 6) lbl6_0) (n + 1) (l6_0_k70 x3 s13 s15 b0 b1 b2) (l6_0B x3 1 s13 s15 b0 b1 b2)).run = some r := by
  exact turns_step (M.run_of_path _ [true, true, false, false, true, true, true, false, true, true, true, true, true, false, false, false, true, false, false, false, false, false, false, false, true, false, false, false, true, true, true, false, false, false, false, false, false, false, false, true, true, true, true, true, true, true, true, false, true, false, false] _ _ (by kernel_rfl) (all_t c0 (all_t rfl (all_f c2 (all_f c3 (all_nnt c4 (all_nnt c4 (all_nnt c4 (all_nt c4 (all_nnt c4 (all_nnt c4 (all_t c10 (all_t rfl (all_t c12 (all_nt c13 (all_nt c13 (all_nt c13 (all_t c16 (all_nt c13 (all_nt c13 (all_nt c19 (all_nt c19 (all_nt c21 (all_nt c19 (all_nt c19 (all_nf c24 (all_nt c19 (all_nt c19 (all_f c27 (all_t c28 (all_t c28 (all_t c28 (all_nt c31 (all_nt c31 (all_nt c31 (all_nt c31 (all_nt c31 (all_nt c31 (all_f Bool.false_ne_true (all_f Bool.false_ne_true (all_t c31 (all_t c31 (all_nf c24 (all_t c31 (all_t c31 (all_t c31 (all_t c31 (all_t c31 (all_f Bool.false_ne_true (all_t c31 (all_f Bool.false_ne_true (all_f c50 all_nil)))))))))))))))))))))))))))))))))))))))))))))))))))) ih
set_option maxHeartbeats 20000000 in
theorem l6_0_w94 (m n : Nat) (x3 : List Int) (s13 : Int) (s15 : Int) (b0 : Int × Int × Int) (b1 : (Int × Int × Int) × Bool × Int × Bool × (List (List UInt8)) × Int) (b2 : (Int × Int × Int) × Bool × Int × Bool × (List (List UInt8)) × Int) (r : AEx × Env × Boxes) (c0 : decide (s15 < 60) = true) (c2 : ¬ decide (s15 < (l6_0_k7 x3)) = true) (c3 : ¬ (s15 == s13) = true) (c4 : b1.2.1 = true) (c10 : tickPre b1 s15 (alertsG (3)) = true) (c12 : tickPre b2 s15 (alertsG (3)) = true) (c13 : ((l6_0_k3 s15 b1).2.1 == (l6_0_k6 s15 b2).2.1) = true) (c16 : decide (l6_0_k10 s15 b1) = true) (c19 : ((show List (List UInt8) from (l6_0_k3 s15 b1).1) == (l6_0_k6 s15 b2).1) = true) (c21 : (l6_0_k6 s15 b2).2.2.2.1 = true) (c24 : ¬ (l6_0_k3 s15 b1).2.2.2.1 = true) (c27 : ¬ ((l6_0_k6 s15 b2).2.2.2.2.1 != (-1)) = true) (c28 : (l6_0_k3 s15 b1).2.1 = true) (c31 : ¬ decide (s15 ≥ b1.2.2.1) = true) (c35 : ¬ decide (b0.1 > 0) = true) (c40 : ¬ decide (s15 > 0) = true) (ih : (turns (hds 6 63496) 0 63496 (evC byref (evCall F S7 (m + 24)) (m + 24) 0 (hds 6) lbl6_0) n (l6_0H x3 1 s13 (l6_0_k4 s15) b0 ((l6_0_k3 s15 b1).2.2) ((l6_0_k6 s15 b2).2.2)) (l6_0B x3 1 s13 (l6_0_k4 s15) b0 ((l6_0_k3 s15 b1).2.2) ((l6_0_k6 s15 b2).2.2))).run = some r) : (turns (hds 6 63496) 0 63496 (evC byref (evCall F S7 (m + 24)) (m + 24) 0 (hds 6) lbl6_0) (n + 1) (l6_0_k70 x3 s13 s15 b0 b1 b2) (l6_0B x3 1 s13 s15 b0 b1 b2)).run = some r := by
  exact turns_step (M.run_of_path _ [true, true, false, false, true, true, true, false, true, true, true, true, true, false, false, false, true, false, false, false, false, false, false, false, true, false, false, false, true, true, true, true, true, true, true, false, false, true, false, true, false, false, false, false, false, false, false, false, false, false, false, false, false] _ _ (by kernel_rfl) (all_t c0 (all_t rfl (all_f c2 (all_f c3 (all_nnt c4 (all_nnt c4 (all_nnt c4 (all_nt c4 (all_nnt c4 (all_nnt c4 (all_t c10 (all_t rfl (all_t c12 (all_nt c13 (all_nt c13 (all_nt c13 (all_t c16 (all_nt c13 (all_nt c13 (all_nt c19 (all_nt c19 (all_nt c21 (all_nt c19 (all_nt c19 (all_nf c24 (all_nt c19 (all_nt c19 (all_f c27 (all_t c28 (all_t c28 (all_t c28 (all_nf c31 (all_nf c31 (all_nf c31 (all_nf c31 (all_f c35 (all_f c35 (all_nf c31 (all_f c35 (all_nf c31 (all_f c40 (all_f c40 (all_f c31 (all_f c31 (all_f c31 (all_f c31 (all_f c31 (all_f c31 (all_f c31 (all_f c40 (all_f c31 (all_f c40 (all_f Bool.false_ne_true all_nil)))))))))))))))))))))))))))))))))))))))))))))))))))))) ih
set_option maxHeartbeats 20000000 in
theorem l6_0_w95 (m n : Nat) (x3 : List Int) (s13 : Int) (s15 : Int) (b0 : Int × Int × Int) (b1 : (Int × Int × Int) × Bool × Int × Bool × (List (List UInt8)) × Int) (b2 : (Int × Int × Int) × Bool × Int × Bool × (List (List UInt8)) × Int) (r : AEx × Env × Boxes) (c0 : decide (s15 < 60) = true) (c2 : ¬ decide (s15 < (l6_0_k7 x3)) = true) (c3 : ¬ (s15 == s13) = true) (c4 : b1.2.1 = true) (c10 : tickPre b1 s15 (alertsG (3)) = true) (c12 : tickPre b2 s15 (alertsG (3)) = true) (c13 : ((l6_0_k3 s15 b1).2.1 == (l6_0_k6 s15 b2).2.1) = true) (c16 : decide (l6_0_k10 s15 b1) = true) (c19 : ((show List (List UInt8) from (l6_0_k3 s15 b1).1) == (l6_0_k6 s15 b2).1) = true) (c21 : (l6_0_k6 s15 b2).2.2.2.1 = true) (c24 : ¬ (l6_0_k3 s15 b1).2.2.2.1 = true) (c27 : ¬ ((l6_0_k6 s15 b2).2.2.2.2.1 != (-1)) = true) (c28 : ¬ (l6_0_k3 s15 b1).2.1 = true) (c39 : decide (s15 ≥ b1.2.2.1) = true) (c50 : ¬ ((-1) != (l6_0_k9 s15 b0)) = true) (ih : (turns (hds 6 63496) 0 63496 (evC byref (evCall F S7 (m + 24)) (m + 24) 0 (hds 6) lbl6_0) n (l6_0H x3 1 s13 (l6_0_k4 s15) b0 ((l6_0_k3 s15 b1).2.2) ((l6_0_k6 s15 b2).2.2)) (l6_0B x3 1 s13 (l6_0_k4 s15) b0 ((l6_0_k3 s15 b1).2.2) ((l6_0_k6 s15 b2).2.2))).run = some r) : (turns (hds 6 63496) 0 63496 (evC byref (evCall F S7 (m + 24)) (m + 24) 0 (hds 6) lbl6_0) (n + 1) (l6_0_k70 x3 s13 s15 b0 b1 b2) (l6_0B x3 1 s13 s15 b0 b1 b2)).run = some r := by
  exact turns_step (M.run_of_path _ [true, true, false, false, true, true, true, false, true, true, true, true, true, false, false, false, true, false, false, false, false, false, false, false, true, false, false, false, false, false, false, false, false, false, false, false, false, false, false, true, true, true, true, true, true, true, true, false, true, false, false] _ _ (by kernel_rfl) (all_t c0 (all_t rfl (all_f c2 (all_f c3 (all_nnt c4 (all_nnt c4 (all_nnt c4 (all_nt c4 (all_nnt c4 (all_nnt c4 (all_t c10 (all_t rfl (all_t c12 (all_nt c13 (all_nt c13 (all_nt c13 (all_t c16 (all_nt c13 (all_nt c13 (all_nt c19 (all_nt c19 (all_nt c21 (all_nt c19 (all_nt c19 (all_nf c24 (all_nt c19 (all_nt c19 (all_f c27 (all_f c28 (all_f c28 (all_f c28 (all_f Bool.false_ne_true (all_f Bool.false_ne_true (all_f Bool.false_ne_true (all_f Bool.false_ne_true (all_f Bool.false_ne_true (all_f Bool.false_ne_true (all_f Bool.false_ne_true (all_f Bool.false_ne_true (all_t c39 (all_t c39 (all_nf c24 (all_t c39 (all_t c39 (all_t c39 (all_t c39 (all_t c39 (all_f Bool.false_ne_true (all_t c39 (all_f Bool.false_ne_true (all_f c50 all_nil)))))))))))))))))))))))))))))))))))))))))))))))))))) ih
set_option maxHeartbeats 20000000 in
theorem l6_0_w96 (m n : Nat) (x3 : List Int) (s13 : Int) (s15 : Int) (b0 : Int × Int × Int) (b1 : (Int × Int × Int) × Bool × Int × Bool × (List (List UInt8)) × Int) (b2 : (Int × Int × Int) × Bool × Int × Bool × (List (List UInt8)) × Int) (r : AEx × Env × Boxes) (c0 : decide (s15 < 60) = true) (c2 : ¬ decide (s15 < (l6_0_k7 x3)) = true) (c3 : ¬ (s15 == s13) = true) (c4 : b1.2.1 = true) (c10 : tickPre b1 s15 (alertsG (3)) = true) (c12 : tickPre b2 s15 (alertsG (3)) = true) (c13 : ((l6_0_k3 s15 b1).2.1 == (l6_0_k6 s15 b2).2.1) = true) (c16 : decide (l6_0_k10 s15 b1) = true) (c19 : ((show List (List UInt8) from (l6_0_k3 s15 b1).1) == (l6_0_k6 s15 b2).1) = true) (c21 : (l6_0_k6 s15 b2).2.2.2.1 = true) (c24 : ¬ (l6_0_k3 s15 b1).2.2.2.1 = true) (c27 : ¬ ((l6_0_k6 s15 b2).2.2.2.2.1 != (-1)) = true) (c28 : ¬ (l6_0_k3 s15 b1).2.1 = true) (c39 : ¬ decide (s15 ≥ b1.2.2.1) = true) (ih : (turns (hds 6 63496) 0 63496 (evC byref (evCall F S7 (m + 24)) (m + 24) 0 (hds 6) lbl6_0) n (l6_0H x3 1 s13 (l6_0_k4 s15) b0 ((l6_0_k3 s15 b1).2.2) ((l6_0_k6 s15 b2).2.2)) (l6_0B x3 1 s13 (l6_0_k4 s15) b0 ((l6_0_k3 s15 b1).2.2) ((l6_0_k6 s15 b2).2.2))).run = some r) : (turns (hds 6 63496) 0 63496 (evC byref (evCall F S7 (m + 24)) (m + 24) 0 (hds 6) lbl6_0) (n + 1) (l6_0_k70 x3 s13 s15 b0 b1 b2) (l6_0B x3 1 s13 s15 b0 b1 b2)).run = some r := by
  exact turns_step (M.run_of_path _ [true, true, false, false, true, true, true, false, true, true, true, true, true, false, false, false, true, false, false, false, false, false, false, false, true, false, false, false, false, false, false, false, false, false, false, false, false, false, false, false, false, false, false, false, false, false, false, false, false, false] _ _ (by kernel_rfl) (all_t c0 (all_t rfl (all_f c2 (all_f c3 (all_nnt c4 (all_nnt c4 (all_nnt c4 (all_nt c4 (all_nnt c4 (all_nnt c4 (all_t c10 (all_t rfl (all_t c12 (all_nt c13 (all_nt c13 (all_nt c13 (all_t c16 (all_nt c13 (all_nt c13 (all_nt c19 (all_nt c19 (all_nt c21 (all_nt c19 (all_nt c19 (all_nf c24 (all_nt c19 (all_nt c19 (all_f c27 (all_f c28 (all_f c28 (all_f c28 (all_f Bool.false_ne_true (all_f Bool.false_ne_true (all_f Bool.false_ne_true (all_f Bool.false_ne_true (all_f Bool.false_ne_true (all_f Bool.false_ne_true (all_f Bool.false_ne_true (all_f Bool.false_ne_true (all_f c39 (all_f c39 (all_f c39 (all_f c39 (all_f c39 (all_f c39 (all_f c39 (all_f Bool.false_ne_true (all_f c39 (all_f Bool.false_ne_true (all_f Bool.false_ne_true all_nil))))))))))))))))))))))))))))))))))))))))))))))))))) ih
set_option maxHeartbeats 20000000 in
theorem l6_0_w97 (m n : Nat) (x3 : List Int) (s13 : Int) (s15 : Int) (b0 : Int × Int × Int) (b1 : (Int × Int × Int) × Bool × Int × Bool × (List (List UInt8)) × Int) (b2 : (Int × Int × Int) × Bool × Int × Bool × (List (List UInt8)) × Int) (r : AEx × Env × Boxes) (c0 : decide (s15 < 60) = true) (c2 : ¬ decide (s15 < (l6_0_k7 x3)) = true) (c3 : ¬ (s15 == s13) = true) (c4 : b1.2.1 = true) (c10 : tickPre b1 s15 (alertsG (3)) = true) (c12 : tickPre b2 s15 (alertsG (3)) = true) (c13 : ((l6_0_k3 s15 b1).2.1 == (l6_0_k6 s15 b2).2.1) = true) (c16 : decide (l6_0_k10 s15 b1) = true) (c19 : ((show List (List UInt8) from (l6_0_k3 s15 b1).1) == (l6_0_k6 s15 b2).1) = true) (c21 : ¬ (l6_0_k6 s15 b2).2.2.2.1 = true) (c24 : (l6_0_k3 s15 b1).2.2.2.1 = true) (c27 : ¬ ((-1) != (l6_0_k3 s15 b1).2.2.2.2.1) = true) (c28 : (l6_0_k3 s15 b1).2.1 = true) (c31 : decide (s15 ≥ b1.2.2.1) = true) (c50 : ¬ ((l6_0_k3 s15 b1).2.2.2.2.1 != (l6_0_k9 s15 b0)) = true) (ih : (turns (hds 6 63496) 0 63496 (evC byref (evCall F S7 (m + 24)) (m + 24) 0 (hds 6) lbl6_0) n (l6_0H x3 1 s13 (l6_0_k4 s15) b0 ((l6_0_k3 s15 b1).2.2) ((l6_0_k6 s15 b2).2.2)) (l6_0B x3 1 s13 (l6_0_k4 s15) b0 ((l6_0_k3 s15 b1).2.2) ((l6_0_k6 s15 b2).2.2))).run = some r) : (turns (hds 6 63496) 0 63496 (evC byref (evCall F S7 (m + 24)) (m + 24) 0 (hds 6) lbl6_0) (n + 1) (l6_0_k70 x3 s13 s15 b0 b1 b2) (l6_0B x3 1 s13 s15 b0 b1 b2)).run = some r := by
  exact turns_step (M.run_of_path _ [true, true, false, false, true, true, true, false, true, true, true, true, true, false, false, false, true, false, false, false, false, true, false, false, false, false, false, false, true, true, true, false, false, false, false, false, false, false, false, true, true, false, true, true, true, true, true, false, true, false, false] _ _ (by kernel_rfl) (all_t c0 (all_t rfl (all_f c2 (all_f c3 (all_nnt c4 (all_nnt c4 (all_nnt c4 (all_nt c4 (all_nnt c4 (all_nnt c4 (all_t c10 (all_t rfl (all_t c12 (all_nt c13 (all_nt c13 (all_nt c13 (all_t c16 (all_nt c13 (all_nt c13 (all_nt c19 (all_nt c19 (all_nf c21 (all_nt c19 (all_nt c19 (all_nt c24 (all_nt c19 (all_nt c19 (all_f c27 (all_t c28 (all_t c28 (all_t c28 (all_nt c31 (all_nt c31 (all_nt c31 (all_nt c31 (all_nt c31 (all_nt c31 (all_f Bool.false_ne_true (all_f Bool.false_ne_true (all_t c31 (all_t c31 (all_nt c24 (all_t c31 (all_t c31 (all_t c31 (all_t c31 (all_t c31 (all_f Bool.false_ne_true (all_t c31 (all_f Bool.false_ne_true (all_f c50 all_nil)))))))))))))))))))))))))))))))))))))))))))))))))))) ih
set_option maxHeartbeats 20000000 in
theorem l6_0_w98 (m n : Nat) (x3 : List Int) (s13 : Int) (s15 : Int) (b0 : Int × Int × Int) (b1 : (Int × Int × Int) × Bool × Int × Bool × (List (List UInt8)) × Int) (b2 : (Int × Int × Int) × Bool × Int × Bool × (List (List UInt8)) × Int) (r : AEx × Env × Boxes) (c0 : decide (s15 < 60) = true) (c2 : ¬ decide (s15 < (l6_0_k7 x3)) = true) (c3 : ¬ (s15 == s13) = true) (c4 : b1.2.1 = true) (c10 : tickPre b1 s15 (alertsG (3)) = true) (c12 : tickPre b2 s15 (alertsG (3)) = true) (c13 : ((l6_0_k3 s15 b1).2.1 == (l6_0_k6 s15 b2).2.1) = true) (c16 : decide (l6_0_k10 s15 b1) = true) (c19 : ((show List (List UInt8) from (l6_0_k3 s15 b1).1) == (l6_0_k6 s15 b2).1) = true) (c21 : ¬ (l6_0_k6 s15 b2).2.2.2.1 = true) (c24 : (l6_0_k3 s15 b1).2.2.2.1 = true) (c27 : ¬ ((-1) != (l6_0_k3 s15 b1).2.2.2.2.1) = true) (c28 : (l6_0_k3 s15 b1).2.1 = true) (c31 : ¬ decide (s15 ≥ b1.2.2.1) = true) (c35 : ¬ decide (b0.1 > 0) = true) (c40 : ¬ decide (s15 > 0) = true) (ih : (turns (hds 6 63496) 0 63496 (evC byref (evCall F S7 (m + 24)) (m + 24) 0 (hds 6) lbl6_0) n (l6_0H x3 1 s13 (l6_0_k4 s15) b0 ((l6_0_k3 s15 b1).2.2) ((l6_0_k6 s15 b2).2.2)) (l6_0B x3 1 s13 (l6_0_k4 s15) b0 ((l6_0_k3 s15 b1).2.2) ((l6_0_k6 s15 b2).2.2))).run = some r) : (turns (hds 6 63496) 0 63496 (evC byref (evCall F S7 (m + 24)) (m + 24) 0 (hds 6) lbl6_0) (n + 1) (l6_0_k70 x3 s13 s15 b0 b1 b2) (l6_0B x3 1 s13 s15 b0 b1 b2)).run = some r := by
  exact turns_step (M.run_of_path _ [true, true, false, false, true, true, true, false, true, true, true, true, true, false, false, false, true, false, false, false, false, true, false, false, false, false, false, false, true, true, true, true, true, true, true, false, false, true, false, true, false, false, false, false, false, false, false, false, false, false, false, false, false] _ _ (by kernel_rfl) (all_t c0 (all_t rfl (all_f c2 (all_f c3 (all_nnt c4 (all_nnt c4 (all_nnt c4 (all_nt c4 (all_nnt c4 (all_nnt c4 (all_t c10 (all_t rfl (all_t c12 (all_nt c13 (all_nt c13 (all_nt c13 (all_t c16 (all_nt c13 (all_nt c13 (all_nt c19 (all_nt c19 (all_nf c21 (all_nt c19 (all_nt c19 (all_nt c24 (all_nt c19 (all_nt c19 (all_f c27 (all_t c28 (all_t c28 (all_t c28 (all_nf c31 (all_nf c31 (all_nf c31 (all_nf c31 (all_f c35 (all_f c35 (all_nf c31 (all_f c35 (all_nf c31 (all_f c40 (all_f c40 (all_f c31 (all_f c31 (all_f c31 (all_f c31 (all_f c31 (all_f c31 (all_f c31 (all_f c40 (all_f c31 (all_f c40 (all_f Bool.false_ne_true all_nil)))))))))))))))))))))))))))))))))))))))))))))))))))))) ih
set_option maxHeartbeats 20000000 in
theorem l6_0_w99 (m n : Nat) (x3 : List Int) (s13 : Int) (s15 : Int) (b0 : Int × Int × Int) (b1 : (Int × Int × Int) × Bool × Int × Bool × (List (List UInt8)) × Int) (b2 : (Int × Int × Int) × Bool × Int × Bool × (List (List UInt8)) × Int) (r : AEx × Env × Boxes) (c0 : decide (s15 < 60) = true) (c2 : ¬ decide (s15 < (l6_0_k7 x3)) = true) (c3 : ¬ (s15 == s13) = true) (c4 : b1.2.1 = true) (c10 : tickPre b1 s15 (alertsG (3)) = true) (c12 : tickPre b2 s15 (alertsG (3)) = true) (c13 : ((l6_0_k3 s15 b1).2.1 == (l6_0_k6 s15 b2).2.1) = true) (c16 : decide (l6_0_k10 s15 b1) = true) (c19 : ((show List (List UInt8) from (l6_0_k3 s15 b1).1) == (l6_0_k6 s15 b2).1) = true) (c21 : ¬ (l6_0_k6 s15 b2).2.2.2.1 = true) (c24 : (l6_0_k3 s15 b1).2.2.2.1 = true) (c27 : ¬ ((-1) != (l6_0_k3 s15 b1).2.2.2.2.1) = true) (c28 : ¬ (l6_0_k3 s15 b1).2.1 = true) (c39 : decide (s15 ≥ b1.2.2.1) = true) (c50 : ¬ ((l6_0_k3 s15 b1).2.2.2.2.1 != (l6_0_k9 s15 b0)) = true) (ih : (turns (hds 6 63496) 0 63496 (evC byref (evCall F S7 (m + 24)) (m + 24) 0 (hds 6) lbl6_0) n (l6_0H x3 1 s13 (l6_0_k4 s15) b0 ((l6_0_k3 s15 b1).2.2) ((l6_0_k6 s15 b2).2.2)) (l6_0B x3 1 s13 (l6_0_k4 s15) b0 ((l6_0_k3 s15 b1).2.2) ((l6_0_k6 s15 b2).2.2))).run = some r) : (turns (hds 6 63496) 0 63496 (evC byref (evCall F S7 (m + 24)) (m + 24) 0 (hds 6) lbl6_0) (n + 1) (l6_0_k70 x3 s13 s15 b0 b1 b2) (l6_0B x3 1 s13 s15 b0 b1 b2)).run = some r := by
  exact turns_step (M.run_of_path _ [true, true, false, false, true, true, true, false, true, true, true, true, true, false, false, false, true, false, false, false, false, true, false, false, false, false, false, false, false, false, false, false, false, false, false, false, false, false, false, true, true, false, true, true, true, true, true, false, true, false, false] _ _ (by kernel_rfl) (all_t c0 (all_t rfl (all_f c2 (all_f c3 (all_nnt c4 (all_nnt c4 (all_nnt c4 (all_nt c4 (all_nnt c4 (all_nnt c4 (all_t c10 (all_t rfl (all_t c12 (all_nt c13 (all_nt c13 (all_nt c13 (all_t c16 (all_nt c13 (all_nt c13 (all_nt c19 (all_nt c19 (all_nf c21 (all_nt c19 (all_nt c19 (all_nt c24 (all_nt c19 (all_nt c19 (all_f c27 (all_f c28 (all_f c28 (all_f c28 (all_f Bool.false_ne_true (all_f Bool.false_ne_true (all_f Bool.false_ne_true (all_f Bool.false_ne_true (all_f Bool.false_ne_true (all_f Bool.false_ne_true (all_f Bool.false_ne_true (all_f Bool.false_ne_true (all_t c39 (all_t c39 (all_nt c24 (all_t c39 (all_t c39 (all_t c39 (all_t c39 (all_t c39 (all_f Bool.false_ne_true (all_t c39 (all_f Bool.false_ne_true (all_f c50 all_nil)))))))))))))))))))))))))))))))))))))))))))))))))))) ih
set_option maxHeartbeats 20000000 in
theorem l6_0_w100 (m n : Nat) (x3 : List Int) (s13 : Int) (s15 : Int) (b0 : Int × Int × Int) (b1 : (Int × Int × Int) × Bool × Int × Bool × (List (List UInt8)) × Int) (b2 : (Int × Int × Int) × Bool × Int × Bool × (List (List UInt8)) × Int) (r : AEx × Env × Boxes) (c0 : decide (s15 < 60) = true) (c2 : ¬ decide (s15 < (l6_0_k7 x3)) = true) (c3 : ¬ (s15 == s13) = true) (c4 : b1.2.1 = true) (c10 : tickPre b1 s15 (alertsG (3)) = true) (c12 : tickPre b2 s15 (alertsG (3)) = true) (c13 : ((l6_0_k3 s15 b1).2.1 == (l6_0_k6 s15 b2).2.1) = true) (c16 : decide (l6_0_k10 s15 b1) = true) (c19 : ((show List (List UInt8) from (l6_0_k3 s15 b1).1) == (l6_0_k6 s15 b2).1) = true) (c21 : ¬ (l6_0_k6 s15 b2).2.2.2.1 = true) (c24 : (l6_0_k3 s15 b1).2.2.2.1 = true) (c27 : ¬ ((-1) != (l6_0_k3 s15 b1).2.2.2.2.1) = true) (c28 : ¬ (l6_0_k3 s15 b1).2.1 = true) (c39 : ¬ decide (s15 ≥ b1.2.2.1) = true) (ih : (turns (hds 6 63496) 0 63496 (evC byref (evCall F S7 (m + 24)) (m + 24) 0 (hds 6) lbl6_0) n (l6_0H x3 1 s13 (l6_0_k4 s15) b0 ((l6_0_k3 s15 b1).2.2) ((l6_0_k6 s15 b2).2.2)) (l6_0B x3 1 s13 (l6_0_k4 s15) b0 ((l6_0_k3 s15 b1).2.2) ((l6_0_k6 s15 b2).2.2))).run = some r) : (turns (hds 6 63496) 0 63496 (evC byref (evCall F S7 (m + 24)) (m + 24) 0 (hds 6) lbl6_0) (n + 1) (l6_0_k70 x3 s13 s15 b0 b1 b2) (l6_0B x3 1 s13 s15 b0 b1 b2)).run = some r := by
  exact turns_step (M.run_of_path _ [true, true, false, false, true, true, true, false, true, true, true, true, true, false, false, false, true, false, false, false, false, true, false, false, false, false, false, false, false, false, false, false, false, false, false, false, false, false, false, false, false, false, false, false, false, false, false, false, false, false] _ _ (by kernel_rfl) (all_t c0 (all_t rfl (all_f c2 (all_f c3 (all_nnt c4 (all_nnt c4 (all_nnt c4 (all_nt c4 (all_nnt c4 (all_nnt c4 (all_t c10 (all_t rfl (all_t c12 (all_nt c13 (all_nt c13 (all_nt c13 (all_t c16 (all_nt c13 (all_nt c13 (all_nt c19 (all_nt c19 (all_nf c21 (all_nt c19 (all_nt c19 (all_nt c24 (all_nt c19 (all_nt c19 (all_f c27 (all_f c28 (all_f c28 (all_f c28 (all_f Bool.false_ne_true (all_f Bool.false_ne_true (all_f Bool.false_ne_true (all_f Bool.false_ne_true (all_f Bool.false_ne_true (all_f Bool.false_ne_true (all_f Bool.false_ne_true (all_f Bool.false_ne_true (all_f c39 (all_f c39 (all_f c39 (all_f c39 (all_f c39 (all_f c39 (all_f c39 (all_f Bool.false_ne_true (all_f c39 (all_f Bool.false_ne_true (all_f Bool.false_ne_true all_nil))))))))))))))))))))))))))))))))))))))))))))))))))) ih
set_option maxHeartbeats 20000000 in
theorem l6_0_w101 (m n : Nat) (x3 : List Int) (s13 : Int) (s15 : Int) (b0 : Int × Int × Int) (b1 : (Int × Int × Int) × Bool × Int × Bool × (List (List UInt8)) × Int) (b2 : (Int × Int × Int) × Bool × Int × Bool × (List (List UInt8)) × Int) (r : AEx × Env × Boxes) (c0 : decide (s15 < 60) = true) (c2 : ¬ decide (s15 < (l6_0_k7 x3)) = true) (c3 : ¬ (s15 == s13) = true) (c4 : b1.2.1 = true) (c10 : tickPre b1 s15 (alertsG (3)) = true) (c12 : tickPre b2 s15 (alertsG (3)) = true) (c13 : ((l6_0_k3 s15 b1).2.1 == (l6_0_k6 s15 b2).2.1) = true) (c16 : decide (l6_0_k10 s15 b1) = true) (c19 : ((show List (List UInt8) from (l6_0_k3 s15 b1).1) == (l6_0_k6 s15 b2).1) = true) (c21 : ¬ (l6_0_k6 s15 b2).2.2.2.1 = true) (c24 : ¬ (l6_0_k3 s15 b1).2.2.2.1 = true) (c28 : (l6_0_k3 s15 b1).2.1 = true) (c31 : decide (s15 ≥ b1.2.2.1) = true) (c50 : ¬ ((-1) != (l6_0_k9 s15 b0)) = true) (ih : (turns (hds 6 63496) 0 63496 (evC byref (evCall F S7 (m + 24)) (m + 24) 0 (hds 6) lbl6_0) n (l6_0H x3 1 s13 (l6_0_k4 s15) b0 ((l6_0_k3 s15 b1).2.2) ((l6_0_k6 s15 b2).2.2)) (l6_0B x3 1 s13 (l6_0_k4 s15) b0 ((l6_0_k3 s15 b1).2.2) ((l6_0_k6 s15 b2).2.2))).run = some r) : (turns (hds 6 63496) 0 63496 (evC byref (evCall F S7 (m + 24)) (m + 24) 0 (hds 6) lbl6_0) (n + 1) (l6_0_k70 x3 s13 s15 b0 b1 b2) (l6_0B x3 1 s13 s15 b0 b1 b2)).run = some r := by
  exact turns_step (M.run_of_path _ [true, true, false, false, true, true, true, false, true, true, true, true, true, false, false, false, true, false, false, false, false, true, false, false, true, false, false, false, true, true, true, false, false, false, false, false, false, false, false, true, true, true, true, true, true, true, true, false, true, false, false] _ _ (by kernel_rfl) (all_t c0 (all_t rfl (all_f c2 (all_f c3 (all_nnt c4 (all_nnt c4 (all_nnt c4 (all_nt c4 (all_nnt c4 (all_nnt c4 (all_t c10 (all_t rfl (all_t c12 (all_nt c13 (all_nt c13 (all_nt c13 (all_t c16 (all_nt c13 (all_nt c13 (all_nt c19 (all_nt c19 (all_nf c21 (all_nt c19 (all_nt c19 (all_nf c24 (all_nt c19 (all_nt c19 (all_f Bool.false_ne_true (all_t c28 (all_t c28 (all_t c28 (all_nt c31 (all_nt c31 (all_nt c31 (all_nt c31 (all_nt c31 (all_nt c31 (all_f Bool.false_ne_true (all_f Bool.false_ne_true (all_t c31 (all_t c31 (all_nf c24 (all_t c31 (all_t c31 (all_t c31 (all_t c31 (all_t c31 (all_f Bool.false_ne_true (all_t c31 (all_f Bool.false_ne_true (all_f c50 all_nil)))))))))))))))))))))))))))))))))))))))))))))))))))) ih
set_option maxHeartbeats 20000000 in
theorem l6_0_w102 (m n : Nat) (x3 : List Int) (s13 : Int) (s15 : Int) (b0 : Int × Int × Int) (b1 : (Int × Int × Int) × Bool × Int × Bool × (List (List UInt8)) × Int) (b2 : (Int × Int × Int) × Bool × Int × Bool × (List (List UInt8)) × Int) (r : AEx × Env × Boxes) (c0 : decide (s15 < 60) = true) (c2 : ¬ decide (s15 < (l6_0_k7 x3)) = true) (c3 : ¬ (s15 == s13) = true) (c4 : b1.2.1 = true) (c10 : tickPre b1 s15 (alertsG (3)) = true) (c12 : tickPre b2 s15 (alertsG (3)) = true) (c13 : ((l6_0_k3 s15 b1).2.1 == (l6_0_k6 s15 b2).2.1) = true) (c16 : decide (l6_0_k10 s15 b1) = true) (c19 : ((show List (List UInt8) from (l6_0_k3 s15 b1).1) == (l6_0_k6 s15 b2).1) = true) (c21 : ¬ (l6_0_k6 s15 b2).2.2.2.1 = true) (c24 : ¬ (l6_0_k3 s15 b1).2.2.2.1 = true) (c28 : (l6_0_k3 s15 b1).2.1 = true) (c31 : ¬ decide (s15 ≥ b1.2.2.1) = true) (c35 : ¬ decide (b0.1 > 0) = true) (c40 : ¬ decide (s15 > 0) = true) (ih : (turns (hds 6 63496) 0 63496 (evC byref (evCall F S7 (m + 24)) (m + 24) 0 (hds 6) lbl6_0) n (l6_0H x3 1 s13 (l6_0_k4 s15) b0 ((l6_0_k3 s15 b1).2.2) ((l6_0_k6 s15 b2).2.2)) (l6_0B x3 1 s13 (l6_0_k4 s15) b0 ((l6_0_k3 s15 b1).2.2) ((l6_0_k6 s15 b2).2.2))).run = some r) : (turns (hds 6 63496) 0 63496 (evC byref (evCall F S7 (m + 24)) (m + 24) 0 (hds 6) lbl6_0) (n + 1) (l6_0_k70 x3 s13 s15 b0 b1 b2) (l6_0B x3 1 s13 s15 b0 b1 b2)).run = some r := by
  exact turns_step (M.run_of_path _ [true, true, false, false, true, true, true, false, true, true, true, true, true, false, false, false, true, false, false, false, false, true, false, false, true, false, false, false, true, true, true, true, true, true, true, false, false, true, false, true, false, false, false, false, false, false, false, false, false, false, false, false, false] _ _ (by kernel_rfl) (all_t c0 (all_t rfl (all_f c2 (all_f c3 (all_nnt c4 (all_nnt c4 (all_nnt c4 (all_nt c4 (all_nnt c4 (all_nnt c4 (all_t c10 (all_t rfl (all_t c12 (all_nt c13 (all_nt c13 (all_nt c13 (all_t c16 (all_nt c13 (all_nt c13 (all_nt c19 (all_nt c19 (all_nf c21 (all_nt c19 (all_nt c19 (all_nf c24 (all_nt c19 (all_nt c19 (all_f Bool.false_ne_true (all_t c28 (all_t c28 (all_t c28 (all_nf c31 (all_nf c31 (all_nf c31 (all_nf c31 (all_f c35 (all_f c35 (all_nf c31 (all_f c35 (all_nf c31 (all_f c40 (all_f c40 (all_f c31 (all_f c31 (all_f c31 (all_f c31 (all_f c31 (all_f c31 (all_f c31 (all_f c40 (all_f c31 (all_f c40 (all_f Bool.false_ne_true all_nil)))))))))))))))))))))))))))))))))))))))))))))))))))))) ih
set_option maxHeartbeats 20000000 in
theorem l6_0_w103 (m n : Nat) (x3 : List Int) (s13 : Int) (s15 : Int) (b0 : Int × Int × Int) (b1 : (Int × Int × Int) × Bool × Int × Bool × (List (List UInt8)) × Int) (b2 : (Int × Int × Int) × Bool × Int × Bool × (List (List UInt8)) × Int) (r : AEx × Env × Boxes) (c0 : decide (s15 < 60) = true) (c2 : ¬ decide (s15 < (l6_0_k7 x3)) = true) (c3 : ¬ (s15 == s13) = true) (c4 : b1.2.1 = true) (c10 : tickPre b1 s15 (alertsG (3)) = true) (c12 : tickPre b2 s15 (alertsG (3)) = true) (c13 : ((l6_0_k3 s15 b1).2.1 == (l6_0_k6 s15 b2).2.1) = true) (c16 : decide (l6_0_k10 s15 b1) = true) (c19 : ((show List (List UInt8) from (l6_0_k3 s15 b1).1) == (l6_0_k6 s15 b2).1) = true) (c21 : ¬ (l6_0_k6 s15 b2).2.2.2.1 = true) (c24 : ¬ (l6_0_k3 s15 b1).2.2.2.1 = true) (c28 : ¬ (l6_0_k3 s15 b1).2.1 = true) (c39 : decide (s15 ≥ b1.2.2.1) = true) (c50 : ¬ ((-1) != (l6_0_k9 s15 b0)) = true) (ih : (turns (hds 6 63496) 0 63496 (evC byref (evCall F S7 (m + 24)) (m + 24) 0 (hds 6) lbl6_0) n (l6_0H x3 1 s13 (l6_0_k4 s15) b0 ((l6_0_k3 s15 b1).2.2) ((l6_0_k6 s15 b2).2.2)) (l6_0B x3 1 s13 (l6_0_k4 s15) b0 ((l6_0_k3 s15 b1).2.2) ((l6_0_k6 s15 b2).2.2))).run = some r) : (turns (hds 6 63496) 0 63496 (evC byref (evCall F S7 (m + 24)) (m + 24) 0 (hds 6) lbl6_0) (n + 1) (l6_0_k70 x3 s13 s15 b0 b1 b2) (l6_0B x3 1 s13 s15 b0 b1 b2)).run = some r := by
  exact turns_step (M.run_of_path _ [true, true, false, false, true, true, true, false, true, true, true, true, true, false, false, false, true, false, false, false, false, true, false, false, true, false, false, false, false, false, false, false, false, false, false, false, false, false, false, true, true, true, true, true, true, true, true, false, true, false, false] _ _ (by kernel_rfl) (all_t c0 (all_t rfl (all_f c2 (all_f c3 (all_nnt c4 (all_nnt c4 (all_nnt c4 (all_nt c4 (all_nnt c4 (all_nnt c4 (all_t c10 (all_t rfl (all_t c12 (all_nt c13 (all_nt c13 (all_nt c13 (all_t c16 (all_nt c13 (all_nt c13 (all_nt c19 (all_nt c19 (all_nf c21 (all_nt c19 (all_nt c19 (all_nf c24 (all_nt c19 (all_nt c19 (all_f Bool.false_ne_true (all_f c28 (all_f c28 (all_f c28 (all_f Bool.false_ne_true (all_f Bool.false_ne_true (all_f Bool.false_ne_true (all_f Bool.false_ne_true (all_f Bool.false_ne_true (all_f Bool.false_ne_true (all_f Bool.false_ne_true (all_f Bool.false_ne_true (all_t c39 (all_t c39 (all_nf c24 (all_t c39 (all_t c39 (all_t c39 (all_t c39 (all_t c39 (all_f Bool.false_ne_true (all_t c39 (all_f Bool.false_ne_true (all_f c50 all_nil)))))))))))))))))))))))))))))))))))))))))))))))))))) ih
set_option maxHeartbeats 20000000 in
theorem l6_0_w104 (m n : Nat) (x3 : List Int) (s13 : Int) (s15 : Int) (b0 : Int × Int × Int) (b1 : (Int × Int × Int) × Bool × Int × Bool × (List (List UInt8)) × Int) (b2 : (Int × Int × Int) × Bool × Int × Bool × (List (List UInt8)) × Int) (r : AEx × Env × Boxes) (c0 : decide (s15 < 60) = true) (c2 : ¬ decide (s15 < (l6_0_k7 x3)) = true) (c3 : ¬ (s15 == s13) = true) (c4 : b1.2.1 = true) (c10 : tickPre b1 s15 (alertsG (3)) = true) (c12 : tickPre b2 s15 (alertsG (3)) = true) (c13 : ((l6_0_k3 s15 b1).2.1 == (l6_0_k6 s15 b2).2.1) = true) (c16 : decide (l6_0_k10 s15 b1) = true) (c19 : ((show List (List UInt8) from (l6_0_k3 s15 b1).1) == (l6_0_k6 s15 b2).1) = true) (c21 : ¬ (l6_0_k6 s15 b2).2.2.2.1 = true) (c24 : ¬ (l6_0_k3 s15 b1).2.2.2.1 = true) (c28 : ¬ (l6_0_k3 s15 b1).2.1 = true) (c39 : ¬ decide (s15 ≥ b1.2.2.1) = true) (ih : (turns (hds 6 63496) 0 63496 (evC byref (evCall F S7 (m + 24)) (m + 24) 0 (hds 6) lbl6_0) n (l6_0H x3 1 s13 (l6_0_k4 s15) b0 ((l6_0_k3 s15 b1).2.2) ((l6_0_k6 s15 b2).2.2)) (l6_0B x3 1 s13 (l6_0_k4 s15) b0 ((l6_0_k3 s15 b1).2.2) ((l6_0_k6 s15 b2).2.2))).run = some r) : (turns (hds 6 63496) 0 63496 (evC byref (evCall F S7 (m + 24)) (m + 24) 0 (hds 6) lbl6_0) (n + 1) (l6_0_k70 x3 s13 s15 b0 b1 b2) (l6_0B x3 1 s13 s15 b0 b1 b2)).run = some r := by
  exact turns_step (M.run_of_path _ [true, true, false, false, true, true, true, false, true, true, true, true, true, false, false, false, true, false, false, false, false, true, false, false, true, false, false, false, false, false, false, false, false, false, false, false, false, false, false, false, false, false, false, false, false, false, false, false, false, false] _ _ (by kernel_rfl) (all_t c0 (all_t rfl (all_f c2 (all_f c3 (all_nnt c4 (all_nnt c4 (all_nnt c4 (all_nt c4 (all_nnt c4 (all_nnt c4 (all_t c10 (all_t rfl (all_t c12 (all_nt c13 (all_nt c13 (all_nt c13 (all_t c16 (all_nt c13 (all_nt c13 (all_nt c19 (all_nt c19 (all_nf c21 (all_nt c19 (all_nt c19 (all_nf c24 (all_nt c19 (all_nt c19 (all_f Bool.false_ne_true (all_f c28 (all_f c28 (all_f c28 (all_f Bool.false_ne_true (all_f Bool.false_ne_true (all_f Bool.false_ne_true (all_f Bool.false_ne_true (all_f Bool.false_ne_true (all_f Bool.false_ne_true (all_f Bool.false_ne_true (all_f Bool.false_ne_true (all_f c39 (all_f c39 (all_f c39 (all_f c39 (all_f c39 (all_f c39 (all_f c39 (all_f Bool.false_ne_true (all_f c39 (all_f Bool.false_ne_true (all_f Bool.false_ne_true all_nil))))))))))))))))))))))))))))))))))))))))))))))))))) ih
set_option maxHeartbeats 20000000 in
theorem l6_0_w105 (m n : Nat) (x3 : List Int) (s13 : Int) (s15 : Int) (b0 : Int × Int × Int) (b1 : (Int × Int × Int) × Bool × Int × Bool × (List (List UInt8)) × Int) (b2 : (Int × Int × Int) × Bool × Int × Bool × (List (List UInt8)) × Int) (r : AEx × Env × Boxes) (c0 : decide (s15 < 60) = true) (c2 : ¬ decide (s15 < (l6_0_k7 x3)) = true) (c3 : ¬ (s15 == s13) = true) (c4 : ¬ b1.2.1 = true) (c9 : tickPre b1 s15 (alertsG (3)) = true) (c11 : tickPre b2 s15 (alertsG (3)) = true) (c12 : ((l6_0_k3 s15 b1).2.1 == (l6_0_k6 s15 b2).2.1) = true) (c15 : decide (l6_0_k10 s15 b1) = true) (c18 : ((show List (List UInt8) from (l6_0_k3 s15 b1).1) == (l6_0_k6 s15 b2).1) = true) (c20 : (l6_0_k6 s15 b2).2.2.2.1 = true) (c23 : (l6_0_k3 s15 b1).2.2.2.1 = true) (c26 : ¬ ((l6_0_k6 s15 b2).2.2.2.2.1 != (l6_0_k3 s15 b1).2.2.2.2.1) = true) (c27 : (l6_0_k3 s15 b1).2.1 = true) (c34 : ¬ decide (b0.1 > 0) = true) (c39 : ¬ decide (s15 > 0) = true) (ih : (turns (hds 6 63496) 0 63496 (evC byref (evCall F S7 (m + 24)) (m + 24) 0 (hds 6) lbl6_0) n (l6_0H x3 1 s13 (l6_0_k4 s15) b0 ((l6_0_k3 s15 b1).2.2) ((l6_0_k6 s15 b2).2.2)) (l6_0B x3 1 s13 (l6_0_k4 s15) b0 ((l6_0_k3 s15 b1).2.2) ((l6_0_k6 s15 b2).2.2))).run = some r) : (turns (hds 6 63496) 0 63496 (evC byref (evCall F S7 (m + 24)) (m + 24) 0 (hds 6) lbl6_0) (n + 1) (l6_0_k70 x3 s13 s15 b0 b1 b2) (l6_0B x3 1 s13 s15 b0 b1 b2)).run = some r := by
  exact turns_step (M.run_of_path _ [true, true, false, false, false, false, false, false, false, true, true, true, false, false, false, true, false, false, false, false, false, false, false, false, false, false, false, true, true, true, true, true, true, true, false, false, true, false, true, false, false, false, false, false, false, false, false, false, false, false, false, false] _ _ (by kernel_rfl) (all_t c0 (all_t rfl (all_f c2 (all_f c3 (all_nnf c4 (all_nnf c4 (all_nnf c4 (all_nnf c4 (all_nnf c4 (all_t c9 (all_t rfl (all_t c11 (all_nt c12 (all_nt c12 (all_nt c12 (all_t c15 (all_nt c12 (all_nt c12 (all_nt c18 (all_nt c18 (all_nt c20 (all_nt c18 (all_nt c18 (all_nt c23 (all_nt c18 (all_nt c18 (all_f c26 (all_t c27 (all_t c27 (all_t c27 (all_t rfl (all_t rfl (all_t rfl (all_t rfl (all_f c34 (all_f c34 (all_t rfl (all_f c34 (all_t rfl (all_f c39 (all_f c39 (all_f Bool.false_ne_true (all_f Bool.false_ne_true (all_f Bool.false_ne_true (all_f Bool.false_ne_true (all_f Bool.false_ne_true (all_f Bool.false_ne_true (all_f Bool.false_ne_true (all_f c39 (all_f Bool.false_ne_true (all_f c39 (all_f Bool.false_ne_true all_nil))))))))))))))))))))))))))))))))))))))))))))))))))))) ih
set_option maxHeartbeats 20000000 in
theorem l6_0_w106 (m n : Nat) (x3 : List Int) (s13 : Int) (s15 : Int) (b0 : Int × Int × Int) (b1 : (Int × Int × Int) × Bool × Int × Bool × (List (List UInt8)) × Int) (b2 : (Int × Int × Int) × Bool × Int × Bool × (List (List UInt8)) × Int) (r : AEx × Env × Boxes) (c0 : decide (s15 < 60) = true) (c2 : ¬ decide (s15 < (l6_0_k7 x3)) = true) (c3 : ¬ (s15 == s13) = true) (c4 : ¬ b1.2.1 = true) (c9 : tickPre b1 s15 (alertsG (3)) = true) (c11 : tickPre b2 s15 (alertsG (3)) = true) (c12 : ((l6_0_k3 s15 b1).2.1 == (l6_0_k6 s15 b2).2.1) = true) (c15 : decide (l6_0_k10 s15 b1) = true) (c18 : ((show List (List UInt8) from (l6_0_k3 s15 b1).1) == (l6_0_k6 s15 b2).1) = true) (c20 : (l6_0_k6 s15 b2).2.2.2.1 = true) (c23 : (l6_0_k3 s15 b1).2.2.2.1 = true) (c26 : ¬ ((l6_0_k6 s15 b2).2.2.2.2.1 != (l6_0_k3 s15 b1).2.2.2.2.1) = true) (c27 : ¬ (l6_0_k3 s15 b1).2.1 = true) (ih : (turns (hds 6 63496) 0 63496 (evC byref (evCall F S7 (m + 24)) (m + 24) 0 (hds 6) lbl6_0) n (l6_0H x3 1 s13 (l6_0_k4 s15) b0 ((l6_0_k3 s15 b1).2.2) ((l6_0_k6 s15 b2).2.2)) (l6_0B x3 1 s13 (l6_0_k4 s15) b0 ((l6_0_k3 s15 b1).2.2) ((l6_0_k6 s15 b2).2.2))).run = some r) : (turns (hds 6 63496) 0 63496 (evC byref (evCall F S7 (m + 24)) (m + 24) 0 (hds 6) lbl6_0) (n + 1) (l6_0_k70 x3 s13 s15 b0 b1 b2) (l6_0B x3 1 s13 s15 b0 b1 b2)).run = some r := by
  exact turns_step (M.run_of_path _ [true, true, false, false, false, false, false, false, false, true, true, true, false, false, false, true, false, false, false, false, false, false, false, false, false, false, false, false, false, false, false, false, false, false, false, false, false, false, false, false, false, false, false, false, false, false, false, false, false] _ _ (by kernel_rfl) (all_t c0 (all_t rfl (all_f c2 (all_f c3 (all_nnf c4 (all_nnf c4 (all_nnf c4 (all_nnf c4 (all_nnf c4 (all_t c9 (all_t rfl (all_t c11 (all_nt c12 (all_nt c12 (all_nt c12 (all_t c15 (all_nt c12 (all_nt c12 (all_nt c18 (all_nt c18 (all_nt c20 (all_nt c18 (all_nt c18 (all_nt c23 (all_nt c18 (all_nt c18 (all_f c26 (all_f c27 (all_f c27 (all_f c27 (all_f Bool.false_ne_true (all_f Bool.false_ne_true (all_f Bool.false_ne_true (all_f Bool.false_ne_true (all_f Bool.false_ne_true (all_f Bool.false_ne_true (all_f Bool.false_ne_true (all_f Bool.false_ne_true (all_f Bool.false_ne_true (all_f Bool.false_ne_true (all_f Bool.false_ne_true (all_f Bool.false_ne_true (all_f Bool.false_ne_true (all_f Bool.false_ne_true (all_f Bool.false_ne_true (all_f Bool.false_ne_true (all_f Bool.false_ne_true (all_f Bool.false_ne_true (all_f Bool.false_ne_true all_nil)))))))))))))))))))))))))))))))))))))))))))))))))) ih
set_option maxHeartbeats 20000000 in
theorem l6_0_w107 (m n : Nat) (x3 : List Int) (s13 : Int) (s15 : Int) (b0 : Int × Int × Int) (b1 : (Int × Int × Int) × Bool × Int × Bool × (List (List UInt8)) × Int) (b2 : (Int × Int × Int) × Bool × Int × Bool × (List (List UInt8)) × Int) (r : AEx × Env × Boxes) (c0 : decide (s15 < 60) = true) (c2 : ¬ decide (s15 < (l6_0_k7 x3)) = true) (c3 : ¬ (s15 == s13) = true) (c4 : ¬ b1.2.1 = true) (c9 : tickPre b1 s15 (alertsG (3)) = true) (c11 : tickPre b2 s15 (alertsG (3)) = true) (c12 : ((l6_0_k3 s15 b1).2.1 == (l6_0_k6 s15 b2).2.1) = true) (c15 : decide (l6_0_k10 s15 b1) = true) (c18 : ((show List (List UInt8) from (l6_0_k3 s15 b1).1) == (l6_0_k6 s15 b2).1) = true) (c20 : (l6_0_k6 s15 b2).2.2.2.1 = true) (c23 : ¬ (l6_0_k3 s15 b1).2.2.2.1 = true) (c26 : ¬ ((l6_0_k6 s15 b2).2.2.2.2.1 != (-1)) = true) (c27 : (l6_0_k3 s15 b1).2.1 = true) (c34 : ¬ decide (b0.1 > 0) = true) (c39 : ¬ decide (s15 > 0) = true) (ih : (turns (hds 6 63496) 0 63496 (evC byref (evCall F S7 (m + 24)) (m + 24) 0 (hds 6) lbl6_0) n (l6_0H x3 1 s13 (l6_0_k4 s15) b0 ((l6_0_k3 s15 b1).2.2) ((l6_0_k6 s15 b2).2.2)) (l6_0B x3 1 s13 (l6_0_k4 s15) b0 ((l6_0_k3 s15 b1).2.2) ((l6_0_k6 s15 b2).2.2))).run = some r) : (turns (hds 6 63496) 0 63496 (evC byref (evCall F S7 (m + 24)) (m + 24) 0 (hds 6) lbl6_0) (n + 1) (l6_0_k70 x3 s13 s15 b0 b1 b2) (l6_0B x3 1 s13 s15 b0 b1 b2)).run = some r := by
  exact turns_step (M.run_of_path _ [true, true, false, false, false, false, false, false, false, true, true, true, false, false, false, true, false, false, false, false, false, false, false, true, false, false, false, true, true, true, true, true, true, true, false, false, true, false, true, false, false, false, false, false, false, false, false, false, false, false, false, false] _ _ (by kernel_rfl) (all_t c0 (all_t rfl (all_f c2 (all_f c3 (all_nnf c4 (all_nnf c4 (all_nnf c4 (all_nnf c4 (all_nnf c4 (all_t c9 (all_t rfl (all_t c11 (all_nt c12 (all_nt c12 (all_nt c12 (all_t c15 (all_nt c12 (all_nt c12 (all_nt c18 (all_nt c18 (all_nt c20 (all_nt c18 (all_nt c18 (all_nf c23 (all_nt c18 (all_nt c18 (all_f c26 (all_t c27 (all_t c27 (all_t c27 (all_t rfl (all_t rfl (all_t rfl (all_t rfl (all_f c34 (all_f c34 (all_t rfl (all_f c34 (all_t rfl (all_f c39 (all_f c39 (all_f Bool.false_ne_true (all_f Bool.false_ne_true (all_f Bool.false_ne_true (all_f Bool.false_ne_true (all_f Bool.false_ne_true (all_f Bool.false_ne_true (all_f Bool.false_ne_true (all_f c39 (all_f Bool.false_ne_true (all_f c39 (all_f Bool.false_ne_true all_nil))))))))))))))))))))))))))))))))))))))))))))))))))))) ih
set_option maxHeartbeats 20000000 in
theorem l6_0_w108 (m n : Nat) (x3 : List Int) (s13 : Int) (s15 : Int) (b0 : Int × Int × Int) (b1 : (Int × Int × Int) × Bool × Int × Bool × (List (List UInt8)) × Int) (b2 : (Int × Int × Int) × Bool × Int × Bool × (List (List UInt8)) × Int) (r : AEx × Env × Boxes) (c0 : decide (s15 < 60) = true) (c2 : ¬ decide (s15 < (l6_0_k7 x3)) = true) (c3 : ¬ (s15 == s13) = true) (c4 : ¬ b1.2.1 = true) (c9 : tickPre b1 s15 (alertsG (3)) = true) (c11 : tickPre b2 s15 (alertsG (3)) = true) (c12 : ((l6_0_k3 s15 b1).2.1 == (l6_0_k6 s15 b2).2.1) = true) (c15 : decide (l6_0_k10 s15 b1) = true) (c18 : ((show List (List UInt8) from (l6_0_k3 s15 b1).1) == (l6_0_k6 s15 b2).1) = true) (c20 : (l6_0_k6 s15 b2).2.2.2.1 = true) (c23 : ¬ (l6_0_k3 s15 b1).2.2.2.1 = true) (c26 : ¬ ((l6_0_k6 s15 b2).2.2.2.2.1 != (-1)) = true) (c27 : ¬ (l6_0_k3 s15 b1).2.1 = true) (ih : (turns (hds 6 63496) 0 63496 (evC byref (evCall F S7 (m + 24)) (m + 24) 0 (hds 6) lbl6_0) n (l6_0H x3 1 s13 (l6_0_k4 s15) b0 ((l6_0_k3 s15 b1).2.2) ((l6_0_k6 s15 b2).2.2)) (l6_0B x3 1 s13 (l6_0_k4 s15) b0 ((l6_0_k3 s15 b1).2.2) ((l6_0_k6 s15 b2).2.2))).run = some r) : (turns (hds 6 63496) 0 63496 (evC byref (evCall F S7 (m + 24)) (m + 24) 0 (hds 6) lbl6_0) (n + 1) (l6_0_k70 x3 s13 s15 b0 b1 b2) (l6_0B x3 1 s13 s15 b0 b1 b2)).run = some r := by
  exact turns_step (M.run_of_path _ [true, true, false, false, false, false, false, false, false, true, true, true, false, false, false, true, false, false, false, false, false, false, false, true, false, false, false, false, false, false, false, false, false, false, false, false, false, false, false, false, false, false, false, false, false, false, false, false, false] _ _ (by kernel_rfl) (all_t c0 (all_t rfl (all_f c2 (all_f c3 (all_nnf c4 (all_nnf c4 (all_nnf c4 (all_nnf c4 (all_nnf c4 (all_t c9 (all_t rfl (all_t c11 (all_nt c12 (all_nt c12 (all_nt c12 (all_t c15 (all_nt c12 (all_nt c12 (all_nt c18 (all_nt c18 (all_nt c20 (all_nt c18 (all_nt c18 (all_nf c23 (all_nt c18 (all_nt c18 (all_f c26 (all_f c27 (all_f c27 (all_f c27 (all_f Bool.false_ne_true (all_f Bool.false_ne_true (all_f Bool.false_ne_true (all_f Bool.false_ne_true (all_f Bool.false_ne_true (all_f Bool.false_ne_true (all_f Bool.false_ne_true (all_f Bool.false_ne_true (all_f Bool.false_ne_true (all_f Bool.false_ne_true (all_f Bool.false_ne_true (all_f Bool.false_ne_true (all_f Bool.false_ne_true (all_f Bool.false_ne_true (all_f Bool.false_ne_true (all_f Bool.false_ne_true (all_f Bool.false_ne_true (all_f Bool.false_ne_true (all_f Bool.false_ne_true all_nil)))))))))))))))))))))))))))))))))))))))))))))))))) ih
set_option maxHeartbeats 20000000 in
theorem l6_0_w109 (m n : Nat) (x3 : List Int) (s13 : Int) (s15 : Int) (b0 : Int × Int × Int) (b1 : (Int × Int × Int) × Bool × Int × Bool × (List (List UInt8)) × Int) (b2 : (Int × Int × Int) × Bool × Int × Bool × (List (List UInt8)) × Int) (r : AEx × Env × Boxes) (c0 : decide (s15 < 60) = true) (c2 : ¬ decide (s15 < (l6_0_k7 x3)) = true) (c3 : ¬ (s15 == s13) = true) (c4 : ¬ b1.2.1 = true) (c9 : tickPre b1 s15 (alertsG (3)) = true) (c11 : tickPre b2 s15 (alertsG (3)) = true) (c12 : ((l6_0_k3 s15 b1).2.1 == (l6_0_k6 s15 b2).2.1) = true) (c15 : decide (l6_0_k10 s15 b1) = true) (c18 : ((show List (List UInt8) from (l6_0_k3 s15 b1).1) == (l6_0_k6 s15 b2).1) = true) (c20 : ¬ (l6_0_k6 s15 b2).2.2.2.1 = true) (c23 : (l6_0_k3 s15 b1).2.2.2.1 = true) (c26 : ¬ ((-1) != (l6_0_k3 s15 b1).2.2.2.2.1) = true) (c27 : (l6_0_k3 s15 b1).2.1 = true) (c34 : ¬ decide (b0.1 > 0) = true) (c39 : ¬ decide (s15 > 0) = true) (ih : (turns (hds 6 63496) 0 63496 (evC byref (evCall F S7 (m + 24)) (m + 24) 0 (hds 6) lbl6_0) n (l6_0H x3 1 s13 (l6_0_k4 s15) b0 ((l6_0_k3 s15 b1).2.2) ((l6_0_k6 s15 b2).2.2)) (l6_0B x3 1 s13 (l6_0_k4 s15) b0 ((l6_0_k3 s15 b1).2.2) ((l6_0_k6 s15 b2).2.2))).run = some r) : (turns (hds 6 63496) 0 63496 (evC byref (evCall F S7 (m + 24)) (m + 24) 0 (hds 6) lbl6_0) (n + 1) (l6_0_k70 x3 s13 s15 b0 b1 b2) (l6_0B x3 1 s13 s15 b0 b1 b2)).run = some r := by
  exact turns_step (M.run_of_path _ [true, true, false, false, false, false, false, false, false, true, true, true, false, false, false, true, false, false, false, false, true, false, false, false, false, false, false, true, true, true, true, true, true, true, false, false, true, false, true, false, false, false, false, false, false, false, false, false, false, false, false, false] _ _ (by kernel_rfl) (all_t c0 (all_t rfl (all_f c2 (all_f c3 (all_nnf c4 (all_nnf c4 (all_nnf c4 (all_nnf c4 (all_nnf c4 (all_t c9 (all_t rfl (all_t c11 (all_nt c12 (all_nt c12 (all_nt c12 (all_t c15 (all_nt c12 (all_nt c12 (all_nt c18 (all_nt c18 (all_nf c20 (all_nt c18 (all_nt c18 (all_nt c23 (all_nt c18 (all_nt c18 (all_f c26 (all_t c27 (all_t c27 (all_t c27 (all_t rfl (all_t rfl (all_t rfl (all_t rfl (all_f c34 (all_f c34 (all_t rfl (all_f c34 (all_t rfl (all_f c39 (all_f c39 (all_f Bool.false_ne_true (all_f Bool.false_ne_true (all_f Bool.false_ne_true (all_f Bool.false_ne_true (all_f Bool.false_ne_true (all_f Bool.false_ne_true (all_f Bool.false_ne_true (all_f c39 (all_f Bool.false_ne_true (all_f c39 (all_f Bool.false_ne_true all_nil))))))))))))))))))))))))))))))))))))))))))))))))))))) ih
set_option maxHeartbeats 20000000 in
theorem l6_0_w110 (m n : Nat) (x3 : List Int) (s13 : Int) (s15 : Int) (b0 : Int × Int × Int) (b1 : (Int × Int × Int) × Bool × Int × Bool × (List (List UInt8)) × Int) (b2 : (Int × Int × Int) × Bool × Int × Bool × (List (List UInt8)) × Int) (r : AEx × Env × Boxes) (c0 : decide (s15 < 60) = true) (c2 : ¬ decide (s15 < (l6_0_k7 x3)) = true) (c3 : ¬ (s15 == s13) = true) (c4 : ¬ b1.2.1 = true) (c9 : tickPre b1 s15 (alertsG (3)) = true) (c11 : tickPre b2 s15 (alertsG (3)) = true) (c12 : ((l6_0_k3 s15 b1).2.1 == (l6_0_k6 s15 b2).2.1) = true) (c15 : decide (l6_0_k10 s15 b1) = true) (c18 : ((show List (List UInt8) from (l6_0_k3 s15 b1).1) == (l6_0_k6 s15 b2).1) = true) (c20 : ¬ (l6_0_k6 s15 b2).2.2.2.1 = true) (c23 : (l6_0_k3 s15 b1).2.2.2.1 = true) (c26 : ¬ ((-1) != (l6_0_k3 s15 b1).2.2.2.2.1) = true) (c27 : ¬ (l6_0_k3 s15 b1).2.1 = true) (ih : (turns (hds 6 63496) 0 63496 (evC byref (evCall F S7 (m + 24)) (m + 24) 0 (hds 6) lbl6_0) n (l6_0H x3 1 s13 (l6_0_k4 s15) b0 ((l6_0_k3 s15 b1).2.2) ((l6_0_k6 s15 b2).2.2)) (l6_0B x3 1 s13 (l6_0_k4 s15) b0 ((l6_0_k3 s15 b1).2.2) ((l6_0_k6 s15 b2).2.2))).run = some r) : (turns (hds 6 63496) 0 63496 (evC byref (evCall F S7 (m + 24)) (m + 24) 0 (hds 6) lbl6_0) (n + 1) (l6_0_k70 x3 s13 s15 b0 b1 b2) (l6_0B x3 1 s13 s15 b0 b1 b2)).run = some r := by
  exact turns_step (M.run_of_path _ [true, true, false, false, false, false, false, false, false, true, true, true, false, false, false, true, false, false, false, false, true, false, false, false, false, false, false, false, false, false, false, false, false, false, false, false, false, false, false, false, false, false, false, false, false, false, false, false, false] _ _ (by kernel_rfl) (all_t c0 (all_t rfl (all_f c2 (all_f c3 (all_nnf c4 (all_nnf c4 (all_nnf c4 (all_nnf c4 (all_nnf c4 (all_t c9 (all_t rfl (all_t c11 (all_nt c12 (all_nt c12 (all_nt c12 (all_t c15 (all_nt c12 (all_nt c12 (all_nt c18 (all_nt c18 (all_nf c20 (all_nt c18 (all_nt c18 (all_nt c23 (all_nt c18 (all_nt c18 (all_f c26 (all_f c27 (all_f c27 (all_f c27 (all_f Bool.false_ne_true (all_f Bool.false_ne_true (all_f Bool.false_ne_true (all_f Bool.false_ne_true (all_f Bool.false_ne_true (all_f Bool.false_ne_true (all_f Bool.false_ne_true (all_f Bool.false_ne_true (all_f Bool.false_ne_true (all_f Bool.false_ne_true (all_f Bool.false_ne_true (all_f Bool.false_ne_true (all_f Bool.false_ne_true (all_f Bool.false_ne_true (all_f Bool.false_ne_true (all_f Bool.false_ne_true (all_f Bool.false_ne_true (all_f Bool.false_ne_true (all_f Bool.false_ne_true all_nil)))))))))))))))))))))))))))))))))))))))))))))))))) ih

set_option maxHeartbeats 20000000 in
theorem l6_0_w111 (m n : Nat) (x3 : List Int) (s13 : Int) (s15 : Int) (b0 : Int × Int × Int) (b1 : (Int × Int × Int) × Bool × Int × Bool × (List (List UInt8)) × Int) (b2 : (Int × Int × Int) × Bool × Int × Bool × (List (List UInt8)) × Int) (r : AEx × Env × Boxes) (c0 : decide (s15 < 60) = true) (c2 : ¬ decide (s15 < (l6_0_k7 x3)) = true) (c3 : ¬ (s15 == s13) = true) (c4 : ¬ b1.2.1 = true) (c9 : tickPre b1 s15 (alertsG (3)) = true) (c11 : tickPre b2 s15 (alertsG (3)) = true) (c12 : ((l6_0_k3 s15 b1).2.1 == (l6_0_k6 s15 b2).2.1) = true) (c15 : decide (l6_0_k10 s15 b1) = true) (c18 : ((show List (List UInt8) from (l6_0_k3 s15 b1).1) == (l6_0_k6 s15 b2).1) = true) (c20 : ¬ (l6_0_k6 s15 b2).2.2.2.1 = true) (c23 : ¬ (l6_0_k3 s15 b1).2.2.2.1 = true) (c27 : (l6_0_k3 s15 b1).2.1 = true) (c34 : ¬ decide (b0.1 > 0) = true) (c39 : ¬ decide (s15 > 0) = true) (ih : (turns (hds 6 63496) 0 63496 (evC byref (evCall F S7 (m + 24)) (m + 24) 0 (hds 6) lbl6_0) n (l6_0H x3 1 s13 (l6_0_k4 s15) b0 ((l6_0_k3 s15 b1).2.2) ((l6_0_k6 s15 b2).2.2)) (l6_0B x3 1 s13 (l6_0_k4 s15) b0 ((l6_0_k3 s15 b1).2.2) ((l6_0_k6 s15 b2).2.2))).run = some r) : (turns (hds 6 63496) 0 63496 (evC byref (evCall F S7 (m + 24)) (m + 24) 0 (hds 6) lbl6_0) (n + 1) (l6_0_k70 x3 s13 s15 b0 b1 b2) (l6_0B x3 1 s13 s15 b0 b1 b2)).run = some r := by
  exact turns_step (M.run_of_path _ [true, true, false, false, false, false, false, false, false, true, true, true, false, false, false, true, false, false, false, false, true, false, false, true, false, false, false, true, true, true, true, true, true, true, false, false, true, false, true, false, false, false, false, false, false, false, false, false, false, false, false, false] _ _ (by kernel_rfl) (all_t c0 (all_t rfl (all_f c2 (all_f c3 (all_nnf c4 (all_nnf c4 (all_nnf c4 (all_nnf c4 (all_nnf c4 (all_t c9 (all_t rfl (all_t c11 (all_nt c12 (all_nt c12 (all_nt c12 (all_t c15 (all_nt c12 (all_nt c12 (all_nt c18 (all_nt c18 (all_nf c20 (all_nt c18 (all_nt c18 (all_nf c23 (all_nt c18 (all_nt c18 (all_f Bool.false_ne_true (all_t c27 (all_t c27 (all_t c27 (all_t rfl (all_t rfl (all_t rfl (all_t rfl (all_f c34 (all_f c34 (all_t rfl (all_f c34 (all_t rfl (all_f c39 (all_f c39 (all_f Bool.false_ne_true (all_f Bool.false_ne_true (all_f Bool.false_ne_true (all_f Bool.false_ne_true (all_f Bool.false_ne_true (all_f Bool.false_ne_true (all_f Bool.false_ne_true (all_f c39 (all_f Bool.false_ne_true (all_f c39 (all_f Bool.false_ne_true all_nil))))))))))))))))))))))))))))))))))))))))))))))))))))) ih
set_option maxHeartbeats 20000000 in
theorem l6_0_w112 (m n : Nat) (x3 : List Int) (s13 : Int) (s15 : Int) (b0 : Int × Int × Int) (b1 : (Int × Int × Int) × Bool × Int × Bool × (List (List UInt8)) × Int) (b2 : (Int × Int × Int) × Bool × Int × Bool × (List (List UInt8)) × Int) (r : AEx × Env × Boxes) (c0 : decide (s15 < 60) = true) (c2 : ¬ decide (s15 < (l6_0_k7 x3)) = true) (c3 : ¬ (s15 == s13) = true) (c4 : ¬ b1.2.1 = true) (c9 : tickPre b1 s15 (alertsG (3)) = true) (c11 : tickPre b2 s15 (alertsG (3)) = true) (c12 : ((l6_0_k3 s15 b1).2.1 == (l6_0_k6 s15 b2).2.1) = true) (c15 : decide (l6_0_k10 s15 b1) = true) (c18 : ((show List (List UInt8) from (l6_0_k3 s15 b1).1) == (l6_0_k6 s15 b2).1) = true) (c20 : ¬ (l6_0_k6 s15 b2).2.2.2.1 = true) (c23 : ¬ (l6_0_k3 s15 b1).2.2.2.1 = true) (c27 : ¬ (l6_0_k3 s15 b1).2.1 = true) (ih : (turns (hds 6 63496) 0 63496 (evC byref (evCall F S7 (m + 24)) (m + 24) 0 (hds 6) lbl6_0) n (l6_0H x3 1 s13 (l6_0_k4 s15) b0 ((l6_0_k3 s15 b1).2.2) ((l6_0_k6 s15 b2).2.2)) (l6_0B x3 1 s13 (l6_0_k4 s15) b0 ((l6_0_k3 s15 b1).2.2) ((l6_0_k6 s15 b2).2.2))).run = some r) : (turns (hds 6 63496) 0 63496 (evC byref (evCall F S7 (m + 24)) (m + 24) 0 (hds 6) lbl6_0) (n + 1) (l6_0_k70 x3 s13 s15 b0 b1 b2) (l6_0B x3 1 s13 s15 b0 b1 b2)).run = some r := by
  exact turns_step (M.run_of_path _ [true, true, false, false, false, false, false, false, false, true, true, true, false, false, false, true, false, false, false, false, true, false, false, true, false, false, false, false, false, false, false, false, false, false, false, false, false, false, false, false, false, false, false, false, false, false, false, false, false] _ _ (by kernel_rfl) (all_t c0 (all_t rfl (all_f c2 (all_f c3 (all_nnf c4 (all_nnf c4 (all_nnf c4 (all_nnf c4 (all_nnf c4 (all_t c9 (all_t rfl (all_t c11 (all_nt c12 (all_nt c12 (all_nt c12 (all_t c15 (all_nt c12 (all_nt c12 (all_nt c18 (all_nt c18 (all_nf c20 (all_nt c18 (all_nt c18 (all_nf c23 (all_nt c18 (all_nt c18 (all_f Bool.false_ne_true (all_f c27 (all_f c27 (all_f c27 (all_f Bool.false_ne_true (all_f Bool.false_ne_true (all_f Bool.false_ne_true (all_f Bool.false_ne_true (all_f Bool.false_ne_true (all_f Bool.false_ne_true (all_f Bool.false_ne_true (all_f Bool.false_ne_true (all_f Bool.false_ne_true (all_f Bool.false_ne_true (all_f Bool.false_ne_true (all_f Bool.false_ne_true (all_f Bool.false_ne_true (all_f Bool.false_ne_true (all_f Bool.false_ne_true (all_f Bool.false_ne_true (all_f Bool.false_ne_true (all_f Bool.false_ne_true (all_f Bool.false_ne_true all_nil)))))))))))))))))))))))))))))))))))))))))))))))))) ih
set_option maxHeartbeats 20000000 in
theorem l6_0_w113 (m n : Nat) (x3 : List Int) (s13 : Int) (s15 : Int) (b0 : Int × Int × Int) (b1 : (Int × Int × Int) × Bool × Int × Bool × (List (List UInt8)) × Int) (b2 : (Int × Int × Int) × Bool × Int × Bool × (List (List UInt8)) × Int) (c0 : ¬ decide (s15 < 60) = true) : (turns (hds 6 63496) 0 63496 (evC byref (evCall F S7 (m + 24)) (m + 24) 0 (hds 6) lbl6_0) (n + 1) (l6_0_k70 x3 s13 s15 b0 b1 b2) (l6_0B x3 1 s13 s15 b0 b1 b2)).run = some (.exit 0, [.top, .top, .top, (.d (.sl (.int .i64) x3)), .top, .top, .top, .top, .top, .top, .top, (.ptr 0 0), (.ptr 1 0), (.d (.int .i64 s13)), (.ptr 2 0), (.d (.int .i64 s15)), .top, .top, .top, .top, .top, .top, .top, .top, .top, .top, .top, .top, .top, .top, .top, .top, (.d (.int .i64 s15)), (.d (.bool (decide (s15 < 60)))), .top, .top, .top, .top, .top, .top, .top, .top, .top, .top, .top, .top, .top, .top, .top, .top, .top, .top, .top, .top, .top, .top, .top, .top, .top, .top, .top, .top, .top, .top, .top, .top, .top, .top, .top, .top, .top, .top, .top, .top, .top, .top, .top, .top, .top, .top, .top, .top, .top, .top, .top, .top, .top, .top, .top, .top, .top, .top, .top, .top, .top, .top, .top, .top, .top, .top, .top, .top, .top, .top, .top, .top, .top, .top, .top, .top, .top, .top, .top, .top, .top, .top, .top, .top, .top, .top, .top, .top, .top, .top, .top, .top, .top, .top, .top, .top, .top], [(.cells [(.d (.int .i64 b0.1)), (.d (.int .i64 b0.2.1)), (.d (.int .i64 b0.2.2))]), (.cells [(.d (.int .i64 b1.1.1)), (.d (.int .i64 b1.1.2.1)), (.d (.int .i64 b1.1.2.2)), (.d (.bool (b1.2.1))), (.d (.int .i64 b1.2.2.1)), (.d (.bool (b1.2.2.2.1))), (.d (.sl .str b1.2.2.2.2.1)), (.d (.int .i64 b1.2.2.2.2.2))]), (.cells [(.d (.int .i64 b2.1.1)), (.d (.int .i64 b2.1.2.1)), (.d (.int .i64 b2.1.2.2)), (.d (.bool (b2.2.1))), (.d (.int .i64 b2.2.2.1)), (.d (.bool (b2.2.2.2.1))), (.d (.sl .str b2.2.2.2.2.1)), (.d (.int .i64 b2.2.2.2.2.2))])]) := by
  exact turns_last (by simp) (M.run_of_path _ [false] _ _ (by kernel_rfl) (all_f c0 all_nil)) 

set_option maxHeartbeats 20000000 in
theorem l6_0_step (m n : Nat) (ih : ∀ (x3 : List Int) (md : Nat) (s13 : Int) (s15 : Int) (b0 : Int × Int × Int) (b1 : (Int × Int × Int) × Bool × Int × Bool × (List (List UInt8)) × Int) (b2 : (Int × Int × Int) × Bool × Int × Bool × (List (List UInt8)) × Int) (q : Nat × Nat × Int × ((Int × Int × Int) × Bool × Int × Bool × (List (List UInt8)) × Int) × ((Int × Int × Int) × Bool × Int × Bool × (List (List UInt8)) × Int)), l6_0 m n x3 md s13 s15 b0 b1 b2 = some q → (turns (hds 6 63496) 0 63496 (evC byref (evCall F S7 (m + 24)) (m + 24) 0 (hds 6) lbl6_0) n (l6_0H x3 md s13 s15 b0 b1 b2) (l6_0B x3 md s13 s15 b0 b1 b2)).run = some (l6_0E (x3) (q.2.1) (s13) (q.2.2.1) (b0) (q.2.2.2.1) (q.2.2.2.2) q.1)) (x3 : List Int) (md : Nat) (s13 : Int) (s15 : Int) (b0 : Int × Int × Int) (b1 : (Int × Int × Int) × Bool × Int × Bool × (List (List UInt8)) × Int) (b2 : (Int × Int × Int) × Bool × Int × Bool × (List (List UInt8)) × Int) (q : Nat × Nat × Int × ((Int × Int × Int) × Bool × Int × Bool × (List (List UInt8)) × Int) × ((Int × Int × Int) × Bool × Int × Bool × (List (List UInt8)) × Int)) (h : l6_0 m (n + 1) x3 md s13 s15 b0 b1 b2 = some q) : (turns (hds 6 63496) 0 63496 (evC byref (evCall F S7 (m + 24)) (m + 24) 0 (hds 6) lbl6_0) (n + 1) (l6_0H x3 md s13 s15 b0 b1 b2) (l6_0B x3 md s13 s15 b0 b1 b2)).run = some (l6_0E (x3) (q.2.1) (s13) (q.2.2.1) (b0) (q.2.2.2.1) (q.2.2.2.2) q.1) := by
  match md, h with
  | 0, h =>
    rw [l6_0] at h
    refine ite_cases h (fun c0 h => ?_) (fun c0 h => ?_)
    · skip
      refine ite_cases h (fun c2 h => ?_) (fun c2 h => ?_)
      · skip
        refine ite_cases h (fun c3 h => ?_) (fun c3 h => ?_)
        · skip
          refine ite_cases h (fun c7 h => ?_) (fun c7 h => ?_)
          · skip
            refine ite_cases h (fun c8 h => ?_) (fun c8 h => ?_)
            · skip
              refine ite_cases h (fun c10 h => ?_) (fun c10 h => ?_)
              · skip
                refine ite_cases h (fun c16 h => ?_) (fun c16 h => ?_)
                · skip
                  refine ite_cases h (fun c19 h => ?_) (fun c19 h => ?_)
                  · skip
                    refine ite_cases h (fun c22 h => ?_) (fun c22 h => ?_)
                    · skip
                      refine ite_cases h (fun c25 h => ?_) (fun c25 h => ?_)
                      · skip
                        refine ite_cases h (fun c27 h => ?_) (fun c27 h => ?_)
                        · skip
                          refine ite_cases h (fun c33 h => ?_) (fun c33 h => ?_)
                          · skip
                            cases h
                          · skip
                            refine ite_cases h (fun c34 h => ?_) (fun c34 h => ?_)
                            · skip
                              refine ite_cases h (fun c37 h => ?_) (fun c37 h => ?_)
                              · skip
                                refine ite_cases h (fun c56 h => ?_) (fun c56 h => ?_)
                                · skip
                                  cases h
                                · skip
                                  exact l6_0_w0 m n x3 s13 s15 b0 b1 b2 _ c0 c2 c3 c7 c8 c10 c16 c19 c22 c25 c27 c33 c34 c37 c56 (ih _ _ _ _ _ _ _ q h)
                              · skip
                                refine ite_cases h (fun c41 h => ?_) (fun c41 h => ?_)
                                · skip
                                  cases h
                                · skip
                                  refine ite_cases h (fun c46 h => ?_) (fun c46 h => ?_)
                                  · skip
                                    cases h
                                  · skip
                                    exact l6_0_w1 m n x3 s13 s15 b0 b1 b2 _ c0 c2 c3 c7 c8 c10 c16 c19 c22 c25 c27 c33 c34 c37 c41 c46 (ih _ _ _ _ _ _ _ q h)
                            · skip
                              refine ite_cases h (fun c45 h => ?_) (fun c45 h => ?_)
                              · skip
                                refine ite_cases h (fun c56 h => ?_) (fun c56 h => ?_)
                                · skip
                                  cases h
                                · skip
                                  exact l6_0_w2 m n x3 s13 s15 b0 b1 b2 _ c0 c2 c3 c7 c8 c10 c16 c19 c22 c25 c27 c33 c34 c45 c56 (ih _ _ _ _ _ _ _ q h)
                              · skip
                                exact l6_0_w3 m n x3 s13 s15 b0 b1 b2 _ c0 c2 c3 c7 c8 c10 c16 c19 c22 c25 c27 c33 c34 c45 (ih _ _ _ _ _ _ _ q h)
                        · skip
                          refine ite_cases h (fun c34 h => ?_) (fun c34 h => ?_)
                          · skip
                            refine ite_cases h (fun c37 h => ?_) (fun c37 h => ?_)
                            · skip
                              refine ite_cases h (fun c56 h => ?_) (fun c56 h => ?_)
                              · skip
                                cases h
                              · skip
                                exact l6_0_w4 m n x3 s13 s15 b0 b1 b2 _ c0 c2 c3 c7 c8 c10 c16 c19 c22 c25 c27 c34 c37 c56 (ih _ _ _ _ _ _ _ q h)
                            · skip
                              refine ite_cases h (fun c41 h => ?_) (fun c41 h => ?_)
                              · skip
                                cases h
                              · skip
                                refine ite_cases h (fun c46 h => ?_) (fun c46 h => ?_)
                                · skip
                                  cases h
                                · skip
                                  exact l6_0_w5 m n x3 s13 s15 b0 b1 b2 _ c0 c2 c3 c7 c8 c10 c16 c19 c22 c25 c27 c34 c37 c41 c46 (ih _ _ _ _ _ _ _ q h)
                          · skip
                            refine ite_cases h (fun c45 h => ?_) (fun c45 h => ?_)
                            · skip
                              refine ite_cases h (fun c56 h => ?_) (fun c56 h => ?_)
                              · skip
                                cases h
                              · skip
                                exact l6_0_w6 m n x3 s13 s15 b0 b1 b2 _ c0 c2 c3 c7 c8 c10 c16 c19 c22 c25 c27 c34 c45 c56 (ih _ _ _ _ _ _ _ q h)
                            · skip
                              exact l6_0_w7 m n x3 s13 s15 b0 b1 b2 _ c0 c2 c3 c7 c8 c10 c16 c19 c22 c25 c27 c34 c45 (ih _ _ _ _ _ _ _ q h)
                      · skip
                        cases h
                    · skip
                      cases h
                  · skip
                    cases h
                · skip
                  cases h
              · skip
                refine ite_cases h (fun c15 h => ?_) (fun c15 h => ?_)
                · skip
                  refine ite_cases h (fun c18 h => ?_) (fun c18 h => ?_)
                  · skip
                    refine ite_cases h (fun c21 h => ?_) (fun c21 h => ?_)
                    · skip
                      refine ite_cases h (fun c24 h => ?_) (fun c24 h => ?_)
                      · skip
                        refine ite_cases h (fun c26 h => ?_) (fun c26 h => ?_)
                        · skip
                          refine ite_cases h (fun c32 h => ?_) (fun c32 h => ?_)
                          · skip
                            cases h
                          · skip
                            refine ite_cases h (fun c33 h => ?_) (fun c33 h => ?_)
                            · skip
                              refine ite_cases h (fun c40 h => ?_) (fun c40 h => ?_)
                              · skip
                                cases h
                              · skip
                                refine ite_cases h (fun c45 h => ?_) (fun c45 h => ?_)
                                · skip
                                  cases h
                                · skip
                                  exact l6_0_w8 m n x3 s13 s15 b0 b1 b2 _ c0 c2 c3 c7 c8 c10 c15 c18 c21 c24 c26 c32 c33 c40 c45 (ih _ _ _ _ _ _ _ q h)
                            · skip
                              exact l6_0_w9 m n x3 s13 s15 b0 b1 b2 _ c0 c2 c3 c7 c8 c10 c15 c18 c21 c24 c26 c32 c33 (ih _ _ _ _ _ _ _ q h)
                        · skip
                          refine ite_cases h (fun c33 h => ?_) (fun c33 h => ?_)
                          · skip
                            refine ite_cases h (fun c40 h => ?_) (fun c40 h => ?_)
                            · skip
                              cases h
                            · skip
                              refine ite_cases h (fun c45 h => ?_) (fun c45 h => ?_)
                              · skip
                                cases h
                              · skip
                                exact l6_0_w10 m n x3 s13 s15 b0 b1 b2 _ c0 c2 c3 c7 c8 c10 c15 c18 c21 c24 c26 c33 c40 c45 (ih _ _ _ _ _ _ _ q h)
                          · skip
                            exact l6_0_w11 m n x3 s13 s15 b0 b1 b2 _ c0 c2 c3 c7 c8 c10 c15 c18 c21 c24 c26 c33 (ih _ _ _ _ _ _ _ q h)
                      · skip
                        cases h
                    · skip
                      cases h
                  · skip
                    cases h
                · skip
                  cases h
            · skip
              cases h
          · skip
            refine ite_cases h (fun c8 h => ?_) (fun c8 h => ?_)
            · skip
              refine ite_cases h (fun c14 h => ?_) (fun c14 h => ?_)
              · skip
                refine ite_cases h (fun c16 h => ?_) (fun c16 h => ?_)
                · skip
                  refine ite_cases h (fun c19 h => ?_) (fun c19 h => ?_)
                  · skip
                    refine ite_cases h (fun c29 h => ?_) (fun c29 h => ?_)
                    · skip
                      refine ite_cases h (fun c38 h => ?_) (fun c38 h => ?_)
                      · skip
                        cases h
                      · skip
                        exact l6_0_w12 m n x3 s13 s15 b0 b1 b2 _ c0 c2 c3 c7 c8 c14 c16 c19 c29 c38 (ih _ _ _ _ _ _ _ q h)
                    · skip
                      refine ite_cases h (fun c38 h => ?_) (fun c38 h => ?_)
                      · skip
                        cases h
                      · skip
                        exact l6_0_w13 m n x3 s13 s15 b0 b1 b2 _ c0 c2 c3 c7 c8 c14 c16 c19 c29 c38 (ih _ _ _ _ _ _ _ q h)
                  · skip
                    refine ite_cases h (fun c23 h => ?_) (fun c23 h => ?_)
                    · skip
                      cases h
                    · skip
                      refine ite_cases h (fun c28 h => ?_) (fun c28 h => ?_)
                      · skip
                        cases h
                      · skip
                        exact l6_0_w14 m n x3 s13 s15 b0 b1 b2 _ c0 c2 c3 c7 c8 c14 c16 c19 c23 c28 (ih _ _ _ _ _ _ _ q h)
                · skip
                  refine ite_cases h (fun c27 h => ?_) (fun c27 h => ?_)
                  · skip
                    refine ite_cases h (fun c29 h => ?_) (fun c29 h => ?_)
                    · skip
                      refine ite_cases h (fun c38 h => ?_) (fun c38 h => ?_)
                      · skip
                        cases h
                      · skip
                        exact l6_0_w15 m n x3 s13 s15 b0 b1 b2 _ c0 c2 c3 c7 c8 c14 c16 c27 c29 c38 (ih _ _ _ _ _ _ _ q h)
                    · skip
                      refine ite_cases h (fun c38 h => ?_) (fun c38 h => ?_)
                      · skip
                        cases h
                      · skip
                        exact l6_0_w16 m n x3 s13 s15 b0 b1 b2 _ c0 c2 c3 c7 c8 c14 c16 c27 c29 c38 (ih _ _ _ _ _ _ _ q h)
                  · skip
                    exact l6_0_w17 m n x3 s13 s15 b0 b1 b2 _ c0 c2 c3 c7 c8 c14 c16 c27 (ih _ _ _ _ _ _ _ q h)
              · skip
                cases h
            · skip
              refine ite_cases h (fun c13 h => ?_) (fun c13 h => ?_)
              · skip
                refine ite_cases h (fun c15 h => ?_) (fun c15 h => ?_)
                · skip
                  refine ite_cases h (fun c22 h => ?_) (fun c22 h => ?_)
                  · skip
                    cases h
                  · skip
                    refine ite_cases h (fun c27 h => ?_) (fun c27 h => ?_)
                    · skip
                      cases h
                    · skip
                      exact l6_0_w18 m n x3 s13 s15 b0 b1 b2 _ c0 c2 c3 c7 c8 c13 c15 c22 c27 (ih _ _ _ _ _ _ _ q h)
                · skip
                  exact l6_0_w19 m n x3 s13 s15 b0 b1 b2 _ c0 c2 c3 c7 c8 c13 c15 (ih _ _ _ _ _ _ _ q h)
              · skip
                cases h
        · skip
          cases h
      · skip
        refine ite_cases h (fun c3 h => ?_) (fun c3 h => ?_)
        · skip
          refine ite_cases h (fun c4 h => ?_) (fun c4 h => ?_)
          · skip
            refine ite_cases h (fun c6 h => ?_) (fun c6 h => ?_)
            · skip
              refine ite_cases h (fun c12 h => ?_) (fun c12 h => ?_)
              · skip
                refine ite_cases h (fun c15 h => ?_) (fun c15 h => ?_)
                · skip
                  refine ite_cases h (fun c18 h => ?_) (fun c18 h => ?_)
                  · skip
                    refine ite_cases h (fun c21 h => ?_) (fun c21 h => ?_)
                    · skip
                      refine ite_cases h (fun c23 h => ?_) (fun c23 h => ?_)
                      · skip
                        refine ite_cases h (fun c29 h => ?_) (fun c29 h => ?_)
                        · skip
                          cases h
                        · skip
                          refine ite_cases h (fun c30 h => ?_) (fun c30 h => ?_)
                          · skip
                            refine ite_cases h (fun c33 h => ?_) (fun c33 h => ?_)
                            · skip
                              refine ite_cases h (fun c52 h => ?_) (fun c52 h => ?_)
                              · skip
                                cases h
                              · skip
                                exact l6_0_w20 m n x3 s13 s15 b0 b1 b2 _ c0 c2 c3 c4 c6 c12 c15 c18 c21 c23 c29 c30 c33 c52 (ih _ _ _ _ _ _ _ q h)
                            · skip
                              refine ite_cases h (fun c37 h => ?_) (fun c37 h => ?_)
                              · skip
                                cases h
                              · skip
                                refine ite_cases h (fun c42 h => ?_) (fun c42 h => ?_)
                                · skip
                                  cases h
                                · skip
                                  exact l6_0_w21 m n x3 s13 s15 b0 b1 b2 _ c0 c2 c3 c4 c6 c12 c15 c18 c21 c23 c29 c30 c33 c37 c42 (ih _ _ _ _ _ _ _ q h)
                          · skip
                            refine ite_cases h (fun c41 h => ?_) (fun c41 h => ?_)
                            · skip
                              refine ite_cases h (fun c52 h => ?_) (fun c52 h => ?_)
                              · skip
                                cases h
                              · skip
                                exact l6_0_w22 m n x3 s13 s15 b0 b1 b2 _ c0 c2 c3 c4 c6 c12 c15 c18 c21 c23 c29 c30 c41 c52 (ih _ _ _ _ _ _ _ q h)
                            · skip
                              exact l6_0_w23 m n x3 s13 s15 b0 b1 b2 _ c0 c2 c3 c4 c6 c12 c15 c18 c21 c23 c29 c30 c41 (ih _ _ _ _ _ _ _ q h)
                      · skip
                        refine ite_cases h (fun c30 h => ?_) (fun c30 h => ?_)
                        · skip
                          refine ite_cases h (fun c33 h => ?_) (fun c33 h => ?_)
                          · skip
                            refine ite_cases h (fun c52 h => ?_) (fun c52 h => ?_)
                            · skip
                              cases h
                            · skip
                              exact l6_0_w24 m n x3 s13 s15 b0 b1 b2 _ c0 c2 c3 c4 c6 c12 c15 c18 c21 c23 c30 c33 c52 (ih _ _ _ _ _ _ _ q h)
                          · skip
                            refine ite_cases h (fun c37 h => ?_) (fun c37 h => ?_)
                            · skip
                              cases h
                            · skip
                              refine ite_cases h (fun c42 h => ?_) (fun c42 h => ?_)
                              · skip
                                cases h
                              · skip
                                exact l6_0_w25 m n x3 s13 s15 b0 b1 b2 _ c0 c2 c3 c4 c6 c12 c15 c18 c21 c23 c30 c33 c37 c42 (ih _ _ _ _ _ _ _ q h)
                        · skip
                          refine ite_cases h (fun c41 h => ?_) (fun c41 h => ?_)
                          · skip
                            refine ite_cases h (fun c52 h => ?_) (fun c52 h => ?_)
                            · skip
                              cases h
                            · skip
                              exact l6_0_w26 m n x3 s13 s15 b0 b1 b2 _ c0 c2 c3 c4 c6 c12 c15 c18 c21 c23 c30 c41 c52 (ih _ _ _ _ _ _ _ q h)
                          · skip
                            exact l6_0_w27 m n x3 s13 s15 b0 b1 b2 _ c0 c2 c3 c4 c6 c12 c15 c18 c21 c23 c30 c41 (ih _ _ _ _ _ _ _ q h)
                    · skip
                      cases h
                  · skip
                    cases h
                · skip
                  cases h
              · skip
                cases h
            · skip
              refine ite_cases h (fun c11 h => ?_) (fun c11 h => ?_)
              · skip
                refine ite_cases h (fun c14 h => ?_) (fun c14 h => ?_)
                · skip
                  refine ite_cases h (fun c17 h => ?_) (fun c17 h => ?_)
                  · skip
                    refine ite_cases h (fun c20 h => ?_) (fun c20 h => ?_)
                    · skip
                      refine ite_cases h (fun c22 h => ?_) (fun c22 h => ?_)
                      · skip
                        refine ite_cases h (fun c28 h => ?_) (fun c28 h => ?_)
                        · skip
                          cases h
                        · skip
                          refine ite_cases h (fun c29 h => ?_) (fun c29 h => ?_)
                          · skip
                            refine ite_cases h (fun c36 h => ?_) (fun c36 h => ?_)
                            · skip
                              cases h
                            · skip
                              refine ite_cases h (fun c41 h => ?_) (fun c41 h => ?_)
                              · skip
                                cases h
                              · skip
                                exact l6_0_w28 m n x3 s13 s15 b0 b1 b2 _ c0 c2 c3 c4 c6 c11 c14 c17 c20 c22 c28 c29 c36 c41 (ih _ _ _ _ _ _ _ q h)
                          · skip
                            exact l6_0_w29 m n x3 s13 s15 b0 b1 b2 _ c0 c2 c3 c4 c6 c11 c14 c17 c20 c22 c28 c29 (ih _ _ _ _ _ _ _ q h)
                      · skip
                        refine ite_cases h (fun c29 h => ?_) (fun c29 h => ?_)
                        · skip
                          refine ite_cases h (fun c36 h => ?_) (fun c36 h => ?_)
                          · skip
                            cases h
                          · skip
                            refine ite_cases h (fun c41 h => ?_) (fun c41 h => ?_)
                            · skip
                              cases h
                            · skip
                              exact l6_0_w30 m n x3 s13 s15 b0 b1 b2 _ c0 c2 c3 c4 c6 c11 c14 c17 c20 c22 c29 c36 c41 (ih _ _ _ _ _ _ _ q h)
                        · skip
                          exact l6_0_w31 m n x3 s13 s15 b0 b1 b2 _ c0 c2 c3 c4 c6 c11 c14 c17 c20 c22 c29 (ih _ _ _ _ _ _ _ q h)
                    · skip
                      cases h
                  · skip
                    cases h
                · skip
                  cases h
              · skip
                cases h
          · skip
            cases h
        · skip
          refine ite_cases h (fun c4 h => ?_) (fun c4 h => ?_)
          · skip
            refine ite_cases h (fun c10 h => ?_) (fun c10 h => ?_)
            · skip
              refine ite_cases h (fun c12 h => ?_) (fun c12 h => ?_)
              · skip
                refine ite_cases h (fun c15 h => ?_) (fun c15 h => ?_)
                · skip
                  refine ite_cases h (fun c25 h => ?_) (fun c25 h => ?_)
                  · skip
                    refine ite_cases h (fun c34 h => ?_) (fun c34 h => ?_)
                    · skip
                      cases h
                    · skip
                      exact l6_0_w32 m n x3 s13 s15 b0 b1 b2 _ c0 c2 c3 c4 c10 c12 c15 c25 c34 (ih _ _ _ _ _ _ _ q h)
                  · skip
                    refine ite_cases h (fun c34 h => ?_) (fun c34 h => ?_)
                    · skip
                      cases h
                    · skip
                      exact l6_0_w33 m n x3 s13 s15 b0 b1 b2 _ c0 c2 c3 c4 c10 c12 c15 c25 c34 (ih _ _ _ _ _ _ _ q h)
                · skip
                  refine ite_cases h (fun c19 h => ?_) (fun c19 h => ?_)
                  · skip
                    cases h
                  · skip
                    refine ite_cases h (fun c24 h => ?_) (fun c24 h => ?_)
                    · skip
                      cases h
                    · skip
                      exact l6_0_w34 m n x3 s13 s15 b0 b1 b2 _ c0 c2 c3 c4 c10 c12 c15 c19 c24 (ih _ _ _ _ _ _ _ q h)
              · skip
                refine ite_cases h (fun c23 h => ?_) (fun c23 h => ?_)
                · skip
                  refine ite_cases h (fun c25 h => ?_) (fun c25 h => ?_)
                  · skip
                    refine ite_cases h (fun c34 h => ?_) (fun c34 h => ?_)
                    · skip
                      cases h
                    · skip
                      exact l6_0_w35 m n x3 s13 s15 b0 b1 b2 _ c0 c2 c3 c4 c10 c12 c23 c25 c34 (ih _ _ _ _ _ _ _ q h)
                  · skip
                    refine ite_cases h (fun c34 h => ?_) (fun c34 h => ?_)
                    · skip
                      cases h
                    · skip
                      exact l6_0_w36 m n x3 s13 s15 b0 b1 b2 _ c0 c2 c3 c4 c10 c12 c23 c25 c34 (ih _ _ _ _ _ _ _ q h)
                · skip
                  exact l6_0_w37 m n x3 s13 s15 b0 b1 b2 _ c0 c2 c3 c4 c10 c12 c23 (ih _ _ _ _ _ _ _ q h)
            · skip
              cases h
          · skip
            refine ite_cases h (fun c9 h => ?_) (fun c9 h => ?_)
            · skip
              refine ite_cases h (fun c11 h => ?_) (fun c11 h => ?_)
              · skip
                refine ite_cases h (fun c18 h => ?_) (fun c18 h => ?_)
                · skip
                  cases h
                · skip
                  refine ite_cases h (fun c23 h => ?_) (fun c23 h => ?_)
                  · skip
                    cases h
                  · skip
                    exact l6_0_w38 m n x3 s13 s15 b0 b1 b2 _ c0 c2 c3 c4 c9 c11 c18 c23 (ih _ _ _ _ _ _ _ q h)
              · skip
                exact l6_0_w39 m n x3 s13 s15 b0 b1 b2 _ c0 c2 c3 c4 c9 c11 (ih _ _ _ _ _ _ _ q h)
            · skip
              cases h
    · skip
      cases h
      exact l6_0_w40 m n x3 s13 s15 b0 b1 b2 c0
  | 1, h =>
    rw [l6_0] at h
    refine ite_cases h (fun c0 h => ?_) (fun c0 h => ?_)
    · skip
      refine ite_cases h (fun c2 h => ?_) (fun c2 h => ?_)
      · skip
        refine ite_cases h (fun c3 h => ?_) (fun c3 h => ?_)
        · skip
          refine ite_cases h (fun c7 h => ?_) (fun c7 h => ?_)
          · skip
            refine ite_cases h (fun c8 h => ?_) (fun c8 h => ?_)
            · skip
              refine ite_cases h (fun c10 h => ?_) (fun c10 h => ?_)
              · skip
                refine ite_cases h (fun c16 h => ?_) (fun c16 h => ?_)
                · skip
                  refine ite_cases h (fun c19 h => ?_) (fun c19 h => ?_)
                  · skip
                    refine ite_cases h (fun c22 h => ?_) (fun c22 h => ?_)
                    · skip
                      refine ite_cases h (fun c25 h => ?_) (fun c25 h => ?_)
                      · skip
                        refine ite_cases h (fun c27 h => ?_) (fun c27 h => ?_)
                        · skip
                          refine ite_cases h (fun c33 h => ?_) (fun c33 h => ?_)
                          · skip
                            cases h
                          · skip
                            refine ite_cases h (fun c34 h => ?_) (fun c34 h => ?_)
                            · skip
                              refine ite_cases h (fun c37 h => ?_) (fun c37 h => ?_)
                              · skip
                                refine ite_cases h (fun c56 h => ?_) (fun c56 h => ?_)
                                · skip
                                  cases h
                                · skip
                                  exact l6_0_w41 m n x3 s13 s15 b0 b1 b2 _ c0 c2 c3 c7 c8 c10 c16 c19 c22 c25 c27 c33 c34 c37 c56 (ih _ _ _ _ _ _ _ q h)
                              · skip
                                refine ite_cases h (fun c41 h => ?_) (fun c41 h => ?_)
                                · skip
                                  cases h
                                · skip
                                  refine ite_cases h (fun c46 h => ?_) (fun c46 h => ?_)
                                  · skip
                                    cases h
                                  · skip
                                    exact l6_0_w42 m n x3 s13 s15 b0 b1 b2 _ c0 c2 c3 c7 c8 c10 c16 c19 c22 c25 c27 c33 c34 c37 c41 c46 (ih _ _ _ _ _ _ _ q h)
                            · skip
                              refine ite_cases h (fun c45 h => ?_) (fun c45 h => ?_)
                              · skip
                                refine ite_cases h (fun c56 h => ?_) (fun c56 h => ?_)
                                · skip
                                  cases h
                                · skip
                                  exact l6_0_w43 m n x3 s13 s15 b0 b1 b2 _ c0 c2 c3 c7 c8 c10 c16 c19 c22 c25 c27 c33 c34 c45 c56 (ih _ _ _ _ _ _ _ q h)
                              · skip
                                exact l6_0_w44 m n x3 s13 s15 b0 b1 b2 _ c0 c2 c3 c7 c8 c10 c16 c19 c22 c25 c27 c33 c34 c45 (ih _ _ _ _ _ _ _ q h)
                        · skip
                          refine ite_cases h (fun c34 h => ?_) (fun c34 h => ?_)
                          · skip
                            refine ite_cases h (fun c37 h => ?_) (fun c37 h => ?_)
                            · skip
                              refine ite_cases h (fun c56 h => ?_) (fun c56 h => ?_)
                              · skip
                                cases h
                              · skip
                                exact l6_0_w45 m n x3 s13 s15 b0 b1 b2 _ c0 c2 c3 c7 c8 c10 c16 c19 c22 c25 c27 c34 c37 c56 (ih _ _ _ _ _ _ _ q h)
                            · skip
                              refine ite_cases h (fun c41 h => ?_) (fun c41 h => ?_)
                              · skip
                                cases h
                              · skip
                                refine ite_cases h (fun c46 h => ?_) (fun c46 h => ?_)
                                · skip
                                  cases h
                                · skip
                                  exact l6_0_w46 m n x3 s13 s15 b0 b1 b2 _ c0 c2 c3 c7 c8 c10 c16 c19 c22 c25 c27 c34 c37 c41 c46 (ih _ _ _ _ _ _ _ q h)
                          · skip
                            refine ite_cases h (fun c45 h => ?_) (fun c45 h => ?_)
                            · skip
                              refine ite_cases h (fun c56 h => ?_) (fun c56 h => ?_)
                              · skip
                                cases h
                              · skip
                                exact l6_0_w47 m n x3 s13 s15 b0 b1 b2 _ c0 c2 c3 c7 c8 c10 c16 c19 c22 c25 c27 c34 c45 c56 (ih _ _ _ _ _ _ _ q h)
                            · skip
                              exact l6_0_w48 m n x3 s13 s15 b0 b1 b2 _ c0 c2 c3 c7 c8 c10 c16 c19 c22 c25 c27 c34 c45 (ih _ _ _ _ _ _ _ q h)
                      · skip
                        cases h
                    · skip
                      cases h
                  · skip
                    cases h
                · skip
                  cases h
              · skip
                refine ite_cases h (fun c15 h => ?_) (fun c15 h => ?_)
                · skip
                  refine ite_cases h (fun c18 h => ?_) (fun c18 h => ?_)
                  · skip
                    refine ite_cases h (fun c21 h => ?_) (fun c21 h => ?_)
                    · skip
                      refine ite_cases h (fun c24 h => ?_) (fun c24 h => ?_)
                      · skip
                        refine ite_cases h (fun c26 h => ?_) (fun c26 h => ?_)
                        · skip
                          refine ite_cases h (fun c32 h => ?_) (fun c32 h => ?_)
                          · skip
                            cases h
                          · skip
                            refine ite_cases h (fun c33 h => ?_) (fun c33 h => ?_)
                            · skip
                              refine ite_cases h (fun c40 h => ?_) (fun c40 h => ?_)
                              · skip
                                cases h
                              · skip
                                refine ite_cases h (fun c45 h => ?_) (fun c45 h => ?_)
                                · skip
                                  cases h
                                · skip
                                  exact l6_0_w49 m n x3 s13 s15 b0 b1 b2 _ c0 c2 c3 c7 c8 c10 c15 c18 c21 c24 c26 c32 c33 c40 c45 (ih _ _ _ _ _ _ _ q h)
                            · skip
                              exact l6_0_w50 m n x3 s13 s15 b0 b1 b2 _ c0 c2 c3 c7 c8 c10 c15 c18 c21 c24 c26 c32 c33 (ih _ _ _ _ _ _ _ q h)
                        · skip
                          refine ite_cases h (fun c33 h => ?_) (fun c33 h => ?_)
                          · skip
                            refine ite_cases h (fun c40 h => ?_) (fun c40 h => ?_)
                            · skip
                              cases h
                            · skip
                              refine ite_cases h (fun c45 h => ?_) (fun c45 h => ?_)
                              · skip
                                cases h
                              · skip
                                exact l6_0_w51 m n x3 s13 s15 b0 b1 b2 _ c0 c2 c3 c7 c8 c10 c15 c18 c21 c24 c26 c33 c40 c45 (ih _ _ _ _ _ _ _ q h)
                          · skip
                            exact l6_0_w52 m n x3 s13 s15 b0 b1 b2 _ c0 c2 c3 c7 c8 c10 c15 c18 c21 c24 c26 c33 (ih _ _ _ _ _ _ _ q h)
                      · skip
                        cases h
                    · skip
                      cases h
                  · skip
                    cases h
                · skip
                  cases h
            · skip
              cases h
          · skip
            refine ite_cases h (fun c8 h => ?_) (fun c8 h => ?_)
            · skip
              refine ite_cases h (fun c14 h => ?_) (fun c14 h => ?_)
              · skip
                refine ite_cases h (fun c16 h => ?_) (fun c16 h => ?_)
                · skip
                  refine ite_cases h (fun c17 h => ?_) (fun c17 h => ?_)
                  · skip
                    refine ite_cases h (fun c20 h => ?_) (fun c20 h => ?_)
                    · skip
                      refine ite_cases h (fun c23 h => ?_) (fun c23 h => ?_)
                      · skip
                        refine ite_cases h (fun c25 h => ?_) (fun c25 h => ?_)
                        · skip
                          refine ite_cases h (fun c28 h => ?_) (fun c28 h => ?_)
                          · skip
                            refine ite_cases h (fun c31 h => ?_) (fun c31 h => ?_)
                            · skip
                              cases h
                            · skip
                              refine ite_cases h (fun c32 h => ?_) (fun c32 h => ?_)
                              · skip
                                refine ite_cases h (fun c35 h => ?_) (fun c35 h => ?_)
                                · skip
                                  refine ite_cases h (fun c54 h => ?_) (fun c54 h => ?_)
                                  · skip
                                    cases h
                                  · skip
                                    exact l6_0_w53 m n x3 s13 s15 b0 b1 b2 _ c0 c2 c3 c7 c8 c14 c16 c17 c20 c23 c25 c28 c31 c32 c35 c54 (ih _ _ _ _ _ _ _ q h)
                                · skip
                                  refine ite_cases h (fun c39 h => ?_) (fun c39 h => ?_)
                                  · skip
                                    cases h
                                  · skip
                                    refine ite_cases h (fun c44 h => ?_) (fun c44 h => ?_)
                                    · skip
                                      cases h
                                    · skip
                                      exact l6_0_w54 m n x3 s13 s15 b0 b1 b2 _ c0 c2 c3 c7 c8 c14 c16 c17 c20 c23 c25 c28 c31 c32 c35 c39 c44 (ih _ _ _ _ _ _ _ q h)
                              · skip
                                refine ite_cases h (fun c43 h => ?_) (fun c43 h => ?_)
                                · skip
                                  refine ite_cases h (fun c54 h => ?_) (fun c54 h => ?_)
                                  · skip
                                    cases h
                                  · skip
                                    exact l6_0_w55 m n x3 s13 s15 b0 b1 b2 _ c0 c2 c3 c7 c8 c14 c16 c17 c20 c23 c25 c28 c31 c32 c43 c54 (ih _ _ _ _ _ _ _ q h)
                                · skip
                                  exact l6_0_w56 m n x3 s13 s15 b0 b1 b2 _ c0 c2 c3 c7 c8 c14 c16 c17 c20 c23 c25 c28 c31 c32 c43 (ih _ _ _ _ _ _ _ q h)
                          · skip
                            refine ite_cases h (fun c31 h => ?_) (fun c31 h => ?_)
                            · skip
                              cases h
                            · skip
                              refine ite_cases h (fun c32 h => ?_) (fun c32 h => ?_)
                              · skip
                                refine ite_cases h (fun c35 h => ?_) (fun c35 h => ?_)
                                · skip
                                  refine ite_cases h (fun c54 h => ?_) (fun c54 h => ?_)
                                  · skip
                                    cases h
                                  · skip
                                    exact l6_0_w57 m n x3 s13 s15 b0 b1 b2 _ c0 c2 c3 c7 c8 c14 c16 c17 c20 c23 c25 c28 c31 c32 c35 c54 (ih _ _ _ _ _ _ _ q h)
                                · skip
                                  refine ite_cases h (fun c39 h => ?_) (fun c39 h => ?_)
                                  · skip
                                    cases h
                                  · skip
                                    refine ite_cases h (fun c44 h => ?_) (fun c44 h => ?_)
                                    · skip
                                      cases h
                                    · skip
                                      exact l6_0_w58 m n x3 s13 s15 b0 b1 b2 _ c0 c2 c3 c7 c8 c14 c16 c17 c20 c23 c25 c28 c31 c32 c35 c39 c44 (ih _ _ _ _ _ _ _ q h)
                              · skip
                                refine ite_cases h (fun c43 h => ?_) (fun c43 h => ?_)
                                · skip
                                  refine ite_cases h (fun c54 h => ?_) (fun c54 h => ?_)
                                  · skip
                                    cases h
                                  · skip
                                    exact l6_0_w59 m n x3 s13 s15 b0 b1 b2 _ c0 c2 c3 c7 c8 c14 c16 c17 c20 c23 c25 c28 c31 c32 c43 c54 (ih _ _ _ _ _ _ _ q h)
                                · skip
                                  exact l6_0_w60 m n x3 s13 s15 b0 b1 b2 _ c0 c2 c3 c7 c8 c14 c16 c17 c20 c23 c25 c28 c31 c32 c43 (ih _ _ _ _ _ _ _ q h)
                        · skip
                          refine ite_cases h (fun c28 h => ?_) (fun c28 h => ?_)
                          · skip
                            refine ite_cases h (fun c31 h => ?_) (fun c31 h => ?_)
                            · skip
                              cases h
                            · skip
                              refine ite_cases h (fun c32 h => ?_) (fun c32 h => ?_)
                              · skip
                                refine ite_cases h (fun c35 h => ?_) (fun c35 h => ?_)
                                · skip
                                  refine ite_cases h (fun c54 h => ?_) (fun c54 h => ?_)
                                  · skip
                                    cases h
                                  · skip
                                    exact l6_0_w61 m n x3 s13 s15 b0 b1 b2 _ c0 c2 c3 c7 c8 c14 c16 c17 c20 c23 c25 c28 c31 c32 c35 c54 (ih _ _ _ _ _ _ _ q h)
                                · skip
                                  refine ite_cases h (fun c39 h => ?_) (fun c39 h => ?_)
                                  · skip
                                    cases h
                                  · skip
                                    refine ite_cases h (fun c44 h => ?_) (fun c44 h => ?_)
                                    · skip
                                      cases h
                                    · skip
                                      exact l6_0_w62 m n x3 s13 s15 b0 b1 b2 _ c0 c2 c3 c7 c8 c14 c16 c17 c20 c23 c25 c28 c31 c32 c35 c39 c44 (ih _ _ _ _ _ _ _ q h)
                              · skip
                                refine ite_cases h (fun c43 h => ?_) (fun c43 h => ?_)
                                · skip
                                  refine ite_cases h (fun c54 h => ?_) (fun c54 h => ?_)
                                  · skip
                                    cases h
                                  · skip
                                    exact l6_0_w63 m n x3 s13 s15 b0 b1 b2 _ c0 c2 c3 c7 c8 c14 c16 c17 c20 c23 c25 c28 c31 c32 c43 c54 (ih _ _ _ _ _ _ _ q h)
                                · skip
                                  exact l6_0_w64 m n x3 s13 s15 b0 b1 b2 _ c0 c2 c3 c7 c8 c14 c16 c17 c20 c23 c25 c28 c31 c32 c43 (ih _ _ _ _ _ _ _ q h)
                          · skip
                            refine ite_cases h (fun c32 h => ?_) (fun c32 h => ?_)
                            · skip
                              refine ite_cases h (fun c35 h => ?_) (fun c35 h => ?_)
                              · skip
                                refine ite_cases h (fun c54 h => ?_) (fun c54 h => ?_)
                                · skip
                                  cases h
                                · skip
                                  exact l6_0_w65 m n x3 s13 s15 b0 b1 b2 _ c0 c2 c3 c7 c8 c14 c16 c17 c20 c23 c25 c28 c32 c35 c54 (ih _ _ _ _ _ _ _ q h)
                              · skip
                                refine ite_cases h (fun c39 h => ?_) (fun c39 h => ?_)
                                · skip
                                  cases h
                                · skip
                                  refine ite_cases h (fun c44 h => ?_) (fun c44 h => ?_)
                                  · skip
                                    cases h
                                  · skip
                                    exact l6_0_w66 m n x3 s13 s15 b0 b1 b2 _ c0 c2 c3 c7 c8 c14 c16 c17 c20 c23 c25 c28 c32 c35 c39 c44 (ih _ _ _ _ _ _ _ q h)
                            · skip
                              refine ite_cases h (fun c43 h => ?_) (fun c43 h => ?_)
                              · skip
                                refine ite_cases h (fun c54 h => ?_) (fun c54 h => ?_)
                                · skip
                                  cases h
                                · skip
                                  exact l6_0_w67 m n x3 s13 s15 b0 b1 b2 _ c0 c2 c3 c7 c8 c14 c16 c17 c20 c23 c25 c28 c32 c43 c54 (ih _ _ _ _ _ _ _ q h)
                              · skip
                                exact l6_0_w68 m n x3 s13 s15 b0 b1 b2 _ c0 c2 c3 c7 c8 c14 c16 c17 c20 c23 c25 c28 c32 c43 (ih _ _ _ _ _ _ _ q h)
                      · skip
                        cases h
                    · skip
                      cases h
                  · skip
                    cases h
                · skip
                  cases h
              · skip
                cases h
            · skip
              refine ite_cases h (fun c13 h => ?_) (fun c13 h => ?_)
              · skip
                refine ite_cases h (fun c15 h => ?_) (fun c15 h => ?_)
                · skip
                  refine ite_cases h (fun c16 h => ?_) (fun c16 h => ?_)
                  · skip
                    refine ite_cases h (fun c19 h => ?_) (fun c19 h => ?_)
                    · skip
                      refine ite_cases h (fun c22 h => ?_) (fun c22 h => ?_)
                      · skip
                        refine ite_cases h (fun c24 h => ?_) (fun c24 h => ?_)
                        · skip
                          refine ite_cases h (fun c27 h => ?_) (fun c27 h => ?_)
                          · skip
                            refine ite_cases h (fun c30 h => ?_) (fun c30 h => ?_)
                            · skip
                              cases h
                            · skip
                              refine ite_cases h (fun c31 h => ?_) (fun c31 h => ?_)
                              · skip
                                refine ite_cases h (fun c38 h => ?_) (fun c38 h => ?_)
                                · skip
                                  cases h
                                · skip
                                  refine ite_cases h (fun c43 h => ?_) (fun c43 h => ?_)
                                  · skip
                                    cases h
                                  · skip
                                    exact l6_0_w69 m n x3 s13 s15 b0 b1 b2 _ c0 c2 c3 c7 c8 c13 c15 c16 c19 c22 c24 c27 c30 c31 c38 c43 (ih _ _ _ _ _ _ _ q h)
                              · skip
                                exact l6_0_w70 m n x3 s13 s15 b0 b1 b2 _ c0 c2 c3 c7 c8 c13 c15 c16 c19 c22 c24 c27 c30 c31 (ih _ _ _ _ _ _ _ q h)
                          · skip
                            refine ite_cases h (fun c30 h => ?_) (fun c30 h => ?_)
                            · skip
                              cases h
                            · skip
                              refine ite_cases h (fun c31 h => ?_) (fun c31 h => ?_)
                              · skip
                                refine ite_cases h (fun c38 h => ?_) (fun c38 h => ?_)
                                · skip
                                  cases h
                                · skip
                                  refine ite_cases h (fun c43 h => ?_) (fun c43 h => ?_)
                                  · skip
                                    cases h
                                  · skip
                                    exact l6_0_w71 m n x3 s13 s15 b0 b1 b2 _ c0 c2 c3 c7 c8 c13 c15 c16 c19 c22 c24 c27 c30 c31 c38 c43 (ih _ _ _ _ _ _ _ q h)
                              · skip
                                exact l6_0_w72 m n x3 s13 s15 b0 b1 b2 _ c0 c2 c3 c7 c8 c13 c15 c16 c19 c22 c24 c27 c30 c31 (ih _ _ _ _ _ _ _ q h)
                        · skip
                          refine ite_cases h (fun c27 h => ?_) (fun c27 h => ?_)
                          · skip
                            refine ite_cases h (fun c30 h => ?_) (fun c30 h => ?_)
                            · skip
                              cases h
                            · skip
                              refine ite_cases h (fun c31 h => ?_) (fun c31 h => ?_)
                              · skip
                                refine ite_cases h (fun c38 h => ?_) (fun c38 h => ?_)
                                · skip
                                  cases h
                                · skip
                                  refine ite_cases h (fun c43 h => ?_) (fun c43 h => ?_)
                                  · skip
                                    cases h
                                  · skip
                                    exact l6_0_w73 m n x3 s13 s15 b0 b1 b2 _ c0 c2 c3 c7 c8 c13 c15 c16 c19 c22 c24 c27 c30 c31 c38 c43 (ih _ _ _ _ _ _ _ q h)
                              · skip
                                exact l6_0_w74 m n x3 s13 s15 b0 b1 b2 _ c0 c2 c3 c7 c8 c13 c15 c16 c19 c22 c24 c27 c30 c31 (ih _ _ _ _ _ _ _ q h)
                          · skip
                            refine ite_cases h (fun c31 h => ?_) (fun c31 h => ?_)
                            · skip
                              refine ite_cases h (fun c38 h => ?_) (fun c38 h => ?_)
                              · skip
                                cases h
                              · skip
                                refine ite_cases h (fun c43 h => ?_) (fun c43 h => ?_)
                                · skip
                                  cases h
                                · skip
                                  exact l6_0_w75 m n x3 s13 s15 b0 b1 b2 _ c0 c2 c3 c7 c8 c13 c15 c16 c19 c22 c24 c27 c31 c38 c43 (ih _ _ _ _ _ _ _ q h)
                            · skip
                              exact l6_0_w76 m n x3 s13 s15 b0 b1 b2 _ c0 c2 c3 c7 c8 c13 c15 c16 c19 c22 c24 c27 c31 (ih _ _ _ _ _ _ _ q h)
                      · skip
                        cases h
                    · skip
                      cases h
                  · skip
                    cases h
                · skip
                  cases h
              · skip
                cases h
        · skip
          cases h
      · skip
        refine ite_cases h (fun c3 h => ?_) (fun c3 h => ?_)
        · skip
          refine ite_cases h (fun c4 h => ?_) (fun c4 h => ?_)
          · skip
            refine ite_cases h (fun c6 h => ?_) (fun c6 h => ?_)
            · skip
              refine ite_cases h (fun c12 h => ?_) (fun c12 h => ?_)
              · skip
                refine ite_cases h (fun c15 h => ?_) (fun c15 h => ?_)
                · skip
                  refine ite_cases h (fun c18 h => ?_) (fun c18 h => ?_)
                  · skip
                    refine ite_cases h (fun c21 h => ?_) (fun c21 h => ?_)
                    · skip
                      refine ite_cases h (fun c23 h => ?_) (fun c23 h => ?_)
                      · skip
                        refine ite_cases h (fun c29 h => ?_) (fun c29 h => ?_)
                        · skip
                          cases h
                        · skip
                          refine ite_cases h (fun c30 h => ?_) (fun c30 h => ?_)
                          · skip
                            refine ite_cases h (fun c33 h => ?_) (fun c33 h => ?_)
                            · skip
                              refine ite_cases h (fun c52 h => ?_) (fun c52 h => ?_)
                              · skip
                                cases h
                              · skip
                                exact l6_0_w77 m n x3 s13 s15 b0 b1 b2 _ c0 c2 c3 c4 c6 c12 c15 c18 c21 c23 c29 c30 c33 c52 (ih _ _ _ _ _ _ _ q h)
                            · skip
                              refine ite_cases h (fun c37 h => ?_) (fun c37 h => ?_)
                              · skip
                                cases h
                              · skip
                                refine ite_cases h (fun c42 h => ?_) (fun c42 h => ?_)
                                · skip
                                  cases h
                                · skip
                                  exact l6_0_w78 m n x3 s13 s15 b0 b1 b2 _ c0 c2 c3 c4 c6 c12 c15 c18 c21 c23 c29 c30 c33 c37 c42 (ih _ _ _ _ _ _ _ q h)
                          · skip
                            refine ite_cases h (fun c41 h => ?_) (fun c41 h => ?_)
                            · skip
                              refine ite_cases h (fun c52 h => ?_) (fun c52 h => ?_)
                              · skip
                                cases h
                              · skip
                                exact l6_0_w79 m n x3 s13 s15 b0 b1 b2 _ c0 c2 c3 c4 c6 c12 c15 c18 c21 c23 c29 c30 c41 c52 (ih _ _ _ _ _ _ _ q h)
                            · skip
                              exact l6_0_w80 m n x3 s13 s15 b0 b1 b2 _ c0 c2 c3 c4 c6 c12 c15 c18 c21 c23 c29 c30 c41 (ih _ _ _ _ _ _ _ q h)
                      · skip
                        refine ite_cases h (fun c30 h => ?_) (fun c30 h => ?_)
                        · skip
                          refine ite_cases h (fun c33 h => ?_) (fun c33 h => ?_)
                          · skip
                            refine ite_cases h (fun c52 h => ?_) (fun c52 h => ?_)
                            · skip
                              cases h
                            · skip
                              exact l6_0_w81 m n x3 s13 s15 b0 b1 b2 _ c0 c2 c3 c4 c6 c12 c15 c18 c21 c23 c30 c33 c52 (ih _ _ _ _ _ _ _ q h)
                          · skip
                            refine ite_cases h (fun c37 h => ?_) (fun c37 h => ?_)
                            · skip
                              cases h
                            · skip
                              refine ite_cases h (fun c42 h => ?_) (fun c42 h => ?_)
                              · skip
                                cases h
                              · skip
                                exact l6_0_w82 m n x3 s13 s15 b0 b1 b2 _ c0 c2 c3 c4 c6 c12 c15 c18 c21 c23 c30 c33 c37 c42 (ih _ _ _ _ _ _ _ q h)
                        · skip
                          refine ite_cases h (fun c41 h => ?_) (fun c41 h => ?_)
                          · skip
                            refine ite_cases h (fun c52 h => ?_) (fun c52 h => ?_)
                            · skip
                              cases h
                            · skip
                              exact l6_0_w83 m n x3 s13 s15 b0 b1 b2 _ c0 c2 c3 c4 c6 c12 c15 c18 c21 c23 c30 c41 c52 (ih _ _ _ _ _ _ _ q h)
                          · skip
                            exact l6_0_w84 m n x3 s13 s15 b0 b1 b2 _ c0 c2 c3 c4 c6 c12 c15 c18 c21 c23 c30 c41 (ih _ _ _ _ _ _ _ q h)
                    · skip
                      cases h
                  · skip
                    cases h
                · skip
                  cases h
              · skip
                cases h
            · skip
              refine ite_cases h (fun c11 h => ?_) (fun c11 h => ?_)
              · skip
                refine ite_cases h (fun c14 h => ?_) (fun c14 h => ?_)
                · skip
                  refine ite_cases h (fun c17 h => ?_) (fun c17 h => ?_)
                  · skip
                    refine ite_cases h (fun c20 h => ?_) (fun c20 h => ?_)
                    · skip
                      refine ite_cases h (fun c22 h => ?_) (fun c22 h => ?_)
                      · skip
                        refine ite_cases h (fun c28 h => ?_) (fun c28 h => ?_)
                        · skip
                          cases h
                        · skip
                          refine ite_cases h (fun c29 h => ?_) (fun c29 h => ?_)
                          · skip
                            refine ite_cases h (fun c36 h => ?_) (fun c36 h => ?_)
                            · skip
                              cases h
                            · skip
                              refine ite_cases h (fun c41 h => ?_) (fun c41 h => ?_)
                              · skip
                                cases h
                              · skip
                                exact l6_0_w85 m n x3 s13 s15 b0 b1 b2 _ c0 c2 c3 c4 c6 c11 c14 c17 c20 c22 c28 c29 c36 c41 (ih _ _ _ _ _ _ _ q h)
                          · skip
                            exact l6_0_w86 m n x3 s13 s15 b0 b1 b2 _ c0 c2 c3 c4 c6 c11 c14 c17 c20 c22 c28 c29 (ih _ _ _ _ _ _ _ q h)
                      · skip
                        refine ite_cases h (fun c29 h => ?_) (fun c29 h => ?_)
                        · skip
                          refine ite_cases h (fun c36 h => ?_) (fun c36 h => ?_)
                          · skip
                            cases h
                          · skip
                            refine ite_cases h (fun c41 h => ?_) (fun c41 h => ?_)
                            · skip
                              cases h
                            · skip
                              exact l6_0_w87 m n x3 s13 s15 b0 b1 b2 _ c0 c2 c3 c4 c6 c11 c14 c17 c20 c22 c29 c36 c41 (ih _ _ _ _ _ _ _ q h)
                        · skip
                          exact l6_0_w88 m n x3 s13 s15 b0 b1 b2 _ c0 c2 c3 c4 c6 c11 c14 c17 c20 c22 c29 (ih _ _ _ _ _ _ _ q h)
                    · skip
                      cases h
                  · skip
                    cases h
                · skip
                  cases h
              · skip
                cases h
          · skip
            cases h
        · skip
          refine ite_cases h (fun c4 h => ?_) (fun c4 h => ?_)
          · skip
            refine ite_cases h (fun c10 h => ?_) (fun c10 h => ?_)
            · skip
              refine ite_cases h (fun c12 h => ?_) (fun c12 h => ?_)
              · skip
                refine ite_cases h (fun c13 h => ?_) (fun c13 h => ?_)
                · skip
                  refine ite_cases h (fun c16 h => ?_) (fun c16 h => ?_)
                  · skip
                    refine ite_cases h (fun c19 h => ?_) (fun c19 h => ?_)
                    · skip
                      refine ite_cases h (fun c21 h => ?_) (fun c21 h => ?_)
                      · skip
                        refine ite_cases h (fun c24 h => ?_) (fun c24 h => ?_)
                        · skip
                          refine ite_cases h (fun c27 h => ?_) (fun c27 h => ?_)
                          · skip
                            cases h
                          · skip
                            refine ite_cases h (fun c28 h => ?_) (fun c28 h => ?_)
                            · skip
                              refine ite_cases h (fun c31 h => ?_) (fun c31 h => ?_)
                              · skip
                                refine ite_cases h (fun c50 h => ?_) (fun c50 h => ?_)
                                · skip
                                  cases h
                                · skip
                                  exact l6_0_w89 m n x3 s13 s15 b0 b1 b2 _ c0 c2 c3 c4 c10 c12 c13 c16 c19 c21 c24 c27 c28 c31 c50 (ih _ _ _ _ _ _ _ q h)
                              · skip
                                refine ite_cases h (fun c35 h => ?_) (fun c35 h => ?_)
                                · skip
                                  cases h
                                · skip
                                  refine ite_cases h (fun c40 h => ?_) (fun c40 h => ?_)
                                  · skip
                                    cases h
                                  · skip
                                    exact l6_0_w90 m n x3 s13 s15 b0 b1 b2 _ c0 c2 c3 c4 c10 c12 c13 c16 c19 c21 c24 c27 c28 c31 c35 c40 (ih _ _ _ _ _ _ _ q h)
                            · skip
                              refine ite_cases h (fun c39 h => ?_) (fun c39 h => ?_)
                              · skip
                                refine ite_cases h (fun c50 h => ?_) (fun c50 h => ?_)
                                · skip
                                  cases h
                                · skip
                                  exact l6_0_w91 m n x3 s13 s15 b0 b1 b2 _ c0 c2 c3 c4 c10 c12 c13 c16 c19 c21 c24 c27 c28 c39 c50 (ih _ _ _ _ _ _ _ q h)
                              · skip
                                exact l6_0_w92 m n x3 s13 s15 b0 b1 b2 _ c0 c2 c3 c4 c10 c12 c13 c16 c19 c21 c24 c27 c28 c39 (ih _ _ _ _ _ _ _ q h)
                        · skip
                          refine ite_cases h (fun c27 h => ?_) (fun c27 h => ?_)
                          · skip
                            cases h
                          · skip
                            refine ite_cases h (fun c28 h => ?_) (fun c28 h => ?_)
                            · skip
                              refine ite_cases h (fun c31 h => ?_) (fun c31 h => ?_)
                              · skip
                                refine ite_cases h (fun c50 h => ?_) (fun c50 h => ?_)
                                · skip
                                  cases h
                                · skip
                                  exact l6_0_w93 m n x3 s13 s15 b0 b1 b2 _ c0 c2 c3 c4 c10 c12 c13 c16 c19 c21 c24 c27 c28 c31 c50 (ih _ _ _ _ _ _ _ q h)
                              · skip
                                refine ite_cases h (fun c35 h => ?_) (fun c35 h => ?_)
                                · skip
                                  cases h
                                · skip
                                  refine ite_cases h (fun c40 h => ?_) (fun c40 h => ?_)
                                  · skip
                                    cases h
                                  · skip
                                    exact l6_0_w94 m n x3 s13 s15 b0 b1 b2 _ c0 c2 c3 c4 c10 c12 c13 c16 c19 c21 c24 c27 c28 c31 c35 c40 (ih _ _ _ _ _ _ _ q h)
                            · skip
                              refine ite_cases h (fun c39 h => ?_) (fun c39 h => ?_)
                              · skip
                                refine ite_cases h (fun c50 h => ?_) (fun c50 h => ?_)
                                · skip
                                  cases h
                                · skip
                                  exact l6_0_w95 m n x3 s13 s15 b0 b1 b2 _ c0 c2 c3 c4 c10 c12 c13 c16 c19 c21 c24 c27 c28 c39 c50 (ih _ _ _ _ _ _ _ q h)
                              · skip
                                exact l6_0_w96 m n x3 s13 s15 b0 b1 b2 _ c0 c2 c3 c4 c10 c12 c13 c16 c19 c21 c24 c27 c28 c39 (ih _ _ _ _ _ _ _ q h)
                      · skip
                        refine ite_cases h (fun c24 h => ?_) (fun c24 h => ?_)
                        · skip
                          refine ite_cases h (fun c27 h => ?_) (fun c27 h => ?_)
                          · skip
                            cases h
                          · skip
                            refine ite_cases h (fun c28 h => ?_) (fun c28 h => ?_)
                            · skip
                              refine ite_cases h (fun c31 h => ?_) (fun c31 h => ?_)
                              · skip
                                refine ite_cases h (fun c50 h => ?_) (fun c50 h => ?_)
                                · skip
                                  cases h
                                · skip
                                  exact l6_0_w97 m n x3 s13 s15 b0 b1 b2 _ c0 c2 c3 c4 c10 c12 c13 c16 c19 c21 c24 c27 c28 c31 c50 (ih _ _ _ _ _ _ _ q h)
                              · skip
                                refine ite_cases h (fun c35 h => ?_) (fun c35 h => ?_)
                                · skip
                                  cases h
                                · skip
                                  refine ite_cases h (fun c40 h => ?_) (fun c40 h => ?_)
                                  · skip
                                    cases h
                                  · skip
                                    exact l6_0_w98 m n x3 s13 s15 b0 b1 b2 _ c0 c2 c3 c4 c10 c12 c13 c16 c19 c21 c24 c27 c28 c31 c35 c40 (ih _ _ _ _ _ _ _ q h)
                            · skip
                              refine ite_cases h (fun c39 h => ?_) (fun c39 h => ?_)
                              · skip
                                refine ite_cases h (fun c50 h => ?_) (fun c50 h => ?_)
                                · skip
                                  cases h
                                · skip
                                  exact l6_0_w99 m n x3 s13 s15 b0 b1 b2 _ c0 c2 c3 c4 c10 c12 c13 c16 c19 c21 c24 c27 c28 c39 c50 (ih _ _ _ _ _ _ _ q h)
                              · skip
                                exact l6_0_w100 m n x3 s13 s15 b0 b1 b2 _ c0 c2 c3 c4 c10 c12 c13 c16 c19 c21 c24 c27 c28 c39 (ih _ _ _ _ _ _ _ q h)
                        · skip
                          refine ite_cases h (fun c28 h => ?_) (fun c28 h => ?_)
                          · skip
                            refine ite_cases h (fun c31 h => ?_) (fun c31 h => ?_)
                            · skip
                              refine ite_cases h (fun c50 h => ?_) (fun c50 h => ?_)
                              · skip
                                cases h
                              · skip
                                exact l6_0_w101 m n x3 s13 s15 b0 b1 b2 _ c0 c2 c3 c4 c10 c12 c13 c16 c19 c21 c24 c28 c31 c50 (ih _ _ _ _ _ _ _ q h)
                            · skip
                              refine ite_cases h (fun c35 h => ?_) (fun c35 h => ?_)
                              · skip
                                cases h
                              · skip
                                refine ite_cases h (fun c40 h => ?_) (fun c40 h => ?_)
                                · skip
                                  cases h
                                · skip
                                  exact l6_0_w102 m n x3 s13 s15 b0 b1 b2 _ c0 c2 c3 c4 c10 c12 c13 c16 c19 c21 c24 c28 c31 c35 c40 (ih _ _ _ _ _ _ _ q h)
                          · skip
                            refine ite_cases h (fun c39 h => ?_) (fun c39 h => ?_)
                            · skip
                              refine ite_cases h (fun c50 h => ?_) (fun c50 h => ?_)
                              · skip
                                cases h
                              · skip
                                exact l6_0_w103 m n x3 s13 s15 b0 b1 b2 _ c0 c2 c3 c4 c10 c12 c13 c16 c19 c21 c24 c28 c39 c50 (ih _ _ _ _ _ _ _ q h)
                            · skip
                              exact l6_0_w104 m n x3 s13 s15 b0 b1 b2 _ c0 c2 c3 c4 c10 c12 c13 c16 c19 c21 c24 c28 c39 (ih _ _ _ _ _ _ _ q h)
                    · skip
                      cases h
                  · skip
                    cases h
                · skip
                  cases h
              · skip
                cases h
            · skip
              cases h
          · skip
            refine ite_cases h (fun c9 h => ?_) (fun c9 h => ?_)
            · skip
              refine ite_cases h (fun c11 h => ?_) (fun c11 h => ?_)
              · skip
                refine ite_cases h (fun c12 h => ?_) (fun c12 h => ?_)
                · skip
                  refine ite_cases h (fun c15 h => ?_) (fun c15 h => ?_)
                  · skip
                    refine ite_cases h (fun c18 h => ?_) (fun c18 h => ?_)
                    · skip
                      refine ite_cases h (fun c20 h => ?_) (fun c20 h => ?_)
                      · skip
                        refine ite_cases h (fun c23 h => ?_) (fun c23 h => ?_)
                        · skip
                          refine ite_cases h (fun c26 h => ?_) (fun c26 h => ?_)
                          · skip
                            cases h
                          · skip
                            refine ite_cases h (fun c27 h => ?_) (fun c27 h => ?_)
                            · skip
                              refine ite_cases h (fun c34 h => ?_) (fun c34 h => ?_)
                              · skip
                                cases h
                              · skip
                                refine ite_cases h (fun c39 h => ?_) (fun c39 h => ?_)
                                · skip
                                  cases h
                                · skip
                                  exact l6_0_w105 m n x3 s13 s15 b0 b1 b2 _ c0 c2 c3 c4 c9 c11 c12 c15 c18 c20 c23 c26 c27 c34 c39 (ih _ _ _ _ _ _ _ q h)
                            · skip
                              exact l6_0_w106 m n x3 s13 s15 b0 b1 b2 _ c0 c2 c3 c4 c9 c11 c12 c15 c18 c20 c23 c26 c27 (ih _ _ _ _ _ _ _ q h)
                        · skip
                          refine ite_cases h (fun c26 h => ?_) (fun c26 h => ?_)
                          · skip
                            cases h
                          · skip
                            refine ite_cases h (fun c27 h => ?_) (fun c27 h => ?_)
                            · skip
                              refine ite_cases h (fun c34 h => ?_) (fun c34 h => ?_)
                              · skip
                                cases h
                              · skip
                                refine ite_cases h (fun c39 h => ?_) (fun c39 h => ?_)
                                · skip
                                  cases h
                                · skip
                                  exact l6_0_w107 m n x3 s13 s15 b0 b1 b2 _ c0 c2 c3 c4 c9 c11 c12 c15 c18 c20 c23 c26 c27 c34 c39 (ih _ _ _ _ _ _ _ q h)
                            · skip
                              exact l6_0_w108 m n x3 s13 s15 b0 b1 b2 _ c0 c2 c3 c4 c9 c11 c12 c15 c18 c20 c23 c26 c27 (ih _ _ _ _ _ _ _ q h)
                      · skip
                        refine ite_cases h (fun c23 h => ?_) (fun c23 h => ?_)
                        · skip
                          refine ite_cases h (fun c26 h => ?_) (fun c26 h => ?_)
                          · skip
                            cases h
                          · skip
                            refine ite_cases h (fun c27 h => ?_) (fun c27 h => ?_)
                            · skip
                              refine ite_cases h (fun c34 h => ?_) (fun c34 h => ?_)
                              · skip
                                cases h
                              · skip
                                refine ite_cases h (fun c39 h => ?_) (fun c39 h => ?_)
                                · skip
                                  cases h
                                · skip
                                  exact l6_0_w109 m n x3 s13 s15 b0 b1 b2 _ c0 c2 c3 c4 c9 c11 c12 c15 c18 c20 c23 c26 c27 c34 c39 (ih _ _ _ _ _ _ _ q h)
                            · skip
                              exact l6_0_w110 m n x3 s13 s15 b0 b1 b2 _ c0 c2 c3 c4 c9 c11 c12 c15 c18 c20 c23 c26 c27 (ih _ _ _ _ _ _ _ q h)
                        · skip
                          refine ite_cases h (fun c27 h => ?_) (fun c27 h => ?_)
                          · skip
                            refine ite_cases h (fun c34 h => ?_) (fun c34 h => ?_)
                            · skip
                              cases h
                            · skip
                              refine ite_cases h (fun c39 h => ?_) (fun c39 h => ?_)
                              · skip
                                cases h
                              · skip
                                exact l6_0_w111 m n x3 s13 s15 b0 b1 b2 _ c0 c2 c3 c4 c9 c11 c12 c15 c18 c20 c23 c27 c34 c39 (ih _ _ _ _ _ _ _ q h)
                          · skip
                            exact l6_0_w112 m n x3 s13 s15 b0 b1 b2 _ c0 c2 c3 c4 c9 c11 c12 c15 c18 c20 c23 c27 (ih _ _ _ _ _ _ _ q h)
                    · skip
                      cases h
                  · skip
                    cases h
                · skip
                  cases h
              · skip
                cases h
            · skip
              cases h
    · skip
      cases h
      exact l6_0_w113 m n x3 s13 s15 b0 b1 b2 c0
  | _ + 2, h =>
    rw [l6_0] at h
    cases h
set_option maxHeartbeats 20000000 in
theorem l6_0_ok (m : Nat) : ∀ (n : Nat) (x3 : List Int) (md : Nat) (s13 : Int) (s15 : Int) (b0 : Int × Int × Int) (b1 : (Int × Int × Int) × Bool × Int × Bool × (List (List UInt8)) × Int) (b2 : (Int × Int × Int) × Bool × Int × Bool × (List (List UInt8)) × Int) (q : Nat × Nat × Int × ((Int × Int × Int) × Bool × Int × Bool × (List (List UInt8)) × Int) × ((Int × Int × Int) × Bool × Int × Bool × (List (List UInt8)) × Int)), l6_0 m n x3 md s13 s15 b0 b1 b2 = some q → (turns (hds 6 63496) 0 63496 (evC byref (evCall F S7 (m + 24)) (m + 24) 0 (hds 6) lbl6_0) n (l6_0H x3 md s13 s15 b0 b1 b2) (l6_0B x3 md s13 s15 b0 b1 b2)).run = some (l6_0E (x3) (q.2.1) (s13) (q.2.2.1) (b0) (q.2.2.2.1) (q.2.2.2.2) q.1)
  | 0, x3, md, s13, s15, b0, b1, b2, q, h => by cases h
  | n + 1, x3, md, s13, s15, b0, b1, b2, q, h => l6_0_step m n (l6_0_ok m n) x3 md s13 s15 b0 b1 b2 q h

def copies (m : Nat) (x0 : Int) (x1 : Int) (x2 : Int) (x3 : List Int) (x4 : Int) : Option Unit :=
  if decide ((withinI x0 (0) (30)) ≥ 0) = true then
    if decide ((withinI x0 (0) (30)) ≤ 1048576) = true then
      if decide ((withinI x1 (1) (20)) ≥ 1) = true then
        if decide ((withinI x1 (1) (20)) ≤ 1048576) = true then
          if decide ((withinI x2 (1) (40)) ≥ 1) = true then
            if decide ((withinI x2 (1) (40)) ≤ 1048576) = true then
              if (Option.isSome (l6_0 m (m + 24) x3 0 ((withinI x4 (0) (40))) 0 (((withinI x0 (0) (30)), ((withinI x1 (1) (20)), (withinI x2 (1) (40))))) ((((withinI x0 (0) (30)), ((withinI x1 (1) (20)), (withinI x2 (1) (40)))), (false, ((0), (false, (([] : List (List UInt8)), (0))))))) (((0, (0, 0)), (false, (0, (false, (([] : List (List UInt8)), 0)))))))) = true then
                if ((l6_0R m (m + 24) x3 0 ((withinI x4 (0) (40))) 0 (((withinI x0 (0) (30)), ((withinI x1 (1) (20)), (withinI x2 (1) (40))))) ((((withinI x0 (0) (30)), ((withinI x1 (1) (20)), (withinI x2 (1) (40)))), (false, ((0), (false, (([] : List (List UInt8)), (0))))))) (((0, (0, 0)), (false, (0, (false, (([] : List (List UInt8)), 0))))))).1 == 0) = true then
                  none
                else
                  if ((l6_0R m (m + 24) x3 0 ((withinI x4 (0) (40))) 0 (((withinI x0 (0) (30)), ((withinI x1 (1) (20)), (withinI x2 (1) (40))))) ((((withinI x0 (0) (30)), ((withinI x1 (1) (20)), (withinI x2 (1) (40)))), (false, ((0), (false, (([] : List (List UInt8)), (0))))))) (((0, (0, 0)), (false, (0, (false, (([] : List (List UInt8)), 0))))))).1 == 1) = true then
                    if (l6_0R m (m + 24) x3 0 ((withinI x4 (0) (40))) 0 (((withinI x0 (0) (30)), ((withinI x1 (1) (20)), (withinI x2 (1) (40))))) ((((withinI x0 (0) (30)), ((withinI x1 (1) (20)), (withinI x2 (1) (40)))), (false, ((0), (false, (([] : List (List UInt8)), (0))))))) (((0, (0, 0)), (false, (0, (false, (([] : List (List UInt8)), 0))))))).2.2.2.1.2.1 = true then
                      some ()
                    else
                      none
                  else
                    none
              else
                none
            else
              none
          else
            none
        else
          none
      else
        none
    else
      none
  else
    none

end Go.Proofs.Ytkppbflmlpabjab.Dec
namespace Go.Proofs.Ytkppbflmlpabjab.Dec
open Go.Ev
set_option linter.unusedVariables false
set_option linter.unusedSimpArgs false
set_option maxRecDepth 100000
set_option maxHeartbeats 20000000 in
theorem copies_w0 (m : Nat) (x0 : Int) (x1 : Int) (x2 : Int) (x3 : List Int) (x4 : Int) (c3 : decide ((withinI x0 (0) (30)) ≥ 0) = true) (c7 : decide ((withinI x0 (0) (30)) ≤ 1048576) = true) (c10 : decide ((withinI x1 (1) (20)) ≥ 1) = true) (c15 : decide ((withinI x1 (1) (20)) ≤ 1048576) = true) (c18 : decide ((withinI x2 (1) (40)) ≥ 1) = true) (c23 : decide ((withinI x2 (1) (40)) ≤ 1048576) = true) (c26 : (Option.isSome (l6_0 m (m + 24) x3 0 ((withinI x4 (0) (40))) 0 (((withinI x0 (0) (30)), ((withinI x1 (1) (20)), (withinI x2 (1) (40))))) ((((withinI x0 (0) (30)), ((withinI x1 (1) (20)), (withinI x2 (1) (40)))), (false, ((0), (false, (([] : List (List UInt8)), (0))))))) (((0, (0, 0)), (false, (0, (false, (([] : List (List UInt8)), 0)))))))) = true) (c27 : ¬ ((l6_0R m (m + 24) x3 0 ((withinI x4 (0) (40))) 0 (((withinI x0 (0) (30)), ((withinI x1 (1) (20)), (withinI x2 (1) (40))))) ((((withinI x0 (0) (30)), ((withinI x1 (1) (20)), (withinI x2 (1) (40)))), (false, ((0), (false, (([] : List (List UInt8)), (0))))))) (((0, (0, 0)), (false, (0, (false, (([] : List (List UInt8)), 0))))))).1 == 0) = true) (c28 : ((l6_0R m (m + 24) x3 0 ((withinI x4 (0) (40))) 0 (((withinI x0 (0) (30)), ((withinI x1 (1) (20)), (withinI x2 (1) (40))))) ((((withinI x0 (0) (30)), ((withinI x1 (1) (20)), (withinI x2 (1) (40)))), (false, ((0), (false, (([] : List (List UInt8)), (0))))))) (((0, (0, 0)), (false, (0, (false, (([] : List (List UInt8)), 0))))))).1 == 1) = true) (c33 : (l6_0R m (m + 24) x3 0 ((withinI x4 (0) (40))) 0 (((withinI x0 (0) (30)), ((withinI x1 (1) (20)), (withinI x2 (1) (40))))) ((((withinI x0 (0) (30)), ((withinI x1 (1) (20)), (withinI x2 (1) (40)))), (false, ((0), (false, (([] : List (List UInt8)), (0))))))) (((0, (0, 0)), (false, (0, (false, (([] : List (List UInt8)), 0))))))).2.2.2.1.2.1 = true) : (evCall F S7 (m + 25) 6 [(.d (.int .i64 x0)), (.d (.int .i64 x1)), (.d (.int .i64 x2)), (.d (.sl (.int .i64) x3)), (.d (.int .i64 x4))] []).run = some (.d (.bool true), []) := by
  refine runT_ok (LS := (fun k => if k = 63496 then some (l6_0E x3 ((l6_0R m (m + 24) x3 0 ((withinI x4 (0) (40))) 0 (((withinI x0 (0) (30)), ((withinI x1 (1) (20)), (withinI x2 (1) (40))))) ((((withinI x0 (0) (30)), ((withinI x1 (1) (20)), (withinI x2 (1) (40)))), (false, ((0), (false, (([] : List (List UInt8)), (0))))))) (((0, (0, 0)), (false, (0, (false, (([] : List (List UInt8)), 0))))))).2.1) (((withinI x4 (0) (40)))) ((l6_0R m (m + 24) x3 0 ((withinI x4 (0) (40))) 0 (((withinI x0 (0) (30)), ((withinI x1 (1) (20)), (withinI x2 (1) (40))))) ((((withinI x0 (0) (30)), ((withinI x1 (1) (20)), (withinI x2 (1) (40)))), (false, ((0), (false, (([] : List (List UInt8)), (0))))))) (((0, (0, 0)), (false, (0, (false, (([] : List (List UInt8)), 0))))))).2.2.1) ((((withinI x0 (0) (30)), ((withinI x1 (1) (20)), (withinI x2 (1) (40)))))) ((l6_0R m (m + 24) x3 0 ((withinI x4 (0) (40))) 0 (((withinI x0 (0) (30)), ((withinI x1 (1) (20)), (withinI x2 (1) (40))))) ((((withinI x0 (0) (30)), ((withinI x1 (1) (20)), (withinI x2 (1) (40)))), (false, ((0), (false, (([] : List (List UInt8)), (0))))))) (((0, (0, 0)), (false, (0, (false, (([] : List (List UInt8)), 0))))))).2.2.2.1) ((l6_0R m (m + 24) x3 0 ((withinI x4 (0) (40))) 0 (((withinI x0 (0) (30)), ((withinI x1 (1) (20)), (withinI x2 (1) (40))))) ((((withinI x0 (0) (30)), ((withinI x1 (1) (20)), (withinI x2 (1) (40)))), (false, ((0), (false, (([] : List (List UInt8)), (0))))))) (((0, (0, 0)), (false, (0, (false, (([] : List (List UInt8)), 0))))))).2.2.2.2) 1) else none)) (fn := fn6) (r := .d (.bool true)) (B' := []) (vis := [(63496, l6_0H x3 0 ((withinI x4 (0) (40))) 0 (((withinI x0 (0) (30)), ((withinI x1 (1) (20)), (withinI x2 (1) (40))))) ((((withinI x0 (0) (30)), ((withinI x1 (1) (20)), (withinI x2 (1) (40)))), (false, ((0), (false, (([] : List (List UInt8)), (0))))))) (((0, (0, 0)), (false, (0, (false, (([] : List (List UInt8)), 0)))))), l6_0B x3 0 ((withinI x4 (0) (40))) 0 (((withinI x0 (0) (30)), ((withinI x1 (1) (20)), (withinI x2 (1) (40))))) ((((withinI x0 (0) (30)), ((withinI x1 (1) (20)), (withinI x2 (1) (40)))), (false, ((0), (false, (([] : List (List UInt8)), (0))))))) (((0, (0, 0)), (false, (0, (false, (([] : List (List UInt8)), 0)))))))]) (by kernel_rfl) rfl (by kernel_rfl) (M.run_of_path _ [true, true, true, true, true, true, true, true, true, true, true, true, true, true, true, true, true, true, true, true, true, true, true, false, false, true, true, true, true, true, true, true] _ _ (by kernel_rfl) (all_t rfl (all_t rfl (all_t rfl (all_t c3 (all_t c3 (all_t c3 (all_t c3 (all_t c7 (all_t c7 (all_t c7 (all_t c10 (all_t c10 (all_t c10 (all_t c10 (all_t c7 (all_t c15 (all_t c15 (all_t c15 (all_t c18 (all_t c18 (all_t c18 (all_t c18 (all_t c15 (all_nt c23 (all_f Bool.false_ne_true (all_t rfl (all_t rfl (all_t rfl (all_t rfl (all_t rfl (all_nnt c33 (all_nnt c33 all_nil))))))))))))))))))))))))))))))))) ?_
  intro p hp p2 hq
  rcases List.mem_cons.1 hp with rfl | hp
  · skip
    have h3 := l6_0_ok m (m + 24) x3 0 ((withinI x4 (0) (40))) 0 (((withinI x0 (0) (30)), ((withinI x1 (1) (20)), (withinI x2 (1) (40))))) ((((withinI x0 (0) (30)), ((withinI x1 (1) (20)), (withinI x2 (1) (40)))), (false, ((0), (false, (([] : List (List UInt8)), (0))))))) (((0, (0, 0)), (false, (0, (false, (([] : List (List UInt8)), 0)))))) _ (some_getD (d := l6_0D) c26)
    rw [eq_of_beq c28] at h3
    exact Eq.trans (Eq.mp (by kernel_rfl) h3) hq
  cases hp

end Go.Proofs.Ytkppbflmlpabjab.Dec
namespace Go.Proofs.Ytkppbflmlpabjab.Dec
open Go.Ev
set_option linter.unusedVariables false
set_option linter.unusedSimpArgs false
set_option maxRecDepth 100000
set_option maxHeartbeats 20000000 in
theorem copies_ok (m : Nat) (x0 : Int) (x1 : Int) (x2 : Int) (x3 : List Int) (x4 : Int) (q : Unit) (h : copies m x0 x1 x2 x3 x4 = some q) : (evCall F S7 (m + 25) 6 [(.d (.int .i64 x0)), (.d (.int .i64 x1)), (.d (.int .i64 x2)), (.d (.sl (.int .i64) x3)), (.d (.int .i64 x4))] []).run = some (.d (.bool true), []) := by
  unfold copies at h
  refine ite_cases h (fun c3 h => ?_) (fun c3 h => ?_)
  · skip
    refine ite_cases h (fun c7 h => ?_) (fun c7 h => ?_)
    · skip
      refine ite_cases h (fun c10 h => ?_) (fun c10 h => ?_)
      · skip
        refine ite_cases h (fun c15 h => ?_) (fun c15 h => ?_)
        · skip
          refine ite_cases h (fun c18 h => ?_) (fun c18 h => ?_)
          · skip
            refine ite_cases h (fun c23 h => ?_) (fun c23 h => ?_)
            · skip
              refine ite_cases h (fun c26 h => ?_) (fun c26 h => ?_)
              · skip
                refine ite_cases h (fun c27 h => ?_) (fun c27 h => ?_)
                · skip
                  cases h
                · skip
                  refine ite_cases h (fun c28 h => ?_) (fun c28 h => ?_)
                  · skip
                    refine ite_cases h (fun c33 h => ?_) (fun c33 h => ?_)
                    · skip
                      cases h
                      exact copies_w0 m x0 x1 x2 x3 x4 c3 c7 c10 c15 c18 c23 c26 c27 c28 c33
                    · skip
                      cases h
                  · skip
                    cases h
              · skip
                cases h
            · skip
              cases h
          · skip
            cases h
        · skip
          cases h
      · skip
        cases h
    · skip
      cases h
  · skip
    cases h
theorem copies_at (x0 : Int) (x1 : Int) (x2 : Int) (x3 : List Int) (x4 : Int) (h : ∃ m q, copies m x0 x1 x2 x3 x4 = some q) : ∃ g B', CallAt Try.prog 6 g ∧ (g [(.d (.int .i64 x0)), (.d (.int .i64 x1)), (.d (.int .i64 x2)), (.d (.sl (.int .i64) x3)), (.d (.int .i64 x4))] []).run = some (.d (.bool true), B') := by
  obtain ⟨m, q, h⟩ := h
  exact ⟨_, _, evCall_atH mixed kinds hds S7 S7_ok (m + 25) 6, copies_ok m x0 x1 x2 x3 x4 q h⟩

end Go.Proofs.Ytkppbflmlpabjab.Dec
namespace Go.Proofs.Ytkppbflmlpabjab.Dec
open Go.Ev
set_option linter.unusedVariables false
set_option linter.unusedSimpArgs false
set_option maxRecDepth 100000
theorem alerts_len (n : Int) : (alertsG n).length ≤ 3 := by
  unfold alertsG
  split <;> split <;> split <;> simp
theorem alerts_some (n : Int) (h1 : 1 ≤ n) (h2 : n ≤ 7) : alertsG n ≠ [] := by
  have : n = 1 ∨ n = 2 ∨ n = 3 ∨ n = 4 ∨ n = 5 ∨ n = 6 ∨ n = 7 := by omega
  rcases this with rfl | rfl | rfl | rfl | rfl | rfl | rfl <;> decide +kernel
/-- What is known of the group ahead of a tick. -/
def CJ (w i r t : Int) (g : GS) : Prop :=
  (t = 0 ∧ g = ((w, i, r), false, 0, false, [], 0)) ∨ (0 < t ∧ ∃ nx told la si, g = ((w, i, r), true, nx, told, la, si) ∧ la.length ≤ 3 ∧ 0 ≤ si ∧ si ≤ t)
set_option maxHeartbeats 20000000 in
theorem copies_step {w i r t : Int} {g : GS} {al : TL} (h1 : 0 ≤ w) (h2 : w ≤ 30) (h3 : 1 ≤ i) (h4 : i ≤ 20) (h5 : 1 ≤ r) (h6 : r ≤ 40) (ht0 : 0 ≤ t) (ht1 : t ≤ 60) (hJ : CJ w i r t g) (ha : al ≠ []) (hl : al.length ≤ 3) :
    tickPre g t al = true ∧ decide ((List.length g.2.2.2.2.1 * 16) ≤ 70368744177664) = true ∧ ∃ ok l nx' told' la' si', tickG g t al = (l, ok, ((w, i, r), true, nx', told', la', si')) ∧ decide (List.length l < 4611686018427387904) = true ∧ CJ w i r (t + 1) ((w, i, r), true, nx', told', la', si') ∧
      (g.2.1 = true → t ≥ g.2.2.1 → nx' = t + i) ∧ (ok = true → (g.2.1 = true ∧ t ≥ g.2.2.1) ∨ (w = 0 ∧ t = 0)) := by
  rcases hJ with ⟨rfl, rfl⟩ | ⟨hp, nx, told, la, si, rfl, hla, hs0, hs1⟩
  · refine ⟨decide_eq_true (by simp only; omega), rfl, ?_⟩
    by_cases hw : 0 < w
    · refine ⟨false, [], w, false, [], 0, by simp [tickG, ha, hw], rfl, .inr ⟨by omega, _, _, _, _, rfl, by simp, by omega, by omega⟩, fun h => (by cases h), fun h => (by cases h)⟩
    · have e : w = 0 := by omega
      refine ⟨true, al, i, true, al, 0, by simp [tickG, ha, e], decide_eq_true (by omega), .inr ⟨by omega, _, _, _, _, rfl, hl, by omega, by omega⟩, fun h => (by cases h), fun _ => .inr ⟨e, rfl⟩⟩
  · refine ⟨decide_eq_true (by simp only; omega), decide_eq_true (by simp only; omega), ?_⟩
    by_cases hn : t < nx
    · refine ⟨false, [], nx, told, la, si, by simp [tickG, hn], rfl, .inr ⟨by omega, _, _, _, _, rfl, hla, hs0, by omega⟩, fun _ h => ?_, fun h => (by cases h)⟩
      simp only at h; omega
    · by_cases hc : told = false ∨ al ≠ la ∨ t - si ≥ r
      · refine ⟨true, al, t + i, true, al, t, ?_, decide_eq_true (by omega), .inr ⟨by omega, _, _, _, _, rfl, hl, by omega, by omega⟩, fun _ _ => rfl, fun _ => .inl ⟨rfl, by simp only; omega⟩⟩
        unfold tickG
        rw [if_neg (by simp [ha]), if_neg (by simpa using hn), if_neg ha, if_pos (by simpa using hc)]
      · refine ⟨false, [], t + i, told, la, si, ?_, rfl, .inr ⟨by omega, _, _, _, _, rfl, hla, hs0, by omega⟩, fun _ _ => rfl, fun h => (by cases h)⟩
        unfold tickG
        rw [if_neg (by simp [ha]), if_neg (by simpa using hn), if_neg ha, if_neg (by simpa using hc)]
theorem copies_loop1 (m : Nat) (x3 : List Int) (w i r k : Int) (h1 : 0 ≤ w) (h2 : w ≤ 30) (h3 : 1 ≤ i) (h4 : i ≤ 20) (h5 : 1 ≤ r) (h6 : r ≤ 40) (hk0 : 0 ≤ k) :
    ∀ (n : Nat) (t : Int) (g : GS), k < t → t ≤ 60 → (60 - t).toNat < n → CJ w i r t g → ∃ t' b b', l6_0 m n x3 1 k t (w, i, r) g g = some (1, 1, t', b, b') ∧ b.2.1 = true
  | 0, t, g, _, _, h, _ => by omega
  | n + 1, t, g, htk, ht1, hn0, hJ => by
    rw [l6_0]
    have ht0 : 0 ≤ t := by omega
    by_cases ht : t < 60
    · have ih := fun (g' : GS) (hJ' : CJ w i r (t + 1) g') => copies_loop1 m x3 w i r k h1 h2 h3 h4 h5 h6 hk0 n (t + 1) g' (by omega) (by omega) (by omega) hJ'
      have ht0' : decide (0 ≤ t) = true := decide_eq_true ht0
      have e1 : decide (t < 60) = true := decide_eq_true ht
      simp only [e1, ht0', ↓reduceIte]
      by_cases hx : t < (((List.length x3) : Nat) : Int)
      · have ex : decide (t < (((List.length x3) : Nat) : Int)) = true := decide_eq_true hx
        simp only [ex, ↓reduceIte]
        have a5 : 1 ≤ withinI (List.getD x3 (Int.toNat t) 0) (1) (7) ∧ withinI (List.getD x3 (Int.toNat t) 0) (1) (7) ≤ 7 := by unfold withinI; omega
        have hal := alerts_some _ a5.1 a5.2
        have hal3 := alerts_len (withinI (List.getD x3 (Int.toNat t) 0) (1) (7))
        generalize alertsG (withinI (List.getD x3 (Int.toNat t) 0) (1) (7)) = al at hal hal3 ⊢
        obtain ⟨hp, hcl, ok, l, nx', told', la', si', hT, hll, hJ', hn', hok⟩ := copies_step h1 h2 h3 h4 h5 h6 ht0 (by omega) hJ hal hal3
        have hw1 : IntKind.wrap .i64 (t + (1)) = t + 1 := wrap_id (by omega) (by omega)
        have hw2 : IntKind.wrap .i64 (t + i) = t + i := wrap_id (by omega) (by omega)
        have z0 : (t == k) = false := by simp; omega
        cases hb : g.2.1 with
        | false =>
          cases ok with
          | false =>
            simp only [z0, hb, hp, hcl, hT, hll, hw1, hw2, bne_self_eq_false, beq_self_eq_true, ↓reduceIte, Bool.false_eq_true]
            exact ih _ hJ'
          | true =>
            obtain ⟨hw0, ht⟩ : w = 0 ∧ t = 0 := by
              rcases hok rfl with ⟨h, _⟩ | h
              · rw [hb] at h; cases h
              · exact h
            have z1 : decide (w > 0) = false := decide_eq_false (by omega)
            have z2 : decide (t > 0) = false := decide_eq_false (by omega)
            simp only [z0, hb, hp, hcl, hT, hll, hw1, hw2, z1, z2, bne_self_eq_false, beq_self_eq_true, ↓reduceIte, Bool.false_eq_true]
            exact ih _ hJ'
        | true =>
          by_cases hn : t ≥ g.2.2.1
          · have z1 : decide (t ≥ g.2.2.1) = true := decide_eq_true hn
            have z2 := hn' hb hn
            subst z2
            cases ok <;> simp only [z0, hb, hp, hcl, hT, hll, hw1, hw2, z1, bne_self_eq_false, beq_self_eq_true, ↓reduceIte, Bool.false_eq_true] <;> exact ih _ hJ'
          · have z1 : decide (t ≥ g.2.2.1) = false := decide_eq_false hn
            cases ok with
            | false =>
              simp only [z0, hb, hp, hcl, hT, hll, hw1, hw2, z1, bne_self_eq_false, beq_self_eq_true, ↓reduceIte, Bool.false_eq_true]
              exact ih _ hJ'
            | true =>
              exfalso
              rcases hok rfl with ⟨_, h⟩ | ⟨_, h⟩
              · exact hn h
              · rcases hJ with ⟨_, rfl⟩ | ⟨h', _⟩
                · cases hb
                · omega
      · have ex : decide (t < (((List.length x3) : Nat) : Int)) = false := decide_eq_false hx
        simp only [ex, ↓reduceIte, Bool.false_eq_true]
        have hal := alerts_some 3 (by omega) (by omega)
        have hal3 := alerts_len 3
        generalize alertsG (3) = al at hal hal3 ⊢
        obtain ⟨hp, hcl, ok, l, nx', told', la', si', hT, hll, hJ', hn', hok⟩ := copies_step h1 h2 h3 h4 h5 h6 ht0 (by omega) hJ hal hal3
        have hw1 : IntKind.wrap .i64 (t + (1)) = t + 1 := wrap_id (by omega) (by omega)
        have hw2 : IntKind.wrap .i64 (t + i) = t + i := wrap_id (by omega) (by omega)
        have z0 : (t == k) = false := by simp; omega
        cases hb : g.2.1 with
        | false =>
          cases ok with
          | false =>
            simp only [z0, hb, hp, hcl, hT, hll, hw1, hw2, bne_self_eq_false, beq_self_eq_true, ↓reduceIte, Bool.false_eq_true]
            exact ih _ hJ'
          | true =>
            obtain ⟨hw0, ht⟩ : w = 0 ∧ t = 0 := by
              rcases hok rfl with ⟨h, _⟩ | h
              · rw [hb] at h; cases h
              · exact h
            have z1 : decide (w > 0) = false := decide_eq_false (by omega)
            have z2 : decide (t > 0) = false := decide_eq_false (by omega)
            simp only [z0, hb, hp, hcl, hT, hll, hw1, hw2, z1, z2, bne_self_eq_false, beq_self_eq_true, ↓reduceIte, Bool.false_eq_true]
            exact ih _ hJ'
        | true =>
          by_cases hn : t ≥ g.2.2.1
          · have z1 : decide (t ≥ g.2.2.1) = true := decide_eq_true hn
            have z2 := hn' hb hn
            subst z2
            cases ok <;> simp only [z0, hb, hp, hcl, hT, hll, hw1, hw2, z1, bne_self_eq_false, beq_self_eq_true, ↓reduceIte, Bool.false_eq_true] <;> exact ih _ hJ'
          · have z1 : decide (t ≥ g.2.2.1) = false := decide_eq_false hn
            cases ok with
            | false =>
              simp only [z0, hb, hp, hcl, hT, hll, hw1, hw2, z1, bne_self_eq_false, beq_self_eq_true, ↓reduceIte, Bool.false_eq_true]
              exact ih _ hJ'
            | true =>
              exfalso
              rcases hok rfl with ⟨_, h⟩ | ⟨_, h⟩
              · exact hn h
              · rcases hJ with ⟨_, rfl⟩ | ⟨h', _⟩
                · cases hb
                · omega
    · have e1 : decide (t < 60) = false := decide_eq_false ht
      simp only [e1, ↓reduceIte, Bool.false_eq_true]
      refine ⟨_, _, _, rfl, ?_⟩
      rcases hJ with ⟨h, _⟩ | ⟨_, nx, told, la, si, rfl, _⟩
      · omega
      · rfl
theorem copies_loop0 (m : Nat) (x3 : List Int) (w i r k : Int) (h1 : 0 ≤ w) (h2 : w ≤ 30) (h3 : 1 ≤ i) (h4 : i ≤ 20) (h5 : 1 ≤ r) (h6 : r ≤ 40) (hk1 : k ≤ 40) :
    ∀ (n : Nat) (t : Int) (g bc : GS), 0 ≤ t → t ≤ k → (60 - t).toNat < n → CJ w i r t g → ∃ t' b b', l6_0 m n x3 0 k t (w, i, r) g bc = some (1, 1, t', b, b') ∧ b.2.1 = true
  | 0, t, g, bc, _, _, h, _ => by omega
  | n + 1, t, g, bc, ht0, htk, hn0, hJ => by
    rw [l6_0]
    have ht : t < 60 := by omega
    have ht0' : decide (0 ≤ t) = true := decide_eq_true ht0
    have e1 : decide (t < 60) = true := decide_eq_true ht
    simp only [e1, ht0', ↓reduceIte]
    by_cases hx : t < (((List.length x3) : Nat) : Int)
    · have ex : decide (t < (((List.length x3) : Nat) : Int)) = true := decide_eq_true hx
      simp only [ex, ↓reduceIte]
      have a5 : 1 ≤ withinI (List.getD x3 (Int.toNat t) 0) (1) (7) ∧ withinI (List.getD x3 (Int.toNat t) 0) (1) (7) ≤ 7 := by unfold withinI; omega
      have hal := alerts_some _ a5.1 a5.2
      have hal3 := alerts_len (withinI (List.getD x3 (Int.toNat t) 0) (1) (7))
      generalize alertsG (withinI (List.getD x3 (Int.toNat t) 0) (1) (7)) = al at hal hal3 ⊢
      by_cases hk : t = k
      · have z0 : (t == k) = true := by simp [hk]
        have ih := fun (g' : GS) (hJ' : CJ w i r (t + 1) g') => copies_loop1 m x3 w i r k h1 h2 h3 h4 h5 h6 (by omega) n (t + 1) g' (by omega) (by omega) (by omega) hJ'
        obtain ⟨hp, hcl, ok, l, nx', told', la', si', hT, hll, hJ', hn', hok⟩ := copies_step h1 h2 h3 h4 h5 h6 ht0 (by omega) hJ hal hal3
        have hw1 : IntKind.wrap .i64 (t + (1)) = t + 1 := wrap_id (by omega) (by omega)
        have hw2 : IntKind.wrap .i64 (t + i) = t + i := wrap_id (by omega) (by omega)
        cases hb : g.2.1 with
        | false =>
          cases ok with
          | false =>
            simp only [z0, hb, hp, hcl, hT, hll, hw1, hw2, bne_self_eq_false, beq_self_eq_true, ↓reduceIte, Bool.false_eq_true]
            exact ih _ hJ'
          | true =>
            obtain ⟨hw0, ht⟩ : w = 0 ∧ t = 0 := by
              rcases hok rfl with ⟨h, _⟩ | h
              · rw [hb] at h; cases h
              · exact h
            have z1 : decide (w > 0) = false := decide_eq_false (by omega)
            have z2 : decide (t > 0) = false := decide_eq_false (by omega)
            simp only [z0, hb, hp, hcl, hT, hll, hw1, hw2, z1, z2, bne_self_eq_false, beq_self_eq_true, ↓reduceIte, Bool.false_eq_true]
            exact ih _ hJ'
        | true =>
          by_cases hn : t ≥ g.2.2.1
          · have z1 : decide (t ≥ g.2.2.1) = true := decide_eq_true hn
            have z2 := hn' hb hn
            subst z2
            cases ok <;> simp only [z0, hb, hp, hcl, hT, hll, hw1, hw2, z1, bne_self_eq_false, beq_self_eq_true, ↓reduceIte, Bool.false_eq_true] <;> exact ih _ hJ'
          · have z1 : decide (t ≥ g.2.2.1) = false := decide_eq_false hn
            cases ok with
            | false =>
              simp only [z0, hb, hp, hcl, hT, hll, hw1, hw2, z1, bne_self_eq_false, beq_self_eq_true, ↓reduceIte, Bool.false_eq_true]
              exact ih _ hJ'
            | true =>
              exfalso
              rcases hok rfl with ⟨_, h⟩ | ⟨_, h⟩
              · exact hn h
              · rcases hJ with ⟨_, rfl⟩ | ⟨h', _⟩
                · cases hb
                · omega
      · have z0 : (t == k) = false := by simpa using hk
        have ih := fun (g' : GS) (hJ' : CJ w i r (t + 1) g') => copies_loop0 m x3 w i r k h1 h2 h3 h4 h5 h6 hk1 n (t + 1) g' bc (by omega) (by omega) (by omega) hJ'
        obtain ⟨hp, hcl, ok, l, nx', told', la', si', hT, hll, hJ', hn', hok⟩ := copies_step h1 h2 h3 h4 h5 h6 ht0 (by omega) hJ hal hal3
        have hw1 : IntKind.wrap .i64 (t + (1)) = t + 1 := wrap_id (by omega) (by omega)
        have hw2 : IntKind.wrap .i64 (t + i) = t + i := wrap_id (by omega) (by omega)
        cases hb : g.2.1 with
        | false =>
          cases ok with
          | false =>
            simp only [z0, hb, hp, hcl, hT, hll, hw1, hw2, bne_self_eq_false, beq_self_eq_true, ↓reduceIte, Bool.false_eq_true]
            exact ih _ hJ'
          | true =>
            obtain ⟨hw0, ht⟩ : w = 0 ∧ t = 0 := by
              rcases hok rfl with ⟨h, _⟩ | h
              · rw [hb] at h; cases h
              · exact h
            have z1 : decide (w > 0) = false := decide_eq_false (by omega)
            have z2 : decide (t > 0) = false := decide_eq_false (by omega)
            simp only [z0, hb, hp, hcl, hT, hll, hw1, hw2, z1, z2, bne_self_eq_false, beq_self_eq_true, ↓reduceIte, Bool.false_eq_true]
            exact ih _ hJ'
        | true =>
          by_cases hn : t ≥ g.2.2.1
          · have z1 : decide (t ≥ g.2.2.1) = true := decide_eq_true hn
            have z2 := hn' hb hn
            subst z2
            cases ok <;> simp only [z0, hb, hp, hcl, hT, hll, hw1, hw2, z1, bne_self_eq_false, beq_self_eq_true, ↓reduceIte, Bool.false_eq_true] <;> exact ih _ hJ'
          · have z1 : decide (t ≥ g.2.2.1) = false := decide_eq_false hn
            cases ok with
            | false =>
              simp only [z0, hb, hp, hcl, hT, hll, hw1, hw2, z1, bne_self_eq_false, beq_self_eq_true, ↓reduceIte, Bool.false_eq_true]
              exact ih _ hJ'
            | true =>
              exfalso
              rcases hok rfl with ⟨_, h⟩ | ⟨_, h⟩
              · exact hn h
              · rcases hJ with ⟨_, rfl⟩ | ⟨h', _⟩
                · cases hb
                · omega
    · have ex : decide (t < (((List.length x3) : Nat) : Int)) = false := decide_eq_false hx
      simp only [ex, ↓reduceIte, Bool.false_eq_true]
      have hal := alerts_some 3 (by omega) (by omega)
      have hal3 := alerts_len 3
      generalize alertsG (3) = al at hal hal3 ⊢
      by_cases hk : t = k
      · have z0 : (t == k) = true := by simp [hk]
        have ih := fun (g' : GS) (hJ' : CJ w i r (t + 1) g') => copies_loop1 m x3 w i r k h1 h2 h3 h4 h5 h6 (by omega) n (t + 1) g' (by omega) (by omega) (by omega) hJ'
        obtain ⟨hp, hcl, ok, l, nx', told', la', si', hT, hll, hJ', hn', hok⟩ := copies_step h1 h2 h3 h4 h5 h6 ht0 (by omega) hJ hal hal3
        have hw1 : IntKind.wrap .i64 (t + (1)) = t + 1 := wrap_id (by omega) (by omega)
        have hw2 : IntKind.wrap .i64 (t + i) = t + i := wrap_id (by omega) (by omega)
        cases hb : g.2.1 with
        | false =>
          cases ok with
          | false =>
            simp only [z0, hb, hp, hcl, hT, hll, hw1, hw2, bne_self_eq_false, beq_self_eq_true, ↓reduceIte, Bool.false_eq_true]
            exact ih _ hJ'
          | true =>
            obtain ⟨hw0, ht⟩ : w = 0 ∧ t = 0 := by
              rcases hok rfl with ⟨h, _⟩ | h
              · rw [hb] at h; cases h
              · exact h
            have z1 : decide (w > 0) = false := decide_eq_false (by omega)
            have z2 : decide (t > 0) = false := decide_eq_false (by omega)
            simp only [z0, hb, hp, hcl, hT, hll, hw1, hw2, z1, z2, bne_self_eq_false, beq_self_eq_true, ↓reduceIte, Bool.false_eq_true]
            exact ih _ hJ'
        | true =>
          by_cases hn : t ≥ g.2.2.1
          · have z1 : decide (t ≥ g.2.2.1) = true := decide_eq_true hn
            have z2 := hn' hb hn
            subst z2
            cases ok <;> simp only [z0, hb, hp, hcl, hT, hll, hw1, hw2, z1, bne_self_eq_false, beq_self_eq_true, ↓reduceIte, Bool.false_eq_true] <;> exact ih _ hJ'
          · have z1 : decide (t ≥ g.2.2.1) = false := decide_eq_false hn
            cases ok with
            | false =>
              simp only [z0, hb, hp, hcl, hT, hll, hw1, hw2, z1, bne_self_eq_false, beq_self_eq_true, ↓reduceIte, Bool.false_eq_true]
              exact ih _ hJ'
            | true =>
              exfalso
              rcases hok rfl with ⟨_, h⟩ | ⟨_, h⟩
              · exact hn h
              · rcases hJ with ⟨_, rfl⟩ | ⟨h', _⟩
                · cases hb
                · omega
      · have z0 : (t == k) = false := by simpa using hk
        have ih := fun (g' : GS) (hJ' : CJ w i r (t + 1) g') => copies_loop0 m x3 w i r k h1 h2 h3 h4 h5 h6 hk1 n (t + 1) g' bc (by omega) (by omega) (by omega) hJ'
        obtain ⟨hp, hcl, ok, l, nx', told', la', si', hT, hll, hJ', hn', hok⟩ := copies_step h1 h2 h3 h4 h5 h6 ht0 (by omega) hJ hal hal3
        have hw1 : IntKind.wrap .i64 (t + (1)) = t + 1 := wrap_id (by omega) (by omega)
        have hw2 : IntKind.wrap .i64 (t + i) = t + i := wrap_id (by omega) (by omega)
        cases hb : g.2.1 with
        | false =>
          cases ok with
          | false =>
            simp only [z0, hb, hp, hcl, hT, hll, hw1, hw2, bne_self_eq_false, beq_self_eq_true, ↓reduceIte, Bool.false_eq_true]
            exact ih _ hJ'
          | true =>
            obtain ⟨hw0, ht⟩ : w = 0 ∧ t = 0 := by
              rcases hok rfl with ⟨h, _⟩ | h
              · rw [hb] at h; cases h
              · exact h
            have z1 : decide (w > 0) = false := decide_eq_false (by omega)
            have z2 : decide (t > 0) = false := decide_eq_false (by omega)
            simp only [z0, hb, hp, hcl, hT, hll, hw1, hw2, z1, z2, bne_self_eq_false, beq_self_eq_true, ↓reduceIte, Bool.false_eq_true]
            exact ih _ hJ'
        | true =>
          by_cases hn : t ≥ g.2.2.1
          · have z1 : decide (t ≥ g.2.2.1) = true := decide_eq_true hn
            have z2 := hn' hb hn
            subst z2
            cases ok <;> simp only [z0, hb, hp, hcl, hT, hll, hw1, hw2, z1, bne_self_eq_false, beq_self_eq_true, ↓reduceIte, Bool.false_eq_true] <;> exact ih _ hJ'
          · have z1 : decide (t ≥ g.2.2.1) = false := decide_eq_false hn
            cases ok with
            | false =>
              simp only [z0, hb, hp, hcl, hT, hll, hw1, hw2, z1, bne_self_eq_false, beq_self_eq_true, ↓reduceIte, Bool.false_eq_true]
              exact ih _ hJ'
            | true =>
              exfalso
              rcases hok rfl with ⟨_, h⟩ | ⟨_, h⟩
              · exact hn h
              · rcases hJ with ⟨_, rfl⟩ | ⟨h', _⟩
                · cases hb
                · omega
theorem copies_pure (x0 x1 x2 : Int) (x3 : List Int) (x4 : Int) : ∃ m q, copies m x0 x1 x2 x3 x4 = some q := by
  refine ⟨200, (), ?_⟩
  unfold copies
  have a1 : 0 ≤ withinI x0 0 30 ∧ withinI x0 0 30 ≤ 30 := by unfold withinI; omega
  have a2 : 1 ≤ withinI x1 1 20 ∧ withinI x1 1 20 ≤ 20 := by unfold withinI; omega
  have a3 : 1 ≤ withinI x2 1 40 ∧ withinI x2 1 40 ≤ 40 := by unfold withinI; omega
  have a4 : 0 ≤ withinI x4 0 40 ∧ withinI x4 0 40 ≤ 40 := by unfold withinI; omega
  generalize withinI x0 0 30 = w at a1
  generalize withinI x1 1 20 = i at a2
  generalize withinI x2 1 40 = r at a3
  generalize withinI x4 0 40 = k at a4
  obtain ⟨t', b, b', hq, hb⟩ := copies_loop0 200 x3 w i r k a1.1 a1.2 a2.1 a2.2 a3.1 a3.2 a4.2 (200 + 24) 0 ((w, (i, r)), (false, (0, (false, (([] : List (List UInt8)), 0))))) ((0, (0, 0)), (false, (0, (false, (([] : List (List UInt8)), 0))))) (by omega) a4.1 (by omega) (.inl ⟨rfl, rfl⟩)
  have b1 : decide (w ≥ 0) = true := decide_eq_true (by omega)
  have b2 : decide (w ≤ 1048576) = true := decide_eq_true (by omega)
  have b3 : decide (i ≥ 1) = true := decide_eq_true (by omega)
  have b4 : decide (i ≤ 1048576) = true := decide_eq_true (by omega)
  have b5 : decide (r ≥ 1) = true := decide_eq_true (by omega)
  have b6 : decide (r ≤ 1048576) = true := decide_eq_true (by omega)
  have c0 : ((1 : Nat) == 0) = false := rfl
  have c1 : ((1 : Nat) == 1) = true := rfl
  simp only [b1, b2, b3, b4, b5, b6, l6_0R, hq, hb, c0, c1, ↓reduceIte, Option.isSome_some, Option.getD_some, Bool.false_eq_true]
theorem copies_law (x0 x1 x2 : Int) (x3 : List Int) (x4 : Int) : ∃ g B', CallAt Try.prog 6 g ∧ (g [argAV false (.int .i64) x0, argAV false (.int .i64) x1, argAV false (.int .i64) x2, argAV false (.sl (.int .i64)) x3, argAV false (.int .i64) x4] []).run = some (.d (.bool true), B') := copies_at x0 x1 x2 x3 x4 (copies_pure x0 x1 x2 x3 x4)

end Go.Proofs.Ytkppbflmlpabjab.Dec
