/- GroupTells, as a plain function. -/
import Derived.Test.YtkppbflmlpabjabQ6
import Derived.KernelRfl
namespace Go.Proofs.Ytkppbflmlpabjab.Dec
open Go.Ev
set_option linter.unusedVariables false
set_option linter.unusedSimpArgs false
set_option maxRecDepth 100000
set_option maxHeartbeats 20000000 in
theorem l5_0_w20 (m n : Nat) (x3 : List Int) (x4 : List Int) (x5 : Bool) (s19 : Int) (s20 : Int) (b0 : (Int × Int × Int) × Bool × Int × Bool × (List (List UInt8)) × Int) (b1 : (Int × Int × Int) × Int × Int × Int × (List (List UInt8)) × (List (List UInt8))) (r : AEx × Env × Boxes) (c0 : decide (s20 < (((List.length x3) : Nat) : Int)) = true) (c5 : decide (s20 < (((List.length x4) : Nat) : Int)) = true) (c8 : decide (s20 < 40) = true) (c9 : decide (0 ≤ s20) = true) (c17 : decide (List.length (l5_0_k4 x4 s20) ≤ 1000000) = true) (c18 : (decide (0 ≤ (l5_0_k13 x4 s20)) && decide (l5_0_k19 x4 s20)) = true) (c19 : tickPre b0 (l5_0_k3 x3 s19 s20) (l5_0_k18 x4 s20) = true) (c20 : rtickPre b1 (l5_0_k3 x3 s19 s20) (l5_0_k4 x4 s20) = true) (c21 : (l5_0_k2 x3 x4 s19 s20 b1).2.2 = true) (c22 : (l5_0_k20 x3 x4 s19 s20 b0 b1) = true) (c26 : decide (l5_0_k24 x3 x4 s19 s20 b0) = true) (c29 : ((show List (List UInt8) from (l5_0_k10 x3 x4 s19 s20 b0)) == (l5_0_k2 x3 x4 s19 s20 b1).2.1) = true) (c32 : decide (l5_0_k16 x4 s20) = true) (c35 : (l5_0_k21 x4 s20) = true) (c42 : ((!(l5_0_k1 x3 x4 s19 s20 b0).2.2.2.1) == decide (l5_0_k23 x3 x4 s19 s20 b1)) = true) (c46 : ¬ decide ((l5_0_k2 x3 x4 s19 s20 b1).1.2.1 ≥ 0) = true) (c58 : ¬ decide (l5_0_k23 x3 x4 s19 s20 b1) = true) (c65 : (Option.isSome (l5_0_k7 x3 x4 x5 s19 s20 b0 b1 m)) = true) (c66 : ¬ x5 = true) (ih : (turns (hds 5 1769528) 0 1769528 (evC byref (evCall F S13 (m + 24)) (m + 24) 0 (hds 5) lbl5_0) n (l5_0_k11 x3 x4 x5 s19 s20 b0 b1) (l5_0_k12 x3 x4 x5 s19 s20 b0 b1)).run = some r) : (turns (hds 5 1769528) 0 1769528 (evC byref (evCall F S13 (m + 24)) (m + 24) 0 (hds 5) lbl5_0) (n + 1) (l5_0_k70 x3 x4 x5 s19 s20 b0 b1) (l5_0B x3 x4 x5 s19 s20 b0 b1)).run = some r := by
  have ht : (turn (hds 5 1769528) 0 1769528 (evC byref (evCall F S13 (m + 24)) (m + 24) 0 (hds 5) lbl5_0) (l5_0_k70 x3 x4 x5 s19 s20 b0 b1) (l5_0B x3 x4 x5 s19 s20 b0 b1)).run = some (.normal, l5_0H x3 x4 x5 (((l5_0_k3 x3 s19 s20))) (l5_0_k25 s20) ((l5_0_k8 x3 x4 s19 s20 b0)) ((l5_0_k15 x3 x4 s19 s20 b1)), l5_0B x3 x4 x5 (((l5_0_k3 x3 s19 s20))) (l5_0_k25 s20) ((l5_0_k8 x3 x4 s19 s20 b0)) ((l5_0_k15 x3 x4 s19 s20 b1))) := by
    refine turnT_ok (LS := (fun k => if k = 4597486622597666575075041081450927550856217366560964664 then some (l5_0_k5 x3 x4 x5 s19 s20 b0 b1 m) else none)) (vis := [(4597486622597666575075041081450927550856217366560964664, l5_1H x3 x4 x5 s20 ((l5_0_k3 x3 s19 s20)) (l5_0_k14 x3 x4 s19 s20 b0) 0 (l5_0_k8 x3 x4 s19 s20 b0) (l5_0_k15 x3 x4 s19 s20 b1) (l5_0_k22 x3 x4 s19 s20 b0), l5_1B x3 x4 x5 s20 ((l5_0_k3 x3 s19 s20)) (l5_0_k14 x3 x4 s19 s20 b0) 0 (l5_0_k8 x3 x4 s19 s20 b0) (l5_0_k15 x3 x4 s19 s20 b1) (l5_0_k22 x3 x4 s19 s20 b0))]) (by kernel_rfl) (M.run_of_path _ [true, true, true, true, true, true, true, true, true, true, true, true, true, true, true, true, true, true, true, true, true, false, false, false, false, true, true, false, false, false, false, false, true, false, false, false, false, false, false, false, false, false, false, false, false, false, false, false, false, false, false, false, false, false, false, false, false, false, false, false, false, false, false, false, false, false, false, false, false, false] _ _ (by kernel_rfl) (all_t c0 (all_t c0 (all_t c0 (all_t c0 (all_t c0 (all_t c5 (all_t c5 (all_t c5 (all_t c8 (all_t c9 (all_t c0 (all_t rfl (all_t c9 (all_t c5 (all_t rfl (all_t rfl (all_t rfl (all_t c17 (all_t c18 (all_t c19 (all_t c20 (all_nt c21 (all_nt c22 (all_nt c22 (all_nt c22 (all_t (show decide ((0 + (l5_0_k6 x3 x4 s19 s20 b0)) ≤ (l5_0_k6 x3 x4 s19 s20 b0)) = true from decide_eq_true (Nat.le_of_eq (Nat.zero_add _))) (all_t c26 (all_nt c22 (all_nt c22 (all_nt c29 (all_nt c29 (all_nt c29 (all_t c32 (all_nt c29 (all_nt c29 (all_nt c35 (all_nt c35 (all_nt c35 (all_nt c35 (all_nt c35 (all_nt c35 (all_nt c35 (all_nt c42 (all_nt c42 (all_nt c42 (all_nt c42 (all_f c46 (all_f c46 (all_f c46 (all_f c46 (all_f c46 (all_nt c42 (all_f c46 (all_nt c42 (all_f Bool.false_ne_true (all_f Bool.false_ne_true (all_f Bool.false_ne_true (all_f Bool.false_ne_true (all_f c58 (all_f c58 (all_f c58 (all_f Bool.false_ne_true (all_f c58 (all_f Bool.false_ne_true (all_f Bool.false_ne_true (all_f c66 (all_f c66 (all_f c66 (all_f c66 (all_f Bool.false_ne_true all_nil))))))))))))))))))))))))))))))))))))))))))))))))))))))))))))))))))))))) ?_
    intro p hp p2 hq
    rcases List.mem_cons.1 hp with rfl | hp
    · skip
      have h3 := l5_1_ok m (m + 24) x3 x4 x5 s20 ((l5_0_k3 x3 s19 s20)) (l5_0_k14 x3 x4 s19 s20 b0) 0 (l5_0_k8 x3 x4 s19 s20 b0) (l5_0_k15 x3 x4 s19 s20 b1) (l5_0_k22 x3 x4 s19 s20 b0) _ (some_getD (d := l5_1D) c65)
      exact Eq.trans (Eq.mp (by kernel_rfl) h3) hq
    cases hp
  exact turns_step ht ih
set_option maxHeartbeats 20000000 in
theorem l5_0_w21 (m n : Nat) (x3 : List Int) (x4 : List Int) (x5 : Bool) (s19 : Int) (s20 : Int) (b0 : (Int × Int × Int) × Bool × Int × Bool × (List (List UInt8)) × Int) (b1 : (Int × Int × Int) × Int × Int × Int × (List (List UInt8)) × (List (List UInt8))) (r : AEx × Env × Boxes) (c0 : decide (s20 < (((List.length x3) : Nat) : Int)) = true) (c5 : decide (s20 < (((List.length x4) : Nat) : Int)) = true) (c8 : decide (s20 < 40) = true) (c9 : decide (0 ≤ s20) = true) (c17 : decide (List.length (l5_0_k4 x4 s20) ≤ 1000000) = true) (c18 : (decide (0 ≤ (l5_0_k13 x4 s20)) && decide (l5_0_k19 x4 s20)) = true) (c19 : tickPre b0 (l5_0_k3 x3 s19 s20) (l5_0_k18 x4 s20) = true) (c20 : rtickPre b1 (l5_0_k3 x3 s19 s20) (l5_0_k4 x4 s20) = true) (c21 : ¬ (l5_0_k2 x3 x4 s19 s20 b1).2.2 = true) (c22 : (l5_0_k20 x3 x4 s19 s20 b0 b1) = true) (c27 : decide (l5_0_k24 x3 x4 s19 s20 b0) = true) (c30 : ((show List (List UInt8) from (l5_0_k10 x3 x4 s19 s20 b0)) == ([] : List (List UInt8))) = true) (c33 : decide (l5_0_k16 x4 s20) = true) (c36 : (l5_0_k21 x4 s20) = true) (c43 : ((!(l5_0_k1 x3 x4 s19 s20 b0).2.2.2.1) == decide (l5_0_k23 x3 x4 s19 s20 b1)) = true) (c47 : decide ((l5_0_k2 x3 x4 s19 s20 b1).1.2.1 ≥ 0) = true) (c49 : (l5_0_k1 x3 x4 s19 s20 b0).2.2.2.1 = true) (c56 : ¬ ((l5_0_k1 x3 x4 s19 s20 b0).2.2.2.2.1 != (l5_0_k2 x3 x4 s19 s20 b1).1.2.2.1) = true) (c60 : decide (l5_0_k23 x3 x4 s19 s20 b1) = true) (c67 : ¬ ((l5_0_k1 x3 x4 s19 s20 b0).2.2.2.2.1 != (-1)) = true) (c68 : (Option.isSome (l5_0_k7 x3 x4 x5 s19 s20 b0 b1 m)) = true) (c69 : x5 = true) (c73 : (l5_0_k17 s20) = true) (c74 : decide ((List.length (l5_0_k8 x3 x4 s19 s20 b0).2.2.2.2.1 * 16) ≤ 70368744177664) = true) (c77 : tickPre (l5_0_k8 x3 x4 s19 s20 b0) (IntKind.wrap .i64 (((l5_0_k3 x3 s19 s20)) + (1))) [([122, 122] : List UInt8)] = true) (ih : (turns (hds 5 1769528) 0 1769528 (evC byref (evCall F S13 (m + 24)) (m + 24) 0 (hds 5) lbl5_0) n (l5_0_k11 x3 x4 x5 s19 s20 b0 b1) (l5_0_k12 x3 x4 x5 s19 s20 b0 b1)).run = some r) : (turns (hds 5 1769528) 0 1769528 (evC byref (evCall F S13 (m + 24)) (m + 24) 0 (hds 5) lbl5_0) (n + 1) (l5_0_k70 x3 x4 x5 s19 s20 b0 b1) (l5_0B x3 x4 x5 s19 s20 b0 b1)).run = some r := by
  have ht : (turn (hds 5 1769528) 0 1769528 (evC byref (evCall F S13 (m + 24)) (m + 24) 0 (hds 5) lbl5_0) (l5_0_k70 x3 x4 x5 s19 s20 b0 b1) (l5_0B x3 x4 x5 s19 s20 b0 b1)).run = some (.normal, l5_0H x3 x4 x5 (((l5_0_k3 x3 s19 s20))) (l5_0_k25 s20) ((l5_0_k8 x3 x4 s19 s20 b0)) ((l5_0_k15 x3 x4 s19 s20 b1)), l5_0B x3 x4 x5 (((l5_0_k3 x3 s19 s20))) (l5_0_k25 s20) ((l5_0_k8 x3 x4 s19 s20 b0)) ((l5_0_k15 x3 x4 s19 s20 b1))) := by
    refine turnT_ok (LS := (fun k => if k = 4597486622597666575075041081450927550856217366560964664 then some (l5_0_k5 x3 x4 x5 s19 s20 b0 b1 m) else none)) (vis := [(4597486622597666575075041081450927550856217366560964664, l5_1H x3 x4 x5 s20 ((l5_0_k3 x3 s19 s20)) (l5_0_k14 x3 x4 s19 s20 b0) 0 (l5_0_k8 x3 x4 s19 s20 b0) (l5_0_k15 x3 x4 s19 s20 b1) (l5_0_k22 x3 x4 s19 s20 b0), l5_1B x3 x4 x5 s20 ((l5_0_k3 x3 s19 s20)) (l5_0_k14 x3 x4 s19 s20 b0) 0 (l5_0_k8 x3 x4 s19 s20 b0) (l5_0_k15 x3 x4 s19 s20 b1) (l5_0_k22 x3 x4 s19 s20 b0))]) (by kernel_rfl) (M.run_of_path _ [true, true, true, true, true, true, true, true, true, true, true, true, true, true, true, true, true, true, true, true, true, true, false, false, false, true, true, true, false, false, false, false, false, true, false, false, false, false, false, false, false, false, false, false, false, false, false, true, true, false, true, true, true, false, true, false, false, false, false, false, true, true, false, true, false, true, false, false, true, true, true, true, true, true, false, true, true] _ _ (by kernel_rfl) (all_t c0 (all_t c0 (all_t c0 (all_t c0 (all_t c0 (all_t c5 (all_t c5 (all_t c5 (all_t c8 (all_t c9 (all_t c0 (all_t rfl (all_t c9 (all_t c5 (all_t rfl (all_t rfl (all_t rfl (all_t c17 (all_t c18 (all_t c19 (all_t c20 (all_nf c21 (all_nt c22 (all_nt c22 (all_nt c22 (all_t (show decide ((0 + (l5_0_k6 x3 x4 s19 s20 b0)) ≤ (l5_0_k6 x3 x4 s19 s20 b0)) = true from decide_eq_true (Nat.le_of_eq (Nat.zero_add _))) (all_t rfl (all_t c27 (all_nt c22 (all_nt c22 (all_nt c30 (all_nt c30 (all_nt c30 (all_t c33 (all_nt c30 (all_nt c30 (all_nt c36 (all_nt c36 (all_nt c36 (all_nt c36 (all_nt c36 (all_nt c36 (all_nt c36 (all_nt c43 (all_nt c43 (all_nt c43 (all_nt c43 (all_t c47 (all_t c47 (all_nt c49 (all_t c47 (all_t c47 (all_t c47 (all_nt c43 (all_t c47 (all_nt c43 (all_f c56 (all_f c56 (all_f c56 (all_f c56 (all_t c60 (all_t c60 (all_nt c49 (all_t c60 (all_f c56 (all_t c60 (all_f c56 (all_f c67 (all_t c69 (all_t c69 (all_t c69 (all_t c69 (all_t c73 (all_t c74 (all_f Bool.false_ne_true (all_t rfl (all_t c77 all_nil)))))))))))))))))))))))))))))))))))))))))))))))))))))))))))))))))))))))))))))) ?_
    intro p hp p2 hq
    rcases List.mem_cons.1 hp with rfl | hp
    · skip
      have h3 := l5_1_ok m (m + 24) x3 x4 x5 s20 ((l5_0_k3 x3 s19 s20)) (l5_0_k14 x3 x4 s19 s20 b0) 0 (l5_0_k8 x3 x4 s19 s20 b0) (l5_0_k15 x3 x4 s19 s20 b1) (l5_0_k22 x3 x4 s19 s20 b0) _ (some_getD (d := l5_1D) c68)
      exact Eq.trans (Eq.mp (by kernel_rfl) h3) hq
    cases hp
  exact turns_step ht ih
set_option maxHeartbeats 20000000 in
theorem l5_0_w22 (m n : Nat) (x3 : List Int) (x4 : List Int) (x5 : Bool) (s19 : Int) (s20 : Int) (b0 : (Int × Int × Int) × Bool × Int × Bool × (List (List UInt8)) × Int) (b1 : (Int × Int × Int) × Int × Int × Int × (List (List UInt8)) × (List (List UInt8))) (r : AEx × Env × Boxes) (c0 : decide (s20 < (((List.length x3) : Nat) : Int)) = true) (c5 : decide (s20 < (((List.length x4) : Nat) : Int)) = true) (c8 : decide (s20 < 40) = true) (c9 : decide (0 ≤ s20) = true) (c17 : decide (List.length (l5_0_k4 x4 s20) ≤ 1000000) = true) (c18 : (decide (0 ≤ (l5_0_k13 x4 s20)) && decide (l5_0_k19 x4 s20)) = true) (c19 : tickPre b0 (l5_0_k3 x3 s19 s20) (l5_0_k18 x4 s20) = true) (c20 : rtickPre b1 (l5_0_k3 x3 s19 s20) (l5_0_k4 x4 s20) = true) (c21 : ¬ (l5_0_k2 x3 x4 s19 s20 b1).2.2 = true) (c22 : (l5_0_k20 x3 x4 s19 s20 b0 b1) = true) (c27 : decide (l5_0_k24 x3 x4 s19 s20 b0) = true) (c30 : ((show List (List UInt8) from (l5_0_k10 x3 x4 s19 s20 b0)) == ([] : List (List UInt8))) = true) (c33 : decide (l5_0_k16 x4 s20) = true) (c36 : (l5_0_k21 x4 s20) = true) (c43 : ((!(l5_0_k1 x3 x4 s19 s20 b0).2.2.2.1) == decide (l5_0_k23 x3 x4 s19 s20 b1)) = true) (c47 : decide ((l5_0_k2 x3 x4 s19 s20 b1).1.2.1 ≥ 0) = true) (c49 : (l5_0_k1 x3 x4 s19 s20 b0).2.2.2.1 = true) (c56 : ¬ ((l5_0_k1 x3 x4 s19 s20 b0).2.2.2.2.1 != (l5_0_k2 x3 x4 s19 s20 b1).1.2.2.1) = true) (c60 : decide (l5_0_k23 x3 x4 s19 s20 b1) = true) (c67 : ¬ ((l5_0_k1 x3 x4 s19 s20 b0).2.2.2.2.1 != (-1)) = true) (c68 : (Option.isSome (l5_0_k7 x3 x4 x5 s19 s20 b0 b1 m)) = true) (c69 : x5 = true) (c73 : ¬ (l5_0_k17 s20) = true) (ih : (turns (hds 5 1769528) 0 1769528 (evC byref (evCall F S13 (m + 24)) (m + 24) 0 (hds 5) lbl5_0) n (l5_0_k11 x3 x4 x5 s19 s20 b0 b1) (l5_0_k12 x3 x4 x5 s19 s20 b0 b1)).run = some r) : (turns (hds 5 1769528) 0 1769528 (evC byref (evCall F S13 (m + 24)) (m + 24) 0 (hds 5) lbl5_0) (n + 1) (l5_0_k70 x3 x4 x5 s19 s20 b0 b1) (l5_0B x3 x4 x5 s19 s20 b0 b1)).run = some r := by
  have ht : (turn (hds 5 1769528) 0 1769528 (evC byref (evCall F S13 (m + 24)) (m + 24) 0 (hds 5) lbl5_0) (l5_0_k70 x3 x4 x5 s19 s20 b0 b1) (l5_0B x3 x4 x5 s19 s20 b0 b1)).run = some (.normal, l5_0H x3 x4 x5 (((l5_0_k3 x3 s19 s20))) (l5_0_k25 s20) ((l5_0_k8 x3 x4 s19 s20 b0)) ((l5_0_k15 x3 x4 s19 s20 b1)), l5_0B x3 x4 x5 (((l5_0_k3 x3 s19 s20))) (l5_0_k25 s20) ((l5_0_k8 x3 x4 s19 s20 b0)) ((l5_0_k15 x3 x4 s19 s20 b1))) := by
    refine turnT_ok (LS := (fun k => if k = 4597486622597666575075041081450927550856217366560964664 then some (l5_0_k5 x3 x4 x5 s19 s20 b0 b1 m) else none)) (vis := [(4597486622597666575075041081450927550856217366560964664, l5_1H x3 x4 x5 s20 ((l5_0_k3 x3 s19 s20)) (l5_0_k14 x3 x4 s19 s20 b0) 0 (l5_0_k8 x3 x4 s19 s20 b0) (l5_0_k15 x3 x4 s19 s20 b1) (l5_0_k22 x3 x4 s19 s20 b0), l5_1B x3 x4 x5 s20 ((l5_0_k3 x3 s19 s20)) (l5_0_k14 x3 x4 s19 s20 b0) 0 (l5_0_k8 x3 x4 s19 s20 b0) (l5_0_k15 x3 x4 s19 s20 b1) (l5_0_k22 x3 x4 s19 s20 b0))]) (by kernel_rfl) (M.run_of_path _ [true, true, true, true, true, true, true, true, true, true, true, true, true, true, true, true, true, true, true, true, true, true, false, false, false, true, true, true, false, false, false, false, false, true, false, false, false, false, false, false, false, false, false, false, false, false, false, true, true, false, true, true, true, false, true, false, false, false, false, false, true, true, false, true, false, true, false, false, true, true, true, true, false] _ _ (by kernel_rfl) (all_t c0 (all_t c0 (all_t c0 (all_t c0 (all_t c0 (all_t c5 (all_t c5 (all_t c5 (all_t c8 (all_t c9 (all_t c0 (all_t rfl (all_t c9 (all_t c5 (all_t rfl (all_t rfl (all_t rfl (all_t c17 (all_t c18 (all_t c19 (all_t c20 (all_nf c21 (all_nt c22 (all_nt c22 (all_nt c22 (all_t (show decide ((0 + (l5_0_k6 x3 x4 s19 s20 b0)) ≤ (l5_0_k6 x3 x4 s19 s20 b0)) = true from decide_eq_true (Nat.le_of_eq (Nat.zero_add _))) (all_t rfl (all_t c27 (all_nt c22 (all_nt c22 (all_nt c30 (all_nt c30 (all_nt c30 (all_t c33 (all_nt c30 (all_nt c30 (all_nt c36 (all_nt c36 (all_nt c36 (all_nt c36 (all_nt c36 (all_nt c36 (all_nt c36 (all_nt c43 (all_nt c43 (all_nt c43 (all_nt c43 (all_t c47 (all_t c47 (all_nt c49 (all_t c47 (all_t c47 (all_t c47 (all_nt c43 (all_t c47 (all_nt c43 (all_f c56 (all_f c56 (all_f c56 (all_f c56 (all_t c60 (all_t c60 (all_nt c49 (all_t c60 (all_f c56 (all_t c60 (all_f c56 (all_f c67 (all_t c69 (all_t c69 (all_t c69 (all_t c69 (all_f c73 all_nil)))))))))))))))))))))))))))))))))))))))))))))))))))))))))))))))))))))))))) ?_
    intro p hp p2 hq
    rcases List.mem_cons.1 hp with rfl | hp
    · skip
      have h3 := l5_1_ok m (m + 24) x3 x4 x5 s20 ((l5_0_k3 x3 s19 s20)) (l5_0_k14 x3 x4 s19 s20 b0) 0 (l5_0_k8 x3 x4 s19 s20 b0) (l5_0_k15 x3 x4 s19 s20 b1) (l5_0_k22 x3 x4 s19 s20 b0) _ (some_getD (d := l5_1D) c68)
      exact Eq.trans (Eq.mp (by kernel_rfl) h3) hq
    cases hp
  exact turns_step ht ih
set_option maxHeartbeats 20000000 in
theorem l5_0_w23 (m n : Nat) (x3 : List Int) (x4 : List Int) (x5 : Bool) (s19 : Int) (s20 : Int) (b0 : (Int × Int × Int) × Bool × Int × Bool × (List (List UInt8)) × Int) (b1 : (Int × Int × Int) × Int × Int × Int × (List (List UInt8)) × (List (List UInt8))) (r : AEx × Env × Boxes) (c0 : decide (s20 < (((List.length x3) : Nat) : Int)) = true) (c5 : decide (s20 < (((List.length x4) : Nat) : Int)) = true) (c8 : decide (s20 < 40) = true) (c9 : decide (0 ≤ s20) = true) (c17 : decide (List.length (l5_0_k4 x4 s20) ≤ 1000000) = true) (c18 : (decide (0 ≤ (l5_0_k13 x4 s20)) && decide (l5_0_k19 x4 s20)) = true) (c19 : tickPre b0 (l5_0_k3 x3 s19 s20) (l5_0_k18 x4 s20) = true) (c20 : rtickPre b1 (l5_0_k3 x3 s19 s20) (l5_0_k4 x4 s20) = true) (c21 : ¬ (l5_0_k2 x3 x4 s19 s20 b1).2.2 = true) (c22 : (l5_0_k20 x3 x4 s19 s20 b0 b1) = true) (c27 : decide (l5_0_k24 x3 x4 s19 s20 b0) = true) (c30 : ((show List (List UInt8) from (l5_0_k10 x3 x4 s19 s20 b0)) == ([] : List (List UInt8))) = true) (c33 : decide (l5_0_k16 x4 s20) = true) (c36 : (l5_0_k21 x4 s20) = true) (c43 : ((!(l5_0_k1 x3 x4 s19 s20 b0).2.2.2.1) == decide (l5_0_k23 x3 x4 s19 s20 b1)) = true) (c47 : decide ((l5_0_k2 x3 x4 s19 s20 b1).1.2.1 ≥ 0) = true) (c49 : (l5_0_k1 x3 x4 s19 s20 b0).2.2.2.1 = true) (c56 : ¬ ((l5_0_k1 x3 x4 s19 s20 b0).2.2.2.2.1 != (l5_0_k2 x3 x4 s19 s20 b1).1.2.2.1) = true) (c60 : decide (l5_0_k23 x3 x4 s19 s20 b1) = true) (c67 : ¬ ((l5_0_k1 x3 x4 s19 s20 b0).2.2.2.2.1 != (-1)) = true) (c68 : (Option.isSome (l5_0_k7 x3 x4 x5 s19 s20 b0 b1 m)) = true) (c69 : ¬ x5 = true) (ih : (turns (hds 5 1769528) 0 1769528 (evC byref (evCall F S13 (m + 24)) (m + 24) 0 (hds 5) lbl5_0) n (l5_0_k11 x3 x4 x5 s19 s20 b0 b1) (l5_0_k12 x3 x4 x5 s19 s20 b0 b1)).run = some r) : (turns (hds 5 1769528) 0 1769528 (evC byref (evCall F S13 (m + 24)) (m + 24) 0 (hds 5) lbl5_0) (n + 1) (l5_0_k70 x3 x4 x5 s19 s20 b0 b1) (l5_0B x3 x4 x5 s19 s20 b0 b1)).run = some r := by
  have ht : (turn (hds 5 1769528) 0 1769528 (evC byref (evCall F S13 (m + 24)) (m + 24) 0 (hds 5) lbl5_0) (l5_0_k70 x3 x4 x5 s19 s20 b0 b1) (l5_0B x3 x4 x5 s19 s20 b0 b1)).run = some (.normal, l5_0H x3 x4 x5 (((l5_0_k3 x3 s19 s20))) (l5_0_k25 s20) ((l5_0_k8 x3 x4 s19 s20 b0)) ((l5_0_k15 x3 x4 s19 s20 b1)), l5_0B x3 x4 x5 (((l5_0_k3 x3 s19 s20))) (l5_0_k25 s20) ((l5_0_k8 x3 x4 s19 s20 b0)) ((l5_0_k15 x3 x4 s19 s20 b1))) := by
    refine turnT_ok (LS := (fun k => if k = 4597486622597666575075041081450927550856217366560964664 then some (l5_0_k5 x3 x4 x5 s19 s20 b0 b1 m) else none)) (vis := [(4597486622597666575075041081450927550856217366560964664, l5_1H x3 x4 x5 s20 ((l5_0_k3 x3 s19 s20)) (l5_0_k14 x3 x4 s19 s20 b0) 0 (l5_0_k8 x3 x4 s19 s20 b0) (l5_0_k15 x3 x4 s19 s20 b1) (l5_0_k22 x3 x4 s19 s20 b0), l5_1B x3 x4 x5 s20 ((l5_0_k3 x3 s19 s20)) (l5_0_k14 x3 x4 s19 s20 b0) 0 (l5_0_k8 x3 x4 s19 s20 b0) (l5_0_k15 x3 x4 s19 s20 b1) (l5_0_k22 x3 x4 s19 s20 b0))]) (by kernel_rfl) (M.run_of_path _ [true, true, true, true, true, true, true, true, true, true, true, true, true, true, true, true, true, true, true, true, true, true, false, false, false, true, true, true, false, false, false, false, false, true, false, false, false, false, false, false, false, false, false, false, false, false, false, true, true, false, true, true, true, false, true, false, false, false, false, false, true, true, false, true, false, true, false, false, false, false, false, false, false] _ _ (by kernel_rfl) (all_t c0 (all_t c0 (all_t c0 (all_t c0 (all_t c0 (all_t c5 (all_t c5 (all_t c5 (all_t c8 (all_t c9 (all_t c0 (all_t rfl (all_t c9 (all_t c5 (all_t rfl (all_t rfl (all_t rfl (all_t c17 (all_t c18 (all_t c19 (all_t c20 (all_nf c21 (all_nt c22 (all_nt c22 (all_nt c22 (all_t (show decide ((0 + (l5_0_k6 x3 x4 s19 s20 b0)) ≤ (l5_0_k6 x3 x4 s19 s20 b0)) = true from decide_eq_true (Nat.le_of_eq (Nat.zero_add _))) (all_t rfl (all_t c27 (all_nt c22 (all_nt c22 (all_nt c30 (all_nt c30 (all_nt c30 (all_t c33 (all_nt c30 (all_nt c30 (all_nt c36 (all_nt c36 (all_nt c36 (all_nt c36 (all_nt c36 (all_nt c36 (all_nt c36 (all_nt c43 (all_nt c43 (all_nt c43 (all_nt c43 (all_t c47 (all_t c47 (all_nt c49 (all_t c47 (all_t c47 (all_t c47 (all_nt c43 (all_t c47 (all_nt c43 (all_f c56 (all_f c56 (all_f c56 (all_f c56 (all_t c60 (all_t c60 (all_nt c49 (all_t c60 (all_f c56 (all_t c60 (all_f c56 (all_f c67 (all_f c69 (all_f c69 (all_f c69 (all_f c69 (all_f Bool.false_ne_true all_nil)))))))))))))))))))))))))))))))))))))))))))))))))))))))))))))))))))))))))) ?_
    intro p hp p2 hq
    rcases List.mem_cons.1 hp with rfl | hp
    · skip
      have h3 := l5_1_ok m (m + 24) x3 x4 x5 s20 ((l5_0_k3 x3 s19 s20)) (l5_0_k14 x3 x4 s19 s20 b0) 0 (l5_0_k8 x3 x4 s19 s20 b0) (l5_0_k15 x3 x4 s19 s20 b1) (l5_0_k22 x3 x4 s19 s20 b0) _ (some_getD (d := l5_1D) c68)
      exact Eq.trans (Eq.mp (by kernel_rfl) h3) hq
    cases hp
  exact turns_step ht ih
set_option maxHeartbeats 20000000 in
theorem l5_0_w24 (m n : Nat) (x3 : List Int) (x4 : List Int) (x5 : Bool) (s19 : Int) (s20 : Int) (b0 : (Int × Int × Int) × Bool × Int × Bool × (List (List UInt8)) × Int) (b1 : (Int × Int × Int) × Int × Int × Int × (List (List UInt8)) × (List (List UInt8))) (r : AEx × Env × Boxes) (c0 : decide (s20 < (((List.length x3) : Nat) : Int)) = true) (c5 : decide (s20 < (((List.length x4) : Nat) : Int)) = true) (c8 : decide (s20 < 40) = true) (c9 : decide (0 ≤ s20) = true) (c17 : decide (List.length (l5_0_k4 x4 s20) ≤ 1000000) = true) (c18 : (decide (0 ≤ (l5_0_k13 x4 s20)) && decide (l5_0_k19 x4 s20)) = true) (c19 : tickPre b0 (l5_0_k3 x3 s19 s20) (l5_0_k18 x4 s20) = true) (c20 : rtickPre b1 (l5_0_k3 x3 s19 s20) (l5_0_k4 x4 s20) = true) (c21 : ¬ (l5_0_k2 x3 x4 s19 s20 b1).2.2 = true) (c22 : (l5_0_k20 x3 x4 s19 s20 b0 b1) = true) (c27 : decide (l5_0_k24 x3 x4 s19 s20 b0) = true) (c30 : ((show List (List UInt8) from (l5_0_k10 x3 x4 s19 s20 b0)) == ([] : List (List UInt8))) = true) (c33 : decide (l5_0_k16 x4 s20) = true) (c36 : (l5_0_k21 x4 s20) = true) (c43 : ((!(l5_0_k1 x3 x4 s19 s20 b0).2.2.2.1) == decide (l5_0_k23 x3 x4 s19 s20 b1)) = true) (c47 : decide ((l5_0_k2 x3 x4 s19 s20 b1).1.2.1 ≥ 0) = true) (c49 : (l5_0_k1 x3 x4 s19 s20 b0).2.2.2.1 = true) (c56 : ¬ ((l5_0_k1 x3 x4 s19 s20 b0).2.2.2.2.1 != (l5_0_k2 x3 x4 s19 s20 b1).1.2.2.1) = true) (c60 : ¬ decide (l5_0_k23 x3 x4 s19 s20 b1) = true) (c67 : (Option.isSome (l5_0_k7 x3 x4 x5 s19 s20 b0 b1 m)) = true) (c68 : x5 = true) (c72 : (l5_0_k17 s20) = true) (c73 : decide ((List.length (l5_0_k8 x3 x4 s19 s20 b0).2.2.2.2.1 * 16) ≤ 70368744177664) = true) (c76 : tickPre (l5_0_k8 x3 x4 s19 s20 b0) (IntKind.wrap .i64 (((l5_0_k3 x3 s19 s20)) + (1))) [([122, 122] : List UInt8)] = true) (ih : (turns (hds 5 1769528) 0 1769528 (evC byref (evCall F S13 (m + 24)) (m + 24) 0 (hds 5) lbl5_0) n (l5_0_k11 x3 x4 x5 s19 s20 b0 b1) (l5_0_k12 x3 x4 x5 s19 s20 b0 b1)).run = some r) : (turns (hds 5 1769528) 0 1769528 (evC byref (evCall F S13 (m + 24)) (m + 24) 0 (hds 5) lbl5_0) (n + 1) (l5_0_k70 x3 x4 x5 s19 s20 b0 b1) (l5_0B x3 x4 x5 s19 s20 b0 b1)).run = some r := by
  have ht : (turn (hds 5 1769528) 0 1769528 (evC byref (evCall F S13 (m + 24)) (m + 24) 0 (hds 5) lbl5_0) (l5_0_k70 x3 x4 x5 s19 s20 b0 b1) (l5_0B x3 x4 x5 s19 s20 b0 b1)).run = some (.normal, l5_0H x3 x4 x5 (((l5_0_k3 x3 s19 s20))) (l5_0_k25 s20) ((l5_0_k8 x3 x4 s19 s20 b0)) ((l5_0_k15 x3 x4 s19 s20 b1)), l5_0B x3 x4 x5 (((l5_0_k3 x3 s19 s20))) (l5_0_k25 s20) ((l5_0_k8 x3 x4 s19 s20 b0)) ((l5_0_k15 x3 x4 s19 s20 b1))) := by
    refine turnT_ok (LS := (fun k => if k = 4597486622597666575075041081450927550856217366560964664 then some (l5_0_k5 x3 x4 x5 s19 s20 b0 b1 m) else none)) (vis := [(4597486622597666575075041081450927550856217366560964664, l5_1H x3 x4 x5 s20 ((l5_0_k3 x3 s19 s20)) (l5_0_k14 x3 x4 s19 s20 b0) 0 (l5_0_k8 x3 x4 s19 s20 b0) (l5_0_k15 x3 x4 s19 s20 b1) (l5_0_k22 x3 x4 s19 s20 b0), l5_1B x3 x4 x5 s20 ((l5_0_k3 x3 s19 s20)) (l5_0_k14 x3 x4 s19 s20 b0) 0 (l5_0_k8 x3 x4 s19 s20 b0) (l5_0_k15 x3 x4 s19 s20 b1) (l5_0_k22 x3 x4 s19 s20 b0))]) (by kernel_rfl) (M.run_of_path _ [true, true, true, true, true, true, true, true, true, true, true, true, true, true, true, true, true, true, true, true, true, true, false, false, false, true, true, true, false, false, false, false, false, true, false, false, false, false, false, false, false, false, false, false, false, false, false, true, true, false, true, true, true, false, true, false, false, false, false, false, false, false, false, false, false, false, false, true, true, true, true, true, true, false, true, true] _ _ (by kernel_rfl) (all_t c0 (all_t c0 (all_t c0 (all_t c0 (all_t c0 (all_t c5 (all_t c5 (all_t c5 (all_t c8 (all_t c9 (all_t c0 (all_t rfl (all_t c9 (all_t c5 (all_t rfl (all_t rfl (all_t rfl (all_t c17 (all_t c18 (all_t c19 (all_t c20 (all_nf c21 (all_nt c22 (all_nt c22 (all_nt c22 (all_t (show decide ((0 + (l5_0_k6 x3 x4 s19 s20 b0)) ≤ (l5_0_k6 x3 x4 s19 s20 b0)) = true from decide_eq_true (Nat.le_of_eq (Nat.zero_add _))) (all_t rfl (all_t c27 (all_nt c22 (all_nt c22 (all_nt c30 (all_nt c30 (all_nt c30 (all_t c33 (all_nt c30 (all_nt c30 (all_nt c36 (all_nt c36 (all_nt c36 (all_nt c36 (all_nt c36 (all_nt c36 (all_nt c36 (all_nt c43 (all_nt c43 (all_nt c43 (all_nt c43 (all_t c47 (all_t c47 (all_nt c49 (all_t c47 (all_t c47 (all_t c47 (all_nt c43 (all_t c47 (all_nt c43 (all_f c56 (all_f c56 (all_f c56 (all_f c56 (all_f c60 (all_f c60 (all_f c60 (all_f c56 (all_f c60 (all_f c56 (all_f Bool.false_ne_true (all_t c68 (all_t c68 (all_t c68 (all_t c68 (all_t c72 (all_t c73 (all_f Bool.false_ne_true (all_t rfl (all_t c76 all_nil))))))))))))))))))))))))))))))))))))))))))))))))))))))))))))))))))))))))))))) ?_
    intro p hp p2 hq
    rcases List.mem_cons.1 hp with rfl | hp
    · skip
      have h3 := l5_1_ok m (m + 24) x3 x4 x5 s20 ((l5_0_k3 x3 s19 s20)) (l5_0_k14 x3 x4 s19 s20 b0) 0 (l5_0_k8 x3 x4 s19 s20 b0) (l5_0_k15 x3 x4 s19 s20 b1) (l5_0_k22 x3 x4 s19 s20 b0) _ (some_getD (d := l5_1D) c67)
      exact Eq.trans (Eq.mp (by kernel_rfl) h3) hq
    cases hp
  exact turns_step ht ih
set_option maxHeartbeats 20000000 in
theorem l5_0_w25 (m n : Nat) (x3 : List Int) (x4 : List Int) (x5 : Bool) (s19 : Int) (s20 : Int) (b0 : (Int × Int × Int) × Bool × Int × Bool × (List (List UInt8)) × Int) (b1 : (Int × Int × Int) × Int × Int × Int × (List (List UInt8)) × (List (List UInt8))) (r : AEx × Env × Boxes) (c0 : decide (s20 < (((List.length x3) : Nat) : Int)) = true) (c5 : decide (s20 < (((List.length x4) : Nat) : Int)) = true) (c8 : decide (s20 < 40) = true) (c9 : decide (0 ≤ s20) = true) (c17 : decide (List.length (l5_0_k4 x4 s20) ≤ 1000000) = true) (c18 : (decide (0 ≤ (l5_0_k13 x4 s20)) && decide (l5_0_k19 x4 s20)) = true) (c19 : tickPre b0 (l5_0_k3 x3 s19 s20) (l5_0_k18 x4 s20) = true) (c20 : rtickPre b1 (l5_0_k3 x3 s19 s20) (l5_0_k4 x4 s20) = true) (c21 : ¬ (l5_0_k2 x3 x4 s19 s20 b1).2.2 = true) (c22 : (l5_0_k20 x3 x4 s19 s20 b0 b1) = true) (c27 : decide (l5_0_k24 x3 x4 s19 s20 b0) = true) (c30 : ((show List (List UInt8) from (l5_0_k10 x3 x4 s19 s20 b0)) == ([] : List (List UInt8))) = true) (c33 : decide (l5_0_k16 x4 s20) = true) (c36 : (l5_0_k21 x4 s20) = true) (c43 : ((!(l5_0_k1 x3 x4 s19 s20 b0).2.2.2.1) == decide (l5_0_k23 x3 x4 s19 s20 b1)) = true) (c47 : decide ((l5_0_k2 x3 x4 s19 s20 b1).1.2.1 ≥ 0) = true) (c49 : (l5_0_k1 x3 x4 s19 s20 b0).2.2.2.1 = true) (c56 : ¬ ((l5_0_k1 x3 x4 s19 s20 b0).2.2.2.2.1 != (l5_0_k2 x3 x4 s19 s20 b1).1.2.2.1) = true) (c60 : ¬ decide (l5_0_k23 x3 x4 s19 s20 b1) = true) (c67 : (Option.isSome (l5_0_k7 x3 x4 x5 s19 s20 b0 b1 m)) = true) (c68 : x5 = true) (c72 : ¬ (l5_0_k17 s20) = true) (ih : (turns (hds 5 1769528) 0 1769528 (evC byref (evCall F S13 (m + 24)) (m + 24) 0 (hds 5) lbl5_0) n (l5_0_k11 x3 x4 x5 s19 s20 b0 b1) (l5_0_k12 x3 x4 x5 s19 s20 b0 b1)).run = some r) : (turns (hds 5 1769528) 0 1769528 (evC byref (evCall F S13 (m + 24)) (m + 24) 0 (hds 5) lbl5_0) (n + 1) (l5_0_k70 x3 x4 x5 s19 s20 b0 b1) (l5_0B x3 x4 x5 s19 s20 b0 b1)).run = some r := by
  have ht : (turn (hds 5 1769528) 0 1769528 (evC byref (evCall F S13 (m + 24)) (m + 24) 0 (hds 5) lbl5_0) (l5_0_k70 x3 x4 x5 s19 s20 b0 b1) (l5_0B x3 x4 x5 s19 s20 b0 b1)).run = some (.normal, l5_0H x3 x4 x5 (((l5_0_k3 x3 s19 s20))) (l5_0_k25 s20) ((l5_0_k8 x3 x4 s19 s20 b0)) ((l5_0_k15 x3 x4 s19 s20 b1)), l5_0B x3 x4 x5 (((l5_0_k3 x3 s19 s20))) (l5_0_k25 s20) ((l5_0_k8 x3 x4 s19 s20 b0)) ((l5_0_k15 x3 x4 s19 s20 b1))) := by
    refine turnT_ok (LS := (fun k => if k = 4597486622597666575075041081450927550856217366560964664 then some (l5_0_k5 x3 x4 x5 s19 s20 b0 b1 m) else none)) (vis := [(4597486622597666575075041081450927550856217366560964664, l5_1H x3 x4 x5 s20 ((l5_0_k3 x3 s19 s20)) (l5_0_k14 x3 x4 s19 s20 b0) 0 (l5_0_k8 x3 x4 s19 s20 b0) (l5_0_k15 x3 x4 s19 s20 b1) (l5_0_k22 x3 x4 s19 s20 b0), l5_1B x3 x4 x5 s20 ((l5_0_k3 x3 s19 s20)) (l5_0_k14 x3 x4 s19 s20 b0) 0 (l5_0_k8 x3 x4 s19 s20 b0) (l5_0_k15 x3 x4 s19 s20 b1) (l5_0_k22 x3 x4 s19 s20 b0))]) (by kernel_rfl) (M.run_of_path _ [true, true, true, true, true, true, true, true, true, true, true, true, true, true, true, true, true, true, true, true, true, true, false, false, false, true, true, true, false, false, false, false, false, true, false, false, false, false, false, false, false, false, false, false, false, false, false, true, true, false, true, true, true, false, true, false, false, false, false, false, false, false, false, false, false, false, false, true, true, true, true, false] _ _ (by kernel_rfl) (all_t c0 (all_t c0 (all_t c0 (all_t c0 (all_t c0 (all_t c5 (all_t c5 (all_t c5 (all_t c8 (all_t c9 (all_t c0 (all_t rfl (all_t c9 (all_t c5 (all_t rfl (all_t rfl (all_t rfl (all_t c17 (all_t c18 (all_t c19 (all_t c20 (all_nf c21 (all_nt c22 (all_nt c22 (all_nt c22 (all_t (show decide ((0 + (l5_0_k6 x3 x4 s19 s20 b0)) ≤ (l5_0_k6 x3 x4 s19 s20 b0)) = true from decide_eq_true (Nat.le_of_eq (Nat.zero_add _))) (all_t rfl (all_t c27 (all_nt c22 (all_nt c22 (all_nt c30 (all_nt c30 (all_nt c30 (all_t c33 (all_nt c30 (all_nt c30 (all_nt c36 (all_nt c36 (all_nt c36 (all_nt c36 (all_nt c36 (all_nt c36 (all_nt c36 (all_nt c43 (all_nt c43 (all_nt c43 (all_nt c43 (all_t c47 (all_t c47 (all_nt c49 (all_t c47 (all_t c47 (all_t c47 (all_nt c43 (all_t c47 (all_nt c43 (all_f c56 (all_f c56 (all_f c56 (all_f c56 (all_f c60 (all_f c60 (all_f c60 (all_f c56 (all_f c60 (all_f c56 (all_f Bool.false_ne_true (all_t c68 (all_t c68 (all_t c68 (all_t c68 (all_f c72 all_nil))))))))))))))))))))))))))))))))))))))))))))))))))))))))))))))))))))))))) ?_
    intro p hp p2 hq
    rcases List.mem_cons.1 hp with rfl | hp
    · skip
      have h3 := l5_1_ok m (m + 24) x3 x4 x5 s20 ((l5_0_k3 x3 s19 s20)) (l5_0_k14 x3 x4 s19 s20 b0) 0 (l5_0_k8 x3 x4 s19 s20 b0) (l5_0_k15 x3 x4 s19 s20 b1) (l5_0_k22 x3 x4 s19 s20 b0) _ (some_getD (d := l5_1D) c67)
      exact Eq.trans (Eq.mp (by kernel_rfl) h3) hq
    cases hp
  exact turns_step ht ih
set_option maxHeartbeats 20000000 in
theorem l5_0_w26 (m n : Nat) (x3 : List Int) (x4 : List Int) (x5 : Bool) (s19 : Int) (s20 : Int) (b0 : (Int × Int × Int) × Bool × Int × Bool × (List (List UInt8)) × Int) (b1 : (Int × Int × Int) × Int × Int × Int × (List (List UInt8)) × (List (List UInt8))) (r : AEx × Env × Boxes) (c0 : decide (s20 < (((List.length x3) : Nat) : Int)) = true) (c5 : decide (s20 < (((List.length x4) : Nat) : Int)) = true) (c8 : decide (s20 < 40) = true) (c9 : decide (0 ≤ s20) = true) (c17 : decide (List.length (l5_0_k4 x4 s20) ≤ 1000000) = true) (c18 : (decide (0 ≤ (l5_0_k13 x4 s20)) && decide (l5_0_k19 x4 s20)) = true) (c19 : tickPre b0 (l5_0_k3 x3 s19 s20) (l5_0_k18 x4 s20) = true) (c20 : rtickPre b1 (l5_0_k3 x3 s19 s20) (l5_0_k4 x4 s20) = true) (c21 : ¬ (l5_0_k2 x3 x4 s19 s20 b1).2.2 = true) (c22 : (l5_0_k20 x3 x4 s19 s20 b0 b1) = true) (c27 : decide (l5_0_k24 x3 x4 s19 s20 b0) = true) (c30 : ((show List (List UInt8) from (l5_0_k10 x3 x4 s19 s20 b0)) == ([] : List (List UInt8))) = true) (c33 : decide (l5_0_k16 x4 s20) = true) (c36 : (l5_0_k21 x4 s20) = true) (c43 : ((!(l5_0_k1 x3 x4 s19 s20 b0).2.2.2.1) == decide (l5_0_k23 x3 x4 s19 s20 b1)) = true) (c47 : decide ((l5_0_k2 x3 x4 s19 s20 b1).1.2.1 ≥ 0) = true) (c49 : (l5_0_k1 x3 x4 s19 s20 b0).2.2.2.1 = true) (c56 : ¬ ((l5_0_k1 x3 x4 s19 s20 b0).2.2.2.2.1 != (l5_0_k2 x3 x4 s19 s20 b1).1.2.2.1) = true) (c60 : ¬ decide (l5_0_k23 x3 x4 s19 s20 b1) = true) (c67 : (Option.isSome (l5_0_k7 x3 x4 x5 s19 s20 b0 b1 m)) = true) (c68 : ¬ x5 = true) (ih : (turns (hds 5 1769528) 0 1769528 (evC byref (evCall F S13 (m + 24)) (m + 24) 0 (hds 5) lbl5_0) n (l5_0_k11 x3 x4 x5 s19 s20 b0 b1) (l5_0_k12 x3 x4 x5 s19 s20 b0 b1)).run = some r) : (turns (hds 5 1769528) 0 1769528 (evC byref (evCall F S13 (m + 24)) (m + 24) 0 (hds 5) lbl5_0) (n + 1) (l5_0_k70 x3 x4 x5 s19 s20 b0 b1) (l5_0B x3 x4 x5 s19 s20 b0 b1)).run = some r := by
  have ht : (turn (hds 5 1769528) 0 1769528 (evC byref (evCall F S13 (m + 24)) (m + 24) 0 (hds 5) lbl5_0) (l5_0_k70 x3 x4 x5 s19 s20 b0 b1) (l5_0B x3 x4 x5 s19 s20 b0 b1)).run = some (.normal, l5_0H x3 x4 x5 (((l5_0_k3 x3 s19 s20))) (l5_0_k25 s20) ((l5_0_k8 x3 x4 s19 s20 b0)) ((l5_0_k15 x3 x4 s19 s20 b1)), l5_0B x3 x4 x5 (((l5_0_k3 x3 s19 s20))) (l5_0_k25 s20) ((l5_0_k8 x3 x4 s19 s20 b0)) ((l5_0_k15 x3 x4 s19 s20 b1))) := by
    refine turnT_ok (LS := (fun k => if k = 4597486622597666575075041081450927550856217366560964664 then some (l5_0_k5 x3 x4 x5 s19 s20 b0 b1 m) else none)) (vis := [(4597486622597666575075041081450927550856217366560964664, l5_1H x3 x4 x5 s20 ((l5_0_k3 x3 s19 s20)) (l5_0_k14 x3 x4 s19 s20 b0) 0 (l5_0_k8 x3 x4 s19 s20 b0) (l5_0_k15 x3 x4 s19 s20 b1) (l5_0_k22 x3 x4 s19 s20 b0), l5_1B x3 x4 x5 s20 ((l5_0_k3 x3 s19 s20)) (l5_0_k14 x3 x4 s19 s20 b0) 0 (l5_0_k8 x3 x4 s19 s20 b0) (l5_0_k15 x3 x4 s19 s20 b1) (l5_0_k22 x3 x4 s19 s20 b0))]) (by kernel_rfl) (M.run_of_path _ [true, true, true, true, true, true, true, true, true, true, true, true, true, true, true, true, true, true, true, true, true, true, false, false, false, true, true, true, false, false, false, false, false, true, false, false, false, false, false, false, false, false, false, false, false, false, false, true, true, false, true, true, true, false, true, false, false, false, false, false, false, false, false, false, false, false, false, false, false, false, false, false] _ _ (by kernel_rfl) (all_t c0 (all_t c0 (all_t c0 (all_t c0 (all_t c0 (all_t c5 (all_t c5 (all_t c5 (all_t c8 (all_t c9 (all_t c0 (all_t rfl (all_t c9 (all_t c5 (all_t rfl (all_t rfl (all_t rfl (all_t c17 (all_t c18 (all_t c19 (all_t c20 (all_nf c21 (all_nt c22 (all_nt c22 (all_nt c22 (all_t (show decide ((0 + (l5_0_k6 x3 x4 s19 s20 b0)) ≤ (l5_0_k6 x3 x4 s19 s20 b0)) = true from decide_eq_true (Nat.le_of_eq (Nat.zero_add _))) (all_t rfl (all_t c27 (all_nt c22 (all_nt c22 (all_nt c30 (all_nt c30 (all_nt c30 (all_t c33 (all_nt c30 (all_nt c30 (all_nt c36 (all_nt c36 (all_nt c36 (all_nt c36 (all_nt c36 (all_nt c36 (all_nt c36 (all_nt c43 (all_nt c43 (all_nt c43 (all_nt c43 (all_t c47 (all_t c47 (all_nt c49 (all_t c47 (all_t c47 (all_t c47 (all_nt c43 (all_t c47 (all_nt c43 (all_f c56 (all_f c56 (all_f c56 (all_f c56 (all_f c60 (all_f c60 (all_f c60 (all_f c56 (all_f c60 (all_f c56 (all_f Bool.false_ne_true (all_f c68 (all_f c68 (all_f c68 (all_f c68 (all_f Bool.false_ne_true all_nil))))))))))))))))))))))))))))))))))))))))))))))))))))))))))))))))))))))))) ?_
    intro p hp p2 hq
    rcases List.mem_cons.1 hp with rfl | hp
    · skip
      have h3 := l5_1_ok m (m + 24) x3 x4 x5 s20 ((l5_0_k3 x3 s19 s20)) (l5_0_k14 x3 x4 s19 s20 b0) 0 (l5_0_k8 x3 x4 s19 s20 b0) (l5_0_k15 x3 x4 s19 s20 b1) (l5_0_k22 x3 x4 s19 s20 b0) _ (some_getD (d := l5_1D) c67)
      exact Eq.trans (Eq.mp (by kernel_rfl) h3) hq
    cases hp
  exact turns_step ht ih
set_option maxHeartbeats 20000000 in
theorem l5_0_w27 (m n : Nat) (x3 : List Int) (x4 : List Int) (x5 : Bool) (s19 : Int) (s20 : Int) (b0 : (Int × Int × Int) × Bool × Int × Bool × (List (List UInt8)) × Int) (b1 : (Int × Int × Int) × Int × Int × Int × (List (List UInt8)) × (List (List UInt8))) (r : AEx × Env × Boxes) (c0 : decide (s20 < (((List.length x3) : Nat) : Int)) = true) (c5 : decide (s20 < (((List.length x4) : Nat) : Int)) = true) (c8 : decide (s20 < 40) = true) (c9 : decide (0 ≤ s20) = true) (c17 : decide (List.length (l5_0_k4 x4 s20) ≤ 1000000) = true) (c18 : (decide (0 ≤ (l5_0_k13 x4 s20)) && decide (l5_0_k19 x4 s20)) = true) (c19 : tickPre b0 (l5_0_k3 x3 s19 s20) (l5_0_k18 x4 s20) = true) (c20 : rtickPre b1 (l5_0_k3 x3 s19 s20) (l5_0_k4 x4 s20) = true) (c21 : ¬ (l5_0_k2 x3 x4 s19 s20 b1).2.2 = true) (c22 : (l5_0_k20 x3 x4 s19 s20 b0 b1) = true) (c27 : decide (l5_0_k24 x3 x4 s19 s20 b0) = true) (c30 : ((show List (List UInt8) from (l5_0_k10 x3 x4 s19 s20 b0)) == ([] : List (List UInt8))) = true) (c33 : decide (l5_0_k16 x4 s20) = true) (c36 : (l5_0_k21 x4 s20) = true) (c43 : ((!(l5_0_k1 x3 x4 s19 s20 b0).2.2.2.1) == decide (l5_0_k23 x3 x4 s19 s20 b1)) = true) (c47 : decide ((l5_0_k2 x3 x4 s19 s20 b1).1.2.1 ≥ 0) = true) (c49 : ¬ (l5_0_k1 x3 x4 s19 s20 b0).2.2.2.1 = true) (c56 : ¬ ((-1) != (l5_0_k2 x3 x4 s19 s20 b1).1.2.2.1) = true) (c60 : decide (l5_0_k23 x3 x4 s19 s20 b1) = true) (c68 : (Option.isSome (l5_0_k7 x3 x4 x5 s19 s20 b0 b1 m)) = true) (c69 : x5 = true) (c73 : (l5_0_k17 s20) = true) (c74 : decide ((List.length (l5_0_k8 x3 x4 s19 s20 b0).2.2.2.2.1 * 16) ≤ 70368744177664) = true) (c77 : tickPre (l5_0_k8 x3 x4 s19 s20 b0) (IntKind.wrap .i64 (((l5_0_k3 x3 s19 s20)) + (1))) [([122, 122] : List UInt8)] = true) (ih : (turns (hds 5 1769528) 0 1769528 (evC byref (evCall F S13 (m + 24)) (m + 24) 0 (hds 5) lbl5_0) n (l5_0_k11 x3 x4 x5 s19 s20 b0 b1) (l5_0_k12 x3 x4 x5 s19 s20 b0 b1)).run = some r) : (turns (hds 5 1769528) 0 1769528 (evC byref (evCall F S13 (m + 24)) (m + 24) 0 (hds 5) lbl5_0) (n + 1) (l5_0_k70 x3 x4 x5 s19 s20 b0 b1) (l5_0B x3 x4 x5 s19 s20 b0 b1)).run = some r := by
  have ht : (turn (hds 5 1769528) 0 1769528 (evC byref (evCall F S13 (m + 24)) (m + 24) 0 (hds 5) lbl5_0) (l5_0_k70 x3 x4 x5 s19 s20 b0 b1) (l5_0B x3 x4 x5 s19 s20 b0 b1)).run = some (.normal, l5_0H x3 x4 x5 (((l5_0_k3 x3 s19 s20))) (l5_0_k25 s20) ((l5_0_k8 x3 x4 s19 s20 b0)) ((l5_0_k15 x3 x4 s19 s20 b1)), l5_0B x3 x4 x5 (((l5_0_k3 x3 s19 s20))) (l5_0_k25 s20) ((l5_0_k8 x3 x4 s19 s20 b0)) ((l5_0_k15 x3 x4 s19 s20 b1))) := by
    refine turnT_ok (LS := (fun k => if k = 4597486622597666575075041081450927550856217366560964664 then some (l5_0_k5 x3 x4 x5 s19 s20 b0 b1 m) else none)) (vis := [(4597486622597666575075041081450927550856217366560964664, l5_1H x3 x4 x5 s20 ((l5_0_k3 x3 s19 s20)) (l5_0_k14 x3 x4 s19 s20 b0) 0 (l5_0_k8 x3 x4 s19 s20 b0) (l5_0_k15 x3 x4 s19 s20 b1) (l5_0_k22 x3 x4 s19 s20 b0), l5_1B x3 x4 x5 s20 ((l5_0_k3 x3 s19 s20)) (l5_0_k14 x3 x4 s19 s20 b0) 0 (l5_0_k8 x3 x4 s19 s20 b0) (l5_0_k15 x3 x4 s19 s20 b1) (l5_0_k22 x3 x4 s19 s20 b0))]) (by kernel_rfl) (M.run_of_path _ [true, true, true, true, true, true, true, true, true, true, true, true, true, true, true, true, true, true, true, true, true, true, false, false, false, true, true, true, false, false, false, false, false, true, false, false, false, false, false, false, false, false, false, false, false, false, false, true, true, true, true, true, true, false, true, false, false, false, false, false, true, true, true, true, false, true, false, false, true, true, true, true, true, true, false, true, true] _ _ (by kernel_rfl) (all_t c0 (all_t c0 (all_t c0 (all_t c0 (all_t c0 (all_t c5 (all_t c5 (all_t c5 (all_t c8 (all_t c9 (all_t c0 (all_t rfl (all_t c9 (all_t c5 (all_t rfl (all_t rfl (all_t rfl (all_t c17 (all_t c18 (all_t c19 (all_t c20 (all_nf c21 (all_nt c22 (all_nt c22 (all_nt c22 (all_t (show decide ((0 + (l5_0_k6 x3 x4 s19 s20 b0)) ≤ (l5_0_k6 x3 x4 s19 s20 b0)) = true from decide_eq_true (Nat.le_of_eq (Nat.zero_add _))) (all_t rfl (all_t c27 (all_nt c22 (all_nt c22 (all_nt c30 (all_nt c30 (all_nt c30 (all_t c33 (all_nt c30 (all_nt c30 (all_nt c36 (all_nt c36 (all_nt c36 (all_nt c36 (all_nt c36 (all_nt c36 (all_nt c36 (all_nt c43 (all_nt c43 (all_nt c43 (all_nt c43 (all_t c47 (all_t c47 (all_nf c49 (all_t c47 (all_t c47 (all_t c47 (all_nt c43 (all_t c47 (all_nt c43 (all_f c56 (all_f c56 (all_f c56 (all_f c56 (all_t c60 (all_t c60 (all_nf c49 (all_t c60 (all_f c56 (all_t c60 (all_f c56 (all_f Bool.false_ne_true (all_t c69 (all_t c69 (all_t c69 (all_t c69 (all_t c73 (all_t c74 (all_f Bool.false_ne_true (all_t rfl (all_t c77 all_nil)))))))))))))))))))))))))))))))))))))))))))))))))))))))))))))))))))))))))))))) ?_
    intro p hp p2 hq
    rcases List.mem_cons.1 hp with rfl | hp
    · skip
      have h3 := l5_1_ok m (m + 24) x3 x4 x5 s20 ((l5_0_k3 x3 s19 s20)) (l5_0_k14 x3 x4 s19 s20 b0) 0 (l5_0_k8 x3 x4 s19 s20 b0) (l5_0_k15 x3 x4 s19 s20 b1) (l5_0_k22 x3 x4 s19 s20 b0) _ (some_getD (d := l5_1D) c68)
      exact Eq.trans (Eq.mp (by kernel_rfl) h3) hq
    cases hp
  exact turns_step ht ih
set_option maxHeartbeats 20000000 in
theorem l5_0_w28 (m n : Nat) (x3 : List Int) (x4 : List Int) (x5 : Bool) (s19 : Int) (s20 : Int) (b0 : (Int × Int × Int) × Bool × Int × Bool × (List (List UInt8)) × Int) (b1 : (Int × Int × Int) × Int × Int × Int × (List (List UInt8)) × (List (List UInt8))) (r : AEx × Env × Boxes) (c0 : decide (s20 < (((List.length x3) : Nat) : Int)) = true) (c5 : decide (s20 < (((List.length x4) : Nat) : Int)) = true) (c8 : decide (s20 < 40) = true) (c9 : decide (0 ≤ s20) = true) (c17 : decide (List.length (l5_0_k4 x4 s20) ≤ 1000000) = true) (c18 : (decide (0 ≤ (l5_0_k13 x4 s20)) && decide (l5_0_k19 x4 s20)) = true) (c19 : tickPre b0 (l5_0_k3 x3 s19 s20) (l5_0_k18 x4 s20) = true) (c20 : rtickPre b1 (l5_0_k3 x3 s19 s20) (l5_0_k4 x4 s20) = true) (c21 : ¬ (l5_0_k2 x3 x4 s19 s20 b1).2.2 = true) (c22 : (l5_0_k20 x3 x4 s19 s20 b0 b1) = true) (c27 : decide (l5_0_k24 x3 x4 s19 s20 b0) = true) (c30 : ((show List (List UInt8) from (l5_0_k10 x3 x4 s19 s20 b0)) == ([] : List (List UInt8))) = true) (c33 : decide (l5_0_k16 x4 s20) = true) (c36 : (l5_0_k21 x4 s20) = true) (c43 : ((!(l5_0_k1 x3 x4 s19 s20 b0).2.2.2.1) == decide (l5_0_k23 x3 x4 s19 s20 b1)) = true) (c47 : decide ((l5_0_k2 x3 x4 s19 s20 b1).1.2.1 ≥ 0) = true) (c49 : ¬ (l5_0_k1 x3 x4 s19 s20 b0).2.2.2.1 = true) (c56 : ¬ ((-1) != (l5_0_k2 x3 x4 s19 s20 b1).1.2.2.1) = true) (c60 : decide (l5_0_k23 x3 x4 s19 s20 b1) = true) (c68 : (Option.isSome (l5_0_k7 x3 x4 x5 s19 s20 b0 b1 m)) = true) (c69 : x5 = true) (c73 : ¬ (l5_0_k17 s20) = true) (ih : (turns (hds 5 1769528) 0 1769528 (evC byref (evCall F S13 (m + 24)) (m + 24) 0 (hds 5) lbl5_0) n (l5_0_k11 x3 x4 x5 s19 s20 b0 b1) (l5_0_k12 x3 x4 x5 s19 s20 b0 b1)).run = some r) : (turns (hds 5 1769528) 0 1769528 (evC byref (evCall F S13 (m + 24)) (m + 24) 0 (hds 5) lbl5_0) (n + 1) (l5_0_k70 x3 x4 x5 s19 s20 b0 b1) (l5_0B x3 x4 x5 s19 s20 b0 b1)).run = some r := by
  have ht : (turn (hds 5 1769528) 0 1769528 (evC byref (evCall F S13 (m + 24)) (m + 24) 0 (hds 5) lbl5_0) (l5_0_k70 x3 x4 x5 s19 s20 b0 b1) (l5_0B x3 x4 x5 s19 s20 b0 b1)).run = some (.normal, l5_0H x3 x4 x5 (((l5_0_k3 x3 s19 s20))) (l5_0_k25 s20) ((l5_0_k8 x3 x4 s19 s20 b0)) ((l5_0_k15 x3 x4 s19 s20 b1)), l5_0B x3 x4 x5 (((l5_0_k3 x3 s19 s20))) (l5_0_k25 s20) ((l5_0_k8 x3 x4 s19 s20 b0)) ((l5_0_k15 x3 x4 s19 s20 b1))) := by
    refine turnT_ok (LS := (fun k => if k = 4597486622597666575075041081450927550856217366560964664 then some (l5_0_k5 x3 x4 x5 s19 s20 b0 b1 m) else none)) (vis := [(4597486622597666575075041081450927550856217366560964664, l5_1H x3 x4 x5 s20 ((l5_0_k3 x3 s19 s20)) (l5_0_k14 x3 x4 s19 s20 b0) 0 (l5_0_k8 x3 x4 s19 s20 b0) (l5_0_k15 x3 x4 s19 s20 b1) (l5_0_k22 x3 x4 s19 s20 b0), l5_1B x3 x4 x5 s20 ((l5_0_k3 x3 s19 s20)) (l5_0_k14 x3 x4 s19 s20 b0) 0 (l5_0_k8 x3 x4 s19 s20 b0) (l5_0_k15 x3 x4 s19 s20 b1) (l5_0_k22 x3 x4 s19 s20 b0))]) (by kernel_rfl) (M.run_of_path _ [true, true, true, true, true, true, true, true, true, true, true, true, true, true, true, true, true, true, true, true, true, true, false, false, false, true, true, true, false, false, false, false, false, true, false, false, false, false, false, false, false, false, false, false, false, false, false, true, true, true, true, true, true, false, true, false, false, false, false, false, true, true, true, true, false, true, false, false, true, true, true, true, false] _ _ (by kernel_rfl) (all_t c0 (all_t c0 (all_t c0 (all_t c0 (all_t c0 (all_t c5 (all_t c5 (all_t c5 (all_t c8 (all_t c9 (all_t c0 (all_t rfl (all_t c9 (all_t c5 (all_t rfl (all_t rfl (all_t rfl (all_t c17 (all_t c18 (all_t c19 (all_t c20 (all_nf c21 (all_nt c22 (all_nt c22 (all_nt c22 (all_t (show decide ((0 + (l5_0_k6 x3 x4 s19 s20 b0)) ≤ (l5_0_k6 x3 x4 s19 s20 b0)) = true from decide_eq_true (Nat.le_of_eq (Nat.zero_add _))) (all_t rfl (all_t c27 (all_nt c22 (all_nt c22 (all_nt c30 (all_nt c30 (all_nt c30 (all_t c33 (all_nt c30 (all_nt c30 (all_nt c36 (all_nt c36 (all_nt c36 (all_nt c36 (all_nt c36 (all_nt c36 (all_nt c36 (all_nt c43 (all_nt c43 (all_nt c43 (all_nt c43 (all_t c47 (all_t c47 (all_nf c49 (all_t c47 (all_t c47 (all_t c47 (all_nt c43 (all_t c47 (all_nt c43 (all_f c56 (all_f c56 (all_f c56 (all_f c56 (all_t c60 (all_t c60 (all_nf c49 (all_t c60 (all_f c56 (all_t c60 (all_f c56 (all_f Bool.false_ne_true (all_t c69 (all_t c69 (all_t c69 (all_t c69 (all_f c73 all_nil)))))))))))))))))))))))))))))))))))))))))))))))))))))))))))))))))))))))))) ?_
    intro p hp p2 hq
    rcases List.mem_cons.1 hp with rfl | hp
    · skip
      have h3 := l5_1_ok m (m + 24) x3 x4 x5 s20 ((l5_0_k3 x3 s19 s20)) (l5_0_k14 x3 x4 s19 s20 b0) 0 (l5_0_k8 x3 x4 s19 s20 b0) (l5_0_k15 x3 x4 s19 s20 b1) (l5_0_k22 x3 x4 s19 s20 b0) _ (some_getD (d := l5_1D) c68)
      exact Eq.trans (Eq.mp (by kernel_rfl) h3) hq
    cases hp
  exact turns_step ht ih
set_option maxHeartbeats 20000000 in
theorem l5_0_w29 (m n : Nat) (x3 : List Int) (x4 : List Int) (x5 : Bool) (s19 : Int) (s20 : Int) (b0 : (Int × Int × Int) × Bool × Int × Bool × (List (List UInt8)) × Int) (b1 : (Int × Int × Int) × Int × Int × Int × (List (List UInt8)) × (List (List UInt8))) (r : AEx × Env × Boxes) (c0 : decide (s20 < (((List.length x3) : Nat) : Int)) = true) (c5 : decide (s20 < (((List.length x4) : Nat) : Int)) = true) (c8 : decide (s20 < 40) = true) (c9 : decide (0 ≤ s20) = true) (c17 : decide (List.length (l5_0_k4 x4 s20) ≤ 1000000) = true) (c18 : (decide (0 ≤ (l5_0_k13 x4 s20)) && decide (l5_0_k19 x4 s20)) = true) (c19 : tickPre b0 (l5_0_k3 x3 s19 s20) (l5_0_k18 x4 s20) = true) (c20 : rtickPre b1 (l5_0_k3 x3 s19 s20) (l5_0_k4 x4 s20) = true) (c21 : ¬ (l5_0_k2 x3 x4 s19 s20 b1).2.2 = true) (c22 : (l5_0_k20 x3 x4 s19 s20 b0 b1) = true) (c27 : decide (l5_0_k24 x3 x4 s19 s20 b0) = true) (c30 : ((show List (List UInt8) from (l5_0_k10 x3 x4 s19 s20 b0)) == ([] : List (List UInt8))) = true) (c33 : decide (l5_0_k16 x4 s20) = true) (c36 : (l5_0_k21 x4 s20) = true) (c43 : ((!(l5_0_k1 x3 x4 s19 s20 b0).2.2.2.1) == decide (l5_0_k23 x3 x4 s19 s20 b1)) = true) (c47 : decide ((l5_0_k2 x3 x4 s19 s20 b1).1.2.1 ≥ 0) = true) (c49 : ¬ (l5_0_k1 x3 x4 s19 s20 b0).2.2.2.1 = true) (c56 : ¬ ((-1) != (l5_0_k2 x3 x4 s19 s20 b1).1.2.2.1) = true) (c60 : decide (l5_0_k23 x3 x4 s19 s20 b1) = true) (c68 : (Option.isSome (l5_0_k7 x3 x4 x5 s19 s20 b0 b1 m)) = true) (c69 : ¬ x5 = true) (ih : (turns (hds 5 1769528) 0 1769528 (evC byref (evCall F S13 (m + 24)) (m + 24) 0 (hds 5) lbl5_0) n (l5_0_k11 x3 x4 x5 s19 s20 b0 b1) (l5_0_k12 x3 x4 x5 s19 s20 b0 b1)).run = some r) : (turns (hds 5 1769528) 0 1769528 (evC byref (evCall F S13 (m + 24)) (m + 24) 0 (hds 5) lbl5_0) (n + 1) (l5_0_k70 x3 x4 x5 s19 s20 b0 b1) (l5_0B x3 x4 x5 s19 s20 b0 b1)).run = some r := by
  have ht : (turn (hds 5 1769528) 0 1769528 (evC byref (evCall F S13 (m + 24)) (m + 24) 0 (hds 5) lbl5_0) (l5_0_k70 x3 x4 x5 s19 s20 b0 b1) (l5_0B x3 x4 x5 s19 s20 b0 b1)).run = some (.normal, l5_0H x3 x4 x5 (((l5_0_k3 x3 s19 s20))) (l5_0_k25 s20) ((l5_0_k8 x3 x4 s19 s20 b0)) ((l5_0_k15 x3 x4 s19 s20 b1)), l5_0B x3 x4 x5 (((l5_0_k3 x3 s19 s20))) (l5_0_k25 s20) ((l5_0_k8 x3 x4 s19 s20 b0)) ((l5_0_k15 x3 x4 s19 s20 b1))) := by
    refine turnT_ok (LS := (fun k => if k = 4597486622597666575075041081450927550856217366560964664 then some (l5_0_k5 x3 x4 x5 s19 s20 b0 b1 m) else none)) (vis := [(4597486622597666575075041081450927550856217366560964664, l5_1H x3 x4 x5 s20 ((l5_0_k3 x3 s19 s20)) (l5_0_k14 x3 x4 s19 s20 b0) 0 (l5_0_k8 x3 x4 s19 s20 b0) (l5_0_k15 x3 x4 s19 s20 b1) (l5_0_k22 x3 x4 s19 s20 b0), l5_1B x3 x4 x5 s20 ((l5_0_k3 x3 s19 s20)) (l5_0_k14 x3 x4 s19 s20 b0) 0 (l5_0_k8 x3 x4 s19 s20 b0) (l5_0_k15 x3 x4 s19 s20 b1) (l5_0_k22 x3 x4 s19 s20 b0))]) (by kernel_rfl) (M.run_of_path _ [true, true, true, true, true, true, true, true, true, true, true, true, true, true, true, true, true, true, true, true, true, true, false, false, false, true, true, true, false, false, false, false, false, true, false, false, false, false, false, false, false, false, false, false, false, false, false, true, true, true, true, true, true, false, true, false, false, false, false, false, true, true, true, true, false, true, false, false, false, false, false, false, false] _ _ (by kernel_rfl) (all_t c0 (all_t c0 (all_t c0 (all_t c0 (all_t c0 (all_t c5 (all_t c5 (all_t c5 (all_t c8 (all_t c9 (all_t c0 (all_t rfl (all_t c9 (all_t c5 (all_t rfl (all_t rfl (all_t rfl (all_t c17 (all_t c18 (all_t c19 (all_t c20 (all_nf c21 (all_nt c22 (all_nt c22 (all_nt c22 (all_t (show decide ((0 + (l5_0_k6 x3 x4 s19 s20 b0)) ≤ (l5_0_k6 x3 x4 s19 s20 b0)) = true from decide_eq_true (Nat.le_of_eq (Nat.zero_add _))) (all_t rfl (all_t c27 (all_nt c22 (all_nt c22 (all_nt c30 (all_nt c30 (all_nt c30 (all_t c33 (all_nt c30 (all_nt c30 (all_nt c36 (all_nt c36 (all_nt c36 (all_nt c36 (all_nt c36 (all_nt c36 (all_nt c36 (all_nt c43 (all_nt c43 (all_nt c43 (all_nt c43 (all_t c47 (all_t c47 (all_nf c49 (all_t c47 (all_t c47 (all_t c47 (all_nt c43 (all_t c47 (all_nt c43 (all_f c56 (all_f c56 (all_f c56 (all_f c56 (all_t c60 (all_t c60 (all_nf c49 (all_t c60 (all_f c56 (all_t c60 (all_f c56 (all_f Bool.false_ne_true (all_f c69 (all_f c69 (all_f c69 (all_f c69 (all_f Bool.false_ne_true all_nil)))))))))))))))))))))))))))))))))))))))))))))))))))))))))))))))))))))))))) ?_
    intro p hp p2 hq
    rcases List.mem_cons.1 hp with rfl | hp
    · skip
      have h3 := l5_1_ok m (m + 24) x3 x4 x5 s20 ((l5_0_k3 x3 s19 s20)) (l5_0_k14 x3 x4 s19 s20 b0) 0 (l5_0_k8 x3 x4 s19 s20 b0) (l5_0_k15 x3 x4 s19 s20 b1) (l5_0_k22 x3 x4 s19 s20 b0) _ (some_getD (d := l5_1D) c68)
      exact Eq.trans (Eq.mp (by kernel_rfl) h3) hq
    cases hp
  exact turns_step ht ih
set_option maxHeartbeats 20000000 in
theorem l5_0_w30 (m n : Nat) (x3 : List Int) (x4 : List Int) (x5 : Bool) (s19 : Int) (s20 : Int) (b0 : (Int × Int × Int) × Bool × Int × Bool × (List (List UInt8)) × Int) (b1 : (Int × Int × Int) × Int × Int × Int × (List (List UInt8)) × (List (List UInt8))) (r : AEx × Env × Boxes) (c0 : decide (s20 < (((List.length x3) : Nat) : Int)) = true) (c5 : decide (s20 < (((List.length x4) : Nat) : Int)) = true) (c8 : decide (s20 < 40) = true) (c9 : decide (0 ≤ s20) = true) (c17 : decide (List.length (l5_0_k4 x4 s20) ≤ 1000000) = true) (c18 : (decide (0 ≤ (l5_0_k13 x4 s20)) && decide (l5_0_k19 x4 s20)) = true) (c19 : tickPre b0 (l5_0_k3 x3 s19 s20) (l5_0_k18 x4 s20) = true) (c20 : rtickPre b1 (l5_0_k3 x3 s19 s20) (l5_0_k4 x4 s20) = true) (c21 : ¬ (l5_0_k2 x3 x4 s19 s20 b1).2.2 = true) (c22 : (l5_0_k20 x3 x4 s19 s20 b0 b1) = true) (c27 : decide (l5_0_k24 x3 x4 s19 s20 b0) = true) (c30 : ((show List (List UInt8) from (l5_0_k10 x3 x4 s19 s20 b0)) == ([] : List (List UInt8))) = true) (c33 : decide (l5_0_k16 x4 s20) = true) (c36 : (l5_0_k21 x4 s20) = true) (c43 : ((!(l5_0_k1 x3 x4 s19 s20 b0).2.2.2.1) == decide (l5_0_k23 x3 x4 s19 s20 b1)) = true) (c47 : decide ((l5_0_k2 x3 x4 s19 s20 b1).1.2.1 ≥ 0) = true) (c49 : ¬ (l5_0_k1 x3 x4 s19 s20 b0).2.2.2.1 = true) (c56 : ¬ ((-1) != (l5_0_k2 x3 x4 s19 s20 b1).1.2.2.1) = true) (c60 : ¬ decide (l5_0_k23 x3 x4 s19 s20 b1) = true) (c67 : (Option.isSome (l5_0_k7 x3 x4 x5 s19 s20 b0 b1 m)) = true) (c68 : x5 = true) (c72 : (l5_0_k17 s20) = true) (c73 : decide ((List.length (l5_0_k8 x3 x4 s19 s20 b0).2.2.2.2.1 * 16) ≤ 70368744177664) = true) (c76 : tickPre (l5_0_k8 x3 x4 s19 s20 b0) (IntKind.wrap .i64 (((l5_0_k3 x3 s19 s20)) + (1))) [([122, 122] : List UInt8)] = true) (ih : (turns (hds 5 1769528) 0 1769528 (evC byref (evCall F S13 (m + 24)) (m + 24) 0 (hds 5) lbl5_0) n (l5_0_k11 x3 x4 x5 s19 s20 b0 b1) (l5_0_k12 x3 x4 x5 s19 s20 b0 b1)).run = some r) : (turns (hds 5 1769528) 0 1769528 (evC byref (evCall F S13 (m + 24)) (m + 24) 0 (hds 5) lbl5_0) (n + 1) (l5_0_k70 x3 x4 x5 s19 s20 b0 b1) (l5_0B x3 x4 x5 s19 s20 b0 b1)).run = some r := by
  have ht : (turn (hds 5 1769528) 0 1769528 (evC byref (evCall F S13 (m + 24)) (m + 24) 0 (hds 5) lbl5_0) (l5_0_k70 x3 x4 x5 s19 s20 b0 b1) (l5_0B x3 x4 x5 s19 s20 b0 b1)).run = some (.normal, l5_0H x3 x4 x5 (((l5_0_k3 x3 s19 s20))) (l5_0_k25 s20) ((l5_0_k8 x3 x4 s19 s20 b0)) ((l5_0_k15 x3 x4 s19 s20 b1)), l5_0B x3 x4 x5 (((l5_0_k3 x3 s19 s20))) (l5_0_k25 s20) ((l5_0_k8 x3 x4 s19 s20 b0)) ((l5_0_k15 x3 x4 s19 s20 b1))) := by
    refine turnT_ok (LS := (fun k => if k = 4597486622597666575075041081450927550856217366560964664 then some (l5_0_k5 x3 x4 x5 s19 s20 b0 b1 m) else none)) (vis := [(4597486622597666575075041081450927550856217366560964664, l5_1H x3 x4 x5 s20 ((l5_0_k3 x3 s19 s20)) (l5_0_k14 x3 x4 s19 s20 b0) 0 (l5_0_k8 x3 x4 s19 s20 b0) (l5_0_k15 x3 x4 s19 s20 b1) (l5_0_k22 x3 x4 s19 s20 b0), l5_1B x3 x4 x5 s20 ((l5_0_k3 x3 s19 s20)) (l5_0_k14 x3 x4 s19 s20 b0) 0 (l5_0_k8 x3 x4 s19 s20 b0) (l5_0_k15 x3 x4 s19 s20 b1) (l5_0_k22 x3 x4 s19 s20 b0))]) (by kernel_rfl) (M.run_of_path _ [true, true, true, true, true, true, true, true, true, true, true, true, true, true, true, true, true, true, true, true, true, true, false, false, false, true, true, true, false, false, false, false, false, true, false, false, false, false, false, false, false, false, false, false, false, false, false, true, true, true, true, true, true, false, true, false, false, false, false, false, false, false, false, false, false, false, false, true, true, true, true, true, true, false, true, true] _ _ (by kernel_rfl) (all_t c0 (all_t c0 (all_t c0 (all_t c0 (all_t c0 (all_t c5 (all_t c5 (all_t c5 (all_t c8 (all_t c9 (all_t c0 (all_t rfl (all_t c9 (all_t c5 (all_t rfl (all_t rfl (all_t rfl (all_t c17 (all_t c18 (all_t c19 (all_t c20 (all_nf c21 (all_nt c22 (all_nt c22 (all_nt c22 (all_t (show decide ((0 + (l5_0_k6 x3 x4 s19 s20 b0)) ≤ (l5_0_k6 x3 x4 s19 s20 b0)) = true from decide_eq_true (Nat.le_of_eq (Nat.zero_add _))) (all_t rfl (all_t c27 (all_nt c22 (all_nt c22 (all_nt c30 (all_nt c30 (all_nt c30 (all_t c33 (all_nt c30 (all_nt c30 (all_nt c36 (all_nt c36 (all_nt c36 (all_nt c36 (all_nt c36 (all_nt c36 (all_nt c36 (all_nt c43 (all_nt c43 (all_nt c43 (all_nt c43 (all_t c47 (all_t c47 (all_nf c49 (all_t c47 (all_t c47 (all_t c47 (all_nt c43 (all_t c47 (all_nt c43 (all_f c56 (all_f c56 (all_f c56 (all_f c56 (all_f c60 (all_f c60 (all_f c60 (all_f c56 (all_f c60 (all_f c56 (all_f Bool.false_ne_true (all_t c68 (all_t c68 (all_t c68 (all_t c68 (all_t c72 (all_t c73 (all_f Bool.false_ne_true (all_t rfl (all_t c76 all_nil))))))))))))))))))))))))))))))))))))))))))))))))))))))))))))))))))))))))))))) ?_
    intro p hp p2 hq
    rcases List.mem_cons.1 hp with rfl | hp
    · skip
      have h3 := l5_1_ok m (m + 24) x3 x4 x5 s20 ((l5_0_k3 x3 s19 s20)) (l5_0_k14 x3 x4 s19 s20 b0) 0 (l5_0_k8 x3 x4 s19 s20 b0) (l5_0_k15 x3 x4 s19 s20 b1) (l5_0_k22 x3 x4 s19 s20 b0) _ (some_getD (d := l5_1D) c67)
      exact Eq.trans (Eq.mp (by kernel_rfl) h3) hq
    cases hp
  exact turns_step ht ih
set_option maxHeartbeats 20000000 in
theorem l5_0_w31 (m n : Nat) (x3 : List Int) (x4 : List Int) (x5 : Bool) (s19 : Int) (s20 : Int) (b0 : (Int × Int × Int) × Bool × Int × Bool × (List (List UInt8)) × Int) (b1 : (Int × Int × Int) × Int × Int × Int × (List (List UInt8)) × (List (List UInt8))) (r : AEx × Env × Boxes) (c0 : decide (s20 < (((List.length x3) : Nat) : Int)) = true) (c5 : decide (s20 < (((List.length x4) : Nat) : Int)) = true) (c8 : decide (s20 < 40) = true) (c9 : decide (0 ≤ s20) = true) (c17 : decide (List.length (l5_0_k4 x4 s20) ≤ 1000000) = true) (c18 : (decide (0 ≤ (l5_0_k13 x4 s20)) && decide (l5_0_k19 x4 s20)) = true) (c19 : tickPre b0 (l5_0_k3 x3 s19 s20) (l5_0_k18 x4 s20) = true) (c20 : rtickPre b1 (l5_0_k3 x3 s19 s20) (l5_0_k4 x4 s20) = true) (c21 : ¬ (l5_0_k2 x3 x4 s19 s20 b1).2.2 = true) (c22 : (l5_0_k20 x3 x4 s19 s20 b0 b1) = true) (c27 : decide (l5_0_k24 x3 x4 s19 s20 b0) = true) (c30 : ((show List (List UInt8) from (l5_0_k10 x3 x4 s19 s20 b0)) == ([] : List (List UInt8))) = true) (c33 : decide (l5_0_k16 x4 s20) = true) (c36 : (l5_0_k21 x4 s20) = true) (c43 : ((!(l5_0_k1 x3 x4 s19 s20 b0).2.2.2.1) == decide (l5_0_k23 x3 x4 s19 s20 b1)) = true) (c47 : decide ((l5_0_k2 x3 x4 s19 s20 b1).1.2.1 ≥ 0) = true) (c49 : ¬ (l5_0_k1 x3 x4 s19 s20 b0).2.2.2.1 = true) (c56 : ¬ ((-1) != (l5_0_k2 x3 x4 s19 s20 b1).1.2.2.1) = true) (c60 : ¬ decide (l5_0_k23 x3 x4 s19 s20 b1) = true) (c67 : (Option.isSome (l5_0_k7 x3 x4 x5 s19 s20 b0 b1 m)) = true) (c68 : x5 = true) (c72 : ¬ (l5_0_k17 s20) = true) (ih : (turns (hds 5 1769528) 0 1769528 (evC byref (evCall F S13 (m + 24)) (m + 24) 0 (hds 5) lbl5_0) n (l5_0_k11 x3 x4 x5 s19 s20 b0 b1) (l5_0_k12 x3 x4 x5 s19 s20 b0 b1)).run = some r) : (turns (hds 5 1769528) 0 1769528 (evC byref (evCall F S13 (m + 24)) (m + 24) 0 (hds 5) lbl5_0) (n + 1) (l5_0_k70 x3 x4 x5 s19 s20 b0 b1) (l5_0B x3 x4 x5 s19 s20 b0 b1)).run = some r := by
  have ht : (turn (hds 5 1769528) 0 1769528 (evC byref (evCall F S13 (m + 24)) (m + 24) 0 (hds 5) lbl5_0) (l5_0_k70 x3 x4 x5 s19 s20 b0 b1) (l5_0B x3 x4 x5 s19 s20 b0 b1)).run = some (.normal, l5_0H x3 x4 x5 (((l5_0_k3 x3 s19 s20))) (l5_0_k25 s20) ((l5_0_k8 x3 x4 s19 s20 b0)) ((l5_0_k15 x3 x4 s19 s20 b1)), l5_0B x3 x4 x5 (((l5_0_k3 x3 s19 s20))) (l5_0_k25 s20) ((l5_0_k8 x3 x4 s19 s20 b0)) ((l5_0_k15 x3 x4 s19 s20 b1))) := by
    refine turnT_ok (LS := (fun k => if k = 4597486622597666575075041081450927550856217366560964664 then some (l5_0_k5 x3 x4 x5 s19 s20 b0 b1 m) else none)) (vis := [(4597486622597666575075041081450927550856217366560964664, l5_1H x3 x4 x5 s20 ((l5_0_k3 x3 s19 s20)) (l5_0_k14 x3 x4 s19 s20 b0) 0 (l5_0_k8 x3 x4 s19 s20 b0) (l5_0_k15 x3 x4 s19 s20 b1) (l5_0_k22 x3 x4 s19 s20 b0), l5_1B x3 x4 x5 s20 ((l5_0_k3 x3 s19 s20)) (l5_0_k14 x3 x4 s19 s20 b0) 0 (l5_0_k8 x3 x4 s19 s20 b0) (l5_0_k15 x3 x4 s19 s20 b1) (l5_0_k22 x3 x4 s19 s20 b0))]) (by kernel_rfl) (M.run_of_path _ [true, true, true, true, true, true, true, true, true, true, true, true, true, true, true, true, true, true, true, true, true, true, false, false, false, true, true, true, false, false, false, false, false, true, false, false, false, false, false, false, false, false, false, false, false, false, false, true, true, true, true, true, true, false, true, false, false, false, false, false, false, false, false, false, false, false, false, true, true, true, true, false] _ _ (by kernel_rfl) (all_t c0 (all_t c0 (all_t c0 (all_t c0 (all_t c0 (all_t c5 (all_t c5 (all_t c5 (all_t c8 (all_t c9 (all_t c0 (all_t rfl (all_t c9 (all_t c5 (all_t rfl (all_t rfl (all_t rfl (all_t c17 (all_t c18 (all_t c19 (all_t c20 (all_nf c21 (all_nt c22 (all_nt c22 (all_nt c22 (all_t (show decide ((0 + (l5_0_k6 x3 x4 s19 s20 b0)) ≤ (l5_0_k6 x3 x4 s19 s20 b0)) = true from decide_eq_true (Nat.le_of_eq (Nat.zero_add _))) (all_t rfl (all_t c27 (all_nt c22 (all_nt c22 (all_nt c30 (all_nt c30 (all_nt c30 (all_t c33 (all_nt c30 (all_nt c30 (all_nt c36 (all_nt c36 (all_nt c36 (all_nt c36 (all_nt c36 (all_nt c36 (all_nt c36 (all_nt c43 (all_nt c43 (all_nt c43 (all_nt c43 (all_t c47 (all_t c47 (all_nf c49 (all_t c47 (all_t c47 (all_t c47 (all_nt c43 (all_t c47 (all_nt c43 (all_f c56 (all_f c56 (all_f c56 (all_f c56 (all_f c60 (all_f c60 (all_f c60 (all_f c56 (all_f c60 (all_f c56 (all_f Bool.false_ne_true (all_t c68 (all_t c68 (all_t c68 (all_t c68 (all_f c72 all_nil))))))))))))))))))))))))))))))))))))))))))))))))))))))))))))))))))))))))) ?_
    intro p hp p2 hq
    rcases List.mem_cons.1 hp with rfl | hp
    · skip
      have h3 := l5_1_ok m (m + 24) x3 x4 x5 s20 ((l5_0_k3 x3 s19 s20)) (l5_0_k14 x3 x4 s19 s20 b0) 0 (l5_0_k8 x3 x4 s19 s20 b0) (l5_0_k15 x3 x4 s19 s20 b1) (l5_0_k22 x3 x4 s19 s20 b0) _ (some_getD (d := l5_1D) c67)
      exact Eq.trans (Eq.mp (by kernel_rfl) h3) hq
    cases hp
  exact turns_step ht ih

set_option maxHeartbeats 20000000 in
theorem l5_0_w32 (m n : Nat) (x3 : List Int) (x4 : List Int) (x5 : Bool) (s19 : Int) (s20 : Int) (b0 : (Int × Int × Int) × Bool × Int × Bool × (List (List UInt8)) × Int) (b1 : (Int × Int × Int) × Int × Int × Int × (List (List UInt8)) × (List (List UInt8))) (r : AEx × Env × Boxes) (c0 : decide (s20 < (((List.length x3) : Nat) : Int)) = true) (c5 : decide (s20 < (((List.length x4) : Nat) : Int)) = true) (c8 : decide (s20 < 40) = true) (c9 : decide (0 ≤ s20) = true) (c17 : decide (List.length (l5_0_k4 x4 s20) ≤ 1000000) = true) (c18 : (decide (0 ≤ (l5_0_k13 x4 s20)) && decide (l5_0_k19 x4 s20)) = true) (c19 : tickPre b0 (l5_0_k3 x3 s19 s20) (l5_0_k18 x4 s20) = true) (c20 : rtickPre b1 (l5_0_k3 x3 s19 s20) (l5_0_k4 x4 s20) = true) (c21 : ¬ (l5_0_k2 x3 x4 s19 s20 b1).2.2 = true) (c22 : (l5_0_k20 x3 x4 s19 s20 b0 b1) = true) (c27 : decide (l5_0_k24 x3 x4 s19 s20 b0) = true) (c30 : ((show List (List UInt8) from (l5_0_k10 x3 x4 s19 s20 b0)) == ([] : List (List UInt8))) = true) (c33 : decide (l5_0_k16 x4 s20) = true) (c36 : (l5_0_k21 x4 s20) = true) (c43 : ((!(l5_0_k1 x3 x4 s19 s20 b0).2.2.2.1) == decide (l5_0_k23 x3 x4 s19 s20 b1)) = true) (c47 : decide ((l5_0_k2 x3 x4 s19 s20 b1).1.2.1 ≥ 0) = true) (c49 : ¬ (l5_0_k1 x3 x4 s19 s20 b0).2.2.2.1 = true) (c56 : ¬ ((-1) != (l5_0_k2 x3 x4 s19 s20 b1).1.2.2.1) = true) (c60 : ¬ decide (l5_0_k23 x3 x4 s19 s20 b1) = true) (c67 : (Option.isSome (l5_0_k7 x3 x4 x5 s19 s20 b0 b1 m)) = true) (c68 : ¬ x5 = true) (ih : (turns (hds 5 1769528) 0 1769528 (evC byref (evCall F S13 (m + 24)) (m + 24) 0 (hds 5) lbl5_0) n (l5_0_k11 x3 x4 x5 s19 s20 b0 b1) (l5_0_k12 x3 x4 x5 s19 s20 b0 b1)).run = some r) : (turns (hds 5 1769528) 0 1769528 (evC byref (evCall F S13 (m + 24)) (m + 24) 0 (hds 5) lbl5_0) (n + 1) (l5_0_k70 x3 x4 x5 s19 s20 b0 b1) (l5_0B x3 x4 x5 s19 s20 b0 b1)).run = some r := by
  have ht : (turn (hds 5 1769528) 0 1769528 (evC byref (evCall F S13 (m + 24)) (m + 24) 0 (hds 5) lbl5_0) (l5_0_k70 x3 x4 x5 s19 s20 b0 b1) (l5_0B x3 x4 x5 s19 s20 b0 b1)).run = some (.normal, l5_0H x3 x4 x5 (((l5_0_k3 x3 s19 s20))) (l5_0_k25 s20) ((l5_0_k8 x3 x4 s19 s20 b0)) ((l5_0_k15 x3 x4 s19 s20 b1)), l5_0B x3 x4 x5 (((l5_0_k3 x3 s19 s20))) (l5_0_k25 s20) ((l5_0_k8 x3 x4 s19 s20 b0)) ((l5_0_k15 x3 x4 s19 s20 b1))) := by
    refine turnT_ok (LS := (fun k => if k = 4597486622597666575075041081450927550856217366560964664 then some (l5_0_k5 x3 x4 x5 s19 s20 b0 b1 m) else none)) (vis := [(4597486622597666575075041081450927550856217366560964664, l5_1H x3 x4 x5 s20 ((l5_0_k3 x3 s19 s20)) (l5_0_k14 x3 x4 s19 s20 b0) 0 (l5_0_k8 x3 x4 s19 s20 b0) (l5_0_k15 x3 x4 s19 s20 b1) (l5_0_k22 x3 x4 s19 s20 b0), l5_1B x3 x4 x5 s20 ((l5_0_k3 x3 s19 s20)) (l5_0_k14 x3 x4 s19 s20 b0) 0 (l5_0_k8 x3 x4 s19 s20 b0) (l5_0_k15 x3 x4 s19 s20 b1) (l5_0_k22 x3 x4 s19 s20 b0))]) (by kernel_rfl) (M.run_of_path _ [true, true, true, true, true, true, true, true, true, true, true, true, true, true, true, true, true, true, true, true, true, true, false, false, false, true, true, true, false, false, false, false, false, true, false, false, false, false, false, false, false, false, false, false, false, false, false, true, true, true, true, true, true, false, true, false, false, false, false, false, false, false, false, false, false, false, false, false, false, false, false, false] _ _ (by kernel_rfl) (all_t c0 (all_t c0 (all_t c0 (all_t c0 (all_t c0 (all_t c5 (all_t c5 (all_t c5 (all_t c8 (all_t c9 (all_t c0 (all_t rfl (all_t c9 (all_t c5 (all_t rfl (all_t rfl (all_t rfl (all_t c17 (all_t c18 (all_t c19 (all_t c20 (all_nf c21 (all_nt c22 (all_nt c22 (all_nt c22 (all_t (show decide ((0 + (l5_0_k6 x3 x4 s19 s20 b0)) ≤ (l5_0_k6 x3 x4 s19 s20 b0)) = true from decide_eq_true (Nat.le_of_eq (Nat.zero_add _))) (all_t rfl (all_t c27 (all_nt c22 (all_nt c22 (all_nt c30 (all_nt c30 (all_nt c30 (all_t c33 (all_nt c30 (all_nt c30 (all_nt c36 (all_nt c36 (all_nt c36 (all_nt c36 (all_nt c36 (all_nt c36 (all_nt c36 (all_nt c43 (all_nt c43 (all_nt c43 (all_nt c43 (all_t c47 (all_t c47 (all_nf c49 (all_t c47 (all_t c47 (all_t c47 (all_nt c43 (all_t c47 (all_nt c43 (all_f c56 (all_f c56 (all_f c56 (all_f c56 (all_f c60 (all_f c60 (all_f c60 (all_f c56 (all_f c60 (all_f c56 (all_f Bool.false_ne_true (all_f c68 (all_f c68 (all_f c68 (all_f c68 (all_f Bool.false_ne_true all_nil))))))))))))))))))))))))))))))))))))))))))))))))))))))))))))))))))))))))) ?_
    intro p hp p2 hq
    rcases List.mem_cons.1 hp with rfl | hp
    · skip
      have h3 := l5_1_ok m (m + 24) x3 x4 x5 s20 ((l5_0_k3 x3 s19 s20)) (l5_0_k14 x3 x4 s19 s20 b0) 0 (l5_0_k8 x3 x4 s19 s20 b0) (l5_0_k15 x3 x4 s19 s20 b1) (l5_0_k22 x3 x4 s19 s20 b0) _ (some_getD (d := l5_1D) c67)
      exact Eq.trans (Eq.mp (by kernel_rfl) h3) hq
    cases hp
  exact turns_step ht ih
set_option maxHeartbeats 20000000 in
theorem l5_0_w33 (m n : Nat) (x3 : List Int) (x4 : List Int) (x5 : Bool) (s19 : Int) (s20 : Int) (b0 : (Int × Int × Int) × Bool × Int × Bool × (List (List UInt8)) × Int) (b1 : (Int × Int × Int) × Int × Int × Int × (List (List UInt8)) × (List (List UInt8))) (r : AEx × Env × Boxes) (c0 : decide (s20 < (((List.length x3) : Nat) : Int)) = true) (c5 : decide (s20 < (((List.length x4) : Nat) : Int)) = true) (c8 : decide (s20 < 40) = true) (c9 : decide (0 ≤ s20) = true) (c17 : decide (List.length (l5_0_k4 x4 s20) ≤ 1000000) = true) (c18 : (decide (0 ≤ (l5_0_k13 x4 s20)) && decide (l5_0_k19 x4 s20)) = true) (c19 : tickPre b0 (l5_0_k3 x3 s19 s20) (l5_0_k18 x4 s20) = true) (c20 : rtickPre b1 (l5_0_k3 x3 s19 s20) (l5_0_k4 x4 s20) = true) (c21 : ¬ (l5_0_k2 x3 x4 s19 s20 b1).2.2 = true) (c22 : (l5_0_k20 x3 x4 s19 s20 b0 b1) = true) (c27 : decide (l5_0_k24 x3 x4 s19 s20 b0) = true) (c30 : ((show List (List UInt8) from (l5_0_k10 x3 x4 s19 s20 b0)) == ([] : List (List UInt8))) = true) (c33 : decide (l5_0_k16 x4 s20) = true) (c36 : (l5_0_k21 x4 s20) = true) (c43 : ((!(l5_0_k1 x3 x4 s19 s20 b0).2.2.2.1) == decide (l5_0_k23 x3 x4 s19 s20 b1)) = true) (c47 : ¬ decide ((l5_0_k2 x3 x4 s19 s20 b1).1.2.1 ≥ 0) = true) (c59 : decide (l5_0_k23 x3 x4 s19 s20 b1) = true) (c61 : (l5_0_k1 x3 x4 s19 s20 b0).2.2.2.1 = true) (c66 : ¬ ((l5_0_k1 x3 x4 s19 s20 b0).2.2.2.2.1 != (-1)) = true) (c67 : (Option.isSome (l5_0_k7 x3 x4 x5 s19 s20 b0 b1 m)) = true) (c68 : x5 = true) (c72 : (l5_0_k17 s20) = true) (c73 : decide ((List.length (l5_0_k8 x3 x4 s19 s20 b0).2.2.2.2.1 * 16) ≤ 70368744177664) = true) (c76 : tickPre (l5_0_k8 x3 x4 s19 s20 b0) (IntKind.wrap .i64 (((l5_0_k3 x3 s19 s20)) + (1))) [([122, 122] : List UInt8)] = true) (ih : (turns (hds 5 1769528) 0 1769528 (evC byref (evCall F S13 (m + 24)) (m + 24) 0 (hds 5) lbl5_0) n (l5_0_k11 x3 x4 x5 s19 s20 b0 b1) (l5_0_k12 x3 x4 x5 s19 s20 b0 b1)).run = some r) : (turns (hds 5 1769528) 0 1769528 (evC byref (evCall F S13 (m + 24)) (m + 24) 0 (hds 5) lbl5_0) (n + 1) (l5_0_k70 x3 x4 x5 s19 s20 b0 b1) (l5_0B x3 x4 x5 s19 s20 b0 b1)).run = some r := by
  have ht : (turn (hds 5 1769528) 0 1769528 (evC byref (evCall F S13 (m + 24)) (m + 24) 0 (hds 5) lbl5_0) (l5_0_k70 x3 x4 x5 s19 s20 b0 b1) (l5_0B x3 x4 x5 s19 s20 b0 b1)).run = some (.normal, l5_0H x3 x4 x5 (((l5_0_k3 x3 s19 s20))) (l5_0_k25 s20) ((l5_0_k8 x3 x4 s19 s20 b0)) ((l5_0_k15 x3 x4 s19 s20 b1)), l5_0B x3 x4 x5 (((l5_0_k3 x3 s19 s20))) (l5_0_k25 s20) ((l5_0_k8 x3 x4 s19 s20 b0)) ((l5_0_k15 x3 x4 s19 s20 b1))) := by
    refine turnT_ok (LS := (fun k => if k = 4597486622597666575075041081450927550856217366560964664 then some (l5_0_k5 x3 x4 x5 s19 s20 b0 b1 m) else none)) (vis := [(4597486622597666575075041081450927550856217366560964664, l5_1H x3 x4 x5 s20 ((l5_0_k3 x3 s19 s20)) (l5_0_k14 x3 x4 s19 s20 b0) 0 (l5_0_k8 x3 x4 s19 s20 b0) (l5_0_k15 x3 x4 s19 s20 b1) (l5_0_k22 x3 x4 s19 s20 b0), l5_1B x3 x4 x5 s20 ((l5_0_k3 x3 s19 s20)) (l5_0_k14 x3 x4 s19 s20 b0) 0 (l5_0_k8 x3 x4 s19 s20 b0) (l5_0_k15 x3 x4 s19 s20 b1) (l5_0_k22 x3 x4 s19 s20 b0))]) (by kernel_rfl) (M.run_of_path _ [true, true, true, true, true, true, true, true, true, true, true, true, true, true, true, true, true, true, true, true, true, true, false, false, false, true, true, true, false, false, false, false, false, true, false, false, false, false, false, false, false, false, false, false, false, false, false, false, false, false, false, false, false, false, false, false, false, false, false, true, true, false, true, false, true, false, false, true, true, true, true, true, true, false, true, true] _ _ (by kernel_rfl) (all_t c0 (all_t c0 (all_t c0 (all_t c0 (all_t c0 (all_t c5 (all_t c5 (all_t c5 (all_t c8 (all_t c9 (all_t c0 (all_t rfl (all_t c9 (all_t c5 (all_t rfl (all_t rfl (all_t rfl (all_t c17 (all_t c18 (all_t c19 (all_t c20 (all_nf c21 (all_nt c22 (all_nt c22 (all_nt c22 (all_t (show decide ((0 + (l5_0_k6 x3 x4 s19 s20 b0)) ≤ (l5_0_k6 x3 x4 s19 s20 b0)) = true from decide_eq_true (Nat.le_of_eq (Nat.zero_add _))) (all_t rfl (all_t c27 (all_nt c22 (all_nt c22 (all_nt c30 (all_nt c30 (all_nt c30 (all_t c33 (all_nt c30 (all_nt c30 (all_nt c36 (all_nt c36 (all_nt c36 (all_nt c36 (all_nt c36 (all_nt c36 (all_nt c36 (all_nt c43 (all_nt c43 (all_nt c43 (all_nt c43 (all_f c47 (all_f c47 (all_f c47 (all_f c47 (all_f c47 (all_nt c43 (all_f c47 (all_nt c43 (all_f Bool.false_ne_true (all_f Bool.false_ne_true (all_f Bool.false_ne_true (all_f Bool.false_ne_true (all_t c59 (all_t c59 (all_nt c61 (all_t c59 (all_f Bool.false_ne_true (all_t c59 (all_f Bool.false_ne_true (all_f c66 (all_t c68 (all_t c68 (all_t c68 (all_t c68 (all_t c72 (all_t c73 (all_f Bool.false_ne_true (all_t rfl (all_t c76 all_nil))))))))))))))))))))))))))))))))))))))))))))))))))))))))))))))))))))))))))))) ?_
    intro p hp p2 hq
    rcases List.mem_cons.1 hp with rfl | hp
    · skip
      have h3 := l5_1_ok m (m + 24) x3 x4 x5 s20 ((l5_0_k3 x3 s19 s20)) (l5_0_k14 x3 x4 s19 s20 b0) 0 (l5_0_k8 x3 x4 s19 s20 b0) (l5_0_k15 x3 x4 s19 s20 b1) (l5_0_k22 x3 x4 s19 s20 b0) _ (some_getD (d := l5_1D) c67)
      exact Eq.trans (Eq.mp (by kernel_rfl) h3) hq
    cases hp
  exact turns_step ht ih
set_option maxHeartbeats 20000000 in
theorem l5_0_w34 (m n : Nat) (x3 : List Int) (x4 : List Int) (x5 : Bool) (s19 : Int) (s20 : Int) (b0 : (Int × Int × Int) × Bool × Int × Bool × (List (List UInt8)) × Int) (b1 : (Int × Int × Int) × Int × Int × Int × (List (List UInt8)) × (List (List UInt8))) (r : AEx × Env × Boxes) (c0 : decide (s20 < (((List.length x3) : Nat) : Int)) = true) (c5 : decide (s20 < (((List.length x4) : Nat) : Int)) = true) (c8 : decide (s20 < 40) = true) (c9 : decide (0 ≤ s20) = true) (c17 : decide (List.length (l5_0_k4 x4 s20) ≤ 1000000) = true) (c18 : (decide (0 ≤ (l5_0_k13 x4 s20)) && decide (l5_0_k19 x4 s20)) = true) (c19 : tickPre b0 (l5_0_k3 x3 s19 s20) (l5_0_k18 x4 s20) = true) (c20 : rtickPre b1 (l5_0_k3 x3 s19 s20) (l5_0_k4 x4 s20) = true) (c21 : ¬ (l5_0_k2 x3 x4 s19 s20 b1).2.2 = true) (c22 : (l5_0_k20 x3 x4 s19 s20 b0 b1) = true) (c27 : decide (l5_0_k24 x3 x4 s19 s20 b0) = true) (c30 : ((show List (List UInt8) from (l5_0_k10 x3 x4 s19 s20 b0)) == ([] : List (List UInt8))) = true) (c33 : decide (l5_0_k16 x4 s20) = true) (c36 : (l5_0_k21 x4 s20) = true) (c43 : ((!(l5_0_k1 x3 x4 s19 s20 b0).2.2.2.1) == decide (l5_0_k23 x3 x4 s19 s20 b1)) = true) (c47 : ¬ decide ((l5_0_k2 x3 x4 s19 s20 b1).1.2.1 ≥ 0) = true) (c59 : decide (l5_0_k23 x3 x4 s19 s20 b1) = true) (c61 : (l5_0_k1 x3 x4 s19 s20 b0).2.2.2.1 = true) (c66 : ¬ ((l5_0_k1 x3 x4 s19 s20 b0).2.2.2.2.1 != (-1)) = true) (c67 : (Option.isSome (l5_0_k7 x3 x4 x5 s19 s20 b0 b1 m)) = true) (c68 : x5 = true) (c72 : ¬ (l5_0_k17 s20) = true) (ih : (turns (hds 5 1769528) 0 1769528 (evC byref (evCall F S13 (m + 24)) (m + 24) 0 (hds 5) lbl5_0) n (l5_0_k11 x3 x4 x5 s19 s20 b0 b1) (l5_0_k12 x3 x4 x5 s19 s20 b0 b1)).run = some r) : (turns (hds 5 1769528) 0 1769528 (evC byref (evCall F S13 (m + 24)) (m + 24) 0 (hds 5) lbl5_0) (n + 1) (l5_0_k70 x3 x4 x5 s19 s20 b0 b1) (l5_0B x3 x4 x5 s19 s20 b0 b1)).run = some r := by
  have ht : (turn (hds 5 1769528) 0 1769528 (evC byref (evCall F S13 (m + 24)) (m + 24) 0 (hds 5) lbl5_0) (l5_0_k70 x3 x4 x5 s19 s20 b0 b1) (l5_0B x3 x4 x5 s19 s20 b0 b1)).run = some (.normal, l5_0H x3 x4 x5 (((l5_0_k3 x3 s19 s20))) (l5_0_k25 s20) ((l5_0_k8 x3 x4 s19 s20 b0)) ((l5_0_k15 x3 x4 s19 s20 b1)), l5_0B x3 x4 x5 (((l5_0_k3 x3 s19 s20))) (l5_0_k25 s20) ((l5_0_k8 x3 x4 s19 s20 b0)) ((l5_0_k15 x3 x4 s19 s20 b1))) := by
    refine turnT_ok (LS := (fun k => if k = 4597486622597666575075041081450927550856217366560964664 then some (l5_0_k5 x3 x4 x5 s19 s20 b0 b1 m) else none)) (vis := [(4597486622597666575075041081450927550856217366560964664, l5_1H x3 x4 x5 s20 ((l5_0_k3 x3 s19 s20)) (l5_0_k14 x3 x4 s19 s20 b0) 0 (l5_0_k8 x3 x4 s19 s20 b0) (l5_0_k15 x3 x4 s19 s20 b1) (l5_0_k22 x3 x4 s19 s20 b0), l5_1B x3 x4 x5 s20 ((l5_0_k3 x3 s19 s20)) (l5_0_k14 x3 x4 s19 s20 b0) 0 (l5_0_k8 x3 x4 s19 s20 b0) (l5_0_k15 x3 x4 s19 s20 b1) (l5_0_k22 x3 x4 s19 s20 b0))]) (by kernel_rfl) (M.run_of_path _ [true, true, true, true, true, true, true, true, true, true, true, true, true, true, true, true, true, true, true, true, true, true, false, false, false, true, true, true, false, false, false, false, false, true, false, false, false, false, false, false, false, false, false, false, false, false, false, false, false, false, false, false, false, false, false, false, false, false, false, true, true, false, true, false, true, false, false, true, true, true, true, false] _ _ (by kernel_rfl) (all_t c0 (all_t c0 (all_t c0 (all_t c0 (all_t c0 (all_t c5 (all_t c5 (all_t c5 (all_t c8 (all_t c9 (all_t c0 (all_t rfl (all_t c9 (all_t c5 (all_t rfl (all_t rfl (all_t rfl (all_t c17 (all_t c18 (all_t c19 (all_t c20 (all_nf c21 (all_nt c22 (all_nt c22 (all_nt c22 (all_t (show decide ((0 + (l5_0_k6 x3 x4 s19 s20 b0)) ≤ (l5_0_k6 x3 x4 s19 s20 b0)) = true from decide_eq_true (Nat.le_of_eq (Nat.zero_add _))) (all_t rfl (all_t c27 (all_nt c22 (all_nt c22 (all_nt c30 (all_nt c30 (all_nt c30 (all_t c33 (all_nt c30 (all_nt c30 (all_nt c36 (all_nt c36 (all_nt c36 (all_nt c36 (all_nt c36 (all_nt c36 (all_nt c36 (all_nt c43 (all_nt c43 (all_nt c43 (all_nt c43 (all_f c47 (all_f c47 (all_f c47 (all_f c47 (all_f c47 (all_nt c43 (all_f c47 (all_nt c43 (all_f Bool.false_ne_true (all_f Bool.false_ne_true (all_f Bool.false_ne_true (all_f Bool.false_ne_true (all_t c59 (all_t c59 (all_nt c61 (all_t c59 (all_f Bool.false_ne_true (all_t c59 (all_f Bool.false_ne_true (all_f c66 (all_t c68 (all_t c68 (all_t c68 (all_t c68 (all_f c72 all_nil))))))))))))))))))))))))))))))))))))))))))))))))))))))))))))))))))))))))) ?_
    intro p hp p2 hq
    rcases List.mem_cons.1 hp with rfl | hp
    · skip
      have h3 := l5_1_ok m (m + 24) x3 x4 x5 s20 ((l5_0_k3 x3 s19 s20)) (l5_0_k14 x3 x4 s19 s20 b0) 0 (l5_0_k8 x3 x4 s19 s20 b0) (l5_0_k15 x3 x4 s19 s20 b1) (l5_0_k22 x3 x4 s19 s20 b0) _ (some_getD (d := l5_1D) c67)
      exact Eq.trans (Eq.mp (by kernel_rfl) h3) hq
    cases hp
  exact turns_step ht ih
set_option maxHeartbeats 20000000 in
theorem l5_0_w35 (m n : Nat) (x3 : List Int) (x4 : List Int) (x5 : Bool) (s19 : Int) (s20 : Int) (b0 : (Int × Int × Int) × Bool × Int × Bool × (List (List UInt8)) × Int) (b1 : (Int × Int × Int) × Int × Int × Int × (List (List UInt8)) × (List (List UInt8))) (r : AEx × Env × Boxes) (c0 : decide (s20 < (((List.length x3) : Nat) : Int)) = true) (c5 : decide (s20 < (((List.length x4) : Nat) : Int)) = true) (c8 : decide (s20 < 40) = true) (c9 : decide (0 ≤ s20) = true) (c17 : decide (List.length (l5_0_k4 x4 s20) ≤ 1000000) = true) (c18 : (decide (0 ≤ (l5_0_k13 x4 s20)) && decide (l5_0_k19 x4 s20)) = true) (c19 : tickPre b0 (l5_0_k3 x3 s19 s20) (l5_0_k18 x4 s20) = true) (c20 : rtickPre b1 (l5_0_k3 x3 s19 s20) (l5_0_k4 x4 s20) = true) (c21 : ¬ (l5_0_k2 x3 x4 s19 s20 b1).2.2 = true) (c22 : (l5_0_k20 x3 x4 s19 s20 b0 b1) = true) (c27 : decide (l5_0_k24 x3 x4 s19 s20 b0) = true) (c30 : ((show List (List UInt8) from (l5_0_k10 x3 x4 s19 s20 b0)) == ([] : List (List UInt8))) = true) (c33 : decide (l5_0_k16 x4 s20) = true) (c36 : (l5_0_k21 x4 s20) = true) (c43 : ((!(l5_0_k1 x3 x4 s19 s20 b0).2.2.2.1) == decide (l5_0_k23 x3 x4 s19 s20 b1)) = true) (c47 : ¬ decide ((l5_0_k2 x3 x4 s19 s20 b1).1.2.1 ≥ 0) = true) (c59 : decide (l5_0_k23 x3 x4 s19 s20 b1) = true) (c61 : (l5_0_k1 x3 x4 s19 s20 b0).2.2.2.1 = true) (c66 : ¬ ((l5_0_k1 x3 x4 s19 s20 b0).2.2.2.2.1 != (-1)) = true) (c67 : (Option.isSome (l5_0_k7 x3 x4 x5 s19 s20 b0 b1 m)) = true) (c68 : ¬ x5 = true) (ih : (turns (hds 5 1769528) 0 1769528 (evC byref (evCall F S13 (m + 24)) (m + 24) 0 (hds 5) lbl5_0) n (l5_0_k11 x3 x4 x5 s19 s20 b0 b1) (l5_0_k12 x3 x4 x5 s19 s20 b0 b1)).run = some r) : (turns (hds 5 1769528) 0 1769528 (evC byref (evCall F S13 (m + 24)) (m + 24) 0 (hds 5) lbl5_0) (n + 1) (l5_0_k70 x3 x4 x5 s19 s20 b0 b1) (l5_0B x3 x4 x5 s19 s20 b0 b1)).run = some r := by
  have ht : (turn (hds 5 1769528) 0 1769528 (evC byref (evCall F S13 (m + 24)) (m + 24) 0 (hds 5) lbl5_0) (l5_0_k70 x3 x4 x5 s19 s20 b0 b1) (l5_0B x3 x4 x5 s19 s20 b0 b1)).run = some (.normal, l5_0H x3 x4 x5 (((l5_0_k3 x3 s19 s20))) (l5_0_k25 s20) ((l5_0_k8 x3 x4 s19 s20 b0)) ((l5_0_k15 x3 x4 s19 s20 b1)), l5_0B x3 x4 x5 (((l5_0_k3 x3 s19 s20))) (l5_0_k25 s20) ((l5_0_k8 x3 x4 s19 s20 b0)) ((l5_0_k15 x3 x4 s19 s20 b1))) := by
    refine turnT_ok (LS := (fun k => if k = 4597486622597666575075041081450927550856217366560964664 then some (l5_0_k5 x3 x4 x5 s19 s20 b0 b1 m) else none)) (vis := [(4597486622597666575075041081450927550856217366560964664, l5_1H x3 x4 x5 s20 ((l5_0_k3 x3 s19 s20)) (l5_0_k14 x3 x4 s19 s20 b0) 0 (l5_0_k8 x3 x4 s19 s20 b0) (l5_0_k15 x3 x4 s19 s20 b1) (l5_0_k22 x3 x4 s19 s20 b0), l5_1B x3 x4 x5 s20 ((l5_0_k3 x3 s19 s20)) (l5_0_k14 x3 x4 s19 s20 b0) 0 (l5_0_k8 x3 x4 s19 s20 b0) (l5_0_k15 x3 x4 s19 s20 b1) (l5_0_k22 x3 x4 s19 s20 b0))]) (by kernel_rfl) (M.run_of_path _ [true, true, true, true, true, true, true, true, true, true, true, true, true, true, true, true, true, true, true, true, true, true, false, false, false, true, true, true, false, false, false, false, false, true, false, false, false, false, false, false, false, false, false, false, false, false, false, false, false, false, false, false, false, false, false, false, false, false, false, true, true, false, true, false, true, false, false, false, false, false, false, false] _ _ (by kernel_rfl) (all_t c0 (all_t c0 (all_t c0 (all_t c0 (all_t c0 (all_t c5 (all_t c5 (all_t c5 (all_t c8 (all_t c9 (all_t c0 (all_t rfl (all_t c9 (all_t c5 (all_t rfl (all_t rfl (all_t rfl (all_t c17 (all_t c18 (all_t c19 (all_t c20 (all_nf c21 (all_nt c22 (all_nt c22 (all_nt c22 (all_t (show decide ((0 + (l5_0_k6 x3 x4 s19 s20 b0)) ≤ (l5_0_k6 x3 x4 s19 s20 b0)) = true from decide_eq_true (Nat.le_of_eq (Nat.zero_add _))) (all_t rfl (all_t c27 (all_nt c22 (all_nt c22 (all_nt c30 (all_nt c30 (all_nt c30 (all_t c33 (all_nt c30 (all_nt c30 (all_nt c36 (all_nt c36 (all_nt c36 (all_nt c36 (all_nt c36 (all_nt c36 (all_nt c36 (all_nt c43 (all_nt c43 (all_nt c43 (all_nt c43 (all_f c47 (all_f c47 (all_f c47 (all_f c47 (all_f c47 (all_nt c43 (all_f c47 (all_nt c43 (all_f Bool.false_ne_true (all_f Bool.false_ne_true (all_f Bool.false_ne_true (all_f Bool.false_ne_true (all_t c59 (all_t c59 (all_nt c61 (all_t c59 (all_f Bool.false_ne_true (all_t c59 (all_f Bool.false_ne_true (all_f c66 (all_f c68 (all_f c68 (all_f c68 (all_f c68 (all_f Bool.false_ne_true all_nil))))))))))))))))))))))))))))))))))))))))))))))))))))))))))))))))))))))))) ?_
    intro p hp p2 hq
    rcases List.mem_cons.1 hp with rfl | hp
    · skip
      have h3 := l5_1_ok m (m + 24) x3 x4 x5 s20 ((l5_0_k3 x3 s19 s20)) (l5_0_k14 x3 x4 s19 s20 b0) 0 (l5_0_k8 x3 x4 s19 s20 b0) (l5_0_k15 x3 x4 s19 s20 b1) (l5_0_k22 x3 x4 s19 s20 b0) _ (some_getD (d := l5_1D) c67)
      exact Eq.trans (Eq.mp (by kernel_rfl) h3) hq
    cases hp
  exact turns_step ht ih
set_option maxHeartbeats 20000000 in
theorem l5_0_w36 (m n : Nat) (x3 : List Int) (x4 : List Int) (x5 : Bool) (s19 : Int) (s20 : Int) (b0 : (Int × Int × Int) × Bool × Int × Bool × (List (List UInt8)) × Int) (b1 : (Int × Int × Int) × Int × Int × Int × (List (List UInt8)) × (List (List UInt8))) (r : AEx × Env × Boxes) (c0 : decide (s20 < (((List.length x3) : Nat) : Int)) = true) (c5 : decide (s20 < (((List.length x4) : Nat) : Int)) = true) (c8 : decide (s20 < 40) = true) (c9 : decide (0 ≤ s20) = true) (c17 : decide (List.length (l5_0_k4 x4 s20) ≤ 1000000) = true) (c18 : (decide (0 ≤ (l5_0_k13 x4 s20)) && decide (l5_0_k19 x4 s20)) = true) (c19 : tickPre b0 (l5_0_k3 x3 s19 s20) (l5_0_k18 x4 s20) = true) (c20 : rtickPre b1 (l5_0_k3 x3 s19 s20) (l5_0_k4 x4 s20) = true) (c21 : ¬ (l5_0_k2 x3 x4 s19 s20 b1).2.2 = true) (c22 : (l5_0_k20 x3 x4 s19 s20 b0 b1) = true) (c27 : decide (l5_0_k24 x3 x4 s19 s20 b0) = true) (c30 : ((show List (List UInt8) from (l5_0_k10 x3 x4 s19 s20 b0)) == ([] : List (List UInt8))) = true) (c33 : decide (l5_0_k16 x4 s20) = true) (c36 : (l5_0_k21 x4 s20) = true) (c43 : ((!(l5_0_k1 x3 x4 s19 s20 b0).2.2.2.1) == decide (l5_0_k23 x3 x4 s19 s20 b1)) = true) (c47 : ¬ decide ((l5_0_k2 x3 x4 s19 s20 b1).1.2.1 ≥ 0) = true) (c59 : decide (l5_0_k23 x3 x4 s19 s20 b1) = true) (c61 : ¬ (l5_0_k1 x3 x4 s19 s20 b0).2.2.2.1 = true) (c67 : (Option.isSome (l5_0_k7 x3 x4 x5 s19 s20 b0 b1 m)) = true) (c68 : x5 = true) (c72 : (l5_0_k17 s20) = true) (c73 : decide ((List.length (l5_0_k8 x3 x4 s19 s20 b0).2.2.2.2.1 * 16) ≤ 70368744177664) = true) (c76 : tickPre (l5_0_k8 x3 x4 s19 s20 b0) (IntKind.wrap .i64 (((l5_0_k3 x3 s19 s20)) + (1))) [([122, 122] : List UInt8)] = true) (ih : (turns (hds 5 1769528) 0 1769528 (evC byref (evCall F S13 (m + 24)) (m + 24) 0 (hds 5) lbl5_0) n (l5_0_k11 x3 x4 x5 s19 s20 b0 b1) (l5_0_k12 x3 x4 x5 s19 s20 b0 b1)).run = some r) : (turns (hds 5 1769528) 0 1769528 (evC byref (evCall F S13 (m + 24)) (m + 24) 0 (hds 5) lbl5_0) (n + 1) (l5_0_k70 x3 x4 x5 s19 s20 b0 b1) (l5_0B x3 x4 x5 s19 s20 b0 b1)).run = some r := by
  have ht : (turn (hds 5 1769528) 0 1769528 (evC byref (evCall F S13 (m + 24)) (m + 24) 0 (hds 5) lbl5_0) (l5_0_k70 x3 x4 x5 s19 s20 b0 b1) (l5_0B x3 x4 x5 s19 s20 b0 b1)).run = some (.normal, l5_0H x3 x4 x5 (((l5_0_k3 x3 s19 s20))) (l5_0_k25 s20) ((l5_0_k8 x3 x4 s19 s20 b0)) ((l5_0_k15 x3 x4 s19 s20 b1)), l5_0B x3 x4 x5 (((l5_0_k3 x3 s19 s20))) (l5_0_k25 s20) ((l5_0_k8 x3 x4 s19 s20 b0)) ((l5_0_k15 x3 x4 s19 s20 b1))) := by
    refine turnT_ok (LS := (fun k => if k = 4597486622597666575075041081450927550856217366560964664 then some (l5_0_k5 x3 x4 x5 s19 s20 b0 b1 m) else none)) (vis := [(4597486622597666575075041081450927550856217366560964664, l5_1H x3 x4 x5 s20 ((l5_0_k3 x3 s19 s20)) (l5_0_k14 x3 x4 s19 s20 b0) 0 (l5_0_k8 x3 x4 s19 s20 b0) (l5_0_k15 x3 x4 s19 s20 b1) (l5_0_k22 x3 x4 s19 s20 b0), l5_1B x3 x4 x5 s20 ((l5_0_k3 x3 s19 s20)) (l5_0_k14 x3 x4 s19 s20 b0) 0 (l5_0_k8 x3 x4 s19 s20 b0) (l5_0_k15 x3 x4 s19 s20 b1) (l5_0_k22 x3 x4 s19 s20 b0))]) (by kernel_rfl) (M.run_of_path _ [true, true, true, true, true, true, true, true, true, true, true, true, true, true, true, true, true, true, true, true, true, true, false, false, false, true, true, true, false, false, false, false, false, true, false, false, false, false, false, false, false, false, false, false, false, false, false, false, false, false, false, false, false, false, false, false, false, false, false, true, true, true, true, false, true, false, false, true, true, true, true, true, true, false, true, true] _ _ (by kernel_rfl) (all_t c0 (all_t c0 (all_t c0 (all_t c0 (all_t c0 (all_t c5 (all_t c5 (all_t c5 (all_t c8 (all_t c9 (all_t c0 (all_t rfl (all_t c9 (all_t c5 (all_t rfl (all_t rfl (all_t rfl (all_t c17 (all_t c18 (all_t c19 (all_t c20 (all_nf c21 (all_nt c22 (all_nt c22 (all_nt c22 (all_t (show decide ((0 + (l5_0_k6 x3 x4 s19 s20 b0)) ≤ (l5_0_k6 x3 x4 s19 s20 b0)) = true from decide_eq_true (Nat.le_of_eq (Nat.zero_add _))) (all_t rfl (all_t c27 (all_nt c22 (all_nt c22 (all_nt c30 (all_nt c30 (all_nt c30 (all_t c33 (all_nt c30 (all_nt c30 (all_nt c36 (all_nt c36 (all_nt c36 (all_nt c36 (all_nt c36 (all_nt c36 (all_nt c36 (all_nt c43 (all_nt c43 (all_nt c43 (all_nt c43 (all_f c47 (all_f c47 (all_f c47 (all_f c47 (all_f c47 (all_nt c43 (all_f c47 (all_nt c43 (all_f Bool.false_ne_true (all_f Bool.false_ne_true (all_f Bool.false_ne_true (all_f Bool.false_ne_true (all_t c59 (all_t c59 (all_nf c61 (all_t c59 (all_f Bool.false_ne_true (all_t c59 (all_f Bool.false_ne_true (all_f Bool.false_ne_true (all_t c68 (all_t c68 (all_t c68 (all_t c68 (all_t c72 (all_t c73 (all_f Bool.false_ne_true (all_t rfl (all_t c76 all_nil))))))))))))))))))))))))))))))))))))))))))))))))))))))))))))))))))))))))))))) ?_
    intro p hp p2 hq
    rcases List.mem_cons.1 hp with rfl | hp
    · skip
      have h3 := l5_1_ok m (m + 24) x3 x4 x5 s20 ((l5_0_k3 x3 s19 s20)) (l5_0_k14 x3 x4 s19 s20 b0) 0 (l5_0_k8 x3 x4 s19 s20 b0) (l5_0_k15 x3 x4 s19 s20 b1) (l5_0_k22 x3 x4 s19 s20 b0) _ (some_getD (d := l5_1D) c67)
      exact Eq.trans (Eq.mp (by kernel_rfl) h3) hq
    cases hp
  exact turns_step ht ih
set_option maxHeartbeats 20000000 in
theorem l5_0_w37 (m n : Nat) (x3 : List Int) (x4 : List Int) (x5 : Bool) (s19 : Int) (s20 : Int) (b0 : (Int × Int × Int) × Bool × Int × Bool × (List (List UInt8)) × Int) (b1 : (Int × Int × Int) × Int × Int × Int × (List (List UInt8)) × (List (List UInt8))) (r : AEx × Env × Boxes) (c0 : decide (s20 < (((List.length x3) : Nat) : Int)) = true) (c5 : decide (s20 < (((List.length x4) : Nat) : Int)) = true) (c8 : decide (s20 < 40) = true) (c9 : decide (0 ≤ s20) = true) (c17 : decide (List.length (l5_0_k4 x4 s20) ≤ 1000000) = true) (c18 : (decide (0 ≤ (l5_0_k13 x4 s20)) && decide (l5_0_k19 x4 s20)) = true) (c19 : tickPre b0 (l5_0_k3 x3 s19 s20) (l5_0_k18 x4 s20) = true) (c20 : rtickPre b1 (l5_0_k3 x3 s19 s20) (l5_0_k4 x4 s20) = true) (c21 : ¬ (l5_0_k2 x3 x4 s19 s20 b1).2.2 = true) (c22 : (l5_0_k20 x3 x4 s19 s20 b0 b1) = true) (c27 : decide (l5_0_k24 x3 x4 s19 s20 b0) = true) (c30 : ((show List (List UInt8) from (l5_0_k10 x3 x4 s19 s20 b0)) == ([] : List (List UInt8))) = true) (c33 : decide (l5_0_k16 x4 s20) = true) (c36 : (l5_0_k21 x4 s20) = true) (c43 : ((!(l5_0_k1 x3 x4 s19 s20 b0).2.2.2.1) == decide (l5_0_k23 x3 x4 s19 s20 b1)) = true) (c47 : ¬ decide ((l5_0_k2 x3 x4 s19 s20 b1).1.2.1 ≥ 0) = true) (c59 : decide (l5_0_k23 x3 x4 s19 s20 b1) = true) (c61 : ¬ (l5_0_k1 x3 x4 s19 s20 b0).2.2.2.1 = true) (c67 : (Option.isSome (l5_0_k7 x3 x4 x5 s19 s20 b0 b1 m)) = true) (c68 : x5 = true) (c72 : ¬ (l5_0_k17 s20) = true) (ih : (turns (hds 5 1769528) 0 1769528 (evC byref (evCall F S13 (m + 24)) (m + 24) 0 (hds 5) lbl5_0) n (l5_0_k11 x3 x4 x5 s19 s20 b0 b1) (l5_0_k12 x3 x4 x5 s19 s20 b0 b1)).run = some r) : (turns (hds 5 1769528) 0 1769528 (evC byref (evCall F S13 (m + 24)) (m + 24) 0 (hds 5) lbl5_0) (n + 1) (l5_0_k70 x3 x4 x5 s19 s20 b0 b1) (l5_0B x3 x4 x5 s19 s20 b0 b1)).run = some r := by
  have ht : (turn (hds 5 1769528) 0 1769528 (evC byref (evCall F S13 (m + 24)) (m + 24) 0 (hds 5) lbl5_0) (l5_0_k70 x3 x4 x5 s19 s20 b0 b1) (l5_0B x3 x4 x5 s19 s20 b0 b1)).run = some (.normal, l5_0H x3 x4 x5 (((l5_0_k3 x3 s19 s20))) (l5_0_k25 s20) ((l5_0_k8 x3 x4 s19 s20 b0)) ((l5_0_k15 x3 x4 s19 s20 b1)), l5_0B x3 x4 x5 (((l5_0_k3 x3 s19 s20))) (l5_0_k25 s20) ((l5_0_k8 x3 x4 s19 s20 b0)) ((l5_0_k15 x3 x4 s19 s20 b1))) := by
    refine turnT_ok (LS := (fun k => if k = 4597486622597666575075041081450927550856217366560964664 then some (l5_0_k5 x3 x4 x5 s19 s20 b0 b1 m) else none)) (vis := [(4597486622597666575075041081450927550856217366560964664, l5_1H x3 x4 x5 s20 ((l5_0_k3 x3 s19 s20)) (l5_0_k14 x3 x4 s19 s20 b0) 0 (l5_0_k8 x3 x4 s19 s20 b0) (l5_0_k15 x3 x4 s19 s20 b1) (l5_0_k22 x3 x4 s19 s20 b0), l5_1B x3 x4 x5 s20 ((l5_0_k3 x3 s19 s20)) (l5_0_k14 x3 x4 s19 s20 b0) 0 (l5_0_k8 x3 x4 s19 s20 b0) (l5_0_k15 x3 x4 s19 s20 b1) (l5_0_k22 x3 x4 s19 s20 b0))]) (by kernel_rfl) (M.run_of_path _ [true, true, true, true, true, true, true, true, true, true, true, true, true, true, true, true, true, true, true, true, true, true, false, false, false, true, true, true, false, false, false, false, false, true, false, false, false, false, false, false, false, false, false, false, false, false, false, false, false, false, false, false, false, false, false, false, false, false, false, true, true, true, true, false, true, false, false, true, true, true, true, false] _ _ (by kernel_rfl) (all_t c0 (all_t c0 (all_t c0 (all_t c0 (all_t c0 (all_t c5 (all_t c5 (all_t c5 (all_t c8 (all_t c9 (all_t c0 (all_t rfl (all_t c9 (all_t c5 (all_t rfl (all_t rfl (all_t rfl (all_t c17 (all_t c18 (all_t c19 (all_t c20 (all_nf c21 (all_nt c22 (all_nt c22 (all_nt c22 (all_t (show decide ((0 + (l5_0_k6 x3 x4 s19 s20 b0)) ≤ (l5_0_k6 x3 x4 s19 s20 b0)) = true from decide_eq_true (Nat.le_of_eq (Nat.zero_add _))) (all_t rfl (all_t c27 (all_nt c22 (all_nt c22 (all_nt c30 (all_nt c30 (all_nt c30 (all_t c33 (all_nt c30 (all_nt c30 (all_nt c36 (all_nt c36 (all_nt c36 (all_nt c36 (all_nt c36 (all_nt c36 (all_nt c36 (all_nt c43 (all_nt c43 (all_nt c43 (all_nt c43 (all_f c47 (all_f c47 (all_f c47 (all_f c47 (all_f c47 (all_nt c43 (all_f c47 (all_nt c43 (all_f Bool.false_ne_true (all_f Bool.false_ne_true (all_f Bool.false_ne_true (all_f Bool.false_ne_true (all_t c59 (all_t c59 (all_nf c61 (all_t c59 (all_f Bool.false_ne_true (all_t c59 (all_f Bool.false_ne_true (all_f Bool.false_ne_true (all_t c68 (all_t c68 (all_t c68 (all_t c68 (all_f c72 all_nil))))))))))))))))))))))))))))))))))))))))))))))))))))))))))))))))))))))))) ?_
    intro p hp p2 hq
    rcases List.mem_cons.1 hp with rfl | hp
    · skip
      have h3 := l5_1_ok m (m + 24) x3 x4 x5 s20 ((l5_0_k3 x3 s19 s20)) (l5_0_k14 x3 x4 s19 s20 b0) 0 (l5_0_k8 x3 x4 s19 s20 b0) (l5_0_k15 x3 x4 s19 s20 b1) (l5_0_k22 x3 x4 s19 s20 b0) _ (some_getD (d := l5_1D) c67)
      exact Eq.trans (Eq.mp (by kernel_rfl) h3) hq
    cases hp
  exact turns_step ht ih
set_option maxHeartbeats 20000000 in
theorem l5_0_w38 (m n : Nat) (x3 : List Int) (x4 : List Int) (x5 : Bool) (s19 : Int) (s20 : Int) (b0 : (Int × Int × Int) × Bool × Int × Bool × (List (List UInt8)) × Int) (b1 : (Int × Int × Int) × Int × Int × Int × (List (List UInt8)) × (List (List UInt8))) (r : AEx × Env × Boxes) (c0 : decide (s20 < (((List.length x3) : Nat) : Int)) = true) (c5 : decide (s20 < (((List.length x4) : Nat) : Int)) = true) (c8 : decide (s20 < 40) = true) (c9 : decide (0 ≤ s20) = true) (c17 : decide (List.length (l5_0_k4 x4 s20) ≤ 1000000) = true) (c18 : (decide (0 ≤ (l5_0_k13 x4 s20)) && decide (l5_0_k19 x4 s20)) = true) (c19 : tickPre b0 (l5_0_k3 x3 s19 s20) (l5_0_k18 x4 s20) = true) (c20 : rtickPre b1 (l5_0_k3 x3 s19 s20) (l5_0_k4 x4 s20) = true) (c21 : ¬ (l5_0_k2 x3 x4 s19 s20 b1).2.2 = true) (c22 : (l5_0_k20 x3 x4 s19 s20 b0 b1) = true) (c27 : decide (l5_0_k24 x3 x4 s19 s20 b0) = true) (c30 : ((show List (List UInt8) from (l5_0_k10 x3 x4 s19 s20 b0)) == ([] : List (List UInt8))) = true) (c33 : decide (l5_0_k16 x4 s20) = true) (c36 : (l5_0_k21 x4 s20) = true) (c43 : ((!(l5_0_k1 x3 x4 s19 s20 b0).2.2.2.1) == decide (l5_0_k23 x3 x4 s19 s20 b1)) = true) (c47 : ¬ decide ((l5_0_k2 x3 x4 s19 s20 b1).1.2.1 ≥ 0) = true) (c59 : decide (l5_0_k23 x3 x4 s19 s20 b1) = true) (c61 : ¬ (l5_0_k1 x3 x4 s19 s20 b0).2.2.2.1 = true) (c67 : (Option.isSome (l5_0_k7 x3 x4 x5 s19 s20 b0 b1 m)) = true) (c68 : ¬ x5 = true) (ih : (turns (hds 5 1769528) 0 1769528 (evC byref (evCall F S13 (m + 24)) (m + 24) 0 (hds 5) lbl5_0) n (l5_0_k11 x3 x4 x5 s19 s20 b0 b1) (l5_0_k12 x3 x4 x5 s19 s20 b0 b1)).run = some r) : (turns (hds 5 1769528) 0 1769528 (evC byref (evCall F S13 (m + 24)) (m + 24) 0 (hds 5) lbl5_0) (n + 1) (l5_0_k70 x3 x4 x5 s19 s20 b0 b1) (l5_0B x3 x4 x5 s19 s20 b0 b1)).run = some r := by
  have ht : (turn (hds 5 1769528) 0 1769528 (evC byref (evCall F S13 (m + 24)) (m + 24) 0 (hds 5) lbl5_0) (l5_0_k70 x3 x4 x5 s19 s20 b0 b1) (l5_0B x3 x4 x5 s19 s20 b0 b1)).run = some (.normal, l5_0H x3 x4 x5 (((l5_0_k3 x3 s19 s20))) (l5_0_k25 s20) ((l5_0_k8 x3 x4 s19 s20 b0)) ((l5_0_k15 x3 x4 s19 s20 b1)), l5_0B x3 x4 x5 (((l5_0_k3 x3 s19 s20))) (l5_0_k25 s20) ((l5_0_k8 x3 x4 s19 s20 b0)) ((l5_0_k15 x3 x4 s19 s20 b1))) := by
    refine turnT_ok (LS := (fun k => if k = 4597486622597666575075041081450927550856217366560964664 then some (l5_0_k5 x3 x4 x5 s19 s20 b0 b1 m) else none)) (vis := [(4597486622597666575075041081450927550856217366560964664, l5_1H x3 x4 x5 s20 ((l5_0_k3 x3 s19 s20)) (l5_0_k14 x3 x4 s19 s20 b0) 0 (l5_0_k8 x3 x4 s19 s20 b0) (l5_0_k15 x3 x4 s19 s20 b1) (l5_0_k22 x3 x4 s19 s20 b0), l5_1B x3 x4 x5 s20 ((l5_0_k3 x3 s19 s20)) (l5_0_k14 x3 x4 s19 s20 b0) 0 (l5_0_k8 x3 x4 s19 s20 b0) (l5_0_k15 x3 x4 s19 s20 b1) (l5_0_k22 x3 x4 s19 s20 b0))]) (by kernel_rfl) (M.run_of_path _ [true, true, true, true, true, true, true, true, true, true, true, true, true, true, true, true, true, true, true, true, true, true, false, false, false, true, true, true, false, false, false, false, false, true, false, false, false, false, false, false, false, false, false, false, false, false, false, false, false, false, false, false, false, false, false, false, false, false, false, true, true, true, true, false, true, false, false, false, false, false, false, false] _ _ (by kernel_rfl) (all_t c0 (all_t c0 (all_t c0 (all_t c0 (all_t c0 (all_t c5 (all_t c5 (all_t c5 (all_t c8 (all_t c9 (all_t c0 (all_t rfl (all_t c9 (all_t c5 (all_t rfl (all_t rfl (all_t rfl (all_t c17 (all_t c18 (all_t c19 (all_t c20 (all_nf c21 (all_nt c22 (all_nt c22 (all_nt c22 (all_t (show decide ((0 + (l5_0_k6 x3 x4 s19 s20 b0)) ≤ (l5_0_k6 x3 x4 s19 s20 b0)) = true from decide_eq_true (Nat.le_of_eq (Nat.zero_add _))) (all_t rfl (all_t c27 (all_nt c22 (all_nt c22 (all_nt c30 (all_nt c30 (all_nt c30 (all_t c33 (all_nt c30 (all_nt c30 (all_nt c36 (all_nt c36 (all_nt c36 (all_nt c36 (all_nt c36 (all_nt c36 (all_nt c36 (all_nt c43 (all_nt c43 (all_nt c43 (all_nt c43 (all_f c47 (all_f c47 (all_f c47 (all_f c47 (all_f c47 (all_nt c43 (all_f c47 (all_nt c43 (all_f Bool.false_ne_true (all_f Bool.false_ne_true (all_f Bool.false_ne_true (all_f Bool.false_ne_true (all_t c59 (all_t c59 (all_nf c61 (all_t c59 (all_f Bool.false_ne_true (all_t c59 (all_f Bool.false_ne_true (all_f Bool.false_ne_true (all_f c68 (all_f c68 (all_f c68 (all_f c68 (all_f Bool.false_ne_true all_nil))))))))))))))))))))))))))))))))))))))))))))))))))))))))))))))))))))))))) ?_
    intro p hp p2 hq
    rcases List.mem_cons.1 hp with rfl | hp
    · skip
      have h3 := l5_1_ok m (m + 24) x3 x4 x5 s20 ((l5_0_k3 x3 s19 s20)) (l5_0_k14 x3 x4 s19 s20 b0) 0 (l5_0_k8 x3 x4 s19 s20 b0) (l5_0_k15 x3 x4 s19 s20 b1) (l5_0_k22 x3 x4 s19 s20 b0) _ (some_getD (d := l5_1D) c67)
      exact Eq.trans (Eq.mp (by kernel_rfl) h3) hq
    cases hp
  exact turns_step ht ih
set_option maxHeartbeats 20000000 in
theorem l5_0_w39 (m n : Nat) (x3 : List Int) (x4 : List Int) (x5 : Bool) (s19 : Int) (s20 : Int) (b0 : (Int × Int × Int) × Bool × Int × Bool × (List (List UInt8)) × Int) (b1 : (Int × Int × Int) × Int × Int × Int × (List (List UInt8)) × (List (List UInt8))) (r : AEx × Env × Boxes) (c0 : decide (s20 < (((List.length x3) : Nat) : Int)) = true) (c5 : decide (s20 < (((List.length x4) : Nat) : Int)) = true) (c8 : decide (s20 < 40) = true) (c9 : decide (0 ≤ s20) = true) (c17 : decide (List.length (l5_0_k4 x4 s20) ≤ 1000000) = true) (c18 : (decide (0 ≤ (l5_0_k13 x4 s20)) && decide (l5_0_k19 x4 s20)) = true) (c19 : tickPre b0 (l5_0_k3 x3 s19 s20) (l5_0_k18 x4 s20) = true) (c20 : rtickPre b1 (l5_0_k3 x3 s19 s20) (l5_0_k4 x4 s20) = true) (c21 : ¬ (l5_0_k2 x3 x4 s19 s20 b1).2.2 = true) (c22 : (l5_0_k20 x3 x4 s19 s20 b0 b1) = true) (c27 : decide (l5_0_k24 x3 x4 s19 s20 b0) = true) (c30 : ((show List (List UInt8) from (l5_0_k10 x3 x4 s19 s20 b0)) == ([] : List (List UInt8))) = true) (c33 : decide (l5_0_k16 x4 s20) = true) (c36 : (l5_0_k21 x4 s20) = true) (c43 : ((!(l5_0_k1 x3 x4 s19 s20 b0).2.2.2.1) == decide (l5_0_k23 x3 x4 s19 s20 b1)) = true) (c47 : ¬ decide ((l5_0_k2 x3 x4 s19 s20 b1).1.2.1 ≥ 0) = true) (c59 : ¬ decide (l5_0_k23 x3 x4 s19 s20 b1) = true) (c66 : (Option.isSome (l5_0_k7 x3 x4 x5 s19 s20 b0 b1 m)) = true) (c67 : x5 = true) (c71 : (l5_0_k17 s20) = true) (c72 : decide ((List.length (l5_0_k8 x3 x4 s19 s20 b0).2.2.2.2.1 * 16) ≤ 70368744177664) = true) (c75 : tickPre (l5_0_k8 x3 x4 s19 s20 b0) (IntKind.wrap .i64 (((l5_0_k3 x3 s19 s20)) + (1))) [([122, 122] : List UInt8)] = true) (ih : (turns (hds 5 1769528) 0 1769528 (evC byref (evCall F S13 (m + 24)) (m + 24) 0 (hds 5) lbl5_0) n (l5_0_k11 x3 x4 x5 s19 s20 b0 b1) (l5_0_k12 x3 x4 x5 s19 s20 b0 b1)).run = some r) : (turns (hds 5 1769528) 0 1769528 (evC byref (evCall F S13 (m + 24)) (m + 24) 0 (hds 5) lbl5_0) (n + 1) (l5_0_k70 x3 x4 x5 s19 s20 b0 b1) (l5_0B x3 x4 x5 s19 s20 b0 b1)).run = some r := by
  have ht : (turn (hds 5 1769528) 0 1769528 (evC byref (evCall F S13 (m + 24)) (m + 24) 0 (hds 5) lbl5_0) (l5_0_k70 x3 x4 x5 s19 s20 b0 b1) (l5_0B x3 x4 x5 s19 s20 b0 b1)).run = some (.normal, l5_0H x3 x4 x5 (((l5_0_k3 x3 s19 s20))) (l5_0_k25 s20) ((l5_0_k8 x3 x4 s19 s20 b0)) ((l5_0_k15 x3 x4 s19 s20 b1)), l5_0B x3 x4 x5 (((l5_0_k3 x3 s19 s20))) (l5_0_k25 s20) ((l5_0_k8 x3 x4 s19 s20 b0)) ((l5_0_k15 x3 x4 s19 s20 b1))) := by
    refine turnT_ok (LS := (fun k => if k = 4597486622597666575075041081450927550856217366560964664 then some (l5_0_k5 x3 x4 x5 s19 s20 b0 b1 m) else none)) (vis := [(4597486622597666575075041081450927550856217366560964664, l5_1H x3 x4 x5 s20 ((l5_0_k3 x3 s19 s20)) (l5_0_k14 x3 x4 s19 s20 b0) 0 (l5_0_k8 x3 x4 s19 s20 b0) (l5_0_k15 x3 x4 s19 s20 b1) (l5_0_k22 x3 x4 s19 s20 b0), l5_1B x3 x4 x5 s20 ((l5_0_k3 x3 s19 s20)) (l5_0_k14 x3 x4 s19 s20 b0) 0 (l5_0_k8 x3 x4 s19 s20 b0) (l5_0_k15 x3 x4 s19 s20 b1) (l5_0_k22 x3 x4 s19 s20 b0))]) (by kernel_rfl) (M.run_of_path _ [true, true, true, true, true, true, true, true, true, true, true, true, true, true, true, true, true, true, true, true, true, true, false, false, false, true, true, true, false, false, false, false, false, true, false, false, false, false, false, false, false, false, false, false, false, false, false, false, false, false, false, false, false, false, false, false, false, false, false, false, false, false, false, false, false, false, true, true, true, true, true, true, false, true, true] _ _ (by kernel_rfl) (all_t c0 (all_t c0 (all_t c0 (all_t c0 (all_t c0 (all_t c5 (all_t c5 (all_t c5 (all_t c8 (all_t c9 (all_t c0 (all_t rfl (all_t c9 (all_t c5 (all_t rfl (all_t rfl (all_t rfl (all_t c17 (all_t c18 (all_t c19 (all_t c20 (all_nf c21 (all_nt c22 (all_nt c22 (all_nt c22 (all_t (show decide ((0 + (l5_0_k6 x3 x4 s19 s20 b0)) ≤ (l5_0_k6 x3 x4 s19 s20 b0)) = true from decide_eq_true (Nat.le_of_eq (Nat.zero_add _))) (all_t rfl (all_t c27 (all_nt c22 (all_nt c22 (all_nt c30 (all_nt c30 (all_nt c30 (all_t c33 (all_nt c30 (all_nt c30 (all_nt c36 (all_nt c36 (all_nt c36 (all_nt c36 (all_nt c36 (all_nt c36 (all_nt c36 (all_nt c43 (all_nt c43 (all_nt c43 (all_nt c43 (all_f c47 (all_f c47 (all_f c47 (all_f c47 (all_f c47 (all_nt c43 (all_f c47 (all_nt c43 (all_f Bool.false_ne_true (all_f Bool.false_ne_true (all_f Bool.false_ne_true (all_f Bool.false_ne_true (all_f c59 (all_f c59 (all_f c59 (all_f Bool.false_ne_true (all_f c59 (all_f Bool.false_ne_true (all_f Bool.false_ne_true (all_t c67 (all_t c67 (all_t c67 (all_t c67 (all_t c71 (all_t c72 (all_f Bool.false_ne_true (all_t rfl (all_t c75 all_nil)))))))))))))))))))))))))))))))))))))))))))))))))))))))))))))))))))))))))))) ?_
    intro p hp p2 hq
    rcases List.mem_cons.1 hp with rfl | hp
    · skip
      have h3 := l5_1_ok m (m + 24) x3 x4 x5 s20 ((l5_0_k3 x3 s19 s20)) (l5_0_k14 x3 x4 s19 s20 b0) 0 (l5_0_k8 x3 x4 s19 s20 b0) (l5_0_k15 x3 x4 s19 s20 b1) (l5_0_k22 x3 x4 s19 s20 b0) _ (some_getD (d := l5_1D) c66)
      exact Eq.trans (Eq.mp (by kernel_rfl) h3) hq
    cases hp
  exact turns_step ht ih
set_option maxHeartbeats 20000000 in
theorem l5_0_w40 (m n : Nat) (x3 : List Int) (x4 : List Int) (x5 : Bool) (s19 : Int) (s20 : Int) (b0 : (Int × Int × Int) × Bool × Int × Bool × (List (List UInt8)) × Int) (b1 : (Int × Int × Int) × Int × Int × Int × (List (List UInt8)) × (List (List UInt8))) (r : AEx × Env × Boxes) (c0 : decide (s20 < (((List.length x3) : Nat) : Int)) = true) (c5 : decide (s20 < (((List.length x4) : Nat) : Int)) = true) (c8 : decide (s20 < 40) = true) (c9 : decide (0 ≤ s20) = true) (c17 : decide (List.length (l5_0_k4 x4 s20) ≤ 1000000) = true) (c18 : (decide (0 ≤ (l5_0_k13 x4 s20)) && decide (l5_0_k19 x4 s20)) = true) (c19 : tickPre b0 (l5_0_k3 x3 s19 s20) (l5_0_k18 x4 s20) = true) (c20 : rtickPre b1 (l5_0_k3 x3 s19 s20) (l5_0_k4 x4 s20) = true) (c21 : ¬ (l5_0_k2 x3 x4 s19 s20 b1).2.2 = true) (c22 : (l5_0_k20 x3 x4 s19 s20 b0 b1) = true) (c27 : decide (l5_0_k24 x3 x4 s19 s20 b0) = true) (c30 : ((show List (List UInt8) from (l5_0_k10 x3 x4 s19 s20 b0)) == ([] : List (List UInt8))) = true) (c33 : decide (l5_0_k16 x4 s20) = true) (c36 : (l5_0_k21 x4 s20) = true) (c43 : ((!(l5_0_k1 x3 x4 s19 s20 b0).2.2.2.1) == decide (l5_0_k23 x3 x4 s19 s20 b1)) = true) (c47 : ¬ decide ((l5_0_k2 x3 x4 s19 s20 b1).1.2.1 ≥ 0) = true) (c59 : ¬ decide (l5_0_k23 x3 x4 s19 s20 b1) = true) (c66 : (Option.isSome (l5_0_k7 x3 x4 x5 s19 s20 b0 b1 m)) = true) (c67 : x5 = true) (c71 : ¬ (l5_0_k17 s20) = true) (ih : (turns (hds 5 1769528) 0 1769528 (evC byref (evCall F S13 (m + 24)) (m + 24) 0 (hds 5) lbl5_0) n (l5_0_k11 x3 x4 x5 s19 s20 b0 b1) (l5_0_k12 x3 x4 x5 s19 s20 b0 b1)).run = some r) : (turns (hds 5 1769528) 0 1769528 (evC byref (evCall F S13 (m + 24)) (m + 24) 0 (hds 5) lbl5_0) (n + 1) (l5_0_k70 x3 x4 x5 s19 s20 b0 b1) (l5_0B x3 x4 x5 s19 s20 b0 b1)).run = some r := by
  have ht : (turn (hds 5 1769528) 0 1769528 (evC byref (evCall F S13 (m + 24)) (m + 24) 0 (hds 5) lbl5_0) (l5_0_k70 x3 x4 x5 s19 s20 b0 b1) (l5_0B x3 x4 x5 s19 s20 b0 b1)).run = some (.normal, l5_0H x3 x4 x5 (((l5_0_k3 x3 s19 s20))) (l5_0_k25 s20) ((l5_0_k8 x3 x4 s19 s20 b0)) ((l5_0_k15 x3 x4 s19 s20 b1)), l5_0B x3 x4 x5 (((l5_0_k3 x3 s19 s20))) (l5_0_k25 s20) ((l5_0_k8 x3 x4 s19 s20 b0)) ((l5_0_k15 x3 x4 s19 s20 b1))) := by
    refine turnT_ok (LS := (fun k => if k = 4597486622597666575075041081450927550856217366560964664 then some (l5_0_k5 x3 x4 x5 s19 s20 b0 b1 m) else none)) (vis := [(4597486622597666575075041081450927550856217366560964664, l5_1H x3 x4 x5 s20 ((l5_0_k3 x3 s19 s20)) (l5_0_k14 x3 x4 s19 s20 b0) 0 (l5_0_k8 x3 x4 s19 s20 b0) (l5_0_k15 x3 x4 s19 s20 b1) (l5_0_k22 x3 x4 s19 s20 b0), l5_1B x3 x4 x5 s20 ((l5_0_k3 x3 s19 s20)) (l5_0_k14 x3 x4 s19 s20 b0) 0 (l5_0_k8 x3 x4 s19 s20 b0) (l5_0_k15 x3 x4 s19 s20 b1) (l5_0_k22 x3 x4 s19 s20 b0))]) (by kernel_rfl) (M.run_of_path _ [true, true, true, true, true, true, true, true, true, true, true, true, true, true, true, true, true, true, true, true, true, true, false, false, false, true, true, true, false, false, false, false, false, true, false, false, false, false, false, false, false, false, false, false, false, false, false, false, false, false, false, false, false, false, false, false, false, false, false, false, false, false, false, false, false, false, true, true, true, true, false] _ _ (by kernel_rfl) (all_t c0 (all_t c0 (all_t c0 (all_t c0 (all_t c0 (all_t c5 (all_t c5 (all_t c5 (all_t c8 (all_t c9 (all_t c0 (all_t rfl (all_t c9 (all_t c5 (all_t rfl (all_t rfl (all_t rfl (all_t c17 (all_t c18 (all_t c19 (all_t c20 (all_nf c21 (all_nt c22 (all_nt c22 (all_nt c22 (all_t (show decide ((0 + (l5_0_k6 x3 x4 s19 s20 b0)) ≤ (l5_0_k6 x3 x4 s19 s20 b0)) = true from decide_eq_true (Nat.le_of_eq (Nat.zero_add _))) (all_t rfl (all_t c27 (all_nt c22 (all_nt c22 (all_nt c30 (all_nt c30 (all_nt c30 (all_t c33 (all_nt c30 (all_nt c30 (all_nt c36 (all_nt c36 (all_nt c36 (all_nt c36 (all_nt c36 (all_nt c36 (all_nt c36 (all_nt c43 (all_nt c43 (all_nt c43 (all_nt c43 (all_f c47 (all_f c47 (all_f c47 (all_f c47 (all_f c47 (all_nt c43 (all_f c47 (all_nt c43 (all_f Bool.false_ne_true (all_f Bool.false_ne_true (all_f Bool.false_ne_true (all_f Bool.false_ne_true (all_f c59 (all_f c59 (all_f c59 (all_f Bool.false_ne_true (all_f c59 (all_f Bool.false_ne_true (all_f Bool.false_ne_true (all_t c67 (all_t c67 (all_t c67 (all_t c67 (all_f c71 all_nil)))))))))))))))))))))))))))))))))))))))))))))))))))))))))))))))))))))))) ?_
    intro p hp p2 hq
    rcases List.mem_cons.1 hp with rfl | hp
    · skip
      have h3 := l5_1_ok m (m + 24) x3 x4 x5 s20 ((l5_0_k3 x3 s19 s20)) (l5_0_k14 x3 x4 s19 s20 b0) 0 (l5_0_k8 x3 x4 s19 s20 b0) (l5_0_k15 x3 x4 s19 s20 b1) (l5_0_k22 x3 x4 s19 s20 b0) _ (some_getD (d := l5_1D) c66)
      exact Eq.trans (Eq.mp (by kernel_rfl) h3) hq
    cases hp
  exact turns_step ht ih
set_option maxHeartbeats 20000000 in
theorem l5_0_w41 (m n : Nat) (x3 : List Int) (x4 : List Int) (x5 : Bool) (s19 : Int) (s20 : Int) (b0 : (Int × Int × Int) × Bool × Int × Bool × (List (List UInt8)) × Int) (b1 : (Int × Int × Int) × Int × Int × Int × (List (List UInt8)) × (List (List UInt8))) (r : AEx × Env × Boxes) (c0 : decide (s20 < (((List.length x3) : Nat) : Int)) = true) (c5 : decide (s20 < (((List.length x4) : Nat) : Int)) = true) (c8 : decide (s20 < 40) = true) (c9 : decide (0 ≤ s20) = true) (c17 : decide (List.length (l5_0_k4 x4 s20) ≤ 1000000) = true) (c18 : (decide (0 ≤ (l5_0_k13 x4 s20)) && decide (l5_0_k19 x4 s20)) = true) (c19 : tickPre b0 (l5_0_k3 x3 s19 s20) (l5_0_k18 x4 s20) = true) (c20 : rtickPre b1 (l5_0_k3 x3 s19 s20) (l5_0_k4 x4 s20) = true) (c21 : ¬ (l5_0_k2 x3 x4 s19 s20 b1).2.2 = true) (c22 : (l5_0_k20 x3 x4 s19 s20 b0 b1) = true) (c27 : decide (l5_0_k24 x3 x4 s19 s20 b0) = true) (c30 : ((show List (List UInt8) from (l5_0_k10 x3 x4 s19 s20 b0)) == ([] : List (List UInt8))) = true) (c33 : decide (l5_0_k16 x4 s20) = true) (c36 : (l5_0_k21 x4 s20) = true) (c43 : ((!(l5_0_k1 x3 x4 s19 s20 b0).2.2.2.1) == decide (l5_0_k23 x3 x4 s19 s20 b1)) = true) (c47 : ¬ decide ((l5_0_k2 x3 x4 s19 s20 b1).1.2.1 ≥ 0) = true) (c59 : ¬ decide (l5_0_k23 x3 x4 s19 s20 b1) = true) (c66 : (Option.isSome (l5_0_k7 x3 x4 x5 s19 s20 b0 b1 m)) = true) (c67 : ¬ x5 = true) (ih : (turns (hds 5 1769528) 0 1769528 (evC byref (evCall F S13 (m + 24)) (m + 24) 0 (hds 5) lbl5_0) n (l5_0_k11 x3 x4 x5 s19 s20 b0 b1) (l5_0_k12 x3 x4 x5 s19 s20 b0 b1)).run = some r) : (turns (hds 5 1769528) 0 1769528 (evC byref (evCall F S13 (m + 24)) (m + 24) 0 (hds 5) lbl5_0) (n + 1) (l5_0_k70 x3 x4 x5 s19 s20 b0 b1) (l5_0B x3 x4 x5 s19 s20 b0 b1)).run = some r := by
  have ht : (turn (hds 5 1769528) 0 1769528 (evC byref (evCall F S13 (m + 24)) (m + 24) 0 (hds 5) lbl5_0) (l5_0_k70 x3 x4 x5 s19 s20 b0 b1) (l5_0B x3 x4 x5 s19 s20 b0 b1)).run = some (.normal, l5_0H x3 x4 x5 (((l5_0_k3 x3 s19 s20))) (l5_0_k25 s20) ((l5_0_k8 x3 x4 s19 s20 b0)) ((l5_0_k15 x3 x4 s19 s20 b1)), l5_0B x3 x4 x5 (((l5_0_k3 x3 s19 s20))) (l5_0_k25 s20) ((l5_0_k8 x3 x4 s19 s20 b0)) ((l5_0_k15 x3 x4 s19 s20 b1))) := by
    refine turnT_ok (LS := (fun k => if k = 4597486622597666575075041081450927550856217366560964664 then some (l5_0_k5 x3 x4 x5 s19 s20 b0 b1 m) else none)) (vis := [(4597486622597666575075041081450927550856217366560964664, l5_1H x3 x4 x5 s20 ((l5_0_k3 x3 s19 s20)) (l5_0_k14 x3 x4 s19 s20 b0) 0 (l5_0_k8 x3 x4 s19 s20 b0) (l5_0_k15 x3 x4 s19 s20 b1) (l5_0_k22 x3 x4 s19 s20 b0), l5_1B x3 x4 x5 s20 ((l5_0_k3 x3 s19 s20)) (l5_0_k14 x3 x4 s19 s20 b0) 0 (l5_0_k8 x3 x4 s19 s20 b0) (l5_0_k15 x3 x4 s19 s20 b1) (l5_0_k22 x3 x4 s19 s20 b0))]) (by kernel_rfl) (M.run_of_path _ [true, true, true, true, true, true, true, true, true, true, true, true, true, true, true, true, true, true, true, true, true, true, false, false, false, true, true, true, false, false, false, false, false, true, false, false, false, false, false, false, false, false, false, false, false, false, false, false, false, false, false, false, false, false, false, false, false, false, false, false, false, false, false, false, false, false, false, false, false, false, false] _ _ (by kernel_rfl) (all_t c0 (all_t c0 (all_t c0 (all_t c0 (all_t c0 (all_t c5 (all_t c5 (all_t c5 (all_t c8 (all_t c9 (all_t c0 (all_t rfl (all_t c9 (all_t c5 (all_t rfl (all_t rfl (all_t rfl (all_t c17 (all_t c18 (all_t c19 (all_t c20 (all_nf c21 (all_nt c22 (all_nt c22 (all_nt c22 (all_t (show decide ((0 + (l5_0_k6 x3 x4 s19 s20 b0)) ≤ (l5_0_k6 x3 x4 s19 s20 b0)) = true from decide_eq_true (Nat.le_of_eq (Nat.zero_add _))) (all_t rfl (all_t c27 (all_nt c22 (all_nt c22 (all_nt c30 (all_nt c30 (all_nt c30 (all_t c33 (all_nt c30 (all_nt c30 (all_nt c36 (all_nt c36 (all_nt c36 (all_nt c36 (all_nt c36 (all_nt c36 (all_nt c36 (all_nt c43 (all_nt c43 (all_nt c43 (all_nt c43 (all_f c47 (all_f c47 (all_f c47 (all_f c47 (all_f c47 (all_nt c43 (all_f c47 (all_nt c43 (all_f Bool.false_ne_true (all_f Bool.false_ne_true (all_f Bool.false_ne_true (all_f Bool.false_ne_true (all_f c59 (all_f c59 (all_f c59 (all_f Bool.false_ne_true (all_f c59 (all_f Bool.false_ne_true (all_f Bool.false_ne_true (all_f c67 (all_f c67 (all_f c67 (all_f c67 (all_f Bool.false_ne_true all_nil)))))))))))))))))))))))))))))))))))))))))))))))))))))))))))))))))))))))) ?_
    intro p hp p2 hq
    rcases List.mem_cons.1 hp with rfl | hp
    · skip
      have h3 := l5_1_ok m (m + 24) x3 x4 x5 s20 ((l5_0_k3 x3 s19 s20)) (l5_0_k14 x3 x4 s19 s20 b0) 0 (l5_0_k8 x3 x4 s19 s20 b0) (l5_0_k15 x3 x4 s19 s20 b1) (l5_0_k22 x3 x4 s19 s20 b0) _ (some_getD (d := l5_1D) c66)
      exact Eq.trans (Eq.mp (by kernel_rfl) h3) hq
    cases hp
  exact turns_step ht ih
set_option maxHeartbeats 20000000 in
theorem l5_0_w42 (m n : Nat) (x3 : List Int) (x4 : List Int) (x5 : Bool) (s19 : Int) (s20 : Int) (b0 : (Int × Int × Int) × Bool × Int × Bool × (List (List UInt8)) × Int) (b1 : (Int × Int × Int) × Int × Int × Int × (List (List UInt8)) × (List (List UInt8))) (c0 : decide (s20 < (((List.length x3) : Nat) : Int)) = true) (c5 : decide (s20 < (((List.length x4) : Nat) : Int)) = true) (c8 : ¬ decide (s20 < 40) = true) : (turns (hds 5 1769528) 0 1769528 (evC byref (evCall F S13 (m + 24)) (m + 24) 0 (hds 5) lbl5_0) (n + 1) (l5_0_k70 x3 x4 x5 s19 s20 b0 b1) (l5_0B x3 x4 x5 s19 s20 b0 b1)).run = some (.exit 0, [.top, .top, .top, (.d (.sl (.int .i64) x3)), (.d (.sl (.int .i64) x4)), (.d (.bool (x5))), .top, .top, .top, .top, .top, .top, .top, .top, .top, .top, (.ptr 0 0), (.ptr 1 0), .top, (.d (.int .i64 s19)), (.d (.int .i64 s20)), .top, .top, .top, .top, .top, .top, .top, .top, .top, .top, .top, .top, .top, .top, .top, .top, .top, .top, .top, .top, .top, .top, .top, .top, .top, .top, .top, .top, .top, .top, .top, .top, .top, .top, .top, .top, .top, .top, .top, .top, .top, .top, .top, .top, .top, .top, .top, .top, .top, .top, .top, .top, .top, .top, .top, .top, .top, .top, .top, .top, (.d (.int .i64 s20)), (.d (.sl (.int .i64) x3)), (.d (.int .i64 (((List.length x3) : Nat) : Int))), (.d (.bool (decide (s20 < (((List.length x3) : Nat) : Int))))), (.d (.bool (decide (s20 < (((List.length x3) : Nat) : Int))))), (.d (.int .i64 s20)), (.d (.sl (.int .i64) x4)), (.d (.int .i64 (((List.length x4) : Nat) : Int))), (.d (.bool (decide (s20 < (((List.length x4) : Nat) : Int))))), (.d (.bool (decide (s20 < (((List.length x4) : Nat) : Int))))), (.d (.bool (decide (s20 < (((List.length x4) : Nat) : Int))))), (.d (.int .i64 s20)), (.d (.bool (decide (s20 < 40)))), (.d (.bool (decide (s20 < 40)))), .top, .top, .top, .top, .top, .top, .top, .top, .top, .top, .top, .top, .top, .top, .top, .top, .top, .top, .top, .top, .top, .top, .top, .top, .top, .top, .top, .top, .top, .top, .top, .top, .top, .top, .top, .top, .top, .top, .top, .top, .top, .top, .top, .top, .top, .top, .top, .top, .top, .top, .top, .top, .top, .top, .top, .top, .top, .top, .top, .top, .top, .top, .top, .top, .top, .top, .top, .top, .top, .top, .top, .top, .top, .top, .top, .top, .top, .top, .top, .top, .top, .top, .top, .top, .top, .top, .top, .top, .top, .top, .top, .top, .top, .top, .top, .top, .top, .top, .top, .top, .top, .top, .top, .top, .top, .top, .top, .top, .top, .top], [(.cells [(.d (.int .i64 b0.1.1)), (.d (.int .i64 b0.1.2.1)), (.d (.int .i64 b0.1.2.2)), (.d (.bool (b0.2.1))), (.d (.int .i64 b0.2.2.1)), (.d (.bool (b0.2.2.2.1))), (.d (.sl .str b0.2.2.2.2.1)), (.d (.int .i64 b0.2.2.2.2.2))]), (.cells [(.d (.int .i64 b1.1.1)), (.d (.int .i64 b1.1.2.1)), (.d (.int .i64 b1.1.2.2)), (.d (.int .i64 b1.2.1)), (.d (.int .i64 b1.2.2.1)), (.d (.int .i64 b1.2.2.2.1)), (.d (.sl .str b1.2.2.2.2.1)), (.d (.sl .str b1.2.2.2.2.2))])]) := by
  exact turns_last (by simp) (M.run_of_path _ [true, true, true, true, true, true, true, true, false] _ _ (by kernel_rfl) (all_t c0 (all_t c0 (all_t c0 (all_t c0 (all_t c0 (all_t c5 (all_t c5 (all_t c5 (all_f c8 all_nil)))))))))) 
set_option maxHeartbeats 20000000 in
theorem l5_0_w43 (m n : Nat) (x3 : List Int) (x4 : List Int) (x5 : Bool) (s19 : Int) (s20 : Int) (b0 : (Int × Int × Int) × Bool × Int × Bool × (List (List UInt8)) × Int) (b1 : (Int × Int × Int) × Int × Int × Int × (List (List UInt8)) × (List (List UInt8))) (c0 : decide (s20 < (((List.length x3) : Nat) : Int)) = true) (c5 : ¬ decide (s20 < (((List.length x4) : Nat) : Int)) = true) : (turns (hds 5 1769528) 0 1769528 (evC byref (evCall F S13 (m + 24)) (m + 24) 0 (hds 5) lbl5_0) (n + 1) (l5_0_k70 x3 x4 x5 s19 s20 b0 b1) (l5_0B x3 x4 x5 s19 s20 b0 b1)).run = some (.exit 0, [.top, .top, .top, (.d (.sl (.int .i64) x3)), (.d (.sl (.int .i64) x4)), (.d (.bool (x5))), .top, .top, .top, .top, .top, .top, .top, .top, .top, .top, (.ptr 0 0), (.ptr 1 0), .top, (.d (.int .i64 s19)), (.d (.int .i64 s20)), .top, .top, .top, .top, .top, .top, .top, .top, .top, .top, .top, .top, .top, .top, .top, .top, .top, .top, .top, .top, .top, .top, .top, .top, .top, .top, .top, .top, .top, .top, .top, .top, .top, .top, .top, .top, .top, .top, .top, .top, .top, .top, .top, .top, .top, .top, .top, .top, .top, .top, .top, .top, .top, .top, .top, .top, .top, .top, .top, .top, (.d (.int .i64 s20)), (.d (.sl (.int .i64) x3)), (.d (.int .i64 (((List.length x3) : Nat) : Int))), (.d (.bool (decide (s20 < (((List.length x3) : Nat) : Int))))), (.d (.bool (decide (s20 < (((List.length x3) : Nat) : Int))))), (.d (.int .i64 s20)), (.d (.sl (.int .i64) x4)), (.d (.int .i64 (((List.length x4) : Nat) : Int))), (.d (.bool (decide (s20 < (((List.length x4) : Nat) : Int))))), (.d (.bool (decide (s20 < (((List.length x4) : Nat) : Int))))), (.d (.bool (decide (s20 < (((List.length x4) : Nat) : Int))))), (.tup []), (.tup []), (.d (.bool false)), .top, .top, .top, .top, .top, .top, .top, .top, .top, .top, .top, .top, .top, .top, .top, .top, .top, .top, .top, .top, .top, .top, .top, .top, .top, .top, .top, .top, .top, .top, .top, .top, .top, .top, .top, .top, .top, .top, .top, .top, .top, .top, .top, .top, .top, .top, .top, .top, .top, .top, .top, .top, .top, .top, .top, .top, .top, .top, .top, .top, .top, .top, .top, .top, .top, .top, .top, .top, .top, .top, .top, .top, .top, .top, .top, .top, .top, .top, .top, .top, .top, .top, .top, .top, .top, .top, .top, .top, .top, .top, .top, .top, .top, .top, .top, .top, .top, .top, .top, .top, .top, .top, .top, .top, .top, .top, .top, .top, .top, .top], [(.cells [(.d (.int .i64 b0.1.1)), (.d (.int .i64 b0.1.2.1)), (.d (.int .i64 b0.1.2.2)), (.d (.bool (b0.2.1))), (.d (.int .i64 b0.2.2.1)), (.d (.bool (b0.2.2.2.1))), (.d (.sl .str b0.2.2.2.2.1)), (.d (.int .i64 b0.2.2.2.2.2))]), (.cells [(.d (.int .i64 b1.1.1)), (.d (.int .i64 b1.1.2.1)), (.d (.int .i64 b1.1.2.2)), (.d (.int .i64 b1.2.1)), (.d (.int .i64 b1.2.2.1)), (.d (.int .i64 b1.2.2.2.1)), (.d (.sl .str b1.2.2.2.2.1)), (.d (.sl .str b1.2.2.2.2.2))])]) := by
  exact turns_last (by simp) (M.run_of_path _ [true, true, true, true, true, false, false, false, false] _ _ (by kernel_rfl) (all_t c0 (all_t c0 (all_t c0 (all_t c0 (all_t c0 (all_f c5 (all_f c5 (all_f c5 (all_f Bool.false_ne_true all_nil)))))))))) 
set_option maxHeartbeats 20000000 in
theorem l5_0_w44 (m n : Nat) (x3 : List Int) (x4 : List Int) (x5 : Bool) (s19 : Int) (s20 : Int) (b0 : (Int × Int × Int) × Bool × Int × Bool × (List (List UInt8)) × Int) (b1 : (Int × Int × Int) × Int × Int × Int × (List (List UInt8)) × (List (List UInt8))) (c0 : ¬ decide (s20 < (((List.length x3) : Nat) : Int)) = true) : (turns (hds 5 1769528) 0 1769528 (evC byref (evCall F S13 (m + 24)) (m + 24) 0 (hds 5) lbl5_0) (n + 1) (l5_0_k70 x3 x4 x5 s19 s20 b0 b1) (l5_0B x3 x4 x5 s19 s20 b0 b1)).run = some (.exit 0, [.top, .top, .top, (.d (.sl (.int .i64) x3)), (.d (.sl (.int .i64) x4)), (.d (.bool (x5))), .top, .top, .top, .top, .top, .top, .top, .top, .top, .top, (.ptr 0 0), (.ptr 1 0), .top, (.d (.int .i64 s19)), (.d (.int .i64 s20)), .top, .top, .top, .top, .top, .top, .top, .top, .top, .top, .top, .top, .top, .top, .top, .top, .top, .top, .top, .top, .top, .top, .top, .top, .top, .top, .top, .top, .top, .top, .top, .top, .top, .top, .top, .top, .top, .top, .top, .top, .top, .top, .top, .top, .top, .top, .top, .top, .top, .top, .top, .top, .top, .top, .top, .top, .top, .top, .top, .top, (.d (.int .i64 s20)), (.d (.sl (.int .i64) x3)), (.d (.int .i64 (((List.length x3) : Nat) : Int))), (.d (.bool (decide (s20 < (((List.length x3) : Nat) : Int))))), (.d (.bool (decide (s20 < (((List.length x3) : Nat) : Int))))), (.tup []), (.tup []), (.tup []), (.tup []), (.d (.bool false)), (.d (.bool false)), (.tup []), (.tup []), (.d (.bool false)), .top, .top, .top, .top, .top, .top, .top, .top, .top, .top, .top, .top, .top, .top, .top, .top, .top, .top, .top, .top, .top, .top, .top, .top, .top, .top, .top, .top, .top, .top, .top, .top, .top, .top, .top, .top, .top, .top, .top, .top, .top, .top, .top, .top, .top, .top, .top, .top, .top, .top, .top, .top, .top, .top, .top, .top, .top, .top, .top, .top, .top, .top, .top, .top, .top, .top, .top, .top, .top, .top, .top, .top, .top, .top, .top, .top, .top, .top, .top, .top, .top, .top, .top, .top, .top, .top, .top, .top, .top, .top, .top, .top, .top, .top, .top, .top, .top, .top, .top, .top, .top, .top, .top, .top, .top, .top, .top, .top, .top, .top], [(.cells [(.d (.int .i64 b0.1.1)), (.d (.int .i64 b0.1.2.1)), (.d (.int .i64 b0.1.2.2)), (.d (.bool (b0.2.1))), (.d (.int .i64 b0.2.2.1)), (.d (.bool (b0.2.2.2.1))), (.d (.sl .str b0.2.2.2.2.1)), (.d (.int .i64 b0.2.2.2.2.2))]), (.cells [(.d (.int .i64 b1.1.1)), (.d (.int .i64 b1.1.2.1)), (.d (.int .i64 b1.1.2.2)), (.d (.int .i64 b1.2.1)), (.d (.int .i64 b1.2.2.1)), (.d (.int .i64 b1.2.2.2.1)), (.d (.sl .str b1.2.2.2.2.1)), (.d (.sl .str b1.2.2.2.2.2))])]) := by
  exact turns_last (by simp) (M.run_of_path _ [false, false, false, false, false, false, false, false, false] _ _ (by kernel_rfl) (all_f c0 (all_f c0 (all_f c0 (all_f c0 (all_f c0 (all_f Bool.false_ne_true (all_f Bool.false_ne_true (all_f Bool.false_ne_true (all_f Bool.false_ne_true all_nil)))))))))) 

set_option maxHeartbeats 20000000 in
theorem l5_0_step (m n : Nat) (ih : ∀ (x3 : List Int) (x4 : List Int) (x5 : Bool) (s19 : Int) (s20 : Int) (b0 : (Int × Int × Int) × Bool × Int × Bool × (List (List UInt8)) × Int) (b1 : (Int × Int × Int) × Int × Int × Int × (List (List UInt8)) × (List (List UInt8))) (q : Nat × Int × Int × ((Int × Int × Int) × Bool × Int × Bool × (List (List UInt8)) × Int) × ((Int × Int × Int) × Int × Int × Int × (List (List UInt8)) × (List (List UInt8)))), l5_0 m n x3 x4 x5 s19 s20 b0 b1 = some q → (turns (hds 5 1769528) 0 1769528 (evC byref (evCall F S13 (m + 24)) (m + 24) 0 (hds 5) lbl5_0) n (l5_0H x3 x4 x5 s19 s20 b0 b1) (l5_0B x3 x4 x5 s19 s20 b0 b1)).run = some (l5_0E (x3) (x4) (x5) (q.2.1) (q.2.2.1) (q.2.2.2.1) (q.2.2.2.2) q.1)) (x3 : List Int) (x4 : List Int) (x5 : Bool) (s19 : Int) (s20 : Int) (b0 : (Int × Int × Int) × Bool × Int × Bool × (List (List UInt8)) × Int) (b1 : (Int × Int × Int) × Int × Int × Int × (List (List UInt8)) × (List (List UInt8))) (q : Nat × Int × Int × ((Int × Int × Int) × Bool × Int × Bool × (List (List UInt8)) × Int) × ((Int × Int × Int) × Int × Int × Int × (List (List UInt8)) × (List (List UInt8)))) (h : l5_0 m (n + 1) x3 x4 x5 s19 s20 b0 b1 = some q) : (turns (hds 5 1769528) 0 1769528 (evC byref (evCall F S13 (m + 24)) (m + 24) 0 (hds 5) lbl5_0) (n + 1) (l5_0H x3 x4 x5 s19 s20 b0 b1) (l5_0B x3 x4 x5 s19 s20 b0 b1)).run = some (l5_0E (x3) (x4) (x5) (q.2.1) (q.2.2.1) (q.2.2.2.1) (q.2.2.2.2) q.1) := by
  rw [l5_0] at h
  refine ite_cases h (fun c0 h => ?_) (fun c0 h => ?_)
  · skip
    refine ite_cases h (fun c5 h => ?_) (fun c5 h => ?_)
    · skip
      refine ite_cases h (fun c8 h => ?_) (fun c8 h => ?_)
      · skip
        refine ite_cases h (fun c9 h => ?_) (fun c9 h => ?_)
        · skip
          refine ite_cases h (fun c17 h => ?_) (fun c17 h => ?_)
          · skip
            refine ite_cases h (fun c18 h => ?_) (fun c18 h => ?_)
            · skip
              refine ite_cases h (fun c19 h => ?_) (fun c19 h => ?_)
              · skip
                refine ite_cases h (fun c20 h => ?_) (fun c20 h => ?_)
                · skip
                  refine ite_cases h (fun c21 h => ?_) (fun c21 h => ?_)
                  · skip
                    refine ite_cases h (fun c22 h => ?_) (fun c22 h => ?_)
                    · skip
                      refine ite_cases h (fun c26 h => ?_) (fun c26 h => ?_)
                      · skip
                        refine ite_cases h (fun c29 h => ?_) (fun c29 h => ?_)
                        · skip
                          refine ite_cases h (fun c32 h => ?_) (fun c32 h => ?_)
                          · skip
                            refine ite_cases h (fun c35 h => ?_) (fun c35 h => ?_)
                            · skip
                              refine ite_cases h (fun c42 h => ?_) (fun c42 h => ?_)
                              · skip
                                refine ite_cases h (fun c46 h => ?_) (fun c46 h => ?_)
                                · skip
                                  refine ite_cases h (fun c48 h => ?_) (fun c48 h => ?_)
                                  · skip
                                    refine ite_cases h (fun c55 h => ?_) (fun c55 h => ?_)
                                    · skip
                                      cases h
                                    · skip
                                      refine ite_cases h (fun c59 h => ?_) (fun c59 h => ?_)
                                      · skip
                                        refine ite_cases h (fun c66 h => ?_) (fun c66 h => ?_)
                                        · skip
                                          cases h
                                        · skip
                                          refine ite_cases h (fun c67 h => ?_) (fun c67 h => ?_)
                                          · skip
                                            refine ite_cases h (fun c68 h => ?_) (fun c68 h => ?_)
                                            · skip
                                              refine ite_cases h (fun c72 h => ?_) (fun c72 h => ?_)
                                              · skip
                                                refine ite_cases h (fun c73 h => ?_) (fun c73 h => ?_)
                                                · skip
                                                  refine ite_cases h (fun c76 h => ?_) (fun c76 h => ?_)
                                                  · skip
                                                    exact l5_0_w0 m n x3 x4 x5 s19 s20 b0 b1 _ c0 c5 c8 c9 c17 c18 c19 c20 c21 c22 c26 c29 c32 c35 c42 c46 c48 c55 c59 c66 c67 c68 c72 c73 c76 (ih _ _ _ _ _ _ _ q h)
                                                  · skip
                                                    cases h
                                                · skip
                                                  cases h
                                              · skip
                                                exact l5_0_w1 m n x3 x4 x5 s19 s20 b0 b1 _ c0 c5 c8 c9 c17 c18 c19 c20 c21 c22 c26 c29 c32 c35 c42 c46 c48 c55 c59 c66 c67 c68 c72 (ih _ _ _ _ _ _ _ q h)
                                            · skip
                                              exact l5_0_w2 m n x3 x4 x5 s19 s20 b0 b1 _ c0 c5 c8 c9 c17 c18 c19 c20 c21 c22 c26 c29 c32 c35 c42 c46 c48 c55 c59 c66 c67 c68 (ih _ _ _ _ _ _ _ q h)
                                          · skip
                                            cases h
                                      · skip
                                        refine ite_cases h (fun c66 h => ?_) (fun c66 h => ?_)
                                        · skip
                                          refine ite_cases h (fun c67 h => ?_) (fun c67 h => ?_)
                                          · skip
                                            refine ite_cases h (fun c71 h => ?_) (fun c71 h => ?_)
                                            · skip
                                              refine ite_cases h (fun c72 h => ?_) (fun c72 h => ?_)
                                              · skip
                                                refine ite_cases h (fun c75 h => ?_) (fun c75 h => ?_)
                                                · skip
                                                  exact l5_0_w3 m n x3 x4 x5 s19 s20 b0 b1 _ c0 c5 c8 c9 c17 c18 c19 c20 c21 c22 c26 c29 c32 c35 c42 c46 c48 c55 c59 c66 c67 c71 c72 c75 (ih _ _ _ _ _ _ _ q h)
                                                · skip
                                                  cases h
                                              · skip
                                                cases h
                                            · skip
                                              exact l5_0_w4 m n x3 x4 x5 s19 s20 b0 b1 _ c0 c5 c8 c9 c17 c18 c19 c20 c21 c22 c26 c29 c32 c35 c42 c46 c48 c55 c59 c66 c67 c71 (ih _ _ _ _ _ _ _ q h)
                                          · skip
                                            exact l5_0_w5 m n x3 x4 x5 s19 s20 b0 b1 _ c0 c5 c8 c9 c17 c18 c19 c20 c21 c22 c26 c29 c32 c35 c42 c46 c48 c55 c59 c66 c67 (ih _ _ _ _ _ _ _ q h)
                                        · skip
                                          cases h
                                  · skip
                                    refine ite_cases h (fun c55 h => ?_) (fun c55 h => ?_)
                                    · skip
                                      cases h
                                    · skip
                                      refine ite_cases h (fun c59 h => ?_) (fun c59 h => ?_)
                                      · skip
                                        refine ite_cases h (fun c67 h => ?_) (fun c67 h => ?_)
                                        · skip
                                          refine ite_cases h (fun c68 h => ?_) (fun c68 h => ?_)
                                          · skip
                                            refine ite_cases h (fun c72 h => ?_) (fun c72 h => ?_)
                                            · skip
                                              refine ite_cases h (fun c73 h => ?_) (fun c73 h => ?_)
                                              · skip
                                                refine ite_cases h (fun c76 h => ?_) (fun c76 h => ?_)
                                                · skip
                                                  exact l5_0_w6 m n x3 x4 x5 s19 s20 b0 b1 _ c0 c5 c8 c9 c17 c18 c19 c20 c21 c22 c26 c29 c32 c35 c42 c46 c48 c55 c59 c67 c68 c72 c73 c76 (ih _ _ _ _ _ _ _ q h)
                                                · skip
                                                  cases h
                                              · skip
                                                cases h
                                            · skip
                                              exact l5_0_w7 m n x3 x4 x5 s19 s20 b0 b1 _ c0 c5 c8 c9 c17 c18 c19 c20 c21 c22 c26 c29 c32 c35 c42 c46 c48 c55 c59 c67 c68 c72 (ih _ _ _ _ _ _ _ q h)
                                          · skip
                                            exact l5_0_w8 m n x3 x4 x5 s19 s20 b0 b1 _ c0 c5 c8 c9 c17 c18 c19 c20 c21 c22 c26 c29 c32 c35 c42 c46 c48 c55 c59 c67 c68 (ih _ _ _ _ _ _ _ q h)
                                        · skip
                                          cases h
                                      · skip
                                        refine ite_cases h (fun c66 h => ?_) (fun c66 h => ?_)
                                        · skip
                                          refine ite_cases h (fun c67 h => ?_) (fun c67 h => ?_)
                                          · skip
                                            refine ite_cases h (fun c71 h => ?_) (fun c71 h => ?_)
                                            · skip
                                              refine ite_cases h (fun c72 h => ?_) (fun c72 h => ?_)
                                              · skip
                                                refine ite_cases h (fun c75 h => ?_) (fun c75 h => ?_)
                                                · skip
                                                  exact l5_0_w9 m n x3 x4 x5 s19 s20 b0 b1 _ c0 c5 c8 c9 c17 c18 c19 c20 c21 c22 c26 c29 c32 c35 c42 c46 c48 c55 c59 c66 c67 c71 c72 c75 (ih _ _ _ _ _ _ _ q h)
                                                · skip
                                                  cases h
                                              · skip
                                                cases h
                                            · skip
                                              exact l5_0_w10 m n x3 x4 x5 s19 s20 b0 b1 _ c0 c5 c8 c9 c17 c18 c19 c20 c21 c22 c26 c29 c32 c35 c42 c46 c48 c55 c59 c66 c67 c71 (ih _ _ _ _ _ _ _ q h)
                                          · skip
                                            exact l5_0_w11 m n x3 x4 x5 s19 s20 b0 b1 _ c0 c5 c8 c9 c17 c18 c19 c20 c21 c22 c26 c29 c32 c35 c42 c46 c48 c55 c59 c66 c67 (ih _ _ _ _ _ _ _ q h)
                                        · skip
                                          cases h
                                · skip
                                  refine ite_cases h (fun c58 h => ?_) (fun c58 h => ?_)
                                  · skip
                                    refine ite_cases h (fun c60 h => ?_) (fun c60 h => ?_)
                                    · skip
                                      refine ite_cases h (fun c65 h => ?_) (fun c65 h => ?_)
                                      · skip
                                        cases h
                                      · skip
                                        refine ite_cases h (fun c66 h => ?_) (fun c66 h => ?_)
                                        · skip
                                          refine ite_cases h (fun c67 h => ?_) (fun c67 h => ?_)
                                          · skip
                                            refine ite_cases h (fun c71 h => ?_) (fun c71 h => ?_)
                                            · skip
                                              refine ite_cases h (fun c72 h => ?_) (fun c72 h => ?_)
                                              · skip
                                                refine ite_cases h (fun c75 h => ?_) (fun c75 h => ?_)
                                                · skip
                                                  exact l5_0_w12 m n x3 x4 x5 s19 s20 b0 b1 _ c0 c5 c8 c9 c17 c18 c19 c20 c21 c22 c26 c29 c32 c35 c42 c46 c58 c60 c65 c66 c67 c71 c72 c75 (ih _ _ _ _ _ _ _ q h)
                                                · skip
                                                  cases h
                                              · skip
                                                cases h
                                            · skip
                                              exact l5_0_w13 m n x3 x4 x5 s19 s20 b0 b1 _ c0 c5 c8 c9 c17 c18 c19 c20 c21 c22 c26 c29 c32 c35 c42 c46 c58 c60 c65 c66 c67 c71 (ih _ _ _ _ _ _ _ q h)
                                          · skip
                                            exact l5_0_w14 m n x3 x4 x5 s19 s20 b0 b1 _ c0 c5 c8 c9 c17 c18 c19 c20 c21 c22 c26 c29 c32 c35 c42 c46 c58 c60 c65 c66 c67 (ih _ _ _ _ _ _ _ q h)
                                        · skip
                                          cases h
                                    · skip
                                      refine ite_cases h (fun c66 h => ?_) (fun c66 h => ?_)
                                      · skip
                                        refine ite_cases h (fun c67 h => ?_) (fun c67 h => ?_)
                                        · skip
                                          refine ite_cases h (fun c71 h => ?_) (fun c71 h => ?_)
                                          · skip
                                            refine ite_cases h (fun c72 h => ?_) (fun c72 h => ?_)
                                            · skip
                                              refine ite_cases h (fun c75 h => ?_) (fun c75 h => ?_)
                                              · skip
                                                exact l5_0_w15 m n x3 x4 x5 s19 s20 b0 b1 _ c0 c5 c8 c9 c17 c18 c19 c20 c21 c22 c26 c29 c32 c35 c42 c46 c58 c60 c66 c67 c71 c72 c75 (ih _ _ _ _ _ _ _ q h)
                                              · skip
                                                cases h
                                            · skip
                                              cases h
                                          · skip
                                            exact l5_0_w16 m n x3 x4 x5 s19 s20 b0 b1 _ c0 c5 c8 c9 c17 c18 c19 c20 c21 c22 c26 c29 c32 c35 c42 c46 c58 c60 c66 c67 c71 (ih _ _ _ _ _ _ _ q h)
                                        · skip
                                          exact l5_0_w17 m n x3 x4 x5 s19 s20 b0 b1 _ c0 c5 c8 c9 c17 c18 c19 c20 c21 c22 c26 c29 c32 c35 c42 c46 c58 c60 c66 c67 (ih _ _ _ _ _ _ _ q h)
                                      · skip
                                        cases h
                                  · skip
                                    refine ite_cases h (fun c65 h => ?_) (fun c65 h => ?_)
                                    · skip
                                      refine ite_cases h (fun c66 h => ?_) (fun c66 h => ?_)
                                      · skip
                                        refine ite_cases h (fun c70 h => ?_) (fun c70 h => ?_)
                                        · skip
                                          refine ite_cases h (fun c71 h => ?_) (fun c71 h => ?_)
                                          · skip
                                            refine ite_cases h (fun c74 h => ?_) (fun c74 h => ?_)
                                            · skip
                                              exact l5_0_w18 m n x3 x4 x5 s19 s20 b0 b1 _ c0 c5 c8 c9 c17 c18 c19 c20 c21 c22 c26 c29 c32 c35 c42 c46 c58 c65 c66 c70 c71 c74 (ih _ _ _ _ _ _ _ q h)
                                            · skip
                                              cases h
                                          · skip
                                            cases h
                                        · skip
                                          exact l5_0_w19 m n x3 x4 x5 s19 s20 b0 b1 _ c0 c5 c8 c9 c17 c18 c19 c20 c21 c22 c26 c29 c32 c35 c42 c46 c58 c65 c66 c70 (ih _ _ _ _ _ _ _ q h)
                                      · skip
                                        exact l5_0_w20 m n x3 x4 x5 s19 s20 b0 b1 _ c0 c5 c8 c9 c17 c18 c19 c20 c21 c22 c26 c29 c32 c35 c42 c46 c58 c65 c66 (ih _ _ _ _ _ _ _ q h)
                                    · skip
                                      cases h
                              · skip
                                cases h
                            · skip
                              cases h
                          · skip
                            cases h
                        · skip
                          cases h
                      · skip
                        cases h
                    · skip
                      cases h
                  · skip
                    refine ite_cases h (fun c22 h => ?_) (fun c22 h => ?_)
                    · skip
                      refine ite_cases h (fun c27 h => ?_) (fun c27 h => ?_)
                      · skip
                        refine ite_cases h (fun c30 h => ?_) (fun c30 h => ?_)
                        · skip
                          refine ite_cases h (fun c33 h => ?_) (fun c33 h => ?_)
                          · skip
                            refine ite_cases h (fun c36 h => ?_) (fun c36 h => ?_)
                            · skip
                              refine ite_cases h (fun c43 h => ?_) (fun c43 h => ?_)
                              · skip
                                refine ite_cases h (fun c47 h => ?_) (fun c47 h => ?_)
                                · skip
                                  refine ite_cases h (fun c49 h => ?_) (fun c49 h => ?_)
                                  · skip
                                    refine ite_cases h (fun c56 h => ?_) (fun c56 h => ?_)
                                    · skip
                                      cases h
                                    · skip
                                      refine ite_cases h (fun c60 h => ?_) (fun c60 h => ?_)
                                      · skip
                                        refine ite_cases h (fun c67 h => ?_) (fun c67 h => ?_)
                                        · skip
                                          cases h
                                        · skip
                                          refine ite_cases h (fun c68 h => ?_) (fun c68 h => ?_)
                                          · skip
                                            refine ite_cases h (fun c69 h => ?_) (fun c69 h => ?_)
                                            · skip
                                              refine ite_cases h (fun c73 h => ?_) (fun c73 h => ?_)
                                              · skip
                                                refine ite_cases h (fun c74 h => ?_) (fun c74 h => ?_)
                                                · skip
                                                  refine ite_cases h (fun c77 h => ?_) (fun c77 h => ?_)
                                                  · skip
                                                    exact l5_0_w21 m n x3 x4 x5 s19 s20 b0 b1 _ c0 c5 c8 c9 c17 c18 c19 c20 c21 c22 c27 c30 c33 c36 c43 c47 c49 c56 c60 c67 c68 c69 c73 c74 c77 (ih _ _ _ _ _ _ _ q h)
                                                  · skip
                                                    cases h
                                                · skip
                                                  cases h
                                              · skip
                                                exact l5_0_w22 m n x3 x4 x5 s19 s20 b0 b1 _ c0 c5 c8 c9 c17 c18 c19 c20 c21 c22 c27 c30 c33 c36 c43 c47 c49 c56 c60 c67 c68 c69 c73 (ih _ _ _ _ _ _ _ q h)
                                            · skip
                                              exact l5_0_w23 m n x3 x4 x5 s19 s20 b0 b1 _ c0 c5 c8 c9 c17 c18 c19 c20 c21 c22 c27 c30 c33 c36 c43 c47 c49 c56 c60 c67 c68 c69 (ih _ _ _ _ _ _ _ q h)
                                          · skip
                                            cases h
                                      · skip
                                        refine ite_cases h (fun c67 h => ?_) (fun c67 h => ?_)
                                        · skip
                                          refine ite_cases h (fun c68 h => ?_) (fun c68 h => ?_)
                                          · skip
                                            refine ite_cases h (fun c72 h => ?_) (fun c72 h => ?_)
                                            · skip
                                              refine ite_cases h (fun c73 h => ?_) (fun c73 h => ?_)
                                              · skip
                                                refine ite_cases h (fun c76 h => ?_) (fun c76 h => ?_)
                                                · skip
                                                  exact l5_0_w24 m n x3 x4 x5 s19 s20 b0 b1 _ c0 c5 c8 c9 c17 c18 c19 c20 c21 c22 c27 c30 c33 c36 c43 c47 c49 c56 c60 c67 c68 c72 c73 c76 (ih _ _ _ _ _ _ _ q h)
                                                · skip
                                                  cases h
                                              · skip
                                                cases h
                                            · skip
                                              exact l5_0_w25 m n x3 x4 x5 s19 s20 b0 b1 _ c0 c5 c8 c9 c17 c18 c19 c20 c21 c22 c27 c30 c33 c36 c43 c47 c49 c56 c60 c67 c68 c72 (ih _ _ _ _ _ _ _ q h)
                                          · skip
                                            exact l5_0_w26 m n x3 x4 x5 s19 s20 b0 b1 _ c0 c5 c8 c9 c17 c18 c19 c20 c21 c22 c27 c30 c33 c36 c43 c47 c49 c56 c60 c67 c68 (ih _ _ _ _ _ _ _ q h)
                                        · skip
                                          cases h
                                  · skip
                                    refine ite_cases h (fun c56 h => ?_) (fun c56 h => ?_)
                                    · skip
                                      cases h
                                    · skip
                                      refine ite_cases h (fun c60 h => ?_) (fun c60 h => ?_)
                                      · skip
                                        refine ite_cases h (fun c68 h => ?_) (fun c68 h => ?_)
                                        · skip
                                          refine ite_cases h (fun c69 h => ?_) (fun c69 h => ?_)
                                          · skip
                                            refine ite_cases h (fun c73 h => ?_) (fun c73 h => ?_)
                                            · skip
                                              refine ite_cases h (fun c74 h => ?_) (fun c74 h => ?_)
                                              · skip
                                                refine ite_cases h (fun c77 h => ?_) (fun c77 h => ?_)
                                                · skip
                                                  exact l5_0_w27 m n x3 x4 x5 s19 s20 b0 b1 _ c0 c5 c8 c9 c17 c18 c19 c20 c21 c22 c27 c30 c33 c36 c43 c47 c49 c56 c60 c68 c69 c73 c74 c77 (ih _ _ _ _ _ _ _ q h)
                                                · skip
                                                  cases h
                                              · skip
                                                cases h
                                            · skip
                                              exact l5_0_w28 m n x3 x4 x5 s19 s20 b0 b1 _ c0 c5 c8 c9 c17 c18 c19 c20 c21 c22 c27 c30 c33 c36 c43 c47 c49 c56 c60 c68 c69 c73 (ih _ _ _ _ _ _ _ q h)
                                          · skip
                                            exact l5_0_w29 m n x3 x4 x5 s19 s20 b0 b1 _ c0 c5 c8 c9 c17 c18 c19 c20 c21 c22 c27 c30 c33 c36 c43 c47 c49 c56 c60 c68 c69 (ih _ _ _ _ _ _ _ q h)
                                        · skip
                                          cases h
                                      · skip
                                        refine ite_cases h (fun c67 h => ?_) (fun c67 h => ?_)
                                        · skip
                                          refine ite_cases h (fun c68 h => ?_) (fun c68 h => ?_)
                                          · skip
                                            refine ite_cases h (fun c72 h => ?_) (fun c72 h => ?_)
                                            · skip
                                              refine ite_cases h (fun c73 h => ?_) (fun c73 h => ?_)
                                              · skip
                                                refine ite_cases h (fun c76 h => ?_) (fun c76 h => ?_)
                                                · skip
                                                  exact l5_0_w30 m n x3 x4 x5 s19 s20 b0 b1 _ c0 c5 c8 c9 c17 c18 c19 c20 c21 c22 c27 c30 c33 c36 c43 c47 c49 c56 c60 c67 c68 c72 c73 c76 (ih _ _ _ _ _ _ _ q h)
                                                · skip
                                                  cases h
                                              · skip
                                                cases h
                                            · skip
                                              exact l5_0_w31 m n x3 x4 x5 s19 s20 b0 b1 _ c0 c5 c8 c9 c17 c18 c19 c20 c21 c22 c27 c30 c33 c36 c43 c47 c49 c56 c60 c67 c68 c72 (ih _ _ _ _ _ _ _ q h)
                                          · skip
                                            exact l5_0_w32 m n x3 x4 x5 s19 s20 b0 b1 _ c0 c5 c8 c9 c17 c18 c19 c20 c21 c22 c27 c30 c33 c36 c43 c47 c49 c56 c60 c67 c68 (ih _ _ _ _ _ _ _ q h)
                                        · skip
                                          cases h
                                · skip
                                  refine ite_cases h (fun c59 h => ?_) (fun c59 h => ?_)
                                  · skip
                                    refine ite_cases h (fun c61 h => ?_) (fun c61 h => ?_)
                                    · skip
                                      refine ite_cases h (fun c66 h => ?_) (fun c66 h => ?_)
                                      · skip
                                        cases h
                                      · skip
                                        refine ite_cases h (fun c67 h => ?_) (fun c67 h => ?_)
                                        · skip
                                          refine ite_cases h (fun c68 h => ?_) (fun c68 h => ?_)
                                          · skip
                                            refine ite_cases h (fun c72 h => ?_) (fun c72 h => ?_)
                                            · skip
                                              refine ite_cases h (fun c73 h => ?_) (fun c73 h => ?_)
                                              · skip
                                                refine ite_cases h (fun c76 h => ?_) (fun c76 h => ?_)
                                                · skip
                                                  exact l5_0_w33 m n x3 x4 x5 s19 s20 b0 b1 _ c0 c5 c8 c9 c17 c18 c19 c20 c21 c22 c27 c30 c33 c36 c43 c47 c59 c61 c66 c67 c68 c72 c73 c76 (ih _ _ _ _ _ _ _ q h)
                                                · skip
                                                  cases h
                                              · skip
                                                cases h
                                            · skip
                                              exact l5_0_w34 m n x3 x4 x5 s19 s20 b0 b1 _ c0 c5 c8 c9 c17 c18 c19 c20 c21 c22 c27 c30 c33 c36 c43 c47 c59 c61 c66 c67 c68 c72 (ih _ _ _ _ _ _ _ q h)
                                          · skip
                                            exact l5_0_w35 m n x3 x4 x5 s19 s20 b0 b1 _ c0 c5 c8 c9 c17 c18 c19 c20 c21 c22 c27 c30 c33 c36 c43 c47 c59 c61 c66 c67 c68 (ih _ _ _ _ _ _ _ q h)
                                        · skip
                                          cases h
                                    · skip
                                      refine ite_cases h (fun c67 h => ?_) (fun c67 h => ?_)
                                      · skip
                                        refine ite_cases h (fun c68 h => ?_) (fun c68 h => ?_)
                                        · skip
                                          refine ite_cases h (fun c72 h => ?_) (fun c72 h => ?_)
                                          · skip
                                            refine ite_cases h (fun c73 h => ?_) (fun c73 h => ?_)
                                            · skip
                                              refine ite_cases h (fun c76 h => ?_) (fun c76 h => ?_)
                                              · skip
                                                exact l5_0_w36 m n x3 x4 x5 s19 s20 b0 b1 _ c0 c5 c8 c9 c17 c18 c19 c20 c21 c22 c27 c30 c33 c36 c43 c47 c59 c61 c67 c68 c72 c73 c76 (ih _ _ _ _ _ _ _ q h)
                                              · skip
                                                cases h
                                            · skip
                                              cases h
                                          · skip
                                            exact l5_0_w37 m n x3 x4 x5 s19 s20 b0 b1 _ c0 c5 c8 c9 c17 c18 c19 c20 c21 c22 c27 c30 c33 c36 c43 c47 c59 c61 c67 c68 c72 (ih _ _ _ _ _ _ _ q h)
                                        · skip
                                          exact l5_0_w38 m n x3 x4 x5 s19 s20 b0 b1 _ c0 c5 c8 c9 c17 c18 c19 c20 c21 c22 c27 c30 c33 c36 c43 c47 c59 c61 c67 c68 (ih _ _ _ _ _ _ _ q h)
                                      · skip
                                        cases h
                                  · skip
                                    refine ite_cases h (fun c66 h => ?_) (fun c66 h => ?_)
                                    · skip
                                      refine ite_cases h (fun c67 h => ?_) (fun c67 h => ?_)
                                      · skip
                                        refine ite_cases h (fun c71 h => ?_) (fun c71 h => ?_)
                                        · skip
                                          refine ite_cases h (fun c72 h => ?_) (fun c72 h => ?_)
                                          · skip
                                            refine ite_cases h (fun c75 h => ?_) (fun c75 h => ?_)
                                            · skip
                                              exact l5_0_w39 m n x3 x4 x5 s19 s20 b0 b1 _ c0 c5 c8 c9 c17 c18 c19 c20 c21 c22 c27 c30 c33 c36 c43 c47 c59 c66 c67 c71 c72 c75 (ih _ _ _ _ _ _ _ q h)
                                            · skip
                                              cases h
                                          · skip
                                            cases h
                                        · skip
                                          exact l5_0_w40 m n x3 x4 x5 s19 s20 b0 b1 _ c0 c5 c8 c9 c17 c18 c19 c20 c21 c22 c27 c30 c33 c36 c43 c47 c59 c66 c67 c71 (ih _ _ _ _ _ _ _ q h)
                                      · skip
                                        exact l5_0_w41 m n x3 x4 x5 s19 s20 b0 b1 _ c0 c5 c8 c9 c17 c18 c19 c20 c21 c22 c27 c30 c33 c36 c43 c47 c59 c66 c67 (ih _ _ _ _ _ _ _ q h)
                                    · skip
                                      cases h
                              · skip
                                cases h
                            · skip
                              cases h
                          · skip
                            cases h
                        · skip
                          cases h
                      · skip
                        cases h
                    · skip
                      cases h
                · skip
                  cases h
              · skip
                cases h
            · skip
              cases h
          · skip
            cases h
        · skip
          cases h
      · skip
        cases h
        exact l5_0_w42 m n x3 x4 x5 s19 s20 b0 b1 c0 c5 c8
    · skip
      cases h
      exact l5_0_w43 m n x3 x4 x5 s19 s20 b0 b1 c0 c5
  · skip
    cases h
    exact l5_0_w44 m n x3 x4 x5 s19 s20 b0 b1 c0
set_option maxHeartbeats 20000000 in
theorem l5_0_ok (m : Nat) : ∀ (n : Nat) (x3 : List Int) (x4 : List Int) (x5 : Bool) (s19 : Int) (s20 : Int) (b0 : (Int × Int × Int) × Bool × Int × Bool × (List (List UInt8)) × Int) (b1 : (Int × Int × Int) × Int × Int × Int × (List (List UInt8)) × (List (List UInt8))) (q : Nat × Int × Int × ((Int × Int × Int) × Bool × Int × Bool × (List (List UInt8)) × Int) × ((Int × Int × Int) × Int × Int × Int × (List (List UInt8)) × (List (List UInt8)))), l5_0 m n x3 x4 x5 s19 s20 b0 b1 = some q → (turns (hds 5 1769528) 0 1769528 (evC byref (evCall F S13 (m + 24)) (m + 24) 0 (hds 5) lbl5_0) n (l5_0H x3 x4 x5 s19 s20 b0 b1) (l5_0B x3 x4 x5 s19 s20 b0 b1)).run = some (l5_0E (x3) (x4) (x5) (q.2.1) (q.2.2.1) (q.2.2.2.1) (q.2.2.2.2) q.1)
  | 0, x3, x4, x5, s19, s20, b0, b1, q, h => by cases h
  | n + 1, x3, x4, x5, s19, s20, b0, b1, q, h => l5_0_step m n (l5_0_ok m n) x3 x4 x5 s19 s20 b0 b1 q h

def tells (m : Nat) (x0 : Int) (x1 : Int) (x2 : Int) (x3 : List Int) (x4 : List Int) (x5 : Bool) (x6 : Int × Int × Int) : Option Unit :=
  if decide ((withinI x0 (0) (30)) ≥ 0) = true then
    if decide ((withinI x0 (0) (30)) ≤ 1048576) = true then
      if decide ((withinI x1 (1) (20)) ≥ 1) = true then
        if decide ((withinI x1 (1) (20)) ≤ 1048576) = true then
          if decide ((withinI x2 (1) (40)) ≥ 1) = true then
            if decide ((withinI x2 (1) (40)) ≤ 1048576) = true then
              if decide (x6.1 ≥ 0) = true then
                if decide (x6.1 ≤ 1048576) = true then
                  if decide (x6.2.1 ≥ 1) = true then
                    if decide (x6.2.1 ≤ 1048576) = true then
                      if decide (x6.2.2 ≥ 1) = true then
                        if (decide (x6.2.2 ≤ 1048576) == decide (x6.2.2 ≤ 1048576)) = true then
                          if decide (x6.2.2 ≤ 1048576) = true then
                            if (true == decide (x6.2.2 ≤ 1048576)) = true then
                              if (Option.isSome (l5_0 m (m + 24) x3 x4 x5 0 0 ((((withinI x0 (0) (30)), ((withinI x1 (1) (20)), (withinI x2 (1) (40)))), (false, ((0), (false, (([] : List (List UInt8)), (0))))))) ((((withinI x0 (0) (30)), ((withinI x1 (1) (20)), (withinI x2 (1) (40)))), ((-1), ((0), ((-1), (([] : List (List UInt8)), ([] : List (List UInt8)))))))))) = true then
                                if ((l5_0R m (m + 24) x3 x4 x5 0 0 ((((withinI x0 (0) (30)), ((withinI x1 (1) (20)), (withinI x2 (1) (40)))), (false, ((0), (false, (([] : List (List UInt8)), (0))))))) ((((withinI x0 (0) (30)), ((withinI x1 (1) (20)), (withinI x2 (1) (40)))), ((-1), ((0), ((-1), (([] : List (List UInt8)), ([] : List (List UInt8))))))))).1 == 0) = true then
                                  some ()
                                else
                                  if ((l5_0R m (m + 24) x3 x4 x5 0 0 ((((withinI x0 (0) (30)), ((withinI x1 (1) (20)), (withinI x2 (1) (40)))), (false, ((0), (false, (([] : List (List UInt8)), (0))))))) ((((withinI x0 (0) (30)), ((withinI x1 (1) (20)), (withinI x2 (1) (40)))), ((-1), ((0), ((-1), (([] : List (List UInt8)), ([] : List (List UInt8))))))))).1 == 1) = true then
                                    some ()
                                  else
                                    if ((l5_0R m (m + 24) x3 x4 x5 0 0 ((((withinI x0 (0) (30)), ((withinI x1 (1) (20)), (withinI x2 (1) (40)))), (false, ((0), (false, (([] : List (List UInt8)), (0))))))) ((((withinI x0 (0) (30)), ((withinI x1 (1) (20)), (withinI x2 (1) (40)))), ((-1), ((0), ((-1), (([] : List (List UInt8)), ([] : List (List UInt8))))))))).1 == 2) = true then
                                      some ()
                                    else
                                      none
                              else
                                none
                            else
                              none
                          else
                            if (false == decide (x6.2.2 ≤ 1048576)) = true then
                              if (Option.isSome (l5_0 m (m + 24) x3 x4 x5 0 0 ((((withinI x0 (0) (30)), ((withinI x1 (1) (20)), (withinI x2 (1) (40)))), (false, ((0), (false, (([] : List (List UInt8)), (0))))))) ((((withinI x0 (0) (30)), ((withinI x1 (1) (20)), (withinI x2 (1) (40)))), ((-1), ((0), ((-1), (([] : List (List UInt8)), ([] : List (List UInt8)))))))))) = true then
                                if ((l5_0R m (m + 24) x3 x4 x5 0 0 ((((withinI x0 (0) (30)), ((withinI x1 (1) (20)), (withinI x2 (1) (40)))), (false, ((0), (false, (([] : List (List UInt8)), (0))))))) ((((withinI x0 (0) (30)), ((withinI x1 (1) (20)), (withinI x2 (1) (40)))), ((-1), ((0), ((-1), (([] : List (List UInt8)), ([] : List (List UInt8))))))))).1 == 0) = true then
                                  some ()
                                else
                                  if ((l5_0R m (m + 24) x3 x4 x5 0 0 ((((withinI x0 (0) (30)), ((withinI x1 (1) (20)), (withinI x2 (1) (40)))), (false, ((0), (false, (([] : List (List UInt8)), (0))))))) ((((withinI x0 (0) (30)), ((withinI x1 (1) (20)), (withinI x2 (1) (40)))), ((-1), ((0), ((-1), (([] : List (List UInt8)), ([] : List (List UInt8))))))))).1 == 1) = true then
                                    some ()
                                  else
                                    if ((l5_0R m (m + 24) x3 x4 x5 0 0 ((((withinI x0 (0) (30)), ((withinI x1 (1) (20)), (withinI x2 (1) (40)))), (false, ((0), (false, (([] : List (List UInt8)), (0))))))) ((((withinI x0 (0) (30)), ((withinI x1 (1) (20)), (withinI x2 (1) (40)))), ((-1), ((0), ((-1), (([] : List (List UInt8)), ([] : List (List UInt8))))))))).1 == 2) = true then
                                      some ()
                                    else
                                      none
                              else
                                none
                            else
                              none
                        else
                          none
                      else
                        if (Option.isSome (l5_0 m (m + 24) x3 x4 x5 0 0 ((((withinI x0 (0) (30)), ((withinI x1 (1) (20)), (withinI x2 (1) (40)))), (false, ((0), (false, (([] : List (List UInt8)), (0))))))) ((((withinI x0 (0) (30)), ((withinI x1 (1) (20)), (withinI x2 (1) (40)))), ((-1), ((0), ((-1), (([] : List (List UInt8)), ([] : List (List UInt8)))))))))) = true then
                          if ((l5_0R m (m + 24) x3 x4 x5 0 0 ((((withinI x0 (0) (30)), ((withinI x1 (1) (20)), (withinI x2 (1) (40)))), (false, ((0), (false, (([] : List (List UInt8)), (0))))))) ((((withinI x0 (0) (30)), ((withinI x1 (1) (20)), (withinI x2 (1) (40)))), ((-1), ((0), ((-1), (([] : List (List UInt8)), ([] : List (List UInt8))))))))).1 == 0) = true then
                            some ()
                          else
                            if ((l5_0R m (m + 24) x3 x4 x5 0 0 ((((withinI x0 (0) (30)), ((withinI x1 (1) (20)), (withinI x2 (1) (40)))), (false, ((0), (false, (([] : List (List UInt8)), (0))))))) ((((withinI x0 (0) (30)), ((withinI x1 (1) (20)), (withinI x2 (1) (40)))), ((-1), ((0), ((-1), (([] : List (List UInt8)), ([] : List (List UInt8))))))))).1 == 1) = true then
                              some ()
                            else
                              if ((l5_0R m (m + 24) x3 x4 x5 0 0 ((((withinI x0 (0) (30)), ((withinI x1 (1) (20)), (withinI x2 (1) (40)))), (false, ((0), (false, (([] : List (List UInt8)), (0))))))) ((((withinI x0 (0) (30)), ((withinI x1 (1) (20)), (withinI x2 (1) (40)))), ((-1), ((0), ((-1), (([] : List (List UInt8)), ([] : List (List UInt8))))))))).1 == 2) = true then
                                some ()
                              else
                                none
                        else
                          none
                    else
                      if (Option.isSome (l5_0 m (m + 24) x3 x4 x5 0 0 ((((withinI x0 (0) (30)), ((withinI x1 (1) (20)), (withinI x2 (1) (40)))), (false, ((0), (false, (([] : List (List UInt8)), (0))))))) ((((withinI x0 (0) (30)), ((withinI x1 (1) (20)), (withinI x2 (1) (40)))), ((-1), ((0), ((-1), (([] : List (List UInt8)), ([] : List (List UInt8)))))))))) = true then
                        if ((l5_0R m (m + 24) x3 x4 x5 0 0 ((((withinI x0 (0) (30)), ((withinI x1 (1) (20)), (withinI x2 (1) (40)))), (false, ((0), (false, (([] : List (List UInt8)), (0))))))) ((((withinI x0 (0) (30)), ((withinI x1 (1) (20)), (withinI x2 (1) (40)))), ((-1), ((0), ((-1), (([] : List (List UInt8)), ([] : List (List UInt8))))))))).1 == 0) = true then
                          some ()
                        else
                          if ((l5_0R m (m + 24) x3 x4 x5 0 0 ((((withinI x0 (0) (30)), ((withinI x1 (1) (20)), (withinI x2 (1) (40)))), (false, ((0), (false, (([] : List (List UInt8)), (0))))))) ((((withinI x0 (0) (30)), ((withinI x1 (1) (20)), (withinI x2 (1) (40)))), ((-1), ((0), ((-1), (([] : List (List UInt8)), ([] : List (List UInt8))))))))).1 == 1) = true then
                            some ()
                          else
                            if ((l5_0R m (m + 24) x3 x4 x5 0 0 ((((withinI x0 (0) (30)), ((withinI x1 (1) (20)), (withinI x2 (1) (40)))), (false, ((0), (false, (([] : List (List UInt8)), (0))))))) ((((withinI x0 (0) (30)), ((withinI x1 (1) (20)), (withinI x2 (1) (40)))), ((-1), ((0), ((-1), (([] : List (List UInt8)), ([] : List (List UInt8))))))))).1 == 2) = true then
                              some ()
                            else
                              none
                      else
                        none
                  else
                    if (Option.isSome (l5_0 m (m + 24) x3 x4 x5 0 0 ((((withinI x0 (0) (30)), ((withinI x1 (1) (20)), (withinI x2 (1) (40)))), (false, ((0), (false, (([] : List (List UInt8)), (0))))))) ((((withinI x0 (0) (30)), ((withinI x1 (1) (20)), (withinI x2 (1) (40)))), ((-1), ((0), ((-1), (([] : List (List UInt8)), ([] : List (List UInt8)))))))))) = true then
                      if ((l5_0R m (m + 24) x3 x4 x5 0 0 ((((withinI x0 (0) (30)), ((withinI x1 (1) (20)), (withinI x2 (1) (40)))), (false, ((0), (false, (([] : List (List UInt8)), (0))))))) ((((withinI x0 (0) (30)), ((withinI x1 (1) (20)), (withinI x2 (1) (40)))), ((-1), ((0), ((-1), (([] : List (List UInt8)), ([] : List (List UInt8))))))))).1 == 0) = true then
                        some ()
                      else
                        if ((l5_0R m (m + 24) x3 x4 x5 0 0 ((((withinI x0 (0) (30)), ((withinI x1 (1) (20)), (withinI x2 (1) (40)))), (false, ((0), (false, (([] : List (List UInt8)), (0))))))) ((((withinI x0 (0) (30)), ((withinI x1 (1) (20)), (withinI x2 (1) (40)))), ((-1), ((0), ((-1), (([] : List (List UInt8)), ([] : List (List UInt8))))))))).1 == 1) = true then
                          some ()
                        else
                          if ((l5_0R m (m + 24) x3 x4 x5 0 0 ((((withinI x0 (0) (30)), ((withinI x1 (1) (20)), (withinI x2 (1) (40)))), (false, ((0), (false, (([] : List (List UInt8)), (0))))))) ((((withinI x0 (0) (30)), ((withinI x1 (1) (20)), (withinI x2 (1) (40)))), ((-1), ((0), ((-1), (([] : List (List UInt8)), ([] : List (List UInt8))))))))).1 == 2) = true then
                            some ()
                          else
                            none
                    else
                      none
                else
                  if (Option.isSome (l5_0 m (m + 24) x3 x4 x5 0 0 ((((withinI x0 (0) (30)), ((withinI x1 (1) (20)), (withinI x2 (1) (40)))), (false, ((0), (false, (([] : List (List UInt8)), (0))))))) ((((withinI x0 (0) (30)), ((withinI x1 (1) (20)), (withinI x2 (1) (40)))), ((-1), ((0), ((-1), (([] : List (List UInt8)), ([] : List (List UInt8)))))))))) = true then
                    if ((l5_0R m (m + 24) x3 x4 x5 0 0 ((((withinI x0 (0) (30)), ((withinI x1 (1) (20)), (withinI x2 (1) (40)))), (false, ((0), (false, (([] : List (List UInt8)), (0))))))) ((((withinI x0 (0) (30)), ((withinI x1 (1) (20)), (withinI x2 (1) (40)))), ((-1), ((0), ((-1), (([] : List (List UInt8)), ([] : List (List UInt8))))))))).1 == 0) = true then
                      some ()
                    else
                      if ((l5_0R m (m + 24) x3 x4 x5 0 0 ((((withinI x0 (0) (30)), ((withinI x1 (1) (20)), (withinI x2 (1) (40)))), (false, ((0), (false, (([] : List (List UInt8)), (0))))))) ((((withinI x0 (0) (30)), ((withinI x1 (1) (20)), (withinI x2 (1) (40)))), ((-1), ((0), ((-1), (([] : List (List UInt8)), ([] : List (List UInt8))))))))).1 == 1) = true then
                        some ()
                      else
                        if ((l5_0R m (m + 24) x3 x4 x5 0 0 ((((withinI x0 (0) (30)), ((withinI x1 (1) (20)), (withinI x2 (1) (40)))), (false, ((0), (false, (([] : List (List UInt8)), (0))))))) ((((withinI x0 (0) (30)), ((withinI x1 (1) (20)), (withinI x2 (1) (40)))), ((-1), ((0), ((-1), (([] : List (List UInt8)), ([] : List (List UInt8))))))))).1 == 2) = true then
                          some ()
                        else
                          none
                  else
                    none
              else
                if (Option.isSome (l5_0 m (m + 24) x3 x4 x5 0 0 ((((withinI x0 (0) (30)), ((withinI x1 (1) (20)), (withinI x2 (1) (40)))), (false, ((0), (false, (([] : List (List UInt8)), (0))))))) ((((withinI x0 (0) (30)), ((withinI x1 (1) (20)), (withinI x2 (1) (40)))), ((-1), ((0), ((-1), (([] : List (List UInt8)), ([] : List (List UInt8)))))))))) = true then
                  if ((l5_0R m (m + 24) x3 x4 x5 0 0 ((((withinI x0 (0) (30)), ((withinI x1 (1) (20)), (withinI x2 (1) (40)))), (false, ((0), (false, (([] : List (List UInt8)), (0))))))) ((((withinI x0 (0) (30)), ((withinI x1 (1) (20)), (withinI x2 (1) (40)))), ((-1), ((0), ((-1), (([] : List (List UInt8)), ([] : List (List UInt8))))))))).1 == 0) = true then
                    some ()
                  else
                    if ((l5_0R m (m + 24) x3 x4 x5 0 0 ((((withinI x0 (0) (30)), ((withinI x1 (1) (20)), (withinI x2 (1) (40)))), (false, ((0), (false, (([] : List (List UInt8)), (0))))))) ((((withinI x0 (0) (30)), ((withinI x1 (1) (20)), (withinI x2 (1) (40)))), ((-1), ((0), ((-1), (([] : List (List UInt8)), ([] : List (List UInt8))))))))).1 == 1) = true then
                      some ()
                    else
                      if ((l5_0R m (m + 24) x3 x4 x5 0 0 ((((withinI x0 (0) (30)), ((withinI x1 (1) (20)), (withinI x2 (1) (40)))), (false, ((0), (false, (([] : List (List UInt8)), (0))))))) ((((withinI x0 (0) (30)), ((withinI x1 (1) (20)), (withinI x2 (1) (40)))), ((-1), ((0), ((-1), (([] : List (List UInt8)), ([] : List (List UInt8))))))))).1 == 2) = true then
                        some ()
                      else
                        none
                else
                  none
            else
              none
          else
            none
        else
          none
      else
        none
    else
      none
  else
    none

end Go.Proofs.Ytkppbflmlpabjab.Dec
