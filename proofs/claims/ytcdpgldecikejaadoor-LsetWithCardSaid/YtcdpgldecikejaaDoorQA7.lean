/- LsetWith, as a plain function. LsetWith: its plain law. -/
import Derived.Test.YtcdpgldecikejaaDoorQA6
import Derived.KernelRfl
namespace Go.Proofs.YtcdpgldecikejaaDoor.Dec
open Go.Ev
set_option linter.unusedVariables false
set_option linter.unusedSimpArgs false
set_option maxRecDepth 100000
noncomputable def fn7 : AFn := (F 7).getD ⟨0, [], .bad, false, false, noHd⟩
noncomputable def body7 : AC := fn7.body
def l7_0 (m : Nat) : Nat → List (List UInt8) → List ((List UInt8) × (List UInt8)) → List UInt8 → List ((List UInt8) × (List UInt8)) → List ((List UInt8) × (List UInt8)) → Int → Option (Nat × Int)
  | 0, _, _, _, _, _, _ => none
  | n + 1, x3, s9, s11, s13, s14, s73 => if decide (s73 < 4) = true then
      if decide (0 ≤ s73) = true then
        if ((List.getD [([97] : List UInt8), ([98] : List UInt8), ([99] : List UInt8), ([110, 97, 109, 101] : List UInt8)] (Int.toNat s73) ([] : List UInt8)) == s11) = true then
          l7_0 m n x3 s9 s11 s13 s14 ((IntKind.wrap .i64 (s73 + (1))))
        else
          if decide (List.length s13 ≤ 1000000) = true then
            if decide (List.length s9 ≤ 1000000) = true then
              if ((getG s13 (List.getD [([97] : List UInt8), ([98] : List UInt8), ([99] : List UInt8), ([110, 97, 109, 101] : List UInt8)] (Int.toNat s73) ([] : List UInt8))) == (getG s9 (List.getD [([97] : List UInt8), ([98] : List UInt8), ([99] : List UInt8), ([110, 97, 109, 101] : List UInt8)] (Int.toNat s73) ([] : List UInt8)))) = true then
                if decide (List.length s14 ≤ 1000000) = true then
                  if ((getG s14 (List.getD [([97] : List UInt8), ([98] : List UInt8), ([99] : List UInt8), ([110, 97, 109, 101] : List UInt8)] (Int.toNat s73) ([] : List UInt8))) == (getG s9 (List.getD [([97] : List UInt8), ([98] : List UInt8), ([99] : List UInt8), ([110, 97, 109, 101] : List UInt8)] (Int.toNat s73) ([] : List UInt8)))) = true then
                    l7_0 m n x3 s9 s11 s13 s14 ((IntKind.wrap .i64 (s73 + (1))))
                  else
                    none
                else
                  none
              else
                none
            else
              none
          else
            none
      else
        none
    else
      some (0, s73)
def l7_0D : Nat × Int := (0, 0)
@[reducible] def l7_0R (m n : Nat) (x3 : List (List UInt8)) (s9 : List ((List UInt8) × (List UInt8))) (s11 : List UInt8) (s13 : List ((List UInt8) × (List UInt8))) (s14 : List ((List UInt8) × (List UInt8))) (s73 : Int) : Nat × Int := Option.getD (l7_0 m n x3 s9 s11 s13 s14 s73) l7_0D
def l7_0H (x3 : List (List UInt8)) (s9 : List ((List UInt8) × (List UInt8))) (s11 : List UInt8) (s13 : List ((List UInt8) × (List UInt8))) (s14 : List ((List UInt8) × (List UInt8))) (s73 : Int) : Env := [.top, .top, .top, (.d (.sl .str x3)), .top, .top, .top, .top, .top, (.d (.sl (.pair .str .str) s9)), .top, (.d (.str s11)), .top, (.d (.sl (.pair .str .str) s13)), (.d (.sl (.pair .str .str) s14)), .top, .top, .top, .top, .top, .top, .top, .top, .top, .top, .top, .top, .top, .top, .top, .top, .top, .top, .top, .top, .top, .top, .top, .top, .top, .top, .top, .top, .top, .top, .top, .top, .top, .top, .top, .top, .top, .top, .top, .top, .top, .top, .top, .top, .top, .top, .top, .top, .top, .top, .top, .top, .top, .top, .top, .top, (.d (.sl .str [([97] : List UInt8), ([98] : List UInt8), ([99] : List UInt8), ([110, 97, 109, 101] : List UInt8)])), (.d (.int .i64 (4))), (.d (.int .i64 s73)), .top, .top, .top, .top, .top, .top, .top, .top, .top, .top, .top, .top, .top, .top, .top, .top, .top, .top, .top, .top, .top, .top, .top, .top, .top, .top, .top, .top, .top, .top, .top, .top, .top, .top, .top, .top, .top, .top, .top, .top, .top, .top, .top, .top, .top, .top, .top, .top, .top, .top, .top, .top, .top, .top, .top, .top, .top, .top, .top, .top, .top, .top, .top, .top, .top, .top, .top, .top, .top, .top, .top, .top, .top, .top, .top, .top, .top, .top, .top, .top, .top, .top, .top]
def l7_0B (x3 : List (List UInt8)) (s9 : List ((List UInt8) × (List UInt8))) (s11 : List UInt8) (s13 : List ((List UInt8) × (List UInt8))) (s14 : List ((List UInt8) × (List UInt8))) (s73 : Int) : Boxes := []
def l7_0E (x3 : List (List UInt8)) (s9 : List ((List UInt8) × (List UInt8))) (s11 : List UInt8) (s13 : List ((List UInt8) × (List UInt8))) (s14 : List ((List UInt8) × (List UInt8))) (s73 : Int) : Nat → AEx × Env × Boxes
  | _ => (.exit 0, [.top, .top, .top, (.d (.sl .str x3)), .top, .top, .top, .top, .top, (.d (.sl (.pair .str .str) s9)), .top, (.d (.str s11)), .top, (.d (.sl (.pair .str .str) s13)), (.d (.sl (.pair .str .str) s14)), .top, .top, .top, .top, .top, .top, .top, .top, .top, .top, .top, .top, .top, .top, .top, .top, .top, .top, .top, .top, .top, .top, .top, .top, .top, .top, .top, .top, .top, .top, .top, .top, .top, .top, .top, .top, .top, .top, .top, .top, .top, .top, .top, .top, .top, .top, .top, .top, .top, .top, .top, .top, .top, .top, .top, .top, (.d (.sl .str [([97] : List UInt8), ([98] : List UInt8), ([99] : List UInt8), ([110, 97, 109, 101] : List UInt8)])), (.d (.int .i64 (4))), (.d (.int .i64 s73)), (.d (.bool (decide (s73 < 4)))), .top, .top, .top, .top, .top, .top, .top, .top, .top, .top, .top, .top, .top, .top, .top, .top, .top, .top, .top, .top, .top, .top, .top, .top, .top, .top, .top, .top, .top, .top, .top, .top, .top, .top, .top, .top, .top, .top, .top, .top, .top, .top, .top, .top, .top, .top, .top, .top, .top, .top, .top, .top, .top, .top, .top, .top, .top, .top, .top, .top, .top, .top, .top, .top, .top, .top, .top, .top, .top, .top, .top, .top, .top, .top, .top, .top, .top, .top, .top, .top, .top, .top], [])
noncomputable def lbl7_0 : AC := loopBody 16528282690043758275080 body7

set_option maxHeartbeats 20000000 in
theorem l7_0_w0 (m n : Nat) (x3 : List (List UInt8)) (s9 : List ((List UInt8) × (List UInt8))) (s11 : List UInt8) (s13 : List ((List UInt8) × (List UInt8))) (s14 : List ((List UInt8) × (List UInt8))) (s73 : Int) (r : AEx × Env × Boxes) (c0 : decide (s73 < 4) = true) (c1 : decide (0 ≤ s73) = true) (c3 : ((List.getD [([97] : List UInt8), ([98] : List UInt8), ([99] : List UInt8), ([110, 97, 109, 101] : List UInt8)] (Int.toNat s73) ([] : List UInt8)) == s11) = true) (ih : (turns (hds 7 16528282690043758275080) 0 16528282690043758275080 (evC byref (evCall F S21 (m + 24)) (m + 24) 0 (hds 7) lbl7_0) n (l7_0H x3 s9 s11 s13 s14 ((IntKind.wrap .i64 (s73 + (1))))) (l7_0B x3 s9 s11 s13 s14 ((IntKind.wrap .i64 (s73 + (1)))))).run = some r) : (turns (hds 7 16528282690043758275080) 0 16528282690043758275080 (evC byref (evCall F S21 (m + 24)) (m + 24) 0 (hds 7) lbl7_0) (n + 1) (l7_0H x3 s9 s11 s13 s14 s73) (l7_0B x3 s9 s11 s13 s14 s73)).run = some r := by
  exact turns_step (M.run_of_path _ [true, true, true, false, false, false, false, false, false, false, false, false, false, false] _ _ (by kernel_rfl) (all_t c0 (all_t c1 (all_t c0 (all_nt c3 (all_nt c3 (all_nt c3 (all_nt c3 (all_nt c3 (all_nt c3 (all_nt c3 (all_nt c3 (all_nt c3 (all_nt c3 (all_f Bool.false_ne_true all_nil))))))))))))))) ih
set_option maxHeartbeats 20000000 in
theorem l7_0_w1 (m n : Nat) (x3 : List (List UInt8)) (s9 : List ((List UInt8) × (List UInt8))) (s11 : List UInt8) (s13 : List ((List UInt8) × (List UInt8))) (s14 : List ((List UInt8) × (List UInt8))) (s73 : Int) (r : AEx × Env × Boxes) (c0 : decide (s73 < 4) = true) (c1 : decide (0 ≤ s73) = true) (c3 : ¬ ((List.getD [([97] : List UInt8), ([98] : List UInt8), ([99] : List UInt8), ([110, 97, 109, 101] : List UInt8)] (Int.toNat s73) ([] : List UInt8)) == s11) = true) (c6 : decide (List.length s13 ≤ 1000000) = true) (c10 : decide (List.length s9 ≤ 1000000) = true) (c13 : ((getG s13 (List.getD [([97] : List UInt8), ([98] : List UInt8), ([99] : List UInt8), ([110, 97, 109, 101] : List UInt8)] (Int.toNat s73) ([] : List UInt8))) == (getG s9 (List.getD [([97] : List UInt8), ([98] : List UInt8), ([99] : List UInt8), ([110, 97, 109, 101] : List UInt8)] (Int.toNat s73) ([] : List UInt8)))) = true) (c16 : decide (List.length s14 ≤ 1000000) = true) (c25 : ((getG s14 (List.getD [([97] : List UInt8), ([98] : List UInt8), ([99] : List UInt8), ([110, 97, 109, 101] : List UInt8)] (Int.toNat s73) ([] : List UInt8))) == (getG s9 (List.getD [([97] : List UInt8), ([98] : List UInt8), ([99] : List UInt8), ([110, 97, 109, 101] : List UInt8)] (Int.toNat s73) ([] : List UInt8)))) = true) (ih : (turns (hds 7 16528282690043758275080) 0 16528282690043758275080 (evC byref (evCall F S21 (m + 24)) (m + 24) 0 (hds 7) lbl7_0) n (l7_0H x3 s9 s11 s13 s14 ((IntKind.wrap .i64 (s73 + (1))))) (l7_0B x3 s9 s11 s13 s14 ((IntKind.wrap .i64 (s73 + (1)))))).run = some r) : (turns (hds 7 16528282690043758275080) 0 16528282690043758275080 (evC byref (evCall F S21 (m + 24)) (m + 24) 0 (hds 7) lbl7_0) (n + 1) (l7_0H x3 s9 s11 s13 s14 s73) (l7_0B x3 s9 s11 s13 s14 s73)).run = some r := by
  exact turns_step (M.run_of_path _ [true, true, true, true, true, true, true, true, true, true, true, true, true, false, false, false, true, false, false, false, true, false, true, false, true, false] _ _ (by kernel_rfl) (all_t c0 (all_t c1 (all_t c0 (all_nf c3 (all_nf c3 (all_nf c3 (all_t c6 (all_nf c3 (all_nf c3 (all_nf c3 (all_t c10 (all_nf c3 (all_nf c3 (all_nt c13 (all_nt c13 (all_nt c13 (all_t c16 (all_nt c13 (all_nt c13 (all_nt c13 (all_t c10 (all_nt c13 (all_nf c3 (all_nt c13 (all_nf c3 (all_nt c25 all_nil))))))))))))))))))))))))))) ih
set_option maxHeartbeats 20000000 in
theorem l7_0_w2 (m n : Nat) (x3 : List (List UInt8)) (s9 : List ((List UInt8) × (List UInt8))) (s11 : List UInt8) (s13 : List ((List UInt8) × (List UInt8))) (s14 : List ((List UInt8) × (List UInt8))) (s73 : Int) (c0 : ¬ decide (s73 < 4) = true) : (turns (hds 7 16528282690043758275080) 0 16528282690043758275080 (evC byref (evCall F S21 (m + 24)) (m + 24) 0 (hds 7) lbl7_0) (n + 1) (l7_0H x3 s9 s11 s13 s14 s73) (l7_0B x3 s9 s11 s13 s14 s73)).run = some (.exit 0, [.top, .top, .top, (.d (.sl .str x3)), .top, .top, .top, .top, .top, (.d (.sl (.pair .str .str) s9)), .top, (.d (.str s11)), .top, (.d (.sl (.pair .str .str) s13)), (.d (.sl (.pair .str .str) s14)), .top, .top, .top, .top, .top, .top, .top, .top, .top, .top, .top, .top, .top, .top, .top, .top, .top, .top, .top, .top, .top, .top, .top, .top, .top, .top, .top, .top, .top, .top, .top, .top, .top, .top, .top, .top, .top, .top, .top, .top, .top, .top, .top, .top, .top, .top, .top, .top, .top, .top, .top, .top, .top, .top, .top, .top, (.d (.sl .str [([97] : List UInt8), ([98] : List UInt8), ([99] : List UInt8), ([110, 97, 109, 101] : List UInt8)])), (.d (.int .i64 (4))), (.d (.int .i64 s73)), (.d (.bool (decide (s73 < 4)))), .top, .top, .top, .top, .top, .top, .top, .top, .top, .top, .top, .top, .top, .top, .top, .top, .top, .top, .top, .top, .top, .top, .top, .top, .top, .top, .top, .top, .top, .top, .top, .top, .top, .top, .top, .top, .top, .top, .top, .top, .top, .top, .top, .top, .top, .top, .top, .top, .top, .top, .top, .top, .top, .top, .top, .top, .top, .top, .top, .top, .top, .top, .top, .top, .top, .top, .top, .top, .top, .top, .top, .top, .top, .top, .top, .top, .top, .top, .top, .top, .top, .top], []) := by
  exact turns_last (by simp) (M.run_of_path _ [false] _ _ (by kernel_rfl) (all_f c0 all_nil)) 

set_option maxHeartbeats 20000000 in
theorem l7_0_step (m n : Nat) (ih : ∀ (x3 : List (List UInt8)) (s9 : List ((List UInt8) × (List UInt8))) (s11 : List UInt8) (s13 : List ((List UInt8) × (List UInt8))) (s14 : List ((List UInt8) × (List UInt8))) (s73 : Int) (q : Nat × Int), l7_0 m n x3 s9 s11 s13 s14 s73 = some q → (turns (hds 7 16528282690043758275080) 0 16528282690043758275080 (evC byref (evCall F S21 (m + 24)) (m + 24) 0 (hds 7) lbl7_0) n (l7_0H x3 s9 s11 s13 s14 s73) (l7_0B x3 s9 s11 s13 s14 s73)).run = some (l7_0E (x3) (s9) (s11) (s13) (s14) (q.2) q.1)) (x3 : List (List UInt8)) (s9 : List ((List UInt8) × (List UInt8))) (s11 : List UInt8) (s13 : List ((List UInt8) × (List UInt8))) (s14 : List ((List UInt8) × (List UInt8))) (s73 : Int) (q : Nat × Int) (h : l7_0 m (n + 1) x3 s9 s11 s13 s14 s73 = some q) : (turns (hds 7 16528282690043758275080) 0 16528282690043758275080 (evC byref (evCall F S21 (m + 24)) (m + 24) 0 (hds 7) lbl7_0) (n + 1) (l7_0H x3 s9 s11 s13 s14 s73) (l7_0B x3 s9 s11 s13 s14 s73)).run = some (l7_0E (x3) (s9) (s11) (s13) (s14) (q.2) q.1) := by
  rw [l7_0] at h
  refine ite_cases h (fun c0 h => ?_) (fun c0 h => ?_)
  · skip
    refine ite_cases h (fun c1 h => ?_) (fun c1 h => ?_)
    · skip
      refine ite_cases h (fun c3 h => ?_) (fun c3 h => ?_)
      · skip
        exact l7_0_w0 m n x3 s9 s11 s13 s14 s73 _ c0 c1 c3 (ih _ _ _ _ _ _ q h)
      · skip
        refine ite_cases h (fun c6 h => ?_) (fun c6 h => ?_)
        · skip
          refine ite_cases h (fun c10 h => ?_) (fun c10 h => ?_)
          · skip
            refine ite_cases h (fun c13 h => ?_) (fun c13 h => ?_)
            · skip
              refine ite_cases h (fun c16 h => ?_) (fun c16 h => ?_)
              · skip
                refine ite_cases h (fun c25 h => ?_) (fun c25 h => ?_)
                · skip
                  exact l7_0_w1 m n x3 s9 s11 s13 s14 s73 _ c0 c1 c3 c6 c10 c13 c16 c25 (ih _ _ _ _ _ _ q h)
                · skip
                  cases h
              · skip
                cases h
            · skip
              cases h
          · skip
            cases h
        · skip
          cases h
    · skip
      cases h
  · skip
    cases h
    exact l7_0_w2 m n x3 s9 s11 s13 s14 s73 c0
set_option maxHeartbeats 20000000 in
theorem l7_0_ok (m : Nat) : ∀ (n : Nat) (x3 : List (List UInt8)) (s9 : List ((List UInt8) × (List UInt8))) (s11 : List UInt8) (s13 : List ((List UInt8) × (List UInt8))) (s14 : List ((List UInt8) × (List UInt8))) (s73 : Int) (q : Nat × Int), l7_0 m n x3 s9 s11 s13 s14 s73 = some q → (turns (hds 7 16528282690043758275080) 0 16528282690043758275080 (evC byref (evCall F S21 (m + 24)) (m + 24) 0 (hds 7) lbl7_0) n (l7_0H x3 s9 s11 s13 s14 s73) (l7_0B x3 s9 s11 s13 s14 s73)).run = some (l7_0E (x3) (s9) (s11) (s13) (s14) (q.2) q.1)
  | 0, x3, s9, s11, s13, s14, s73, q, h => by cases h
  | n + 1, x3, s9, s11, s13, s14, s73, q, h => l7_0_step m n (l7_0_ok m n) x3 s9 s11 s13 s14 s73 q h

def lwith (m : Nat) (x0 : (List Int) × (List Int)) (x1 : Int) (x2 : Int) (x3 : List (List UInt8)) : Option Unit :=
  if decide (0 ≤ (withinI x1 (0) (3))) = true then
    if decide ((withinI x1 (0) (3)) < 4) = true then
      if decide (0 ≤ (withinI x2 (0) (7))) = true then
        if decide ((withinI x2 (0) (7)) < 8) = true then
          if decide (List.length (setG x0) ≤ 1000000) = true then
            if decide ((((List.length (withG (setG x0) (List.getD [([97] : List UInt8), ([98] : List UInt8), ([99] : List UInt8), ([110, 97, 109, 101] : List UInt8)] (Int.toNat (withinI x1 (0) (3))) ([] : List UInt8)) (List.getD [([120] : List UInt8), ([121] : List UInt8), ([120, 121] : List UInt8), ([49] : List UInt8), ([34] : List UInt8), ([92] : List UInt8), ([123, 125] : List UInt8), ([122, 32, 122] : List UInt8)] (Int.toNat (withinI x2 (0) (7))) ([] : List UInt8)))) : Nat) : Int) ≤ 6) = true then
              if lrightPre (withG (setG x0) (List.getD [([97] : List UInt8), ([98] : List UInt8), ([99] : List UInt8), ([110, 97, 109, 101] : List UInt8)] (Int.toNat (withinI x1 (0) (3))) ([] : List UInt8)) (List.getD [([120] : List UInt8), ([121] : List UInt8), ([120, 121] : List UInt8), ([49] : List UInt8), ([34] : List UInt8), ([92] : List UInt8), ([123, 125] : List UInt8), ([122, 32, 122] : List UInt8)] (Int.toNat (withinI x2 (0) (7))) ([] : List UInt8))) = true then
                if (lrightG (withG (setG x0) (List.getD [([97] : List UInt8), ([98] : List UInt8), ([99] : List UInt8), ([110, 97, 109, 101] : List UInt8)] (Int.toNat (withinI x1 (0) (3))) ([] : List UInt8)) (List.getD [([120] : List UInt8), ([121] : List UInt8), ([120, 121] : List UInt8), ([49] : List UInt8), ([34] : List UInt8), ([92] : List UInt8), ([123, 125] : List UInt8), ([122, 32, 122] : List UInt8)] (Int.toNat (withinI x2 (0) (7))) ([] : List UInt8)))) = true then
                  if lrightPre (withG (setG x0) (List.getD [([97] : List UInt8), ([98] : List UInt8), ([99] : List UInt8), ([110, 97, 109, 101] : List UInt8)] (Int.toNat (withinI x1 (0) (3))) ([] : List UInt8)) ([] : List UInt8)) = true then
                    if (lrightG (withG (setG x0) (List.getD [([97] : List UInt8), ([98] : List UInt8), ([99] : List UInt8), ([110, 97, 109, 101] : List UInt8)] (Int.toNat (withinI x1 (0) (3))) ([] : List UInt8)) ([] : List UInt8))) = true then
                      if decide (List.length (withG (setG x0) (List.getD [([97] : List UInt8), ([98] : List UInt8), ([99] : List UInt8), ([110, 97, 109, 101] : List UInt8)] (Int.toNat (withinI x1 (0) (3))) ([] : List UInt8)) (List.getD [([120] : List UInt8), ([121] : List UInt8), ([120, 121] : List UInt8), ([49] : List UInt8), ([34] : List UInt8), ([92] : List UInt8), ([123, 125] : List UInt8), ([122, 32, 122] : List UInt8)] (Int.toNat (withinI x2 (0) (7))) ([] : List UInt8))) ≤ 1000000) = true then
                        if ((getG (withG (setG x0) (List.getD [([97] : List UInt8), ([98] : List UInt8), ([99] : List UInt8), ([110, 97, 109, 101] : List UInt8)] (Int.toNat (withinI x1 (0) (3))) ([] : List UInt8)) (List.getD [([120] : List UInt8), ([121] : List UInt8), ([120, 121] : List UInt8), ([49] : List UInt8), ([34] : List UInt8), ([92] : List UInt8), ([123, 125] : List UInt8), ([122, 32, 122] : List UInt8)] (Int.toNat (withinI x2 (0) (7))) ([] : List UInt8))) (List.getD [([97] : List UInt8), ([98] : List UInt8), ([99] : List UInt8), ([110, 97, 109, 101] : List UInt8)] (Int.toNat (withinI x1 (0) (3))) ([] : List UInt8))) == (List.getD [([120] : List UInt8), ([121] : List UInt8), ([120, 121] : List UInt8), ([49] : List UInt8), ([34] : List UInt8), ([92] : List UInt8), ([123, 125] : List UInt8), ([122, 32, 122] : List UInt8)] (Int.toNat (withinI x2 (0) (7))) ([] : List UInt8))) = true then
                          if decide (List.length (withG (setG x0) (List.getD [([97] : List UInt8), ([98] : List UInt8), ([99] : List UInt8), ([110, 97, 109, 101] : List UInt8)] (Int.toNat (withinI x1 (0) (3))) ([] : List UInt8)) ([] : List UInt8)) ≤ 1000000) = true then
                            if ((getG (withG (setG x0) (List.getD [([97] : List UInt8), ([98] : List UInt8), ([99] : List UInt8), ([110, 97, 109, 101] : List UInt8)] (Int.toNat (withinI x1 (0) (3))) ([] : List UInt8)) ([] : List UInt8)) (List.getD [([97] : List UInt8), ([98] : List UInt8), ([99] : List UInt8), ([110, 97, 109, 101] : List UInt8)] (Int.toNat (withinI x1 (0) (3))) ([] : List UInt8))) == ([] : List UInt8)) = true then
                              if (Option.isSome (l7_0 m (m + 24) x3 ((setG x0)) ((List.getD [([97] : List UInt8), ([98] : List UInt8), ([99] : List UInt8), ([110, 97, 109, 101] : List UInt8)] (Int.toNat (withinI x1 (0) (3))) ([] : List UInt8))) ((withG (setG x0) (List.getD [([97] : List UInt8), ([98] : List UInt8), ([99] : List UInt8), ([110, 97, 109, 101] : List UInt8)] (Int.toNat (withinI x1 (0) (3))) ([] : List UInt8)) (List.getD [([120] : List UInt8), ([121] : List UInt8), ([120, 121] : List UInt8), ([49] : List UInt8), ([34] : List UInt8), ([92] : List UInt8), ([123, 125] : List UInt8), ([122, 32, 122] : List UInt8)] (Int.toNat (withinI x2 (0) (7))) ([] : List UInt8)))) ((withG (setG x0) (List.getD [([97] : List UInt8), ([98] : List UInt8), ([99] : List UInt8), ([110, 97, 109, 101] : List UInt8)] (Int.toNat (withinI x1 (0) (3))) ([] : List UInt8)) ([] : List UInt8))) 0)) = true then
                                if keepPre ((setG x0)) x3 = true then
                                  if keepPre ((withG (setG x0) (List.getD [([97] : List UInt8), ([98] : List UInt8), ([99] : List UInt8), ([110, 97, 109, 101] : List UInt8)] (Int.toNat (withinI x1 (0) (3))) ([] : List UInt8)) (List.getD [([120] : List UInt8), ([121] : List UInt8), ([120, 121] : List UInt8), ([49] : List UInt8), ([34] : List UInt8), ([92] : List UInt8), ([123, 125] : List UInt8), ([122, 32, 122] : List UInt8)] (Int.toNat (withinI x2 (0) (7))) ([] : List UInt8)))) [((List.getD [([97] : List UInt8), ([98] : List UInt8), ([99] : List UInt8), ([110, 97, 109, 101] : List UInt8)] (Int.toNat (withinI x1 (0) (3))) ([] : List UInt8)))] = true then
                                    if keepPre ((setG x0)) [((List.getD [([97] : List UInt8), ([98] : List UInt8), ([99] : List UInt8), ([110, 97, 109, 101] : List UInt8)] (Int.toNat (withinI x1 (0) (3))) ([] : List UInt8)))] = true then
                                      if decide (List.length (List.take (List.length (dropG ((withG (setG x0) (List.getD [([97] : List UInt8), ([98] : List UInt8), ([99] : List UInt8), ([110, 97, 109, 101] : List UInt8)] (Int.toNat (withinI x1 (0) (3))) ([] : List UInt8)) (List.getD [([120] : List UInt8), ([121] : List UInt8), ([120, 121] : List UInt8), ([49] : List UInt8), ([34] : List UInt8), ([92] : List UInt8), ([123, 125] : List UInt8), ([122, 32, 122] : List UInt8)] (Int.toNat (withinI x2 (0) (7))) ([] : List UInt8)))) [((List.getD [([97] : List UInt8), ([98] : List UInt8), ([99] : List UInt8), ([110, 97, 109, 101] : List UInt8)] (Int.toNat (withinI x1 (0) (3))) ([] : List UInt8)))])) (List.drop 0 (dropG ((withG (setG x0) (List.getD [([97] : List UInt8), ([98] : List UInt8), ([99] : List UInt8), ([110, 97, 109, 101] : List UInt8)] (Int.toNat (withinI x1 (0) (3))) ([] : List UInt8)) (List.getD [([120] : List UInt8), ([121] : List UInt8), ([120, 121] : List UInt8), ([49] : List UInt8), ([34] : List UInt8), ([92] : List UInt8), ([123, 125] : List UInt8), ([122, 32, 122] : List UInt8)] (Int.toNat (withinI x2 (0) (7))) ([] : List UInt8)))) [((List.getD [([97] : List UInt8), ([98] : List UInt8), ([99] : List UInt8), ([110, 97, 109, 101] : List UInt8)] (Int.toNat (withinI x1 (0) (3))) ([] : List UInt8)))]))) < 4611686018427387904) = true then
                                        if ((show List ((List UInt8) × (List UInt8)) from (List.take (List.length (dropG ((withG (setG x0) (List.getD [([97] : List UInt8), ([98] : List UInt8), ([99] : List UInt8), ([110, 97, 109, 101] : List UInt8)] (Int.toNat (withinI x1 (0) (3))) ([] : List UInt8)) (List.getD [([120] : List UInt8), ([121] : List UInt8), ([120, 121] : List UInt8), ([49] : List UInt8), ([34] : List UInt8), ([92] : List UInt8), ([123, 125] : List UInt8), ([122, 32, 122] : List UInt8)] (Int.toNat (withinI x2 (0) (7))) ([] : List UInt8)))) [((List.getD [([97] : List UInt8), ([98] : List UInt8), ([99] : List UInt8), ([110, 97, 109, 101] : List UInt8)] (Int.toNat (withinI x1 (0) (3))) ([] : List UInt8)))])) (List.drop 0 (dropG ((withG (setG x0) (List.getD [([97] : List UInt8), ([98] : List UInt8), ([99] : List UInt8), ([110, 97, 109, 101] : List UInt8)] (Int.toNat (withinI x1 (0) (3))) ([] : List UInt8)) (List.getD [([120] : List UInt8), ([121] : List UInt8), ([120, 121] : List UInt8), ([49] : List UInt8), ([34] : List UInt8), ([92] : List UInt8), ([123, 125] : List UInt8), ([122, 32, 122] : List UInt8)] (Int.toNat (withinI x2 (0) (7))) ([] : List UInt8)))) [((List.getD [([97] : List UInt8), ([98] : List UInt8), ([99] : List UInt8), ([110, 97, 109, 101] : List UInt8)] (Int.toNat (withinI x1 (0) (3))) ([] : List UInt8)))])))) == (List.take (List.length (dropG ((setG x0)) [((List.getD [([97] : List UInt8), ([98] : List UInt8), ([99] : List UInt8), ([110, 97, 109, 101] : List UInt8)] (Int.toNat (withinI x1 (0) (3))) ([] : List UInt8)))])) (List.drop 0 (dropG ((setG x0)) [((List.getD [([97] : List UInt8), ([98] : List UInt8), ([99] : List UInt8), ([110, 97, 109, 101] : List UInt8)] (Int.toNat (withinI x1 (0) (3))) ([] : List UInt8)))])))) = true then
                                          if decide (List.length ((withG (setG x0) (List.getD [([97] : List UInt8), ([98] : List UInt8), ([99] : List UInt8), ([110, 97, 109, 101] : List UInt8)] (Int.toNat (withinI x1 (0) (3))) ([] : List UInt8)) ([] : List UInt8))) < 4611686018427387904) = true then
                                            if ((show List ((List UInt8) × (List UInt8)) from ((withG (setG x0) (List.getD [([97] : List UInt8), ([98] : List UInt8), ([99] : List UInt8), ([110, 97, 109, 101] : List UInt8)] (Int.toNat (withinI x1 (0) (3))) ([] : List UInt8)) ([] : List UInt8)))) == (List.take (List.length (dropG ((setG x0)) [((List.getD [([97] : List UInt8), ([98] : List UInt8), ([99] : List UInt8), ([110, 97, 109, 101] : List UInt8)] (Int.toNat (withinI x1 (0) (3))) ([] : List UInt8)))])) (List.drop 0 (dropG ((setG x0)) [((List.getD [([97] : List UInt8), ([98] : List UInt8), ([99] : List UInt8), ([110, 97, 109, 101] : List UInt8)] (Int.toNat (withinI x1 (0) (3))) ([] : List UInt8)))])))) = true then
                                              if ((IntKind.wrap .i64 ((((List.length (keepG ((setG x0)) x3)) : Nat) : Int) + (((List.length (dropG ((setG x0)) x3)) : Nat) : Int))) == (((List.length ((setG x0))) : Nat) : Int)) = true then
                                                if keepPre (List.take (List.length (dropG ((setG x0)) x3)) (List.drop 0 (dropG ((setG x0)) x3))) x3 = true then
                                                  if ((((List.length (keepG (List.take (List.length (dropG ((setG x0)) x3)) (List.drop 0 (dropG ((setG x0)) x3))) x3)) : Nat) : Int) == (0)) = true then
                                                    if keepPre (keepG ((setG x0)) x3) x3 = true then
                                                      if decide (List.length (keepG (keepG ((setG x0)) x3) x3) < 4611686018427387904) = true then
                                                        if ((show List ((List UInt8) × (List UInt8)) from (keepG (keepG ((setG x0)) x3) x3)) == (keepG ((setG x0)) x3)) = true then
                                                          if lrightPre (keepG ((setG x0)) x3) = true then
                                                            if (lrightG (keepG ((setG x0)) x3)) = true then
                                                              if lrightPre (List.take (List.length (dropG ((setG x0)) x3)) (List.drop 0 (dropG ((setG x0)) x3))) = true then
                                                                if (lrightG (List.take (List.length (dropG ((setG x0)) x3)) (List.drop 0 (dropG ((setG x0)) x3)))) = true then
                                                                  some ()
                                                                else
                                                                  none
                                                              else
                                                                none
                                                            else
                                                              none
                                                          else
                                                            none
                                                        else
                                                          none
                                                      else
                                                        none
                                                    else
                                                      none
                                                  else
                                                    none
                                                else
                                                  none
                                              else
                                                none
                                            else
                                              none
                                          else
                                            none
                                        else
                                          none
                                      else
                                        none
                                    else
                                      none
                                  else
                                    none
                                else
                                  none
                              else
                                none
                            else
                              none
                          else
                            none
                        else
                          none
                      else
                        none
                    else
                      none
                  else
                    none
                else
                  none
              else
                none
            else
              if lrightPre (withG (setG x0) (List.getD [([97] : List UInt8), ([98] : List UInt8), ([99] : List UInt8), ([110, 97, 109, 101] : List UInt8)] (Int.toNat (withinI x1 (0) (3))) ([] : List UInt8)) ([] : List UInt8)) = true then
                if (lrightG (withG (setG x0) (List.getD [([97] : List UInt8), ([98] : List UInt8), ([99] : List UInt8), ([110, 97, 109, 101] : List UInt8)] (Int.toNat (withinI x1 (0) (3))) ([] : List UInt8)) ([] : List UInt8))) = true then
                  if decide (List.length (withG (setG x0) (List.getD [([97] : List UInt8), ([98] : List UInt8), ([99] : List UInt8), ([110, 97, 109, 101] : List UInt8)] (Int.toNat (withinI x1 (0) (3))) ([] : List UInt8)) (List.getD [([120] : List UInt8), ([121] : List UInt8), ([120, 121] : List UInt8), ([49] : List UInt8), ([34] : List UInt8), ([92] : List UInt8), ([123, 125] : List UInt8), ([122, 32, 122] : List UInt8)] (Int.toNat (withinI x2 (0) (7))) ([] : List UInt8))) ≤ 1000000) = true then
                    if ((getG (withG (setG x0) (List.getD [([97] : List UInt8), ([98] : List UInt8), ([99] : List UInt8), ([110, 97, 109, 101] : List UInt8)] (Int.toNat (withinI x1 (0) (3))) ([] : List UInt8)) (List.getD [([120] : List UInt8), ([121] : List UInt8), ([120, 121] : List UInt8), ([49] : List UInt8), ([34] : List UInt8), ([92] : List UInt8), ([123, 125] : List UInt8), ([122, 32, 122] : List UInt8)] (Int.toNat (withinI x2 (0) (7))) ([] : List UInt8))) (List.getD [([97] : List UInt8), ([98] : List UInt8), ([99] : List UInt8), ([110, 97, 109, 101] : List UInt8)] (Int.toNat (withinI x1 (0) (3))) ([] : List UInt8))) == (List.getD [([120] : List UInt8), ([121] : List UInt8), ([120, 121] : List UInt8), ([49] : List UInt8), ([34] : List UInt8), ([92] : List UInt8), ([123, 125] : List UInt8), ([122, 32, 122] : List UInt8)] (Int.toNat (withinI x2 (0) (7))) ([] : List UInt8))) = true then
                      if decide (List.length (withG (setG x0) (List.getD [([97] : List UInt8), ([98] : List UInt8), ([99] : List UInt8), ([110, 97, 109, 101] : List UInt8)] (Int.toNat (withinI x1 (0) (3))) ([] : List UInt8)) ([] : List UInt8)) ≤ 1000000) = true then
                        if ((getG (withG (setG x0) (List.getD [([97] : List UInt8), ([98] : List UInt8), ([99] : List UInt8), ([110, 97, 109, 101] : List UInt8)] (Int.toNat (withinI x1 (0) (3))) ([] : List UInt8)) ([] : List UInt8)) (List.getD [([97] : List UInt8), ([98] : List UInt8), ([99] : List UInt8), ([110, 97, 109, 101] : List UInt8)] (Int.toNat (withinI x1 (0) (3))) ([] : List UInt8))) == ([] : List UInt8)) = true then
                          if (Option.isSome (l7_0 m (m + 24) x3 ((setG x0)) ((List.getD [([97] : List UInt8), ([98] : List UInt8), ([99] : List UInt8), ([110, 97, 109, 101] : List UInt8)] (Int.toNat (withinI x1 (0) (3))) ([] : List UInt8))) ((withG (setG x0) (List.getD [([97] : List UInt8), ([98] : List UInt8), ([99] : List UInt8), ([110, 97, 109, 101] : List UInt8)] (Int.toNat (withinI x1 (0) (3))) ([] : List UInt8)) (List.getD [([120] : List UInt8), ([121] : List UInt8), ([120, 121] : List UInt8), ([49] : List UInt8), ([34] : List UInt8), ([92] : List UInt8), ([123, 125] : List UInt8), ([122, 32, 122] : List UInt8)] (Int.toNat (withinI x2 (0) (7))) ([] : List UInt8)))) ((withG (setG x0) (List.getD [([97] : List UInt8), ([98] : List UInt8), ([99] : List UInt8), ([110, 97, 109, 101] : List UInt8)] (Int.toNat (withinI x1 (0) (3))) ([] : List UInt8)) ([] : List UInt8))) 0)) = true then
                            if keepPre ((setG x0)) x3 = true then
                              if keepPre ((withG (setG x0) (List.getD [([97] : List UInt8), ([98] : List UInt8), ([99] : List UInt8), ([110, 97, 109, 101] : List UInt8)] (Int.toNat (withinI x1 (0) (3))) ([] : List UInt8)) (List.getD [([120] : List UInt8), ([121] : List UInt8), ([120, 121] : List UInt8), ([49] : List UInt8), ([34] : List UInt8), ([92] : List UInt8), ([123, 125] : List UInt8), ([122, 32, 122] : List UInt8)] (Int.toNat (withinI x2 (0) (7))) ([] : List UInt8)))) [((List.getD [([97] : List UInt8), ([98] : List UInt8), ([99] : List UInt8), ([110, 97, 109, 101] : List UInt8)] (Int.toNat (withinI x1 (0) (3))) ([] : List UInt8)))] = true then
                                if keepPre ((setG x0)) [((List.getD [([97] : List UInt8), ([98] : List UInt8), ([99] : List UInt8), ([110, 97, 109, 101] : List UInt8)] (Int.toNat (withinI x1 (0) (3))) ([] : List UInt8)))] = true then
                                  if decide (List.length (List.take (List.length (dropG ((withG (setG x0) (List.getD [([97] : List UInt8), ([98] : List UInt8), ([99] : List UInt8), ([110, 97, 109, 101] : List UInt8)] (Int.toNat (withinI x1 (0) (3))) ([] : List UInt8)) (List.getD [([120] : List UInt8), ([121] : List UInt8), ([120, 121] : List UInt8), ([49] : List UInt8), ([34] : List UInt8), ([92] : List UInt8), ([123, 125] : List UInt8), ([122, 32, 122] : List UInt8)] (Int.toNat (withinI x2 (0) (7))) ([] : List UInt8)))) [((List.getD [([97] : List UInt8), ([98] : List UInt8), ([99] : List UInt8), ([110, 97, 109, 101] : List UInt8)] (Int.toNat (withinI x1 (0) (3))) ([] : List UInt8)))])) (List.drop 0 (dropG ((withG (setG x0) (List.getD [([97] : List UInt8), ([98] : List UInt8), ([99] : List UInt8), ([110, 97, 109, 101] : List UInt8)] (Int.toNat (withinI x1 (0) (3))) ([] : List UInt8)) (List.getD [([120] : List UInt8), ([121] : List UInt8), ([120, 121] : List UInt8), ([49] : List UInt8), ([34] : List UInt8), ([92] : List UInt8), ([123, 125] : List UInt8), ([122, 32, 122] : List UInt8)] (Int.toNat (withinI x2 (0) (7))) ([] : List UInt8)))) [((List.getD [([97] : List UInt8), ([98] : List UInt8), ([99] : List UInt8), ([110, 97, 109, 101] : List UInt8)] (Int.toNat (withinI x1 (0) (3))) ([] : List UInt8)))]))) < 4611686018427387904) = true then
                                    if ((show List ((List UInt8) × (List UInt8)) from (List.take (List.length (dropG ((withG (setG x0) (List.getD [([97] : List UInt8), ([98] : List UInt8), ([99] : List UInt8), ([110, 97, 109, 101] : List UInt8)] (Int.toNat (withinI x1 (0) (3))) ([] : List UInt8)) (List.getD [([120] : List UInt8), ([121] : List UInt8), ([120, 121] : List UInt8), ([49] : List UInt8), ([34] : List UInt8), ([92] : List UInt8), ([123, 125] : List UInt8), ([122, 32, 122] : List UInt8)] (Int.toNat (withinI x2 (0) (7))) ([] : List UInt8)))) [((List.getD [([97] : List UInt8), ([98] : List UInt8), ([99] : List UInt8), ([110, 97, 109, 101] : List UInt8)] (Int.toNat (withinI x1 (0) (3))) ([] : List UInt8)))])) (List.drop 0 (dropG ((withG (setG x0) (List.getD [([97] : List UInt8), ([98] : List UInt8), ([99] : List UInt8), ([110, 97, 109, 101] : List UInt8)] (Int.toNat (withinI x1 (0) (3))) ([] : List UInt8)) (List.getD [([120] : List UInt8), ([121] : List UInt8), ([120, 121] : List UInt8), ([49] : List UInt8), ([34] : List UInt8), ([92] : List UInt8), ([123, 125] : List UInt8), ([122, 32, 122] : List UInt8)] (Int.toNat (withinI x2 (0) (7))) ([] : List UInt8)))) [((List.getD [([97] : List UInt8), ([98] : List UInt8), ([99] : List UInt8), ([110, 97, 109, 101] : List UInt8)] (Int.toNat (withinI x1 (0) (3))) ([] : List UInt8)))])))) == (List.take (List.length (dropG ((setG x0)) [((List.getD [([97] : List UInt8), ([98] : List UInt8), ([99] : List UInt8), ([110, 97, 109, 101] : List UInt8)] (Int.toNat (withinI x1 (0) (3))) ([] : List UInt8)))])) (List.drop 0 (dropG ((setG x0)) [((List.getD [([97] : List UInt8), ([98] : List UInt8), ([99] : List UInt8), ([110, 97, 109, 101] : List UInt8)] (Int.toNat (withinI x1 (0) (3))) ([] : List UInt8)))])))) = true then
                                      if decide (List.length ((withG (setG x0) (List.getD [([97] : List UInt8), ([98] : List UInt8), ([99] : List UInt8), ([110, 97, 109, 101] : List UInt8)] (Int.toNat (withinI x1 (0) (3))) ([] : List UInt8)) ([] : List UInt8))) < 4611686018427387904) = true then
                                        if ((show List ((List UInt8) × (List UInt8)) from ((withG (setG x0) (List.getD [([97] : List UInt8), ([98] : List UInt8), ([99] : List UInt8), ([110, 97, 109, 101] : List UInt8)] (Int.toNat (withinI x1 (0) (3))) ([] : List UInt8)) ([] : List UInt8)))) == (List.take (List.length (dropG ((setG x0)) [((List.getD [([97] : List UInt8), ([98] : List UInt8), ([99] : List UInt8), ([110, 97, 109, 101] : List UInt8)] (Int.toNat (withinI x1 (0) (3))) ([] : List UInt8)))])) (List.drop 0 (dropG ((setG x0)) [((List.getD [([97] : List UInt8), ([98] : List UInt8), ([99] : List UInt8), ([110, 97, 109, 101] : List UInt8)] (Int.toNat (withinI x1 (0) (3))) ([] : List UInt8)))])))) = true then
                                          if ((IntKind.wrap .i64 ((((List.length (keepG ((setG x0)) x3)) : Nat) : Int) + (((List.length (dropG ((setG x0)) x3)) : Nat) : Int))) == (((List.length ((setG x0))) : Nat) : Int)) = true then
                                            if keepPre (List.take (List.length (dropG ((setG x0)) x3)) (List.drop 0 (dropG ((setG x0)) x3))) x3 = true then
                                              if ((((List.length (keepG (List.take (List.length (dropG ((setG x0)) x3)) (List.drop 0 (dropG ((setG x0)) x3))) x3)) : Nat) : Int) == (0)) = true then
                                                if keepPre (keepG ((setG x0)) x3) x3 = true then
                                                  if decide (List.length (keepG (keepG ((setG x0)) x3) x3) < 4611686018427387904) = true then
                                                    if ((show List ((List UInt8) × (List UInt8)) from (keepG (keepG ((setG x0)) x3) x3)) == (keepG ((setG x0)) x3)) = true then
                                                      if lrightPre (keepG ((setG x0)) x3) = true then
                                                        if (lrightG (keepG ((setG x0)) x3)) = true then
                                                          if lrightPre (List.take (List.length (dropG ((setG x0)) x3)) (List.drop 0 (dropG ((setG x0)) x3))) = true then
                                                            if (lrightG (List.take (List.length (dropG ((setG x0)) x3)) (List.drop 0 (dropG ((setG x0)) x3)))) = true then
                                                              some ()
                                                            else
                                                              none
                                                          else
                                                            none
                                                        else
                                                          none
                                                      else
                                                        none
                                                    else
                                                      none
                                                  else
                                                    none
                                                else
                                                  none
                                              else
                                                none
                                            else
                                              none
                                          else
                                            none
                                        else
                                          none
                                      else
                                        none
                                    else
                                      none
                                  else
                                    none
                                else
                                  none
                              else
                                none
                            else
                              none
                          else
                            none
                        else
                          none
                      else
                        none
                    else
                      none
                  else
                    none
                else
                  none
              else
                none
          else
            none
        else
          none
      else
        none
    else
      none
  else
    none

set_option maxHeartbeats 20000000 in
theorem lwith_w0 (m : Nat) (x0 : (List Int) × (List Int)) (x1 : Int) (x2 : Int) (x3 : List (List UInt8)) (c3 : decide (0 ≤ (withinI x1 (0) (3))) = true) (c4 : decide ((withinI x1 (0) (3)) < 4) = true) (c8 : decide (0 ≤ (withinI x2 (0) (7))) = true) (c9 : decide ((withinI x2 (0) (7)) < 8) = true) (c10 : decide (List.length (setG x0) ≤ 1000000) = true) (c12 : decide ((((List.length (withG (setG x0) (List.getD [([97] : List UInt8), ([98] : List UInt8), ([99] : List UInt8), ([110, 97, 109, 101] : List UInt8)] (Int.toNat (withinI x1 (0) (3))) ([] : List UInt8)) (List.getD [([120] : List UInt8), ([121] : List UInt8), ([120, 121] : List UInt8), ([49] : List UInt8), ([34] : List UInt8), ([92] : List UInt8), ([123, 125] : List UInt8), ([122, 32, 122] : List UInt8)] (Int.toNat (withinI x2 (0) (7))) ([] : List UInt8)))) : Nat) : Int) ≤ 6) = true) (c14 : lrightPre (withG (setG x0) (List.getD [([97] : List UInt8), ([98] : List UInt8), ([99] : List UInt8), ([110, 97, 109, 101] : List UInt8)] (Int.toNat (withinI x1 (0) (3))) ([] : List UInt8)) (List.getD [([120] : List UInt8), ([121] : List UInt8), ([120, 121] : List UInt8), ([49] : List UInt8), ([34] : List UInt8), ([92] : List UInt8), ([123, 125] : List UInt8), ([122, 32, 122] : List UInt8)] (Int.toNat (withinI x2 (0) (7))) ([] : List UInt8))) = true) (c17 : (lrightG (withG (setG x0) (List.getD [([97] : List UInt8), ([98] : List UInt8), ([99] : List UInt8), ([110, 97, 109, 101] : List UInt8)] (Int.toNat (withinI x1 (0) (3))) ([] : List UInt8)) (List.getD [([120] : List UInt8), ([121] : List UInt8), ([120, 121] : List UInt8), ([49] : List UInt8), ([34] : List UInt8), ([92] : List UInt8), ([123, 125] : List UInt8), ([122, 32, 122] : List UInt8)] (Int.toNat (withinI x2 (0) (7))) ([] : List UInt8)))) = true) (c19 : lrightPre (withG (setG x0) (List.getD [([97] : List UInt8), ([98] : List UInt8), ([99] : List UInt8), ([110, 97, 109, 101] : List UInt8)] (Int.toNat (withinI x1 (0) (3))) ([] : List UInt8)) ([] : List UInt8)) = true) (c22 : (lrightG (withG (setG x0) (List.getD [([97] : List UInt8), ([98] : List UInt8), ([99] : List UInt8), ([110, 97, 109, 101] : List UInt8)] (Int.toNat (withinI x1 (0) (3))) ([] : List UInt8)) ([] : List UInt8))) = true) (c25 : decide (List.length (withG (setG x0) (List.getD [([97] : List UInt8), ([98] : List UInt8), ([99] : List UInt8), ([110, 97, 109, 101] : List UInt8)] (Int.toNat (withinI x1 (0) (3))) ([] : List UInt8)) (List.getD [([120] : List UInt8), ([121] : List UInt8), ([120, 121] : List UInt8), ([49] : List UInt8), ([34] : List UInt8), ([92] : List UInt8), ([123, 125] : List UInt8), ([122, 32, 122] : List UInt8)] (Int.toNat (withinI x2 (0) (7))) ([] : List UInt8))) ≤ 1000000) = true) (c29 : ((getG (withG (setG x0) (List.getD [([97] : List UInt8), ([98] : List UInt8), ([99] : List UInt8), ([110, 97, 109, 101] : List UInt8)] (Int.toNat (withinI x1 (0) (3))) ([] : List UInt8)) (List.getD [([120] : List UInt8), ([121] : List UInt8), ([120, 121] : List UInt8), ([49] : List UInt8), ([34] : List UInt8), ([92] : List UInt8), ([123, 125] : List UInt8), ([122, 32, 122] : List UInt8)] (Int.toNat (withinI x2 (0) (7))) ([] : List UInt8))) (List.getD [([97] : List UInt8), ([98] : List UInt8), ([99] : List UInt8), ([110, 97, 109, 101] : List UInt8)] (Int.toNat (withinI x1 (0) (3))) ([] : List UInt8))) == (List.getD [([120] : List UInt8), ([121] : List UInt8), ([120, 121] : List UInt8), ([49] : List UInt8), ([34] : List UInt8), ([92] : List UInt8), ([123, 125] : List UInt8), ([122, 32, 122] : List UInt8)] (Int.toNat (withinI x2 (0) (7))) ([] : List UInt8))) = true) (c32 : decide (List.length (withG (setG x0) (List.getD [([97] : List UInt8), ([98] : List UInt8), ([99] : List UInt8), ([110, 97, 109, 101] : List UInt8)] (Int.toNat (withinI x1 (0) (3))) ([] : List UInt8)) ([] : List UInt8)) ≤ 1000000) = true) (c35 : ((getG (withG (setG x0) (List.getD [([97] : List UInt8), ([98] : List UInt8), ([99] : List UInt8), ([110, 97, 109, 101] : List UInt8)] (Int.toNat (withinI x1 (0) (3))) ([] : List UInt8)) ([] : List UInt8)) (List.getD [([97] : List UInt8), ([98] : List UInt8), ([99] : List UInt8), ([110, 97, 109, 101] : List UInt8)] (Int.toNat (withinI x1 (0) (3))) ([] : List UInt8))) == ([] : List UInt8)) = true) (c36 : (Option.isSome (l7_0 m (m + 24) x3 ((setG x0)) ((List.getD [([97] : List UInt8), ([98] : List UInt8), ([99] : List UInt8), ([110, 97, 109, 101] : List UInt8)] (Int.toNat (withinI x1 (0) (3))) ([] : List UInt8))) ((withG (setG x0) (List.getD [([97] : List UInt8), ([98] : List UInt8), ([99] : List UInt8), ([110, 97, 109, 101] : List UInt8)] (Int.toNat (withinI x1 (0) (3))) ([] : List UInt8)) (List.getD [([120] : List UInt8), ([121] : List UInt8), ([120, 121] : List UInt8), ([49] : List UInt8), ([34] : List UInt8), ([92] : List UInt8), ([123, 125] : List UInt8), ([122, 32, 122] : List UInt8)] (Int.toNat (withinI x2 (0) (7))) ([] : List UInt8)))) ((withG (setG x0) (List.getD [([97] : List UInt8), ([98] : List UInt8), ([99] : List UInt8), ([110, 97, 109, 101] : List UInt8)] (Int.toNat (withinI x1 (0) (3))) ([] : List UInt8)) ([] : List UInt8))) 0)) = true) (c37 : keepPre ((setG x0)) x3 = true) (c40 : keepPre ((withG (setG x0) (List.getD [([97] : List UInt8), ([98] : List UInt8), ([99] : List UInt8), ([110, 97, 109, 101] : List UInt8)] (Int.toNat (withinI x1 (0) (3))) ([] : List UInt8)) (List.getD [([120] : List UInt8), ([121] : List UInt8), ([120, 121] : List UInt8), ([49] : List UInt8), ([34] : List UInt8), ([92] : List UInt8), ([123, 125] : List UInt8), ([122, 32, 122] : List UInt8)] (Int.toNat (withinI x2 (0) (7))) ([] : List UInt8)))) [((List.getD [([97] : List UInt8), ([98] : List UInt8), ([99] : List UInt8), ([110, 97, 109, 101] : List UInt8)] (Int.toNat (withinI x1 (0) (3))) ([] : List UInt8)))] = true) (c42 : keepPre ((setG x0)) [((List.getD [([97] : List UInt8), ([98] : List UInt8), ([99] : List UInt8), ([110, 97, 109, 101] : List UInt8)] (Int.toNat (withinI x1 (0) (3))) ([] : List UInt8)))] = true) (c45 : decide (List.length (List.take (List.length (dropG ((withG (setG x0) (List.getD [([97] : List UInt8), ([98] : List UInt8), ([99] : List UInt8), ([110, 97, 109, 101] : List UInt8)] (Int.toNat (withinI x1 (0) (3))) ([] : List UInt8)) (List.getD [([120] : List UInt8), ([121] : List UInt8), ([120, 121] : List UInt8), ([49] : List UInt8), ([34] : List UInt8), ([92] : List UInt8), ([123, 125] : List UInt8), ([122, 32, 122] : List UInt8)] (Int.toNat (withinI x2 (0) (7))) ([] : List UInt8)))) [((List.getD [([97] : List UInt8), ([98] : List UInt8), ([99] : List UInt8), ([110, 97, 109, 101] : List UInt8)] (Int.toNat (withinI x1 (0) (3))) ([] : List UInt8)))])) (List.drop 0 (dropG ((withG (setG x0) (List.getD [([97] : List UInt8), ([98] : List UInt8), ([99] : List UInt8), ([110, 97, 109, 101] : List UInt8)] (Int.toNat (withinI x1 (0) (3))) ([] : List UInt8)) (List.getD [([120] : List UInt8), ([121] : List UInt8), ([120, 121] : List UInt8), ([49] : List UInt8), ([34] : List UInt8), ([92] : List UInt8), ([123, 125] : List UInt8), ([122, 32, 122] : List UInt8)] (Int.toNat (withinI x2 (0) (7))) ([] : List UInt8)))) [((List.getD [([97] : List UInt8), ([98] : List UInt8), ([99] : List UInt8), ([110, 97, 109, 101] : List UInt8)] (Int.toNat (withinI x1 (0) (3))) ([] : List UInt8)))]))) < 4611686018427387904) = true) (c46 : ((show List ((List UInt8) × (List UInt8)) from (List.take (List.length (dropG ((withG (setG x0) (List.getD [([97] : List UInt8), ([98] : List UInt8), ([99] : List UInt8), ([110, 97, 109, 101] : List UInt8)] (Int.toNat (withinI x1 (0) (3))) ([] : List UInt8)) (List.getD [([120] : List UInt8), ([121] : List UInt8), ([120, 121] : List UInt8), ([49] : List UInt8), ([34] : List UInt8), ([92] : List UInt8), ([123, 125] : List UInt8), ([122, 32, 122] : List UInt8)] (Int.toNat (withinI x2 (0) (7))) ([] : List UInt8)))) [((List.getD [([97] : List UInt8), ([98] : List UInt8), ([99] : List UInt8), ([110, 97, 109, 101] : List UInt8)] (Int.toNat (withinI x1 (0) (3))) ([] : List UInt8)))])) (List.drop 0 (dropG ((withG (setG x0) (List.getD [([97] : List UInt8), ([98] : List UInt8), ([99] : List UInt8), ([110, 97, 109, 101] : List UInt8)] (Int.toNat (withinI x1 (0) (3))) ([] : List UInt8)) (List.getD [([120] : List UInt8), ([121] : List UInt8), ([120, 121] : List UInt8), ([49] : List UInt8), ([34] : List UInt8), ([92] : List UInt8), ([123, 125] : List UInt8), ([122, 32, 122] : List UInt8)] (Int.toNat (withinI x2 (0) (7))) ([] : List UInt8)))) [((List.getD [([97] : List UInt8), ([98] : List UInt8), ([99] : List UInt8), ([110, 97, 109, 101] : List UInt8)] (Int.toNat (withinI x1 (0) (3))) ([] : List UInt8)))])))) == (List.take (List.length (dropG ((setG x0)) [((List.getD [([97] : List UInt8), ([98] : List UInt8), ([99] : List UInt8), ([110, 97, 109, 101] : List UInt8)] (Int.toNat (withinI x1 (0) (3))) ([] : List UInt8)))])) (List.drop 0 (dropG ((setG x0)) [((List.getD [([97] : List UInt8), ([98] : List UInt8), ([99] : List UInt8), ([110, 97, 109, 101] : List UInt8)] (Int.toNat (withinI x1 (0) (3))) ([] : List UInt8)))])))) = true) (c55 : decide (List.length ((withG (setG x0) (List.getD [([97] : List UInt8), ([98] : List UInt8), ([99] : List UInt8), ([110, 97, 109, 101] : List UInt8)] (Int.toNat (withinI x1 (0) (3))) ([] : List UInt8)) ([] : List UInt8))) < 4611686018427387904) = true) (c57 : ((show List ((List UInt8) × (List UInt8)) from ((withG (setG x0) (List.getD [([97] : List UInt8), ([98] : List UInt8), ([99] : List UInt8), ([110, 97, 109, 101] : List UInt8)] (Int.toNat (withinI x1 (0) (3))) ([] : List UInt8)) ([] : List UInt8)))) == (List.take (List.length (dropG ((setG x0)) [((List.getD [([97] : List UInt8), ([98] : List UInt8), ([99] : List UInt8), ([110, 97, 109, 101] : List UInt8)] (Int.toNat (withinI x1 (0) (3))) ([] : List UInt8)))])) (List.drop 0 (dropG ((setG x0)) [((List.getD [([97] : List UInt8), ([98] : List UInt8), ([99] : List UInt8), ([110, 97, 109, 101] : List UInt8)] (Int.toNat (withinI x1 (0) (3))) ([] : List UInt8)))])))) = true) (c66 : ((IntKind.wrap .i64 ((((List.length (keepG ((setG x0)) x3)) : Nat) : Int) + (((List.length (dropG ((setG x0)) x3)) : Nat) : Int))) == (((List.length ((setG x0))) : Nat) : Int)) = true) (c70 : keepPre (List.take (List.length (dropG ((setG x0)) x3)) (List.drop 0 (dropG ((setG x0)) x3))) x3 = true) (c74 : ((((List.length (keepG (List.take (List.length (dropG ((setG x0)) x3)) (List.drop 0 (dropG ((setG x0)) x3))) x3)) : Nat) : Int) == (0)) = true) (c77 : keepPre (keepG ((setG x0)) x3) x3 = true) (c80 : decide (List.length (keepG (keepG ((setG x0)) x3) x3) < 4611686018427387904) = true) (c82 : ((show List ((List UInt8) × (List UInt8)) from (keepG (keepG ((setG x0)) x3) x3)) == (keepG ((setG x0)) x3)) = true) (c84 : lrightPre (keepG ((setG x0)) x3) = true) (c86 : (lrightG (keepG ((setG x0)) x3)) = true) (c89 : lrightPre (List.take (List.length (dropG ((setG x0)) x3)) (List.drop 0 (dropG ((setG x0)) x3))) = true) (c91 : (lrightG (List.take (List.length (dropG ((setG x0)) x3)) (List.drop 0 (dropG ((setG x0)) x3)))) = true) : (evCall F S21 (m + 25) 7 [(.agg [(.d (.sl (.int .i64) x0.1)), (.d (.sl (.int .i64) x0.2))]), (.d (.int .i64 x1)), (.d (.int .i64 x2)), (.d (.sl .str x3))] []).run = some (.d (.bool true), []) := by
  refine runT_ok (LS := (fun k => if k = 16528282690043758275080 then some (l7_0E x3 (((setG x0))) (((List.getD [([97] : List UInt8), ([98] : List UInt8), ([99] : List UInt8), ([110, 97, 109, 101] : List UInt8)] (Int.toNat (withinI x1 (0) (3))) ([] : List UInt8)))) (((withG (setG x0) (List.getD [([97] : List UInt8), ([98] : List UInt8), ([99] : List UInt8), ([110, 97, 109, 101] : List UInt8)] (Int.toNat (withinI x1 (0) (3))) ([] : List UInt8)) (List.getD [([120] : List UInt8), ([121] : List UInt8), ([120, 121] : List UInt8), ([49] : List UInt8), ([34] : List UInt8), ([92] : List UInt8), ([123, 125] : List UInt8), ([122, 32, 122] : List UInt8)] (Int.toNat (withinI x2 (0) (7))) ([] : List UInt8))))) (((withG (setG x0) (List.getD [([97] : List UInt8), ([98] : List UInt8), ([99] : List UInt8), ([110, 97, 109, 101] : List UInt8)] (Int.toNat (withinI x1 (0) (3))) ([] : List UInt8)) ([] : List UInt8)))) ((l7_0R m (m + 24) x3 ((setG x0)) ((List.getD [([97] : List UInt8), ([98] : List UInt8), ([99] : List UInt8), ([110, 97, 109, 101] : List UInt8)] (Int.toNat (withinI x1 (0) (3))) ([] : List UInt8))) ((withG (setG x0) (List.getD [([97] : List UInt8), ([98] : List UInt8), ([99] : List UInt8), ([110, 97, 109, 101] : List UInt8)] (Int.toNat (withinI x1 (0) (3))) ([] : List UInt8)) (List.getD [([120] : List UInt8), ([121] : List UInt8), ([120, 121] : List UInt8), ([49] : List UInt8), ([34] : List UInt8), ([92] : List UInt8), ([123, 125] : List UInt8), ([122, 32, 122] : List UInt8)] (Int.toNat (withinI x2 (0) (7))) ([] : List UInt8)))) ((withG (setG x0) (List.getD [([97] : List UInt8), ([98] : List UInt8), ([99] : List UInt8), ([110, 97, 109, 101] : List UInt8)] (Int.toNat (withinI x1 (0) (3))) ([] : List UInt8)) ([] : List UInt8))) 0).2) 0) else none)) (fn := fn7) (r := .d (.bool true)) (B' := []) (vis := [(16528282690043758275080, l7_0H x3 ((setG x0)) ((List.getD [([97] : List UInt8), ([98] : List UInt8), ([99] : List UInt8), ([110, 97, 109, 101] : List UInt8)] (Int.toNat (withinI x1 (0) (3))) ([] : List UInt8))) ((withG (setG x0) (List.getD [([97] : List UInt8), ([98] : List UInt8), ([99] : List UInt8), ([110, 97, 109, 101] : List UInt8)] (Int.toNat (withinI x1 (0) (3))) ([] : List UInt8)) (List.getD [([120] : List UInt8), ([121] : List UInt8), ([120, 121] : List UInt8), ([49] : List UInt8), ([34] : List UInt8), ([92] : List UInt8), ([123, 125] : List UInt8), ([122, 32, 122] : List UInt8)] (Int.toNat (withinI x2 (0) (7))) ([] : List UInt8)))) ((withG (setG x0) (List.getD [([97] : List UInt8), ([98] : List UInt8), ([99] : List UInt8), ([110, 97, 109, 101] : List UInt8)] (Int.toNat (withinI x1 (0) (3))) ([] : List UInt8)) ([] : List UInt8))) 0, l7_0B x3 ((setG x0)) ((List.getD [([97] : List UInt8), ([98] : List UInt8), ([99] : List UInt8), ([110, 97, 109, 101] : List UInt8)] (Int.toNat (withinI x1 (0) (3))) ([] : List UInt8))) ((withG (setG x0) (List.getD [([97] : List UInt8), ([98] : List UInt8), ([99] : List UInt8), ([110, 97, 109, 101] : List UInt8)] (Int.toNat (withinI x1 (0) (3))) ([] : List UInt8)) (List.getD [([120] : List UInt8), ([121] : List UInt8), ([120, 121] : List UInt8), ([49] : List UInt8), ([34] : List UInt8), ([92] : List UInt8), ([123, 125] : List UInt8), ([122, 32, 122] : List UInt8)] (Int.toNat (withinI x2 (0) (7))) ([] : List UInt8)))) ((withG (setG x0) (List.getD [([97] : List UInt8), ([98] : List UInt8), ([99] : List UInt8), ([110, 97, 109, 101] : List UInt8)] (Int.toNat (withinI x1 (0) (3))) ([] : List UInt8)) ([] : List UInt8))) 0)]) (by kernel_rfl) rfl (by kernel_rfl) (M.run_of_path _ [true, true, true, true, true, true, true, true, true, true, true, true, true, true, true, true, true, false, false, true, false, false, false, false, false, true, false, false, false, false, false, false, true, false, false, false, true, true, true, true, true, true, true, true, true, true, true, true, true, true, true, true, true, true, true, true, true, true, true, true, true, true, true, true, true, true, true, true, true, true, true, true, true, true, true, true, true, true, true, true, true, true, true, true, true, true, true, true, true, true, true, true] _ _ (by kernel_rfl) (all_t rfl (all_t rfl (all_t rfl (all_t c3 (all_t c4 (all_t rfl (all_t rfl (all_t rfl (all_t c8 (all_t c9 (all_t c10 (all_t c10 (all_t c12 (all_t c12 (all_t c14 (all_t c12 (all_t c12 (all_nt c17 (all_nt c17 (all_t c19 (all_nt c17 (all_nt c17 (all_nt c22 (all_nt c22 (all_nt c22 (all_t c25 (all_nt c22 (all_nt c22 (all_nt c22 (all_nt c29 (all_nt c29 (all_nt c29 (all_t c32 (all_nt c29 (all_nt c29 (all_nt c35 (all_t c37 (all_t c37 (all_t rfl (all_t c40 (all_t rfl (all_t c42 (all_t (show decide ((0 + (List.length (dropG ((withG (setG x0) (List.getD [([97] : List UInt8), ([98] : List UInt8), ([99] : List UInt8), ([110, 97, 109, 101] : List UInt8)] (Int.toNat (withinI x1 (0) (3))) ([] : List UInt8)) (List.getD [([120] : List UInt8), ([121] : List UInt8), ([120, 121] : List UInt8), ([49] : List UInt8), ([34] : List UInt8), ([92] : List UInt8), ([123, 125] : List UInt8), ([122, 32, 122] : List UInt8)] (Int.toNat (withinI x2 (0) (7))) ([] : List UInt8)))) [((List.getD [([97] : List UInt8), ([98] : List UInt8), ([99] : List UInt8), ([110, 97, 109, 101] : List UInt8)] (Int.toNat (withinI x1 (0) (3))) ([] : List UInt8)))]))) ≤ (List.length (dropG ((withG (setG x0) (List.getD [([97] : List UInt8), ([98] : List UInt8), ([99] : List UInt8), ([110, 97, 109, 101] : List UInt8)] (Int.toNat (withinI x1 (0) (3))) ([] : List UInt8)) (List.getD [([120] : List UInt8), ([121] : List UInt8), ([120, 121] : List UInt8), ([49] : List UInt8), ([34] : List UInt8), ([92] : List UInt8), ([123, 125] : List UInt8), ([122, 32, 122] : List UInt8)] (Int.toNat (withinI x2 (0) (7))) ([] : List UInt8)))) [((List.getD [([97] : List UInt8), ([98] : List UInt8), ([99] : List UInt8), ([110, 97, 109, 101] : List UInt8)] (Int.toNat (withinI x1 (0) (3))) ([] : List UInt8)))]))) = true from decide_eq_true (Nat.le_of_eq (Nat.zero_add _))) (all_t (show decide ((0 + (List.length (dropG ((setG x0)) [((List.getD [([97] : List UInt8), ([98] : List UInt8), ([99] : List UInt8), ([110, 97, 109, 101] : List UInt8)] (Int.toNat (withinI x1 (0) (3))) ([] : List UInt8)))]))) ≤ (List.length (dropG ((setG x0)) [((List.getD [([97] : List UInt8), ([98] : List UInt8), ([99] : List UInt8), ([110, 97, 109, 101] : List UInt8)] (Int.toNat (withinI x1 (0) (3))) ([] : List UInt8)))]))) = true from decide_eq_true (Nat.le_of_eq (Nat.zero_add _))) (all_t c45 (all_t c46 (all_t c46 (all_t c46 (all_t c46 (all_t c46 (all_t rfl (all_t c42 (all_t c46 (all_t (show decide ((0 + (List.length (dropG ((setG x0)) [((List.getD [([97] : List UInt8), ([98] : List UInt8), ([99] : List UInt8), ([110, 97, 109, 101] : List UInt8)] (Int.toNat (withinI x1 (0) (3))) ([] : List UInt8)))]))) ≤ (List.length (dropG ((setG x0)) [((List.getD [([97] : List UInt8), ([98] : List UInt8), ([99] : List UInt8), ([110, 97, 109, 101] : List UInt8)] (Int.toNat (withinI x1 (0) (3))) ([] : List UInt8)))]))) = true from decide_eq_true (Nat.le_of_eq (Nat.zero_add _))) (all_t c55 (all_t c46 (all_t c57 (all_t c57 (all_t c57 (all_t c57 (all_t c57 (all_t c57 (all_t c57 (all_t c57 (all_t c57 (all_t c66 (all_t c66 (all_t c66 (all_t (show decide ((0 + (List.length (dropG ((setG x0)) x3))) ≤ (List.length (dropG ((setG x0)) x3))) = true from decide_eq_true (Nat.le_of_eq (Nat.zero_add _))) (all_t c70 (all_t c66 (all_t c66 (all_t c66 (all_t c74 (all_t c74 (all_t c74 (all_t c77 (all_t c74 (all_t c74 (all_t c80 (all_t c74 (all_t c82 (all_t c82 (all_t c84 (all_t c82 (all_t c86 (all_t c86 (all_t (show decide ((0 + (List.length (dropG ((setG x0)) x3))) ≤ (List.length (dropG ((setG x0)) x3))) = true from decide_eq_true (Nat.le_of_eq (Nat.zero_add _))) (all_t c89 (all_t c86 (all_t c91 (all_t c91 all_nil))))))))))))))))))))))))))))))))))))))))))))))))))))))))))))))))))))))))))))))))))))))))))))) ?_
  intro p hp p2 hq
  rcases List.mem_cons.1 hp with rfl | hp
  · skip
    have h3 := l7_0_ok m (m + 24) x3 ((setG x0)) ((List.getD [([97] : List UInt8), ([98] : List UInt8), ([99] : List UInt8), ([110, 97, 109, 101] : List UInt8)] (Int.toNat (withinI x1 (0) (3))) ([] : List UInt8))) ((withG (setG x0) (List.getD [([97] : List UInt8), ([98] : List UInt8), ([99] : List UInt8), ([110, 97, 109, 101] : List UInt8)] (Int.toNat (withinI x1 (0) (3))) ([] : List UInt8)) (List.getD [([120] : List UInt8), ([121] : List UInt8), ([120, 121] : List UInt8), ([49] : List UInt8), ([34] : List UInt8), ([92] : List UInt8), ([123, 125] : List UInt8), ([122, 32, 122] : List UInt8)] (Int.toNat (withinI x2 (0) (7))) ([] : List UInt8)))) ((withG (setG x0) (List.getD [([97] : List UInt8), ([98] : List UInt8), ([99] : List UInt8), ([110, 97, 109, 101] : List UInt8)] (Int.toNat (withinI x1 (0) (3))) ([] : List UInt8)) ([] : List UInt8))) 0 _ (some_getD (d := l7_0D) c36)
    exact Eq.trans (Eq.mp (by kernel_rfl) h3) hq
  cases hp

set_option maxHeartbeats 20000000 in
theorem lwith_w1 (m : Nat) (x0 : (List Int) × (List Int)) (x1 : Int) (x2 : Int) (x3 : List (List UInt8)) (c3 : decide (0 ≤ (withinI x1 (0) (3))) = true) (c4 : decide ((withinI x1 (0) (3)) < 4) = true) (c8 : decide (0 ≤ (withinI x2 (0) (7))) = true) (c9 : decide ((withinI x2 (0) (7)) < 8) = true) (c10 : decide (List.length (setG x0) ≤ 1000000) = true) (c12 : ¬ decide ((((List.length (withG (setG x0) (List.getD [([97] : List UInt8), ([98] : List UInt8), ([99] : List UInt8), ([110, 97, 109, 101] : List UInt8)] (Int.toNat (withinI x1 (0) (3))) ([] : List UInt8)) (List.getD [([120] : List UInt8), ([121] : List UInt8), ([120, 121] : List UInt8), ([49] : List UInt8), ([34] : List UInt8), ([92] : List UInt8), ([123, 125] : List UInt8), ([122, 32, 122] : List UInt8)] (Int.toNat (withinI x2 (0) (7))) ([] : List UInt8)))) : Nat) : Int) ≤ 6) = true) (c18 : lrightPre (withG (setG x0) (List.getD [([97] : List UInt8), ([98] : List UInt8), ([99] : List UInt8), ([110, 97, 109, 101] : List UInt8)] (Int.toNat (withinI x1 (0) (3))) ([] : List UInt8)) ([] : List UInt8)) = true) (c21 : (lrightG (withG (setG x0) (List.getD [([97] : List UInt8), ([98] : List UInt8), ([99] : List UInt8), ([110, 97, 109, 101] : List UInt8)] (Int.toNat (withinI x1 (0) (3))) ([] : List UInt8)) ([] : List UInt8))) = true) (c24 : decide (List.length (withG (setG x0) (List.getD [([97] : List UInt8), ([98] : List UInt8), ([99] : List UInt8), ([110, 97, 109, 101] : List UInt8)] (Int.toNat (withinI x1 (0) (3))) ([] : List UInt8)) (List.getD [([120] : List UInt8), ([121] : List UInt8), ([120, 121] : List UInt8), ([49] : List UInt8), ([34] : List UInt8), ([92] : List UInt8), ([123, 125] : List UInt8), ([122, 32, 122] : List UInt8)] (Int.toNat (withinI x2 (0) (7))) ([] : List UInt8))) ≤ 1000000) = true) (c28 : ((getG (withG (setG x0) (List.getD [([97] : List UInt8), ([98] : List UInt8), ([99] : List UInt8), ([110, 97, 109, 101] : List UInt8)] (Int.toNat (withinI x1 (0) (3))) ([] : List UInt8)) (List.getD [([120] : List UInt8), ([121] : List UInt8), ([120, 121] : List UInt8), ([49] : List UInt8), ([34] : List UInt8), ([92] : List UInt8), ([123, 125] : List UInt8), ([122, 32, 122] : List UInt8)] (Int.toNat (withinI x2 (0) (7))) ([] : List UInt8))) (List.getD [([97] : List UInt8), ([98] : List UInt8), ([99] : List UInt8), ([110, 97, 109, 101] : List UInt8)] (Int.toNat (withinI x1 (0) (3))) ([] : List UInt8))) == (List.getD [([120] : List UInt8), ([121] : List UInt8), ([120, 121] : List UInt8), ([49] : List UInt8), ([34] : List UInt8), ([92] : List UInt8), ([123, 125] : List UInt8), ([122, 32, 122] : List UInt8)] (Int.toNat (withinI x2 (0) (7))) ([] : List UInt8))) = true) (c31 : decide (List.length (withG (setG x0) (List.getD [([97] : List UInt8), ([98] : List UInt8), ([99] : List UInt8), ([110, 97, 109, 101] : List UInt8)] (Int.toNat (withinI x1 (0) (3))) ([] : List UInt8)) ([] : List UInt8)) ≤ 1000000) = true) (c34 : ((getG (withG (setG x0) (List.getD [([97] : List UInt8), ([98] : List UInt8), ([99] : List UInt8), ([110, 97, 109, 101] : List UInt8)] (Int.toNat (withinI x1 (0) (3))) ([] : List UInt8)) ([] : List UInt8)) (List.getD [([97] : List UInt8), ([98] : List UInt8), ([99] : List UInt8), ([110, 97, 109, 101] : List UInt8)] (Int.toNat (withinI x1 (0) (3))) ([] : List UInt8))) == ([] : List UInt8)) = true) (c35 : (Option.isSome (l7_0 m (m + 24) x3 ((setG x0)) ((List.getD [([97] : List UInt8), ([98] : List UInt8), ([99] : List UInt8), ([110, 97, 109, 101] : List UInt8)] (Int.toNat (withinI x1 (0) (3))) ([] : List UInt8))) ((withG (setG x0) (List.getD [([97] : List UInt8), ([98] : List UInt8), ([99] : List UInt8), ([110, 97, 109, 101] : List UInt8)] (Int.toNat (withinI x1 (0) (3))) ([] : List UInt8)) (List.getD [([120] : List UInt8), ([121] : List UInt8), ([120, 121] : List UInt8), ([49] : List UInt8), ([34] : List UInt8), ([92] : List UInt8), ([123, 125] : List UInt8), ([122, 32, 122] : List UInt8)] (Int.toNat (withinI x2 (0) (7))) ([] : List UInt8)))) ((withG (setG x0) (List.getD [([97] : List UInt8), ([98] : List UInt8), ([99] : List UInt8), ([110, 97, 109, 101] : List UInt8)] (Int.toNat (withinI x1 (0) (3))) ([] : List UInt8)) ([] : List UInt8))) 0)) = true) (c36 : keepPre ((setG x0)) x3 = true) (c39 : keepPre ((withG (setG x0) (List.getD [([97] : List UInt8), ([98] : List UInt8), ([99] : List UInt8), ([110, 97, 109, 101] : List UInt8)] (Int.toNat (withinI x1 (0) (3))) ([] : List UInt8)) (List.getD [([120] : List UInt8), ([121] : List UInt8), ([120, 121] : List UInt8), ([49] : List UInt8), ([34] : List UInt8), ([92] : List UInt8), ([123, 125] : List UInt8), ([122, 32, 122] : List UInt8)] (Int.toNat (withinI x2 (0) (7))) ([] : List UInt8)))) [((List.getD [([97] : List UInt8), ([98] : List UInt8), ([99] : List UInt8), ([110, 97, 109, 101] : List UInt8)] (Int.toNat (withinI x1 (0) (3))) ([] : List UInt8)))] = true) (c41 : keepPre ((setG x0)) [((List.getD [([97] : List UInt8), ([98] : List UInt8), ([99] : List UInt8), ([110, 97, 109, 101] : List UInt8)] (Int.toNat (withinI x1 (0) (3))) ([] : List UInt8)))] = true) (c44 : decide (List.length (List.take (List.length (dropG ((withG (setG x0) (List.getD [([97] : List UInt8), ([98] : List UInt8), ([99] : List UInt8), ([110, 97, 109, 101] : List UInt8)] (Int.toNat (withinI x1 (0) (3))) ([] : List UInt8)) (List.getD [([120] : List UInt8), ([121] : List UInt8), ([120, 121] : List UInt8), ([49] : List UInt8), ([34] : List UInt8), ([92] : List UInt8), ([123, 125] : List UInt8), ([122, 32, 122] : List UInt8)] (Int.toNat (withinI x2 (0) (7))) ([] : List UInt8)))) [((List.getD [([97] : List UInt8), ([98] : List UInt8), ([99] : List UInt8), ([110, 97, 109, 101] : List UInt8)] (Int.toNat (withinI x1 (0) (3))) ([] : List UInt8)))])) (List.drop 0 (dropG ((withG (setG x0) (List.getD [([97] : List UInt8), ([98] : List UInt8), ([99] : List UInt8), ([110, 97, 109, 101] : List UInt8)] (Int.toNat (withinI x1 (0) (3))) ([] : List UInt8)) (List.getD [([120] : List UInt8), ([121] : List UInt8), ([120, 121] : List UInt8), ([49] : List UInt8), ([34] : List UInt8), ([92] : List UInt8), ([123, 125] : List UInt8), ([122, 32, 122] : List UInt8)] (Int.toNat (withinI x2 (0) (7))) ([] : List UInt8)))) [((List.getD [([97] : List UInt8), ([98] : List UInt8), ([99] : List UInt8), ([110, 97, 109, 101] : List UInt8)] (Int.toNat (withinI x1 (0) (3))) ([] : List UInt8)))]))) < 4611686018427387904) = true) (c45 : ((show List ((List UInt8) × (List UInt8)) from (List.take (List.length (dropG ((withG (setG x0) (List.getD [([97] : List UInt8), ([98] : List UInt8), ([99] : List UInt8), ([110, 97, 109, 101] : List UInt8)] (Int.toNat (withinI x1 (0) (3))) ([] : List UInt8)) (List.getD [([120] : List UInt8), ([121] : List UInt8), ([120, 121] : List UInt8), ([49] : List UInt8), ([34] : List UInt8), ([92] : List UInt8), ([123, 125] : List UInt8), ([122, 32, 122] : List UInt8)] (Int.toNat (withinI x2 (0) (7))) ([] : List UInt8)))) [((List.getD [([97] : List UInt8), ([98] : List UInt8), ([99] : List UInt8), ([110, 97, 109, 101] : List UInt8)] (Int.toNat (withinI x1 (0) (3))) ([] : List UInt8)))])) (List.drop 0 (dropG ((withG (setG x0) (List.getD [([97] : List UInt8), ([98] : List UInt8), ([99] : List UInt8), ([110, 97, 109, 101] : List UInt8)] (Int.toNat (withinI x1 (0) (3))) ([] : List UInt8)) (List.getD [([120] : List UInt8), ([121] : List UInt8), ([120, 121] : List UInt8), ([49] : List UInt8), ([34] : List UInt8), ([92] : List UInt8), ([123, 125] : List UInt8), ([122, 32, 122] : List UInt8)] (Int.toNat (withinI x2 (0) (7))) ([] : List UInt8)))) [((List.getD [([97] : List UInt8), ([98] : List UInt8), ([99] : List UInt8), ([110, 97, 109, 101] : List UInt8)] (Int.toNat (withinI x1 (0) (3))) ([] : List UInt8)))])))) == (List.take (List.length (dropG ((setG x0)) [((List.getD [([97] : List UInt8), ([98] : List UInt8), ([99] : List UInt8), ([110, 97, 109, 101] : List UInt8)] (Int.toNat (withinI x1 (0) (3))) ([] : List UInt8)))])) (List.drop 0 (dropG ((setG x0)) [((List.getD [([97] : List UInt8), ([98] : List UInt8), ([99] : List UInt8), ([110, 97, 109, 101] : List UInt8)] (Int.toNat (withinI x1 (0) (3))) ([] : List UInt8)))])))) = true) (c54 : decide (List.length ((withG (setG x0) (List.getD [([97] : List UInt8), ([98] : List UInt8), ([99] : List UInt8), ([110, 97, 109, 101] : List UInt8)] (Int.toNat (withinI x1 (0) (3))) ([] : List UInt8)) ([] : List UInt8))) < 4611686018427387904) = true) (c56 : ((show List ((List UInt8) × (List UInt8)) from ((withG (setG x0) (List.getD [([97] : List UInt8), ([98] : List UInt8), ([99] : List UInt8), ([110, 97, 109, 101] : List UInt8)] (Int.toNat (withinI x1 (0) (3))) ([] : List UInt8)) ([] : List UInt8)))) == (List.take (List.length (dropG ((setG x0)) [((List.getD [([97] : List UInt8), ([98] : List UInt8), ([99] : List UInt8), ([110, 97, 109, 101] : List UInt8)] (Int.toNat (withinI x1 (0) (3))) ([] : List UInt8)))])) (List.drop 0 (dropG ((setG x0)) [((List.getD [([97] : List UInt8), ([98] : List UInt8), ([99] : List UInt8), ([110, 97, 109, 101] : List UInt8)] (Int.toNat (withinI x1 (0) (3))) ([] : List UInt8)))])))) = true) (c65 : ((IntKind.wrap .i64 ((((List.length (keepG ((setG x0)) x3)) : Nat) : Int) + (((List.length (dropG ((setG x0)) x3)) : Nat) : Int))) == (((List.length ((setG x0))) : Nat) : Int)) = true) (c69 : keepPre (List.take (List.length (dropG ((setG x0)) x3)) (List.drop 0 (dropG ((setG x0)) x3))) x3 = true) (c73 : ((((List.length (keepG (List.take (List.length (dropG ((setG x0)) x3)) (List.drop 0 (dropG ((setG x0)) x3))) x3)) : Nat) : Int) == (0)) = true) (c76 : keepPre (keepG ((setG x0)) x3) x3 = true) (c79 : decide (List.length (keepG (keepG ((setG x0)) x3) x3) < 4611686018427387904) = true) (c81 : ((show List ((List UInt8) × (List UInt8)) from (keepG (keepG ((setG x0)) x3) x3)) == (keepG ((setG x0)) x3)) = true) (c83 : lrightPre (keepG ((setG x0)) x3) = true) (c85 : (lrightG (keepG ((setG x0)) x3)) = true) (c88 : lrightPre (List.take (List.length (dropG ((setG x0)) x3)) (List.drop 0 (dropG ((setG x0)) x3))) = true) (c90 : (lrightG (List.take (List.length (dropG ((setG x0)) x3)) (List.drop 0 (dropG ((setG x0)) x3)))) = true) : (evCall F S21 (m + 25) 7 [(.agg [(.d (.sl (.int .i64) x0.1)), (.d (.sl (.int .i64) x0.2))]), (.d (.int .i64 x1)), (.d (.int .i64 x2)), (.d (.sl .str x3))] []).run = some (.d (.bool true), []) := by
  refine runT_ok (LS := (fun k => if k = 16528282690043758275080 then some (l7_0E x3 (((setG x0))) (((List.getD [([97] : List UInt8), ([98] : List UInt8), ([99] : List UInt8), ([110, 97, 109, 101] : List UInt8)] (Int.toNat (withinI x1 (0) (3))) ([] : List UInt8)))) (((withG (setG x0) (List.getD [([97] : List UInt8), ([98] : List UInt8), ([99] : List UInt8), ([110, 97, 109, 101] : List UInt8)] (Int.toNat (withinI x1 (0) (3))) ([] : List UInt8)) (List.getD [([120] : List UInt8), ([121] : List UInt8), ([120, 121] : List UInt8), ([49] : List UInt8), ([34] : List UInt8), ([92] : List UInt8), ([123, 125] : List UInt8), ([122, 32, 122] : List UInt8)] (Int.toNat (withinI x2 (0) (7))) ([] : List UInt8))))) (((withG (setG x0) (List.getD [([97] : List UInt8), ([98] : List UInt8), ([99] : List UInt8), ([110, 97, 109, 101] : List UInt8)] (Int.toNat (withinI x1 (0) (3))) ([] : List UInt8)) ([] : List UInt8)))) ((l7_0R m (m + 24) x3 ((setG x0)) ((List.getD [([97] : List UInt8), ([98] : List UInt8), ([99] : List UInt8), ([110, 97, 109, 101] : List UInt8)] (Int.toNat (withinI x1 (0) (3))) ([] : List UInt8))) ((withG (setG x0) (List.getD [([97] : List UInt8), ([98] : List UInt8), ([99] : List UInt8), ([110, 97, 109, 101] : List UInt8)] (Int.toNat (withinI x1 (0) (3))) ([] : List UInt8)) (List.getD [([120] : List UInt8), ([121] : List UInt8), ([120, 121] : List UInt8), ([49] : List UInt8), ([34] : List UInt8), ([92] : List UInt8), ([123, 125] : List UInt8), ([122, 32, 122] : List UInt8)] (Int.toNat (withinI x2 (0) (7))) ([] : List UInt8)))) ((withG (setG x0) (List.getD [([97] : List UInt8), ([98] : List UInt8), ([99] : List UInt8), ([110, 97, 109, 101] : List UInt8)] (Int.toNat (withinI x1 (0) (3))) ([] : List UInt8)) ([] : List UInt8))) 0).2) 0) else none)) (fn := fn7) (r := .d (.bool true)) (B' := []) (vis := [(16528282690043758275080, l7_0H x3 ((setG x0)) ((List.getD [([97] : List UInt8), ([98] : List UInt8), ([99] : List UInt8), ([110, 97, 109, 101] : List UInt8)] (Int.toNat (withinI x1 (0) (3))) ([] : List UInt8))) ((withG (setG x0) (List.getD [([97] : List UInt8), ([98] : List UInt8), ([99] : List UInt8), ([110, 97, 109, 101] : List UInt8)] (Int.toNat (withinI x1 (0) (3))) ([] : List UInt8)) (List.getD [([120] : List UInt8), ([121] : List UInt8), ([120, 121] : List UInt8), ([49] : List UInt8), ([34] : List UInt8), ([92] : List UInt8), ([123, 125] : List UInt8), ([122, 32, 122] : List UInt8)] (Int.toNat (withinI x2 (0) (7))) ([] : List UInt8)))) ((withG (setG x0) (List.getD [([97] : List UInt8), ([98] : List UInt8), ([99] : List UInt8), ([110, 97, 109, 101] : List UInt8)] (Int.toNat (withinI x1 (0) (3))) ([] : List UInt8)) ([] : List UInt8))) 0, l7_0B x3 ((setG x0)) ((List.getD [([97] : List UInt8), ([98] : List UInt8), ([99] : List UInt8), ([110, 97, 109, 101] : List UInt8)] (Int.toNat (withinI x1 (0) (3))) ([] : List UInt8))) ((withG (setG x0) (List.getD [([97] : List UInt8), ([98] : List UInt8), ([99] : List UInt8), ([110, 97, 109, 101] : List UInt8)] (Int.toNat (withinI x1 (0) (3))) ([] : List UInt8)) (List.getD [([120] : List UInt8), ([121] : List UInt8), ([120, 121] : List UInt8), ([49] : List UInt8), ([34] : List UInt8), ([92] : List UInt8), ([123, 125] : List UInt8), ([122, 32, 122] : List UInt8)] (Int.toNat (withinI x2 (0) (7))) ([] : List UInt8)))) ((withG (setG x0) (List.getD [([97] : List UInt8), ([98] : List UInt8), ([99] : List UInt8), ([110, 97, 109, 101] : List UInt8)] (Int.toNat (withinI x1 (0) (3))) ([] : List UInt8)) ([] : List UInt8))) 0)]) (by kernel_rfl) rfl (by kernel_rfl) (M.run_of_path _ [true, true, true, true, true, true, true, true, true, true, true, true, false, false, false, false, false, false, true, false, false, false, false, false, true, false, false, false, false, false, false, true, false, false, false, true, true, true, true, true, true, true, true, true, true, true, true, true, true, true, true, true, true, true, true, true, true, true, true, true, true, true, true, true, true, true, true, true, true, true, true, true, true, true, true, true, true, true, true, true, true, true, true, true, true, true, true, true, true, true, true] _ _ (by kernel_rfl) (all_t rfl (all_t rfl (all_t rfl (all_t c3 (all_t c4 (all_t rfl (all_t rfl (all_t rfl (all_t c8 (all_t c9 (all_t c10 (all_t c10 (all_f c12 (all_f c12 (all_f c12 (all_f c12 (all_f Bool.false_ne_true (all_f Bool.false_ne_true (all_t c18 (all_f Bool.false_ne_true (all_f Bool.false_ne_true (all_nt c21 (all_nt c21 (all_nt c21 (all_t c24 (all_nt c21 (all_nt c21 (all_nt c21 (all_nt c28 (all_nt c28 (all_nt c28 (all_t c31 (all_nt c28 (all_nt c28 (all_nt c34 (all_t c36 (all_t c36 (all_t rfl (all_t c39 (all_t rfl (all_t c41 (all_t (show decide ((0 + (List.length (dropG ((withG (setG x0) (List.getD [([97] : List UInt8), ([98] : List UInt8), ([99] : List UInt8), ([110, 97, 109, 101] : List UInt8)] (Int.toNat (withinI x1 (0) (3))) ([] : List UInt8)) (List.getD [([120] : List UInt8), ([121] : List UInt8), ([120, 121] : List UInt8), ([49] : List UInt8), ([34] : List UInt8), ([92] : List UInt8), ([123, 125] : List UInt8), ([122, 32, 122] : List UInt8)] (Int.toNat (withinI x2 (0) (7))) ([] : List UInt8)))) [((List.getD [([97] : List UInt8), ([98] : List UInt8), ([99] : List UInt8), ([110, 97, 109, 101] : List UInt8)] (Int.toNat (withinI x1 (0) (3))) ([] : List UInt8)))]))) ≤ (List.length (dropG ((withG (setG x0) (List.getD [([97] : List UInt8), ([98] : List UInt8), ([99] : List UInt8), ([110, 97, 109, 101] : List UInt8)] (Int.toNat (withinI x1 (0) (3))) ([] : List UInt8)) (List.getD [([120] : List UInt8), ([121] : List UInt8), ([120, 121] : List UInt8), ([49] : List UInt8), ([34] : List UInt8), ([92] : List UInt8), ([123, 125] : List UInt8), ([122, 32, 122] : List UInt8)] (Int.toNat (withinI x2 (0) (7))) ([] : List UInt8)))) [((List.getD [([97] : List UInt8), ([98] : List UInt8), ([99] : List UInt8), ([110, 97, 109, 101] : List UInt8)] (Int.toNat (withinI x1 (0) (3))) ([] : List UInt8)))]))) = true from decide_eq_true (Nat.le_of_eq (Nat.zero_add _))) (all_t (show decide ((0 + (List.length (dropG ((setG x0)) [((List.getD [([97] : List UInt8), ([98] : List UInt8), ([99] : List UInt8), ([110, 97, 109, 101] : List UInt8)] (Int.toNat (withinI x1 (0) (3))) ([] : List UInt8)))]))) ≤ (List.length (dropG ((setG x0)) [((List.getD [([97] : List UInt8), ([98] : List UInt8), ([99] : List UInt8), ([110, 97, 109, 101] : List UInt8)] (Int.toNat (withinI x1 (0) (3))) ([] : List UInt8)))]))) = true from decide_eq_true (Nat.le_of_eq (Nat.zero_add _))) (all_t c44 (all_t c45 (all_t c45 (all_t c45 (all_t c45 (all_t c45 (all_t rfl (all_t c41 (all_t c45 (all_t (show decide ((0 + (List.length (dropG ((setG x0)) [((List.getD [([97] : List UInt8), ([98] : List UInt8), ([99] : List UInt8), ([110, 97, 109, 101] : List UInt8)] (Int.toNat (withinI x1 (0) (3))) ([] : List UInt8)))]))) ≤ (List.length (dropG ((setG x0)) [((List.getD [([97] : List UInt8), ([98] : List UInt8), ([99] : List UInt8), ([110, 97, 109, 101] : List UInt8)] (Int.toNat (withinI x1 (0) (3))) ([] : List UInt8)))]))) = true from decide_eq_true (Nat.le_of_eq (Nat.zero_add _))) (all_t c54 (all_t c45 (all_t c56 (all_t c56 (all_t c56 (all_t c56 (all_t c56 (all_t c56 (all_t c56 (all_t c56 (all_t c56 (all_t c65 (all_t c65 (all_t c65 (all_t (show decide ((0 + (List.length (dropG ((setG x0)) x3))) ≤ (List.length (dropG ((setG x0)) x3))) = true from decide_eq_true (Nat.le_of_eq (Nat.zero_add _))) (all_t c69 (all_t c65 (all_t c65 (all_t c65 (all_t c73 (all_t c73 (all_t c73 (all_t c76 (all_t c73 (all_t c73 (all_t c79 (all_t c73 (all_t c81 (all_t c81 (all_t c83 (all_t c81 (all_t c85 (all_t c85 (all_t (show decide ((0 + (List.length (dropG ((setG x0)) x3))) ≤ (List.length (dropG ((setG x0)) x3))) = true from decide_eq_true (Nat.le_of_eq (Nat.zero_add _))) (all_t c88 (all_t c85 (all_t c90 (all_t c90 all_nil)))))))))))))))))))))))))))))))))))))))))))))))))))))))))))))))))))))))))))))))))))))))))))) ?_
  intro p hp p2 hq
  rcases List.mem_cons.1 hp with rfl | hp
  · skip
    have h3 := l7_0_ok m (m + 24) x3 ((setG x0)) ((List.getD [([97] : List UInt8), ([98] : List UInt8), ([99] : List UInt8), ([110, 97, 109, 101] : List UInt8)] (Int.toNat (withinI x1 (0) (3))) ([] : List UInt8))) ((withG (setG x0) (List.getD [([97] : List UInt8), ([98] : List UInt8), ([99] : List UInt8), ([110, 97, 109, 101] : List UInt8)] (Int.toNat (withinI x1 (0) (3))) ([] : List UInt8)) (List.getD [([120] : List UInt8), ([121] : List UInt8), ([120, 121] : List UInt8), ([49] : List UInt8), ([34] : List UInt8), ([92] : List UInt8), ([123, 125] : List UInt8), ([122, 32, 122] : List UInt8)] (Int.toNat (withinI x2 (0) (7))) ([] : List UInt8)))) ((withG (setG x0) (List.getD [([97] : List UInt8), ([98] : List UInt8), ([99] : List UInt8), ([110, 97, 109, 101] : List UInt8)] (Int.toNat (withinI x1 (0) (3))) ([] : List UInt8)) ([] : List UInt8))) 0 _ (some_getD (d := l7_0D) c35)
    exact Eq.trans (Eq.mp (by kernel_rfl) h3) hq
  cases hp

set_option maxHeartbeats 20000000 in
theorem lwith_ok (m : Nat) (x0 : (List Int) × (List Int)) (x1 : Int) (x2 : Int) (x3 : List (List UInt8)) (q : Unit) (h : lwith m x0 x1 x2 x3 = some q) : (evCall F S21 (m + 25) 7 [(.agg [(.d (.sl (.int .i64) x0.1)), (.d (.sl (.int .i64) x0.2))]), (.d (.int .i64 x1)), (.d (.int .i64 x2)), (.d (.sl .str x3))] []).run = some (.d (.bool true), []) := by
  unfold lwith at h
  refine ite_cases h (fun c3 h => ?_) (fun c3 h => ?_)
  · skip
    refine ite_cases h (fun c4 h => ?_) (fun c4 h => ?_)
    · skip
      refine ite_cases h (fun c8 h => ?_) (fun c8 h => ?_)
      · skip
        refine ite_cases h (fun c9 h => ?_) (fun c9 h => ?_)
        · skip
          refine ite_cases h (fun c10 h => ?_) (fun c10 h => ?_)
          · skip
            refine ite_cases h (fun c12 h => ?_) (fun c12 h => ?_)
            · skip
              refine ite_cases h (fun c14 h => ?_) (fun c14 h => ?_)
              · skip
                refine ite_cases h (fun c17 h => ?_) (fun c17 h => ?_)
                · skip
                  refine ite_cases h (fun c19 h => ?_) (fun c19 h => ?_)
                  · skip
                    refine ite_cases h (fun c22 h => ?_) (fun c22 h => ?_)
                    · skip
                      refine ite_cases h (fun c25 h => ?_) (fun c25 h => ?_)
                      · skip
                        refine ite_cases h (fun c29 h => ?_) (fun c29 h => ?_)
                        · skip
                          refine ite_cases h (fun c32 h => ?_) (fun c32 h => ?_)
                          · skip
                            refine ite_cases h (fun c35 h => ?_) (fun c35 h => ?_)
                            · skip
                              refine ite_cases h (fun c36 h => ?_) (fun c36 h => ?_)
                              · skip
                                refine ite_cases h (fun c37 h => ?_) (fun c37 h => ?_)
                                · skip
                                  refine ite_cases h (fun c40 h => ?_) (fun c40 h => ?_)
                                  · skip
                                    refine ite_cases h (fun c42 h => ?_) (fun c42 h => ?_)
                                    · skip
                                      refine ite_cases h (fun c45 h => ?_) (fun c45 h => ?_)
                                      · skip
                                        refine ite_cases h (fun c46 h => ?_) (fun c46 h => ?_)
                                        · skip
                                          refine ite_cases h (fun c55 h => ?_) (fun c55 h => ?_)
                                          · skip
                                            refine ite_cases h (fun c57 h => ?_) (fun c57 h => ?_)
                                            · skip
                                              refine ite_cases h (fun c66 h => ?_) (fun c66 h => ?_)
                                              · skip
                                                refine ite_cases h (fun c70 h => ?_) (fun c70 h => ?_)
                                                · skip
                                                  refine ite_cases h (fun c74 h => ?_) (fun c74 h => ?_)
                                                  · skip
                                                    refine ite_cases h (fun c77 h => ?_) (fun c77 h => ?_)
                                                    · skip
                                                      refine ite_cases h (fun c80 h => ?_) (fun c80 h => ?_)
                                                      · skip
                                                        refine ite_cases h (fun c82 h => ?_) (fun c82 h => ?_)
                                                        · skip
                                                          refine ite_cases h (fun c84 h => ?_) (fun c84 h => ?_)
                                                          · skip
                                                            refine ite_cases h (fun c86 h => ?_) (fun c86 h => ?_)
                                                            · skip
                                                              refine ite_cases h (fun c89 h => ?_) (fun c89 h => ?_)
                                                              · skip
                                                                refine ite_cases h (fun c91 h => ?_) (fun c91 h => ?_)
                                                                · skip
                                                                  cases h
                                                                  exact lwith_w0 m x0 x1 x2 x3 c3 c4 c8 c9 c10 c12 c14 c17 c19 c22 c25 c29 c32 c35 c36 c37 c40 c42 c45 c46 c55 c57 c66 c70 c74 c77 c80 c82 c84 c86 c89 c91
                                                                · skip
                                                                  cases h
                                                              · skip
                                                                cases h
                                                            · skip
                                                              cases h
                                                          · skip
                                                            cases h
                                                        · skip
                                                          cases h
                                                      · skip
                                                        cases h
                                                    · skip
                                                      cases h
                                                  · skip
                                                    cases h
                                                · skip
                                                  cases h
                                              · skip
                                                cases h
                                            · skip
                                              cases h
                                          · skip
                                            cases h
                                        · skip
                                          cases h
                                      · skip
                                        cases h
                                    · skip
                                      cases h
                                  · skip
                                    cases h
                                · skip
                                  cases h
                              · skip
                                cases h
                            · skip
                              cases h
                          · skip
                            cases h
                        · skip
                          cases h
                      · skip
                        cases h
                    · skip
                      cases h
                  · skip
                    cases h
                · skip
                  cases h
              · skip
                cases h
            · skip
              refine ite_cases h (fun c18 h => ?_) (fun c18 h => ?_)
              · skip
                refine ite_cases h (fun c21 h => ?_) (fun c21 h => ?_)
                · skip
                  refine ite_cases h (fun c24 h => ?_) (fun c24 h => ?_)
                  · skip
                    refine ite_cases h (fun c28 h => ?_) (fun c28 h => ?_)
                    · skip
                      refine ite_cases h (fun c31 h => ?_) (fun c31 h => ?_)
                      · skip
                        refine ite_cases h (fun c34 h => ?_) (fun c34 h => ?_)
                        · skip
                          refine ite_cases h (fun c35 h => ?_) (fun c35 h => ?_)
                          · skip
                            refine ite_cases h (fun c36 h => ?_) (fun c36 h => ?_)
                            · skip
                              refine ite_cases h (fun c39 h => ?_) (fun c39 h => ?_)
                              · skip
                                refine ite_cases h (fun c41 h => ?_) (fun c41 h => ?_)
                                · skip
                                  refine ite_cases h (fun c44 h => ?_) (fun c44 h => ?_)
                                  · skip
                                    refine ite_cases h (fun c45 h => ?_) (fun c45 h => ?_)
                                    · skip
                                      refine ite_cases h (fun c54 h => ?_) (fun c54 h => ?_)
                                      · skip
                                        refine ite_cases h (fun c56 h => ?_) (fun c56 h => ?_)
                                        · skip
                                          refine ite_cases h (fun c65 h => ?_) (fun c65 h => ?_)
                                          · skip
                                            refine ite_cases h (fun c69 h => ?_) (fun c69 h => ?_)
                                            · skip
                                              refine ite_cases h (fun c73 h => ?_) (fun c73 h => ?_)
                                              · skip
                                                refine ite_cases h (fun c76 h => ?_) (fun c76 h => ?_)
                                                · skip
                                                  refine ite_cases h (fun c79 h => ?_) (fun c79 h => ?_)
                                                  · skip
                                                    refine ite_cases h (fun c81 h => ?_) (fun c81 h => ?_)
                                                    · skip
                                                      refine ite_cases h (fun c83 h => ?_) (fun c83 h => ?_)
                                                      · skip
                                                        refine ite_cases h (fun c85 h => ?_) (fun c85 h => ?_)
                                                        · skip
                                                          refine ite_cases h (fun c88 h => ?_) (fun c88 h => ?_)
                                                          · skip
                                                            refine ite_cases h (fun c90 h => ?_) (fun c90 h => ?_)
                                                            · skip
                                                              cases h
                                                              exact lwith_w1 m x0 x1 x2 x3 c3 c4 c8 c9 c10 c12 c18 c21 c24 c28 c31 c34 c35 c36 c39 c41 c44 c45 c54 c56 c65 c69 c73 c76 c79 c81 c83 c85 c88 c90
                                                            · skip
                                                              cases h
                                                          · skip
                                                            cases h
                                                        · skip
                                                          cases h
                                                      · skip
                                                        cases h
                                                    · skip
                                                      cases h
                                                  · skip
                                                    cases h
                                                · skip
                                                  cases h
                                              · skip
                                                cases h
                                            · skip
                                              cases h
                                          · skip
                                            cases h
                                        · skip
                                          cases h
                                      · skip
                                        cases h
                                    · skip
                                      cases h
                                  · skip
                                    cases h
                                · skip
                                  cases h
                              · skip
                                cases h
                            · skip
                              cases h
                          · skip
                            cases h
                        · skip
                          cases h
                      · skip
                        cases h
                    · skip
                      cases h
                  · skip
                    cases h
                · skip
                  cases h
              · skip
                cases h
          · skip
            cases h
        · skip
          cases h
      · skip
        cases h
    · skip
      cases h
  · skip
    cases h
theorem lwith_at (x0 : (List Int) × (List Int)) (x1 : Int) (x2 : Int) (x3 : List (List UInt8)) (h : ∃ m q, lwith m x0 x1 x2 x3 = some q) : ∃ g B', CallAt Tryd.prog 7 g ∧ (g [(.agg [(.d (.sl (.int .i64) x0.1)), (.d (.sl (.int .i64) x0.2))]), (.d (.int .i64 x1)), (.d (.int .i64 x2)), (.d (.sl .str x3))] []).run = some (.d (.bool true), B') := by
  obtain ⟨m, q, h⟩ := h
  exact ⟨_, _, evCall_atH mixed kinds hds S21 S21_ok (m + 25) 7, lwith_ok m x0 x1 x2 x3 q h⟩

end Go.Proofs.YtcdpgldecikejaaDoor.Dec
namespace Go.Proofs.YtcdpgldecikejaaDoor.Dec
open Go.Ev
set_option linter.unusedVariables false
set_option linter.unusedSimpArgs false
set_option maxRecDepth 100000
abbrev nms : List (List UInt8) := [([97] : List UInt8), ([98] : List UInt8), ([99] : List UInt8), ([110, 97, 109, 101] : List UInt8)]
theorem with4_0 (h0 h1 h2 h3 : Bool) (v0 v1 v2 v3 v : List UInt8) (hv : v ≠ []) : withG (set4 h0 h1 h2 h3 v0 v1 v2 v3) [97] v = set4 true h1 h2 h3 v v1 v2 v3 := by
  unfold withG; rw [if_neg hv]; cases h0 <;> cases h1 <;> cases h2 <;> cases h3 <;> rfl
theorem with4_1 (h0 h1 h2 h3 : Bool) (v0 v1 v2 v3 v : List UInt8) (hv : v ≠ []) : withG (set4 h0 h1 h2 h3 v0 v1 v2 v3) [98] v = set4 h0 true h2 h3 v0 v v2 v3 := by
  unfold withG; rw [if_neg hv]; cases h0 <;> cases h1 <;> cases h2 <;> cases h3 <;> rfl
theorem with4_2 (h0 h1 h2 h3 : Bool) (v0 v1 v2 v3 v : List UInt8) (hv : v ≠ []) : withG (set4 h0 h1 h2 h3 v0 v1 v2 v3) [99] v = set4 h0 h1 true h3 v0 v1 v v3 := by
  unfold withG; rw [if_neg hv]; cases h0 <;> cases h1 <;> cases h2 <;> cases h3 <;> rfl
theorem with4_3 (h0 h1 h2 h3 : Bool) (v0 v1 v2 v3 v : List UInt8) (hv : v ≠ []) : withG (set4 h0 h1 h2 h3 v0 v1 v2 v3) [110, 97, 109, 101] v = set4 h0 h1 h2 true v0 v1 v2 v := by
  unfold withG; rw [if_neg hv]; cases h0 <;> cases h1 <;> cases h2 <;> cases h3 <;> rfl
theorem drop4_0 (h0 h1 h2 h3 : Bool) (v0 v1 v2 v3 : List UInt8) : dropG (set4 h0 h1 h2 h3 v0 v1 v2 v3) [[97]] = set4 false h1 h2 h3 v0 v1 v2 v3 := by
  cases h0 <;> cases h1 <;> cases h2 <;> cases h3 <;> rfl
theorem drop4_1 (h0 h1 h2 h3 : Bool) (v0 v1 v2 v3 : List UInt8) : dropG (set4 h0 h1 h2 h3 v0 v1 v2 v3) [[98]] = set4 h0 false h2 h3 v0 v1 v2 v3 := by
  cases h0 <;> cases h1 <;> cases h2 <;> cases h3 <;> rfl
theorem drop4_2 (h0 h1 h2 h3 : Bool) (v0 v1 v2 v3 : List UInt8) : dropG (set4 h0 h1 h2 h3 v0 v1 v2 v3) [[99]] = set4 h0 h1 false h3 v0 v1 v2 v3 := by
  cases h0 <;> cases h1 <;> cases h2 <;> cases h3 <;> rfl
theorem drop4_3 (h0 h1 h2 h3 : Bool) (v0 v1 v2 v3 : List UInt8) : dropG (set4 h0 h1 h2 h3 v0 v1 v2 v3) [[110, 97, 109, 101]] = set4 h0 h1 h2 false v0 v1 v2 v3 := by
  cases h0 <;> cases h1 <;> cases h2 <;> cases h3 <;> rfl
/-- What With and Drop come to. -/
structure Wit (l : LB) (nm v : List UInt8) (x y : LB) : Prop where
  hx : withG l nm v = x
  hy : withG l nm [] = y
  hd : dropG l [nm] = y
  he : dropG x [nm] = y
  lx : x.length ≤ 4
  ly : y.length ≤ 4
  rx : lrightG x = true
  ry : lrightG y = true
  gx : getG x nm = v
  gy : getG y nm = []
  ga : ∀ k, k < 4 → nms.getD k [] ≠ nm → getG x (nms.getD k []) = getG l (nms.getD k []) ∧ getG y (nms.getD k []) = getG l (nms.getD k [])
theorem wit (h0 h1 h2 : Bool) {v0 v1 v2 v3 v : List UInt8} (a0 : 1 ≤ v0.length ∧ v0.length ≤ 3) (a1 : 1 ≤ v1.length ∧ v1.length ≤ 3) (a2 : 1 ≤ v2.length ∧ v2.length ≤ 3) (a3 : 1 ≤ v3.length ∧ v3.length ≤ 3) (a : 1 ≤ v.length ∧ v.length ≤ 3) (i : Nat) (hi : i < 4) : ∃ x y, Wit (set4 h0 h1 h2 false v0 v1 v2 v3) (nms.getD i []) v x y := by
  have hv : v ≠ [] := by intro e; rw [e] at a; simp at a
  have hw : ∀ (l : LB) n, withG l n [] = dropG l [n] := fun l n => by unfold withG; rw [if_pos rfl]
  have cs : ∀ {k : Nat}, k < 4 → k = 0 ∨ k = 1 ∨ k = 2 ∨ k = 3 := fun h => by omega
  rcases cs hi with rfl | rfl | rfl | rfl
  · refine ⟨_, _, with4_0 _ _ _ _ _ _ _ _ _ hv, (hw _ _).trans (drop4_0 ..), drop4_0 .., ?_, set4_len .., set4_len .., set4_right _ _ _ _ a a1 a2 a3, set4_right _ _ _ _ a0 a1 a2 a3, ?_, ?_, ?_⟩
    · exact (drop4_0 ..).trans rfl
    · exact (set4_get0 ..).trans rfl
    · exact (set4_get0 ..).trans rfl
    · intro k hk hne
      rcases cs hk with rfl | rfl | rfl | rfl
      · exact absurd rfl hne
      · exact ⟨(set4_get1 ..).trans (set4_get1 ..).symm, (set4_get1 ..).trans (set4_get1 ..).symm⟩
      · exact ⟨(set4_get2 ..).trans (set4_get2 ..).symm, (set4_get2 ..).trans (set4_get2 ..).symm⟩
      · exact ⟨(set4_get3 ..).trans (set4_get3 ..).symm, (set4_get3 ..).trans (set4_get3 ..).symm⟩
  · refine ⟨_, _, with4_1 _ _ _ _ _ _ _ _ _ hv, (hw _ _).trans (drop4_1 ..), drop4_1 .., ?_, set4_len .., set4_len .., set4_right _ _ _ _ a0 a a2 a3, set4_right _ _ _ _ a0 a1 a2 a3, ?_, ?_, ?_⟩
    · exact (drop4_1 ..).trans rfl
    · exact (set4_get1 ..).trans rfl
    · exact (set4_get1 ..).trans rfl
    · intro k hk hne
      rcases cs hk with rfl | rfl | rfl | rfl
      · exact ⟨(set4_get0 ..).trans (set4_get0 ..).symm, (set4_get0 ..).trans (set4_get0 ..).symm⟩
      · exact absurd rfl hne
      · exact ⟨(set4_get2 ..).trans (set4_get2 ..).symm, (set4_get2 ..).trans (set4_get2 ..).symm⟩
      · exact ⟨(set4_get3 ..).trans (set4_get3 ..).symm, (set4_get3 ..).trans (set4_get3 ..).symm⟩
  · refine ⟨_, _, with4_2 _ _ _ _ _ _ _ _ _ hv, (hw _ _).trans (drop4_2 ..), drop4_2 .., ?_, set4_len .., set4_len .., set4_right _ _ _ _ a0 a1 a a3, set4_right _ _ _ _ a0 a1 a2 a3, ?_, ?_, ?_⟩
    · exact (drop4_2 ..).trans rfl
    · exact (set4_get2 ..).trans rfl
    · exact (set4_get2 ..).trans rfl
    · intro k hk hne
      rcases cs hk with rfl | rfl | rfl | rfl
      · exact ⟨(set4_get0 ..).trans (set4_get0 ..).symm, (set4_get0 ..).trans (set4_get0 ..).symm⟩
      · exact ⟨(set4_get1 ..).trans (set4_get1 ..).symm, (set4_get1 ..).trans (set4_get1 ..).symm⟩
      · exact absurd rfl hne
      · exact ⟨(set4_get3 ..).trans (set4_get3 ..).symm, (set4_get3 ..).trans (set4_get3 ..).symm⟩
  · refine ⟨_, _, with4_3 _ _ _ _ _ _ _ _ _ hv, (hw _ _).trans (drop4_3 ..), drop4_3 .., ?_, set4_len .., set4_len .., set4_right _ _ _ _ a0 a1 a2 a, set4_right _ _ _ _ a0 a1 a2 a3, ?_, ?_, ?_⟩
    · exact (drop4_3 ..).trans rfl
    · exact (set4_get3 ..).trans rfl
    · exact (set4_get3 ..).trans rfl
    · intro k hk hne
      rcases cs hk with rfl | rfl | rfl | rfl
      · exact ⟨(set4_get0 ..).trans (set4_get0 ..).symm, (set4_get0 ..).trans (set4_get0 ..).symm⟩
      · exact ⟨(set4_get1 ..).trans (set4_get1 ..).symm, (set4_get1 ..).trans (set4_get1 ..).symm⟩
      · exact ⟨(set4_get2 ..).trans (set4_get2 ..).symm, (set4_get2 ..).trans (set4_get2 ..).symm⟩
      · exact absurd rfl hne
theorem kd_len (ns : List (List UInt8)) : ∀ l : LB, (keepG l ns).length + (dropG l ns).length = l.length
  | [] => rfl
  | x :: l => by
    have := kd_len ns l
    unfold keepG dropG at *
    rw [List.filter_cons, List.filter_cons]
    cases ns.contains x.1 with
    | true => rw [if_pos rfl, if_neg (by decide), List.length_cons, List.length_cons]; omega
    | false => rw [if_neg (by decide), if_pos (show (!false) = true from rfl), List.length_cons, List.length_cons]; omega
theorem keep_drop (l : LB) (ns : List (List UInt8)) : keepG (dropG l ns) ns = [] := by
  unfold keepG dropG
  rw [List.filter_filter]
  exact List.filter_eq_nil_iff.2 fun a _ => by simp
theorem keep_keep (l : LB) (ns : List (List UInt8)) : keepG (keepG l ns) ns = keepG l ns := by
  unfold keepG
  rw [List.filter_filter]
  simp
theorem with_loop (m : Nat) (ns : List (List UInt8)) {l : LB} {nm v : List UInt8} {x y : LB} (W : Wit l nm v x y) (hl : l.length ≤ 1000000) : ∀ (n k : Nat), k ≤ 4 → 4 - k < n → ∃ j, l7_0 m n ns l nm x y ((k : Nat) : Int) = some (0, j)
  | 0, k, _, h => by omega
  | n + 1, k, h1, h2 => by
    rw [l7_0]
    by_cases hk : k < 4
    · have e1 : decide (((k : Nat) : Int) < 4) = true := decide_eq_true (by omega)
      have e2 : decide ((0 : Int) ≤ ((k : Nat) : Int)) = true := decide_eq_true (by omega)
      have e7 : IntKind.wrap .i64 (((k : Nat) : Int) + (1)) = ((k + 1 : Nat) : Int) := by rw [wrap_id (by omega) (by omega)]; rfl
      obtain ⟨j, go⟩ := with_loop m ns W hl n (k + 1) (by omega) (by omega)
      have b1 : decide (List.length l ≤ 1000000) = true := decide_eq_true hl
      have b2 : decide (List.length x ≤ 1000000) = true := decide_eq_true (by have := W.lx; omega)
      have b3 : decide (List.length y ≤ 1000000) = true := decide_eq_true (by have := W.ly; omega)
      have hg := W.ga k hk
      unfold nms at hg
      refine ⟨j, ?_⟩
      rw [show Int.toNat ((k : Nat) : Int) = k from rfl, e7, if_pos e1, if_pos e2]
      by_cases hc : List.getD [([97] : List UInt8), ([98] : List UInt8), ([99] : List UInt8), ([110, 97, 109, 101] : List UInt8)] k ([] : List UInt8) = nm
      · rw [if_pos (by rw [beq_iff_eq]; exact hc)]; exact go
      · rw [if_neg (by rw [beq_iff_eq]; exact hc), if_pos b2, if_pos b1, (hg hc).1, (hg hc).2, if_pos (beq_self_eq_true _), if_pos b3, if_pos (beq_self_eq_true _)]; exact go
    · have e1 : decide (((k : Nat) : Int) < 4) = false := decide_eq_false (by omega)
      rw [e1, if_neg (by simp)]
      exact ⟨_, rfl⟩
theorem lwith_pure (x0 : List Int × List Int) (x1 x2 : Int) (x3 : List (List UInt8)) (hns : x3.length ≤ 9223372036854775807) : ∃ m q, lwith m x0 x1 x2 x3 = some q := by
  refine ⟨100, (), ?_⟩
  unfold lwith
  skip
  obtain ⟨h0, h1, h2, v0, v1, v2, hl, b0, b1, b2⟩ := setG_of x0
  have i1 : 0 ≤ withinI x1 (0) (3) ∧ withinI x1 (0) (3) < 4 := by unfold withinI; omega
  have i2 : 0 ≤ withinI x2 (0) (7) ∧ withinI x2 (0) (7) < 8 := by unfold withinI; omega
  have c1 : decide (0 ≤ withinI x1 (0) (3)) = true := decide_eq_true i1.1
  have c2 : decide (withinI x1 (0) (3) < 4) = true := decide_eq_true i1.2
  have c3 : decide (0 ≤ withinI x2 (0) (7)) = true := decide_eq_true i2.1
  have c4 : decide (withinI x2 (0) (7) < 8) = true := decide_eq_true i2.2
  obtain ⟨i, hi, hi4⟩ : ∃ i, Int.toNat (withinI x1 (0) (3)) = i ∧ i < 4 := ⟨_, rfl, by omega⟩
  obtain ⟨v, hv, hvm⟩ : ∃ v, List.getD [([120] : List UInt8), ([121] : List UInt8), ([120, 121] : List UInt8), ([49] : List UInt8), ([34] : List UInt8), ([92] : List UInt8), ([123, 125] : List UInt8), ([122, 32, 122] : List UInt8)] (Int.toNat (withinI x2 (0) (7))) ([] : List UInt8) = v ∧ v ∈ valuesG := ⟨_, rfl, getD_mem valuesG _ _ (show _ < 8 by omega)⟩
  obtain ⟨x, y, W⟩ := wit h0 h1 h2 (v3 := [120]) (val_len b0) (val_len b1) (val_len b2) ⟨by decide, by decide⟩ (val_len hvm) i hi4
  have rl := set4_right h0 h1 h2 false (v3 := [120]) (val_len b0) (val_len b1) (val_len b2) ⟨by decide, by decide⟩
  have rk : lrightG (keepG (set4 h0 h1 h2 false v0 v1 v2 [120]) x3) = true := by
    unfold keepG
    rw [set4_filter (fun x => x3.contains x.1) (fun n => x3.contains n) (fun _ => rfl)]
    exact set4_right _ _ _ _ (val_len b0) (val_len b1) (val_len b2) ⟨by decide, by decide⟩
  have rd : lrightG (dropG (set4 h0 h1 h2 false v0 v1 v2 [120]) x3) = true := by
    unfold dropG
    rw [set4_filter (fun x => !x3.contains x.1) (fun n => !x3.contains n) (fun _ => rfl)]
    exact set4_right _ _ _ _ (val_len b0) (val_len b1) (val_len b2) ⟨by decide, by decide⟩
  have ll := set4_len h0 h1 h2 false v0 v1 v2 [120]
  rw [hl]
  generalize set4 h0 h1 h2 false v0 v1 v2 [120] = l at *
  rw [hi]
  unfold nms at W
  obtain ⟨nm, hnm⟩ : ∃ nm, List.getD [([97] : List UInt8), ([98] : List UInt8), ([99] : List UInt8), ([110, 97, 109, 101] : List UInt8)] i ([] : List UInt8) = nm := ⟨_, rfl⟩
  rw [hnm] at W
  obtain ⟨j, hj⟩ := with_loop 100 x3 W (by omega) (100 + 24) 0 (by omega) (by omega)
  rw [Int.natCast_zero] at hj
  have hsum := kd_len x3 l
  have hkd := keep_drop l x3
  have hkk := keep_keep l x3
  obtain ⟨P, hP⟩ : ∃ P, keepG l x3 = P := ⟨_, rfl⟩
  obtain ⟨Q, hQ⟩ : ∃ Q, dropG l x3 = Q := ⟨_, rfl⟩
  rw [hP] at rk hkk hsum
  rw [hQ] at rd hkd hsum
  have d1 : decide (List.length l ≤ 1000000) = true := decide_eq_true (by omega)
  have d2 : decide ((((List.length x) : Nat) : Int) ≤ 6) = true := decide_eq_true (by have := W.lx; omega)
  have d3 : decide (List.length x ≤ 1000000) = true := decide_eq_true (by have := W.lx; omega)
  have d4 : decide (List.length y ≤ 1000000) = true := decide_eq_true (by have := W.ly; omega)
  have d5 : decide (List.length y < 4611686018427387904) = true := decide_eq_true (by have := W.ly; omega)
  have d6 : decide (List.length P < 4611686018427387904) = true := decide_eq_true (by omega)
  have k1 : keepPre l x3 = true := decide_eq_true ⟨by omega, hns⟩
  have k2 : keepPre x [nm] = true := decide_eq_true ⟨by have := W.lx; omega, by simp⟩
  have k3 : keepPre l [nm] = true := decide_eq_true ⟨by omega, by simp⟩
  have k4 : keepPre Q x3 = true := decide_eq_true ⟨by omega, hns⟩
  have k5 : keepPre P x3 = true := decide_eq_true ⟨by omega, hns⟩
  have s1 : (IntKind.wrap .i64 ((((List.length P) : Nat) : Int) + (((List.length Q) : Nat) : Int)) == (((List.length l) : Nat) : Int)) = true := by
    rw [wrap_id (by omega) (by omega), beq_iff_eq]; omega
  have s2 : ((((List.length ([] : LB)) : Nat) : Int) == (0)) = true := rfl
  have p1 := set4_pre W.rx
  have p2 := set4_pre W.ry
  have p3 := set4_pre rk
  have p4 := set4_pre rd
  have gx : (getG x nm == v) = true := by rw [W.gx, beq_self_eq_true]
  have gy : (getG y nm == ([] : List UInt8)) = true := by rw [W.gy]; rfl
  simp only [c1, c2, c3, c4, hnm, hv, W.hx, W.hy, W.hd, W.he, hP, hQ, hkd, hkk, l7_0R, hj, d1, d2, d3, d4, d5, d6, k1, k2, k3, k4, k5, s1, s2, p1, p2, p3, p4, gx, gy, W.rx, W.ry, rk, rd, List.drop_zero, List.take_length, beq_self_eq_true, Option.isSome_some, Option.getD_some, ↓reduceIte]
theorem lwith_law (x0 : List Int × List Int) (x1 x2 : Int) (x3 : List (List UInt8)) (_ : Ty.ok (.pair (.sl (.int .i64)) (.sl (.int .i64))) x0) (_ : Ty.ok (.int .i64) x1) (_ : Ty.ok (.int .i64) x2) (ok3 : Ty.ok (.sl .str) x3) : ∃ g B', CallAt Tryd.prog 7 g ∧ (g [argAV true (.pair (.sl (.int .i64)) (.sl (.int .i64))) x0, argAV false (.int .i64) x1, argAV false (.int .i64) x2, argAV false (.sl .str) x3] []).run = some (.d (.bool true), B') := lwith_at x0 x1 x2 x3 (lwith_pure x0 x1 x2 x3 ok3.1)

end Go.Proofs.YtcdpgldecikejaaDoor.Dec
