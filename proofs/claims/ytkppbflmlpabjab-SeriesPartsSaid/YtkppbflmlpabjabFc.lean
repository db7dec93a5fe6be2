/- SeriesParts, as a plain function. -/
import Derived.Test.YtkppbflmlpabjabFb
import Derived.KernelRfl
namespace Go.Proofs.Ytkppbflmlpabjab.Dec
open Go.Ev
set_option linter.unusedVariables false
set_option linter.unusedSimpArgs false
set_option maxRecDepth 100000
noncomputable def fn10 : AFn := (F 10).getD ⟨0, [], .bad, false, false, noHd⟩
noncomputable def body10 : AC := fn10.body
def l10_0 (m : Nat) : Nat → Int → Int → List (Int × Int) → List (Int × Int) → Int → Int → List (Int × Int) → List (Int × Int) → Option (Nat × Int × (List (Int × Int)))
  | 0, _, _, _, _, _, _, _, _ => none
  | n + 1, x1, x2, s7, s22, s23, s24, b0, b1 => if decide (s24 < s23) = true then
      if decide (0 ≤ s24) = true then
        if decide (s24 < (((List.length s22) : Nat) : Int)) = true then
          if decide (List.length b1 ≤ 200 ∧ List.length [(List.getD s22 (Int.toNat s24) (0, 0))] < 4611686018427387904) = true then
            if ((addG b1 [(List.getD s22 (Int.toNat s24) (0, 0))]).1 != (0)) = true then
              none
            else
              l10_0 m n x1 x2 s7 s22 s23 ((IntKind.wrap .i64 (s24 + (1)))) b0 ((addG b1 [(List.getD s22 (Int.toNat s24) (0, 0))]).2)
          else
            none
        else
          none
      else
        none
    else
      some (0, s24, b1)
def l10_0D : Nat × Int × (List (Int × Int)) := (0, 0, [])
@[reducible] def l10_0R (m n : Nat) (x1 : Int) (x2 : Int) (s7 : List (Int × Int)) (s22 : List (Int × Int)) (s23 : Int) (s24 : Int) (b0 : List (Int × Int)) (b1 : List (Int × Int)) : Nat × Int × (List (Int × Int)) := Option.getD (l10_0 m n x1 x2 s7 s22 s23 s24 b0 b1) l10_0D
def l10_0H (x1 : Int) (x2 : Int) (s7 : List (Int × Int)) (s22 : List (Int × Int)) (s23 : Int) (s24 : Int) (b0 : List (Int × Int)) (b1 : List (Int × Int)) : Env := [.top, (.d (.int .i64 x1)), (.d (.int .i64 x2)), .top, .top, .top, .top, (.d (.sl (.pair (.int .i64) (.int .i64)) s7)), (.ptr 0 0), (.ptr 1 0), .top, .top, .top, .top, .top, .top, .top, .top, .top, .top, .top, .top, (.d (.sl (.pair (.int .i64) (.int .i64)) s22)), (.d (.int .i64 s23)), (.d (.int .i64 s24)), .top, .top, .top, .top, .top, .top, .top, .top, .top, .top, .top, .top, .top, .top, .top, .top, .top, .top, .top, .top, .top, .top, .top, .top, .top, .top, .top, .top, .top, .top, .top, .top, .top, .top, .top, .top, .top, .top, .top, .top, .top, .top, .top, .top, .top, .top, .top, .top, .top, .top, .top, .top, .top, .top, .top, .top, .top, .top, .top, .top, .top, .top, .top, .top, .top, .top, .top, .top, .top, .top, .top, .top, .top, .top, .top, .top, .top, .top, .top, .top]
def l10_0B (x1 : Int) (x2 : Int) (s7 : List (Int × Int)) (s22 : List (Int × Int)) (s23 : Int) (s24 : Int) (b0 : List (Int × Int)) (b1 : List (Int × Int)) : Boxes := [(.cells [(.d (.sl (.pair (.int .i64) (.int .i64)) b0))]), (.cells [(.d (.sl (.pair (.int .i64) (.int .i64)) b1))])]
def l10_0E (x1 : Int) (x2 : Int) (s7 : List (Int × Int)) (s22 : List (Int × Int)) (s23 : Int) (s24 : Int) (b0 : List (Int × Int)) (b1 : List (Int × Int)) : Nat → AEx × Env × Boxes
  | _ => (.exit 0, [.top, (.d (.int .i64 x1)), (.d (.int .i64 x2)), .top, .top, .top, .top, (.d (.sl (.pair (.int .i64) (.int .i64)) s7)), (.ptr 0 0), (.ptr 1 0), .top, .top, .top, .top, .top, .top, .top, .top, .top, .top, .top, .top, (.d (.sl (.pair (.int .i64) (.int .i64)) s22)), (.d (.int .i64 s23)), (.d (.int .i64 s24)), (.d (.bool (decide (s24 < s23)))), .top, .top, .top, .top, .top, .top, .top, .top, .top, .top, .top, .top, .top, .top, .top, .top, .top, .top, .top, .top, .top, .top, .top, .top, .top, .top, .top, .top, .top, .top, .top, .top, .top, .top, .top, .top, .top, .top, .top, .top, .top, .top, .top, .top, .top, .top, .top, .top, .top, .top, .top, .top, .top, .top, .top, .top, .top, .top, .top, .top, .top, .top, .top, .top, .top, .top, .top, .top, .top, .top, .top, .top, .top, .top, .top, .top, .top, .top, .top], [(.cells [(.d (.sl (.pair (.int .i64) (.int .i64)) b0))]), (.cells [(.d (.sl (.pair (.int .i64) (.int .i64)) b1))])])
noncomputable def lbl10_0 : AC := loopBody 29361030 body10

set_option maxHeartbeats 20000000 in
theorem l10_0_w0 (m n : Nat) (x1 : Int) (x2 : Int) (s7 : List (Int × Int)) (s22 : List (Int × Int)) (s23 : Int) (s24 : Int) (b0 : List (Int × Int)) (b1 : List (Int × Int)) (r : AEx × Env × Boxes) (c0 : decide (s24 < s23) = true) (c1 : decide (0 ≤ s24) = true) (c2 : decide (s24 < (((List.length s22) : Nat) : Int)) = true) (c4 : decide (List.length b1 ≤ 200 ∧ List.length [(List.getD s22 (Int.toNat s24) (0, 0))] < 4611686018427387904) = true) (c5 : ¬ ((addG b1 [(List.getD s22 (Int.toNat s24) (0, 0))]).1 != (0)) = true) (ih : (turns (hds 10 29361030) 0 29361030 (evC byref (evCall F S11 (m + 24)) (m + 24) 0 (hds 10) lbl10_0) n (l10_0H x1 x2 s7 s22 s23 ((IntKind.wrap .i64 (s24 + (1)))) b0 ((addG b1 [(List.getD s22 (Int.toNat s24) (0, 0))]).2)) (l10_0B x1 x2 s7 s22 s23 ((IntKind.wrap .i64 (s24 + (1)))) b0 ((addG b1 [(List.getD s22 (Int.toNat s24) (0, 0))]).2))).run = some r) : (turns (hds 10 29361030) 0 29361030 (evC byref (evCall F S11 (m + 24)) (m + 24) 0 (hds 10) lbl10_0) (n + 1) (l10_0H x1 x2 s7 s22 s23 s24 b0 b1) (l10_0B x1 x2 s7 s22 s23 s24 b0 b1)).run = some r := by
  exact turns_step (M.run_of_path _ [true, true, true, true, true, false] _ _ (by kernel_rfl) (all_t c0 (all_t c1 (all_t c2 (all_t rfl (all_t c4 (all_f c5 all_nil))))))) ih
set_option maxHeartbeats 20000000 in
theorem l10_0_w1 (m n : Nat) (x1 : Int) (x2 : Int) (s7 : List (Int × Int)) (s22 : List (Int × Int)) (s23 : Int) (s24 : Int) (b0 : List (Int × Int)) (b1 : List (Int × Int)) (c0 : ¬ decide (s24 < s23) = true) : (turns (hds 10 29361030) 0 29361030 (evC byref (evCall F S11 (m + 24)) (m + 24) 0 (hds 10) lbl10_0) (n + 1) (l10_0H x1 x2 s7 s22 s23 s24 b0 b1) (l10_0B x1 x2 s7 s22 s23 s24 b0 b1)).run = some (.exit 0, [.top, (.d (.int .i64 x1)), (.d (.int .i64 x2)), .top, .top, .top, .top, (.d (.sl (.pair (.int .i64) (.int .i64)) s7)), (.ptr 0 0), (.ptr 1 0), .top, .top, .top, .top, .top, .top, .top, .top, .top, .top, .top, .top, (.d (.sl (.pair (.int .i64) (.int .i64)) s22)), (.d (.int .i64 s23)), (.d (.int .i64 s24)), (.d (.bool (decide (s24 < s23)))), .top, .top, .top, .top, .top, .top, .top, .top, .top, .top, .top, .top, .top, .top, .top, .top, .top, .top, .top, .top, .top, .top, .top, .top, .top, .top, .top, .top, .top, .top, .top, .top, .top, .top, .top, .top, .top, .top, .top, .top, .top, .top, .top, .top, .top, .top, .top, .top, .top, .top, .top, .top, .top, .top, .top, .top, .top, .top, .top, .top, .top, .top, .top, .top, .top, .top, .top, .top, .top, .top, .top, .top, .top, .top, .top, .top, .top, .top, .top], [(.cells [(.d (.sl (.pair (.int .i64) (.int .i64)) b0))]), (.cells [(.d (.sl (.pair (.int .i64) (.int .i64)) b1))])]) := by
  exact turns_last (by simp) (M.run_of_path _ [false] _ _ (by kernel_rfl) (all_f c0 all_nil)) 

set_option maxHeartbeats 20000000 in
theorem l10_0_step (m n : Nat) (ih : ∀ (x1 : Int) (x2 : Int) (s7 : List (Int × Int)) (s22 : List (Int × Int)) (s23 : Int) (s24 : Int) (b0 : List (Int × Int)) (b1 : List (Int × Int)) (q : Nat × Int × (List (Int × Int))), l10_0 m n x1 x2 s7 s22 s23 s24 b0 b1 = some q → (turns (hds 10 29361030) 0 29361030 (evC byref (evCall F S11 (m + 24)) (m + 24) 0 (hds 10) lbl10_0) n (l10_0H x1 x2 s7 s22 s23 s24 b0 b1) (l10_0B x1 x2 s7 s22 s23 s24 b0 b1)).run = some (l10_0E (x1) (x2) (s7) (s22) (s23) (q.2.1) (b0) (q.2.2) q.1)) (x1 : Int) (x2 : Int) (s7 : List (Int × Int)) (s22 : List (Int × Int)) (s23 : Int) (s24 : Int) (b0 : List (Int × Int)) (b1 : List (Int × Int)) (q : Nat × Int × (List (Int × Int))) (h : l10_0 m (n + 1) x1 x2 s7 s22 s23 s24 b0 b1 = some q) : (turns (hds 10 29361030) 0 29361030 (evC byref (evCall F S11 (m + 24)) (m + 24) 0 (hds 10) lbl10_0) (n + 1) (l10_0H x1 x2 s7 s22 s23 s24 b0 b1) (l10_0B x1 x2 s7 s22 s23 s24 b0 b1)).run = some (l10_0E (x1) (x2) (s7) (s22) (s23) (q.2.1) (b0) (q.2.2) q.1) := by
  rw [l10_0] at h
  refine ite_cases h (fun c0 h => ?_) (fun c0 h => ?_)
  · skip
    refine ite_cases h (fun c1 h => ?_) (fun c1 h => ?_)
    · skip
      refine ite_cases h (fun c2 h => ?_) (fun c2 h => ?_)
      · skip
        refine ite_cases h (fun c4 h => ?_) (fun c4 h => ?_)
        · skip
          refine ite_cases h (fun c5 h => ?_) (fun c5 h => ?_)
          · skip
            cases h
          · skip
            exact l10_0_w0 m n x1 x2 s7 s22 s23 s24 b0 b1 _ c0 c1 c2 c4 c5 (ih _ _ _ _ _ _ _ _ q h)
        · skip
          cases h
      · skip
        cases h
    · skip
      cases h
  · skip
    cases h
    exact l10_0_w1 m n x1 x2 s7 s22 s23 s24 b0 b1 c0
set_option maxHeartbeats 20000000 in
theorem l10_0_ok (m : Nat) : ∀ (n : Nat) (x1 : Int) (x2 : Int) (s7 : List (Int × Int)) (s22 : List (Int × Int)) (s23 : Int) (s24 : Int) (b0 : List (Int × Int)) (b1 : List (Int × Int)) (q : Nat × Int × (List (Int × Int))), l10_0 m n x1 x2 s7 s22 s23 s24 b0 b1 = some q → (turns (hds 10 29361030) 0 29361030 (evC byref (evCall F S11 (m + 24)) (m + 24) 0 (hds 10) lbl10_0) n (l10_0H x1 x2 s7 s22 s23 s24 b0 b1) (l10_0B x1 x2 s7 s22 s23 s24 b0 b1)).run = some (l10_0E (x1) (x2) (s7) (s22) (s23) (q.2.1) (b0) (q.2.2) q.1)
  | 0, x1, x2, s7, s22, s23, s24, b0, b1, q, h => by cases h
  | n + 1, x1, x2, s7, s22, s23, s24, b0, b1, q, h => l10_0_step m n (l10_0_ok m n) x1 x2 s7 s22 s23 s24 b0 b1 q h

def parts (m : Nat) (x0 : List Int) (x1 : Int) (x2 : Int) : Option Unit :=
  if decide (List.length ([] : List (Int × Int)) ≤ 200 ∧ List.length (samplesG x0) < 4611686018427387904) = true then
    if ((addG ([] : List (Int × Int)) (samplesG x0)).1 != (0)) = true then
      none
    else
      if (Option.isSome (l10_0 m (m + 24) x1 x2 ((samplesG x0)) ((samplesG x0)) ((((List.length (samplesG x0)) : Nat) : Int)) 0 ((addG ([] : List (Int × Int)) (samplesG x0)).2) (([] : List (Int × Int))))) = true then
        if decide (List.length ((addG ([] : List (Int × Int)) (samplesG x0)).2) ≤ 1000000) = true then
          if decide (((0 + (List.length (betG ((addG ([] : List (Int × Int)) (samplesG x0)).2) (0) (IntKind.wrap .i64 ((withinI x1 (0) (260)) - (1)))))) * 16) ≤ 70368744177664) = true then
            if decide ((((0 + (List.length (betG ((addG ([] : List (Int × Int)) (samplesG x0)).2) (0) (IntKind.wrap .i64 ((withinI x1 (0) (260)) - (1)))))) + (List.length (betG ((addG ([] : List (Int × Int)) (samplesG x0)).2) (withinI x1 (0) (260)) (1099511627776)))) * 16) ≤ 70368744177664) = true then
              if decide ((0 + (List.length (betG ((addG ([] : List (Int × Int)) (samplesG x0)).2) (0) (IntKind.wrap .i64 ((withinI x1 (0) (260)) - (1)))))) = (List.length (betG ((addG ([] : List (Int × Int)) (samplesG x0)).2) (0) (IntKind.wrap .i64 ((withinI x1 (0) (260)) - (1)))))) = true then
                if decide ((0 + ((0 + (List.length (betG ((addG ([] : List (Int × Int)) (samplesG x0)).2) (0) (IntKind.wrap .i64 ((withinI x1 (0) (260)) - (1)))))) + (List.length (betG ((addG ([] : List (Int × Int)) (samplesG x0)).2) (withinI x1 (0) (260)) (1099511627776))))) ≤ (List.length ((betG ((addG ([] : List (Int × Int)) (samplesG x0)).2) (0) (IntKind.wrap .i64 ((withinI x1 (0) (260)) - (1)))) ++ (betG ((addG ([] : List (Int × Int)) (samplesG x0)).2) (withinI x1 (0) (260)) (1099511627776))))) = true then
                  if decide (List.length (List.take ((0 + (List.length (betG ((addG ([] : List (Int × Int)) (samplesG x0)).2) (0) (IntKind.wrap .i64 ((withinI x1 (0) (260)) - (1)))))) + (List.length (betG ((addG ([] : List (Int × Int)) (samplesG x0)).2) (withinI x1 (0) (260)) (1099511627776)))) (List.drop 0 ((betG ((addG ([] : List (Int × Int)) (samplesG x0)).2) (0) (IntKind.wrap .i64 ((withinI x1 (0) (260)) - (1)))) ++ (betG ((addG ([] : List (Int × Int)) (samplesG x0)).2) (withinI x1 (0) (260)) (1099511627776))))) < 4611686018427387904) = true then
                    if ((show List (Int × Int) from (List.take ((0 + (List.length (betG ((addG ([] : List (Int × Int)) (samplesG x0)).2) (0) (IntKind.wrap .i64 ((withinI x1 (0) (260)) - (1)))))) + (List.length (betG ((addG ([] : List (Int × Int)) (samplesG x0)).2) (withinI x1 (0) (260)) (1099511627776)))) (List.drop 0 ((betG ((addG ([] : List (Int × Int)) (samplesG x0)).2) (0) (IntKind.wrap .i64 ((withinI x1 (0) (260)) - (1)))) ++ (betG ((addG ([] : List (Int × Int)) (samplesG x0)).2) (withinI x1 (0) (260)) (1099511627776)))))) == ((samplesG x0))) = true then
                      if decide (List.length (l10_0R m (m + 24) x1 x2 ((samplesG x0)) ((samplesG x0)) ((((List.length (samplesG x0)) : Nat) : Int)) 0 ((addG ([] : List (Int × Int)) (samplesG x0)).2) (([] : List (Int × Int)))).2.2 ≤ 1000000) = true then
                        if (((cutN (l10_0R m (m + 24) x1 x2 ((samplesG x0)) ((samplesG x0)) ((((List.length (samplesG x0)) : Nat) : Int)) 0 ((addG ([] : List (Int × Int)) (samplesG x0)).2) (([] : List (Int × Int)))).2.2 (withinI x1 (0) (260)) : Nat) : Int) != (((List.length (betG ((addG ([] : List (Int × Int)) (samplesG x0)).2) (0) (IntKind.wrap .i64 ((withinI x1 (0) (260)) - (1))))) : Nat) : Int)) = true then
                          none
                        else
                          if decide (List.length (List.drop (cutN (l10_0R m (m + 24) x1 x2 ((samplesG x0)) ((samplesG x0)) ((((List.length (samplesG x0)) : Nat) : Int)) 0 ((addG ([] : List (Int × Int)) (samplesG x0)).2) (([] : List (Int × Int)))).2.2 (withinI x1 (0) (260))) (l10_0R m (m + 24) x1 x2 ((samplesG x0)) ((samplesG x0)) ((((List.length (samplesG x0)) : Nat) : Int)) 0 ((addG ([] : List (Int × Int)) (samplesG x0)).2) (([] : List (Int × Int)))).2.2) ≤ 1000000) = true then
                            if decide (List.length (List.drop (cutN (l10_0R m (m + 24) x1 x2 ((samplesG x0)) ((samplesG x0)) ((((List.length (samplesG x0)) : Nat) : Int)) 0 ((addG ([] : List (Int × Int)) (samplesG x0)).2) (([] : List (Int × Int)))).2.2 (withinI x1 (0) (260))) (l10_0R m (m + 24) x1 x2 ((samplesG x0)) ((samplesG x0)) ((((List.length (samplesG x0)) : Nat) : Int)) 0 ((addG ([] : List (Int × Int)) (samplesG x0)).2) (([] : List (Int × Int)))).2.2) < 4611686018427387904) = true then
                              if ((show List (Int × Int) from (List.drop (cutN (l10_0R m (m + 24) x1 x2 ((samplesG x0)) ((samplesG x0)) ((((List.length (samplesG x0)) : Nat) : Int)) 0 ((addG ([] : List (Int × Int)) (samplesG x0)).2) (([] : List (Int × Int)))).2.2 (withinI x1 (0) (260))) (l10_0R m (m + 24) x1 x2 ((samplesG x0)) ((samplesG x0)) ((((List.length (samplesG x0)) : Nat) : Int)) 0 ((addG ([] : List (Int × Int)) (samplesG x0)).2) (([] : List (Int × Int)))).2.2)) == (betG ((addG ([] : List (Int × Int)) (samplesG x0)).2) (withinI x1 (0) (260)) (1099511627776))) = true then
                                if decide ((((List.length ((samplesG x0))) : Nat) : Int) > 0) = true then
                                  if ((decide (0 ≤ (IntKind.wrap .i64 ((((List.length ((samplesG x0))) : Nat) : Int) - (1)))) && decide ((IntKind.wrap .i64 ((((List.length ((samplesG x0))) : Nat) : Int) - (1))) ≤ 2305843009213693951)) && decide (((IntKind.wrap .i64 ((((List.length ((samplesG x0))) : Nat) : Int) - (1))) - (0)) ≤ 2305843009213693951)) = true then
                                    if decide (0 ≤ (withinI x2 (0) (IntKind.wrap .i64 ((((List.length ((samplesG x0))) : Nat) : Int) - (1))))) = true then
                                      if decide ((withinI x2 (0) (IntKind.wrap .i64 ((((List.length ((samplesG x0))) : Nat) : Int) - (1)))) < (((List.length ((samplesG x0))) : Nat) : Int)) = true then
                                        if decide (0 ≤ (IntKind.wrap .i64 ((((List.length ((samplesG x0))) : Nat) : Int) - (1)))) = true then
                                          if decide ((IntKind.wrap .i64 ((((List.length ((samplesG x0))) : Nat) : Int) - (1))) < (((List.length ((samplesG x0))) : Nat) : Int)) = true then
                                            if decide (List.length ((addG ([] : List (Int × Int)) (samplesG x0)).2) ≤ 200 ∧ List.length [((IntKind.wrap .i64 ((List.getD ((samplesG x0)) (Int.toNat (IntKind.wrap .i64 ((((List.length ((samplesG x0))) : Nat) : Int) - (1)))) (0, 0)).1 + (1))), (0)), ((IntKind.wrap .i64 ((List.getD ((samplesG x0)) (Int.toNat (IntKind.wrap .i64 ((((List.length ((samplesG x0))) : Nat) : Int) - (1)))) (0, 0)).1 + (2))), (0)), (List.getD ((samplesG x0)) (Int.toNat (withinI x2 (0) (IntKind.wrap .i64 ((((List.length ((samplesG x0))) : Nat) : Int) - (1))))) (0, 0))] < 4611686018427387904) = true then
                                              if ((addG ((addG ([] : List (Int × Int)) (samplesG x0)).2) [((IntKind.wrap .i64 ((List.getD ((samplesG x0)) (Int.toNat (IntKind.wrap .i64 ((((List.length ((samplesG x0))) : Nat) : Int) - (1)))) (0, 0)).1 + (1))), (0)), ((IntKind.wrap .i64 ((List.getD ((samplesG x0)) (Int.toNat (IntKind.wrap .i64 ((((List.length ((samplesG x0))) : Nat) : Int) - (1)))) (0, 0)).1 + (2))), (0)), (List.getD ((samplesG x0)) (Int.toNat (withinI x2 (0) (IntKind.wrap .i64 ((((List.length ((samplesG x0))) : Nat) : Int) - (1))))) (0, 0))]).1 != (2)) = true then
                                                none
                                              else
                                                if decide (List.length (addG ((addG ([] : List (Int × Int)) (samplesG x0)).2) [((IntKind.wrap .i64 ((List.getD ((samplesG x0)) (Int.toNat (IntKind.wrap .i64 ((((List.length ((samplesG x0))) : Nat) : Int) - (1)))) (0, 0)).1 + (1))), (0)), ((IntKind.wrap .i64 ((List.getD ((samplesG x0)) (Int.toNat (IntKind.wrap .i64 ((((List.length ((samplesG x0))) : Nat) : Int) - (1)))) (0, 0)).1 + (2))), (0)), (List.getD ((samplesG x0)) (Int.toNat (withinI x2 (0) (IntKind.wrap .i64 ((((List.length ((samplesG x0))) : Nat) : Int) - (1))))) (0, 0))]).2 ≤ 1000000) = true then
                                                  if decide (List.length (addG ((addG ([] : List (Int × Int)) (samplesG x0)).2) [((IntKind.wrap .i64 ((List.getD ((samplesG x0)) (Int.toNat (IntKind.wrap .i64 ((((List.length ((samplesG x0))) : Nat) : Int) - (1)))) (0, 0)).1 + (1))), (0)), ((IntKind.wrap .i64 ((List.getD ((samplesG x0)) (Int.toNat (IntKind.wrap .i64 ((((List.length ((samplesG x0))) : Nat) : Int) - (1)))) (0, 0)).1 + (2))), (0)), (List.getD ((samplesG x0)) (Int.toNat (withinI x2 (0) (IntKind.wrap .i64 ((((List.length ((samplesG x0))) : Nat) : Int) - (1))))) (0, 0))]).2 < 4611686018427387904) = true then
                                                    if ((show List (Int × Int) from (addG ((addG ([] : List (Int × Int)) (samplesG x0)).2) [((IntKind.wrap .i64 ((List.getD ((samplesG x0)) (Int.toNat (IntKind.wrap .i64 ((((List.length ((samplesG x0))) : Nat) : Int) - (1)))) (0, 0)).1 + (1))), (0)), ((IntKind.wrap .i64 ((List.getD ((samplesG x0)) (Int.toNat (IntKind.wrap .i64 ((((List.length ((samplesG x0))) : Nat) : Int) - (1)))) (0, 0)).1 + (2))), (0)), (List.getD ((samplesG x0)) (Int.toNat (withinI x2 (0) (IntKind.wrap .i64 ((((List.length ((samplesG x0))) : Nat) : Int) - (1))))) (0, 0))]).2) == ((samplesG x0))) = true then
                                                      if decide (List.length (addG ((addG ([] : List (Int × Int)) (samplesG x0)).2) [((IntKind.wrap .i64 ((List.getD ((samplesG x0)) (Int.toNat (IntKind.wrap .i64 ((((List.length ((samplesG x0))) : Nat) : Int) - (1)))) (0, 0)).1 + (1))), (0)), ((IntKind.wrap .i64 ((List.getD ((samplesG x0)) (Int.toNat (IntKind.wrap .i64 ((((List.length ((samplesG x0))) : Nat) : Int) - (1)))) (0, 0)).1 + (2))), (0)), (List.getD ((samplesG x0)) (Int.toNat (withinI x2 (0) (IntKind.wrap .i64 ((((List.length ((samplesG x0))) : Nat) : Int) - (1))))) (0, 0))]).2 ≤ 200 ∧ List.length ([] : List (Int × Int)) < 4611686018427387904) = true then
                                                        if ((addG (addG ((addG ([] : List (Int × Int)) (samplesG x0)).2) [((IntKind.wrap .i64 ((List.getD ((samplesG x0)) (Int.toNat (IntKind.wrap .i64 ((((List.length ((samplesG x0))) : Nat) : Int) - (1)))) (0, 0)).1 + (1))), (0)), ((IntKind.wrap .i64 ((List.getD ((samplesG x0)) (Int.toNat (IntKind.wrap .i64 ((((List.length ((samplesG x0))) : Nat) : Int) - (1)))) (0, 0)).1 + (2))), (0)), (List.getD ((samplesG x0)) (Int.toNat (withinI x2 (0) (IntKind.wrap .i64 ((((List.length ((samplesG x0))) : Nat) : Int) - (1))))) (0, 0))]).2 ([] : List (Int × Int))).1 == (0)) = true then
                                                          if decide (List.length (addG (addG ((addG ([] : List (Int × Int)) (samplesG x0)).2) [((IntKind.wrap .i64 ((List.getD ((samplesG x0)) (Int.toNat (IntKind.wrap .i64 ((((List.length ((samplesG x0))) : Nat) : Int) - (1)))) (0, 0)).1 + (1))), (0)), ((IntKind.wrap .i64 ((List.getD ((samplesG x0)) (Int.toNat (IntKind.wrap .i64 ((((List.length ((samplesG x0))) : Nat) : Int) - (1)))) (0, 0)).1 + (2))), (0)), (List.getD ((samplesG x0)) (Int.toNat (withinI x2 (0) (IntKind.wrap .i64 ((((List.length ((samplesG x0))) : Nat) : Int) - (1))))) (0, 0))]).2 ([] : List (Int × Int))).2 ≤ 1000000) = true then
                                                            if decide (List.length (addG (addG ((addG ([] : List (Int × Int)) (samplesG x0)).2) [((IntKind.wrap .i64 ((List.getD ((samplesG x0)) (Int.toNat (IntKind.wrap .i64 ((((List.length ((samplesG x0))) : Nat) : Int) - (1)))) (0, 0)).1 + (1))), (0)), ((IntKind.wrap .i64 ((List.getD ((samplesG x0)) (Int.toNat (IntKind.wrap .i64 ((((List.length ((samplesG x0))) : Nat) : Int) - (1)))) (0, 0)).1 + (2))), (0)), (List.getD ((samplesG x0)) (Int.toNat (withinI x2 (0) (IntKind.wrap .i64 ((((List.length ((samplesG x0))) : Nat) : Int) - (1))))) (0, 0))]).2 ([] : List (Int × Int))).2 < 4611686018427387904) = true then
                                                              if ((show List (Int × Int) from (addG (addG ((addG ([] : List (Int × Int)) (samplesG x0)).2) [((IntKind.wrap .i64 ((List.getD ((samplesG x0)) (Int.toNat (IntKind.wrap .i64 ((((List.length ((samplesG x0))) : Nat) : Int) - (1)))) (0, 0)).1 + (1))), (0)), ((IntKind.wrap .i64 ((List.getD ((samplesG x0)) (Int.toNat (IntKind.wrap .i64 ((((List.length ((samplesG x0))) : Nat) : Int) - (1)))) (0, 0)).1 + (2))), (0)), (List.getD ((samplesG x0)) (Int.toNat (withinI x2 (0) (IntKind.wrap .i64 ((((List.length ((samplesG x0))) : Nat) : Int) - (1))))) (0, 0))]).2 ([] : List (Int × Int))).2) == ((samplesG x0))) = true then
                                                                some ()
                                                              else
                                                                none
                                                            else
                                                              none
                                                          else
                                                            none
                                                        else
                                                          none
                                                      else
                                                        none
                                                    else
                                                      none
                                                  else
                                                    none
                                                else
                                                  none
                                            else
                                              none
                                          else
                                            none
                                        else
                                          none
                                      else
                                        none
                                    else
                                      none
                                  else
                                    none
                                else
                                  if decide (List.length ((addG ([] : List (Int × Int)) (samplesG x0)).2) ≤ 200 ∧ List.length ([] : List (Int × Int)) < 4611686018427387904) = true then
                                    if ((addG ((addG ([] : List (Int × Int)) (samplesG x0)).2) ([] : List (Int × Int))).1 == (0)) = true then
                                      if decide (List.length (addG ((addG ([] : List (Int × Int)) (samplesG x0)).2) ([] : List (Int × Int))).2 ≤ 1000000) = true then
                                        if decide (List.length (addG ((addG ([] : List (Int × Int)) (samplesG x0)).2) ([] : List (Int × Int))).2 < 4611686018427387904) = true then
                                          if ((show List (Int × Int) from (addG ((addG ([] : List (Int × Int)) (samplesG x0)).2) ([] : List (Int × Int))).2) == ((samplesG x0))) = true then
                                            some ()
                                          else
                                            none
                                        else
                                          none
                                      else
                                        none
                                    else
                                      none
                                  else
                                    none
                              else
                                none
                            else
                              none
                          else
                            none
                      else
                        none
                    else
                      none
                  else
                    none
                else
                  none
              else
                none
            else
              none
          else
            none
        else
          none
      else
        none
  else
    none
set_option maxHeartbeats 20000000 in
theorem parts_ok (m : Nat) (x0 : List Int) (x1 : Int) (x2 : Int) (q : Unit) (h : parts m x0 x1 x2 = some q) : (evCall F S11 (m + 25) 10 [(.d (.sl (.int .i64) x0)), (.d (.int .i64 x1)), (.d (.int .i64 x2))] []).run = some (.d (.bool true), []) := by
  unfold parts at h
  refine ite_cases h (fun c1 h => ?_) (fun c1 h => ?_)
  · skip
    refine ite_cases h (fun c2 h => ?_) (fun c2 h => ?_)
    · skip
      cases h
    · skip
      refine ite_cases h (fun c3 h => ?_) (fun c3 h => ?_)
      · skip
        refine ite_cases h (fun c5 h => ?_) (fun c5 h => ?_)
        · skip
          refine ite_cases h (fun c7 h => ?_) (fun c7 h => ?_)
          · skip
            refine ite_cases h (fun c9 h => ?_) (fun c9 h => ?_)
            · skip
              refine ite_cases h (fun c10 h => ?_) (fun c10 h => ?_)
              · skip
                refine ite_cases h (fun c11 h => ?_) (fun c11 h => ?_)
                · skip
                  refine ite_cases h (fun c12 h => ?_) (fun c12 h => ?_)
                  · skip
                    refine ite_cases h (fun c13 h => ?_) (fun c13 h => ?_)
                    · skip
                      refine ite_cases h (fun c15 h => ?_) (fun c15 h => ?_)
                      · skip
                        refine ite_cases h (fun c20 h => ?_) (fun c20 h => ?_)
                        · skip
                          cases h
                        · skip
                          refine ite_cases h (fun c21 h => ?_) (fun c21 h => ?_)
                          · skip
                            refine ite_cases h (fun c24 h => ?_) (fun c24 h => ?_)
                            · skip
                              refine ite_cases h (fun c27 h => ?_) (fun c27 h => ?_)
                              · skip
                                refine ite_cases h (fun c28 h => ?_) (fun c28 h => ?_)
                                · skip
                                  refine ite_cases h (fun c29 h => ?_) (fun c29 h => ?_)
                                  · skip
                                    refine ite_cases h (fun c30 h => ?_) (fun c30 h => ?_)
                                    · skip
                                      refine ite_cases h (fun c31 h => ?_) (fun c31 h => ?_)
                                      · skip
                                        refine ite_cases h (fun c32 h => ?_) (fun c32 h => ?_)
                                        · skip
                                          refine ite_cases h (fun c33 h => ?_) (fun c33 h => ?_)
                                          · skip
                                            refine ite_cases h (fun c35 h => ?_) (fun c35 h => ?_)
                                            · skip
                                              refine ite_cases h (fun c36 h => ?_) (fun c36 h => ?_)
                                              · skip
                                                cases h
                                              · skip
                                                refine ite_cases h (fun c37 h => ?_) (fun c37 h => ?_)
                                                · skip
                                                  refine ite_cases h (fun c40 h => ?_) (fun c40 h => ?_)
                                                  · skip
                                                    refine ite_cases h (fun c43 h => ?_) (fun c43 h => ?_)
                                                    · skip
                                                      refine ite_cases h (fun c44 h => ?_) (fun c44 h => ?_)
                                                      · skip
                                                        refine ite_cases h (fun c45 h => ?_) (fun c45 h => ?_)
                                                        · skip
                                                          refine ite_cases h (fun c46 h => ?_) (fun c46 h => ?_)
                                                          · skip
                                                            refine ite_cases h (fun c49 h => ?_) (fun c49 h => ?_)
                                                            · skip
                                                              refine ite_cases h (fun c51 h => ?_) (fun c51 h => ?_)
                                                              · skip
                                                                cases h
                                                                refine runT_ok (LS := (fun k => if k = 29361030 then some (l10_0E x1 x2 (((samplesG x0))) (((samplesG x0))) (((((List.length (samplesG x0)) : Nat) : Int))) ((l10_0R m (m + 24) x1 x2 ((samplesG x0)) ((samplesG x0)) ((((List.length (samplesG x0)) : Nat) : Int)) 0 ((addG ([] : List (Int × Int)) (samplesG x0)).2) (([] : List (Int × Int)))).2.1) (((addG ([] : List (Int × Int)) (samplesG x0)).2)) ((l10_0R m (m + 24) x1 x2 ((samplesG x0)) ((samplesG x0)) ((((List.length (samplesG x0)) : Nat) : Int)) 0 ((addG ([] : List (Int × Int)) (samplesG x0)).2) (([] : List (Int × Int)))).2.2) 0) else none)) (fn := fn10) (r := .d (.bool true)) (B' := []) (vis := [(29361030, l10_0H x1 x2 ((samplesG x0)) ((samplesG x0)) ((((List.length (samplesG x0)) : Nat) : Int)) 0 ((addG ([] : List (Int × Int)) (samplesG x0)).2) (([] : List (Int × Int))), l10_0B x1 x2 ((samplesG x0)) ((samplesG x0)) ((((List.length (samplesG x0)) : Nat) : Int)) 0 ((addG ([] : List (Int × Int)) (samplesG x0)).2) (([] : List (Int × Int))))]) (by kernel_rfl) rfl (by kernel_rfl) (M.run_of_path _ [true, true, false, true, true, true, true, true, true, true, true, true, false, false, true, false, false, false, false, false, true, false, false, true, false, false, false, true, true, true, true, true, true, true, true, false, true, false, false, true, false, false, false, true, true, true, true, true, true, true, true, true] _ _ (by kernel_rfl) (all_t rfl (all_t c1 (all_f c2 (all_t rfl (all_t c5 (all_t c5 (all_t c7 (all_t rfl (all_t c9 (all_t c10 (all_t c11 (all_t c12 (all_nt c13 (all_nt c13 (all_t c15 (all_nt c13 (all_nt c13 (all_nt c13 (all_nt c13 (all_f c20 (all_t c21 (all_f c20 (all_f c20 (all_t c24 (all_f c20 (all_f c20 (all_nt c27 (all_t c28 (all_t c29 (all_t c30 (all_t c31 (all_t c32 (all_t c33 (all_t rfl (all_t c35 (all_f c36 (all_t c37 (all_f c36 (all_f c36 (all_t c40 (all_f c36 (all_f c36 (all_nt c43 (all_t c44 (all_t c45 (all_t c46 (all_t c45 (all_t c45 (all_t c49 (all_t c45 (all_t c51 (all_t c51 all_nil))))))))))))))))))))))))))))))))))))))))))))))))))))) ?_
                                                                intro p hp p2 hq
                                                                rcases List.mem_cons.1 hp with rfl | hp
                                                                · skip
                                                                  have h3 := l10_0_ok m (m + 24) x1 x2 ((samplesG x0)) ((samplesG x0)) ((((List.length (samplesG x0)) : Nat) : Int)) 0 ((addG ([] : List (Int × Int)) (samplesG x0)).2) (([] : List (Int × Int))) _ (some_getD (d := l10_0D) c3)
                                                                  exact Eq.trans (Eq.mp (by kernel_rfl) h3) hq
                                                                cases hp
                                                              · skip
                                                                cases h
                                                            · skip
                                                              cases h
                                                          · skip
                                                            cases h
                                                        · skip
                                                          cases h
                                                      · skip
                                                        cases h
                                                    · skip
                                                      cases h
                                                  · skip
                                                    cases h
                                                · skip
                                                  cases h
                                            · skip
                                              cases h
                                          · skip
                                            cases h
                                        · skip
                                          cases h
                                      · skip
                                        cases h
                                    · skip
                                      cases h
                                  · skip
                                    cases h
                                · skip
                                  refine ite_cases h (fun c29 h => ?_) (fun c29 h => ?_)
                                  · skip
                                    refine ite_cases h (fun c30 h => ?_) (fun c30 h => ?_)
                                    · skip
                                      refine ite_cases h (fun c31 h => ?_) (fun c31 h => ?_)
                                      · skip
                                        refine ite_cases h (fun c34 h => ?_) (fun c34 h => ?_)
                                        · skip
                                          refine ite_cases h (fun c36 h => ?_) (fun c36 h => ?_)
                                          · skip
                                            cases h
                                            refine runT_ok (LS := (fun k => if k = 29361030 then some (l10_0E x1 x2 (((samplesG x0))) (((samplesG x0))) (((((List.length (samplesG x0)) : Nat) : Int))) ((l10_0R m (m + 24) x1 x2 ((samplesG x0)) ((samplesG x0)) ((((List.length (samplesG x0)) : Nat) : Int)) 0 ((addG ([] : List (Int × Int)) (samplesG x0)).2) (([] : List (Int × Int)))).2.1) (((addG ([] : List (Int × Int)) (samplesG x0)).2)) ((l10_0R m (m + 24) x1 x2 ((samplesG x0)) ((samplesG x0)) ((((List.length (samplesG x0)) : Nat) : Int)) 0 ((addG ([] : List (Int × Int)) (samplesG x0)).2) (([] : List (Int × Int)))).2.2) 0) else none)) (fn := fn10) (r := .d (.bool true)) (B' := []) (vis := [(29361030, l10_0H x1 x2 ((samplesG x0)) ((samplesG x0)) ((((List.length (samplesG x0)) : Nat) : Int)) 0 ((addG ([] : List (Int × Int)) (samplesG x0)).2) (([] : List (Int × Int))), l10_0B x1 x2 ((samplesG x0)) ((samplesG x0)) ((((List.length (samplesG x0)) : Nat) : Int)) 0 ((addG ([] : List (Int × Int)) (samplesG x0)).2) (([] : List (Int × Int))))]) (by kernel_rfl) rfl (by kernel_rfl) (M.run_of_path _ [true, true, false, true, true, true, true, true, true, true, true, true, false, false, true, false, false, false, false, false, true, false, false, true, false, false, false, false, true, true, true, true, true, true, true, true, true] _ _ (by kernel_rfl) (all_t rfl (all_t c1 (all_f c2 (all_t rfl (all_t c5 (all_t c5 (all_t c7 (all_t rfl (all_t c9 (all_t c10 (all_t c11 (all_t c12 (all_nt c13 (all_nt c13 (all_t c15 (all_nt c13 (all_nt c13 (all_nt c13 (all_nt c13 (all_f c20 (all_t c21 (all_f c20 (all_f c20 (all_t c24 (all_f c20 (all_f c20 (all_nt c27 (all_f c28 (all_t c29 (all_t c30 (all_t c31 (all_t c30 (all_t c30 (all_t c34 (all_t c30 (all_t c36 (all_t c36 all_nil)))))))))))))))))))))))))))))))))))))) ?_
                                            intro p hp p2 hq
                                            rcases List.mem_cons.1 hp with rfl | hp
                                            · skip
                                              have h3 := l10_0_ok m (m + 24) x1 x2 ((samplesG x0)) ((samplesG x0)) ((((List.length (samplesG x0)) : Nat) : Int)) 0 ((addG ([] : List (Int × Int)) (samplesG x0)).2) (([] : List (Int × Int))) _ (some_getD (d := l10_0D) c3)
                                              exact Eq.trans (Eq.mp (by kernel_rfl) h3) hq
                                            cases hp
                                          · skip
                                            cases h
                                        · skip
                                          cases h
                                      · skip
                                        cases h
                                    · skip
                                      cases h
                                  · skip
                                    cases h
                              · skip
                                cases h
                            · skip
                              cases h
                          · skip
                            cases h
                      · skip
                        cases h
                    · skip
                      cases h
                  · skip
                    cases h
                · skip
                  cases h
              · skip
                cases h
            · skip
              cases h
          · skip
            cases h
        · skip
          cases h
      · skip
        cases h
  · skip
    cases h
theorem parts_at (x0 : List Int) (x1 : Int) (x2 : Int) (h : ∃ m q, parts m x0 x1 x2 = some q) : ∃ g B', CallAt Try.prog 10 g ∧ (g [(.d (.sl (.int .i64) x0)), (.d (.int .i64 x1)), (.d (.int .i64 x2))] []).run = some (.d (.bool true), B') := by
  obtain ⟨m, q, h⟩ := h
  exact ⟨_, _, evCall_atH mixed kinds hds S11 S11_ok (m + 25) 10, parts_ok m x0 x1 x2 q h⟩

end Go.Proofs.Ytkppbflmlpabjab.Dec
