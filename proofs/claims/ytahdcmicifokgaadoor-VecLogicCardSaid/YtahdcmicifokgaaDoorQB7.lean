/- VecLogic, as a plain function. VecLogic: its plain law. -/
import Derived.Test.YtahdcmicifokgaaDoorQB6
import Derived.KernelRfl
namespace Go.Proofs.YtahdcmicifokgaaDoor.Dec
open Go.Ev
set_option linter.unusedVariables false
set_option linter.unusedSimpArgs false
set_option maxRecDepth 100000
set_option maxHeartbeats 20000000
noncomputable def fn7 : AFn := (F 7).getD ⟨0, [], .bad, false, false, noHd⟩
noncomputable def body7 : AC := fn7.body
def vlogic (m : Nat) (x0 : Q1) (x1 : Q1) (x2 : Int) : Option Unit :=
  if vPre (vecG x0) = true then
  if (twiceG (vecG x0)) = true then
    if twoPre (vecG x0) (vecG x1) = true then
    if ((logG (14) (vecG x0) (vecG x1)).2 == (5)) = true then
    if ((filtG (8) (vecG x0) (vecG x1)).2 == (5)) = true then
    some ()
    else none
    else none
    else none
  else
    if vPre (vecG x1) = true then
    if (twiceG (vecG x1)) = true then
      if twoPre (vecG x0) (vecG x1) = true then
      if ((logG (14) (vecG x0) (vecG x1)).2 == (5)) = true then
      if ((filtG (8) (vecG x0) (vecG x1)).2 == (5)) = true then
      some ()
      else none
      else none
      else none
    else
      if twoPre (vecG x0) (vecG x1) = true then
      if twoPre (vecG x1) (vecG x0) = true then
      if twoPre (vecG x0) (vecG x0) = true then
      if ((logG (14) (vecG x0) (vecG x1)).2 != (0)) = true then
        none
      else
        if ((logG (16) (vecG x0) (vecG x1)).2 != (0)) = true then
          none
        else
          if ((logG (15) (vecG x0) (vecG x1)).2 != (0)) = true then
            none
          else
            if ((logG (16) (vecG x1) (vecG x0)).2 != (0)) = true then
              none
            else
              if ((logG (14) (vecG x0) (vecG x0)).2 != (0)) = true then
                none
              else
                if sortPre (vecG x0) = true then
                if ptsPre (logG (14) (vecG x0) (vecG x0)).1 = true then
                if ((show List (List (Q4 × Q4) × Int) from (logG (14) (vecG x0) (vecG x0)).1) == (sortG (vecG x0))) = true then
                if vPre (logG (15) (vecG x0) (vecG x1)).1 = true then
                if (twiceG (logG (15) (vecG x0) (vecG x1)).1) = true then
                  none
                else
                  if decide (((0 + (List.length (logG (14) (vecG x0) (vecG x1)).1)) * 32) ≤ 70368744177664) = true then
                  if decide ((((0 + (List.length (logG (14) (vecG x0) (vecG x1)).1)) + (List.length (logG (16) (vecG x0) (vecG x1)).1)) * 32) ≤ 70368744177664) = true then
                  if decide ((0 + (List.length (logG (14) (vecG x0) (vecG x1)).1)) = (List.length (logG (14) (vecG x0) (vecG x1)).1)) = true then
                  if decide ((0 + ((0 + (List.length (logG (14) (vecG x0) (vecG x1)).1)) + (List.length (logG (16) (vecG x0) (vecG x1)).1))) ≤ (List.length ((logG (14) (vecG x0) (vecG x1)).1 ++ (logG (16) (vecG x0) (vecG x1)).1))) = true then
                  if sortPre (List.take ((0 + (List.length (logG (14) (vecG x0) (vecG x1)).1)) + (List.length (logG (16) (vecG x0) (vecG x1)).1)) (List.drop 0 ((logG (14) (vecG x0) (vecG x1)).1 ++ (logG (16) (vecG x0) (vecG x1)).1))) = true then
                  if ptsPre (sortG (List.take ((0 + (List.length (logG (14) (vecG x0) (vecG x1)).1)) + (List.length (logG (16) (vecG x0) (vecG x1)).1)) (List.drop 0 ((logG (14) (vecG x0) (vecG x1)).1 ++ (logG (16) (vecG x0) (vecG x1)).1)))) = true then
                  if ((show List (List (Q4 × Q4) × Int) from (sortG (List.take ((0 + (List.length (logG (14) (vecG x0) (vecG x1)).1)) + (List.length (logG (16) (vecG x0) (vecG x1)).1)) (List.drop 0 ((logG (14) (vecG x0) (vecG x1)).1 ++ (logG (16) (vecG x0) (vecG x1)).1))))) == (sortG (vecG x0))) = true then
                  if decide (((0 + (List.length (vecG x0))) * 32) ≤ 70368744177664) = true then
                  if decide ((((0 + (List.length (vecG x0))) + (List.length (logG (16) (vecG x1) (vecG x0)).1)) * 32) ≤ 70368744177664) = true then
                  if decide ((0 + (List.length (vecG x0))) = (List.length (vecG x0))) = true then
                  if decide ((0 + ((0 + (List.length (vecG x0))) + (List.length (logG (16) (vecG x1) (vecG x0)).1))) ≤ (List.length ((vecG x0) ++ (logG (16) (vecG x1) (vecG x0)).1))) = true then
                  if sortPre (List.take ((0 + (List.length (vecG x0))) + (List.length (logG (16) (vecG x1) (vecG x0)).1)) (List.drop 0 ((vecG x0) ++ (logG (16) (vecG x1) (vecG x0)).1))) = true then
                  if ptsPre (sortG (List.take ((0 + (List.length (vecG x0))) + (List.length (logG (16) (vecG x1) (vecG x0)).1)) (List.drop 0 ((vecG x0) ++ (logG (16) (vecG x1) (vecG x0)).1)))) = true then
                  if ((show List (List (Q4 × Q4) × Int) from (sortG (List.take ((0 + (List.length (vecG x0))) + (List.length (logG (16) (vecG x1) (vecG x0)).1)) (List.drop 0 ((vecG x0) ++ (logG (16) (vecG x1) (vecG x0)).1))))) == (logG (15) (vecG x0) (vecG x1)).1) = true then
                  if decide (((0 + (List.length (aboveG (10) (vecG x0) x2))) * 32) ≤ 70368744177664) = true then
                  if decide ((((0 + (List.length (aboveG (10) (vecG x0) x2))) + (List.length (aboveG (13) (vecG x0) x2))) * 32) ≤ 70368744177664) = true then
                  if decide ((0 + (List.length (aboveG (10) (vecG x0) x2))) = (List.length (aboveG (10) (vecG x0) x2))) = true then
                  if decide ((0 + ((0 + (List.length (aboveG (10) (vecG x0) x2))) + (List.length (aboveG (13) (vecG x0) x2)))) ≤ (List.length ((aboveG (10) (vecG x0) x2) ++ (aboveG (13) (vecG x0) x2)))) = true then
                  if sortPre (List.take ((0 + (List.length (aboveG (10) (vecG x0) x2))) + (List.length (aboveG (13) (vecG x0) x2))) (List.drop 0 ((aboveG (10) (vecG x0) x2) ++ (aboveG (13) (vecG x0) x2)))) = true then
                  if ptsPre (sortG (List.take ((0 + (List.length (aboveG (10) (vecG x0) x2))) + (List.length (aboveG (13) (vecG x0) x2))) (List.drop 0 ((aboveG (10) (vecG x0) x2) ++ (aboveG (13) (vecG x0) x2))))) = true then
                  if ((show List (List (Q4 × Q4) × Int) from (sortG (List.take ((0 + (List.length (aboveG (10) (vecG x0) x2))) + (List.length (aboveG (13) (vecG x0) x2))) (List.drop 0 ((aboveG (10) (vecG x0) x2) ++ (aboveG (13) (vecG x0) x2)))))) == (sortG (vecG x0))) = true then
                  if decide (((0 + (List.length (aboveG (8) (vecG x0) x2))) * 32) ≤ 70368744177664) = true then
                  if decide ((((0 + (List.length (aboveG (8) (vecG x0) x2))) + (List.length (aboveG (9) (vecG x0) x2))) * 32) ≤ 70368744177664) = true then
                  if decide ((0 + (List.length (aboveG (8) (vecG x0) x2))) = (List.length (aboveG (8) (vecG x0) x2))) = true then
                  if decide ((0 + ((0 + (List.length (aboveG (8) (vecG x0) x2))) + (List.length (aboveG (9) (vecG x0) x2)))) ≤ (List.length ((aboveG (8) (vecG x0) x2) ++ (aboveG (9) (vecG x0) x2)))) = true then
                  if sortPre (List.take ((0 + (List.length (aboveG (8) (vecG x0) x2))) + (List.length (aboveG (9) (vecG x0) x2))) (List.drop 0 ((aboveG (8) (vecG x0) x2) ++ (aboveG (9) (vecG x0) x2)))) = true then
                  if ptsPre (sortG (List.take ((0 + (List.length (aboveG (8) (vecG x0) x2))) + (List.length (aboveG (9) (vecG x0) x2))) (List.drop 0 ((aboveG (8) (vecG x0) x2) ++ (aboveG (9) (vecG x0) x2))))) = true then
                  if ((show List (List (Q4 × Q4) × Int) from (sortG (List.take ((0 + (List.length (aboveG (8) (vecG x0) x2))) + (List.length (aboveG (9) (vecG x0) x2))) (List.drop 0 ((aboveG (8) (vecG x0) x2) ++ (aboveG (9) (vecG x0) x2)))))) == (sortG (vecG x0))) = true then
                  if ((((List.length (aboveG (11) (vecG x0) x2)) : Nat) : Int) == (IntKind.wrap .i64 ((((List.length (aboveG (10) (vecG x0) x2)) : Nat) : Int) + (((List.length (aboveG (8) (vecG x0) x2)) : Nat) : Int)))) = true then
                  if ((((List.length (aboveG (12) (vecG x0) x2)) : Nat) : Int) == (IntKind.wrap .i64 ((((List.length (aboveG (13) (vecG x0) x2)) : Nat) : Int) - (((List.length (aboveG (8) (vecG x0) x2)) : Nat) : Int)))) = true then
                  some ()
                  else none
                  else none
                  else none
                  else none
                  else none
                  else none
                  else none
                  else none
                  else none
                  else none
                  else none
                  else none
                  else none
                  else none
                  else none
                  else none
                  else none
                  else none
                  else none
                  else none
                  else none
                  else none
                  else none
                  else none
                  else none
                  else none
                  else none
                  else none
                  else none
                  else none
                else none
                else none
                else none
                else none
      else none
      else none
      else none
    else none
  else none

theorem vlogic_ok (m : Nat) (x0 : Q1) (x1 : Q1) (x2 : Int) (q : Unit) (h : vlogic m x0 x1 x2 = some q) : (evCall F S33 (m + 25) 7 [(.agg [(.d (.sl (.pair (.sl (.int .i64)) (.sl (.int .i64))) x0.1)), (.d (.sl (.int .i64) x0.2))]), (.agg [(.d (.sl (.pair (.sl (.int .i64)) (.sl (.int .i64))) x1.1)), (.d (.sl (.int .i64) x1.2))]), (.d (.int .i64 x2))] []).run = some (.d (.bool true), []) := by
  unfold vlogic at h
  obtain ⟨c2, h⟩ := iY h
  refine ite_cases h (fun c3 h => ?_) (fun c3 h => ?_)
  · skip
    obtain ⟨c7, h⟩ := iY h
    obtain ⟨c9, h⟩ := iY h
    obtain ⟨c12, h⟩ := iY h
    cases h
    refine runT_ok (LS := (fun k => none)) (fn := fn7) (r := .d (.bool true)) (B' := []) (vis := []) (by kernel_rfl) rfl (by kernel_rfl) (M.run_of_path _ [tT, tT, tT, tT, tT, tT, tT, tT, tT, tT, tT, tT, tT, tT] _ _ (by kernel_rfl) (all_t rfl (all_t rfl (all_t c2 (all_t c3 (all_t c3 (all_t c3 (all_t rfl (all_t c7 (all_t c7 (all_t c9 (all_t c9 (all_t c9 (all_t c12 (all_t c12 all_nil))))))))))))))) ?_
    intro p hp; cases hp
  · skip
    obtain ⟨c5, h⟩ := iY h
    refine ite_cases h (fun c7 h => ?_) (fun c7 h => ?_)
    · skip
      obtain ⟨c8, h⟩ := iY h
      obtain ⟨c10, h⟩ := iY h
      obtain ⟨c13, h⟩ := iY h
      cases h
      refine runT_ok (LS := (fun k => none)) (fn := fn7) (r := .d (.bool true)) (B' := []) (vis := []) (by kernel_rfl) rfl (by kernel_rfl) (M.run_of_path _ [tT, tT, tT, fF, fF, tT, fF, tT, tT, tT, tT, tT, tT, tT, tT] _ _ (by kernel_rfl) (all_t rfl (all_t rfl (all_t c2 (all_f c3 (all_f c3 (all_t c5 (all_f c3 (all_t c7 (all_t c8 (all_t c8 (all_t c10 (all_t c10 (all_t c10 (all_t c13 (all_t c13 all_nil)))))))))))))))) ?_
      intro p hp; cases hp
    · skip
      obtain ⟨c8, h⟩ := iY h
      obtain ⟨c11, h⟩ := iY h
      obtain ⟨c12, h⟩ := iY h
      refine ite_cases h (fun _ h => by cases h) (fun c13 h => ?_)
      refine ite_cases h (fun _ h => by cases h) (fun c16 h => ?_)
      refine ite_cases h (fun _ h => by cases h) (fun c19 h => ?_)
      refine ite_cases h (fun _ h => by cases h) (fun c22 h => ?_)
      refine ite_cases h (fun _ h => by cases h) (fun c25 h => ?_)
      obtain ⟨c28, h⟩ := iY h
      obtain ⟨c30, h⟩ := iY h
      obtain ⟨c33, h⟩ := iY h
      obtain ⟨c35, h⟩ := iY h
      refine ite_cases h (fun _ h => by cases h) (fun c37 h => ?_)
      obtain ⟨c38, h⟩ := iY h
      obtain ⟨c40, h⟩ := iY h
      obtain ⟨c41, h⟩ := iY h
      obtain ⟨c42, h⟩ := iY h
      obtain ⟨c43, h⟩ := iY h
      obtain ⟨c45, h⟩ := iY h
      obtain ⟨c46, h⟩ := iY h
      obtain ⟨c49, h⟩ := iY h
      obtain ⟨c53, h⟩ := iY h
      obtain ⟨c54, h⟩ := iY h
      obtain ⟨c56, h⟩ := iY h
      obtain ⟨c57, h⟩ := iY h
      obtain ⟨c60, h⟩ := iY h
      obtain ⟨c63, h⟩ := iY h
      obtain ⟨c68, h⟩ := iY h
      obtain ⟨c70, h⟩ := iY h
      obtain ⟨c71, h⟩ := iY h
      obtain ⟨c72, h⟩ := iY h
      obtain ⟨c73, h⟩ := iY h
      obtain ⟨c75, h⟩ := iY h
      obtain ⟨c76, h⟩ := iY h
      obtain ⟨c79, h⟩ := iY h
      obtain ⟨c83, h⟩ := iY h
      obtain ⟨c84, h⟩ := iY h
      obtain ⟨c86, h⟩ := iY h
      obtain ⟨c87, h⟩ := iY h
      obtain ⟨c92, h⟩ := iY h
      obtain ⟨c94, h⟩ := iY h
      obtain ⟨c106, h⟩ := iY h
      obtain ⟨c118, h⟩ := iY h
      cases h
      refine runT_ok (LS := (fun k => none)) (fn := fn7) (r := .d (.bool true)) (B' := []) (vis := []) (by kernel_rfl) rfl (by kernel_rfl) (M.run_of_path _ [tT, tT, tT, fF, fF, tT, fF, fF, tT, tT, tT, tT, tT, fF, fF, fF, fF, fF, fF, fF, fF, fF, fF, fF, fF, fF, fF, fF, tT, fF, tT, fF, fF, fF, fF, tT, fF, fF, tT, tT, tT, tT, tT, tT, tT, tT, fF, fF, fF, tT, tT, fF, fF, tT, tT, fF, tT, tT, fF, fF, tT, fF, fF, fF, tT, tT, tT, tT, tT, tT, tT, tT, tT, tT, tT, tT, tT, tT, tT, tT, tT, tT, tT, tT, tT, tT, tT, tT, tT, tT, tT, tT, tT, tT, tT, tT, tT, tT, tT, tT, tT, tT, tT, tT, tT, tT, tT, tT, tT, tT, tT, tT, tT, tT, tT, tT, tT, tT, tT, tT] _ _ (by kernel_rfl) (all_t rfl (all_t rfl (all_t c2 (all_f c3 (all_f c3 (all_t c5 (all_f c3 (all_f c7 (all_t c8 (all_t c8 (all_t c8 (all_t c11 (all_t c12 (all_f c13 (all_f c13 (all_f c13 (all_f c16 (all_f c16 (all_f c16 (all_f c19 (all_f c19 (all_f c19 (all_f c22 (all_f c22 (all_f c22 (all_f c25 (all_f c25 (all_f c25 (all_t c28 (all_f c25 (all_t c30 (all_f c25 (all_f c25 (all_nt c33 (all_nt c33 (all_t c35 (all_nt c33 (all_f c37 (all_t c38 (all_t rfl (all_t c40 (all_t c41 (all_t c42 (all_t c43 (all_t c28 (all_t c45 (all_nt c46 (all_nt c46 (all_nt c46 (all_t c49 (all_t rfl (all_nt c46 (all_nt c46 (all_t c53 (all_t c54 (all_nt c46 (all_t c56 (all_t c57 (all_nt c46 (all_nt c46 (all_t c60 (all_nt c46 (all_nt c46 (all_nt c63 (all_t c28 (all_t c28 (all_t c28 (all_t c28 (all_t c68 (all_t rfl (all_t c70 (all_t c71 (all_t c72 (all_t c73 (all_t c28 (all_t c75 (all_t c76 (all_t c76 (all_t c76 (all_t c79 (all_t rfl (all_t c76 (all_t c76 (all_t c83 (all_t c84 (all_t c76 (all_t c86 (all_t c87 (all_t c76 (all_t c76 (all_t c28 (all_t c76 (all_t c92 (all_t c76 (all_t c94 (all_t c94 (all_t c94 (all_t c28 (all_t c94 (all_t c94 (all_t c94 (all_t c94 (all_t c94 (all_t c94 (all_t c94 (all_t c94 (all_t c106 (all_t c106 (all_t c106 (all_t c28 (all_t c106 (all_t c106 (all_t c106 (all_t c106 (all_t c106 (all_t c106 (all_t c106 (all_t c106 (all_t c118 (all_t c118 all_nil))))))))))))))))))))))))))))))))))))))))))))))))))))))))))))))))))))))))))))))))))))))))))))))))))))))))))))))))))))))))) ?_
      intro p hp; cases hp
theorem vlogic_at (x0 : Q1) (x1 : Q1) (x2 : Int) (h : ∃ m q, vlogic m x0 x1 x2 = some q) : ∃ g B', CallAt Tryd.prog 7 g ∧ (g [(.agg [(.d (.sl (.pair (.sl (.int .i64)) (.sl (.int .i64))) x0.1)), (.d (.sl (.int .i64) x0.2))]), (.agg [(.d (.sl (.pair (.sl (.int .i64)) (.sl (.int .i64))) x1.1)), (.d (.sl (.int .i64) x1.2))]), (.d (.int .i64 x2))] []).run = some (.d (.bool true), B') := by
  obtain ⟨m, q, h⟩ := h
  exact ⟨_, _, evCall_atH mixed kinds hds S33 S33_ok (m + 25) 7, vlogic_ok m x0 x1 x2 q h⟩

end Go.Proofs.YtahdcmicifokgaaDoor.Dec
namespace Go.Proofs.YtahdcmicifokgaaDoor.Dec
open Go.Ev
set_option linter.unusedVariables false
set_option linter.unusedSimpArgs false
set_option maxRecDepth 100000
set_option maxHeartbeats 20000000
theorem count_le (f g h : PT1 → Bool) (hc : ∀ p, f p = (g p || h p) ∧ (g p && h p) = false) : ∀ l : VL, (l.filter f).length = (l.filter g).length + (l.filter h).length
  | [] => rfl
  | x :: l => by
    have ih := count_le f g h hc l
    have := hc x
    rw [List.filter_cons, List.filter_cons, List.filter_cons]
    cases hg : g x <;> cases hh : h x <;> simp_all <;> omega
theorem len_filt {l : VL} (f : PT1 → Bool) (h : l.length ≤ 8) : (l.filter f).length ≤ 8 := Nat.le_trans (List.length_filter_le f l) h
theorem filter_none {f : PT1 → Bool} (h : ∀ p, f p = false) (l : VL) : l.filter f = [] := List.filter_eq_nil_iff.2 fun p _ => by rw [h p]; simp
theorem mem_of_sort {l : VL} {p : PT1} (h : p ∈ sortG l) : p ∈ l := (perm_sort l).mem_iff.1 h
theorem lq14 (a : VL) (p : PT1) : lqG 14 a p = false := rfl
theorem lq16 (a : VL) (p : PT1) : lqG 16 a p = false := rfl
theorem lp14 (b : VL) (p : PT1) : lpG 14 b p = hasK b (pkeyG p) := by
  show (((14 : Int) == 15) || (hasK b (pkeyG p) == ((14 : Int) == 14))) = _
  cases hasK b (pkeyG p) <;> rfl
theorem lp16 (b : VL) (p : PT1) : lpG 16 b p = !hasK b (pkeyG p) := by
  show (((16 : Int) == 15) || (hasK b (pkeyG p) == ((16 : Int) == 14))) = _
  cases hasK b (pkeyG p) <;> rfl
theorem lp15 (b : VL) (p : PT1) : lpG 15 b p = true := rfl
theorem lq15 (a : VL) (p : PT1) : lqG 15 a p = !hasK a (pkeyG p) := by
  show (((15 : Int) == 15) && !hasK a (pkeyG p)) = _
  cases hasK a (pkeyG p) <;> rfl
theorem log14 {a b : VL} (h1 : twiceG a = false) (h2 : twiceG b = false) : logG 14 a b = (sortG (a.filter fun p => hasK b (pkeyG p)), 0) := by
  unfold logG
  rw [h1, h2, if_neg (by simp), if_neg (by simp), filter_none (lq14 a), List.append_nil, show lpG 14 b = fun p => hasK b (pkeyG p) from funext (lp14 b)]
theorem log16 {a b : VL} (h1 : twiceG a = false) (h2 : twiceG b = false) : logG 16 a b = (sortG (a.filter fun p => !hasK b (pkeyG p)), 0) := by
  unfold logG
  rw [h1, h2, if_neg (by simp), if_neg (by simp), filter_none (lq16 a), List.append_nil, show lpG 16 b = fun p => !hasK b (pkeyG p) from funext (lp16 b)]
theorem log15 {a b : VL} (h1 : twiceG a = false) (h2 : twiceG b = false) : logG 15 a b = (sortG (a ++ b.filter fun p => !hasK a (pkeyG p)), 0) := by
  unfold logG
  rw [h1, h2, if_neg (by simp), if_neg (by simp), show lqG 15 a = fun p => !hasK a (pkeyG p) from funext (lq15 a), List.filter_eq_self.2 fun p _ => lp15 b p]
theorem vlogic_pure (x0 x1 : (List (List Int × List Int)) × List Int) (x2 : Int) : ∃ m q, vlogic m x0 x1 x2 = some q := by
  obtain ⟨a1, a2, a3⟩ := vec_ok x0
  obtain ⟨b1, b2, b3⟩ := vec_ok x1
  have dx := D_of a2 a3
  have dy := D_of b2 b3
  generalize hX : vecG x0 = X at a1 a2 a3 dx
  generalize hY : vecG x1 = Y at b1 b2 b3 dy
  have px := pre_of (show X.length < 20 by omega) a2
  have py := pre_of (show Y.length < 20 by omega) b2
  have vx := sort_v px
  have vy := sort_v py
  have txy : twoPre X Y = true := by unfold twoPre; rw [px, py, decide_eq_true (by omega)]; rfl
  have tyx : twoPre Y X = true := by unfold twoPre; rw [px, py, decide_eq_true (by omega)]; rfl
  have txx : twoPre X X = true := by unfold twoPre; rw [px, decide_eq_true (by omega)]; rfl
  refine ⟨0, (), ?_⟩
  unfold vlogic
  rw [hX, hY, if_pos vx]
  by_cases t1 : twiceG X = true
  · have e1 : ((logG 14 X Y).2 == 5) = true := by unfold logG; rw [if_pos t1]; rfl
    have e2 : ((filtG 8 X Y).2 == 5) = true := by unfold filtG; rw [if_pos t1]; rfl
    rw [if_pos t1, if_pos txy, if_pos e1, if_pos e2]
  · rw [if_neg t1, if_pos vy]
    by_cases t2 : twiceG Y = true
    · have e1 : ((logG 14 X Y).2 == 5) = true := by unfold logG; rw [if_neg t1, if_pos t2]; rfl
      have e2 : ((filtG 8 X Y).2 == 5) = true := by unfold filtG; rw [if_neg t1, if_pos t2]; rfl
      rw [if_pos t2, if_pos txy, if_pos e1, if_pos e2]
    · rw [if_neg t2]
      have u1 : twiceG X = false := by simpa using t1
      have u2 : twiceG Y = false := by simpa using t2
      have kx := (twice_iff X).1 u1
      have ky := (twice_iff Y).1 u2
      rw [if_pos txy, if_pos tyx, if_pos txx, log14 u1 u2, log16 u1 u2, log15 u1 u2, log16 u2 u1, log14 u1 u1]
      have hself : (X.filter fun p => hasK X (pkeyG p)) = X := List.filter_eq_self.2 fun p hp => has_mem hp
      rw [hself]
      unfold aboveG
      generalize hF : X.filter (fun p => hasK Y (pkeyG p)) = F1
      generalize hG : X.filter (fun p => !hasK Y (pkeyG p)) = F2
      generalize hB : Y.filter (fun p => !hasK X (pkeyG p)) = F3
      have f1 : F1.length ≤ 8 := hF ▸ len_filt _ a1
      have f2 : F2.length ≤ 8 := hG ▸ len_filt _ a1
      have f3 : F3.length ≤ 8 := hB ▸ len_filt _ b1
      have g1 : ∀ p ∈ F1, p ∈ X := fun p h => (List.mem_filter.1 (hF ▸ h)).1
      have g2 : ∀ p ∈ F2, p ∈ X := fun p h => (List.mem_filter.1 (hG ▸ h)).1
      have g3 : ∀ p ∈ F3, p ∈ Y := fun p h => (List.mem_filter.1 (hB ▸ h)).1
      have g4 : ∀ p ∈ F3, hasK X (pkeyG p) = false := fun p h => by
        rw [← hB] at h
        have h2 : (!hasK X (pkeyG p)) = true := (List.mem_filter.1 h).2
        cases hk : hasK X (pkeyG p) with
        | false => rfl
        | true => rw [hk] at h2; cases h2
      have q12 : (F1 ++ F2).Perm X := by rw [← hF, ← hG]; exact List.filter_append_perm _ X
      have hpo : ∀ p ∈ X ++ F3, PG p := fun p h => by
        rcases List.mem_append.1 h with h | h
        · exact a2 p h
        · exact b2 p (g3 p h)
      have hko : KG (X ++ F3) := List.pairwise_append.2 ⟨kx, by rw [← hB]; exact ky.filter _, fun p hp q hq he => by
        have := g4 q hq
        rw [← he, has_mem hp] at this
        cases this⟩
      have hdo : DG (X ++ F3) := D_of hpo (hko.imp fun h e => h (by unfold pkeyG; rw [e]))
      have po : sortPre (X ++ F3) = true := pre_of (by rw [List.length_append]; omega) hpo
      have two : twiceG (sortG (X ++ F3)) = false := (twice_iff _).2 (KG_perm (perm_sort _).symm hko)
      -- what is sorted
      have ps : ∀ l : VL, l.length < 20 → (∀ p ∈ l, PG p) → sortPre (sortG l) = true ∧ vPre (sortG l) = true ∧ ptsPre (sortG l) = true := fun l h1 h2 => by
        have := pre_of (l := sortG l) (by rw [len_sortG]; exact h1) (fun p hp => h2 p (mem_of_sort hp))
        exact ⟨this, sort_v this, sort_v this⟩
      have perm2 : ∀ a b : VL, (sortG a ++ sortG b).Perm (a ++ b) := fun a b => (perm_sort a).append (perm_sort b)
      have cat : ∀ a b : VL, (a ++ b).Perm X → sortG (sortG a ++ sortG b) = sortG X := fun a b h => sort_perm ((perm2 a b).trans h) (DG_perm ((perm2 a b).trans h).symm dx)
      have catP : ∀ a b : VL, (a ++ b).Perm X → sortPre (sortG a ++ sortG b) = true ∧ ptsPre (sortG (sortG a ++ sortG b)) = true := fun a b h => by
        have hh := (perm2 a b).trans h
        have hl : (sortG a ++ sortG b).length < 20 := by rw [hh.length_eq]; omega
        have hg : ∀ p ∈ sortG a ++ sortG b, PG p := fun p hp => a2 p (hh.mem_iff.1 hp)
        exact ⟨pre_of hl hg, (ps _ hl hg).2.2⟩
      have s1 := ps X (by omega) a2
      have s2 := ps (X ++ F3) (by rw [List.length_append]; omega) hpo
      have cx : sortG (X ++ sortG F3) = sortG (X ++ F3) := sort_perm ((List.Perm.refl X).append (perm_sort F3)) (DG_perm ((List.Perm.refl X).append (perm_sort F3)).symm hdo)
      have cxp : sortPre (X ++ sortG F3) = true := pre_of (by rw [List.length_append, len_sortG]; omega) fun p hp => by
        rcases List.mem_append.1 hp with h | h
        · exact a2 p h
        · exact b2 p (g3 p (mem_of_sort h))
      have len2 : ∀ n k : Nat, n ≤ 16 → k ≤ 16 → decide (((0 + n) * 32) ≤ 70368744177664) = true ∧ decide (((0 + n) + k) * 32 ≤ 70368744177664) = true ∧ decide ((0 + n) = n) = true := fun n k h1 h2 => ⟨decide_eq_true (by omega), decide_eq_true (by omega), decide_eq_true (by omega)⟩
      have lenA : ∀ a b : VL, decide ((0 + ((0 + a.length) + b.length)) ≤ (sortG a ++ sortG b).length) = true := fun a b => decide_eq_true (by rw [List.length_append, len_sortG, len_sortG]; omega)
      have takeA : ∀ a b : VL, List.take ((0 + a.length) + b.length) (sortG a ++ sortG b) = sortG a ++ sortG b := fun a b => List.take_of_length_le (by rw [List.length_append, len_sortG, len_sortG]; omega)
      have lenX : decide ((0 + ((0 + X.length) + F3.length)) ≤ (X ++ sortG F3).length) = true := decide_eq_true (by rw [List.length_append, len_sortG]; omega)
      have takeX : List.take ((0 + X.length) + F3.length) (X ++ sortG F3) = X ++ sortG F3 := List.take_of_length_le (by rw [List.length_append, len_sortG]; omega)
      have ls : ∀ f : PT1 → Bool, (X.filter f).length ≤ 16 := fun f => by have := len_filt f a1; omega
      have n1 := len2 F1.length F2.length (by omega) (by omega)
      have n2 := len2 X.length F3.length (by omega) (by omega)
      have n3 := len2 _ _ (ls fun p => cmpG 10 p.2 x2) (ls fun p => cmpG 13 p.2 x2)
      have n4 := len2 _ _ (ls fun p => cmpG 8 p.2 x2) (ls fun p => cmpG 9 p.2 x2)
      have w3 : (X.filter (fun p => cmpG 10 p.2 x2) ++ X.filter (fun p => cmpG 13 p.2 x2)).Perm X := by
        have : (fun p : PT1 => cmpG 13 p.2 x2) = fun p => !cmpG 10 p.2 x2 := funext fun p => by
          show decide (p.2 ≥ x2) = !decide (p.2 < x2)
          by_cases h : p.2 < x2
          · rw [decide_eq_true h, decide_eq_false (by omega)]; rfl
          · rw [decide_eq_false h, decide_eq_true (by omega)]; rfl
        rw [this]
        exact List.filter_append_perm _ X
      have w4 : (X.filter (fun p => cmpG 8 p.2 x2) ++ X.filter (fun p => cmpG 9 p.2 x2)).Perm X := by
        have : (fun p : PT1 => cmpG 9 p.2 x2) = fun p => !cmpG 8 p.2 x2 := funext fun p => rfl
        rw [this]
        exact List.filter_append_perm _ X
      have c1 := count_le (fun p => cmpG 11 p.2 x2) (fun p => cmpG 10 p.2 x2) (fun p => cmpG 8 p.2 x2) (fun p => by
        show decide (p.2 ≤ x2) = (decide (p.2 < x2) || p.2 == x2) ∧ (decide (p.2 < x2) && p.2 == x2) = false
        rcases Int.lt_trichotomy p.2 x2 with h | h | h
        · rw [decide_eq_true (by omega), decide_eq_true h, show (p.2 == x2) = false by rw [beq_eq_false_iff_ne]; omega]; exact ⟨rfl, rfl⟩
        · rw [decide_eq_true (by omega), decide_eq_false (by omega), show (p.2 == x2) = true by rw [beq_iff_eq]; exact h]; exact ⟨rfl, rfl⟩
        · rw [decide_eq_false (by omega), decide_eq_false (by omega), show (p.2 == x2) = false by rw [beq_eq_false_iff_ne]; omega]; exact ⟨rfl, rfl⟩) X
      have c2 := count_le (fun p => cmpG 13 p.2 x2) (fun p => cmpG 12 p.2 x2) (fun p => cmpG 8 p.2 x2) (fun p => by
        show decide (p.2 ≥ x2) = (decide (p.2 > x2) || p.2 == x2) ∧ (decide (p.2 > x2) && p.2 == x2) = false
        rcases Int.lt_trichotomy p.2 x2 with h | h | h
        · rw [decide_eq_false (by omega), decide_eq_false (by omega), show (p.2 == x2) = false by rw [beq_eq_false_iff_ne]; omega]; exact ⟨rfl, rfl⟩
        · rw [decide_eq_true (by omega), decide_eq_false (by omega), show (p.2 == x2) = true by rw [beq_iff_eq]; exact h]; exact ⟨rfl, rfl⟩
        · rw [decide_eq_true (by omega), decide_eq_true h, show (p.2 == x2) = false by rw [beq_eq_false_iff_ne]; omega]; exact ⟨rfl, rfl⟩) X
      have y1 := len_filt (fun p => cmpG 11 p.2 x2) a1
      have y2 := len_filt (fun p => cmpG 13 p.2 x2) a1
      have z1 : ((((X.filter (fun p => cmpG 11 p.2 x2)).length : Nat) : Int) == IntKind.wrap .i64 ((((X.filter (fun p => cmpG 10 p.2 x2)).length : Nat) : Int) + (((X.filter (fun p => cmpG 8 p.2 x2)).length : Nat) : Int))) = true := by
        rw [wrap_id (by omega) (by omega), beq_iff_eq]; omega
      have z2 : ((((X.filter (fun p => cmpG 12 p.2 x2)).length : Nat) : Int) == IntKind.wrap .i64 ((((X.filter (fun p => cmpG 13 p.2 x2)).length : Nat) : Int) - (((X.filter (fun p => cmpG 8 p.2 x2)).length : Nat) : Int))) = true := by
        rw [wrap_id (by omega) (by omega), beq_iff_eq]; omega
      have r0 : ((show List (List (Q4 × Q4) × Int) from sortG X) == sortG X) = true := beq_self_eq_true (sortG X)
      have bq : ((0 : Int) != 0) = false := rfl
      simp only [bq, px, s1.2.2, r0, s2.2.1, two, n1.1, n1.2.1, n1.2.2, n2.1, n2.2.1, n2.2.2, n3.1, n3.2.1, n3.2.2, n4.1, n4.2.1, n4.2.2, lenA, takeA, lenX, takeX, List.drop_zero, (catP _ _ q12).1, (catP _ _ q12).2, cat _ _ q12, cx, cxp, s2.2.2, (catP _ _ w3).1, cat _ _ w3, (catP _ _ w4).1, cat _ _ w4, len_sortG, z1, z2, ↓reduceIte, Bool.false_eq_true, beq_self_eq_true]
theorem vlogic_law (x0 x1 : (List (List Int × List Int)) × List Int) (x2 : Int) : ∃ g B', CallAt Tryd.prog 7 g ∧ (g [argAV true (.pair (.sl (.pair (.sl (.int .i64)) (.sl (.int .i64)))) (.sl (.int .i64))) x0, argAV true (.pair (.sl (.pair (.sl (.int .i64)) (.sl (.int .i64)))) (.sl (.int .i64))) x1, argAV false (.int .i64) x2] []).run = some (.d (.bool true), B') := vlogic_at x0 x1 x2 (vlogic_pure x0 x1 x2)

end Go.Proofs.YtahdcmicifokgaaDoor.Dec
