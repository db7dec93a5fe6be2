/- Quote. match.Print. lset.Right. lset.Print. match.Exact, Same of labels. MatchExact, as a plain function. MatchExact: its plain law. -/
import Derived.Test.YtghkbjflejgieaaDoorQE6
import Derived.KernelRfl
namespace Go.Proofs.YtghkbjflejgieaaDoor.Dec
open Go.Ev
set_option linter.unusedVariables false
set_option linter.unusedSimpArgs false
set_option maxRecDepth 100000
noncomputable def fn45 : AFn := (F 45).getD ⟨0, [], .bad, false, false, noHd⟩
noncomputable def body45 : AC := fn45.body
def l45_0 (m : Nat) : Nat → List UInt8 → Int → Int → List Int → Option (Nat × Int × (List Int))
  | 0, _, _, _, _ => none
  | n + 1, x0, s7, s8, b1 => if decide (s8 < s7) = true then
      if decide (0 ≤ s8) = true then
        if decide (s8 < (((List.length x0) : Nat) : Int)) = true then
          if (((UInt8.toNat (List.getD x0 (Int.toNat s8) 0) : Nat) : Int) == (34)) = true then
            if decide ((((List.length b1) + 1) * 1) ≤ 70368744177664) = true then
              if decide (((((List.length b1) + 1) + 1) * 1) ≤ 70368744177664) = true then
                if decide (((List.length b1) + 1) = (List.length (b1 ++ [(92)]))) = true then
                  l45_0 m n x0 s7 ((IntKind.wrap .i64 (s8 + (1)))) (((b1 ++ [(92)]) ++ [((UInt8.toNat (List.getD x0 (Int.toNat s8) 0) : Nat) : Int)]))
                else
                  none
              else
                none
            else
              none
          else
            if (((UInt8.toNat (List.getD x0 (Int.toNat s8) 0) : Nat) : Int) == (92)) = true then
              if decide ((((List.length b1) + 1) * 1) ≤ 70368744177664) = true then
                if decide (((((List.length b1) + 1) + 1) * 1) ≤ 70368744177664) = true then
                  if decide (((List.length b1) + 1) = (List.length (b1 ++ [(92)]))) = true then
                    l45_0 m n x0 s7 ((IntKind.wrap .i64 (s8 + (1)))) (((b1 ++ [(92)]) ++ [((UInt8.toNat (List.getD x0 (Int.toNat s8) 0) : Nat) : Int)]))
                  else
                    none
                else
                  none
              else
                none
            else
              if decide ((((List.length b1) + 1) * 1) ≤ 70368744177664) = true then
                l45_0 m n x0 s7 ((IntKind.wrap .i64 (s8 + (1)))) ((b1 ++ [((UInt8.toNat (List.getD x0 (Int.toNat s8) 0) : Nat) : Int)]))
              else
                none
        else
          none
      else
        none
    else
      some (0, s8, b1)
def l45_0D : Nat × Int × (List Int) := (0, 0, [])
@[reducible] def l45_0R (m n : Nat) (x0 : List UInt8) (s7 : Int) (s8 : Int) (b1 : List Int) : Nat × Int × (List Int) := Option.getD (l45_0 m n x0 s7 s8 b1) l45_0D
def l45_0H (x0 : List UInt8) (s7 : Int) (s8 : Int) (b1 : List Int) : Env := [(.d (.str x0)), .top, .top, (.ptr 0 0), .top, .top, .top, (.d (.int .i64 s7)), (.d (.int .i64 s8)), .top, .top, .top, .top, .top, .top, .top, .top, .top, .top, .top, .top, .top, .top, .top, .top, .top, .top, .top, .top]
def l45_0B (x0 : List UInt8) (s7 : Int) (s8 : Int) (b1 : List Int) : Boxes := [(.cells [(.ptr 0 0), (.sr 1 0 (List.length b1) 1 none)]), (.arr (.int .u8) b1 true)]
def l45_0E (x0 : List UInt8) (s7 : Int) (s8 : Int) (b1 : List Int) : Nat → AEx × Env × Boxes
  | _ => (.exit 0, [(.d (.str x0)), .top, .top, (.ptr 0 0), .top, .top, .top, (.d (.int .i64 s7)), (.d (.int .i64 s8)), (.d (.bool (decide (s8 < s7)))), .top, .top, .top, .top, .top, .top, .top, .top, .top, .top, .top, .top, .top, .top, .top, .top, .top, .top, .top], [(.cells [(.ptr 0 0), (.sr 1 0 (List.length b1) 1 none)]), (.arr (.int .u8) b1 true)])
noncomputable def lbl45_0 : AC := loopBody 393 body45

set_option maxHeartbeats 20000000 in
theorem l45_0_w0 (m n : Nat) (x0 : List UInt8) (s7 : Int) (s8 : Int) (b1 : List Int) (r : AEx × Env × Boxes) (c0 : decide (s8 < s7) = true) (c1 : decide (0 ≤ s8) = true) (c2 : decide (s8 < (((List.length x0) : Nat) : Int)) = true) (c3 : (((UInt8.toNat (List.getD x0 (Int.toNat s8) 0) : Nat) : Int) == (34)) = true) (c10 : decide ((((List.length b1) + 1) * 1) ≤ 70368744177664) = true) (c15 : decide (((((List.length b1) + 1) + 1) * 1) ≤ 70368744177664) = true) (c16 : decide (((List.length b1) + 1) = (List.length (b1 ++ [(92)]))) = true) (ih : (turns (hds 45 393) 0 393 (evC byref (evCall F S12 (m + 24)) (m + 24) 0 (hds 45) lbl45_0) n (l45_0H x0 s7 ((IntKind.wrap .i64 (s8 + (1)))) (((b1 ++ [(92)]) ++ [((UInt8.toNat (List.getD x0 (Int.toNat s8) 0) : Nat) : Int)]))) (l45_0B x0 s7 ((IntKind.wrap .i64 (s8 + (1)))) (((b1 ++ [(92)]) ++ [((UInt8.toNat (List.getD x0 (Int.toNat s8) 0) : Nat) : Int)])))).run = some r) : (turns (hds 45 393) 0 393 (evC byref (evCall F S12 (m + 24)) (m + 24) 0 (hds 45) lbl45_0) (n + 1) (l45_0H x0 s7 s8 b1) (l45_0B x0 s7 s8 b1)).run = some r := by
  have ht : (turn (hds 45 393) 0 393 (evC byref (evCall F S12 (m + 24)) (m + 24) 0 (hds 45) lbl45_0) (l45_0H x0 s7 s8 b1) (l45_0B x0 s7 s8 b1)).run = some (.normal, [(.d (.str x0)), .top, .top, (.ptr 0 0), .top, .top, .top, (.d (.int .i64 s7)), (.d (.int .i64 (IntKind.wrap .i64 (s8 + (1))))), .top, .top, .top, .top, .top, .top, .top, .top, .top, .top, .top, .top, .top, .top, .top, .top, .top, .top, .top, .top], [(.cells [(.ptr 0 0), (.sr 1 0 (((List.length b1) + 1) + 1) 1 none)]), (.arr (.int .u8) ((b1 ++ [(92)]) ++ [((UInt8.toNat (List.getD x0 (Int.toNat s8) 0) : Nat) : Int)]) true)]) := M.run_of_path _ [true, true, true, true, true, true, true, true, true, true, true, true, true, true, true, true, true] _ _ (by kernel_rfl) (all_t c0 (all_t c1 (all_t c2 (all_t c3 (all_t c3 (all_t c3 (all_t c3 (all_t c3 (all_t rfl (all_t rfl (all_t c10 (all_t (show decide ((List.length b1) = (List.length b1)) = true from decide_eq_true rfl) (all_t c1 (all_t c2 (all_t rfl (all_t c15 (all_t c16 all_nil)))))))))))))))))
  refine turns_step ht (turns_eq ?_ ?_ ih)
  · unfold l45_0H
    first | (simp; done) | (simp [Nat.add_assoc]; done)
  · unfold l45_0B
    simp
set_option maxHeartbeats 20000000 in
theorem l45_0_w1 (m n : Nat) (x0 : List UInt8) (s7 : Int) (s8 : Int) (b1 : List Int) (r : AEx × Env × Boxes) (c0 : decide (s8 < s7) = true) (c1 : decide (0 ≤ s8) = true) (c2 : decide (s8 < (((List.length x0) : Nat) : Int)) = true) (c3 : ¬ (((UInt8.toNat (List.getD x0 (Int.toNat s8) 0) : Nat) : Int) == (34)) = true) (c10 : (((UInt8.toNat (List.getD x0 (Int.toNat s8) 0) : Nat) : Int) == (92)) = true) (c12 : decide ((((List.length b1) + 1) * 1) ≤ 70368744177664) = true) (c17 : decide (((((List.length b1) + 1) + 1) * 1) ≤ 70368744177664) = true) (c18 : decide (((List.length b1) + 1) = (List.length (b1 ++ [(92)]))) = true) (ih : (turns (hds 45 393) 0 393 (evC byref (evCall F S12 (m + 24)) (m + 24) 0 (hds 45) lbl45_0) n (l45_0H x0 s7 ((IntKind.wrap .i64 (s8 + (1)))) (((b1 ++ [(92)]) ++ [((UInt8.toNat (List.getD x0 (Int.toNat s8) 0) : Nat) : Int)]))) (l45_0B x0 s7 ((IntKind.wrap .i64 (s8 + (1)))) (((b1 ++ [(92)]) ++ [((UInt8.toNat (List.getD x0 (Int.toNat s8) 0) : Nat) : Int)])))).run = some r) : (turns (hds 45 393) 0 393 (evC byref (evCall F S12 (m + 24)) (m + 24) 0 (hds 45) lbl45_0) (n + 1) (l45_0H x0 s7 s8 b1) (l45_0B x0 s7 s8 b1)).run = some r := by
  have ht : (turn (hds 45 393) 0 393 (evC byref (evCall F S12 (m + 24)) (m + 24) 0 (hds 45) lbl45_0) (l45_0H x0 s7 s8 b1) (l45_0B x0 s7 s8 b1)).run = some (.normal, [(.d (.str x0)), .top, .top, (.ptr 0 0), .top, .top, .top, (.d (.int .i64 s7)), (.d (.int .i64 (IntKind.wrap .i64 (s8 + (1))))), .top, .top, .top, .top, .top, .top, .top, .top, .top, .top, .top, .top, .top, .top, .top, .top, .top, .top, .top, .top], [(.cells [(.ptr 0 0), (.sr 1 0 (((List.length b1) + 1) + 1) 1 none)]), (.arr (.int .u8) ((b1 ++ [(92)]) ++ [((UInt8.toNat (List.getD x0 (Int.toNat s8) 0) : Nat) : Int)]) true)]) := M.run_of_path _ [true, true, true, false, false, false, true, true, false, false, true, true, true, true, true, true, true, true, true] _ _ (by kernel_rfl) (all_t c0 (all_t c1 (all_t c2 (all_f c3 (all_f c3 (all_f c3 (all_t c1 (all_t c2 (all_f c3 (all_f c3 (all_t c10 (all_t rfl (all_t c12 (all_t (show decide ((List.length b1) = (List.length b1)) = true from decide_eq_true rfl) (all_t c1 (all_t c2 (all_t rfl (all_t c17 (all_t c18 all_nil)))))))))))))))))))
  refine turns_step ht (turns_eq ?_ ?_ ih)
  · unfold l45_0H
    first | (simp; done) | (simp [Nat.add_assoc]; done)
  · unfold l45_0B
    simp
set_option maxHeartbeats 20000000 in
theorem l45_0_w2 (m n : Nat) (x0 : List UInt8) (s7 : Int) (s8 : Int) (b1 : List Int) (r : AEx × Env × Boxes) (c0 : decide (s8 < s7) = true) (c1 : decide (0 ≤ s8) = true) (c2 : decide (s8 < (((List.length x0) : Nat) : Int)) = true) (c3 : ¬ (((UInt8.toNat (List.getD x0 (Int.toNat s8) 0) : Nat) : Int) == (34)) = true) (c10 : ¬ (((UInt8.toNat (List.getD x0 (Int.toNat s8) 0) : Nat) : Int) == (92)) = true) (c14 : decide ((((List.length b1) + 1) * 1) ≤ 70368744177664) = true) (ih : (turns (hds 45 393) 0 393 (evC byref (evCall F S12 (m + 24)) (m + 24) 0 (hds 45) lbl45_0) n (l45_0H x0 s7 ((IntKind.wrap .i64 (s8 + (1)))) ((b1 ++ [((UInt8.toNat (List.getD x0 (Int.toNat s8) 0) : Nat) : Int)]))) (l45_0B x0 s7 ((IntKind.wrap .i64 (s8 + (1)))) ((b1 ++ [((UInt8.toNat (List.getD x0 (Int.toNat s8) 0) : Nat) : Int)])))).run = some r) : (turns (hds 45 393) 0 393 (evC byref (evCall F S12 (m + 24)) (m + 24) 0 (hds 45) lbl45_0) (n + 1) (l45_0H x0 s7 s8 b1) (l45_0B x0 s7 s8 b1)).run = some r := by
  have ht : (turn (hds 45 393) 0 393 (evC byref (evCall F S12 (m + 24)) (m + 24) 0 (hds 45) lbl45_0) (l45_0H x0 s7 s8 b1) (l45_0B x0 s7 s8 b1)).run = some (.normal, [(.d (.str x0)), .top, .top, (.ptr 0 0), .top, .top, .top, (.d (.int .i64 s7)), (.d (.int .i64 (IntKind.wrap .i64 (s8 + (1))))), .top, .top, .top, .top, .top, .top, .top, .top, .top, .top, .top, .top, .top, .top, .top, .top, .top, .top, .top, .top], [(.cells [(.ptr 0 0), (.sr 1 0 ((List.length b1) + 1) 1 none)]), (.arr (.int .u8) (b1 ++ [((UInt8.toNat (List.getD x0 (Int.toNat s8) 0) : Nat) : Int)]) true)]) := M.run_of_path _ [true, true, true, false, false, false, true, true, false, false, false, true, true, true, true, true] _ _ (by kernel_rfl) (all_t c0 (all_t c1 (all_t c2 (all_f c3 (all_f c3 (all_f c3 (all_t c1 (all_t c2 (all_f c3 (all_f c3 (all_f c10 (all_t c1 (all_t c2 (all_t rfl (all_t c14 (all_t (show decide ((List.length b1) = (List.length b1)) = true from decide_eq_true rfl) all_nil))))))))))))))))
  refine turns_step ht (turns_eq ?_ ?_ ih)
  · unfold l45_0H
    first | (simp; done) | (simp [Nat.add_assoc]; done)
  · unfold l45_0B
    simp
set_option maxHeartbeats 20000000 in
theorem l45_0_w3 (m n : Nat) (x0 : List UInt8) (s7 : Int) (s8 : Int) (b1 : List Int) (c0 : ¬ decide (s8 < s7) = true) : (turns (hds 45 393) 0 393 (evC byref (evCall F S12 (m + 24)) (m + 24) 0 (hds 45) lbl45_0) (n + 1) (l45_0H x0 s7 s8 b1) (l45_0B x0 s7 s8 b1)).run = some (.exit 0, [(.d (.str x0)), .top, .top, (.ptr 0 0), .top, .top, .top, (.d (.int .i64 s7)), (.d (.int .i64 s8)), (.d (.bool (decide (s8 < s7)))), .top, .top, .top, .top, .top, .top, .top, .top, .top, .top, .top, .top, .top, .top, .top, .top, .top, .top, .top], [(.cells [(.ptr 0 0), (.sr 1 0 (List.length b1) 1 none)]), (.arr (.int .u8) b1 true)]) := by
  exact turns_last (by simp) (M.run_of_path _ [false] _ _ (by kernel_rfl) (all_f c0 all_nil)) 

set_option maxHeartbeats 20000000 in
theorem l45_0_step (m n : Nat) (ih : ∀ (x0 : List UInt8) (s7 : Int) (s8 : Int) (b1 : List Int) (q : Nat × Int × (List Int)), l45_0 m n x0 s7 s8 b1 = some q → (turns (hds 45 393) 0 393 (evC byref (evCall F S12 (m + 24)) (m + 24) 0 (hds 45) lbl45_0) n (l45_0H x0 s7 s8 b1) (l45_0B x0 s7 s8 b1)).run = some (l45_0E (x0) (s7) (q.2.1) (q.2.2) q.1)) (x0 : List UInt8) (s7 : Int) (s8 : Int) (b1 : List Int) (q : Nat × Int × (List Int)) (h : l45_0 m (n + 1) x0 s7 s8 b1 = some q) : (turns (hds 45 393) 0 393 (evC byref (evCall F S12 (m + 24)) (m + 24) 0 (hds 45) lbl45_0) (n + 1) (l45_0H x0 s7 s8 b1) (l45_0B x0 s7 s8 b1)).run = some (l45_0E (x0) (s7) (q.2.1) (q.2.2) q.1) := by
  rw [l45_0] at h
  refine ite_cases h (fun c0 h => ?_) (fun c0 h => ?_)
  · skip
    refine ite_cases h (fun c1 h => ?_) (fun c1 h => ?_)
    · skip
      refine ite_cases h (fun c2 h => ?_) (fun c2 h => ?_)
      · skip
        refine ite_cases h (fun c3 h => ?_) (fun c3 h => ?_)
        · skip
          refine ite_cases h (fun c10 h => ?_) (fun c10 h => ?_)
          · skip
            refine ite_cases h (fun c15 h => ?_) (fun c15 h => ?_)
            · skip
              refine ite_cases h (fun c16 h => ?_) (fun c16 h => ?_)
              · skip
                exact l45_0_w0 m n x0 s7 s8 b1 _ c0 c1 c2 c3 c10 c15 c16 (ih _ _ _ _ q h)
              · skip
                cases h
            · skip
              cases h
          · skip
            cases h
        · skip
          refine ite_cases h (fun c10 h => ?_) (fun c10 h => ?_)
          · skip
            refine ite_cases h (fun c12 h => ?_) (fun c12 h => ?_)
            · skip
              refine ite_cases h (fun c17 h => ?_) (fun c17 h => ?_)
              · skip
                refine ite_cases h (fun c18 h => ?_) (fun c18 h => ?_)
                · skip
                  exact l45_0_w1 m n x0 s7 s8 b1 _ c0 c1 c2 c3 c10 c12 c17 c18 (ih _ _ _ _ q h)
                · skip
                  cases h
              · skip
                cases h
            · skip
              cases h
          · skip
            refine ite_cases h (fun c14 h => ?_) (fun c14 h => ?_)
            · skip
              exact l45_0_w2 m n x0 s7 s8 b1 _ c0 c1 c2 c3 c10 c14 (ih _ _ _ _ q h)
            · skip
              cases h
      · skip
        cases h
    · skip
      cases h
  · skip
    cases h
    exact l45_0_w3 m n x0 s7 s8 b1 c0
set_option maxHeartbeats 20000000 in
theorem l45_0_ok (m : Nat) : ∀ (n : Nat) (x0 : List UInt8) (s7 : Int) (s8 : Int) (b1 : List Int) (q : Nat × Int × (List Int)), l45_0 m n x0 s7 s8 b1 = some q → (turns (hds 45 393) 0 393 (evC byref (evCall F S12 (m + 24)) (m + 24) 0 (hds 45) lbl45_0) n (l45_0H x0 s7 s8 b1) (l45_0B x0 s7 s8 b1)).run = some (l45_0E (x0) (s7) (q.2.1) (q.2.2) q.1)
  | 0, x0, s7, s8, b1, q, h => by cases h
  | n + 1, x0, s7, s8, b1, q, h => l45_0_step m n (l45_0_ok m n) x0 s7 s8 b1 q h

def p45 (m : Nat) (x0 : List UInt8) : Option ((List UInt8)) :=
  if (Option.isSome (l45_0 m (m + 24) x0 ((((List.length x0) : Nat) : Int)) 0 ([(34)]))) = true then
    if decide ((((List.length (l45_0R m (m + 24) x0 ((((List.length x0) : Nat) : Int)) 0 ([(34)])).2.2) + 1) * 1) ≤ 70368744177664) = true then
      if decide (((List.length (l45_0R m (m + 24) x0 ((((List.length x0) : Nat) : Int)) 0 ([(34)])).2.2) + 1) = 0) = true then
        none
      else
        if (((decide (((((List.length (l45_0R m (m + 24) x0 ((((List.length x0) : Nat) : Int)) 0 ([(34)])).2.2) + 1) : Nat) : Int) = (((List.length ((l45_0R m (m + 24) x0 ((((List.length x0) : Nat) : Int)) 0 ([(34)])).2.2 ++ [(34)])) : Nat) : Int)) && (!List.isEmpty ((l45_0R m (m + 24) x0 ((((List.length x0) : Nat) : Int)) 0 ([(34)])).2.2 ++ [(34)]))) && decide ((List.length ((l45_0R m (m + 24) x0 ((((List.length x0) : Nat) : Int)) 0 ([(34)])).2.2 ++ [(34)])) ≤ 9223372036854775807)) && List.all ((l45_0R m (m + 24) x0 ((((List.length x0) : Nat) : Int)) 0 ([(34)])).2.2 ++ [(34)]) (fun n => decide (0 ≤ n) && decide (n < 256))) = true then
          some ((List.map (fun (n : Int) => UInt8.ofNat n.toNat) ((l45_0R m (m + 24) x0 ((((List.length x0) : Nat) : Int)) 0 ([(34)])).2.2 ++ [(34)])))
        else
          none
    else
      none
  else
    none
set_option maxHeartbeats 20000000 in
theorem p45_ok (m : Nat) (x0 : List UInt8) (q : (List UInt8)) (h : p45 m x0 = some q) : ∃ r B1, (evCall F S12 (m + 25) 45 [(.d (.str x0))] []).run = some (r, B1) ∧ 0 ≤ B1.length ∧ wkR B1 [] r (.d (.str q)) ∧ wkBs B1 [] 0 [] := by
  unfold p45 at h
  refine ite_cases h (fun c3 h => ?_) (fun c3 h => ?_)
  · skip
    refine ite_cases h (fun c5 h => ?_) (fun c5 h => ?_)
    · skip
      refine ite_cases h (fun c7 h => ?_) (fun c7 h => ?_)
      · skip
        cases h
      · skip
        refine ite_cases h (fun c8 h => ?_) (fun c8 h => ?_)
        · skip
          cases h
          refine ⟨(.d (.str (List.map (fun (n : Int) => UInt8.ofNat n.toNat) ((l45_0R m (m + 24) x0 ((((List.length x0) : Nat) : Int)) 0 ([(34)])).2.2 ++ [(34)])))), [], runT_ok (LS := (fun k => if k = 393 then some (l45_0E x0 (((((List.length x0) : Nat) : Int))) ((l45_0R m (m + 24) x0 ((((List.length x0) : Nat) : Int)) 0 ([(34)])).2.1) ((l45_0R m (m + 24) x0 ((((List.length x0) : Nat) : Int)) 0 ([(34)])).2.2) 0) else none)) (fn := fn45) (vis := [(393, l45_0H x0 ((((List.length x0) : Nat) : Int)) 0 ([(34)]), l45_0B x0 ((((List.length x0) : Nat) : Int)) 0 ([(34)]))]) (by kernel_rfl) rfl (by kernel_rfl) (M.run_of_path _ [true, false, true, true, true, true, true, true] _ _ (by kernel_rfl) (all_t rfl (all_f Bool.false_ne_true (all_t rfl (all_t rfl (all_t c5 (all_t (show decide ((List.length (l45_0R m (m + 24) x0 ((((List.length x0) : Nat) : Int)) 0 ([(34)])).2.2) = (List.length (l45_0R m (m + 24) x0 ((((List.length x0) : Nat) : Int)) 0 ([(34)])).2.2)) = true from decide_eq_true rfl) (all_nf c7 (all_t c8 all_nil))))))))) ?_, by simp, (wkR.one (wkV.one (wk1.eq rfl))), trivial⟩
          intro p hp p2 hq
          rcases List.mem_cons.1 hp with rfl | hp
          · skip
            have h3 := l45_0_ok m (m + 24) x0 ((((List.length x0) : Nat) : Int)) 0 ([(34)]) _ (some_getD (d := l45_0D) c3)
            exact Eq.trans (Eq.mp (by kernel_rfl) h3) hq
          cases hp
        · skip
          cases h
    · skip
      cases h
  · skip
    cases h

def escI (c : UInt8) : List Int := if UInt8.toNat c = 34 ∨ UInt8.toNat c = 92 then [92, ((UInt8.toNat c : Nat) : Int)] else [((UInt8.toNat c : Nat) : Int)]
def escB (c : UInt8) : List UInt8 := if UInt8.toNat c = 34 ∨ UInt8.toNat c = 92 then [92, c] else [c]
/-- A quoted text. -/
def quoteG (s : List UInt8) : List UInt8 := 34 :: (s.flatMap escB ++ [34])
theorem escB_le (c : UInt8) : (escB c).length ≤ 2 := by unfold escB; split <;> simp
theorem escI_le (c : UInt8) : (escI c).length ≤ 2 := by unfold escI; split <;> simp
theorem esc_map (c : UInt8) : (escI c).map (fun (n : Int) => UInt8.ofNat n.toNat) = escB c := by
  unfold escI escB
  split
  · rw [List.map_cons, List.map_cons, List.map_nil, Int.toNat_natCast, UInt8.ofNat_toNat]; rfl
  · rw [List.map_cons, List.map_nil, Int.toNat_natCast, UInt8.ofNat_toNat]
theorem escI_in (c : UInt8) : ∀ n ∈ escI c, 0 ≤ n ∧ n < 256 := by
  intro n hn
  have := UInt8.toNat_lt c
  unfold escI at hn
  split at hn
  · simp only [List.mem_cons, List.not_mem_nil, or_false] at hn
    omega
  · simp only [List.mem_cons, List.not_mem_nil, or_false] at hn
    omega
theorem flat_le {f : UInt8 → List Int} (hf : ∀ c, (f c).length ≤ 2) : ∀ (s : List UInt8), (s.flatMap f).length ≤ 2 * s.length
  | [] => Nat.le_refl _
  | c :: s => by rw [List.flatMap_cons, List.length_append, List.length_cons]; have := hf c; have := flat_le hf s; omega
theorem flatB_le {f : UInt8 → List UInt8} (hf : ∀ c, (f c).length ≤ 2) : ∀ (s : List UInt8), (s.flatMap f).length ≤ 2 * s.length
  | [] => Nat.le_refl _
  | c :: s => by rw [List.flatMap_cons, List.length_append, List.length_cons]; have := hf c; have := flatB_le hf s; omega
theorem quote_le (s : List UInt8) : (quoteG s).length ≤ 2 * s.length + 2 := by
  unfold quoteG
  rw [List.length_cons, List.length_append]
  have := flatB_le escB_le s
  simp only [List.length_cons, List.length_nil]
  omega
theorem flat_map (s : List UInt8) : (s.flatMap escI).map (fun (n : Int) => UInt8.ofNat n.toNat) = s.flatMap escB := by
  rw [List.map_flatMap]
  congr 1
  funext c
  exact esc_map c
theorem quote_loop (m : Nat) (s : List UInt8) (hs : s.length ≤ 1000000) : ∀ (n k : Nat) (b : List Int), k ≤ s.length → s.length - k < n → b.length + 2 * (s.length - k) ≤ 3000000 → l45_0 m n s (s.length : Nat) (k : Nat) b = some (0, ((s.length : Nat) : Int), b ++ (s.drop k).flatMap escI)
  | 0, k, _, _, h, _ => by omega
  | n + 1, k, b, h1, h2, h3 => by
    rw [l45_0]
    by_cases hk : k < s.length
    · have e1 : decide (((k : Nat) : Int) < (((List.length s) : Nat) : Int)) = true := decide_eq_true (by omega)
      have e2 : decide ((0 : Int) ≤ ((k : Nat) : Int)) = true := decide_eq_true (by omega)
      have e7 : IntKind.wrap .i64 (((k : Nat) : Int) + (1)) = ((k + 1 : Nat) : Int) := by rw [wrap_id (by omega) (by omega)]; rfl
      have go := fun b' (hb : b'.length ≤ b.length + 2) => quote_loop m s hs n (k + 1) b' (by omega) (by omega) (by omega)
      rw [drop_getD s k 0 hk, List.flatMap_cons]
      simp only [show Int.toNat ((k : Nat) : Int) = k from rfl, e1, e2, e7, ↓reduceIte]
      generalize s.getD k 0 = c at *
      have a1 : decide (((List.length b) + 1) * 1 ≤ 70368744177664) = true := decide_eq_true (by omega)
      have a2 : decide ((((List.length b) + 1) + 1) * 1 ≤ 70368744177664) = true := decide_eq_true (by omega)
      have a3 : decide (((List.length b) + 1) = (List.length (b ++ [(92)]))) = true := decide_eq_true (by simp)
      have yes : (UInt8.toNat c = 34 ∨ UInt8.toNat c = 92) → l45_0 m n s (s.length : Nat) ((k + 1 : Nat) : Int) ((b ++ [(92)]) ++ [((UInt8.toNat c : Nat) : Int)]) = some (0, ((s.length : Nat) : Int), b ++ (escI c ++ (s.drop (k + 1)).flatMap escI)) := by
        intro h
        rw [go _ (by simp)]
        unfold escI
        rw [if_pos h]
        simp
      have no : ¬ (UInt8.toNat c = 34 ∨ UInt8.toNat c = 92) → l45_0 m n s (s.length : Nat) ((k + 1 : Nat) : Int) (b ++ [((UInt8.toNat c : Nat) : Int)]) = some (0, ((s.length : Nat) : Int), b ++ (escI c ++ (s.drop (k + 1)).flatMap escI)) := by
        intro h
        rw [go _ (by simp)]
        unfold escI
        rw [if_neg h]
        simp
      simp only [a1, a2, a3, ↓reduceIte]
      by_cases c1 : UInt8.toNat c = 34
      · rw [if_pos (by rw [c1]; rfl)]; exact yes (.inl c1)
      · rw [if_neg (by simp; omega)]
        by_cases c2 : UInt8.toNat c = 92
        · rw [if_pos (by rw [c2]; rfl)]; exact yes (.inr c2)
        · rw [if_neg (by simp; omega)]; exact no (by simp [c1, c2])
    · have e1 : decide (((k : Nat) : Int) < (((List.length s) : Nat) : Int)) = false := decide_eq_false (by omega)
      have e0 : k = s.length := by omega
      subst e0
      rw [e1, if_neg (by simp), List.drop_length]
      simp
theorem quote45 (s : List UInt8) (h : decide (s.length ≤ 1000000) = true) : ∃ m, p45 m s = some (quoteG s) := by
  have h := of_decide_eq_true h
  refine ⟨s.length, ?_⟩
  have hr := quote_loop s.length s h (s.length + 24) 0 [(34)] (by omega) (by omega) (by simp; omega)
  simp only [Int.natCast_zero, List.drop_zero] at hr
  have hl := flat_le escI_le s
  have hin : ∀ n ∈ s.flatMap escI, 0 ≤ n ∧ n < 256 := by
    intro n hn
    obtain ⟨c, _, hc⟩ := List.mem_flatMap.1 hn
    exact escI_in c n hc
  have hm := flat_map s
  unfold p45 quoteG
  simp only [l45_0R, hr, Option.isSome_some, Option.getD_some, ↓reduceIte]
  generalize s.flatMap escI = t at *
  have l1 : List.length ([(34)] ++ t : List Int) = t.length + 1 := by simp
  have l2 : List.length ([(34)] ++ t ++ [(34)] : List Int) = t.length + 2 := by simp
  rw [l1, l2, if_pos (decide_eq_true (by omega)), if_neg (by simp)]
  rw [if_pos]
  · rw [List.map_append, List.map_append, hm]; rfl
  · rw [Bool.and_eq_true, Bool.and_eq_true, Bool.and_eq_true]
    refine ⟨⟨⟨decide_eq_true rfl, by simp⟩, decide_eq_true (by omega)⟩, ?_⟩
    rw [List.all_eq_true]
    intro n hn
    rw [Bool.and_eq_true, decide_eq_true_eq, decide_eq_true_eq]
    simp only [List.mem_append, List.mem_cons, List.not_mem_nil, or_false] at hn
    rcases hn with (rfl | hn) | rfl
    · omega
    · exact hin n hn
    · omega
def s45 : List AV → Boxes → M (AV × Boxes) := normS [.val .str] [] fun xs B => match xs, B with
  | [(.d (.str c1))], [] => .chk (decide (List.length c1 ≤ 1000000)) (.ret ((.d (.str (quoteG c1))), []))
  | _, _ => .fail
theorem s45_at : CallAt Tryd.prog 45 s45 := by
  refine CallAt.norm (CallAt.weakE (g := fun n => evCall F S12 n 45) (fun n => evCall_atH mixed kinds hds S12 S12_ok n 45) fun xs B r' B' hr => ?_) _ _
  split at hr
  · rename_i c1
    obtain ⟨hp, hr⟩ := (M.run_chk _ _ _).1 hr
    simp only [M.run, Option.some.injEq, Prod.mk.injEq] at hr
    obtain ⟨rfl, rfl⟩ := hr
    obtain ⟨m, hm⟩ := quote45 c1 hp
    obtain ⟨r, B1, h1, h2, h3, h4⟩ := p45_ok m c1 _ hm
    exact ⟨m + 25, r, B1, h1, by simp, h2, h3, h4⟩
  · simp [M.run] at hr
noncomputable def S13 : FuncId → Option (List AV → Boxes → M (AV × Boxes)) := fun f => if f = 45 then some s45 else S12 f
set_option maxHeartbeats 20000000 in
theorem S13_ok : ∀ f s, S13 f = some s → CallAt Tryd.prog f s := by
  intro f s h
  unfold S13 at h
  split at h
  · rename_i e; subst e; cases h; exact s45_at
  · exact S12_ok f s h

end Go.Proofs.YtghkbjflejgieaaDoor.Dec
namespace Go.Proofs.YtghkbjflejgieaaDoor.Dec
open Go.Ev
set_option linter.unusedVariables false
set_option linter.unusedSimpArgs false
set_option maxRecDepth 100000
noncomputable def fn22 : AFn := (F 22).getD ⟨0, [], .bad, false, false, noHd⟩
noncomputable def body22 : AC := fn22.body
def l22_0 (m : Nat) : Nat → List ((List UInt8) × (List UInt8) × Int) → Int → Int → List (List UInt8) → Option (Nat × Int × (List (List UInt8)))
  | 0, _, _, _, _ => none
  | n + 1, x0, s10, s11, b0 => if decide (s11 < s10) = true then
      if decide (0 ≤ s11) = true then
        if decide (s11 < (((List.length x0) : Nat) : Int)) = true then
          if ((List.getD x0 (Int.toNat s11) (([] : List UInt8), (([] : List UInt8), 0))).2.2 == (1)) = true then
            if decide (List.length (List.getD x0 (Int.toNat s11) (([] : List UInt8), (([] : List UInt8), 0))).1 + List.length ([61] : List UInt8) ≤ 4611686018427387904) = true then
              if decide (List.length (List.getD x0 (Int.toNat s11) (([] : List UInt8), (([] : List UInt8), 0))).2.1 ≤ 1000000) = true then
                if decide (List.length ((List.getD x0 (Int.toNat s11) (([] : List UInt8), (([] : List UInt8), 0))).1 ++ ([61] : List UInt8)) + List.length (quoteG (List.getD x0 (Int.toNat s11) (([] : List UInt8), (([] : List UInt8), 0))).2.1) ≤ 4611686018427387904) = true then
                  if decide ((((List.length b0) + 1) * 16) ≤ 70368744177664) = true then
                    l22_0 m n x0 s10 ((IntKind.wrap .i64 (s11 + (1)))) ((b0 ++ [(((List.getD x0 (Int.toNat s11) (([] : List UInt8), (([] : List UInt8), 0))).1 ++ ([61] : List UInt8)) ++ (quoteG (List.getD x0 (Int.toNat s11) (([] : List UInt8), (([] : List UInt8), 0))).2.1))]))
                  else
                    none
                else
                  none
              else
                none
            else
              none
          else
            if ((List.getD x0 (Int.toNat s11) (([] : List UInt8), (([] : List UInt8), 0))).2.2 == (2)) = true then
              if decide (List.length (List.getD x0 (Int.toNat s11) (([] : List UInt8), (([] : List UInt8), 0))).1 + List.length ([33, 61] : List UInt8) ≤ 4611686018427387904) = true then
                if decide (List.length (List.getD x0 (Int.toNat s11) (([] : List UInt8), (([] : List UInt8), 0))).2.1 ≤ 1000000) = true then
                  if decide (List.length ((List.getD x0 (Int.toNat s11) (([] : List UInt8), (([] : List UInt8), 0))).1 ++ ([33, 61] : List UInt8)) + List.length (quoteG (List.getD x0 (Int.toNat s11) (([] : List UInt8), (([] : List UInt8), 0))).2.1) ≤ 4611686018427387904) = true then
                    if decide ((((List.length b0) + 1) * 16) ≤ 70368744177664) = true then
                      l22_0 m n x0 s10 ((IntKind.wrap .i64 (s11 + (1)))) ((b0 ++ [(((List.getD x0 (Int.toNat s11) (([] : List UInt8), (([] : List UInt8), 0))).1 ++ ([33, 61] : List UInt8)) ++ (quoteG (List.getD x0 (Int.toNat s11) (([] : List UInt8), (([] : List UInt8), 0))).2.1))]))
                    else
                      none
                  else
                    none
                else
                  none
              else
                none
            else
              if ((List.getD x0 (Int.toNat s11) (([] : List UInt8), (([] : List UInt8), 0))).2.2 == (3)) = true then
                if decide (List.length (List.getD x0 (Int.toNat s11) (([] : List UInt8), (([] : List UInt8), 0))).1 + List.length ([94, 61] : List UInt8) ≤ 4611686018427387904) = true then
                  if decide (List.length (List.getD x0 (Int.toNat s11) (([] : List UInt8), (([] : List UInt8), 0))).2.1 ≤ 1000000) = true then
                    if decide (List.length ((List.getD x0 (Int.toNat s11) (([] : List UInt8), (([] : List UInt8), 0))).1 ++ ([94, 61] : List UInt8)) + List.length (quoteG (List.getD x0 (Int.toNat s11) (([] : List UInt8), (([] : List UInt8), 0))).2.1) ≤ 4611686018427387904) = true then
                      if decide ((((List.length b0) + 1) * 16) ≤ 70368744177664) = true then
                        l22_0 m n x0 s10 ((IntKind.wrap .i64 (s11 + (1)))) ((b0 ++ [(((List.getD x0 (Int.toNat s11) (([] : List UInt8), (([] : List UInt8), 0))).1 ++ ([94, 61] : List UInt8)) ++ (quoteG (List.getD x0 (Int.toNat s11) (([] : List UInt8), (([] : List UInt8), 0))).2.1))]))
                      else
                        none
                    else
                      none
                  else
                    none
                else
                  none
              else
                if ((List.getD x0 (Int.toNat s11) (([] : List UInt8), (([] : List UInt8), 0))).2.2 == (4)) = true then
                  if decide (List.length (List.getD x0 (Int.toNat s11) (([] : List UInt8), (([] : List UInt8), 0))).1 + List.length ([33, 94] : List UInt8) ≤ 4611686018427387904) = true then
                    if decide (List.length (List.getD x0 (Int.toNat s11) (([] : List UInt8), (([] : List UInt8), 0))).2.1 ≤ 1000000) = true then
                      if decide (List.length ((List.getD x0 (Int.toNat s11) (([] : List UInt8), (([] : List UInt8), 0))).1 ++ ([33, 94] : List UInt8)) + List.length (quoteG (List.getD x0 (Int.toNat s11) (([] : List UInt8), (([] : List UInt8), 0))).2.1) ≤ 4611686018427387904) = true then
                        if decide ((((List.length b0) + 1) * 16) ≤ 70368744177664) = true then
                          l22_0 m n x0 s10 ((IntKind.wrap .i64 (s11 + (1)))) ((b0 ++ [(((List.getD x0 (Int.toNat s11) (([] : List UInt8), (([] : List UInt8), 0))).1 ++ ([33, 94] : List UInt8)) ++ (quoteG (List.getD x0 (Int.toNat s11) (([] : List UInt8), (([] : List UInt8), 0))).2.1))]))
                        else
                          none
                      else
                        none
                    else
                      none
                  else
                    none
                else
                  if decide (List.length (List.getD x0 (Int.toNat s11) (([] : List UInt8), (([] : List UInt8), 0))).1 + List.length ([] : List UInt8) ≤ 4611686018427387904) = true then
                    if decide (List.length (List.getD x0 (Int.toNat s11) (([] : List UInt8), (([] : List UInt8), 0))).2.1 ≤ 1000000) = true then
                      if decide (List.length ((List.getD x0 (Int.toNat s11) (([] : List UInt8), (([] : List UInt8), 0))).1 ++ ([] : List UInt8)) + List.length (quoteG (List.getD x0 (Int.toNat s11) (([] : List UInt8), (([] : List UInt8), 0))).2.1) ≤ 4611686018427387904) = true then
                        if decide ((((List.length b0) + 1) * 16) ≤ 70368744177664) = true then
                          l22_0 m n x0 s10 ((IntKind.wrap .i64 (s11 + (1)))) ((b0 ++ [(((List.getD x0 (Int.toNat s11) (([] : List UInt8), (([] : List UInt8), 0))).1 ++ ([] : List UInt8)) ++ (quoteG (List.getD x0 (Int.toNat s11) (([] : List UInt8), (([] : List UInt8), 0))).2.1))]))
                        else
                          none
                      else
                        none
                    else
                      none
                  else
                    none
        else
          none
      else
        none
    else
      some (0, s11, b0)
def l22_0D : Nat × Int × (List (List UInt8)) := (0, 0, [])
@[reducible] def l22_0R (m n : Nat) (x0 : List ((List UInt8) × (List UInt8) × Int)) (s10 : Int) (s11 : Int) (b0 : List (List UInt8)) : Nat × Int × (List (List UInt8)) := Option.getD (l22_0 m n x0 s10 s11 b0) l22_0D
def l22_0H (x0 : List ((List UInt8) × (List UInt8) × Int)) (s10 : Int) (s11 : Int) (b0 : List (List UInt8)) : Env := [.top, .top, .top, (.sr 0 0 (List.length b0) 1 none), .top, .top, .top, .top, .top, (.d (.sl (.pair .str (.pair .str (.int .i64))) x0)), (.d (.int .i64 s10)), (.d (.int .i64 s11)), .top, .top, .top, .top, .top, .top, .top, .top, .top, .top, .top, .top, .top, .top, .top, .top, .top, .top, .top, .top, .top]
def l22_0B (x0 : List ((List UInt8) × (List UInt8) × Int)) (s10 : Int) (s11 : Int) (b0 : List (List UInt8)) : Boxes := [(.arr .str b0 true)]
def l22_0E (x0 : List ((List UInt8) × (List UInt8) × Int)) (s10 : Int) (s11 : Int) (b0 : List (List UInt8)) : Nat → AEx × Env × Boxes
  | _ => (.exit 0, [.top, .top, .top, (.sr 0 0 (List.length b0) 1 none), .top, .top, .top, .top, .top, (.d (.sl (.pair .str (.pair .str (.int .i64))) x0)), (.d (.int .i64 s10)), (.d (.int .i64 s11)), (.d (.bool (decide (s11 < s10)))), .top, .top, .top, .top, .top, .top, .top, .top, .top, .top, .top, .top, .top, .top, .top, .top, .top, .top, .top, .top], [(.arr .str b0 true)])
noncomputable def lbl22_0 : AC := loopBody 3592 body22

set_option maxHeartbeats 20000000 in
theorem l22_0_w0 (m n : Nat) (x0 : List ((List UInt8) × (List UInt8) × Int)) (s10 : Int) (s11 : Int) (b0 : List (List UInt8)) (r : AEx × Env × Boxes) (c0 : decide (s11 < s10) = true) (c1 : decide (0 ≤ s11) = true) (c2 : decide (s11 < (((List.length x0) : Nat) : Int)) = true) (c3 : ((List.getD x0 (Int.toNat s11) (([] : List UInt8), (([] : List UInt8), 0))).2.2 == (1)) = true) (c4 : decide (List.length (List.getD x0 (Int.toNat s11) (([] : List UInt8), (([] : List UInt8), 0))).1 + List.length ([61] : List UInt8) ≤ 4611686018427387904) = true) (c5 : decide (List.length (List.getD x0 (Int.toNat s11) (([] : List UInt8), (([] : List UInt8), 0))).2.1 ≤ 1000000) = true) (c6 : decide (List.length ((List.getD x0 (Int.toNat s11) (([] : List UInt8), (([] : List UInt8), 0))).1 ++ ([61] : List UInt8)) + List.length (quoteG (List.getD x0 (Int.toNat s11) (([] : List UInt8), (([] : List UInt8), 0))).2.1) ≤ 4611686018427387904) = true) (c8 : decide ((((List.length b0) + 1) * 16) ≤ 70368744177664) = true) (ih : (turns (hds 22 3592) 0 3592 (evC byref (evCall F S13 (m + 24)) (m + 24) 0 (hds 22) lbl22_0) n (l22_0H x0 s10 ((IntKind.wrap .i64 (s11 + (1)))) ((b0 ++ [(((List.getD x0 (Int.toNat s11) (([] : List UInt8), (([] : List UInt8), 0))).1 ++ ([61] : List UInt8)) ++ (quoteG (List.getD x0 (Int.toNat s11) (([] : List UInt8), (([] : List UInt8), 0))).2.1))]))) (l22_0B x0 s10 ((IntKind.wrap .i64 (s11 + (1)))) ((b0 ++ [(((List.getD x0 (Int.toNat s11) (([] : List UInt8), (([] : List UInt8), 0))).1 ++ ([61] : List UInt8)) ++ (quoteG (List.getD x0 (Int.toNat s11) (([] : List UInt8), (([] : List UInt8), 0))).2.1))])))).run = some r) : (turns (hds 22 3592) 0 3592 (evC byref (evCall F S13 (m + 24)) (m + 24) 0 (hds 22) lbl22_0) (n + 1) (l22_0H x0 s10 s11 b0) (l22_0B x0 s10 s11 b0)).run = some r := by
  have ht : (turn (hds 22 3592) 0 3592 (evC byref (evCall F S13 (m + 24)) (m + 24) 0 (hds 22) lbl22_0) (l22_0H x0 s10 s11 b0) (l22_0B x0 s10 s11 b0)).run = some (.normal, [.top, .top, .top, (.sr 0 0 ((List.length b0) + 1) 1 none), .top, .top, .top, .top, .top, (.d (.sl (.pair .str (.pair .str (.int .i64))) x0)), (.d (.int .i64 s10)), (.d (.int .i64 (IntKind.wrap .i64 (s11 + (1))))), .top, .top, .top, .top, .top, .top, .top, .top, .top, .top, .top, .top, .top, .top, .top, .top, .top, .top, .top, .top, .top], [(.arr .str (b0 ++ [(((List.getD x0 (Int.toNat s11) (([] : List UInt8), (([] : List UInt8), 0))).1 ++ ([61] : List UInt8)) ++ (quoteG (List.getD x0 (Int.toNat s11) (([] : List UInt8), (([] : List UInt8), 0))).2.1))]) true)]) := M.run_of_path _ [true, true, true, true, true, true, true, true, true, true] _ _ (by kernel_rfl) (all_t c0 (all_t c1 (all_t c2 (all_t c3 (all_t c4 (all_t c5 (all_t c6 (all_t rfl (all_t c8 (all_t (show decide ((List.length b0) = (List.length b0)) = true from decide_eq_true rfl) all_nil))))))))))
  refine turns_step ht (turns_eq ?_ ?_ ih)
  · unfold l22_0H
    first | (simp; done) | (simp [Nat.add_assoc]; done)
  · unfold l22_0B
    simp
set_option maxHeartbeats 20000000 in
theorem l22_0_w1 (m n : Nat) (x0 : List ((List UInt8) × (List UInt8) × Int)) (s10 : Int) (s11 : Int) (b0 : List (List UInt8)) (r : AEx × Env × Boxes) (c0 : decide (s11 < s10) = true) (c1 : decide (0 ≤ s11) = true) (c2 : decide (s11 < (((List.length x0) : Nat) : Int)) = true) (c3 : ¬ ((List.getD x0 (Int.toNat s11) (([] : List UInt8), (([] : List UInt8), 0))).2.2 == (1)) = true) (c4 : ((List.getD x0 (Int.toNat s11) (([] : List UInt8), (([] : List UInt8), 0))).2.2 == (2)) = true) (c5 : decide (List.length (List.getD x0 (Int.toNat s11) (([] : List UInt8), (([] : List UInt8), 0))).1 + List.length ([33, 61] : List UInt8) ≤ 4611686018427387904) = true) (c6 : decide (List.length (List.getD x0 (Int.toNat s11) (([] : List UInt8), (([] : List UInt8), 0))).2.1 ≤ 1000000) = true) (c7 : decide (List.length ((List.getD x0 (Int.toNat s11) (([] : List UInt8), (([] : List UInt8), 0))).1 ++ ([33, 61] : List UInt8)) + List.length (quoteG (List.getD x0 (Int.toNat s11) (([] : List UInt8), (([] : List UInt8), 0))).2.1) ≤ 4611686018427387904) = true) (c9 : decide ((((List.length b0) + 1) * 16) ≤ 70368744177664) = true) (ih : (turns (hds 22 3592) 0 3592 (evC byref (evCall F S13 (m + 24)) (m + 24) 0 (hds 22) lbl22_0) n (l22_0H x0 s10 ((IntKind.wrap .i64 (s11 + (1)))) ((b0 ++ [(((List.getD x0 (Int.toNat s11) (([] : List UInt8), (([] : List UInt8), 0))).1 ++ ([33, 61] : List UInt8)) ++ (quoteG (List.getD x0 (Int.toNat s11) (([] : List UInt8), (([] : List UInt8), 0))).2.1))]))) (l22_0B x0 s10 ((IntKind.wrap .i64 (s11 + (1)))) ((b0 ++ [(((List.getD x0 (Int.toNat s11) (([] : List UInt8), (([] : List UInt8), 0))).1 ++ ([33, 61] : List UInt8)) ++ (quoteG (List.getD x0 (Int.toNat s11) (([] : List UInt8), (([] : List UInt8), 0))).2.1))])))).run = some r) : (turns (hds 22 3592) 0 3592 (evC byref (evCall F S13 (m + 24)) (m + 24) 0 (hds 22) lbl22_0) (n + 1) (l22_0H x0 s10 s11 b0) (l22_0B x0 s10 s11 b0)).run = some r := by
  have ht : (turn (hds 22 3592) 0 3592 (evC byref (evCall F S13 (m + 24)) (m + 24) 0 (hds 22) lbl22_0) (l22_0H x0 s10 s11 b0) (l22_0B x0 s10 s11 b0)).run = some (.normal, [.top, .top, .top, (.sr 0 0 ((List.length b0) + 1) 1 none), .top, .top, .top, .top, .top, (.d (.sl (.pair .str (.pair .str (.int .i64))) x0)), (.d (.int .i64 s10)), (.d (.int .i64 (IntKind.wrap .i64 (s11 + (1))))), .top, .top, .top, .top, .top, .top, .top, .top, .top, .top, .top, .top, .top, .top, .top, .top, .top, .top, .top, .top, .top], [(.arr .str (b0 ++ [(((List.getD x0 (Int.toNat s11) (([] : List UInt8), (([] : List UInt8), 0))).1 ++ ([33, 61] : List UInt8)) ++ (quoteG (List.getD x0 (Int.toNat s11) (([] : List UInt8), (([] : List UInt8), 0))).2.1))]) true)]) := M.run_of_path _ [true, true, true, false, true, true, true, true, true, true, true] _ _ (by kernel_rfl) (all_t c0 (all_t c1 (all_t c2 (all_f c3 (all_t c4 (all_t c5 (all_t c6 (all_t c7 (all_t rfl (all_t c9 (all_t (show decide ((List.length b0) = (List.length b0)) = true from decide_eq_true rfl) all_nil)))))))))))
  refine turns_step ht (turns_eq ?_ ?_ ih)
  · unfold l22_0H
    first | (simp; done) | (simp [Nat.add_assoc]; done)
  · unfold l22_0B
    simp
set_option maxHeartbeats 20000000 in
theorem l22_0_w2 (m n : Nat) (x0 : List ((List UInt8) × (List UInt8) × Int)) (s10 : Int) (s11 : Int) (b0 : List (List UInt8)) (r : AEx × Env × Boxes) (c0 : decide (s11 < s10) = true) (c1 : decide (0 ≤ s11) = true) (c2 : decide (s11 < (((List.length x0) : Nat) : Int)) = true) (c3 : ¬ ((List.getD x0 (Int.toNat s11) (([] : List UInt8), (([] : List UInt8), 0))).2.2 == (1)) = true) (c4 : ¬ ((List.getD x0 (Int.toNat s11) (([] : List UInt8), (([] : List UInt8), 0))).2.2 == (2)) = true) (c5 : ((List.getD x0 (Int.toNat s11) (([] : List UInt8), (([] : List UInt8), 0))).2.2 == (3)) = true) (c6 : decide (List.length (List.getD x0 (Int.toNat s11) (([] : List UInt8), (([] : List UInt8), 0))).1 + List.length ([94, 61] : List UInt8) ≤ 4611686018427387904) = true) (c7 : decide (List.length (List.getD x0 (Int.toNat s11) (([] : List UInt8), (([] : List UInt8), 0))).2.1 ≤ 1000000) = true) (c8 : decide (List.length ((List.getD x0 (Int.toNat s11) (([] : List UInt8), (([] : List UInt8), 0))).1 ++ ([94, 61] : List UInt8)) + List.length (quoteG (List.getD x0 (Int.toNat s11) (([] : List UInt8), (([] : List UInt8), 0))).2.1) ≤ 4611686018427387904) = true) (c10 : decide ((((List.length b0) + 1) * 16) ≤ 70368744177664) = true) (ih : (turns (hds 22 3592) 0 3592 (evC byref (evCall F S13 (m + 24)) (m + 24) 0 (hds 22) lbl22_0) n (l22_0H x0 s10 ((IntKind.wrap .i64 (s11 + (1)))) ((b0 ++ [(((List.getD x0 (Int.toNat s11) (([] : List UInt8), (([] : List UInt8), 0))).1 ++ ([94, 61] : List UInt8)) ++ (quoteG (List.getD x0 (Int.toNat s11) (([] : List UInt8), (([] : List UInt8), 0))).2.1))]))) (l22_0B x0 s10 ((IntKind.wrap .i64 (s11 + (1)))) ((b0 ++ [(((List.getD x0 (Int.toNat s11) (([] : List UInt8), (([] : List UInt8), 0))).1 ++ ([94, 61] : List UInt8)) ++ (quoteG (List.getD x0 (Int.toNat s11) (([] : List UInt8), (([] : List UInt8), 0))).2.1))])))).run = some r) : (turns (hds 22 3592) 0 3592 (evC byref (evCall F S13 (m + 24)) (m + 24) 0 (hds 22) lbl22_0) (n + 1) (l22_0H x0 s10 s11 b0) (l22_0B x0 s10 s11 b0)).run = some r := by
  have ht : (turn (hds 22 3592) 0 3592 (evC byref (evCall F S13 (m + 24)) (m + 24) 0 (hds 22) lbl22_0) (l22_0H x0 s10 s11 b0) (l22_0B x0 s10 s11 b0)).run = some (.normal, [.top, .top, .top, (.sr 0 0 ((List.length b0) + 1) 1 none), .top, .top, .top, .top, .top, (.d (.sl (.pair .str (.pair .str (.int .i64))) x0)), (.d (.int .i64 s10)), (.d (.int .i64 (IntKind.wrap .i64 (s11 + (1))))), .top, .top, .top, .top, .top, .top, .top, .top, .top, .top, .top, .top, .top, .top, .top, .top, .top, .top, .top, .top, .top], [(.arr .str (b0 ++ [(((List.getD x0 (Int.toNat s11) (([] : List UInt8), (([] : List UInt8), 0))).1 ++ ([94, 61] : List UInt8)) ++ (quoteG (List.getD x0 (Int.toNat s11) (([] : List UInt8), (([] : List UInt8), 0))).2.1))]) true)]) := M.run_of_path _ [true, true, true, false, false, true, true, true, true, true, true, true] _ _ (by kernel_rfl) (all_t c0 (all_t c1 (all_t c2 (all_f c3 (all_f c4 (all_t c5 (all_t c6 (all_t c7 (all_t c8 (all_t rfl (all_t c10 (all_t (show decide ((List.length b0) = (List.length b0)) = true from decide_eq_true rfl) all_nil))))))))))))
  refine turns_step ht (turns_eq ?_ ?_ ih)
  · unfold l22_0H
    first | (simp; done) | (simp [Nat.add_assoc]; done)
  · unfold l22_0B
    simp
set_option maxHeartbeats 20000000 in
theorem l22_0_w3 (m n : Nat) (x0 : List ((List UInt8) × (List UInt8) × Int)) (s10 : Int) (s11 : Int) (b0 : List (List UInt8)) (r : AEx × Env × Boxes) (c0 : decide (s11 < s10) = true) (c1 : decide (0 ≤ s11) = true) (c2 : decide (s11 < (((List.length x0) : Nat) : Int)) = true) (c3 : ¬ ((List.getD x0 (Int.toNat s11) (([] : List UInt8), (([] : List UInt8), 0))).2.2 == (1)) = true) (c4 : ¬ ((List.getD x0 (Int.toNat s11) (([] : List UInt8), (([] : List UInt8), 0))).2.2 == (2)) = true) (c5 : ¬ ((List.getD x0 (Int.toNat s11) (([] : List UInt8), (([] : List UInt8), 0))).2.2 == (3)) = true) (c6 : ((List.getD x0 (Int.toNat s11) (([] : List UInt8), (([] : List UInt8), 0))).2.2 == (4)) = true) (c7 : decide (List.length (List.getD x0 (Int.toNat s11) (([] : List UInt8), (([] : List UInt8), 0))).1 + List.length ([33, 94] : List UInt8) ≤ 4611686018427387904) = true) (c8 : decide (List.length (List.getD x0 (Int.toNat s11) (([] : List UInt8), (([] : List UInt8), 0))).2.1 ≤ 1000000) = true) (c9 : decide (List.length ((List.getD x0 (Int.toNat s11) (([] : List UInt8), (([] : List UInt8), 0))).1 ++ ([33, 94] : List UInt8)) + List.length (quoteG (List.getD x0 (Int.toNat s11) (([] : List UInt8), (([] : List UInt8), 0))).2.1) ≤ 4611686018427387904) = true) (c11 : decide ((((List.length b0) + 1) * 16) ≤ 70368744177664) = true) (ih : (turns (hds 22 3592) 0 3592 (evC byref (evCall F S13 (m + 24)) (m + 24) 0 (hds 22) lbl22_0) n (l22_0H x0 s10 ((IntKind.wrap .i64 (s11 + (1)))) ((b0 ++ [(((List.getD x0 (Int.toNat s11) (([] : List UInt8), (([] : List UInt8), 0))).1 ++ ([33, 94] : List UInt8)) ++ (quoteG (List.getD x0 (Int.toNat s11) (([] : List UInt8), (([] : List UInt8), 0))).2.1))]))) (l22_0B x0 s10 ((IntKind.wrap .i64 (s11 + (1)))) ((b0 ++ [(((List.getD x0 (Int.toNat s11) (([] : List UInt8), (([] : List UInt8), 0))).1 ++ ([33, 94] : List UInt8)) ++ (quoteG (List.getD x0 (Int.toNat s11) (([] : List UInt8), (([] : List UInt8), 0))).2.1))])))).run = some r) : (turns (hds 22 3592) 0 3592 (evC byref (evCall F S13 (m + 24)) (m + 24) 0 (hds 22) lbl22_0) (n + 1) (l22_0H x0 s10 s11 b0) (l22_0B x0 s10 s11 b0)).run = some r := by
  have ht : (turn (hds 22 3592) 0 3592 (evC byref (evCall F S13 (m + 24)) (m + 24) 0 (hds 22) lbl22_0) (l22_0H x0 s10 s11 b0) (l22_0B x0 s10 s11 b0)).run = some (.normal, [.top, .top, .top, (.sr 0 0 ((List.length b0) + 1) 1 none), .top, .top, .top, .top, .top, (.d (.sl (.pair .str (.pair .str (.int .i64))) x0)), (.d (.int .i64 s10)), (.d (.int .i64 (IntKind.wrap .i64 (s11 + (1))))), .top, .top, .top, .top, .top, .top, .top, .top, .top, .top, .top, .top, .top, .top, .top, .top, .top, .top, .top, .top, .top], [(.arr .str (b0 ++ [(((List.getD x0 (Int.toNat s11) (([] : List UInt8), (([] : List UInt8), 0))).1 ++ ([33, 94] : List UInt8)) ++ (quoteG (List.getD x0 (Int.toNat s11) (([] : List UInt8), (([] : List UInt8), 0))).2.1))]) true)]) := M.run_of_path _ [true, true, true, false, false, false, true, true, true, true, true, true, true] _ _ (by kernel_rfl) (all_t c0 (all_t c1 (all_t c2 (all_f c3 (all_f c4 (all_f c5 (all_t c6 (all_t c7 (all_t c8 (all_t c9 (all_t rfl (all_t c11 (all_t (show decide ((List.length b0) = (List.length b0)) = true from decide_eq_true rfl) all_nil)))))))))))))
  refine turns_step ht (turns_eq ?_ ?_ ih)
  · unfold l22_0H
    first | (simp; done) | (simp [Nat.add_assoc]; done)
  · unfold l22_0B
    simp
set_option maxHeartbeats 20000000 in
theorem l22_0_w4 (m n : Nat) (x0 : List ((List UInt8) × (List UInt8) × Int)) (s10 : Int) (s11 : Int) (b0 : List (List UInt8)) (r : AEx × Env × Boxes) (c0 : decide (s11 < s10) = true) (c1 : decide (0 ≤ s11) = true) (c2 : decide (s11 < (((List.length x0) : Nat) : Int)) = true) (c3 : ¬ ((List.getD x0 (Int.toNat s11) (([] : List UInt8), (([] : List UInt8), 0))).2.2 == (1)) = true) (c4 : ¬ ((List.getD x0 (Int.toNat s11) (([] : List UInt8), (([] : List UInt8), 0))).2.2 == (2)) = true) (c5 : ¬ ((List.getD x0 (Int.toNat s11) (([] : List UInt8), (([] : List UInt8), 0))).2.2 == (3)) = true) (c6 : ¬ ((List.getD x0 (Int.toNat s11) (([] : List UInt8), (([] : List UInt8), 0))).2.2 == (4)) = true) (c7 : decide (List.length (List.getD x0 (Int.toNat s11) (([] : List UInt8), (([] : List UInt8), 0))).1 + List.length ([] : List UInt8) ≤ 4611686018427387904) = true) (c8 : decide (List.length (List.getD x0 (Int.toNat s11) (([] : List UInt8), (([] : List UInt8), 0))).2.1 ≤ 1000000) = true) (c9 : decide (List.length ((List.getD x0 (Int.toNat s11) (([] : List UInt8), (([] : List UInt8), 0))).1 ++ ([] : List UInt8)) + List.length (quoteG (List.getD x0 (Int.toNat s11) (([] : List UInt8), (([] : List UInt8), 0))).2.1) ≤ 4611686018427387904) = true) (c11 : decide ((((List.length b0) + 1) * 16) ≤ 70368744177664) = true) (ih : (turns (hds 22 3592) 0 3592 (evC byref (evCall F S13 (m + 24)) (m + 24) 0 (hds 22) lbl22_0) n (l22_0H x0 s10 ((IntKind.wrap .i64 (s11 + (1)))) ((b0 ++ [(((List.getD x0 (Int.toNat s11) (([] : List UInt8), (([] : List UInt8), 0))).1 ++ ([] : List UInt8)) ++ (quoteG (List.getD x0 (Int.toNat s11) (([] : List UInt8), (([] : List UInt8), 0))).2.1))]))) (l22_0B x0 s10 ((IntKind.wrap .i64 (s11 + (1)))) ((b0 ++ [(((List.getD x0 (Int.toNat s11) (([] : List UInt8), (([] : List UInt8), 0))).1 ++ ([] : List UInt8)) ++ (quoteG (List.getD x0 (Int.toNat s11) (([] : List UInt8), (([] : List UInt8), 0))).2.1))])))).run = some r) : (turns (hds 22 3592) 0 3592 (evC byref (evCall F S13 (m + 24)) (m + 24) 0 (hds 22) lbl22_0) (n + 1) (l22_0H x0 s10 s11 b0) (l22_0B x0 s10 s11 b0)).run = some r := by
  have ht : (turn (hds 22 3592) 0 3592 (evC byref (evCall F S13 (m + 24)) (m + 24) 0 (hds 22) lbl22_0) (l22_0H x0 s10 s11 b0) (l22_0B x0 s10 s11 b0)).run = some (.normal, [.top, .top, .top, (.sr 0 0 ((List.length b0) + 1) 1 none), .top, .top, .top, .top, .top, (.d (.sl (.pair .str (.pair .str (.int .i64))) x0)), (.d (.int .i64 s10)), (.d (.int .i64 (IntKind.wrap .i64 (s11 + (1))))), .top, .top, .top, .top, .top, .top, .top, .top, .top, .top, .top, .top, .top, .top, .top, .top, .top, .top, .top, .top, .top], [(.arr .str (b0 ++ [(((List.getD x0 (Int.toNat s11) (([] : List UInt8), (([] : List UInt8), 0))).1 ++ ([] : List UInt8)) ++ (quoteG (List.getD x0 (Int.toNat s11) (([] : List UInt8), (([] : List UInt8), 0))).2.1))]) true)]) := M.run_of_path _ [true, true, true, false, false, false, false, true, true, true, true, true, true] _ _ (by kernel_rfl) (all_t c0 (all_t c1 (all_t c2 (all_f c3 (all_f c4 (all_f c5 (all_f c6 (all_t c7 (all_t c8 (all_t c9 (all_t rfl (all_t c11 (all_t (show decide ((List.length b0) = (List.length b0)) = true from decide_eq_true rfl) all_nil)))))))))))))
  refine turns_step ht (turns_eq ?_ ?_ ih)
  · unfold l22_0H
    first | (simp; done) | (simp [Nat.add_assoc]; done)
  · unfold l22_0B
    simp
set_option maxHeartbeats 20000000 in
theorem l22_0_w5 (m n : Nat) (x0 : List ((List UInt8) × (List UInt8) × Int)) (s10 : Int) (s11 : Int) (b0 : List (List UInt8)) (c0 : ¬ decide (s11 < s10) = true) : (turns (hds 22 3592) 0 3592 (evC byref (evCall F S13 (m + 24)) (m + 24) 0 (hds 22) lbl22_0) (n + 1) (l22_0H x0 s10 s11 b0) (l22_0B x0 s10 s11 b0)).run = some (.exit 0, [.top, .top, .top, (.sr 0 0 (List.length b0) 1 none), .top, .top, .top, .top, .top, (.d (.sl (.pair .str (.pair .str (.int .i64))) x0)), (.d (.int .i64 s10)), (.d (.int .i64 s11)), (.d (.bool (decide (s11 < s10)))), .top, .top, .top, .top, .top, .top, .top, .top, .top, .top, .top, .top, .top, .top, .top, .top, .top, .top, .top, .top], [(.arr .str b0 true)]) := by
  exact turns_last (by simp) (M.run_of_path _ [false] _ _ (by kernel_rfl) (all_f c0 all_nil)) 

set_option maxHeartbeats 20000000 in
theorem l22_0_step (m n : Nat) (ih : ∀ (x0 : List ((List UInt8) × (List UInt8) × Int)) (s10 : Int) (s11 : Int) (b0 : List (List UInt8)) (q : Nat × Int × (List (List UInt8))), l22_0 m n x0 s10 s11 b0 = some q → (turns (hds 22 3592) 0 3592 (evC byref (evCall F S13 (m + 24)) (m + 24) 0 (hds 22) lbl22_0) n (l22_0H x0 s10 s11 b0) (l22_0B x0 s10 s11 b0)).run = some (l22_0E (x0) (s10) (q.2.1) (q.2.2) q.1)) (x0 : List ((List UInt8) × (List UInt8) × Int)) (s10 : Int) (s11 : Int) (b0 : List (List UInt8)) (q : Nat × Int × (List (List UInt8))) (h : l22_0 m (n + 1) x0 s10 s11 b0 = some q) : (turns (hds 22 3592) 0 3592 (evC byref (evCall F S13 (m + 24)) (m + 24) 0 (hds 22) lbl22_0) (n + 1) (l22_0H x0 s10 s11 b0) (l22_0B x0 s10 s11 b0)).run = some (l22_0E (x0) (s10) (q.2.1) (q.2.2) q.1) := by
  rw [l22_0] at h
  refine ite_cases h (fun c0 h => ?_) (fun c0 h => ?_)
  · skip
    refine ite_cases h (fun c1 h => ?_) (fun c1 h => ?_)
    · skip
      refine ite_cases h (fun c2 h => ?_) (fun c2 h => ?_)
      · skip
        refine ite_cases h (fun c3 h => ?_) (fun c3 h => ?_)
        · skip
          refine ite_cases h (fun c4 h => ?_) (fun c4 h => ?_)
          · skip
            refine ite_cases h (fun c5 h => ?_) (fun c5 h => ?_)
            · skip
              refine ite_cases h (fun c6 h => ?_) (fun c6 h => ?_)
              · skip
                refine ite_cases h (fun c8 h => ?_) (fun c8 h => ?_)
                · skip
                  exact l22_0_w0 m n x0 s10 s11 b0 _ c0 c1 c2 c3 c4 c5 c6 c8 (ih _ _ _ _ q h)
                · skip
                  cases h
              · skip
                cases h
            · skip
              cases h
          · skip
            cases h
        · skip
          refine ite_cases h (fun c4 h => ?_) (fun c4 h => ?_)
          · skip
            refine ite_cases h (fun c5 h => ?_) (fun c5 h => ?_)
            · skip
              refine ite_cases h (fun c6 h => ?_) (fun c6 h => ?_)
              · skip
                refine ite_cases h (fun c7 h => ?_) (fun c7 h => ?_)
                · skip
                  refine ite_cases h (fun c9 h => ?_) (fun c9 h => ?_)
                  · skip
                    exact l22_0_w1 m n x0 s10 s11 b0 _ c0 c1 c2 c3 c4 c5 c6 c7 c9 (ih _ _ _ _ q h)
                  · skip
                    cases h
                · skip
                  cases h
              · skip
                cases h
            · skip
              cases h
          · skip
            refine ite_cases h (fun c5 h => ?_) (fun c5 h => ?_)
            · skip
              refine ite_cases h (fun c6 h => ?_) (fun c6 h => ?_)
              · skip
                refine ite_cases h (fun c7 h => ?_) (fun c7 h => ?_)
                · skip
                  refine ite_cases h (fun c8 h => ?_) (fun c8 h => ?_)
                  · skip
                    refine ite_cases h (fun c10 h => ?_) (fun c10 h => ?_)
                    · skip
                      exact l22_0_w2 m n x0 s10 s11 b0 _ c0 c1 c2 c3 c4 c5 c6 c7 c8 c10 (ih _ _ _ _ q h)
                    · skip
                      cases h
                  · skip
                    cases h
                · skip
                  cases h
              · skip
                cases h
            · skip
              refine ite_cases h (fun c6 h => ?_) (fun c6 h => ?_)
              · skip
                refine ite_cases h (fun c7 h => ?_) (fun c7 h => ?_)
                · skip
                  refine ite_cases h (fun c8 h => ?_) (fun c8 h => ?_)
                  · skip
                    refine ite_cases h (fun c9 h => ?_) (fun c9 h => ?_)
                    · skip
                      refine ite_cases h (fun c11 h => ?_) (fun c11 h => ?_)
                      · skip
                        exact l22_0_w3 m n x0 s10 s11 b0 _ c0 c1 c2 c3 c4 c5 c6 c7 c8 c9 c11 (ih _ _ _ _ q h)
                      · skip
                        cases h
                    · skip
                      cases h
                  · skip
                    cases h
                · skip
                  cases h
              · skip
                refine ite_cases h (fun c7 h => ?_) (fun c7 h => ?_)
                · skip
                  refine ite_cases h (fun c8 h => ?_) (fun c8 h => ?_)
                  · skip
                    refine ite_cases h (fun c9 h => ?_) (fun c9 h => ?_)
                    · skip
                      refine ite_cases h (fun c11 h => ?_) (fun c11 h => ?_)
                      · skip
                        exact l22_0_w4 m n x0 s10 s11 b0 _ c0 c1 c2 c3 c4 c5 c6 c7 c8 c9 c11 (ih _ _ _ _ q h)
                      · skip
                        cases h
                    · skip
                      cases h
                  · skip
                    cases h
                · skip
                  cases h
      · skip
        cases h
    · skip
      cases h
  · skip
    cases h
    exact l22_0_w5 m n x0 s10 s11 b0 c0
set_option maxHeartbeats 20000000 in
theorem l22_0_ok (m : Nat) : ∀ (n : Nat) (x0 : List ((List UInt8) × (List UInt8) × Int)) (s10 : Int) (s11 : Int) (b0 : List (List UInt8)) (q : Nat × Int × (List (List UInt8))), l22_0 m n x0 s10 s11 b0 = some q → (turns (hds 22 3592) 0 3592 (evC byref (evCall F S13 (m + 24)) (m + 24) 0 (hds 22) lbl22_0) n (l22_0H x0 s10 s11 b0) (l22_0B x0 s10 s11 b0)).run = some (l22_0E (x0) (s10) (q.2.1) (q.2.2) q.1)
  | 0, x0, s10, s11, b0, q, h => by cases h
  | n + 1, x0, s10, s11, b0, q, h => l22_0_step m n (l22_0_ok m n) x0 s10 s11 b0 q h

def p22 (m : Nat) (x0 : List ((List UInt8) × (List UInt8) × Int)) : Option ((List UInt8)) :=
  if rightPre x0 = true then
    if (rightG x0) = true then
      if (Option.isSome (l22_0 m (m + 24) x0 ((((List.length x0) : Nat) : Int)) 0 (([] : List (List UInt8))))) = true then
        if (decide (List.length (List.take (List.length (l22_0R m (m + 24) x0 ((((List.length x0) : Nat) : Int)) 0 (([] : List (List UInt8)))).2.2) (List.drop 0 (l22_0R m (m + 24) x0 ((((List.length x0) : Nat) : Int)) 0 (([] : List (List UInt8)))).2.2)) ≤ 140737488355328) && decide (List.length (Lib.join (List.take (List.length (l22_0R m (m + 24) x0 ((((List.length x0) : Nat) : Int)) 0 (([] : List (List UInt8)))).2.2) (List.drop 0 (l22_0R m (m + 24) x0 ((((List.length x0) : Nat) : Int)) 0 (([] : List (List UInt8)))).2.2)) ([44] : List UInt8)) ≤ 140737488355328)) = true then
          if decide (List.length ([123] : List UInt8) + List.length (Lib.join (List.take (List.length (l22_0R m (m + 24) x0 ((((List.length x0) : Nat) : Int)) 0 (([] : List (List UInt8)))).2.2) (List.drop 0 (l22_0R m (m + 24) x0 ((((List.length x0) : Nat) : Int)) 0 (([] : List (List UInt8)))).2.2)) ([44] : List UInt8)) ≤ 4611686018427387904) = true then
            if decide (List.length (([123] : List UInt8) ++ (Lib.join (List.take (List.length (l22_0R m (m + 24) x0 ((((List.length x0) : Nat) : Int)) 0 (([] : List (List UInt8)))).2.2) (List.drop 0 (l22_0R m (m + 24) x0 ((((List.length x0) : Nat) : Int)) 0 (([] : List (List UInt8)))).2.2)) ([44] : List UInt8))) + List.length ([125] : List UInt8) ≤ 4611686018427387904) = true then
              some (((([123] : List UInt8) ++ (Lib.join (List.take (List.length (l22_0R m (m + 24) x0 ((((List.length x0) : Nat) : Int)) 0 (([] : List (List UInt8)))).2.2) (List.drop 0 (l22_0R m (m + 24) x0 ((((List.length x0) : Nat) : Int)) 0 (([] : List (List UInt8)))).2.2)) ([44] : List UInt8))) ++ ([125] : List UInt8)))
            else
              none
          else
            none
        else
          none
      else
        none
    else
      some (([] : List UInt8))
  else
    none
set_option maxHeartbeats 20000000 in
theorem p22_ok (m : Nat) (x0 : List ((List UInt8) × (List UInt8) × Int)) (q : (List UInt8)) (h : p22 m x0 = some q) : ∃ r B1, (evCall F S13 (m + 25) 22 [(.d (.sl (.pair .str (.pair .str (.int .i64))) x0))] []).run = some (r, B1) ∧ 0 ≤ B1.length ∧ wkR B1 [] r (.d (.str q)) ∧ wkBs B1 [] 0 [] := by
  unfold p22 at h
  refine ite_cases h (fun c0 h => ?_) (fun c0 h => ?_)
  · skip
    refine ite_cases h (fun c1 h => ?_) (fun c1 h => ?_)
    · skip
      refine ite_cases h (fun c2 h => ?_) (fun c2 h => ?_)
      · skip
        refine ite_cases h (fun c4 h => ?_) (fun c4 h => ?_)
        · skip
          refine ite_cases h (fun c5 h => ?_) (fun c5 h => ?_)
          · skip
            refine ite_cases h (fun c6 h => ?_) (fun c6 h => ?_)
            · skip
              cases h
              refine ⟨(.d (.str ((([123] : List UInt8) ++ (Lib.join (List.take (List.length (l22_0R m (m + 24) x0 ((((List.length x0) : Nat) : Int)) 0 (([] : List (List UInt8)))).2.2) (List.drop 0 (l22_0R m (m + 24) x0 ((((List.length x0) : Nat) : Int)) 0 (([] : List (List UInt8)))).2.2)) ([44] : List UInt8))) ++ ([125] : List UInt8)))), [], runT_ok (LS := (fun k => if k = 3592 then some (l22_0E x0 (((((List.length x0) : Nat) : Int))) ((l22_0R m (m + 24) x0 ((((List.length x0) : Nat) : Int)) 0 (([] : List (List UInt8)))).2.1) ((l22_0R m (m + 24) x0 ((((List.length x0) : Nat) : Int)) 0 (([] : List (List UInt8)))).2.2) 0) else none)) (fn := fn22) (vis := [(3592, l22_0H x0 ((((List.length x0) : Nat) : Int)) 0 (([] : List (List UInt8))), l22_0B x0 ((((List.length x0) : Nat) : Int)) 0 (([] : List (List UInt8))))]) (by kernel_rfl) rfl (by kernel_rfl) (M.run_of_path _ [true, false, true, true, true, true] _ _ (by kernel_rfl) (all_t c0 (all_nt c1 (all_t (show decide ((0 + (List.length (l22_0R m (m + 24) x0 ((((List.length x0) : Nat) : Int)) 0 (([] : List (List UInt8)))).2.2)) ≤ (List.length (l22_0R m (m + 24) x0 ((((List.length x0) : Nat) : Int)) 0 (([] : List (List UInt8)))).2.2)) = true from decide_eq_true (Nat.le_of_eq (Nat.zero_add _))) (all_t c4 (all_t c5 (all_t c6 all_nil))))))) ?_, by simp, (wkR.one (wkV.one (wk1.eq rfl))), trivial⟩
              intro p hp p2 hq
              rcases List.mem_cons.1 hp with rfl | hp
              · skip
                have h3 := l22_0_ok m (m + 24) x0 ((((List.length x0) : Nat) : Int)) 0 (([] : List (List UInt8))) _ (some_getD (d := l22_0D) c2)
                exact Eq.trans (Eq.mp (by kernel_rfl) h3) hq
              cases hp
            · skip
              cases h
          · skip
            cases h
        · skip
          cases h
      · skip
        cases h
    · skip
      cases h
      refine ⟨(.d (.str ([] : List UInt8))), [], runT_ok (LS := (fun k => none)) (fn := fn22) (vis := []) (by kernel_rfl) rfl (by kernel_rfl) (M.run_of_path _ [true, true] _ _ (by kernel_rfl) (all_t c0 (all_nf c1 all_nil))) ?_, by simp, (wkR.one (wkV.one (wk1.eq rfl))), trivial⟩
      intro p hp; cases hp
  · skip
    cases h

def signB (k : Int) : List UInt8 := if k = 1 then [61] else if k = 2 then [33, 61] else if k = 3 then [94, 61] else if k = 4 then [33, 94] else []
def itemG (m : MT) : List UInt8 := (m.1 ++ signB m.2.2) ++ quoteG m.2.1
/-- Printed matchers. -/
def printG (ms : List MT) : List UInt8 := if rightG ms = true then ([123] ++ Lib.join (ms.map itemG) [44]) ++ [125] else []
theorem sign_le (k : Int) : (signB k).length ≤ 2 := by
  unfold signB
  split
  · simp
  · split
    · simp
    · split
      · simp
      · split <;> simp
theorem right_all {ms : List MT} (h : rightG ms = true) : ms.length ≤ 6 ∧ ∀ x ∈ ms, x.1.length ≤ 24 ∧ x.2.1.length ≤ 24 := by
  unfold rightG at h
  rw [Bool.and_eq_true, decide_eq_true_eq] at h
  refine ⟨h.2, fun x hx => ?_⟩
  have := List.all_eq_true.1 h.1 x hx
  unfold okM wordG at this
  simp only [Bool.and_eq_true, decide_eq_true_eq] at this
  omega
theorem inter_le (sep : List UInt8) (B : Nat) : ∀ (l : List (List UInt8)), (∀ x ∈ l, x.length ≤ B) → (Lib.join l sep).length ≤ l.length * (B + sep.length)
  | [], _ => Nat.zero_le _
  | [a], h => by
    have := h a (List.mem_cons_self ..)
    have e : Lib.join [a] sep = a := by unfold Lib.join; simp [List.intercalate]
    rw [e]
    simp only [List.length_cons, List.length_nil]
    omega
  | a :: b :: l, h => by
    have e : Lib.join (a :: b :: l) sep = a ++ (sep ++ Lib.join (b :: l) sep) := by unfold Lib.join; simp [List.intercalate]
    rw [e, List.length_append, List.length_append]
    have h1 := h a (List.mem_cons_self ..)
    have h2 := inter_le sep B (b :: l) (fun x hx => h x (List.mem_cons_of_mem _ hx))
    have : (a :: b :: l).length * (B + sep.length) = (b :: l).length * (B + sep.length) + (B + sep.length) := by
      rw [List.length_cons, Nat.succ_mul]
    omega
theorem item_le {x : MT} (h : x.1.length ≤ 24 ∧ x.2.1.length ≤ 24) : (itemG x).length ≤ 100 := by
  unfold itemG
  rw [List.length_append, List.length_append]
  have := sign_le x.2.2
  have := quote_le x.2.1
  omega
theorem print_loop (m : Nat) (ms : List MT) (h1 : ms.length ≤ 6) (h2 : ∀ x ∈ ms, x.1.length ≤ 24 ∧ x.2.1.length ≤ 24) : ∀ (n k : Nat) (b : List (List UInt8)), k ≤ ms.length → ms.length - k < n → b.length ≤ k → l22_0 m n ms (ms.length : Nat) (k : Nat) b = some (0, ((ms.length : Nat) : Int), b ++ (ms.drop k).map itemG)
  | 0, k, _, _, h, _ => by omega
  | n + 1, k, b, g1, g2, g3 => by
    rw [l22_0]
    by_cases hk : k < ms.length
    · have e1 : decide (((k : Nat) : Int) < (((List.length ms) : Nat) : Int)) = true := decide_eq_true (by omega)
      have e2 : decide ((0 : Int) ≤ ((k : Nat) : Int)) = true := decide_eq_true (by omega)
      have e7 : IntKind.wrap .i64 (((k : Nat) : Int) + (1)) = ((k + 1 : Nat) : Int) := by rw [wrap_id (by omega) (by omega)]; rfl
      have hq := h2 _ (getD_mem ms k (([] : List UInt8), (([] : List UInt8), 0)) hk)
      have go := fun x => print_loop m ms h1 h2 n (k + 1) (b ++ [x]) (by omega) (by omega) (by simp; omega)
      rw [drop_getD ms k (([] : List UInt8), (([] : List UInt8), 0)) hk]
      simp only [show Int.toNat ((k : Nat) : Int) = k from rfl, e1, e2, e7, ↓reduceIte]
      generalize ms.getD k (([] : List UInt8), (([] : List UInt8), 0)) = q at *
      have hi : itemG q = (q.1 ++ signB q.2.2) ++ quoteG q.2.1 := rfl
      have hs : signB q.2.2 = if q.2.2 = 1 then [61] else if q.2.2 = 2 then [33, 61] else if q.2.2 = 3 then [94, 61] else if q.2.2 = 4 then [33, 94] else [] := rfl
      have hql := quote_le q.2.1
      have b0 : decide (List.length q.2.1 ≤ 1000000) = true := decide_eq_true (by omega)
      have b1 : decide (((List.length b) + 1) * 16 ≤ 70368744177664) = true := decide_eq_true (by omega)
      have b2 : ∀ sg : List UInt8, sg.length ≤ 2 → decide (List.length q.1 + List.length sg ≤ 4611686018427387904) = true := fun sg h => decide_eq_true (by omega)
      have b3 : ∀ sg : List UInt8, sg.length ≤ 2 → decide (List.length (q.1 ++ sg) + List.length (quoteG q.2.1) ≤ 4611686018427387904) = true := fun sg h => decide_eq_true (by rw [List.length_append]; omega)
      have fin : ∀ sg, signB q.2.2 = sg → l22_0 m n ms (ms.length : Nat) ((k + 1 : Nat) : Int) (b ++ [(q.1 ++ sg) ++ quoteG q.2.1]) = some (0, ((ms.length : Nat) : Int), b ++ (q :: ms.drop (k + 1)).map itemG) := by
        intro sg hsg
        rw [go, List.map_cons, hi, hsg]
        simp
      have t1 := b2 [61] (by simp)
      have t2 := b2 [33, 61] (by simp)
      have t3 := b2 [94, 61] (by simp)
      have t4 := b2 [33, 94] (by simp)
      have t5 := b2 [] (by simp)
      have u1 := b3 [61] (by simp)
      have u2 := b3 [33, 61] (by simp)
      have u3 := b3 [94, 61] (by simp)
      have u4 := b3 [33, 94] (by simp)
      have u5 := b3 [] (by simp)
      simp only [b0, b1, t1, t2, t3, t4, t5, u1, u2, u3, u4, u5, ↓reduceIte]
      generalize q.2.2 = kd at *
      by_cases k1 : kd = 1
      · rw [if_pos (by simp [k1])]; exact fin _ (by rw [hs, if_pos k1])
      · rw [if_neg (by simpa using k1)]; rw [if_neg k1] at hs
        by_cases k2 : kd = 2
        · rw [if_pos (by simp [k2])]; exact fin _ (by rw [hs, if_pos k2])
        · rw [if_neg (by simpa using k2)]; rw [if_neg k2] at hs
          by_cases k3 : kd = 3
          · rw [if_pos (by simp [k3])]; exact fin _ (by rw [hs, if_pos k3])
          · rw [if_neg (by simpa using k3)]; rw [if_neg k3] at hs
            by_cases k4 : kd = 4
            · rw [if_pos (by simp [k4])]; exact fin _ (by rw [hs, if_pos k4])
            · rw [if_neg (by simpa using k4)]; rw [if_neg k4] at hs
              exact fin _ hs
    · have e1 : decide (((k : Nat) : Int) < (((List.length ms) : Nat) : Int)) = false := decide_eq_false (by omega)
      have e0 : k = ms.length := by omega
      subst e0
      rw [e1, if_neg (by simp), List.drop_length]
      simp
theorem print22 (ms : List MT) (h : rightPre ms = true) : ∃ m, p22 m ms = some (printG ms) := by
  refine ⟨ms.length, ?_⟩
  unfold p22 printG
  rw [if_pos h]
  by_cases hr : rightG ms = true
  · obtain ⟨h1, h2⟩ := right_all hr
    rw [if_pos hr, if_pos hr]
    have hl := print_loop ms.length ms h1 h2 (ms.length + 24) 0 [] (by omega) (by omega) (by simp)
    simp only [Int.natCast_zero, List.drop_zero, List.nil_append] at hl
    simp only [l22_0R, hl, Option.isSome_some, Option.getD_some, ↓reduceIte, List.drop_zero, List.take_length]
    have hj := inter_le [44] 100 (ms.map itemG) (by
      intro x hx
      obtain ⟨y, hy, rfl⟩ := List.mem_map.1 hx
      exact item_le (h2 y hy))
    have hm : (ms.map itemG).length = ms.length := by simp
    rw [hm] at hj
    generalize hJ : Lib.join (ms.map itemG) [44] = J at *
    have : ms.length * (100 + ([44] : List UInt8).length) ≤ 606 := by
      simp only [List.length_cons, List.length_nil]; omega
    rw [if_pos, if_pos, if_pos]
    · exact decide_eq_true (by simp; omega)
    · exact decide_eq_true (by simp; omega)
    · rw [Bool.and_eq_true]
      exact ⟨decide_eq_true (by rw [hm]; omega), decide_eq_true (by omega)⟩
  · rw [if_neg hr, if_neg hr]
def s22 : List AV → Boxes → M (AV × Boxes) := normS [.val (.sl (.pair .str (.pair .str (.int .i64))))] [] fun xs B => match xs, B with
  | [(.d (.sl (.pair .str (.pair .str (.int .i64))) c1))], [] => .chk (rightPre c1) (.ret ((.d (.str (printG c1))), []))
  | _, _ => .fail
theorem s22_at : CallAt Tryd.prog 22 s22 := by
  refine CallAt.norm (CallAt.weakE (g := fun n => evCall F S13 n 22) (fun n => evCall_atH mixed kinds hds S13 S13_ok n 22) fun xs B r' B' hr => ?_) _ _
  split at hr
  · rename_i c1
    obtain ⟨hp, hr⟩ := (M.run_chk _ _ _).1 hr
    simp only [M.run, Option.some.injEq, Prod.mk.injEq] at hr
    obtain ⟨rfl, rfl⟩ := hr
    obtain ⟨m, hm⟩ := print22 c1 hp
    obtain ⟨r, B1, h1, h2, h3, h4⟩ := p22_ok m c1 _ hm
    exact ⟨m + 25, r, B1, h1, by simp, h2, h3, h4⟩
  · simp [M.run] at hr
noncomputable def S14 : FuncId → Option (List AV → Boxes → M (AV × Boxes)) := fun f => if f = 22 then some s22 else S13 f
set_option maxHeartbeats 20000000 in
theorem S14_ok : ∀ f s, S14 f = some s → CallAt Tryd.prog f s := by
  intro f s h
  unfold S14 at h
  split at h
  · rename_i e; subst e; cases h; exact s22_at
  · exact S13_ok f s h

end Go.Proofs.YtghkbjflejgieaaDoor.Dec
namespace Go.Proofs.YtghkbjflejgieaaDoor.Dec
open Go.Ev
set_option linter.unusedVariables false
set_option linter.unusedSimpArgs false
set_option maxRecDepth 100000
noncomputable def fn49 : AFn := (F 49).getD ⟨0, [], .bad, false, false, noHd⟩
noncomputable def body49 : AC := fn49.body
def l49_0 (m : Nat) : Nat → List ((List UInt8) × (List UInt8)) → Int → Int → Option (Nat × Int)
  | 0, _, _, _ => none
  | n + 1, x0, s6, s7 => if decide (s7 < s6) = true then
      if decide (0 ≤ s7) = true then
        if decide (s7 < (((List.length x0) : Nat) : Int)) = true then
          if decide (List.length (List.getD x0 (Int.toNat s7) (([] : List UInt8), ([] : List UInt8))).1 ≤ 9223372036854775807) = true then
            if (wordG (List.getD x0 (Int.toNat s7) (([] : List UInt8), ([] : List UInt8))).1) = true then
              if ((List.getD x0 (Int.toNat s7) (([] : List UInt8), ([] : List UInt8))).2 == ([] : List UInt8)) = true then
                some (1, s7)
              else
                if decide ((((List.length (List.getD x0 (Int.toNat s7) (([] : List UInt8), ([] : List UInt8))).2) : Nat) : Int) > 24) = true then
                  some (2, s7)
                else
                  if decide (s7 > 0) = true then
                    if decide (0 ≤ (IntKind.wrap .i64 (s7 - (1)))) = true then
                      if decide ((IntKind.wrap .i64 (s7 - (1))) < (((List.length x0) : Nat) : Int)) = true then
                        if (Op.bytesLess (List.getD x0 (Int.toNat (IntKind.wrap .i64 (s7 - (1)))) (([] : List UInt8), ([] : List UInt8))).1 (List.getD x0 (Int.toNat s7) (([] : List UInt8), ([] : List UInt8))).1) = true then
                          l49_0 m n x0 s6 ((IntKind.wrap .i64 (s7 + (1))))
                        else
                          some (3, s7)
                      else
                        none
                    else
                      none
                  else
                    l49_0 m n x0 s6 ((IntKind.wrap .i64 (s7 + (1))))
            else
              some (0, s7)
          else
            none
        else
          none
      else
        none
    else
      some (4, s7)
def l49_0D : Nat × Int := (0, 0)
@[reducible] def l49_0R (m n : Nat) (x0 : List ((List UInt8) × (List UInt8))) (s6 : Int) (s7 : Int) : Nat × Int := Option.getD (l49_0 m n x0 s6 s7) l49_0D
def l49_0H (x0 : List ((List UInt8) × (List UInt8))) (s6 : Int) (s7 : Int) : Env := [(.d (.sl (.pair .str .str) x0)), .top, .top, .top, .top, (.d (.sl (.pair .str .str) x0)), (.d (.int .i64 s6)), (.d (.int .i64 s7)), .top, .top, .top, .top, .top, .top, .top, .top, .top, .top, .top, .top, .top, .top, .top, .top, .top, .top, .top, .top, .top, .top, .top, .top, .top, .top, .top, .top, .top, .top, .top, .top, .top, .top, .top, .top, .top, .top]
def l49_0B (x0 : List ((List UInt8) × (List UInt8))) (s6 : Int) (s7 : Int) : Boxes := []
def l49_0E (x0 : List ((List UInt8) × (List UInt8))) (s6 : Int) (s7 : Int) : Nat → AEx × Env × Boxes
  | 0 => (.ret, [(.d (.sl (.pair .str .str) x0)), .top, (.d (.bool false)), (.d (.int .i64 s7)), (.ptr 0 0), (.d (.sl (.pair .str .str) x0)), (.d (.int .i64 s6)), (.d (.int .i64 s7)), (.d (.bool (decide (s7 < s6)))), (.d (.int .i64 s7)), (.cptr [(.str (List.getD x0 (Int.toNat s7) (([] : List UInt8), ([] : List UInt8))).1), (.str (List.getD x0 (Int.toNat s7) (([] : List UInt8), ([] : List UInt8))).2)] 0), (.agg [(.d (.str (List.getD x0 (Int.toNat s7) (([] : List UInt8), ([] : List UInt8))).1)), (.d (.str (List.getD x0 (Int.toNat s7) (([] : List UInt8), ([] : List UInt8))).2))]), (.ptr 0 0), (.d (.str (List.getD x0 (Int.toNat s7) (([] : List UInt8), ([] : List UInt8))).1)), (.d (.bool (wordG (List.getD x0 (Int.toNat s7) (([] : List UInt8), ([] : List UInt8))).1))), (.d (.bool (!(wordG (List.getD x0 (Int.toNat s7) (([] : List UInt8), ([] : List UInt8))).1)))), (.d (.bool (!(wordG (List.getD x0 (Int.toNat s7) (([] : List UInt8), ([] : List UInt8))).1)))), (.tup []), (.tup []), (.tup []), (.d (.bool true)), (.d (.bool true)), (.tup []), (.tup []), (.tup []), (.tup []), (.d (.bool true)), (.d (.bool true)), (.tup []), (.tup []), (.tup []), (.tup []), (.tup []), (.tup []), (.tup []), (.tup []), (.tup []), (.tup []), (.tup []), (.tup []), (.tup []), (.d (.bool true)), .top, .top, .top, .top], [(.cells [(.d (.str (List.getD x0 (Int.toNat s7) (([] : List UInt8), ([] : List UInt8))).1)), (.d (.str (List.getD x0 (Int.toNat s7) (([] : List UInt8), ([] : List UInt8))).2))]), .dead, .dead, .dead, .dead, .dead, .dead, .dead, .dead, .dead, .dead, .dead, .dead, .dead, .dead, .dead, .dead, .dead, .dead, .dead, .dead, .dead, .dead, .dead, .dead, .dead, .dead, .dead, .dead, .dead, .dead, .dead, .dead, .dead, .dead, .dead, .dead, .dead, .dead, .dead, .dead, .dead, .dead, .dead, .dead, .dead, .dead, .dead, .dead, .dead, .dead, .dead, .dead, .dead, .dead, .dead, .dead, .dead, .dead, .dead, .dead, .dead, .dead, .dead, .dead, .dead, .dead, .dead, .dead, .dead, .dead, .dead, .dead, .dead, .dead, .dead, .dead, .dead, .dead, .dead, .dead, .dead, .dead, .dead, .dead, .dead, .dead, .dead, .dead, .dead, .dead, .dead, .dead, .dead, .dead, .dead, .dead, .dead, .dead, .dead, .dead, .dead, .dead, .dead, .dead, .dead, .dead, .dead, .dead, .dead, .dead, .dead, .dead, .dead, .dead, .dead, .dead, .dead, .dead, .dead, .dead])
  | 1 => (.ret, [(.d (.sl (.pair .str .str) x0)), .top, (.d (.bool false)), (.d (.int .i64 s7)), (.ptr 0 0), (.d (.sl (.pair .str .str) x0)), (.d (.int .i64 s6)), (.d (.int .i64 s7)), (.d (.bool (decide (s7 < s6)))), (.d (.int .i64 s7)), (.cptr [(.str (List.getD x0 (Int.toNat s7) (([] : List UInt8), ([] : List UInt8))).1), (.str (List.getD x0 (Int.toNat s7) (([] : List UInt8), ([] : List UInt8))).2)] 0), (.agg [(.d (.str (List.getD x0 (Int.toNat s7) (([] : List UInt8), ([] : List UInt8))).1)), (.d (.str (List.getD x0 (Int.toNat s7) (([] : List UInt8), ([] : List UInt8))).2))]), (.ptr 0 0), (.d (.str (List.getD x0 (Int.toNat s7) (([] : List UInt8), ([] : List UInt8))).1)), (.d (.bool (wordG (List.getD x0 (Int.toNat s7) (([] : List UInt8), ([] : List UInt8))).1))), (.d (.bool (!(wordG (List.getD x0 (Int.toNat s7) (([] : List UInt8), ([] : List UInt8))).1)))), (.d (.bool (!(wordG (List.getD x0 (Int.toNat s7) (([] : List UInt8), ([] : List UInt8))).1)))), (.ptr 0 1), (.d (.str (List.getD x0 (Int.toNat s7) (([] : List UInt8), ([] : List UInt8))).2)), (.d (.bool ((List.getD x0 (Int.toNat s7) (([] : List UInt8), ([] : List UInt8))).2 == ([] : List UInt8)))), (.d (.bool ((List.getD x0 (Int.toNat s7) (([] : List UInt8), ([] : List UInt8))).2 == ([] : List UInt8)))), (.d (.bool ((List.getD x0 (Int.toNat s7) (([] : List UInt8), ([] : List UInt8))).2 == ([] : List UInt8)))), (.tup []), (.tup []), (.tup []), (.tup []), (.d (.bool true)), (.d (.bool true)), (.tup []), (.tup []), (.tup []), (.tup []), (.tup []), (.tup []), (.tup []), (.tup []), (.tup []), (.tup []), (.tup []), (.tup []), (.tup []), (.d (.bool true)), .top, .top, .top, .top], [(.cells [(.d (.str (List.getD x0 (Int.toNat s7) (([] : List UInt8), ([] : List UInt8))).1)), (.d (.str (List.getD x0 (Int.toNat s7) (([] : List UInt8), ([] : List UInt8))).2))]), .dead, .dead, .dead, .dead, .dead, .dead, .dead, .dead, .dead, .dead, .dead, .dead, .dead, .dead, .dead, .dead, .dead, .dead, .dead, .dead, .dead, .dead, .dead, .dead, .dead, .dead, .dead, .dead, .dead, .dead, .dead, .dead, .dead, .dead, .dead, .dead, .dead, .dead, .dead, .dead, .dead, .dead, .dead, .dead, .dead, .dead, .dead, .dead, .dead, .dead, .dead, .dead, .dead, .dead, .dead, .dead, .dead, .dead, .dead, .dead, .dead, .dead, .dead, .dead, .dead, .dead, .dead, .dead, .dead, .dead, .dead, .dead, .dead, .dead, .dead, .dead, .dead, .dead, .dead, .dead, .dead, .dead, .dead, .dead, .dead, .dead, .dead, .dead, .dead, .dead, .dead, .dead, .dead, .dead, .dead, .dead, .dead, .dead, .dead, .dead, .dead, .dead, .dead, .dead, .dead, .dead, .dead, .dead, .dead, .dead, .dead, .dead, .dead, .dead, .dead, .dead, .dead, .dead, .dead, .dead])
  | 2 => (.ret, [(.d (.sl (.pair .str .str) x0)), .top, (.d (.bool false)), (.d (.int .i64 s7)), (.ptr 0 0), (.d (.sl (.pair .str .str) x0)), (.d (.int .i64 s6)), (.d (.int .i64 s7)), (.d (.bool (decide (s7 < s6)))), (.d (.int .i64 s7)), (.cptr [(.str (List.getD x0 (Int.toNat s7) (([] : List UInt8), ([] : List UInt8))).1), (.str (List.getD x0 (Int.toNat s7) (([] : List UInt8), ([] : List UInt8))).2)] 0), (.agg [(.d (.str (List.getD x0 (Int.toNat s7) (([] : List UInt8), ([] : List UInt8))).1)), (.d (.str (List.getD x0 (Int.toNat s7) (([] : List UInt8), ([] : List UInt8))).2))]), (.ptr 0 0), (.d (.str (List.getD x0 (Int.toNat s7) (([] : List UInt8), ([] : List UInt8))).1)), (.d (.bool (wordG (List.getD x0 (Int.toNat s7) (([] : List UInt8), ([] : List UInt8))).1))), (.d (.bool (!(wordG (List.getD x0 (Int.toNat s7) (([] : List UInt8), ([] : List UInt8))).1)))), (.d (.bool (!(wordG (List.getD x0 (Int.toNat s7) (([] : List UInt8), ([] : List UInt8))).1)))), (.ptr 0 1), (.d (.str (List.getD x0 (Int.toNat s7) (([] : List UInt8), ([] : List UInt8))).2)), (.d (.bool ((List.getD x0 (Int.toNat s7) (([] : List UInt8), ([] : List UInt8))).2 == ([] : List UInt8)))), (.d (.bool ((List.getD x0 (Int.toNat s7) (([] : List UInt8), ([] : List UInt8))).2 == ([] : List UInt8)))), (.d (.bool ((List.getD x0 (Int.toNat s7) (([] : List UInt8), ([] : List UInt8))).2 == ([] : List UInt8)))), (.ptr 0 1), (.d (.str (List.getD x0 (Int.toNat s7) (([] : List UInt8), ([] : List UInt8))).2)), (.d (.int .i64 (((List.length (List.getD x0 (Int.toNat s7) (([] : List UInt8), ([] : List UInt8))).2) : Nat) : Int))), (.d (.bool (decide ((((List.length (List.getD x0 (Int.toNat s7) (([] : List UInt8), ([] : List UInt8))).2) : Nat) : Int) > 24)))), (.d (.bool (decide ((((List.length (List.getD x0 (Int.toNat s7) (([] : List UInt8), ([] : List UInt8))).2) : Nat) : Int) > 24)))), (.d (.bool (decide ((((List.length (List.getD x0 (Int.toNat s7) (([] : List UInt8), ([] : List UInt8))).2) : Nat) : Int) > 24)))), (.tup []), (.tup []), (.tup []), (.tup []), (.tup []), (.tup []), (.tup []), (.tup []), (.tup []), (.tup []), (.tup []), (.tup []), (.tup []), (.d (.bool true)), .top, .top, .top, .top], [(.cells [(.d (.str (List.getD x0 (Int.toNat s7) (([] : List UInt8), ([] : List UInt8))).1)), (.d (.str (List.getD x0 (Int.toNat s7) (([] : List UInt8), ([] : List UInt8))).2))]), .dead, .dead, .dead, .dead, .dead, .dead, .dead, .dead, .dead, .dead, .dead, .dead, .dead, .dead, .dead, .dead, .dead, .dead, .dead, .dead, .dead, .dead, .dead, .dead, .dead, .dead, .dead, .dead, .dead, .dead, .dead, .dead, .dead, .dead, .dead, .dead, .dead, .dead, .dead, .dead, .dead, .dead, .dead, .dead, .dead, .dead, .dead, .dead, .dead, .dead, .dead, .dead, .dead, .dead, .dead, .dead, .dead, .dead, .dead, .dead, .dead, .dead, .dead, .dead, .dead, .dead, .dead, .dead, .dead, .dead, .dead, .dead, .dead, .dead, .dead, .dead, .dead, .dead, .dead, .dead, .dead, .dead, .dead, .dead, .dead, .dead, .dead, .dead, .dead, .dead, .dead, .dead, .dead, .dead, .dead, .dead, .dead, .dead, .dead, .dead, .dead, .dead, .dead, .dead, .dead, .dead, .dead, .dead, .dead, .dead, .dead, .dead, .dead, .dead, .dead, .dead, .dead, .dead, .dead, .dead])
  | 3 => (.ret, [(.d (.sl (.pair .str .str) x0)), .top, (.d (.bool false)), (.d (.int .i64 s7)), (.ptr 0 0), (.d (.sl (.pair .str .str) x0)), (.d (.int .i64 s6)), (.d (.int .i64 s7)), (.d (.bool (decide (s7 < s6)))), (.d (.int .i64 s7)), (.cptr [(.str (List.getD x0 (Int.toNat s7) (([] : List UInt8), ([] : List UInt8))).1), (.str (List.getD x0 (Int.toNat s7) (([] : List UInt8), ([] : List UInt8))).2)] 0), (.agg [(.d (.str (List.getD x0 (Int.toNat s7) (([] : List UInt8), ([] : List UInt8))).1)), (.d (.str (List.getD x0 (Int.toNat s7) (([] : List UInt8), ([] : List UInt8))).2))]), (.ptr 0 0), (.d (.str (List.getD x0 (Int.toNat s7) (([] : List UInt8), ([] : List UInt8))).1)), (.d (.bool (wordG (List.getD x0 (Int.toNat s7) (([] : List UInt8), ([] : List UInt8))).1))), (.d (.bool (!(wordG (List.getD x0 (Int.toNat s7) (([] : List UInt8), ([] : List UInt8))).1)))), (.d (.bool (!(wordG (List.getD x0 (Int.toNat s7) (([] : List UInt8), ([] : List UInt8))).1)))), (.ptr 0 1), (.d (.str (List.getD x0 (Int.toNat s7) (([] : List UInt8), ([] : List UInt8))).2)), (.d (.bool ((List.getD x0 (Int.toNat s7) (([] : List UInt8), ([] : List UInt8))).2 == ([] : List UInt8)))), (.d (.bool ((List.getD x0 (Int.toNat s7) (([] : List UInt8), ([] : List UInt8))).2 == ([] : List UInt8)))), (.d (.bool ((List.getD x0 (Int.toNat s7) (([] : List UInt8), ([] : List UInt8))).2 == ([] : List UInt8)))), (.ptr 0 1), (.d (.str (List.getD x0 (Int.toNat s7) (([] : List UInt8), ([] : List UInt8))).2)), (.d (.int .i64 (((List.length (List.getD x0 (Int.toNat s7) (([] : List UInt8), ([] : List UInt8))).2) : Nat) : Int))), (.d (.bool (decide ((((List.length (List.getD x0 (Int.toNat s7) (([] : List UInt8), ([] : List UInt8))).2) : Nat) : Int) > 24)))), (.d (.bool (decide ((((List.length (List.getD x0 (Int.toNat s7) (([] : List UInt8), ([] : List UInt8))).2) : Nat) : Int) > 24)))), (.d (.bool (decide ((((List.length (List.getD x0 (Int.toNat s7) (([] : List UInt8), ([] : List UInt8))).2) : Nat) : Int) > 24)))), (.d (.int .i64 s7)), (.d (.bool (decide (s7 > 0)))), (.d (.bool (decide (s7 > 0)))), (.d (.sl (.pair .str .str) x0)), (.d (.int .i64 s7)), (.d (.int .i64 (IntKind.wrap .i64 (s7 - (1))))), (.cptr [(.str (List.getD x0 (Int.toNat (IntKind.wrap .i64 (s7 - (1)))) (([] : List UInt8), ([] : List UInt8))).1), (.str (List.getD x0 (Int.toNat (IntKind.wrap .i64 (s7 - (1)))) (([] : List UInt8), ([] : List UInt8))).2)] 0), (.cptr [(.str (List.getD x0 (Int.toNat (IntKind.wrap .i64 (s7 - (1)))) (([] : List UInt8), ([] : List UInt8))).1), (.str (List.getD x0 (Int.toNat (IntKind.wrap .i64 (s7 - (1)))) (([] : List UInt8), ([] : List UInt8))).2)] 0), (.d (.str (List.getD x0 (Int.toNat (IntKind.wrap .i64 (s7 - (1)))) (([] : List UInt8), ([] : List UInt8))).1)), (.ptr 0 0), (.d (.str (List.getD x0 (Int.toNat s7) (([] : List UInt8), ([] : List UInt8))).1)), (.d (.bool (!(Op.bytesLess (List.getD x0 (Int.toNat (IntKind.wrap .i64 (s7 - (1)))) (([] : List UInt8), ([] : List UInt8))).1 (List.getD x0 (Int.toNat s7) (([] : List UInt8), ([] : List UInt8))).1)))), (.d (.bool (!(Op.bytesLess (List.getD x0 (Int.toNat (IntKind.wrap .i64 (s7 - (1)))) (([] : List UInt8), ([] : List UInt8))).1 (List.getD x0 (Int.toNat s7) (([] : List UInt8), ([] : List UInt8))).1)))), (.d (.bool (!(Op.bytesLess (List.getD x0 (Int.toNat (IntKind.wrap .i64 (s7 - (1)))) (([] : List UInt8), ([] : List UInt8))).1 (List.getD x0 (Int.toNat s7) (([] : List UInt8), ([] : List UInt8))).1)))), .top, .top, .top, .top], [(.cells [(.d (.str (List.getD x0 (Int.toNat s7) (([] : List UInt8), ([] : List UInt8))).1)), (.d (.str (List.getD x0 (Int.toNat s7) (([] : List UInt8), ([] : List UInt8))).2))]), .dead, .dead, .dead, .dead, .dead, .dead, .dead, .dead, .dead, .dead, .dead, .dead, .dead, .dead, .dead, .dead, .dead, .dead, .dead, .dead, .dead, .dead, .dead, .dead, .dead, .dead, .dead, .dead, .dead, .dead, .dead, .dead, .dead, .dead, .dead, .dead, .dead, .dead, .dead, .dead, .dead, .dead, .dead, .dead, .dead, .dead, .dead, .dead, .dead, .dead, .dead, .dead, .dead, .dead, .dead, .dead, .dead, .dead, .dead, .dead, .dead, .dead, .dead, .dead, .dead, .dead, .dead, .dead, .dead, .dead, .dead, .dead, .dead, .dead, .dead, .dead, .dead, .dead, .dead, .dead, .dead, .dead, .dead, .dead, .dead, .dead, .dead, .dead, .dead, .dead, .dead, .dead, .dead, .dead, .dead, .dead, .dead, .dead, .dead, .dead, .dead, .dead, .dead, .dead, .dead, .dead, .dead, .dead, .dead, .dead, .dead, .dead, .dead, .dead, .dead, .dead, .dead, .dead, .dead, .dead])
  | _ => (.exit 0, [(.d (.sl (.pair .str .str) x0)), .top, .top, .top, .top, (.d (.sl (.pair .str .str) x0)), (.d (.int .i64 s6)), (.d (.int .i64 s7)), (.d (.bool (decide (s7 < s6)))), .top, .top, .top, .top, .top, .top, .top, .top, .top, .top, .top, .top, .top, .top, .top, .top, .top, .top, .top, .top, .top, .top, .top, .top, .top, .top, .top, .top, .top, .top, .top, .top, .top, .top, .top, .top, .top], [])
noncomputable def lbl49_0 : AC := loopBody 225 body49

set_option maxHeartbeats 20000000 in
theorem l49_0_w0 (m n : Nat) (x0 : List ((List UInt8) × (List UInt8))) (s6 : Int) (s7 : Int) (c0 : decide (s7 < s6) = true) (c1 : decide (0 ≤ s7) = true) (c2 : decide (s7 < (((List.length x0) : Nat) : Int)) = true) (c3 : decide (List.length (List.getD x0 (Int.toNat s7) (([] : List UInt8), ([] : List UInt8))).1 ≤ 9223372036854775807) = true) (c4 : (wordG (List.getD x0 (Int.toNat s7) (([] : List UInt8), ([] : List UInt8))).1) = true) (c8 : ((List.getD x0 (Int.toNat s7) (([] : List UInt8), ([] : List UInt8))).2 == ([] : List UInt8)) = true) : (turns (hds 49 225) 0 225 (evC byref (evCall F S14 (m + 24)) (m + 24) 0 (hds 49) lbl49_0) (n + 1) (l49_0H x0 s6 s7) (l49_0B x0 s6 s7)).run = some (let r1 := (wordG (List.getD x0 (Int.toNat s7) (([] : List UInt8), ([] : List UInt8))).1); (.ret, [(.d (.sl (.pair .str .str) x0)), .top, (.d (.bool false)), (.d (.int .i64 s7)), (.ptr 0 0), (.d (.sl (.pair .str .str) x0)), (.d (.int .i64 s6)), (.d (.int .i64 s7)), (.d (.bool (decide (s7 < s6)))), (.d (.int .i64 s7)), (.cptr [(.str (List.getD x0 (Int.toNat s7) (([] : List UInt8), ([] : List UInt8))).1), (.str (List.getD x0 (Int.toNat s7) (([] : List UInt8), ([] : List UInt8))).2)] 0), (.agg [(.d (.str (List.getD x0 (Int.toNat s7) (([] : List UInt8), ([] : List UInt8))).1)), (.d (.str (List.getD x0 (Int.toNat s7) (([] : List UInt8), ([] : List UInt8))).2))]), (.ptr 0 0), (.d (.str (List.getD x0 (Int.toNat s7) (([] : List UInt8), ([] : List UInt8))).1)), (.d (.bool r1)), (.d (.bool (!r1))), (.d (.bool (!r1))), (.ptr 0 1), (.d (.str (List.getD x0 (Int.toNat s7) (([] : List UInt8), ([] : List UInt8))).2)), (.d (.bool ((List.getD x0 (Int.toNat s7) (([] : List UInt8), ([] : List UInt8))).2 == ([] : List UInt8)))), (.d (.bool ((List.getD x0 (Int.toNat s7) (([] : List UInt8), ([] : List UInt8))).2 == ([] : List UInt8)))), (.d (.bool ((List.getD x0 (Int.toNat s7) (([] : List UInt8), ([] : List UInt8))).2 == ([] : List UInt8)))), (.tup []), (.tup []), (.tup []), (.tup []), (.d (.bool true)), (.d (.bool true)), (.tup []), (.tup []), (.tup []), (.tup []), (.tup []), (.tup []), (.tup []), (.tup []), (.tup []), (.tup []), (.tup []), (.tup []), (.tup []), (.d (.bool true)), .top, .top, .top, .top], [(.cells [(.d (.str (List.getD x0 (Int.toNat s7) (([] : List UInt8), ([] : List UInt8))).1)), (.d (.str (List.getD x0 (Int.toNat s7) (([] : List UInt8), ([] : List UInt8))).2))]), .dead, .dead, .dead, .dead, .dead, .dead, .dead, .dead, .dead, .dead, .dead, .dead, .dead, .dead, .dead, .dead, .dead, .dead, .dead, .dead, .dead, .dead, .dead, .dead, .dead, .dead, .dead, .dead, .dead, .dead, .dead, .dead, .dead, .dead, .dead, .dead, .dead, .dead, .dead, .dead, .dead, .dead, .dead, .dead, .dead, .dead, .dead, .dead, .dead, .dead, .dead, .dead, .dead, .dead, .dead, .dead, .dead, .dead, .dead, .dead, .dead, .dead, .dead, .dead, .dead, .dead, .dead, .dead, .dead, .dead, .dead, .dead, .dead, .dead, .dead, .dead, .dead, .dead, .dead, .dead, .dead, .dead, .dead, .dead, .dead, .dead, .dead, .dead, .dead, .dead, .dead, .dead, .dead, .dead, .dead, .dead, .dead, .dead, .dead, .dead, .dead, .dead, .dead, .dead, .dead, .dead, .dead, .dead, .dead, .dead, .dead, .dead, .dead, .dead, .dead, .dead, .dead, .dead, .dead, .dead])) := by
  exact turns_last (by simp) (M.run_of_path _ [true, true, true, true, false, false, false, false, true, true, true, true, true, true, true, true, true, true, true] _ _ (by kernel_rfl) (all_t c0 (all_t c1 (all_t c2 (all_t c3 (all_nt c4 (all_nt c4 (all_nt c4 (all_nt c4 (all_t c8 (all_t c8 (all_t c8 (all_t c8 (all_t c8 (all_t rfl (all_t rfl (all_t rfl (all_t rfl (all_t rfl (all_t rfl all_nil)))))))))))))))))))) 
set_option maxHeartbeats 20000000 in
theorem l49_0_w1 (m n : Nat) (x0 : List ((List UInt8) × (List UInt8))) (s6 : Int) (s7 : Int) (c0 : decide (s7 < s6) = true) (c1 : decide (0 ≤ s7) = true) (c2 : decide (s7 < (((List.length x0) : Nat) : Int)) = true) (c3 : decide (List.length (List.getD x0 (Int.toNat s7) (([] : List UInt8), ([] : List UInt8))).1 ≤ 9223372036854775807) = true) (c4 : (wordG (List.getD x0 (Int.toNat s7) (([] : List UInt8), ([] : List UInt8))).1) = true) (c8 : ¬ ((List.getD x0 (Int.toNat s7) (([] : List UInt8), ([] : List UInt8))).2 == ([] : List UInt8)) = true) (c13 : decide ((((List.length (List.getD x0 (Int.toNat s7) (([] : List UInt8), ([] : List UInt8))).2) : Nat) : Int) > 24) = true) : (turns (hds 49 225) 0 225 (evC byref (evCall F S14 (m + 24)) (m + 24) 0 (hds 49) lbl49_0) (n + 1) (l49_0H x0 s6 s7) (l49_0B x0 s6 s7)).run = some (let r1 := (wordG (List.getD x0 (Int.toNat s7) (([] : List UInt8), ([] : List UInt8))).1); (.ret, [(.d (.sl (.pair .str .str) x0)), .top, (.d (.bool false)), (.d (.int .i64 s7)), (.ptr 0 0), (.d (.sl (.pair .str .str) x0)), (.d (.int .i64 s6)), (.d (.int .i64 s7)), (.d (.bool (decide (s7 < s6)))), (.d (.int .i64 s7)), (.cptr [(.str (List.getD x0 (Int.toNat s7) (([] : List UInt8), ([] : List UInt8))).1), (.str (List.getD x0 (Int.toNat s7) (([] : List UInt8), ([] : List UInt8))).2)] 0), (.agg [(.d (.str (List.getD x0 (Int.toNat s7) (([] : List UInt8), ([] : List UInt8))).1)), (.d (.str (List.getD x0 (Int.toNat s7) (([] : List UInt8), ([] : List UInt8))).2))]), (.ptr 0 0), (.d (.str (List.getD x0 (Int.toNat s7) (([] : List UInt8), ([] : List UInt8))).1)), (.d (.bool r1)), (.d (.bool (!r1))), (.d (.bool (!r1))), (.ptr 0 1), (.d (.str (List.getD x0 (Int.toNat s7) (([] : List UInt8), ([] : List UInt8))).2)), (.d (.bool ((List.getD x0 (Int.toNat s7) (([] : List UInt8), ([] : List UInt8))).2 == ([] : List UInt8)))), (.d (.bool ((List.getD x0 (Int.toNat s7) (([] : List UInt8), ([] : List UInt8))).2 == ([] : List UInt8)))), (.d (.bool ((List.getD x0 (Int.toNat s7) (([] : List UInt8), ([] : List UInt8))).2 == ([] : List UInt8)))), (.ptr 0 1), (.d (.str (List.getD x0 (Int.toNat s7) (([] : List UInt8), ([] : List UInt8))).2)), (.d (.int .i64 (((List.length (List.getD x0 (Int.toNat s7) (([] : List UInt8), ([] : List UInt8))).2) : Nat) : Int))), (.d (.bool (decide ((((List.length (List.getD x0 (Int.toNat s7) (([] : List UInt8), ([] : List UInt8))).2) : Nat) : Int) > 24)))), (.d (.bool (decide ((((List.length (List.getD x0 (Int.toNat s7) (([] : List UInt8), ([] : List UInt8))).2) : Nat) : Int) > 24)))), (.d (.bool (decide ((((List.length (List.getD x0 (Int.toNat s7) (([] : List UInt8), ([] : List UInt8))).2) : Nat) : Int) > 24)))), (.tup []), (.tup []), (.tup []), (.tup []), (.tup []), (.tup []), (.tup []), (.tup []), (.tup []), (.tup []), (.tup []), (.tup []), (.tup []), (.d (.bool true)), .top, .top, .top, .top], [(.cells [(.d (.str (List.getD x0 (Int.toNat s7) (([] : List UInt8), ([] : List UInt8))).1)), (.d (.str (List.getD x0 (Int.toNat s7) (([] : List UInt8), ([] : List UInt8))).2))]), .dead, .dead, .dead, .dead, .dead, .dead, .dead, .dead, .dead, .dead, .dead, .dead, .dead, .dead, .dead, .dead, .dead, .dead, .dead, .dead, .dead, .dead, .dead, .dead, .dead, .dead, .dead, .dead, .dead, .dead, .dead, .dead, .dead, .dead, .dead, .dead, .dead, .dead, .dead, .dead, .dead, .dead, .dead, .dead, .dead, .dead, .dead, .dead, .dead, .dead, .dead, .dead, .dead, .dead, .dead, .dead, .dead, .dead, .dead, .dead, .dead, .dead, .dead, .dead, .dead, .dead, .dead, .dead, .dead, .dead, .dead, .dead, .dead, .dead, .dead, .dead, .dead, .dead, .dead, .dead, .dead, .dead, .dead, .dead, .dead, .dead, .dead, .dead, .dead, .dead, .dead, .dead, .dead, .dead, .dead, .dead, .dead, .dead, .dead, .dead, .dead, .dead, .dead, .dead, .dead, .dead, .dead, .dead, .dead, .dead, .dead, .dead, .dead, .dead, .dead, .dead, .dead, .dead, .dead, .dead])) := by
  exact turns_last (by simp) (M.run_of_path _ [true, true, true, true, false, false, false, false, false, false, false, false, false, true, true, true, true, true, true] _ _ (by kernel_rfl) (all_t c0 (all_t c1 (all_t c2 (all_t c3 (all_nt c4 (all_nt c4 (all_nt c4 (all_nt c4 (all_f c8 (all_f c8 (all_f c8 (all_f c8 (all_f c8 (all_t c13 (all_t c13 (all_t c13 (all_t c13 (all_t c13 (all_t rfl all_nil)))))))))))))))))))) 
set_option maxHeartbeats 20000000 in
theorem l49_0_w2 (m n : Nat) (x0 : List ((List UInt8) × (List UInt8))) (s6 : Int) (s7 : Int) (r : AEx × Env × Boxes) (c0 : decide (s7 < s6) = true) (c1 : decide (0 ≤ s7) = true) (c2 : decide (s7 < (((List.length x0) : Nat) : Int)) = true) (c3 : decide (List.length (List.getD x0 (Int.toNat s7) (([] : List UInt8), ([] : List UInt8))).1 ≤ 9223372036854775807) = true) (c4 : (wordG (List.getD x0 (Int.toNat s7) (([] : List UInt8), ([] : List UInt8))).1) = true) (c8 : ¬ ((List.getD x0 (Int.toNat s7) (([] : List UInt8), ([] : List UInt8))).2 == ([] : List UInt8)) = true) (c13 : ¬ decide ((((List.length (List.getD x0 (Int.toNat s7) (([] : List UInt8), ([] : List UInt8))).2) : Nat) : Int) > 24) = true) (c16 : decide (s7 > 0) = true) (c20 : decide (0 ≤ (IntKind.wrap .i64 (s7 - (1)))) = true) (c21 : decide ((IntKind.wrap .i64 (s7 - (1))) < (((List.length x0) : Nat) : Int)) = true) (c30 : (Op.bytesLess (List.getD x0 (Int.toNat (IntKind.wrap .i64 (s7 - (1)))) (([] : List UInt8), ([] : List UInt8))).1 (List.getD x0 (Int.toNat s7) (([] : List UInt8), ([] : List UInt8))).1) = true) (ih : (turns (hds 49 225) 0 225 (evC byref (evCall F S14 (m + 24)) (m + 24) 0 (hds 49) lbl49_0) n (l49_0H x0 s6 ((IntKind.wrap .i64 (s7 + (1))))) (l49_0B x0 s6 ((IntKind.wrap .i64 (s7 + (1)))))).run = some r) : (turns (hds 49 225) 0 225 (evC byref (evCall F S14 (m + 24)) (m + 24) 0 (hds 49) lbl49_0) (n + 1) (l49_0H x0 s6 s7) (l49_0B x0 s6 s7)).run = some r := by
  exact turns_step (M.run_of_path _ [true, true, true, true, false, false, false, false, false, false, false, false, false, false, false, false, true, true, true, true, true, true, true, true, true, true, true, false, true, false, false] _ _ (by kernel_rfl) (all_t c0 (all_t c1 (all_t c2 (all_t c3 (all_nt c4 (all_nt c4 (all_nt c4 (all_nt c4 (all_f c8 (all_f c8 (all_f c8 (all_f c8 (all_f c8 (all_f c13 (all_f c13 (all_f c13 (all_t c16 (all_t c16 (all_t c16 (all_t c16 (all_t c20 (all_t c21 (all_t c16 (all_t c16 (all_t c16 (all_t c16 (all_t c16 (all_f c13 (all_t c16 (all_f c13 (all_nt c30 all_nil)))))))))))))))))))))))))))))))) ih
set_option maxHeartbeats 20000000 in
theorem l49_0_w3 (m n : Nat) (x0 : List ((List UInt8) × (List UInt8))) (s6 : Int) (s7 : Int) (c0 : decide (s7 < s6) = true) (c1 : decide (0 ≤ s7) = true) (c2 : decide (s7 < (((List.length x0) : Nat) : Int)) = true) (c3 : decide (List.length (List.getD x0 (Int.toNat s7) (([] : List UInt8), ([] : List UInt8))).1 ≤ 9223372036854775807) = true) (c4 : (wordG (List.getD x0 (Int.toNat s7) (([] : List UInt8), ([] : List UInt8))).1) = true) (c8 : ¬ ((List.getD x0 (Int.toNat s7) (([] : List UInt8), ([] : List UInt8))).2 == ([] : List UInt8)) = true) (c13 : ¬ decide ((((List.length (List.getD x0 (Int.toNat s7) (([] : List UInt8), ([] : List UInt8))).2) : Nat) : Int) > 24) = true) (c16 : decide (s7 > 0) = true) (c20 : decide (0 ≤ (IntKind.wrap .i64 (s7 - (1)))) = true) (c21 : decide ((IntKind.wrap .i64 (s7 - (1))) < (((List.length x0) : Nat) : Int)) = true) (c30 : ¬ (Op.bytesLess (List.getD x0 (Int.toNat (IntKind.wrap .i64 (s7 - (1)))) (([] : List UInt8), ([] : List UInt8))).1 (List.getD x0 (Int.toNat s7) (([] : List UInt8), ([] : List UInt8))).1) = true) : (turns (hds 49 225) 0 225 (evC byref (evCall F S14 (m + 24)) (m + 24) 0 (hds 49) lbl49_0) (n + 1) (l49_0H x0 s6 s7) (l49_0B x0 s6 s7)).run = some (let r1 := (wordG (List.getD x0 (Int.toNat s7) (([] : List UInt8), ([] : List UInt8))).1); (.ret, [(.d (.sl (.pair .str .str) x0)), .top, (.d (.bool false)), (.d (.int .i64 s7)), (.ptr 0 0), (.d (.sl (.pair .str .str) x0)), (.d (.int .i64 s6)), (.d (.int .i64 s7)), (.d (.bool (decide (s7 < s6)))), (.d (.int .i64 s7)), (.cptr [(.str (List.getD x0 (Int.toNat s7) (([] : List UInt8), ([] : List UInt8))).1), (.str (List.getD x0 (Int.toNat s7) (([] : List UInt8), ([] : List UInt8))).2)] 0), (.agg [(.d (.str (List.getD x0 (Int.toNat s7) (([] : List UInt8), ([] : List UInt8))).1)), (.d (.str (List.getD x0 (Int.toNat s7) (([] : List UInt8), ([] : List UInt8))).2))]), (.ptr 0 0), (.d (.str (List.getD x0 (Int.toNat s7) (([] : List UInt8), ([] : List UInt8))).1)), (.d (.bool r1)), (.d (.bool (!r1))), (.d (.bool (!r1))), (.ptr 0 1), (.d (.str (List.getD x0 (Int.toNat s7) (([] : List UInt8), ([] : List UInt8))).2)), (.d (.bool ((List.getD x0 (Int.toNat s7) (([] : List UInt8), ([] : List UInt8))).2 == ([] : List UInt8)))), (.d (.bool ((List.getD x0 (Int.toNat s7) (([] : List UInt8), ([] : List UInt8))).2 == ([] : List UInt8)))), (.d (.bool ((List.getD x0 (Int.toNat s7) (([] : List UInt8), ([] : List UInt8))).2 == ([] : List UInt8)))), (.ptr 0 1), (.d (.str (List.getD x0 (Int.toNat s7) (([] : List UInt8), ([] : List UInt8))).2)), (.d (.int .i64 (((List.length (List.getD x0 (Int.toNat s7) (([] : List UInt8), ([] : List UInt8))).2) : Nat) : Int))), (.d (.bool (decide ((((List.length (List.getD x0 (Int.toNat s7) (([] : List UInt8), ([] : List UInt8))).2) : Nat) : Int) > 24)))), (.d (.bool (decide ((((List.length (List.getD x0 (Int.toNat s7) (([] : List UInt8), ([] : List UInt8))).2) : Nat) : Int) > 24)))), (.d (.bool (decide ((((List.length (List.getD x0 (Int.toNat s7) (([] : List UInt8), ([] : List UInt8))).2) : Nat) : Int) > 24)))), (.d (.int .i64 s7)), (.d (.bool (decide (s7 > 0)))), (.d (.bool (decide (s7 > 0)))), (.d (.sl (.pair .str .str) x0)), (.d (.int .i64 s7)), (.d (.int .i64 (IntKind.wrap .i64 (s7 - (1))))), (.cptr [(.str (List.getD x0 (Int.toNat (IntKind.wrap .i64 (s7 - (1)))) (([] : List UInt8), ([] : List UInt8))).1), (.str (List.getD x0 (Int.toNat (IntKind.wrap .i64 (s7 - (1)))) (([] : List UInt8), ([] : List UInt8))).2)] 0), (.cptr [(.str (List.getD x0 (Int.toNat (IntKind.wrap .i64 (s7 - (1)))) (([] : List UInt8), ([] : List UInt8))).1), (.str (List.getD x0 (Int.toNat (IntKind.wrap .i64 (s7 - (1)))) (([] : List UInt8), ([] : List UInt8))).2)] 0), (.d (.str (List.getD x0 (Int.toNat (IntKind.wrap .i64 (s7 - (1)))) (([] : List UInt8), ([] : List UInt8))).1)), (.ptr 0 0), (.d (.str (List.getD x0 (Int.toNat s7) (([] : List UInt8), ([] : List UInt8))).1)), (.d (.bool (!(Op.bytesLess (List.getD x0 (Int.toNat (IntKind.wrap .i64 (s7 - (1)))) (([] : List UInt8), ([] : List UInt8))).1 (List.getD x0 (Int.toNat s7) (([] : List UInt8), ([] : List UInt8))).1)))), (.d (.bool (!(Op.bytesLess (List.getD x0 (Int.toNat (IntKind.wrap .i64 (s7 - (1)))) (([] : List UInt8), ([] : List UInt8))).1 (List.getD x0 (Int.toNat s7) (([] : List UInt8), ([] : List UInt8))).1)))), (.d (.bool (!(Op.bytesLess (List.getD x0 (Int.toNat (IntKind.wrap .i64 (s7 - (1)))) (([] : List UInt8), ([] : List UInt8))).1 (List.getD x0 (Int.toNat s7) (([] : List UInt8), ([] : List UInt8))).1)))), .top, .top, .top, .top], [(.cells [(.d (.str (List.getD x0 (Int.toNat s7) (([] : List UInt8), ([] : List UInt8))).1)), (.d (.str (List.getD x0 (Int.toNat s7) (([] : List UInt8), ([] : List UInt8))).2))]), .dead, .dead, .dead, .dead, .dead, .dead, .dead, .dead, .dead, .dead, .dead, .dead, .dead, .dead, .dead, .dead, .dead, .dead, .dead, .dead, .dead, .dead, .dead, .dead, .dead, .dead, .dead, .dead, .dead, .dead, .dead, .dead, .dead, .dead, .dead, .dead, .dead, .dead, .dead, .dead, .dead, .dead, .dead, .dead, .dead, .dead, .dead, .dead, .dead, .dead, .dead, .dead, .dead, .dead, .dead, .dead, .dead, .dead, .dead, .dead, .dead, .dead, .dead, .dead, .dead, .dead, .dead, .dead, .dead, .dead, .dead, .dead, .dead, .dead, .dead, .dead, .dead, .dead, .dead, .dead, .dead, .dead, .dead, .dead, .dead, .dead, .dead, .dead, .dead, .dead, .dead, .dead, .dead, .dead, .dead, .dead, .dead, .dead, .dead, .dead, .dead, .dead, .dead, .dead, .dead, .dead, .dead, .dead, .dead, .dead, .dead, .dead, .dead, .dead, .dead, .dead, .dead, .dead, .dead, .dead])) := by
  exact turns_last (by simp) (M.run_of_path _ [true, true, true, true, false, false, false, false, false, false, false, false, false, false, false, false, true, true, true, true, true, true, true, true, true, true, true, false, true, false, true] _ _ (by kernel_rfl) (all_t c0 (all_t c1 (all_t c2 (all_t c3 (all_nt c4 (all_nt c4 (all_nt c4 (all_nt c4 (all_f c8 (all_f c8 (all_f c8 (all_f c8 (all_f c8 (all_f c13 (all_f c13 (all_f c13 (all_t c16 (all_t c16 (all_t c16 (all_t c16 (all_t c20 (all_t c21 (all_t c16 (all_t c16 (all_t c16 (all_t c16 (all_t c16 (all_f c13 (all_t c16 (all_f c13 (all_nf c30 all_nil)))))))))))))))))))))))))))))))) 
set_option maxHeartbeats 20000000 in
theorem l49_0_w4 (m n : Nat) (x0 : List ((List UInt8) × (List UInt8))) (s6 : Int) (s7 : Int) (r : AEx × Env × Boxes) (c0 : decide (s7 < s6) = true) (c1 : decide (0 ≤ s7) = true) (c2 : decide (s7 < (((List.length x0) : Nat) : Int)) = true) (c3 : decide (List.length (List.getD x0 (Int.toNat s7) (([] : List UInt8), ([] : List UInt8))).1 ≤ 9223372036854775807) = true) (c4 : (wordG (List.getD x0 (Int.toNat s7) (([] : List UInt8), ([] : List UInt8))).1) = true) (c8 : ¬ ((List.getD x0 (Int.toNat s7) (([] : List UInt8), ([] : List UInt8))).2 == ([] : List UInt8)) = true) (c13 : ¬ decide ((((List.length (List.getD x0 (Int.toNat s7) (([] : List UInt8), ([] : List UInt8))).2) : Nat) : Int) > 24) = true) (c16 : ¬ decide (s7 > 0) = true) (ih : (turns (hds 49 225) 0 225 (evC byref (evCall F S14 (m + 24)) (m + 24) 0 (hds 49) lbl49_0) n (l49_0H x0 s6 ((IntKind.wrap .i64 (s7 + (1))))) (l49_0B x0 s6 ((IntKind.wrap .i64 (s7 + (1)))))).run = some r) : (turns (hds 49 225) 0 225 (evC byref (evCall F S14 (m + 24)) (m + 24) 0 (hds 49) lbl49_0) (n + 1) (l49_0H x0 s6 s7) (l49_0B x0 s6 s7)).run = some r := by
  exact turns_step (M.run_of_path _ [true, true, true, true, false, false, false, false, false, false, false, false, false, false, false, false, false, false, false, false, false, false, false, false, false, false, false, false, false] _ _ (by kernel_rfl) (all_t c0 (all_t c1 (all_t c2 (all_t c3 (all_nt c4 (all_nt c4 (all_nt c4 (all_nt c4 (all_f c8 (all_f c8 (all_f c8 (all_f c8 (all_f c8 (all_f c13 (all_f c13 (all_f c13 (all_f c16 (all_f c16 (all_f c16 (all_f c16 (all_f c16 (all_f c16 (all_f c16 (all_f c16 (all_f c16 (all_f c13 (all_f c16 (all_f c13 (all_f Bool.false_ne_true all_nil)))))))))))))))))))))))))))))) ih
set_option maxHeartbeats 20000000 in
theorem l49_0_w5 (m n : Nat) (x0 : List ((List UInt8) × (List UInt8))) (s6 : Int) (s7 : Int) (c0 : decide (s7 < s6) = true) (c1 : decide (0 ≤ s7) = true) (c2 : decide (s7 < (((List.length x0) : Nat) : Int)) = true) (c3 : decide (List.length (List.getD x0 (Int.toNat s7) (([] : List UInt8), ([] : List UInt8))).1 ≤ 9223372036854775807) = true) (c4 : ¬ (wordG (List.getD x0 (Int.toNat s7) (([] : List UInt8), ([] : List UInt8))).1) = true) : (turns (hds 49 225) 0 225 (evC byref (evCall F S14 (m + 24)) (m + 24) 0 (hds 49) lbl49_0) (n + 1) (l49_0H x0 s6 s7) (l49_0B x0 s6 s7)).run = some (let r1 := (wordG (List.getD x0 (Int.toNat s7) (([] : List UInt8), ([] : List UInt8))).1); (.ret, [(.d (.sl (.pair .str .str) x0)), .top, (.d (.bool false)), (.d (.int .i64 s7)), (.ptr 0 0), (.d (.sl (.pair .str .str) x0)), (.d (.int .i64 s6)), (.d (.int .i64 s7)), (.d (.bool (decide (s7 < s6)))), (.d (.int .i64 s7)), (.cptr [(.str (List.getD x0 (Int.toNat s7) (([] : List UInt8), ([] : List UInt8))).1), (.str (List.getD x0 (Int.toNat s7) (([] : List UInt8), ([] : List UInt8))).2)] 0), (.agg [(.d (.str (List.getD x0 (Int.toNat s7) (([] : List UInt8), ([] : List UInt8))).1)), (.d (.str (List.getD x0 (Int.toNat s7) (([] : List UInt8), ([] : List UInt8))).2))]), (.ptr 0 0), (.d (.str (List.getD x0 (Int.toNat s7) (([] : List UInt8), ([] : List UInt8))).1)), (.d (.bool r1)), (.d (.bool (!r1))), (.d (.bool (!r1))), (.tup []), (.tup []), (.tup []), (.d (.bool true)), (.d (.bool true)), (.tup []), (.tup []), (.tup []), (.tup []), (.d (.bool true)), (.d (.bool true)), (.tup []), (.tup []), (.tup []), (.tup []), (.tup []), (.tup []), (.tup []), (.tup []), (.tup []), (.tup []), (.tup []), (.tup []), (.tup []), (.d (.bool true)), .top, .top, .top, .top], [(.cells [(.d (.str (List.getD x0 (Int.toNat s7) (([] : List UInt8), ([] : List UInt8))).1)), (.d (.str (List.getD x0 (Int.toNat s7) (([] : List UInt8), ([] : List UInt8))).2))]), .dead, .dead, .dead, .dead, .dead, .dead, .dead, .dead, .dead, .dead, .dead, .dead, .dead, .dead, .dead, .dead, .dead, .dead, .dead, .dead, .dead, .dead, .dead, .dead, .dead, .dead, .dead, .dead, .dead, .dead, .dead, .dead, .dead, .dead, .dead, .dead, .dead, .dead, .dead, .dead, .dead, .dead, .dead, .dead, .dead, .dead, .dead, .dead, .dead, .dead, .dead, .dead, .dead, .dead, .dead, .dead, .dead, .dead, .dead, .dead, .dead, .dead, .dead, .dead, .dead, .dead, .dead, .dead, .dead, .dead, .dead, .dead, .dead, .dead, .dead, .dead, .dead, .dead, .dead, .dead, .dead, .dead, .dead, .dead, .dead, .dead, .dead, .dead, .dead, .dead, .dead, .dead, .dead, .dead, .dead, .dead, .dead, .dead, .dead, .dead, .dead, .dead, .dead, .dead, .dead, .dead, .dead, .dead, .dead, .dead, .dead, .dead, .dead, .dead, .dead, .dead, .dead, .dead, .dead, .dead])) := by
  exact turns_last (by simp) (M.run_of_path _ [true, true, true, true, true, true, true, true, true, true, true, true, true, true, true, true, true, true, true] _ _ (by kernel_rfl) (all_t c0 (all_t c1 (all_t c2 (all_t c3 (all_nf c4 (all_nf c4 (all_nf c4 (all_nf c4 (all_t rfl (all_t rfl (all_t rfl (all_t rfl (all_t rfl (all_t rfl (all_t rfl (all_t rfl (all_t rfl (all_t rfl (all_t rfl all_nil)))))))))))))))))))) 
set_option maxHeartbeats 20000000 in
theorem l49_0_w6 (m n : Nat) (x0 : List ((List UInt8) × (List UInt8))) (s6 : Int) (s7 : Int) (c0 : ¬ decide (s7 < s6) = true) : (turns (hds 49 225) 0 225 (evC byref (evCall F S14 (m + 24)) (m + 24) 0 (hds 49) lbl49_0) (n + 1) (l49_0H x0 s6 s7) (l49_0B x0 s6 s7)).run = some (.exit 0, [(.d (.sl (.pair .str .str) x0)), .top, .top, .top, .top, (.d (.sl (.pair .str .str) x0)), (.d (.int .i64 s6)), (.d (.int .i64 s7)), (.d (.bool (decide (s7 < s6)))), .top, .top, .top, .top, .top, .top, .top, .top, .top, .top, .top, .top, .top, .top, .top, .top, .top, .top, .top, .top, .top, .top, .top, .top, .top, .top, .top, .top, .top, .top, .top, .top, .top, .top, .top, .top, .top], []) := by
  exact turns_last (by simp) (M.run_of_path _ [false] _ _ (by kernel_rfl) (all_f c0 all_nil)) 

set_option maxHeartbeats 20000000 in
theorem l49_0_step (m n : Nat) (ih : ∀ (x0 : List ((List UInt8) × (List UInt8))) (s6 : Int) (s7 : Int) (q : Nat × Int), l49_0 m n x0 s6 s7 = some q → (turns (hds 49 225) 0 225 (evC byref (evCall F S14 (m + 24)) (m + 24) 0 (hds 49) lbl49_0) n (l49_0H x0 s6 s7) (l49_0B x0 s6 s7)).run = some (l49_0E (x0) (s6) (q.2) q.1)) (x0 : List ((List UInt8) × (List UInt8))) (s6 : Int) (s7 : Int) (q : Nat × Int) (h : l49_0 m (n + 1) x0 s6 s7 = some q) : (turns (hds 49 225) 0 225 (evC byref (evCall F S14 (m + 24)) (m + 24) 0 (hds 49) lbl49_0) (n + 1) (l49_0H x0 s6 s7) (l49_0B x0 s6 s7)).run = some (l49_0E (x0) (s6) (q.2) q.1) := by
  rw [l49_0] at h
  refine ite_cases h (fun c0 h => ?_) (fun c0 h => ?_)
  · skip
    refine ite_cases h (fun c1 h => ?_) (fun c1 h => ?_)
    · skip
      refine ite_cases h (fun c2 h => ?_) (fun c2 h => ?_)
      · skip
        refine ite_cases h (fun c3 h => ?_) (fun c3 h => ?_)
        · skip
          refine ite_cases h (fun c4 h => ?_) (fun c4 h => ?_)
          · skip
            refine ite_cases h (fun c8 h => ?_) (fun c8 h => ?_)
            · skip
              cases h
              exact l49_0_w0 m n x0 s6 s7 c0 c1 c2 c3 c4 c8
            · skip
              refine ite_cases h (fun c13 h => ?_) (fun c13 h => ?_)
              · skip
                cases h
                exact l49_0_w1 m n x0 s6 s7 c0 c1 c2 c3 c4 c8 c13
              · skip
                refine ite_cases h (fun c16 h => ?_) (fun c16 h => ?_)
                · skip
                  refine ite_cases h (fun c20 h => ?_) (fun c20 h => ?_)
                  · skip
                    refine ite_cases h (fun c21 h => ?_) (fun c21 h => ?_)
                    · skip
                      refine ite_cases h (fun c30 h => ?_) (fun c30 h => ?_)
                      · skip
                        exact l49_0_w2 m n x0 s6 s7 _ c0 c1 c2 c3 c4 c8 c13 c16 c20 c21 c30 (ih _ _ _ q h)
                      · skip
                        cases h
                        exact l49_0_w3 m n x0 s6 s7 c0 c1 c2 c3 c4 c8 c13 c16 c20 c21 c30
                    · skip
                      cases h
                  · skip
                    cases h
                · skip
                  exact l49_0_w4 m n x0 s6 s7 _ c0 c1 c2 c3 c4 c8 c13 c16 (ih _ _ _ q h)
          · skip
            cases h
            exact l49_0_w5 m n x0 s6 s7 c0 c1 c2 c3 c4
        · skip
          cases h
      · skip
        cases h
    · skip
      cases h
  · skip
    cases h
    exact l49_0_w6 m n x0 s6 s7 c0
set_option maxHeartbeats 20000000 in
theorem l49_0_ok (m : Nat) : ∀ (n : Nat) (x0 : List ((List UInt8) × (List UInt8))) (s6 : Int) (s7 : Int) (q : Nat × Int), l49_0 m n x0 s6 s7 = some q → (turns (hds 49 225) 0 225 (evC byref (evCall F S14 (m + 24)) (m + 24) 0 (hds 49) lbl49_0) n (l49_0H x0 s6 s7) (l49_0B x0 s6 s7)).run = some (l49_0E (x0) (s6) (q.2) q.1)
  | 0, x0, s6, s7, q, h => by cases h
  | n + 1, x0, s6, s7, q, h => l49_0_step m n (l49_0_ok m n) x0 s6 s7 q h

def p49 (m : Nat) (x0 : List ((List UInt8) × (List UInt8))) : Option (Bool) :=
  if (Option.isSome (l49_0 m (m + 24) x0 ((((List.length x0) : Nat) : Int)) 0)) = true then
    if ((l49_0R m (m + 24) x0 ((((List.length x0) : Nat) : Int)) 0).1 == 0) = true then
      some (false)
    else
      if ((l49_0R m (m + 24) x0 ((((List.length x0) : Nat) : Int)) 0).1 == 1) = true then
        some (false)
      else
        if ((l49_0R m (m + 24) x0 ((((List.length x0) : Nat) : Int)) 0).1 == 2) = true then
          some (false)
        else
          if ((l49_0R m (m + 24) x0 ((((List.length x0) : Nat) : Int)) 0).1 == 3) = true then
            some (false)
          else
            if ((l49_0R m (m + 24) x0 ((((List.length x0) : Nat) : Int)) 0).1 == 4) = true then
              some (decide ((((List.length x0) : Nat) : Int) ≤ 6))
            else
              none
  else
    none
set_option maxHeartbeats 20000000 in
theorem p49_ok (m : Nat) (x0 : List ((List UInt8) × (List UInt8))) (q : Bool) (h : p49 m x0 = some q) : ∃ r B1, (evCall F S14 (m + 25) 49 [(.d (.sl (.pair .str .str) x0))] []).run = some (r, B1) ∧ 0 ≤ B1.length ∧ wkR B1 [] r (.d (.bool (q))) ∧ wkBs B1 [] 0 [] := by
  unfold p49 at h
  refine ite_cases h (fun c0 h => ?_) (fun c0 h => ?_)
  · skip
    refine ite_cases h (fun c1 h => ?_) (fun c1 h => ?_)
    · skip
      cases h
      refine ⟨(.d (.bool false)), [], runT_ok (LS := (fun k => if k = 225 then some (l49_0E x0 (((((List.length x0) : Nat) : Int))) ((l49_0R m (m + 24) x0 ((((List.length x0) : Nat) : Int)) 0).2) 0) else none)) (fn := fn49) (vis := [(225, l49_0H x0 ((((List.length x0) : Nat) : Int)) 0, l49_0B x0 ((((List.length x0) : Nat) : Int)) 0)]) (by kernel_rfl) rfl (by kernel_rfl) (M.run_of_path _ [] _ _ (by kernel_rfl) all_nil) ?_, by simp, (wkR.one (wkV.one (wk1.eq rfl))), trivial⟩
      intro p hp p2 hq
      rcases List.mem_cons.1 hp with rfl | hp
      · skip
        have h3 := l49_0_ok m (m + 24) x0 ((((List.length x0) : Nat) : Int)) 0 _ (some_getD (d := l49_0D) c0)
        rw [eq_of_beq c1] at h3
        exact Eq.trans (Eq.mp (by kernel_rfl) h3) hq
      cases hp
    · skip
      refine ite_cases h (fun c2 h => ?_) (fun c2 h => ?_)
      · skip
        cases h
        refine ⟨(.d (.bool false)), [], runT_ok (LS := (fun k => if k = 225 then some (l49_0E x0 (((((List.length x0) : Nat) : Int))) ((l49_0R m (m + 24) x0 ((((List.length x0) : Nat) : Int)) 0).2) 1) else none)) (fn := fn49) (vis := [(225, l49_0H x0 ((((List.length x0) : Nat) : Int)) 0, l49_0B x0 ((((List.length x0) : Nat) : Int)) 0)]) (by kernel_rfl) rfl (by kernel_rfl) (M.run_of_path _ [] _ _ (by kernel_rfl) all_nil) ?_, by simp, (wkR.one (wkV.one (wk1.eq rfl))), trivial⟩
        intro p hp p2 hq
        rcases List.mem_cons.1 hp with rfl | hp
        · skip
          have h3 := l49_0_ok m (m + 24) x0 ((((List.length x0) : Nat) : Int)) 0 _ (some_getD (d := l49_0D) c0)
          rw [eq_of_beq c2] at h3
          exact Eq.trans (Eq.mp (by kernel_rfl) h3) hq
        cases hp
      · skip
        refine ite_cases h (fun c3 h => ?_) (fun c3 h => ?_)
        · skip
          cases h
          refine ⟨(.d (.bool false)), [], runT_ok (LS := (fun k => if k = 225 then some (l49_0E x0 (((((List.length x0) : Nat) : Int))) ((l49_0R m (m + 24) x0 ((((List.length x0) : Nat) : Int)) 0).2) 2) else none)) (fn := fn49) (vis := [(225, l49_0H x0 ((((List.length x0) : Nat) : Int)) 0, l49_0B x0 ((((List.length x0) : Nat) : Int)) 0)]) (by kernel_rfl) rfl (by kernel_rfl) (M.run_of_path _ [] _ _ (by kernel_rfl) all_nil) ?_, by simp, (wkR.one (wkV.one (wk1.eq rfl))), trivial⟩
          intro p hp p2 hq
          rcases List.mem_cons.1 hp with rfl | hp
          · skip
            have h3 := l49_0_ok m (m + 24) x0 ((((List.length x0) : Nat) : Int)) 0 _ (some_getD (d := l49_0D) c0)
            rw [eq_of_beq c3] at h3
            exact Eq.trans (Eq.mp (by kernel_rfl) h3) hq
          cases hp
        · skip
          refine ite_cases h (fun c4 h => ?_) (fun c4 h => ?_)
          · skip
            cases h
            refine ⟨(.d (.bool false)), [], runT_ok (LS := (fun k => if k = 225 then some (l49_0E x0 (((((List.length x0) : Nat) : Int))) ((l49_0R m (m + 24) x0 ((((List.length x0) : Nat) : Int)) 0).2) 3) else none)) (fn := fn49) (vis := [(225, l49_0H x0 ((((List.length x0) : Nat) : Int)) 0, l49_0B x0 ((((List.length x0) : Nat) : Int)) 0)]) (by kernel_rfl) rfl (by kernel_rfl) (M.run_of_path _ [] _ _ (by kernel_rfl) all_nil) ?_, by simp, (wkR.one (wkV.one (wk1.eq rfl))), trivial⟩
            intro p hp p2 hq
            rcases List.mem_cons.1 hp with rfl | hp
            · skip
              have h3 := l49_0_ok m (m + 24) x0 ((((List.length x0) : Nat) : Int)) 0 _ (some_getD (d := l49_0D) c0)
              rw [eq_of_beq c4] at h3
              exact Eq.trans (Eq.mp (by kernel_rfl) h3) hq
            cases hp
          · skip
            refine ite_cases h (fun c5 h => ?_) (fun c5 h => ?_)
            · skip
              cases h
              refine ⟨(.d (.bool (decide ((((List.length x0) : Nat) : Int) ≤ 6)))), [], runT_ok (LS := (fun k => if k = 225 then some (l49_0E x0 (((((List.length x0) : Nat) : Int))) ((l49_0R m (m + 24) x0 ((((List.length x0) : Nat) : Int)) 0).2) 4) else none)) (fn := fn49) (vis := [(225, l49_0H x0 ((((List.length x0) : Nat) : Int)) 0, l49_0B x0 ((((List.length x0) : Nat) : Int)) 0)]) (by kernel_rfl) rfl (by kernel_rfl) (M.run_of_path _ [] _ _ (by kernel_rfl) all_nil) ?_, by simp, (wkR.one (wkV.one (wk1.eq rfl))), trivial⟩
              intro p hp p2 hq
              rcases List.mem_cons.1 hp with rfl | hp
              · skip
                have h3 := l49_0_ok m (m + 24) x0 ((((List.length x0) : Nat) : Int)) 0 _ (some_getD (d := l49_0D) c0)
                rw [eq_of_beq c5] at h3
                exact Eq.trans (Eq.mp (by kernel_rfl) h3) hq
              cases hp
            · skip
              cases h
  · skip
    cases h

/-- May a label be? -/
def lab1 (x : (List UInt8) × (List UInt8)) : Bool := wordG x.1 && decide (1 ≤ x.2.length) && decide (x.2.length ≤ 24)
def lrise : LB → Bool
  | a :: b :: l => Op.bytesLess a.1 b.1 && lrise (b :: l)
  | _ => true
/-- May labels be a set? -/
def lrightG (l : LB) : Bool := l.all lab1 && lrise l && decide (l.length ≤ 6)
def lrightPre (l : LB) : Bool := decide (l.length ≤ 1000000 ∧ ∀ x ∈ l, x.1.length ≤ 9223372036854775807)
def lR (l : LB) (k : Nat) : Bool := (l.drop k).all lab1 && lrise (l.drop (k - 1))
theorem lright_loop (m : Nat) (l : LB) (h1 : l.length ≤ 1000000) (h2 : ∀ x ∈ l, x.1.length ≤ 9223372036854775807) : ∀ (n k : Nat), k ≤ l.length → l.length - k < n → ∃ e j, l49_0 m n l (l.length : Nat) (k : Nat) = some (e, j) ∧ ((e = 4 ∧ lR l k = true) ∨ (e < 4 ∧ lR l k = false))
  | 0, k, _, h => by omega
  | n + 1, k, g1, g2 => by
    rw [l49_0]
    by_cases hk : k < l.length
    · have e1 : decide (((k : Nat) : Int) < (((List.length l) : Nat) : Int)) = true := decide_eq_true (by omega)
      have e2 : decide ((0 : Int) ≤ ((k : Nat) : Int)) = true := decide_eq_true (by omega)
      have e7 : IntKind.wrap .i64 (((k : Nat) : Int) + (1)) = ((k + 1 : Nat) : Int) := by rw [wrap_id (by omega) (by omega)]; rfl
      have hq := h2 _ (getD_mem l k (([] : List UInt8), ([] : List UInt8)) hk)
      obtain ⟨e, j, go, hc⟩ := lright_loop m l h1 h2 n (k + 1) (by omega) (by omega)
      have hd := drop_getD l k (([] : List UInt8), ([] : List UInt8)) hk
      have hR : lR l k = (lab1 (l.getD k (([] : List UInt8), ([] : List UInt8))) && (decide (k = 0) || Op.bytesLess (l.getD (k - 1) (([] : List UInt8), ([] : List UInt8))).1 (l.getD k (([] : List UInt8), ([] : List UInt8))).1) && lR l (k + 1)) := by
        unfold lR
        rw [hd, List.all_cons, show k + 1 - 1 = k from rfl]
        cases k with
        | zero => rw [show (0 - 1 : Nat) = 0 from rfl, hd]; simp [Bool.and_assoc]
        | succ k =>
          rw [show k + 1 - 1 = k from rfl]
          have hd0 := drop_getD l k (([] : List UInt8), ([] : List UInt8)) (by omega)
          have hr : lrise (l.drop k) = (Op.bytesLess (l.getD k (([] : List UInt8), ([] : List UInt8))).1 (l.getD (k + 1) (([] : List UInt8), ([] : List UInt8))).1 && lrise (l.drop (k + 1))) := by
            rw [hd0, hd, lrise]
          rw [hr]
          have : decide (k + 1 = 0) = false := decide_eq_false (by omega)
          rw [this, Bool.false_or]
          generalize lab1 (l.getD (k + 1) (([] : List UInt8), ([] : List UInt8))) = A
          generalize List.all (l.drop (k + 1 + 1)) lab1 = B
          generalize Op.bytesLess (l.getD k (([] : List UInt8), ([] : List UInt8))).1 (l.getD (k + 1) (([] : List UInt8), ([] : List UInt8))).1 = C
          generalize lrise (l.drop (k + 1)) = D
          cases A <;> cases B <;> cases C <;> rfl
      have hl : lab1 (l.getD k (([] : List UInt8), ([] : List UInt8))) = (wordG (l.getD k (([] : List UInt8), ([] : List UInt8))).1 && decide (1 ≤ (l.getD k (([] : List UInt8), ([] : List UInt8))).2.length) && decide ((l.getD k (([] : List UInt8), ([] : List UInt8))).2.length ≤ 24)) := rfl
      simp only [show Int.toNat ((k : Nat) : Int) = k from rfl, e1, e2, e7, ↓reduceIte]
      have e3 : decide (List.length (l.getD k (([] : List UInt8), ([] : List UInt8))).1 ≤ 9223372036854775807) = true := decide_eq_true hq
      rw [if_pos e3]
      have yes : lab1 (l.getD k (([] : List UInt8), ([] : List UInt8))) = true → (decide (k = 0) || Op.bytesLess (l.getD (k - 1) (([] : List UInt8), ([] : List UInt8))).1 (l.getD k (([] : List UInt8), ([] : List UInt8))).1) = true → ∃ e j, l49_0 m n l (l.length : Nat) ((k + 1 : Nat) : Int) = some (e, j) ∧ ((e = 4 ∧ lR l k = true) ∨ (e < 4 ∧ lR l k = false)) := by
        intro a b
        rw [hR, a, b]
        exact ⟨e, j, go, by rw [Bool.and_self, Bool.true_and]; exact hc⟩
      have no : ∀ e' : Nat, e' < 4 → (lab1 (l.getD k (([] : List UInt8), ([] : List UInt8))) && (decide (k = 0) || Op.bytesLess (l.getD (k - 1) (([] : List UInt8), ([] : List UInt8))).1 (l.getD k (([] : List UInt8), ([] : List UInt8))).1)) = false → ∃ e j, (some (e', ((k : Nat) : Int)) : Option (Nat × Int)) = some (e, j) ∧ ((e = 4 ∧ lR l k = true) ∨ (e < 4 ∧ lR l k = false)) := by
        intro e' he' a
        rw [hR, a]
        exact ⟨_, _, rfl, .inr ⟨he', rfl⟩⟩
      cases c1 : wordG (l.getD k (([] : List UInt8), ([] : List UInt8))).1 with
      | false => 
        rw [c1] at hl
        rw [if_neg (by simp)]
        exact no 0 (by omega) (by rw [hl]; rfl)
      | true =>
        rw [c1, Bool.true_and] at hl
        rw [if_pos rfl]
        by_cases c2 : (l.getD k (([] : List UInt8), ([] : List UInt8))).2 = []
        · rw [if_pos (by rw [c2]; rfl)]
          exact no 1 (by omega) (by rw [hl, c2]; rfl)
        · have p2 : 1 ≤ (l.getD k (([] : List UInt8), ([] : List UInt8))).2.length := by
            cases h : (l.getD k (([] : List UInt8), ([] : List UInt8))).2 with
            | nil => exact absurd h c2
            | cons a t => simp
          rw [if_neg (by rw [beq_iff_eq]; exact c2)]
          rw [show decide (1 ≤ (l.getD k (([] : List UInt8), ([] : List UInt8))).2.length) = true from decide_eq_true p2, Bool.true_and] at hl
          by_cases c3 : (l.getD k (([] : List UInt8), ([] : List UInt8))).2.length ≤ 24
          · rw [if_neg (show ¬ decide ((((List.length (l.getD k (([] : List UInt8), ([] : List UInt8))).2) : Nat) : Int) > 24) = true by rw [decide_eq_true_eq]; omega)]
            rw [decide_eq_true c3] at hl
            by_cases c4 : k = 0
            · subst c4
              rw [if_neg (by simp)]
              exact yes hl rfl
            · have w1 : IntKind.wrap .i64 (((k : Nat) : Int) - (1)) = ((k - 1 : Nat) : Int) := by rw [wrap_id (by omega) (by omega)]; omega
              rw [if_pos (show decide (((k : Nat) : Int) > 0) = true from decide_eq_true (by omega)), w1, if_pos (decide_eq_true (by omega)), if_pos (decide_eq_true (by omega)), show Int.toNat ((k - 1 : Nat) : Int) = k - 1 from rfl]
              cases c5 : Op.bytesLess (l.getD (k - 1) (([] : List UInt8), ([] : List UInt8))).1 (l.getD k (([] : List UInt8), ([] : List UInt8))).1 with
              | true => rw [if_pos rfl]; exact yes hl (by rw [c5, Bool.or_true])
              | false => rw [if_neg (by simp)]; exact no 3 (by omega) (by rw [c5, decide_eq_false c4]; simp)
          · rw [if_pos (show decide ((((List.length (l.getD k (([] : List UInt8), ([] : List UInt8))).2) : Nat) : Int) > 24) = true from decide_eq_true (by omega))]
            exact no 2 (by omega) (by rw [hl, decide_eq_false c3]; rfl)
    · have e1 : decide (((k : Nat) : Int) < (((List.length l) : Nat) : Int)) = false := decide_eq_false (by omega)
      have e0 : k = l.length := by omega
      subst e0
      rw [e1, if_neg (by simp)]
      refine ⟨4, _, rfl, .inl ⟨rfl, ?_⟩⟩
      unfold lR
      rw [List.drop_length, List.all_nil, Bool.true_and]
      rcases Nat.eq_zero_or_pos l.length with h | h
      · rw [h, List.drop_eq_nil_of_le (by omega)]; rfl
      · rw [drop_getD l (l.length - 1) (([] : List UInt8), ([] : List UInt8)) (by omega), List.drop_eq_nil_of_le (by omega)]; rfl
theorem lright49 (l : LB) (h : lrightPre l = true) : ∃ m, p49 m l = some (lrightG l) := by
  have ⟨h1, h2⟩ := of_decide_eq_true h
  refine ⟨l.length, ?_⟩
  obtain ⟨e, j, hr, hc⟩ := lright_loop l.length l h1 h2 (l.length + 24) 0 (by omega) (by omega)
  have q2 : decide ((((List.length l) : Nat) : Int) ≤ 6) = decide (l.length ≤ 6) := by rw [decide_eq_decide]; omega
  have hR : lrightG l = (lR l 0 && decide (l.length ≤ 6)) := by unfold lrightG lR; rfl
  simp only [Int.natCast_zero] at hr
  unfold p49
  rw [hR]
  simp only [l49_0R, hr, q2, Option.isSome_some, Option.getD_some, ↓reduceIte]
  rcases hc with ⟨rfl, hc⟩ | ⟨hlt, hc⟩
  · rw [hc, Bool.true_and]; rfl
  · rw [hc, Bool.false_and]
    have : e = 0 ∨ e = 1 ∨ e = 2 ∨ e = 3 := by omega
    rcases this with rfl | rfl | rfl | rfl <;> rfl
def s49 : List AV → Boxes → M (AV × Boxes) := normS [.val (.sl (.pair .str .str))] [] fun xs B => match xs, B with
  | [(.d (.sl (.pair .str .str) c1))], [] => .chk (lrightPre c1) (.ret ((.d (.bool (lrightG c1))), []))
  | _, _ => .fail
theorem s49_at : CallAt Tryd.prog 49 s49 := by
  refine CallAt.norm (CallAt.weakE (g := fun n => evCall F S14 n 49) (fun n => evCall_atH mixed kinds hds S14 S14_ok n 49) fun xs B r' B' hr => ?_) _ _
  split at hr
  · rename_i c1
    obtain ⟨hp, hr⟩ := (M.run_chk _ _ _).1 hr
    simp only [M.run, Option.some.injEq, Prod.mk.injEq] at hr
    obtain ⟨rfl, rfl⟩ := hr
    obtain ⟨m, hm⟩ := lright49 c1 hp
    obtain ⟨r, B1, h1, h2, h3, h4⟩ := p49_ok m c1 _ hm
    exact ⟨m + 25, r, B1, h1, by simp, h2, h3, h4⟩
  · simp [M.run] at hr
noncomputable def S15 : FuncId → Option (List AV → Boxes → M (AV × Boxes)) := fun f => if f = 49 then some s49 else S14 f
set_option maxHeartbeats 20000000 in
theorem S15_ok : ∀ f s, S15 f = some s → CallAt Tryd.prog f s := by
  intro f s h
  unfold S15 at h
  split at h
  · rename_i e; subst e; cases h; exact s49_at
  · exact S14_ok f s h

end Go.Proofs.YtghkbjflejgieaaDoor.Dec
namespace Go.Proofs.YtghkbjflejgieaaDoor.Dec
open Go.Ev
set_option linter.unusedVariables false
set_option linter.unusedSimpArgs false
set_option maxRecDepth 100000
noncomputable def fn30 : AFn := (F 30).getD ⟨0, [], .bad, false, false, noHd⟩
noncomputable def body30 : AC := fn30.body
def l30_0 (m : Nat) : Nat → List ((List UInt8) × (List UInt8)) → Int → Int → List (List UInt8) → Option (Nat × Int × (List (List UInt8)))
  | 0, _, _, _, _ => none
  | n + 1, x0, s10, s11, b0 => if decide (s11 < s10) = true then
      if decide (0 ≤ s11) = true then
        if decide (s11 < (((List.length x0) : Nat) : Int)) = true then
          if decide (List.length (List.getD x0 (Int.toNat s11) (([] : List UInt8), ([] : List UInt8))).1 + List.length ([61] : List UInt8) ≤ 4611686018427387904) = true then
            if decide (List.length (List.getD x0 (Int.toNat s11) (([] : List UInt8), ([] : List UInt8))).2 ≤ 1000000) = true then
              if decide (List.length ((List.getD x0 (Int.toNat s11) (([] : List UInt8), ([] : List UInt8))).1 ++ ([61] : List UInt8)) + List.length (quoteG (List.getD x0 (Int.toNat s11) (([] : List UInt8), ([] : List UInt8))).2) ≤ 4611686018427387904) = true then
                if decide ((((List.length b0) + 1) * 16) ≤ 70368744177664) = true then
                  l30_0 m n x0 s10 ((IntKind.wrap .i64 (s11 + (1)))) ((b0 ++ [(((List.getD x0 (Int.toNat s11) (([] : List UInt8), ([] : List UInt8))).1 ++ ([61] : List UInt8)) ++ (quoteG (List.getD x0 (Int.toNat s11) (([] : List UInt8), ([] : List UInt8))).2))]))
                else
                  none
              else
                none
            else
              none
          else
            none
        else
          none
      else
        none
    else
      some (0, s11, b0)
def l30_0D : Nat × Int × (List (List UInt8)) := (0, 0, [])
@[reducible] def l30_0R (m n : Nat) (x0 : List ((List UInt8) × (List UInt8))) (s10 : Int) (s11 : Int) (b0 : List (List UInt8)) : Nat × Int × (List (List UInt8)) := Option.getD (l30_0 m n x0 s10 s11 b0) l30_0D
def l30_0H (x0 : List ((List UInt8) × (List UInt8))) (s10 : Int) (s11 : Int) (b0 : List (List UInt8)) : Env := [.top, .top, .top, (.sr 0 0 (List.length b0) 1 none), .top, .top, .top, .top, .top, (.d (.sl (.pair .str .str) x0)), (.d (.int .i64 s10)), (.d (.int .i64 s11)), .top, .top, .top, .top, .top, .top, .top, .top, .top, .top, .top, .top, .top, .top, .top, .top, .top, .top]
def l30_0B (x0 : List ((List UInt8) × (List UInt8))) (s10 : Int) (s11 : Int) (b0 : List (List UInt8)) : Boxes := [(.arr .str b0 true)]
def l30_0E (x0 : List ((List UInt8) × (List UInt8))) (s10 : Int) (s11 : Int) (b0 : List (List UInt8)) : Nat → AEx × Env × Boxes
  | _ => (.exit 0, [.top, .top, .top, (.sr 0 0 (List.length b0) 1 none), .top, .top, .top, .top, .top, (.d (.sl (.pair .str .str) x0)), (.d (.int .i64 s10)), (.d (.int .i64 s11)), (.d (.bool (decide (s11 < s10)))), .top, .top, .top, .top, .top, .top, .top, .top, .top, .top, .top, .top, .top, .top, .top, .top, .top], [(.arr .str b0 true)])
noncomputable def lbl30_0 : AC := loopBody 3592 body30

set_option maxHeartbeats 20000000 in
theorem l30_0_w0 (m n : Nat) (x0 : List ((List UInt8) × (List UInt8))) (s10 : Int) (s11 : Int) (b0 : List (List UInt8)) (r : AEx × Env × Boxes) (c0 : decide (s11 < s10) = true) (c1 : decide (0 ≤ s11) = true) (c2 : decide (s11 < (((List.length x0) : Nat) : Int)) = true) (c3 : decide (List.length (List.getD x0 (Int.toNat s11) (([] : List UInt8), ([] : List UInt8))).1 + List.length ([61] : List UInt8) ≤ 4611686018427387904) = true) (c4 : decide (List.length (List.getD x0 (Int.toNat s11) (([] : List UInt8), ([] : List UInt8))).2 ≤ 1000000) = true) (c5 : decide (List.length ((List.getD x0 (Int.toNat s11) (([] : List UInt8), ([] : List UInt8))).1 ++ ([61] : List UInt8)) + List.length (quoteG (List.getD x0 (Int.toNat s11) (([] : List UInt8), ([] : List UInt8))).2) ≤ 4611686018427387904) = true) (c7 : decide ((((List.length b0) + 1) * 16) ≤ 70368744177664) = true) (ih : (turns (hds 30 3592) 0 3592 (evC byref (evCall F S15 (m + 24)) (m + 24) 0 (hds 30) lbl30_0) n (l30_0H x0 s10 ((IntKind.wrap .i64 (s11 + (1)))) ((b0 ++ [(((List.getD x0 (Int.toNat s11) (([] : List UInt8), ([] : List UInt8))).1 ++ ([61] : List UInt8)) ++ (quoteG (List.getD x0 (Int.toNat s11) (([] : List UInt8), ([] : List UInt8))).2))]))) (l30_0B x0 s10 ((IntKind.wrap .i64 (s11 + (1)))) ((b0 ++ [(((List.getD x0 (Int.toNat s11) (([] : List UInt8), ([] : List UInt8))).1 ++ ([61] : List UInt8)) ++ (quoteG (List.getD x0 (Int.toNat s11) (([] : List UInt8), ([] : List UInt8))).2))])))).run = some r) : (turns (hds 30 3592) 0 3592 (evC byref (evCall F S15 (m + 24)) (m + 24) 0 (hds 30) lbl30_0) (n + 1) (l30_0H x0 s10 s11 b0) (l30_0B x0 s10 s11 b0)).run = some r := by
  have ht : (turn (hds 30 3592) 0 3592 (evC byref (evCall F S15 (m + 24)) (m + 24) 0 (hds 30) lbl30_0) (l30_0H x0 s10 s11 b0) (l30_0B x0 s10 s11 b0)).run = some (.normal, [.top, .top, .top, (.sr 0 0 ((List.length b0) + 1) 1 none), .top, .top, .top, .top, .top, (.d (.sl (.pair .str .str) x0)), (.d (.int .i64 s10)), (.d (.int .i64 (IntKind.wrap .i64 (s11 + (1))))), .top, .top, .top, .top, .top, .top, .top, .top, .top, .top, .top, .top, .top, .top, .top, .top, .top, .top], [(.arr .str (b0 ++ [(((List.getD x0 (Int.toNat s11) (([] : List UInt8), ([] : List UInt8))).1 ++ ([61] : List UInt8)) ++ (quoteG (List.getD x0 (Int.toNat s11) (([] : List UInt8), ([] : List UInt8))).2))]) true)]) := M.run_of_path _ [true, true, true, true, true, true, true, true, true] _ _ (by kernel_rfl) (all_t c0 (all_t c1 (all_t c2 (all_t c3 (all_t c4 (all_t c5 (all_t rfl (all_t c7 (all_t (show decide ((List.length b0) = (List.length b0)) = true from decide_eq_true rfl) all_nil)))))))))
  refine turns_step ht (turns_eq ?_ ?_ ih)
  · unfold l30_0H
    first | (simp; done) | (simp [Nat.add_assoc]; done)
  · unfold l30_0B
    simp
set_option maxHeartbeats 20000000 in
theorem l30_0_w1 (m n : Nat) (x0 : List ((List UInt8) × (List UInt8))) (s10 : Int) (s11 : Int) (b0 : List (List UInt8)) (c0 : ¬ decide (s11 < s10) = true) : (turns (hds 30 3592) 0 3592 (evC byref (evCall F S15 (m + 24)) (m + 24) 0 (hds 30) lbl30_0) (n + 1) (l30_0H x0 s10 s11 b0) (l30_0B x0 s10 s11 b0)).run = some (.exit 0, [.top, .top, .top, (.sr 0 0 (List.length b0) 1 none), .top, .top, .top, .top, .top, (.d (.sl (.pair .str .str) x0)), (.d (.int .i64 s10)), (.d (.int .i64 s11)), (.d (.bool (decide (s11 < s10)))), .top, .top, .top, .top, .top, .top, .top, .top, .top, .top, .top, .top, .top, .top, .top, .top, .top], [(.arr .str b0 true)]) := by
  exact turns_last (by simp) (M.run_of_path _ [false] _ _ (by kernel_rfl) (all_f c0 all_nil)) 

set_option maxHeartbeats 20000000 in
theorem l30_0_step (m n : Nat) (ih : ∀ (x0 : List ((List UInt8) × (List UInt8))) (s10 : Int) (s11 : Int) (b0 : List (List UInt8)) (q : Nat × Int × (List (List UInt8))), l30_0 m n x0 s10 s11 b0 = some q → (turns (hds 30 3592) 0 3592 (evC byref (evCall F S15 (m + 24)) (m + 24) 0 (hds 30) lbl30_0) n (l30_0H x0 s10 s11 b0) (l30_0B x0 s10 s11 b0)).run = some (l30_0E (x0) (s10) (q.2.1) (q.2.2) q.1)) (x0 : List ((List UInt8) × (List UInt8))) (s10 : Int) (s11 : Int) (b0 : List (List UInt8)) (q : Nat × Int × (List (List UInt8))) (h : l30_0 m (n + 1) x0 s10 s11 b0 = some q) : (turns (hds 30 3592) 0 3592 (evC byref (evCall F S15 (m + 24)) (m + 24) 0 (hds 30) lbl30_0) (n + 1) (l30_0H x0 s10 s11 b0) (l30_0B x0 s10 s11 b0)).run = some (l30_0E (x0) (s10) (q.2.1) (q.2.2) q.1) := by
  rw [l30_0] at h
  refine ite_cases h (fun c0 h => ?_) (fun c0 h => ?_)
  · skip
    refine ite_cases h (fun c1 h => ?_) (fun c1 h => ?_)
    · skip
      refine ite_cases h (fun c2 h => ?_) (fun c2 h => ?_)
      · skip
        refine ite_cases h (fun c3 h => ?_) (fun c3 h => ?_)
        · skip
          refine ite_cases h (fun c4 h => ?_) (fun c4 h => ?_)
          · skip
            refine ite_cases h (fun c5 h => ?_) (fun c5 h => ?_)
            · skip
              refine ite_cases h (fun c7 h => ?_) (fun c7 h => ?_)
              · skip
                exact l30_0_w0 m n x0 s10 s11 b0 _ c0 c1 c2 c3 c4 c5 c7 (ih _ _ _ _ q h)
              · skip
                cases h
            · skip
              cases h
          · skip
            cases h
        · skip
          cases h
      · skip
        cases h
    · skip
      cases h
  · skip
    cases h
    exact l30_0_w1 m n x0 s10 s11 b0 c0
set_option maxHeartbeats 20000000 in
theorem l30_0_ok (m : Nat) : ∀ (n : Nat) (x0 : List ((List UInt8) × (List UInt8))) (s10 : Int) (s11 : Int) (b0 : List (List UInt8)) (q : Nat × Int × (List (List UInt8))), l30_0 m n x0 s10 s11 b0 = some q → (turns (hds 30 3592) 0 3592 (evC byref (evCall F S15 (m + 24)) (m + 24) 0 (hds 30) lbl30_0) n (l30_0H x0 s10 s11 b0) (l30_0B x0 s10 s11 b0)).run = some (l30_0E (x0) (s10) (q.2.1) (q.2.2) q.1)
  | 0, x0, s10, s11, b0, q, h => by cases h
  | n + 1, x0, s10, s11, b0, q, h => l30_0_step m n (l30_0_ok m n) x0 s10 s11 b0 q h

def p30 (m : Nat) (x0 : List ((List UInt8) × (List UInt8))) : Option ((List UInt8)) :=
  if lrightPre x0 = true then
    if (lrightG x0) = true then
      if (Option.isSome (l30_0 m (m + 24) x0 ((((List.length x0) : Nat) : Int)) 0 (([] : List (List UInt8))))) = true then
        if (decide (List.length (List.take (List.length (l30_0R m (m + 24) x0 ((((List.length x0) : Nat) : Int)) 0 (([] : List (List UInt8)))).2.2) (List.drop 0 (l30_0R m (m + 24) x0 ((((List.length x0) : Nat) : Int)) 0 (([] : List (List UInt8)))).2.2)) ≤ 140737488355328) && decide (List.length (Lib.join (List.take (List.length (l30_0R m (m + 24) x0 ((((List.length x0) : Nat) : Int)) 0 (([] : List (List UInt8)))).2.2) (List.drop 0 (l30_0R m (m + 24) x0 ((((List.length x0) : Nat) : Int)) 0 (([] : List (List UInt8)))).2.2)) ([44] : List UInt8)) ≤ 140737488355328)) = true then
          if decide (List.length ([123] : List UInt8) + List.length (Lib.join (List.take (List.length (l30_0R m (m + 24) x0 ((((List.length x0) : Nat) : Int)) 0 (([] : List (List UInt8)))).2.2) (List.drop 0 (l30_0R m (m + 24) x0 ((((List.length x0) : Nat) : Int)) 0 (([] : List (List UInt8)))).2.2)) ([44] : List UInt8)) ≤ 4611686018427387904) = true then
            if decide (List.length (([123] : List UInt8) ++ (Lib.join (List.take (List.length (l30_0R m (m + 24) x0 ((((List.length x0) : Nat) : Int)) 0 (([] : List (List UInt8)))).2.2) (List.drop 0 (l30_0R m (m + 24) x0 ((((List.length x0) : Nat) : Int)) 0 (([] : List (List UInt8)))).2.2)) ([44] : List UInt8))) + List.length ([125] : List UInt8) ≤ 4611686018427387904) = true then
              some (((([123] : List UInt8) ++ (Lib.join (List.take (List.length (l30_0R m (m + 24) x0 ((((List.length x0) : Nat) : Int)) 0 (([] : List (List UInt8)))).2.2) (List.drop 0 (l30_0R m (m + 24) x0 ((((List.length x0) : Nat) : Int)) 0 (([] : List (List UInt8)))).2.2)) ([44] : List UInt8))) ++ ([125] : List UInt8)))
            else
              none
          else
            none
        else
          none
      else
        none
    else
      some (([] : List UInt8))
  else
    none
set_option maxHeartbeats 20000000 in
theorem p30_ok (m : Nat) (x0 : List ((List UInt8) × (List UInt8))) (q : (List UInt8)) (h : p30 m x0 = some q) : ∃ r B1, (evCall F S15 (m + 25) 30 [(.d (.sl (.pair .str .str) x0))] []).run = some (r, B1) ∧ 0 ≤ B1.length ∧ wkR B1 [] r (.d (.str q)) ∧ wkBs B1 [] 0 [] := by
  unfold p30 at h
  refine ite_cases h (fun c0 h => ?_) (fun c0 h => ?_)
  · skip
    refine ite_cases h (fun c1 h => ?_) (fun c1 h => ?_)
    · skip
      refine ite_cases h (fun c2 h => ?_) (fun c2 h => ?_)
      · skip
        refine ite_cases h (fun c4 h => ?_) (fun c4 h => ?_)
        · skip
          refine ite_cases h (fun c5 h => ?_) (fun c5 h => ?_)
          · skip
            refine ite_cases h (fun c6 h => ?_) (fun c6 h => ?_)
            · skip
              cases h
              refine ⟨(.d (.str ((([123] : List UInt8) ++ (Lib.join (List.take (List.length (l30_0R m (m + 24) x0 ((((List.length x0) : Nat) : Int)) 0 (([] : List (List UInt8)))).2.2) (List.drop 0 (l30_0R m (m + 24) x0 ((((List.length x0) : Nat) : Int)) 0 (([] : List (List UInt8)))).2.2)) ([44] : List UInt8))) ++ ([125] : List UInt8)))), [], runT_ok (LS := (fun k => if k = 3592 then some (l30_0E x0 (((((List.length x0) : Nat) : Int))) ((l30_0R m (m + 24) x0 ((((List.length x0) : Nat) : Int)) 0 (([] : List (List UInt8)))).2.1) ((l30_0R m (m + 24) x0 ((((List.length x0) : Nat) : Int)) 0 (([] : List (List UInt8)))).2.2) 0) else none)) (fn := fn30) (vis := [(3592, l30_0H x0 ((((List.length x0) : Nat) : Int)) 0 (([] : List (List UInt8))), l30_0B x0 ((((List.length x0) : Nat) : Int)) 0 (([] : List (List UInt8))))]) (by kernel_rfl) rfl (by kernel_rfl) (M.run_of_path _ [true, false, true, true, true, true] _ _ (by kernel_rfl) (all_t c0 (all_nt c1 (all_t (show decide ((0 + (List.length (l30_0R m (m + 24) x0 ((((List.length x0) : Nat) : Int)) 0 (([] : List (List UInt8)))).2.2)) ≤ (List.length (l30_0R m (m + 24) x0 ((((List.length x0) : Nat) : Int)) 0 (([] : List (List UInt8)))).2.2)) = true from decide_eq_true (Nat.le_of_eq (Nat.zero_add _))) (all_t c4 (all_t c5 (all_t c6 all_nil))))))) ?_, by simp, (wkR.one (wkV.one (wk1.eq rfl))), trivial⟩
              intro p hp p2 hq
              rcases List.mem_cons.1 hp with rfl | hp
              · skip
                have h3 := l30_0_ok m (m + 24) x0 ((((List.length x0) : Nat) : Int)) 0 (([] : List (List UInt8))) _ (some_getD (d := l30_0D) c2)
                exact Eq.trans (Eq.mp (by kernel_rfl) h3) hq
              cases hp
            · skip
              cases h
          · skip
            cases h
        · skip
          cases h
      · skip
        cases h
    · skip
      cases h
      refine ⟨(.d (.str ([] : List UInt8))), [], runT_ok (LS := (fun k => none)) (fn := fn30) (vis := []) (by kernel_rfl) rfl (by kernel_rfl) (M.run_of_path _ [true, true] _ _ (by kernel_rfl) (all_t c0 (all_nf c1 all_nil))) ?_, by simp, (wkR.one (wkV.one (wk1.eq rfl))), trivial⟩
      intro p hp; cases hp
  · skip
    cases h

def litemG (x : (List UInt8) × (List UInt8)) : List UInt8 := (x.1 ++ [61]) ++ quoteG x.2
/-- A printed set. -/
def lprintG (l : LB) : List UInt8 := if lrightG l = true then ([123] ++ Lib.join (l.map litemG) [44]) ++ [125] else []
theorem lright_all {l : LB} (h : lrightG l = true) : l.length ≤ 6 ∧ ∀ x ∈ l, x.1.length ≤ 24 ∧ x.2.length ≤ 24 := by
  unfold lrightG at h
  rw [Bool.and_eq_true, Bool.and_eq_true, decide_eq_true_eq] at h
  refine ⟨h.2, fun x hx => ?_⟩
  have := List.all_eq_true.1 h.1.1 x hx
  unfold lab1 wordG at this
  simp only [Bool.and_eq_true, decide_eq_true_eq] at this
  omega
theorem litem_le {x : (List UInt8) × (List UInt8)} (h : x.1.length ≤ 24 ∧ x.2.length ≤ 24) : (litemG x).length ≤ 100 := by
  unfold litemG
  rw [List.length_append, List.length_append]
  have := quote_le x.2
  simp only [List.length_cons, List.length_nil]
  omega
theorem lprint_loop (m : Nat) (l : LB) (h1 : l.length ≤ 6) (h2 : ∀ x ∈ l, x.1.length ≤ 24 ∧ x.2.length ≤ 24) : ∀ (n k : Nat) (b : List (List UInt8)), k ≤ l.length → l.length - k < n → b.length ≤ k → l30_0 m n l (l.length : Nat) (k : Nat) b = some (0, ((l.length : Nat) : Int), b ++ (l.drop k).map litemG)
  | 0, k, _, _, h, _ => by omega
  | n + 1, k, b, g1, g2, g3 => by
    rw [l30_0]
    by_cases hk : k < l.length
    · have e1 : decide (((k : Nat) : Int) < (((List.length l) : Nat) : Int)) = true := decide_eq_true (by omega)
      have e2 : decide ((0 : Int) ≤ ((k : Nat) : Int)) = true := decide_eq_true (by omega)
      have e7 : IntKind.wrap .i64 (((k : Nat) : Int) + (1)) = ((k + 1 : Nat) : Int) := by rw [wrap_id (by omega) (by omega)]; rfl
      have hq := h2 _ (getD_mem l k (([] : List UInt8), ([] : List UInt8)) hk)
      have go := fun x => lprint_loop m l h1 h2 n (k + 1) (b ++ [x]) (by omega) (by omega) (by simp; omega)
      rw [drop_getD l k (([] : List UInt8), ([] : List UInt8)) hk]
      simp only [show Int.toNat ((k : Nat) : Int) = k from rfl, e1, e2, e7, ↓reduceIte]
      generalize l.getD k (([] : List UInt8), ([] : List UInt8)) = q at *
      have hi : litemG q = (q.1 ++ [61]) ++ quoteG q.2 := rfl
      have hql := quote_le q.2
      have b0 : decide (List.length q.2 ≤ 1000000) = true := decide_eq_true (by omega)
      have b1 : decide (((List.length b) + 1) * 16 ≤ 70368744177664) = true := decide_eq_true (by omega)
      have b2 : decide (List.length q.1 + List.length ([61] : List UInt8) ≤ 4611686018427387904) = true := decide_eq_true (by simp; omega)
      have b3 : decide (List.length (q.1 ++ [61]) + List.length (quoteG q.2) ≤ 4611686018427387904) = true := decide_eq_true (by rw [List.length_append]; simp only [List.length_cons, List.length_nil]; omega)
      simp only [b0, b1, b2, b3, ↓reduceIte]
      rw [go, List.map_cons, hi]
      simp
    · have e1 : decide (((k : Nat) : Int) < (((List.length l) : Nat) : Int)) = false := decide_eq_false (by omega)
      have e0 : k = l.length := by omega
      subst e0
      rw [e1, if_neg (by simp), List.drop_length]
      simp
theorem lprint30 (l : LB) (h : lrightPre l = true) : ∃ m, p30 m l = some (lprintG l) := by
  refine ⟨l.length, ?_⟩
  unfold p30 lprintG
  rw [if_pos h]
  by_cases hr : lrightG l = true
  · obtain ⟨h1, h2⟩ := lright_all hr
    rw [if_pos hr, if_pos hr]
    have hl := lprint_loop l.length l h1 h2 (l.length + 24) 0 [] (by omega) (by omega) (by simp)
    simp only [Int.natCast_zero, List.drop_zero, List.nil_append] at hl
    simp only [l30_0R, hl, Option.isSome_some, Option.getD_some, ↓reduceIte, List.drop_zero, List.take_length]
    have hj := inter_le [44] 100 (l.map litemG) (by
      intro x hx
      obtain ⟨y, hy, rfl⟩ := List.mem_map.1 hx
      exact litem_le (h2 y hy))
    have hm : (l.map litemG).length = l.length := by simp
    rw [hm] at hj
    generalize hJ : Lib.join (l.map litemG) [44] = J at *
    have : l.length * (100 + ([44] : List UInt8).length) ≤ 606 := by
      simp only [List.length_cons, List.length_nil]; omega
    rw [if_pos, if_pos, if_pos]
    · exact decide_eq_true (by simp; omega)
    · exact decide_eq_true (by simp; omega)
    · rw [Bool.and_eq_true]
      exact ⟨decide_eq_true (by rw [hm]; omega), decide_eq_true (by omega)⟩
  · rw [if_neg hr, if_neg hr]
def s30 : List AV → Boxes → M (AV × Boxes) := normS [.val (.sl (.pair .str .str))] [] fun xs B => match xs, B with
  | [(.d (.sl (.pair .str .str) c1))], [] => .chk (lrightPre c1) (.ret ((.d (.str (lprintG c1))), []))
  | _, _ => .fail
theorem s30_at : CallAt Tryd.prog 30 s30 := by
  refine CallAt.norm (CallAt.weakE (g := fun n => evCall F S15 n 30) (fun n => evCall_atH mixed kinds hds S15 S15_ok n 30) fun xs B r' B' hr => ?_) _ _
  split at hr
  · rename_i c1
    obtain ⟨hp, hr⟩ := (M.run_chk _ _ _).1 hr
    simp only [M.run, Option.some.injEq, Prod.mk.injEq] at hr
    obtain ⟨rfl, rfl⟩ := hr
    obtain ⟨m, hm⟩ := lprint30 c1 hp
    obtain ⟨r, B1, h1, h2, h3, h4⟩ := p30_ok m c1 _ hm
    exact ⟨m + 25, r, B1, h1, by simp, h2, h3, h4⟩
  · simp [M.run] at hr
noncomputable def S16 : FuncId → Option (List AV → Boxes → M (AV × Boxes)) := fun f => if f = 30 then some s30 else S15 f
set_option maxHeartbeats 20000000 in
theorem S16_ok : ∀ f s, S16 f = some s → CallAt Tryd.prog f s := by
  intro f s h
  unfold S16 at h
  split at h
  · rename_i e; subst e; cases h; exact s30_at
  · exact S15_ok f s h

end Go.Proofs.YtghkbjflejgieaaDoor.Dec
namespace Go.Proofs.YtghkbjflejgieaaDoor.Dec
open Go.Ev
set_option linter.unusedVariables false
set_option linter.unusedSimpArgs false
set_option maxRecDepth 100000
noncomputable def fn23 : AFn := (F 23).getD ⟨0, [], .bad, false, false, noHd⟩
noncomputable def body23 : AC := fn23.body
def l23_0 (m : Nat) : Nat → List ((List UInt8) × (List UInt8)) → Int → Int → List ((List UInt8) × (List UInt8) × Int) → Option (Nat × Int × (List ((List UInt8) × (List UInt8) × Int)))
  | 0, _, _, _, _ => none
  | n + 1, x0, s7, s8, b0 => if decide (s8 < s7) = true then
      if decide (0 ≤ s8) = true then
        if decide (s8 < (((List.length x0) : Nat) : Int)) = true then
          if decide ((((List.length b0) + 1) * 40) ≤ 70368744177664) = true then
            l23_0 m n x0 s7 ((IntKind.wrap .i64 (s8 + (1)))) ((b0 ++ [((List.getD x0 (Int.toNat s8) (([] : List UInt8), ([] : List UInt8))).1, ((List.getD x0 (Int.toNat s8) (([] : List UInt8), ([] : List UInt8))).2, (1)))]))
          else
            none
        else
          none
      else
        none
    else
      some (0, s8, b0)
def l23_0D : Nat × Int × (List ((List UInt8) × (List UInt8) × Int)) := (0, 0, [])
@[reducible] def l23_0R (m n : Nat) (x0 : List ((List UInt8) × (List UInt8))) (s7 : Int) (s8 : Int) (b0 : List ((List UInt8) × (List UInt8) × Int)) : Nat × Int × (List ((List UInt8) × (List UInt8) × Int)) := Option.getD (l23_0 m n x0 s7 s8 b0) l23_0D
def l23_0H (x0 : List ((List UInt8) × (List UInt8))) (s7 : Int) (s8 : Int) (b0 : List ((List UInt8) × (List UInt8) × Int)) : Env := [.top, .top, .top, (.sr 0 0 (List.length b0) 3 none), .top, .top, (.d (.sl (.pair .str .str) x0)), (.d (.int .i64 s7)), (.d (.int .i64 s8)), .top, .top, .top, .top, .top, .top, .top, .top, .top, .top, .top, .top, .top]
def l23_0B (x0 : List ((List UInt8) × (List UInt8))) (s7 : Int) (s8 : Int) (b0 : List ((List UInt8) × (List UInt8) × Int)) : Boxes := [(.arr (.pair .str (.pair .str (.int .i64))) b0 true)]
def l23_0E (x0 : List ((List UInt8) × (List UInt8))) (s7 : Int) (s8 : Int) (b0 : List ((List UInt8) × (List UInt8) × Int)) : Nat → AEx × Env × Boxes
  | _ => (.exit 0, [.top, .top, .top, (.sr 0 0 (List.length b0) 3 none), .top, .top, (.d (.sl (.pair .str .str) x0)), (.d (.int .i64 s7)), (.d (.int .i64 s8)), (.d (.bool (decide (s8 < s7)))), .top, .top, .top, .top, .top, .top, .top, .top, .top, .top, .top, .top], [(.arr (.pair .str (.pair .str (.int .i64))) b0 true)])
noncomputable def lbl23_0 : AC := loopBody 456 body23

set_option maxHeartbeats 20000000 in
theorem l23_0_w0 (m n : Nat) (x0 : List ((List UInt8) × (List UInt8))) (s7 : Int) (s8 : Int) (b0 : List ((List UInt8) × (List UInt8) × Int)) (r : AEx × Env × Boxes) (c0 : decide (s8 < s7) = true) (c1 : decide (0 ≤ s8) = true) (c2 : decide (s8 < (((List.length x0) : Nat) : Int)) = true) (c4 : decide ((((List.length b0) + 1) * 40) ≤ 70368744177664) = true) (ih : (turns (hds 23 456) 0 456 (evC byref (evCall F S16 (m + 24)) (m + 24) 0 (hds 23) lbl23_0) n (l23_0H x0 s7 ((IntKind.wrap .i64 (s8 + (1)))) ((b0 ++ [((List.getD x0 (Int.toNat s8) (([] : List UInt8), ([] : List UInt8))).1, ((List.getD x0 (Int.toNat s8) (([] : List UInt8), ([] : List UInt8))).2, (1)))]))) (l23_0B x0 s7 ((IntKind.wrap .i64 (s8 + (1)))) ((b0 ++ [((List.getD x0 (Int.toNat s8) (([] : List UInt8), ([] : List UInt8))).1, ((List.getD x0 (Int.toNat s8) (([] : List UInt8), ([] : List UInt8))).2, (1)))])))).run = some r) : (turns (hds 23 456) 0 456 (evC byref (evCall F S16 (m + 24)) (m + 24) 0 (hds 23) lbl23_0) (n + 1) (l23_0H x0 s7 s8 b0) (l23_0B x0 s7 s8 b0)).run = some r := by
  have ht : (turn (hds 23 456) 0 456 (evC byref (evCall F S16 (m + 24)) (m + 24) 0 (hds 23) lbl23_0) (l23_0H x0 s7 s8 b0) (l23_0B x0 s7 s8 b0)).run = some (.normal, [.top, .top, .top, (.sr 0 0 ((List.length b0) + 1) 3 none), .top, .top, (.d (.sl (.pair .str .str) x0)), (.d (.int .i64 s7)), (.d (.int .i64 (IntKind.wrap .i64 (s8 + (1))))), .top, .top, .top, .top, .top, .top, .top, .top, .top, .top, .top, .top, .top], [(.arr (.pair .str (.pair .str (.int .i64))) (b0 ++ [((List.getD x0 (Int.toNat s8) (([] : List UInt8), ([] : List UInt8))).1, ((List.getD x0 (Int.toNat s8) (([] : List UInt8), ([] : List UInt8))).2, (1)))]) true)]) := M.run_of_path _ [true, true, true, true, true, true] _ _ (by kernel_rfl) (all_t c0 (all_t c1 (all_t c2 (all_t rfl (all_t c4 (all_t (show decide ((List.length b0) = (List.length b0)) = true from decide_eq_true rfl) all_nil))))))
  refine turns_step ht (turns_eq ?_ ?_ ih)
  · unfold l23_0H
    first | (simp; done) | (simp [Nat.add_assoc]; done)
  · unfold l23_0B
    simp
set_option maxHeartbeats 20000000 in
theorem l23_0_w1 (m n : Nat) (x0 : List ((List UInt8) × (List UInt8))) (s7 : Int) (s8 : Int) (b0 : List ((List UInt8) × (List UInt8) × Int)) (c0 : ¬ decide (s8 < s7) = true) : (turns (hds 23 456) 0 456 (evC byref (evCall F S16 (m + 24)) (m + 24) 0 (hds 23) lbl23_0) (n + 1) (l23_0H x0 s7 s8 b0) (l23_0B x0 s7 s8 b0)).run = some (.exit 0, [.top, .top, .top, (.sr 0 0 (List.length b0) 3 none), .top, .top, (.d (.sl (.pair .str .str) x0)), (.d (.int .i64 s7)), (.d (.int .i64 s8)), (.d (.bool (decide (s8 < s7)))), .top, .top, .top, .top, .top, .top, .top, .top, .top, .top, .top, .top], [(.arr (.pair .str (.pair .str (.int .i64))) b0 true)]) := by
  exact turns_last (by simp) (M.run_of_path _ [false] _ _ (by kernel_rfl) (all_f c0 all_nil)) 

set_option maxHeartbeats 20000000 in
theorem l23_0_step (m n : Nat) (ih : ∀ (x0 : List ((List UInt8) × (List UInt8))) (s7 : Int) (s8 : Int) (b0 : List ((List UInt8) × (List UInt8) × Int)) (q : Nat × Int × (List ((List UInt8) × (List UInt8) × Int))), l23_0 m n x0 s7 s8 b0 = some q → (turns (hds 23 456) 0 456 (evC byref (evCall F S16 (m + 24)) (m + 24) 0 (hds 23) lbl23_0) n (l23_0H x0 s7 s8 b0) (l23_0B x0 s7 s8 b0)).run = some (l23_0E (x0) (s7) (q.2.1) (q.2.2) q.1)) (x0 : List ((List UInt8) × (List UInt8))) (s7 : Int) (s8 : Int) (b0 : List ((List UInt8) × (List UInt8) × Int)) (q : Nat × Int × (List ((List UInt8) × (List UInt8) × Int))) (h : l23_0 m (n + 1) x0 s7 s8 b0 = some q) : (turns (hds 23 456) 0 456 (evC byref (evCall F S16 (m + 24)) (m + 24) 0 (hds 23) lbl23_0) (n + 1) (l23_0H x0 s7 s8 b0) (l23_0B x0 s7 s8 b0)).run = some (l23_0E (x0) (s7) (q.2.1) (q.2.2) q.1) := by
  rw [l23_0] at h
  refine ite_cases h (fun c0 h => ?_) (fun c0 h => ?_)
  · skip
    refine ite_cases h (fun c1 h => ?_) (fun c1 h => ?_)
    · skip
      refine ite_cases h (fun c2 h => ?_) (fun c2 h => ?_)
      · skip
        refine ite_cases h (fun c4 h => ?_) (fun c4 h => ?_)
        · skip
          exact l23_0_w0 m n x0 s7 s8 b0 _ c0 c1 c2 c4 (ih _ _ _ _ q h)
        · skip
          cases h
      · skip
        cases h
    · skip
      cases h
  · skip
    cases h
    exact l23_0_w1 m n x0 s7 s8 b0 c0
set_option maxHeartbeats 20000000 in
theorem l23_0_ok (m : Nat) : ∀ (n : Nat) (x0 : List ((List UInt8) × (List UInt8))) (s7 : Int) (s8 : Int) (b0 : List ((List UInt8) × (List UInt8) × Int)) (q : Nat × Int × (List ((List UInt8) × (List UInt8) × Int))), l23_0 m n x0 s7 s8 b0 = some q → (turns (hds 23 456) 0 456 (evC byref (evCall F S16 (m + 24)) (m + 24) 0 (hds 23) lbl23_0) n (l23_0H x0 s7 s8 b0) (l23_0B x0 s7 s8 b0)).run = some (l23_0E (x0) (s7) (q.2.1) (q.2.2) q.1)
  | 0, x0, s7, s8, b0, q, h => by cases h
  | n + 1, x0, s7, s8, b0, q, h => l23_0_step m n (l23_0_ok m n) x0 s7 s8 b0 q h

def p23 (m : Nat) (x0 : List ((List UInt8) × (List UInt8))) : Option ((List ((List UInt8) × (List UInt8) × Int))) :=
  if (Option.isSome (l23_0 m (m + 24) x0 ((((List.length x0) : Nat) : Int)) 0 (([] : List ((List UInt8) × (List UInt8) × Int))))) = true then
    some ((List.take (List.length (l23_0R m (m + 24) x0 ((((List.length x0) : Nat) : Int)) 0 (([] : List ((List UInt8) × (List UInt8) × Int)))).2.2) (List.drop 0 (l23_0R m (m + 24) x0 ((((List.length x0) : Nat) : Int)) 0 (([] : List ((List UInt8) × (List UInt8) × Int)))).2.2)))
  else
    none
set_option maxHeartbeats 20000000 in
theorem p23_ok (m : Nat) (x0 : List ((List UInt8) × (List UInt8))) (q : (List ((List UInt8) × (List UInt8) × Int))) (h : p23 m x0 = some q) : ∃ r B1, (evCall F S16 (m + 25) 23 [(.d (.sl (.pair .str .str) x0))] []).run = some (r, B1) ∧ 0 ≤ B1.length ∧ wkR B1 [] r (.d (.sl (.pair .str (.pair .str (.int .i64))) q)) ∧ wkBs B1 [] 0 [] := by
  unfold p23 at h
  refine ite_cases h (fun c0 h => ?_) (fun c0 h => ?_)
  · skip
    cases h
    refine ⟨(.d (.sl (.pair .str (.pair .str (.int .i64))) (List.take (List.length (l23_0R m (m + 24) x0 ((((List.length x0) : Nat) : Int)) 0 (([] : List ((List UInt8) × (List UInt8) × Int)))).2.2) (List.drop 0 (l23_0R m (m + 24) x0 ((((List.length x0) : Nat) : Int)) 0 (([] : List ((List UInt8) × (List UInt8) × Int)))).2.2)))), [], runT_ok (LS := (fun k => if k = 456 then some (l23_0E x0 (((((List.length x0) : Nat) : Int))) ((l23_0R m (m + 24) x0 ((((List.length x0) : Nat) : Int)) 0 (([] : List ((List UInt8) × (List UInt8) × Int)))).2.1) ((l23_0R m (m + 24) x0 ((((List.length x0) : Nat) : Int)) 0 (([] : List ((List UInt8) × (List UInt8) × Int)))).2.2) 0) else none)) (fn := fn23) (vis := [(456, l23_0H x0 ((((List.length x0) : Nat) : Int)) 0 (([] : List ((List UInt8) × (List UInt8) × Int))), l23_0B x0 ((((List.length x0) : Nat) : Int)) 0 (([] : List ((List UInt8) × (List UInt8) × Int))))]) (by kernel_rfl) rfl (by kernel_rfl) (M.run_of_path _ [true] _ _ (by kernel_rfl) (all_t (show decide ((0 + (List.length (l23_0R m (m + 24) x0 ((((List.length x0) : Nat) : Int)) 0 (([] : List ((List UInt8) × (List UInt8) × Int)))).2.2)) ≤ (List.length (l23_0R m (m + 24) x0 ((((List.length x0) : Nat) : Int)) 0 (([] : List ((List UInt8) × (List UInt8) × Int)))).2.2)) = true from decide_eq_true (Nat.le_of_eq (Nat.zero_add _))) all_nil)) ?_, by simp, (wkR.one (wkV.one (wk1.eq rfl))), trivial⟩
    intro p hp p2 hq
    rcases List.mem_cons.1 hp with rfl | hp
    · skip
      have h3 := l23_0_ok m (m + 24) x0 ((((List.length x0) : Nat) : Int)) 0 (([] : List ((List UInt8) × (List UInt8) × Int))) _ (some_getD (d := l23_0D) c0)
      exact Eq.trans (Eq.mp (by kernel_rfl) h3) hq
    cases hp
  · skip
    cases h

def exact1 (x : (List UInt8) × (List UInt8)) : MT := (x.1, (x.2, 1))
/-- A set's exact matchers. -/
def exactG (l : LB) : List MT := l.map exact1
theorem exact_loop (m : Nat) (l : LB) (h1 : l.length ≤ 1000000) : ∀ (n k : Nat) (b : List MT), k ≤ l.length → l.length - k < n → b.length ≤ k → l23_0 m n l (l.length : Nat) (k : Nat) b = some (0, ((l.length : Nat) : Int), b ++ (l.drop k).map exact1)
  | 0, k, _, _, h, _ => by omega
  | n + 1, k, b, g1, g2, g3 => by
    rw [l23_0]
    by_cases hk : k < l.length
    · have e1 : decide (((k : Nat) : Int) < (((List.length l) : Nat) : Int)) = true := decide_eq_true (by omega)
      have e2 : decide ((0 : Int) ≤ ((k : Nat) : Int)) = true := decide_eq_true (by omega)
      have e7 : IntKind.wrap .i64 (((k : Nat) : Int) + (1)) = ((k + 1 : Nat) : Int) := by rw [wrap_id (by omega) (by omega)]; rfl
      have go := fun x => exact_loop m l h1 n (k + 1) (b ++ [x]) (by omega) (by omega) (by simp; omega)
      rw [drop_getD l k (([] : List UInt8), ([] : List UInt8)) hk]
      simp only [show Int.toNat ((k : Nat) : Int) = k from rfl, e1, e2, e7, ↓reduceIte]
      generalize l.getD k (([] : List UInt8), ([] : List UInt8)) = q at *
      have hi : exact1 q = (q.1, (q.2, 1)) := rfl
      have b1 : decide (((List.length b) + 1) * 40 ≤ 70368744177664) = true := decide_eq_true (by omega)
      simp only [b1, ↓reduceIte]
      rw [go, List.map_cons, hi]
      simp
    · have e1 : decide (((k : Nat) : Int) < (((List.length l) : Nat) : Int)) = false := decide_eq_false (by omega)
      have e0 : k = l.length := by omega
      subst e0
      rw [e1, if_neg (by simp), List.drop_length]
      simp
theorem exact23 (l : LB) (h : decide (l.length ≤ 1000000) = true) : ∃ m, p23 m l = some (exactG l) := by
  have h := of_decide_eq_true h
  refine ⟨l.length, ?_⟩
  have hl := exact_loop l.length l h (l.length + 24) 0 [] (by omega) (by omega) (by simp)
  simp only [Int.natCast_zero, List.drop_zero, List.nil_append] at hl
  unfold p23 exactG
  simp only [l23_0R, hl, Option.isSome_some, Option.getD_some, ↓reduceIte, List.drop_zero, List.take_length]
def s23 : List AV → Boxes → M (AV × Boxes) := normS [.val (.sl (.pair .str .str))] [] fun xs B => match xs, B with
  | [(.d (.sl (.pair .str .str) c1))], [] => .chk (decide (List.length c1 ≤ 1000000)) (.ret ((.d (.sl (.pair .str (.pair .str (.int .i64))) (exactG c1))), []))
  | _, _ => .fail
theorem s23_at : CallAt Tryd.prog 23 s23 := by
  refine CallAt.norm (CallAt.weakE (g := fun n => evCall F S16 n 23) (fun n => evCall_atH mixed kinds hds S16 S16_ok n 23) fun xs B r' B' hr => ?_) _ _
  split at hr
  · rename_i c1
    obtain ⟨hp, hr⟩ := (M.run_chk _ _ _).1 hr
    simp only [M.run, Option.some.injEq, Prod.mk.injEq] at hr
    obtain ⟨rfl, rfl⟩ := hr
    obtain ⟨m, hm⟩ := exact23 c1 hp
    obtain ⟨r, B1, h1, h2, h3, h4⟩ := p23_ok m c1 _ hm
    exact ⟨m + 25, r, B1, h1, by simp, h2, h3, h4⟩
  · simp [M.run] at hr
noncomputable def S17 : FuncId → Option (List AV → Boxes → M (AV × Boxes)) := fun f => if f = 23 then some s23 else S16 f
set_option maxHeartbeats 20000000 in
theorem S17_ok : ∀ f s, S17 f = some s → CallAt Tryd.prog f s := by
  intro f s h
  unfold S17 at h
  split at h
  · rename_i e; subst e; cases h; exact s23_at
  · exact S16_ok f s h

noncomputable def fn19 : AFn := (F 19).getD ⟨0, [], .bad, false, false, noHd⟩
noncomputable def body19 : AC := fn19.body
def l19_0 (m : Nat) : Nat → List ((List UInt8) × (List UInt8)) → List ((List UInt8) × (List UInt8)) → Int → Option (Nat × Int)
  | 0, _, _, _ => none
  | n + 1, x0, x1, s5 => if decide (s5 < (((List.length x0) : Nat) : Int)) = true then
      if decide (0 ≤ s5) = true then
        if decide (s5 < (((List.length x1) : Nat) : Int)) = true then
          if (((List.getD x0 (Int.toNat s5) (([] : List UInt8), ([] : List UInt8))).1 == (List.getD x1 (Int.toNat s5) (([] : List UInt8), ([] : List UInt8))).1) && (((List.getD x0 (Int.toNat s5) (([] : List UInt8), ([] : List UInt8))).2 == (List.getD x1 (Int.toNat s5) (([] : List UInt8), ([] : List UInt8))).2) && true)) = true then
            l19_0 m n x0 x1 ((IntKind.wrap .i64 (s5 + (1))))
          else
            some (0, s5)
        else
          none
      else
        none
    else
      some (1, s5)
def l19_0D : Nat × Int := (0, 0)
@[reducible] def l19_0R (m n : Nat) (x0 : List ((List UInt8) × (List UInt8))) (x1 : List ((List UInt8) × (List UInt8))) (s5 : Int) : Nat × Int := Option.getD (l19_0 m n x0 x1 s5) l19_0D
def l19_0H (x0 : List ((List UInt8) × (List UInt8))) (x1 : List ((List UInt8) × (List UInt8))) (s5 : Int) : Env := [(.d (.sl (.pair .str .str) x0)), (.d (.sl (.pair .str .str) x1)), .top, .top, .top, (.d (.int .i64 s5)), .top, .top, .top, .top, .top, .top, .top, .top, .top, .top, .top, .top, .top, .top, .top, .top, .top, .top, .top, .top]
def l19_0B (x0 : List ((List UInt8) × (List UInt8))) (x1 : List ((List UInt8) × (List UInt8))) (s5 : Int) : Boxes := []
def l19_0E (x0 : List ((List UInt8) × (List UInt8))) (x1 : List ((List UInt8) × (List UInt8))) (s5 : Int) : Nat → AEx × Env × Boxes
  | 0 => (.ret, [(.d (.sl (.pair .str .str) x0)), (.d (.sl (.pair .str .str) x1)), .top, .top, (.d (.bool false)), (.d (.int .i64 s5)), .top, .top, .top, .top, .top, (.d (.int .i64 s5)), (.d (.sl (.pair .str .str) x0)), (.d (.int .i64 (((List.length x0) : Nat) : Int))), (.d (.bool (decide (s5 < (((List.length x0) : Nat) : Int))))), .top, .top, (.d (.sl (.pair .str .str) x0)), (.d (.int .i64 s5)), (.cptr [(.str (List.getD x0 (Int.toNat s5) (([] : List UInt8), ([] : List UInt8))).1), (.str (List.getD x0 (Int.toNat s5) (([] : List UInt8), ([] : List UInt8))).2)] 0), (.agg [(.d (.str (List.getD x0 (Int.toNat s5) (([] : List UInt8), ([] : List UInt8))).1)), (.d (.str (List.getD x0 (Int.toNat s5) (([] : List UInt8), ([] : List UInt8))).2))]), (.d (.sl (.pair .str .str) x1)), (.d (.int .i64 s5)), (.cptr [(.str (List.getD x1 (Int.toNat s5) (([] : List UInt8), ([] : List UInt8))).1), (.str (List.getD x1 (Int.toNat s5) (([] : List UInt8), ([] : List UInt8))).2)] 0), (.agg [(.d (.str (List.getD x1 (Int.toNat s5) (([] : List UInt8), ([] : List UInt8))).1)), (.d (.str (List.getD x1 (Int.toNat s5) (([] : List UInt8), ([] : List UInt8))).2))]), (.d (.bool (!(((List.getD x0 (Int.toNat s5) (([] : List UInt8), ([] : List UInt8))).1 == (List.getD x1 (Int.toNat s5) (([] : List UInt8), ([] : List UInt8))).1) && (((List.getD x0 (Int.toNat s5) (([] : List UInt8), ([] : List UInt8))).2 == (List.getD x1 (Int.toNat s5) (([] : List UInt8), ([] : List UInt8))).2) && true)))))], [.dead, .dead, .dead, .dead, .dead, .dead, .dead, .dead, .dead, .dead, .dead, .dead, .dead, .dead, .dead, .dead, .dead, .dead, .dead, .dead, .dead, .dead, .dead, .dead, .dead, .dead, .dead, .dead, .dead, .dead, .dead, .dead, .dead, .dead, .dead, .dead])
  | _ => (.exit 0, [(.d (.sl (.pair .str .str) x0)), (.d (.sl (.pair .str .str) x1)), .top, .top, .top, (.d (.int .i64 s5)), .top, .top, .top, .top, .top, (.d (.int .i64 s5)), (.d (.sl (.pair .str .str) x0)), (.d (.int .i64 (((List.length x0) : Nat) : Int))), (.d (.bool (decide (s5 < (((List.length x0) : Nat) : Int))))), .top, .top, .top, .top, .top, .top, .top, .top, .top, .top, .top], [])
noncomputable def lbl19_0 : AC := loopBody 35 body19

set_option maxHeartbeats 20000000 in
theorem l19_0_w0 (m n : Nat) (x0 : List ((List UInt8) × (List UInt8))) (x1 : List ((List UInt8) × (List UInt8))) (s5 : Int) (r : AEx × Env × Boxes) (c0 : decide (s5 < (((List.length x0) : Nat) : Int)) = true) (c1 : decide (0 ≤ s5) = true) (c4 : decide (s5 < (((List.length x1) : Nat) : Int)) = true) (c5 : (((List.getD x0 (Int.toNat s5) (([] : List UInt8), ([] : List UInt8))).1 == (List.getD x1 (Int.toNat s5) (([] : List UInt8), ([] : List UInt8))).1) && (((List.getD x0 (Int.toNat s5) (([] : List UInt8), ([] : List UInt8))).2 == (List.getD x1 (Int.toNat s5) (([] : List UInt8), ([] : List UInt8))).2) && true)) = true) (ih : (turns (hds 19 35) 0 35 (evC byref (evCall F S17 (m + 24)) (m + 24) 0 (hds 19) lbl19_0) n (l19_0H x0 x1 ((IntKind.wrap .i64 (s5 + (1))))) (l19_0B x0 x1 ((IntKind.wrap .i64 (s5 + (1)))))).run = some r) : (turns (hds 19 35) 0 35 (evC byref (evCall F S17 (m + 24)) (m + 24) 0 (hds 19) lbl19_0) (n + 1) (l19_0H x0 x1 s5) (l19_0B x0 x1 s5)).run = some r := by
  exact turns_step (M.run_of_path _ [true, true, true, true, true, false] _ _ (by kernel_rfl) (all_t c0 (all_t c1 (all_t c0 (all_t c1 (all_t c4 (all_nt c5 all_nil))))))) ih
set_option maxHeartbeats 20000000 in
theorem l19_0_w1 (m n : Nat) (x0 : List ((List UInt8) × (List UInt8))) (x1 : List ((List UInt8) × (List UInt8))) (s5 : Int) (c0 : decide (s5 < (((List.length x0) : Nat) : Int)) = true) (c1 : decide (0 ≤ s5) = true) (c4 : decide (s5 < (((List.length x1) : Nat) : Int)) = true) (c5 : ¬ (((List.getD x0 (Int.toNat s5) (([] : List UInt8), ([] : List UInt8))).1 == (List.getD x1 (Int.toNat s5) (([] : List UInt8), ([] : List UInt8))).1) && (((List.getD x0 (Int.toNat s5) (([] : List UInt8), ([] : List UInt8))).2 == (List.getD x1 (Int.toNat s5) (([] : List UInt8), ([] : List UInt8))).2) && true)) = true) : (turns (hds 19 35) 0 35 (evC byref (evCall F S17 (m + 24)) (m + 24) 0 (hds 19) lbl19_0) (n + 1) (l19_0H x0 x1 s5) (l19_0B x0 x1 s5)).run = some (.ret, [(.d (.sl (.pair .str .str) x0)), (.d (.sl (.pair .str .str) x1)), .top, .top, (.d (.bool false)), (.d (.int .i64 s5)), .top, .top, .top, .top, .top, (.d (.int .i64 s5)), (.d (.sl (.pair .str .str) x0)), (.d (.int .i64 (((List.length x0) : Nat) : Int))), (.d (.bool (decide (s5 < (((List.length x0) : Nat) : Int))))), .top, .top, (.d (.sl (.pair .str .str) x0)), (.d (.int .i64 s5)), (.cptr [(.str (List.getD x0 (Int.toNat s5) (([] : List UInt8), ([] : List UInt8))).1), (.str (List.getD x0 (Int.toNat s5) (([] : List UInt8), ([] : List UInt8))).2)] 0), (.agg [(.d (.str (List.getD x0 (Int.toNat s5) (([] : List UInt8), ([] : List UInt8))).1)), (.d (.str (List.getD x0 (Int.toNat s5) (([] : List UInt8), ([] : List UInt8))).2))]), (.d (.sl (.pair .str .str) x1)), (.d (.int .i64 s5)), (.cptr [(.str (List.getD x1 (Int.toNat s5) (([] : List UInt8), ([] : List UInt8))).1), (.str (List.getD x1 (Int.toNat s5) (([] : List UInt8), ([] : List UInt8))).2)] 0), (.agg [(.d (.str (List.getD x1 (Int.toNat s5) (([] : List UInt8), ([] : List UInt8))).1)), (.d (.str (List.getD x1 (Int.toNat s5) (([] : List UInt8), ([] : List UInt8))).2))]), (.d (.bool (!(((List.getD x0 (Int.toNat s5) (([] : List UInt8), ([] : List UInt8))).1 == (List.getD x1 (Int.toNat s5) (([] : List UInt8), ([] : List UInt8))).1) && (((List.getD x0 (Int.toNat s5) (([] : List UInt8), ([] : List UInt8))).2 == (List.getD x1 (Int.toNat s5) (([] : List UInt8), ([] : List UInt8))).2) && true)))))], [.dead, .dead, .dead, .dead, .dead, .dead, .dead, .dead, .dead, .dead, .dead, .dead, .dead, .dead, .dead, .dead, .dead, .dead, .dead, .dead, .dead, .dead, .dead, .dead, .dead, .dead, .dead, .dead, .dead, .dead, .dead, .dead, .dead, .dead, .dead, .dead]) := by
  exact turns_last (by simp) (M.run_of_path _ [true, true, true, true, true, true] _ _ (by kernel_rfl) (all_t c0 (all_t c1 (all_t c0 (all_t c1 (all_t c4 (all_nf c5 all_nil))))))) 
set_option maxHeartbeats 20000000 in
theorem l19_0_w2 (m n : Nat) (x0 : List ((List UInt8) × (List UInt8))) (x1 : List ((List UInt8) × (List UInt8))) (s5 : Int) (c0 : ¬ decide (s5 < (((List.length x0) : Nat) : Int)) = true) : (turns (hds 19 35) 0 35 (evC byref (evCall F S17 (m + 24)) (m + 24) 0 (hds 19) lbl19_0) (n + 1) (l19_0H x0 x1 s5) (l19_0B x0 x1 s5)).run = some (.exit 0, [(.d (.sl (.pair .str .str) x0)), (.d (.sl (.pair .str .str) x1)), .top, .top, .top, (.d (.int .i64 s5)), .top, .top, .top, .top, .top, (.d (.int .i64 s5)), (.d (.sl (.pair .str .str) x0)), (.d (.int .i64 (((List.length x0) : Nat) : Int))), (.d (.bool (decide (s5 < (((List.length x0) : Nat) : Int))))), .top, .top, .top, .top, .top, .top, .top, .top, .top, .top, .top], []) := by
  exact turns_last (by simp) (M.run_of_path _ [false] _ _ (by kernel_rfl) (all_f c0 all_nil)) 

set_option maxHeartbeats 20000000 in
theorem l19_0_step (m n : Nat) (ih : ∀ (x0 : List ((List UInt8) × (List UInt8))) (x1 : List ((List UInt8) × (List UInt8))) (s5 : Int) (q : Nat × Int), l19_0 m n x0 x1 s5 = some q → (turns (hds 19 35) 0 35 (evC byref (evCall F S17 (m + 24)) (m + 24) 0 (hds 19) lbl19_0) n (l19_0H x0 x1 s5) (l19_0B x0 x1 s5)).run = some (l19_0E (x0) (x1) (q.2) q.1)) (x0 : List ((List UInt8) × (List UInt8))) (x1 : List ((List UInt8) × (List UInt8))) (s5 : Int) (q : Nat × Int) (h : l19_0 m (n + 1) x0 x1 s5 = some q) : (turns (hds 19 35) 0 35 (evC byref (evCall F S17 (m + 24)) (m + 24) 0 (hds 19) lbl19_0) (n + 1) (l19_0H x0 x1 s5) (l19_0B x0 x1 s5)).run = some (l19_0E (x0) (x1) (q.2) q.1) := by
  rw [l19_0] at h
  refine ite_cases h (fun c0 h => ?_) (fun c0 h => ?_)
  · skip
    refine ite_cases h (fun c1 h => ?_) (fun c1 h => ?_)
    · skip
      refine ite_cases h (fun c4 h => ?_) (fun c4 h => ?_)
      · skip
        refine ite_cases h (fun c5 h => ?_) (fun c5 h => ?_)
        · skip
          exact l19_0_w0 m n x0 x1 s5 _ c0 c1 c4 c5 (ih _ _ _ q h)
        · skip
          cases h
          exact l19_0_w1 m n x0 x1 s5 c0 c1 c4 c5
      · skip
        cases h
    · skip
      cases h
  · skip
    cases h
    exact l19_0_w2 m n x0 x1 s5 c0
set_option maxHeartbeats 20000000 in
theorem l19_0_ok (m : Nat) : ∀ (n : Nat) (x0 : List ((List UInt8) × (List UInt8))) (x1 : List ((List UInt8) × (List UInt8))) (s5 : Int) (q : Nat × Int), l19_0 m n x0 x1 s5 = some q → (turns (hds 19 35) 0 35 (evC byref (evCall F S17 (m + 24)) (m + 24) 0 (hds 19) lbl19_0) n (l19_0H x0 x1 s5) (l19_0B x0 x1 s5)).run = some (l19_0E (x0) (x1) (q.2) q.1)
  | 0, x0, x1, s5, q, h => by cases h
  | n + 1, x0, x1, s5, q, h => l19_0_step m n (l19_0_ok m n) x0 x1 s5 q h

def p19 (m : Nat) (x0 : List ((List UInt8) × (List UInt8))) (x1 : List ((List UInt8) × (List UInt8))) : Option (Bool) :=
  if ((((List.length x0) : Nat) : Int) != (((List.length x1) : Nat) : Int)) = true then
    some (false)
  else
    if (Option.isSome (l19_0 m (m + 24) x0 x1 0)) = true then
      if ((l19_0R m (m + 24) x0 x1 0).1 == 0) = true then
        some (false)
      else
        if ((l19_0R m (m + 24) x0 x1 0).1 == 1) = true then
          some (true)
        else
          none
    else
      none
set_option maxHeartbeats 20000000 in
theorem p19_ok (m : Nat) (x0 : List ((List UInt8) × (List UInt8))) (x1 : List ((List UInt8) × (List UInt8))) (q : Bool) (h : p19 m x0 x1 = some q) : ∃ r B1, (evCall F S17 (m + 25) 19 [(.d (.sl (.pair .str .str) x0)), (.d (.sl (.pair .str .str) x1))] []).run = some (r, B1) ∧ 0 ≤ B1.length ∧ wkR B1 [] r (.d (.bool (q))) ∧ wkBs B1 [] 0 [] := by
  unfold p19 at h
  refine ite_cases h (fun c0 h => ?_) (fun c0 h => ?_)
  · skip
    cases h
    refine ⟨(.d (.bool false)), [], runT_ok (LS := (fun k => none)) (fn := fn19) (vis := []) (by kernel_rfl) rfl (by kernel_rfl) (M.run_of_path _ [true] _ _ (by kernel_rfl) (all_t c0 all_nil)) ?_, by simp, (wkR.one (wkV.one (wk1.eq rfl))), trivial⟩
    intro p hp; cases hp
  · skip
    refine ite_cases h (fun c1 h => ?_) (fun c1 h => ?_)
    · skip
      refine ite_cases h (fun c2 h => ?_) (fun c2 h => ?_)
      · skip
        cases h
        refine ⟨(.d (.bool false)), [], runT_ok (LS := (fun k => if k = 35 then some (l19_0E x0 x1 ((l19_0R m (m + 24) x0 x1 0).2) 0) else none)) (fn := fn19) (vis := [(35, l19_0H x0 x1 0, l19_0B x0 x1 0)]) (by kernel_rfl) rfl (by kernel_rfl) (M.run_of_path _ [false] _ _ (by kernel_rfl) (all_f c0 all_nil)) ?_, by simp, (wkR.one (wkV.one (wk1.eq rfl))), trivial⟩
        intro p hp p2 hq
        rcases List.mem_cons.1 hp with rfl | hp
        · skip
          have h3 := l19_0_ok m (m + 24) x0 x1 0 _ (some_getD (d := l19_0D) c1)
          rw [eq_of_beq c2] at h3
          exact Eq.trans (Eq.mp (by kernel_rfl) h3) hq
        cases hp
      · skip
        refine ite_cases h (fun c3 h => ?_) (fun c3 h => ?_)
        · skip
          cases h
          refine ⟨(.d (.bool true)), [], runT_ok (LS := (fun k => if k = 35 then some (l19_0E x0 x1 ((l19_0R m (m + 24) x0 x1 0).2) 1) else none)) (fn := fn19) (vis := [(35, l19_0H x0 x1 0, l19_0B x0 x1 0)]) (by kernel_rfl) rfl (by kernel_rfl) (M.run_of_path _ [false] _ _ (by kernel_rfl) (all_f c0 all_nil)) ?_, by simp, (wkR.one (wkV.one (wk1.eq rfl))), trivial⟩
          intro p hp p2 hq
          rcases List.mem_cons.1 hp with rfl | hp
          · skip
            have h3 := l19_0_ok m (m + 24) x0 x1 0 _ (some_getD (d := l19_0D) c1)
            rw [eq_of_beq c3] at h3
            exact Eq.trans (Eq.mp (by kernel_rfl) h3) hq
          cases hp
        · skip
          cases h
    · skip
      cases h

theorem eq19_loop (m : Nat) (a b : List ((List UInt8) × (List UInt8))) (hl : a.length = b.length) (hb : a.length < 4611686018427387904) : ∀ n k, k ≤ a.length → a.length - k < n → ∃ j, l19_0 m n a b (k : Nat) = some (if a.drop k == b.drop k then 1 else 0, j)
  | 0, k, _, h => by omega
  | n + 1, k, hk, hn => by
    rw [l19_0]
    by_cases h : k < a.length
    · have hs : ∀ u v : (List UInt8) × (List UInt8), ((u.1 == v.1) && ((u.2 == v.2) && true)) = (u == v) := fun u v => by rw [Bool.and_true]; rfl
      have e1 : decide (((k : Nat) : Int) < ((a.length : Nat) : Int)) = true := decide_eq_true (by omega)
      have e2 : decide ((0 : Int) ≤ ((k : Nat) : Int)) = true := decide_eq_true (by omega)
      have e3 : decide (((k : Nat) : Int) < ((b.length : Nat) : Int)) = true := decide_eq_true (by omega)
      simp only [e1, e2, e3, if_true, Int.toNat_natCast,hs]
      rw [drop_getD a k (([] : List UInt8), ([] : List UInt8)) h, drop_getD b k (([] : List UInt8), ([] : List UInt8)) (by omega)]
      have ew : IntKind.wrap .i64 (((k : Nat) : Int) + (1)) = ((k + 1 : Nat) : Int) := by rw [wrap_id (by omega) (by omega)]; rfl
      rw [ew]
      obtain ⟨j, hj⟩ := eq19_loop m a b hl hb n (k + 1) (by omega) (by omega)
      have hc : ((a.getD k (([] : List UInt8), ([] : List UInt8))) :: a.drop (k + 1) == (b.getD k (([] : List UInt8), ([] : List UInt8))) :: b.drop (k + 1)) = (((a.getD k (([] : List UInt8), ([] : List UInt8))) == (b.getD k (([] : List UInt8), ([] : List UInt8)))) && (a.drop (k + 1) == b.drop (k + 1))) := rfl
      rw [hc]
      rcases Bool.eq_false_or_eq_true ((a.getD k (([] : List UInt8), ([] : List UInt8))) == (b.getD k (([] : List UInt8), ([] : List UInt8)))) with he | he
      · exact ⟨j, by simp only [he, hj]; simp⟩
      · exact ⟨(k : Nat), by simp only [he]; simp⟩
    · have e1 : decide (((k : Nat) : Int) < ((a.length : Nat) : Int)) = false := decide_eq_false (by omega)
      refine ⟨(k : Nat), ?_⟩
      simp only [e1, Bool.false_eq_true, if_false]
      rw [List.drop_eq_nil_of_le (by omega), List.drop_eq_nil_of_le (by omega)]
      rfl
theorem eq19 (a b : List ((List UInt8) × (List UInt8))) (h : decide (List.length a < 4611686018427387904) = true) : ∃ m, p19 m a b = some (a == b) := by
  have hb := of_decide_eq_true h
  refine ⟨a.length, ?_⟩
  unfold p19 l19_0R
  by_cases hl : a.length = b.length
  · have e0 : ((((List.length a) : Nat) : Int) != (((List.length b) : Nat) : Int)) = false := by simp [hl]
    obtain ⟨j, hj⟩ := eq19_loop a.length a b hl hb (a.length + 24) 0 (by omega) (by omega)
    simp only [Int.natCast_zero, List.drop_zero] at hj
    rw [e0]
    simp only [Bool.false_eq_true, if_false]
    rw [hj]
    cases hab : a == b <;> simp [hab]
  · have e0 : ((((List.length a) : Nat) : Int) != (((List.length b) : Nat) : Int)) = true := by simp; omega
    rw [e0]
    have : (a == b) = false := by
      rw [beq_eq_false_iff_ne]
      intro e; rw [e] at hl; exact hl rfl
    simp [this]
def s19 : List AV → Boxes → M (AV × Boxes) := normS [.val (.sl (.pair .str .str)), .val (.sl (.pair .str .str))] [] fun xs B => match xs, B with
  | [(.d (.sl (.pair .str .str) c1)), (.d (.sl (.pair .str .str) c2))], [] => .chk (decide (List.length c1 < 4611686018427387904)) (.ret ((.d (.bool ((show List ((List UInt8) × (List UInt8)) from c1) == c2))), []))
  | _, _ => .fail
theorem s19_at : CallAt Tryd.prog 19 s19 := by
  refine CallAt.norm (CallAt.weakE (g := fun n => evCall F S17 n 19) (fun n => evCall_atH mixed kinds hds S17 S17_ok n 19) fun xs B r' B' hr => ?_) _ _
  split at hr
  · rename_i c1 c2
    obtain ⟨hp, hr⟩ := (M.run_chk _ _ _).1 hr
    simp only [M.run, Option.some.injEq, Prod.mk.injEq] at hr
    obtain ⟨rfl, rfl⟩ := hr
    obtain ⟨m, hm⟩ := eq19 c1 c2 hp
    obtain ⟨r, B1, h1, h2, h3, h4⟩ := p19_ok m c1 c2 _ hm
    exact ⟨m + 25, r, B1, h1, by simp, h2, h3, h4⟩
  · simp [M.run] at hr
noncomputable def S18 : FuncId → Option (List AV → Boxes → M (AV × Boxes)) := fun f => if f = 19 then some s19 else S17 f
set_option maxHeartbeats 20000000 in
theorem S18_ok : ∀ f s, S18 f = some s → CallAt Tryd.prog f s := by
  intro f s h
  unfold S18 at h
  split at h
  · rename_i e; subst e; cases h; exact s19_at
  · exact S17_ok f s h

end Go.Proofs.YtghkbjflejgieaaDoor.Dec
namespace Go.Proofs.YtghkbjflejgieaaDoor.Dec
open Go.Ev
set_option linter.unusedVariables false
set_option linter.unusedSimpArgs false
set_option maxRecDepth 100000
noncomputable def fn9 : AFn := (F 9).getD ⟨0, [], .bad, false, false, noHd⟩
noncomputable def body9 : AC := fn9.body
def l9_0 (m : Nat) : Nat → List ((List UInt8) × (List UInt8)) → List ((List UInt8) × (List UInt8)) → List ((List UInt8) × (List UInt8) × Int) → Bool → List ((List UInt8) × (List UInt8)) → Int → Int → Option (Nat × Bool × Int)
  | 0, _, _, _, _, _, _, _ => none
  | n + 1, s5, s6, s7, s8, s17, s18, s19 => if decide (s19 < s18) = true then
      if decide (0 ≤ s19) = true then
        if decide (s19 < (((List.length s17) : Nat) : Int)) = true then
          if s8 = true then
            if decide (List.length s6 ≤ 1000000) = true then
              l9_0 m n s5 s6 s7 (((getG s6 (List.getD s17 (Int.toNat s19) (([] : List UInt8), ([] : List UInt8))).1) == (List.getD s17 (Int.toNat s19) (([] : List UInt8), ([] : List UInt8))).2)) s17 s18 ((IntKind.wrap .i64 (s19 + (1))))
            else
              none
          else
            l9_0 m n s5 s6 s7 false s17 s18 ((IntKind.wrap .i64 (s19 + (1))))
        else
          none
      else
        none
    else
      some (0, s8, s19)
def l9_0D : Nat × Bool × Int := (0, false, 0)
@[reducible] def l9_0R (m n : Nat) (s5 : List ((List UInt8) × (List UInt8))) (s6 : List ((List UInt8) × (List UInt8))) (s7 : List ((List UInt8) × (List UInt8) × Int)) (s8 : Bool) (s17 : List ((List UInt8) × (List UInt8))) (s18 : Int) (s19 : Int) : Nat × Bool × Int := Option.getD (l9_0 m n s5 s6 s7 s8 s17 s18 s19) l9_0D
def l9_0H (s5 : List ((List UInt8) × (List UInt8))) (s6 : List ((List UInt8) × (List UInt8))) (s7 : List ((List UInt8) × (List UInt8) × Int)) (s8 : Bool) (s17 : List ((List UInt8) × (List UInt8))) (s18 : Int) (s19 : Int) : Env := [.top, .top, .top, .top, .top, (.d (.sl (.pair .str .str) s5)), (.d (.sl (.pair .str .str) s6)), (.d (.sl (.pair .str (.pair .str (.int .i64))) s7)), (.d (.bool (s8))), .top, .top, .top, .top, .top, .top, .top, .top, (.d (.sl (.pair .str .str) s17)), (.d (.int .i64 s18)), (.d (.int .i64 s19)), .top, .top, .top, .top, .top, .top, .top, .top, .top, .top, .top, .top, .top, .top, .top, .top, .top, .top, .top, .top, .top, .top, .top, .top, .top, .top, .top, .top, .top, .top, .top, .top, .top, .top, .top, .top, .top, .top, .top, .top, .top, .top, .top, .top, .top, .top, .top, .top, .top, .top, .top, .top, .top, .top, .top, .top, .top, .top, .top, .top]
def l9_0B (s5 : List ((List UInt8) × (List UInt8))) (s6 : List ((List UInt8) × (List UInt8))) (s7 : List ((List UInt8) × (List UInt8) × Int)) (s8 : Bool) (s17 : List ((List UInt8) × (List UInt8))) (s18 : Int) (s19 : Int) : Boxes := []
def l9_0E (s5 : List ((List UInt8) × (List UInt8))) (s6 : List ((List UInt8) × (List UInt8))) (s7 : List ((List UInt8) × (List UInt8) × Int)) (s8 : Bool) (s17 : List ((List UInt8) × (List UInt8))) (s18 : Int) (s19 : Int) : Nat → AEx × Env × Boxes
  | _ => (.exit 0, [.top, .top, .top, .top, .top, (.d (.sl (.pair .str .str) s5)), (.d (.sl (.pair .str .str) s6)), (.d (.sl (.pair .str (.pair .str (.int .i64))) s7)), (.d (.bool (s8))), .top, .top, .top, .top, .top, .top, .top, .top, (.d (.sl (.pair .str .str) s17)), (.d (.int .i64 s18)), (.d (.int .i64 s19)), (.d (.bool (decide (s19 < s18)))), .top, .top, .top, .top, .top, .top, .top, .top, .top, .top, .top, .top, .top, .top, .top, .top, .top, .top, .top, .top, .top, .top, .top, .top, .top, .top, .top, .top, .top, .top, .top, .top, .top, .top, .top, .top, .top, .top, .top, .top, .top, .top, .top, .top, .top, .top, .top, .top, .top, .top, .top, .top, .top, .top, .top, .top, .top, .top, .top], [])
noncomputable def lbl9_0 : AC := loopBody 917984 body9

set_option maxHeartbeats 20000000 in
theorem l9_0_w0 (m n : Nat) (s5 : List ((List UInt8) × (List UInt8))) (s6 : List ((List UInt8) × (List UInt8))) (s7 : List ((List UInt8) × (List UInt8) × Int)) (s8 : Bool) (s17 : List ((List UInt8) × (List UInt8))) (s18 : Int) (s19 : Int) (r : AEx × Env × Boxes) (c0 : decide (s19 < s18) = true) (c1 : decide (0 ≤ s19) = true) (c2 : decide (s19 < (((List.length s17) : Nat) : Int)) = true) (c3 : s8 = true) (c7 : decide (List.length s6 ≤ 1000000) = true) (ih : (turns (hds 9 917984) 0 917984 (evC byref (evCall F S18 (m + 24)) (m + 24) 0 (hds 9) lbl9_0) n (l9_0H s5 s6 s7 (((getG s6 (List.getD s17 (Int.toNat s19) (([] : List UInt8), ([] : List UInt8))).1) == (List.getD s17 (Int.toNat s19) (([] : List UInt8), ([] : List UInt8))).2)) s17 s18 ((IntKind.wrap .i64 (s19 + (1))))) (l9_0B s5 s6 s7 (((getG s6 (List.getD s17 (Int.toNat s19) (([] : List UInt8), ([] : List UInt8))).1) == (List.getD s17 (Int.toNat s19) (([] : List UInt8), ([] : List UInt8))).2)) s17 s18 ((IntKind.wrap .i64 (s19 + (1)))))).run = some r) : (turns (hds 9 917984) 0 917984 (evC byref (evCall F S18 (m + 24)) (m + 24) 0 (hds 9) lbl9_0) (n + 1) (l9_0H s5 s6 s7 s8 s17 s18 s19) (l9_0B s5 s6 s7 s8 s17 s18 s19)).run = some r := by
  exact turns_step (M.run_of_path _ [true, true, true, true, true, true, true, true, true, true, true, true] _ _ (by kernel_rfl) (all_t c0 (all_t c1 (all_t c2 (all_t c3 (all_t c3 (all_t c3 (all_t c3 (all_t c7 (all_t c3 (all_t c3 (all_t c3 (all_t c3 all_nil))))))))))))) ih
set_option maxHeartbeats 20000000 in
theorem l9_0_w1 (m n : Nat) (s5 : List ((List UInt8) × (List UInt8))) (s6 : List ((List UInt8) × (List UInt8))) (s7 : List ((List UInt8) × (List UInt8) × Int)) (s8 : Bool) (s17 : List ((List UInt8) × (List UInt8))) (s18 : Int) (s19 : Int) (r : AEx × Env × Boxes) (c0 : decide (s19 < s18) = true) (c1 : decide (0 ≤ s19) = true) (c2 : decide (s19 < (((List.length s17) : Nat) : Int)) = true) (c3 : ¬ s8 = true) (ih : (turns (hds 9 917984) 0 917984 (evC byref (evCall F S18 (m + 24)) (m + 24) 0 (hds 9) lbl9_0) n (l9_0H s5 s6 s7 false s17 s18 ((IntKind.wrap .i64 (s19 + (1))))) (l9_0B s5 s6 s7 false s17 s18 ((IntKind.wrap .i64 (s19 + (1)))))).run = some r) : (turns (hds 9 917984) 0 917984 (evC byref (evCall F S18 (m + 24)) (m + 24) 0 (hds 9) lbl9_0) (n + 1) (l9_0H s5 s6 s7 s8 s17 s18 s19) (l9_0B s5 s6 s7 s8 s17 s18 s19)).run = some r := by
  exact turns_step (M.run_of_path _ [true, true, true, false, false, false, false, false, false, false, false] _ _ (by kernel_rfl) (all_t c0 (all_t c1 (all_t c2 (all_f c3 (all_f c3 (all_f c3 (all_f c3 (all_f c3 (all_f c3 (all_f c3 (all_f c3 all_nil)))))))))))) ih
set_option maxHeartbeats 20000000 in
theorem l9_0_w2 (m n : Nat) (s5 : List ((List UInt8) × (List UInt8))) (s6 : List ((List UInt8) × (List UInt8))) (s7 : List ((List UInt8) × (List UInt8) × Int)) (s8 : Bool) (s17 : List ((List UInt8) × (List UInt8))) (s18 : Int) (s19 : Int) (c0 : ¬ decide (s19 < s18) = true) : (turns (hds 9 917984) 0 917984 (evC byref (evCall F S18 (m + 24)) (m + 24) 0 (hds 9) lbl9_0) (n + 1) (l9_0H s5 s6 s7 s8 s17 s18 s19) (l9_0B s5 s6 s7 s8 s17 s18 s19)).run = some (.exit 0, [.top, .top, .top, .top, .top, (.d (.sl (.pair .str .str) s5)), (.d (.sl (.pair .str .str) s6)), (.d (.sl (.pair .str (.pair .str (.int .i64))) s7)), (.d (.bool (s8))), .top, .top, .top, .top, .top, .top, .top, .top, (.d (.sl (.pair .str .str) s17)), (.d (.int .i64 s18)), (.d (.int .i64 s19)), (.d (.bool (decide (s19 < s18)))), .top, .top, .top, .top, .top, .top, .top, .top, .top, .top, .top, .top, .top, .top, .top, .top, .top, .top, .top, .top, .top, .top, .top, .top, .top, .top, .top, .top, .top, .top, .top, .top, .top, .top, .top, .top, .top, .top, .top, .top, .top, .top, .top, .top, .top, .top, .top, .top, .top, .top, .top, .top, .top, .top, .top, .top, .top, .top, .top], []) := by
  exact turns_last (by simp) (M.run_of_path _ [false] _ _ (by kernel_rfl) (all_f c0 all_nil)) 

set_option maxHeartbeats 20000000 in
theorem l9_0_step (m n : Nat) (ih : ∀ (s5 : List ((List UInt8) × (List UInt8))) (s6 : List ((List UInt8) × (List UInt8))) (s7 : List ((List UInt8) × (List UInt8) × Int)) (s8 : Bool) (s17 : List ((List UInt8) × (List UInt8))) (s18 : Int) (s19 : Int) (q : Nat × Bool × Int), l9_0 m n s5 s6 s7 s8 s17 s18 s19 = some q → (turns (hds 9 917984) 0 917984 (evC byref (evCall F S18 (m + 24)) (m + 24) 0 (hds 9) lbl9_0) n (l9_0H s5 s6 s7 s8 s17 s18 s19) (l9_0B s5 s6 s7 s8 s17 s18 s19)).run = some (l9_0E (s5) (s6) (s7) (q.2.1) (s17) (s18) (q.2.2) q.1)) (s5 : List ((List UInt8) × (List UInt8))) (s6 : List ((List UInt8) × (List UInt8))) (s7 : List ((List UInt8) × (List UInt8) × Int)) (s8 : Bool) (s17 : List ((List UInt8) × (List UInt8))) (s18 : Int) (s19 : Int) (q : Nat × Bool × Int) (h : l9_0 m (n + 1) s5 s6 s7 s8 s17 s18 s19 = some q) : (turns (hds 9 917984) 0 917984 (evC byref (evCall F S18 (m + 24)) (m + 24) 0 (hds 9) lbl9_0) (n + 1) (l9_0H s5 s6 s7 s8 s17 s18 s19) (l9_0B s5 s6 s7 s8 s17 s18 s19)).run = some (l9_0E (s5) (s6) (s7) (q.2.1) (s17) (s18) (q.2.2) q.1) := by
  rw [l9_0] at h
  refine ite_cases h (fun c0 h => ?_) (fun c0 h => ?_)
  · skip
    refine ite_cases h (fun c1 h => ?_) (fun c1 h => ?_)
    · skip
      refine ite_cases h (fun c2 h => ?_) (fun c2 h => ?_)
      · skip
        refine ite_cases h (fun c3 h => ?_) (fun c3 h => ?_)
        · skip
          refine ite_cases h (fun c7 h => ?_) (fun c7 h => ?_)
          · skip
            exact l9_0_w0 m n s5 s6 s7 s8 s17 s18 s19 _ c0 c1 c2 c3 c7 (ih _ _ _ _ _ _ _ q h)
          · skip
            cases h
        · skip
          exact l9_0_w1 m n s5 s6 s7 s8 s17 s18 s19 _ c0 c1 c2 c3 (ih _ _ _ _ _ _ _ q h)
      · skip
        cases h
    · skip
      cases h
  · skip
    cases h
    exact l9_0_w2 m n s5 s6 s7 s8 s17 s18 s19 c0
set_option maxHeartbeats 20000000 in
theorem l9_0_ok (m : Nat) : ∀ (n : Nat) (s5 : List ((List UInt8) × (List UInt8))) (s6 : List ((List UInt8) × (List UInt8))) (s7 : List ((List UInt8) × (List UInt8) × Int)) (s8 : Bool) (s17 : List ((List UInt8) × (List UInt8))) (s18 : Int) (s19 : Int) (q : Nat × Bool × Int), l9_0 m n s5 s6 s7 s8 s17 s18 s19 = some q → (turns (hds 9 917984) 0 917984 (evC byref (evCall F S18 (m + 24)) (m + 24) 0 (hds 9) lbl9_0) n (l9_0H s5 s6 s7 s8 s17 s18 s19) (l9_0B s5 s6 s7 s8 s17 s18 s19)).run = some (l9_0E (s5) (s6) (s7) (q.2.1) (s17) (s18) (q.2.2) q.1)
  | 0, s5, s6, s7, s8, s17, s18, s19, q, h => by cases h
  | n + 1, s5, s6, s7, s8, s17, s18, s19, q, h => l9_0_step m n (l9_0_ok m n) s5 s6 s7 s8 s17 s18 s19 q h

def exact (m : Nat) (x0 : (List Int) × (List Int)) (x1 : (List Int) × (List Int)) : Option Unit :=
  if decide (List.length (setG x0) ≤ 1000000) = true then
    if (Option.isSome (l9_0 m (m + 24) ((setG x0)) ((setG x1)) ((exactG (setG x0))) true ((setG x0)) ((((List.length (setG x0)) : Nat) : Int)) 0)) = true then
      if rightPre ((exactG (setG x0))) = true then
        if (rightG ((exactG (setG x0)))) = true then
          if decide (List.length ((setG x0)) ≤ 1000000 ∧ List.length ((exactG (setG x0))) ≤ 1000000) = true then
            if (allG ((setG x0)) ((exactG (setG x0)))) = true then
              if decide (List.length ((setG x1)) ≤ 1000000 ∧ List.length ((exactG (setG x0))) ≤ 1000000) = true then
                if ((allG ((setG x1)) ((exactG (setG x0)))) == (l9_0R m (m + 24) ((setG x0)) ((setG x1)) ((exactG (setG x0))) true ((setG x0)) ((((List.length (setG x0)) : Nat) : Int)) 0).2.1) = true then
                  if ((((List.length ((exactG (setG x0)))) : Nat) : Int) == (((List.length ((setG x0))) : Nat) : Int)) = true then
                    if decide (List.length ((setG x1)) ≤ 1000000) = true then
                      if decide (List.length ((setG x0)) ≤ 1000000 ∧ List.length (exactG ((setG x1))) ≤ 1000000) = true then
                        if (allG ((setG x0)) (exactG ((setG x1)))) = true then
                          if decide (List.length ((setG x0)) < 4611686018427387904) = true then
                            if ((allG ((setG x1)) ((exactG (setG x0)))) == ((show List ((List UInt8) × (List UInt8)) from ((setG x0))) == ((setG x1)))) = true then
                              if lrightPre ((setG x0)) = true then
                                if ((printG ((exactG (setG x0)))) == (lprintG ((setG x0)))) = true then
                                  some ()
                                else
                                  none
                              else
                                none
                            else
                              none
                          else
                            none
                        else
                          if decide (List.length ((setG x0)) < 4611686018427387904) = true then
                            if (false == ((show List ((List UInt8) × (List UInt8)) from ((setG x0))) == ((setG x1)))) = true then
                              if lrightPre ((setG x0)) = true then
                                if ((printG ((exactG (setG x0)))) == (lprintG ((setG x0)))) = true then
                                  some ()
                                else
                                  none
                              else
                                none
                            else
                              none
                          else
                            none
                      else
                        none
                    else
                      none
                  else
                    none
                else
                  none
              else
                none
            else
              none
          else
            none
        else
          none
      else
        none
    else
      none
  else
    none

set_option maxHeartbeats 20000000 in
theorem exact_w0 (m : Nat) (x0 : (List Int) × (List Int)) (x1 : (List Int) × (List Int)) (c2 : decide (List.length (setG x0) ≤ 1000000) = true) (c3 : (Option.isSome (l9_0 m (m + 24) ((setG x0)) ((setG x1)) ((exactG (setG x0))) true ((setG x0)) ((((List.length (setG x0)) : Nat) : Int)) 0)) = true) (c4 : rightPre ((exactG (setG x0))) = true) (c5 : (rightG ((exactG (setG x0)))) = true) (c8 : decide (List.length ((setG x0)) ≤ 1000000 ∧ List.length ((exactG (setG x0))) ≤ 1000000) = true) (c10 : (allG ((setG x0)) ((exactG (setG x0)))) = true) (c13 : decide (List.length ((setG x1)) ≤ 1000000 ∧ List.length ((exactG (setG x0))) ≤ 1000000) = true) (c17 : ((allG ((setG x1)) ((exactG (setG x0)))) == (l9_0R m (m + 24) ((setG x0)) ((setG x1)) ((exactG (setG x0))) true ((setG x0)) ((((List.length (setG x0)) : Nat) : Int)) 0).2.1) = true) (c23 : ((((List.length ((exactG (setG x0)))) : Nat) : Int) == (((List.length ((setG x0))) : Nat) : Int)) = true) (c26 : decide (List.length ((setG x1)) ≤ 1000000) = true) (c28 : decide (List.length ((setG x0)) ≤ 1000000 ∧ List.length (exactG ((setG x1))) ≤ 1000000) = true) (c30 : (allG ((setG x0)) (exactG ((setG x1)))) = true) (c39 : decide (List.length ((setG x0)) < 4611686018427387904) = true) (c42 : ((allG ((setG x1)) ((exactG (setG x0)))) == ((show List ((List UInt8) × (List UInt8)) from ((setG x0))) == ((setG x1)))) = true) (c47 : lrightPre ((setG x0)) = true) (c50 : ((printG ((exactG (setG x0)))) == (lprintG ((setG x0)))) = true) : (evCall F S18 (m + 25) 9 [(.agg [(.d (.sl (.int .i64) x0.1)), (.d (.sl (.int .i64) x0.2))]), (.agg [(.d (.sl (.int .i64) x1.1)), (.d (.sl (.int .i64) x1.2))])] []).run = some (.d (.bool true), []) := by
  refine runT_ok (LS := (fun k => if k = 917984 then some (l9_0E (((setG x0))) (((setG x1))) (((exactG (setG x0)))) ((l9_0R m (m + 24) ((setG x0)) ((setG x1)) ((exactG (setG x0))) true ((setG x0)) ((((List.length (setG x0)) : Nat) : Int)) 0).2.1) (((setG x0))) (((((List.length (setG x0)) : Nat) : Int))) ((l9_0R m (m + 24) ((setG x0)) ((setG x1)) ((exactG (setG x0))) true ((setG x0)) ((((List.length (setG x0)) : Nat) : Int)) 0).2.2) 0) else none)) (fn := fn9) (r := .d (.bool true)) (B' := []) (vis := [(917984, l9_0H ((setG x0)) ((setG x1)) ((exactG (setG x0))) true ((setG x0)) ((((List.length (setG x0)) : Nat) : Int)) 0, l9_0B ((setG x0)) ((setG x1)) ((exactG (setG x0))) true ((setG x0)) ((((List.length (setG x0)) : Nat) : Int)) 0)]) (by kernel_rfl) rfl (by kernel_rfl) (M.run_of_path _ [true, true, true, true, true, true, true, true, true, true, true, true, true, true, true, true, true, true, true, true, true, true, true, true, true, true, true, true, true, true, true, true, true, true, true, true, true, true, true, true, true, true, true, true, true, true, true, true, true, true, true] _ _ (by kernel_rfl) (all_t rfl (all_t rfl (all_t c2 (all_t c4 (all_t c5 (all_t c5 (all_t c5 (all_t c8 (all_t c5 (all_t c10 (all_t c10 (all_t c10 (all_t c13 (all_t c10 (all_t c10 (all_t c10 (all_t c17 (all_t c17 (all_t c17 (all_t c17 (all_t c17 (all_t c17 (all_t c23 (all_t c23 (all_t c23 (all_t c26 (all_t c23 (all_t c28 (all_t c23 (all_t c30 (all_t c30 (all_t c30 (all_t c13 (all_t c23 (all_t c30 (all_t c23 (all_t c23 (all_t c23 (all_t c39 (all_t c23 (all_t c23 (all_t c42 (all_t c42 (all_t c4 (all_t c42 (all_t c42 (all_t c47 (all_t c42 (all_t c42 (all_t c50 (all_t c50 all_nil)))))))))))))))))))))))))))))))))))))))))))))))))))) ?_
  intro p hp p2 hq
  rcases List.mem_cons.1 hp with rfl | hp
  · skip
    have h3 := l9_0_ok m (m + 24) ((setG x0)) ((setG x1)) ((exactG (setG x0))) true ((setG x0)) ((((List.length (setG x0)) : Nat) : Int)) 0 _ (some_getD (d := l9_0D) c3)
    exact Eq.trans (Eq.mp (by kernel_rfl) h3) hq
  cases hp

set_option maxHeartbeats 20000000 in
theorem exact_w1 (m : Nat) (x0 : (List Int) × (List Int)) (x1 : (List Int) × (List Int)) (c2 : decide (List.length (setG x0) ≤ 1000000) = true) (c3 : (Option.isSome (l9_0 m (m + 24) ((setG x0)) ((setG x1)) ((exactG (setG x0))) true ((setG x0)) ((((List.length (setG x0)) : Nat) : Int)) 0)) = true) (c4 : rightPre ((exactG (setG x0))) = true) (c5 : (rightG ((exactG (setG x0)))) = true) (c8 : decide (List.length ((setG x0)) ≤ 1000000 ∧ List.length ((exactG (setG x0))) ≤ 1000000) = true) (c10 : (allG ((setG x0)) ((exactG (setG x0)))) = true) (c13 : decide (List.length ((setG x1)) ≤ 1000000 ∧ List.length ((exactG (setG x0))) ≤ 1000000) = true) (c17 : ((allG ((setG x1)) ((exactG (setG x0)))) == (l9_0R m (m + 24) ((setG x0)) ((setG x1)) ((exactG (setG x0))) true ((setG x0)) ((((List.length (setG x0)) : Nat) : Int)) 0).2.1) = true) (c23 : ((((List.length ((exactG (setG x0)))) : Nat) : Int) == (((List.length ((setG x0))) : Nat) : Int)) = true) (c26 : decide (List.length ((setG x1)) ≤ 1000000) = true) (c28 : decide (List.length ((setG x0)) ≤ 1000000 ∧ List.length (exactG ((setG x1))) ≤ 1000000) = true) (c30 : ¬ (allG ((setG x0)) (exactG ((setG x1)))) = true) (c38 : decide (List.length ((setG x0)) < 4611686018427387904) = true) (c41 : (false == ((show List ((List UInt8) × (List UInt8)) from ((setG x0))) == ((setG x1)))) = true) (c46 : lrightPre ((setG x0)) = true) (c49 : ((printG ((exactG (setG x0)))) == (lprintG ((setG x0)))) = true) : (evCall F S18 (m + 25) 9 [(.agg [(.d (.sl (.int .i64) x0.1)), (.d (.sl (.int .i64) x0.2))]), (.agg [(.d (.sl (.int .i64) x1.1)), (.d (.sl (.int .i64) x1.2))])] []).run = some (.d (.bool true), []) := by
  refine runT_ok (LS := (fun k => if k = 917984 then some (l9_0E (((setG x0))) (((setG x1))) (((exactG (setG x0)))) ((l9_0R m (m + 24) ((setG x0)) ((setG x1)) ((exactG (setG x0))) true ((setG x0)) ((((List.length (setG x0)) : Nat) : Int)) 0).2.1) (((setG x0))) (((((List.length (setG x0)) : Nat) : Int))) ((l9_0R m (m + 24) ((setG x0)) ((setG x1)) ((exactG (setG x0))) true ((setG x0)) ((((List.length (setG x0)) : Nat) : Int)) 0).2.2) 0) else none)) (fn := fn9) (r := .d (.bool true)) (B' := []) (vis := [(917984, l9_0H ((setG x0)) ((setG x1)) ((exactG (setG x0))) true ((setG x0)) ((((List.length (setG x0)) : Nat) : Int)) 0, l9_0B ((setG x0)) ((setG x1)) ((exactG (setG x0))) true ((setG x0)) ((((List.length (setG x0)) : Nat) : Int)) 0)]) (by kernel_rfl) rfl (by kernel_rfl) (M.run_of_path _ [true, true, true, true, true, true, true, true, true, true, true, true, true, true, true, true, true, true, true, true, true, true, true, true, true, true, true, true, true, false, false, false, true, false, true, true, true, true, true, true, true, true, true, true, true, true, true, true, true, true] _ _ (by kernel_rfl) (all_t rfl (all_t rfl (all_t c2 (all_t c4 (all_t c5 (all_t c5 (all_t c5 (all_t c8 (all_t c5 (all_t c10 (all_t c10 (all_t c10 (all_t c13 (all_t c10 (all_t c10 (all_t c10 (all_t c17 (all_t c17 (all_t c17 (all_t c17 (all_t c17 (all_t c17 (all_t c23 (all_t c23 (all_t c23 (all_t c26 (all_t c23 (all_t c28 (all_t c23 (all_f c30 (all_f c30 (all_f c30 (all_t c23 (all_f c30 (all_t c23 (all_t c23 (all_t c23 (all_t c38 (all_t c23 (all_t c23 (all_t c41 (all_t c41 (all_t c4 (all_t c41 (all_t c41 (all_t c46 (all_t c41 (all_t c41 (all_t c49 (all_t c49 all_nil))))))))))))))))))))))))))))))))))))))))))))))))))) ?_
  intro p hp p2 hq
  rcases List.mem_cons.1 hp with rfl | hp
  · skip
    have h3 := l9_0_ok m (m + 24) ((setG x0)) ((setG x1)) ((exactG (setG x0))) true ((setG x0)) ((((List.length (setG x0)) : Nat) : Int)) 0 _ (some_getD (d := l9_0D) c3)
    exact Eq.trans (Eq.mp (by kernel_rfl) h3) hq
  cases hp

set_option maxHeartbeats 20000000 in
theorem exact_ok (m : Nat) (x0 : (List Int) × (List Int)) (x1 : (List Int) × (List Int)) (q : Unit) (h : exact m x0 x1 = some q) : (evCall F S18 (m + 25) 9 [(.agg [(.d (.sl (.int .i64) x0.1)), (.d (.sl (.int .i64) x0.2))]), (.agg [(.d (.sl (.int .i64) x1.1)), (.d (.sl (.int .i64) x1.2))])] []).run = some (.d (.bool true), []) := by
  unfold exact at h
  refine ite_cases h (fun c2 h => ?_) (fun c2 h => ?_)
  · skip
    refine ite_cases h (fun c3 h => ?_) (fun c3 h => ?_)
    · skip
      refine ite_cases h (fun c4 h => ?_) (fun c4 h => ?_)
      · skip
        refine ite_cases h (fun c5 h => ?_) (fun c5 h => ?_)
        · skip
          refine ite_cases h (fun c8 h => ?_) (fun c8 h => ?_)
          · skip
            refine ite_cases h (fun c10 h => ?_) (fun c10 h => ?_)
            · skip
              refine ite_cases h (fun c13 h => ?_) (fun c13 h => ?_)
              · skip
                refine ite_cases h (fun c17 h => ?_) (fun c17 h => ?_)
                · skip
                  refine ite_cases h (fun c23 h => ?_) (fun c23 h => ?_)
                  · skip
                    refine ite_cases h (fun c26 h => ?_) (fun c26 h => ?_)
                    · skip
                      refine ite_cases h (fun c28 h => ?_) (fun c28 h => ?_)
                      · skip
                        refine ite_cases h (fun c30 h => ?_) (fun c30 h => ?_)
                        · skip
                          refine ite_cases h (fun c39 h => ?_) (fun c39 h => ?_)
                          · skip
                            refine ite_cases h (fun c42 h => ?_) (fun c42 h => ?_)
                            · skip
                              refine ite_cases h (fun c47 h => ?_) (fun c47 h => ?_)
                              · skip
                                refine ite_cases h (fun c50 h => ?_) (fun c50 h => ?_)
                                · skip
                                  cases h
                                  exact exact_w0 m x0 x1 c2 c3 c4 c5 c8 c10 c13 c17 c23 c26 c28 c30 c39 c42 c47 c50
                                · skip
                                  cases h
                              · skip
                                cases h
                            · skip
                              cases h
                          · skip
                            cases h
                        · skip
                          refine ite_cases h (fun c38 h => ?_) (fun c38 h => ?_)
                          · skip
                            refine ite_cases h (fun c41 h => ?_) (fun c41 h => ?_)
                            · skip
                              refine ite_cases h (fun c46 h => ?_) (fun c46 h => ?_)
                              · skip
                                refine ite_cases h (fun c49 h => ?_) (fun c49 h => ?_)
                                · skip
                                  cases h
                                  exact exact_w1 m x0 x1 c2 c3 c4 c5 c8 c10 c13 c17 c23 c26 c28 c30 c38 c41 c46 c49
                                · skip
                                  cases h
                              · skip
                                cases h
                            · skip
                              cases h
                          · skip
                            cases h
                      · skip
                        cases h
                    · skip
                      cases h
                  · skip
                    cases h
                · skip
                  cases h
              · skip
                cases h
            · skip
              cases h
          · skip
            cases h
        · skip
          cases h
      · skip
        cases h
    · skip
      cases h
  · skip
    cases h
theorem exact_at (x0 : (List Int) × (List Int)) (x1 : (List Int) × (List Int)) (h : ∃ m q, exact m x0 x1 = some q) : ∃ g B', CallAt Tryd.prog 9 g ∧ (g [(.agg [(.d (.sl (.int .i64) x0.1)), (.d (.sl (.int .i64) x0.2))]), (.agg [(.d (.sl (.int .i64) x1.1)), (.d (.sl (.int .i64) x1.2))])] []).run = some (.d (.bool true), B') := by
  obtain ⟨m, q, h⟩ := h
  exact ⟨_, _, evCall_atH mixed kinds hds S18 S18_ok (m + 25) 9, exact_ok m x0 x1 q h⟩

end Go.Proofs.YtghkbjflejgieaaDoor.Dec
namespace Go.Proofs.YtghkbjflejgieaaDoor.Dec
open Go.Ev
set_option linter.unusedVariables false
set_option linter.unusedSimpArgs false
set_option maxRecDepth 100000
def setOf (h0 h1 h2 : Bool) (v0 v1 v2 : List UInt8) : LB := (if h0 then [(([97] : List UInt8), v0)] else []) ++ (if h1 then [(([98] : List UInt8), v1)] else []) ++ (if h2 then [(([99] : List UInt8), v2)] else [])
theorem valG_in (l : List Int) (i : Int) : valG l i ∈ valuesG := by
  unfold valG
  refine getD_mem valuesG _ _ ?_
  have : 0 ≤ withinI (pickG l i) (0) (7) ∧ withinI (pickG l i) (0) (7) < 8 := by unfold withinI; omega
  show _ < 8
  omega
theorem val_len {v : List UInt8} (h : v ∈ valuesG) : 1 ≤ v.length ∧ v.length ≤ 3 := by
  have : ∀ v ∈ valuesG, 1 ≤ v.length ∧ v.length ≤ 3 := by decide
  exact this v h
theorem setG_of (k : List Int × List Int) : ∃ h0 h1 h2 v0 v1 v2, setG k = setOf h0 h1 h2 v0 v1 v2 ∧ (1 ≤ v0.length ∧ v0.length ≤ 3) ∧ (1 ≤ v1.length ∧ v1.length ≤ 3) ∧ (1 ≤ v2.length ∧ v2.length ≤ 3) :=
  ⟨_, _, _, _, _, _, rfl, val_len (valG_in ..), val_len (valG_in ..), val_len (valG_in ..)⟩
theorem holds_eq (x : LB) (n v : List UInt8) : holdsG x (n, (v, 1)) = (getG x n == v) := rfl
theorem all_of (x : LB) (h0 h1 h2 : Bool) (w0 w1 w2 : List UInt8) : allG x (exactG (setOf h0 h1 h2 w0 w1 w2)) = ((!h0 || (getG x [97] == w0)) && (!h1 || (getG x [98] == w1)) && (!h2 || (getG x [99] == w2))) := by
  cases h0 <;> cases h1 <;> cases h2 <;> simp [setOf, exactG, exact1, allG, holds_eq, Bool.and_assoc]
theorem get_0 (h0 h1 h2 : Bool) (v0 v1 v2 : List UInt8) : getG (setOf h0 h1 h2 v0 v1 v2) [97] = if h0 then v0 else [] := by
  cases h0 <;> cases h1 <;> cases h2 <;> rfl
theorem get_1 (h0 h1 h2 : Bool) (v0 v1 v2 : List UInt8) : getG (setOf h0 h1 h2 v0 v1 v2) [98] = if h1 then v1 else [] := by
  cases h0 <;> cases h1 <;> cases h2 <;> rfl
theorem get_2 (h0 h1 h2 : Bool) (v0 v1 v2 : List UInt8) : getG (setOf h0 h1 h2 v0 v1 v2) [99] = if h2 then v2 else [] := by
  cases h0 <;> cases h1 <;> cases h2 <;> rfl
theorem part_eq {h g : Bool} {v w : List UInt8} (hv : 1 ≤ v.length) (hw : 1 ≤ w.length) (a : (!h || ((if g then w else []) == v)) = true) (b : (!g || ((if h then v else []) == w)) = true) : h = g ∧ (h = true → v = w) := by
  cases h <;> cases g <;> simp at a b ⊢
  · subst b; simp at hw
  · subst a; simp at hv
  · exact b
theorem part_of (h : Bool) (v : List UInt8) : (!h || ((if h then v else []) == v)) = true := by cases h <;> simp
theorem both_all {h0 h1 h2 g0 g1 g2 : Bool} {v0 v1 v2 w0 w1 w2 : List UInt8} (a0 : 1 ≤ v0.length) (a1 : 1 ≤ v1.length) (a2 : 1 ≤ v2.length) (b0 : 1 ≤ w0.length) (b1 : 1 ≤ w1.length) (b2 : 1 ≤ w2.length) :
    (allG (setOf h0 h1 h2 v0 v1 v2) (exactG (setOf g0 g1 g2 w0 w1 w2)) && allG (setOf g0 g1 g2 w0 w1 w2) (exactG (setOf h0 h1 h2 v0 v1 v2))) = (setOf h0 h1 h2 v0 v1 v2 == setOf g0 g1 g2 w0 w1 w2) := by
  rw [all_of, all_of, get_0, get_1, get_2, get_0, get_1, get_2, Bool.eq_iff_iff, beq_iff_eq]
  constructor
  · intro h
    simp only [Bool.and_eq_true] at h
    obtain ⟨⟨⟨p0, p1⟩, p2⟩, ⟨q0, q1⟩, q2⟩ := h
    obtain ⟨e0, f0⟩ := part_eq a0 b0 q0 p0
    obtain ⟨e1, f1⟩ := part_eq a1 b1 q1 p1
    obtain ⟨e2, f2⟩ := part_eq a2 b2 q2 p2
    subst e0 e1 e2
    unfold setOf
    have r : ∀ (h : Bool) (n v w : List UInt8), (h = true → v = w) → (if h then [(n, v)] else []) = (if h then [(n, w)] else []) := by
      intro h n v w f
      cases h with
      | false => rfl
      | true => rw [f rfl]
    rw [r h0 _ _ _ f0, r h1 _ _ _ f1, r h2 _ _ _ f2]
  · intro e
    have t0 := congrArg (fun x => getG x [97]) e
    have t1 := congrArg (fun x => getG x [98]) e
    have t2 := congrArg (fun x => getG x [99]) e
    simp only [get_0, get_1, get_2] at t0 t1 t2
    rw [t0, t1, t2, part_of, part_of, part_of, ← t0, ← t1, ← t2, part_of, part_of, part_of]
    rfl
theorem set_right {h0 h1 h2 : Bool} {v0 v1 v2 : List UInt8} (a0 : 1 ≤ v0.length ∧ v0.length ≤ 3) (a1 : 1 ≤ v1.length ∧ v1.length ≤ 3) (a2 : 1 ≤ v2.length ∧ v2.length ≤ 3) : lrightG (setOf h0 h1 h2 v0 v1 v2) = true := by
  have w0 : wordG [97] = true := by decide
  have w1 : wordG [98] = true := by decide
  have w2 : wordG [99] = true := by decide
  have l1 : Op.bytesLess ([97] : List UInt8) [98] = true := by decide
  have l2 : Op.bytesLess ([97] : List UInt8) [99] = true := by decide
  have l3 : Op.bytesLess ([98] : List UInt8) [99] = true := by decide
  have g0 : lab1 (([97] : List UInt8), v0) = true := by unfold lab1; rw [w0, decide_eq_true a0.1, decide_eq_true (show v0.length ≤ 24 by omega)]; rfl
  have g1 : lab1 (([98] : List UInt8), v1) = true := by unfold lab1; rw [w1, decide_eq_true a1.1, decide_eq_true (show v1.length ≤ 24 by omega)]; rfl
  have g2 : lab1 (([99] : List UInt8), v2) = true := by unfold lab1; rw [w2, decide_eq_true a2.1, decide_eq_true (show v2.length ≤ 24 by omega)]; rfl
  cases h0 <;> cases h1 <;> cases h2 <;> simp [setOf, lrightG, lrise, g0, g1, g2, l1, l2, l3]
theorem right_of_lright {x : LB} (h : lrightG x = true) : rightG (exactG x) = true := by
  unfold lrightG at h
  rw [Bool.and_eq_true, Bool.and_eq_true, decide_eq_true_eq] at h
  unfold rightG exactG
  rw [List.length_map, decide_eq_true h.2, Bool.and_true, List.all_map, List.all_eq_true]
  intro y hy
  have := List.all_eq_true.1 h.1.1 y hy
  unfold lab1 at this
  rw [Bool.and_eq_true, Bool.and_eq_true] at this
  show okM (y.1, (y.2, 1)) = true
  unfold okM
  rw [this.1.1, this.2]; rfl
theorem print_exact {x : LB} (h : lrightG x = true) : printG (exactG x) = lprintG x := by
  unfold printG lprintG
  rw [if_pos (right_of_lright h), if_pos h]
  unfold exactG
  rw [List.map_map]
  rfl
theorem set_all {h0 h1 h2 : Bool} {v0 v1 v2 : List UInt8} : allG (setOf h0 h1 h2 v0 v1 v2) (exactG (setOf h0 h1 h2 v0 v1 v2)) = true := by
  rw [all_of, get_0, get_1, get_2, part_of, part_of, part_of]; rfl
theorem has_loop (m : Nat) (s5 y : LB) (s7 : List MT) (x : LB) (hb : x.length ≤ 1000000) (hy : y.length ≤ 1000000) : ∀ (n k : Nat) (b : Bool), k ≤ x.length → x.length - k < n → ∃ j, l9_0 m n s5 y s7 b x ((x.length : Nat) : Int) ((k : Nat) : Int) = some (0, (b && allG y (exactG (x.drop k))), j)
  | 0, k, _, _, h => by omega
  | n + 1, k, b, h1, h2 => by
    rw [l9_0]
    by_cases hk : k < x.length
    · have e1 : decide (((k : Nat) : Int) < (((List.length x) : Nat) : Int)) = true := decide_eq_true (by omega)
      have e2 : decide ((0 : Int) ≤ ((k : Nat) : Int)) = true := decide_eq_true (by omega)
      have e3 : decide (List.length y ≤ 1000000) = true := decide_eq_true hy
      have e7 : IntKind.wrap .i64 (((k : Nat) : Int) + (1)) = ((k + 1 : Nat) : Int) := by rw [wrap_id (by omega) (by omega)]; rfl
      have go := fun b => has_loop m s5 y s7 x hb hy n (k + 1) b (by omega) (by omega)
      rw [drop_getD x k (([] : List UInt8), ([] : List UInt8)) hk]
      simp only [show Int.toNat ((k : Nat) : Int) = k from rfl, e1, e2, e3, e7, ↓reduceIte]
      generalize x.getD k (([] : List UInt8), ([] : List UInt8)) = q at *
      have hc : allG y (exactG (q :: x.drop (k + 1))) = ((getG y q.1 == q.2) && allG y (exactG (x.drop (k + 1)))) := rfl
      rw [hc]
      cases b with
      | true =>
        obtain ⟨j, hj⟩ := go (getG y q.1 == q.2)
        exact ⟨j, by rw [if_pos rfl, hj, Bool.true_and]⟩
      | false =>
        obtain ⟨j, hj⟩ := go false
        exact ⟨j, by rw [if_neg (by simp), hj]; simp⟩
    · have e1 : decide (((k : Nat) : Int) < (((List.length x) : Nat) : Int)) = false := decide_eq_false (by omega)
      rw [e1, if_neg (by simp), List.drop_eq_nil_of_le (by omega)]
      exact ⟨_, by rw [show allG y (exactG []) = true from rfl, Bool.and_true]⟩
theorem exact_pure (x0 x1 : List Int × List Int) : ∃ m q, exact m x0 x1 = some q := by
  refine ⟨100, (), ?_⟩
  unfold exact
  skip
  obtain ⟨h0, h1, h2, v0, v1, v2, hx, a0, a1, a2⟩ := setG_of x0
  obtain ⟨g0, g1, g2, w0, w1, w2, hy, b0, b1, b2⟩ := setG_of x1
  rw [hx, hy]
  have rx := set_right (h0 := h0) (h1 := h1) (h2 := h2) a0 a1 a2
  have ry := set_right (h0 := g0) (h1 := g1) (h2 := g2) b0 b1 b2
  have bo := both_all (h0 := h0) (h1 := h1) (h2 := h2) (g0 := g0) (g1 := g1) (g2 := g2) a0.1 a1.1 a2.1 b0.1 b1.1 b2.1
  have ax := set_all (h0 := h0) (h1 := h1) (h2 := h2) (v0 := v0) (v1 := v1) (v2 := v2)
  generalize setOf h0 h1 h2 v0 v1 v2 = x at *
  generalize setOf g0 g1 g2 w0 w1 w2 = y at *
  have lx := lright_all rx
  have ly := lright_all ry
  have le : ∀ z : LB, (exactG z).length = z.length := fun z => by unfold exactG; rw [List.length_map]
  have px := print_exact rx
  have qx := right_of_lright rx
  obtain ⟨j, hj⟩ := has_loop 100 x y (exactG x) x (by omega) (by omega) (100 + 24) 0 true (by omega) (by omega)
  simp only [Int.natCast_zero, List.drop_zero, Bool.true_and] at hj
  have t1 : decide (List.length x ≤ 1000000) = true := decide_eq_true (by omega)
  have t1' : decide (List.length y ≤ 1000000) = true := decide_eq_true (by omega)
  have t2 : rightPre (exactG x) = true := by
    refine decide_eq_true ⟨by rw [le]; omega, fun z hz => ?_⟩
    obtain ⟨u, hu, rfl⟩ := List.mem_map.1 hz
    have := lx.2 u hu
    show u.1.length ≤ _
    omega
  have t3 : decide (List.length x ≤ 1000000 ∧ List.length (exactG x) ≤ 1000000) = true := decide_eq_true (by rw [le]; omega)
  have t4 : decide (List.length y ≤ 1000000 ∧ List.length (exactG x) ≤ 1000000) = true := decide_eq_true (by rw [le]; omega)
  have t5 : decide (List.length x ≤ 1000000 ∧ List.length (exactG y) ≤ 1000000) = true := decide_eq_true (by rw [le]; omega)
  have t6 : ((((List.length (exactG x)) : Nat) : Int) == (((List.length x) : Nat) : Int)) = true := by rw [le, beq_self_eq_true]
  have t7 : decide (List.length x < 4611686018427387904) = true := decide_eq_true (by omega)
  have t8 : lrightPre x = true := decide_eq_true ⟨by omega, fun z hz => by have := lx.2 z hz; omega⟩
  have t9 : (printG (exactG x) == lprintG x) = true := by rw [px, beq_self_eq_true]
  rw [if_pos t1]
  simp only [l9_0R, hj, t1, t1', t2, qx, t3, ax, t4, t6, t5, t7, t8, t9, beq_self_eq_true, Option.isSome_some, Option.getD_some, ↓reduceIte]
  cases hxy : allG x (exactG y) with
  | true =>
    rw [hxy, Bool.true_and] at bo
    rw [if_pos rfl, bo, if_pos (beq_self_eq_true _)]
  | false =>
    rw [hxy, Bool.false_and] at bo
    rw [if_neg (by simp), bo, if_pos (beq_self_eq_true _)]
theorem exact_law (x0 x1 : List Int × List Int) (_ : Ty.ok (.pair (.sl (.int .i64)) (.sl (.int .i64))) x0) (_ : Ty.ok (.pair (.sl (.int .i64)) (.sl (.int .i64))) x1) : ∃ g B', CallAt Tryd.prog 9 g ∧ (g [argAV true (.pair (.sl (.int .i64)) (.sl (.int .i64))) x0, argAV true (.pair (.sl (.int .i64)) (.sl (.int .i64))) x1] []).run = some (.d (.bool true), B') := exact_at x0 x1 (exact_pure x0 x1)

end Go.Proofs.YtghkbjflejgieaaDoor.Dec
