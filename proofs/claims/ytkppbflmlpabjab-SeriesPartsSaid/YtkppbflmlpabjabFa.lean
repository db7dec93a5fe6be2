/- Between, Cut, All. -/
import Derived.Test.YtkppbflmlpabjabEe
import Derived.KernelRfl
namespace Go.Proofs.Ytkppbflmlpabjab.Dec
open Go.Ev
set_option linter.unusedVariables false
set_option linter.unusedSimpArgs false
set_option maxRecDepth 100000
noncomputable def fn32 : AFn := (F 32).getD ⟨0, [], .bad, false, false, noHd⟩
noncomputable def body32 : AC := fn32.body
def l32_0 (m : Nat) : Nat → List (Int × Int) → Int → Int → Int → Int → List (Int × Int) → Option (Nat × Int × (List (Int × Int)))
  | 0, _, _, _, _, _, _ => none
  | n + 1, x0, x1, x2, s14, s15, b1 => if decide (s15 < s14) = true then
      if decide (0 ≤ s15) = true then
        if decide (s15 < (((List.length x0) : Nat) : Int)) = true then
          if decide ((List.getD x0 (Int.toNat s15) (0, 0)).1 ≥ x1) = true then
            if decide ((List.getD x0 (Int.toNat s15) (0, 0)).1 ≤ x2) = true then
              if decide ((((List.length b1) + 1) * 16) ≤ 70368744177664) = true then
                l32_0 m n x0 x1 x2 s14 ((IntKind.wrap .i64 (s15 + (1)))) ((b1 ++ [(List.getD x0 (Int.toNat s15) (0, 0))]))
              else
                none
            else
              l32_0 m n x0 x1 x2 s14 ((IntKind.wrap .i64 (s15 + (1)))) b1
          else
            l32_0 m n x0 x1 x2 s14 ((IntKind.wrap .i64 (s15 + (1)))) b1
        else
          none
      else
        none
    else
      some (0, s15, b1)
def l32_0D : Nat × Int × (List (Int × Int)) := (0, 0, [])
@[reducible] def l32_0R (m n : Nat) (x0 : List (Int × Int)) (x1 : Int) (x2 : Int) (s14 : Int) (s15 : Int) (b1 : List (Int × Int)) : Nat × Int × (List (Int × Int)) := Option.getD (l32_0 m n x0 x1 x2 s14 s15 b1) l32_0D
def l32_0H (x0 : List (Int × Int)) (x1 : Int) (x2 : Int) (s14 : Int) (s15 : Int) (b1 : List (Int × Int)) : Env := [.top, (.d (.int .i64 x1)), (.d (.int .i64 x2)), .top, .top, .top, .top, (.sr 1 0 (List.length b1) 2 none), .top, .top, .top, .top, .top, (.d (.sl (.pair (.int .i64) (.int .i64)) x0)), (.d (.int .i64 s14)), (.d (.int .i64 s15)), .top, .top, .top, .top, .top, .top, .top, .top, .top, .top, .top, .top, .top, .top, .top, .top, .top, .top, .top]
def l32_0B (x0 : List (Int × Int)) (x1 : Int) (x2 : Int) (s14 : Int) (s15 : Int) (b1 : List (Int × Int)) : Boxes := [(.cells [(.d (.sl (.pair (.int .i64) (.int .i64)) x0))]), (.arr (.pair (.int .i64) (.int .i64)) b1 true)]
def l32_0E (x0 : List (Int × Int)) (x1 : Int) (x2 : Int) (s14 : Int) (s15 : Int) (b1 : List (Int × Int)) : Nat → AEx × Env × Boxes
  | _ => (.exit 0, [.top, (.d (.int .i64 x1)), (.d (.int .i64 x2)), .top, .top, .top, .top, (.sr 1 0 (List.length b1) 2 none), .top, .top, .top, .top, .top, (.d (.sl (.pair (.int .i64) (.int .i64)) x0)), (.d (.int .i64 s14)), (.d (.int .i64 s15)), (.d (.bool (decide (s15 < s14)))), .top, .top, .top, .top, .top, .top, .top, .top, .top, .top, .top, .top, .top, .top, .top, .top, .top, .top], [(.cells [(.d (.sl (.pair (.int .i64) (.int .i64)) x0))]), (.arr (.pair (.int .i64) (.int .i64)) b1 true)])
noncomputable def lbl32_0 : AC := loopBody 57478 body32

set_option maxHeartbeats 20000000 in
theorem l32_0_w0 (m n : Nat) (x0 : List (Int × Int)) (x1 : Int) (x2 : Int) (s14 : Int) (s15 : Int) (b1 : List (Int × Int)) (r : AEx × Env × Boxes) (c0 : decide (s15 < s14) = true) (c1 : decide (0 ≤ s15) = true) (c2 : decide (s15 < (((List.length x0) : Nat) : Int)) = true) (c3 : decide ((List.getD x0 (Int.toNat s15) (0, 0)).1 ≥ x1) = true) (c8 : decide ((List.getD x0 (Int.toNat s15) (0, 0)).1 ≤ x2) = true) (c10 : decide ((((List.length b1) + 1) * 16) ≤ 70368744177664) = true) (ih : (turns (hds 32 57478) 1 57478 (evC byref (evCall F S7 (m + 24)) (m + 24) 1 (hds 32) lbl32_0) n (l32_0H x0 x1 x2 s14 ((IntKind.wrap .i64 (s15 + (1)))) ((b1 ++ [(List.getD x0 (Int.toNat s15) (0, 0))]))) (l32_0B x0 x1 x2 s14 ((IntKind.wrap .i64 (s15 + (1)))) ((b1 ++ [(List.getD x0 (Int.toNat s15) (0, 0))])))).run = some r) : (turns (hds 32 57478) 1 57478 (evC byref (evCall F S7 (m + 24)) (m + 24) 1 (hds 32) lbl32_0) (n + 1) (l32_0H x0 x1 x2 s14 s15 b1) (l32_0B x0 x1 x2 s14 s15 b1)).run = some r := by
  have ht : (turn (hds 32 57478) 1 57478 (evC byref (evCall F S7 (m + 24)) (m + 24) 1 (hds 32) lbl32_0) (l32_0H x0 x1 x2 s14 s15 b1) (l32_0B x0 x1 x2 s14 s15 b1)).run = some (.normal, [.top, (.d (.int .i64 x1)), (.d (.int .i64 x2)), .top, .top, .top, .top, (.sr 1 0 ((List.length b1) + 1) 2 none), .top, .top, .top, .top, .top, (.d (.sl (.pair (.int .i64) (.int .i64)) x0)), (.d (.int .i64 s14)), (.d (.int .i64 (IntKind.wrap .i64 (s15 + (1))))), .top, .top, .top, .top, .top, .top, .top, .top, .top, .top, .top, .top, .top, .top, .top, .top, .top, .top, .top], [(.cells [(.d (.sl (.pair (.int .i64) (.int .i64)) x0))]), (.arr (.pair (.int .i64) (.int .i64)) (b1 ++ [(List.getD x0 (Int.toNat s15) (0, 0))]) true)]) := M.run_of_path _ [true, true, true, true, true, true, true, true, true, true, true, true] _ _ (by kernel_rfl) (all_t c0 (all_t c1 (all_t c2 (all_t c3 (all_t c3 (all_t c3 (all_t c3 (all_t c3 (all_t c8 (all_t rfl (all_t c10 (all_t (show decide ((List.length b1) = (List.length b1)) = true from decide_eq_true rfl) all_nil))))))))))))
  refine turns_step ht (turns_eq ?_ ?_ ih)
  · unfold l32_0H
    simp
  · unfold l32_0B
    simp
set_option maxHeartbeats 20000000 in
theorem l32_0_w1 (m n : Nat) (x0 : List (Int × Int)) (x1 : Int) (x2 : Int) (s14 : Int) (s15 : Int) (b1 : List (Int × Int)) (r : AEx × Env × Boxes) (c0 : decide (s15 < s14) = true) (c1 : decide (0 ≤ s15) = true) (c2 : decide (s15 < (((List.length x0) : Nat) : Int)) = true) (c3 : decide ((List.getD x0 (Int.toNat s15) (0, 0)).1 ≥ x1) = true) (c8 : ¬ decide ((List.getD x0 (Int.toNat s15) (0, 0)).1 ≤ x2) = true) (ih : (turns (hds 32 57478) 1 57478 (evC byref (evCall F S7 (m + 24)) (m + 24) 1 (hds 32) lbl32_0) n (l32_0H x0 x1 x2 s14 ((IntKind.wrap .i64 (s15 + (1)))) b1) (l32_0B x0 x1 x2 s14 ((IntKind.wrap .i64 (s15 + (1)))) b1)).run = some r) : (turns (hds 32 57478) 1 57478 (evC byref (evCall F S7 (m + 24)) (m + 24) 1 (hds 32) lbl32_0) (n + 1) (l32_0H x0 x1 x2 s14 s15 b1) (l32_0B x0 x1 x2 s14 s15 b1)).run = some r := by
  exact turns_step (M.run_of_path _ [true, true, true, true, true, true, true, true, false] _ _ (by kernel_rfl) (all_t c0 (all_t c1 (all_t c2 (all_t c3 (all_t c3 (all_t c3 (all_t c3 (all_t c3 (all_f c8 all_nil)))))))))) ih
set_option maxHeartbeats 20000000 in
theorem l32_0_w2 (m n : Nat) (x0 : List (Int × Int)) (x1 : Int) (x2 : Int) (s14 : Int) (s15 : Int) (b1 : List (Int × Int)) (r : AEx × Env × Boxes) (c0 : decide (s15 < s14) = true) (c1 : decide (0 ≤ s15) = true) (c2 : decide (s15 < (((List.length x0) : Nat) : Int)) = true) (c3 : ¬ decide ((List.getD x0 (Int.toNat s15) (0, 0)).1 ≥ x1) = true) (ih : (turns (hds 32 57478) 1 57478 (evC byref (evCall F S7 (m + 24)) (m + 24) 1 (hds 32) lbl32_0) n (l32_0H x0 x1 x2 s14 ((IntKind.wrap .i64 (s15 + (1)))) b1) (l32_0B x0 x1 x2 s14 ((IntKind.wrap .i64 (s15 + (1)))) b1)).run = some r) : (turns (hds 32 57478) 1 57478 (evC byref (evCall F S7 (m + 24)) (m + 24) 1 (hds 32) lbl32_0) (n + 1) (l32_0H x0 x1 x2 s14 s15 b1) (l32_0B x0 x1 x2 s14 s15 b1)).run = some r := by
  exact turns_step (M.run_of_path _ [true, true, true, false, false, false, false, false, false] _ _ (by kernel_rfl) (all_t c0 (all_t c1 (all_t c2 (all_f c3 (all_f c3 (all_f c3 (all_f c3 (all_f c3 (all_f Bool.false_ne_true all_nil)))))))))) ih
set_option maxHeartbeats 20000000 in
theorem l32_0_w3 (m n : Nat) (x0 : List (Int × Int)) (x1 : Int) (x2 : Int) (s14 : Int) (s15 : Int) (b1 : List (Int × Int)) (c0 : ¬ decide (s15 < s14) = true) : (turns (hds 32 57478) 1 57478 (evC byref (evCall F S7 (m + 24)) (m + 24) 1 (hds 32) lbl32_0) (n + 1) (l32_0H x0 x1 x2 s14 s15 b1) (l32_0B x0 x1 x2 s14 s15 b1)).run = some (.exit 0, [.top, (.d (.int .i64 x1)), (.d (.int .i64 x2)), .top, .top, .top, .top, (.sr 1 0 (List.length b1) 2 none), .top, .top, .top, .top, .top, (.d (.sl (.pair (.int .i64) (.int .i64)) x0)), (.d (.int .i64 s14)), (.d (.int .i64 s15)), (.d (.bool (decide (s15 < s14)))), .top, .top, .top, .top, .top, .top, .top, .top, .top, .top, .top, .top, .top, .top, .top, .top, .top, .top], [(.cells [(.d (.sl (.pair (.int .i64) (.int .i64)) x0))]), (.arr (.pair (.int .i64) (.int .i64)) b1 true)]) := by
  exact turns_last (by simp) (M.run_of_path _ [false] _ _ (by kernel_rfl) (all_f c0 all_nil)) 

set_option maxHeartbeats 20000000 in
theorem l32_0_step (m n : Nat) (ih : ∀ (x0 : List (Int × Int)) (x1 : Int) (x2 : Int) (s14 : Int) (s15 : Int) (b1 : List (Int × Int)) (q : Nat × Int × (List (Int × Int))), l32_0 m n x0 x1 x2 s14 s15 b1 = some q → (turns (hds 32 57478) 1 57478 (evC byref (evCall F S7 (m + 24)) (m + 24) 1 (hds 32) lbl32_0) n (l32_0H x0 x1 x2 s14 s15 b1) (l32_0B x0 x1 x2 s14 s15 b1)).run = some (l32_0E (x0) (x1) (x2) (s14) (q.2.1) (q.2.2) q.1)) (x0 : List (Int × Int)) (x1 : Int) (x2 : Int) (s14 : Int) (s15 : Int) (b1 : List (Int × Int)) (q : Nat × Int × (List (Int × Int))) (h : l32_0 m (n + 1) x0 x1 x2 s14 s15 b1 = some q) : (turns (hds 32 57478) 1 57478 (evC byref (evCall F S7 (m + 24)) (m + 24) 1 (hds 32) lbl32_0) (n + 1) (l32_0H x0 x1 x2 s14 s15 b1) (l32_0B x0 x1 x2 s14 s15 b1)).run = some (l32_0E (x0) (x1) (x2) (s14) (q.2.1) (q.2.2) q.1) := by
  rw [l32_0] at h
  refine ite_cases h (fun c0 h => ?_) (fun c0 h => ?_)
  · skip
    refine ite_cases h (fun c1 h => ?_) (fun c1 h => ?_)
    · skip
      refine ite_cases h (fun c2 h => ?_) (fun c2 h => ?_)
      · skip
        refine ite_cases h (fun c3 h => ?_) (fun c3 h => ?_)
        · skip
          refine ite_cases h (fun c8 h => ?_) (fun c8 h => ?_)
          · skip
            refine ite_cases h (fun c10 h => ?_) (fun c10 h => ?_)
            · skip
              exact l32_0_w0 m n x0 x1 x2 s14 s15 b1 _ c0 c1 c2 c3 c8 c10 (ih _ _ _ _ _ _ q h)
            · skip
              cases h
          · skip
            exact l32_0_w1 m n x0 x1 x2 s14 s15 b1 _ c0 c1 c2 c3 c8 (ih _ _ _ _ _ _ q h)
        · skip
          exact l32_0_w2 m n x0 x1 x2 s14 s15 b1 _ c0 c1 c2 c3 (ih _ _ _ _ _ _ q h)
      · skip
        cases h
    · skip
      cases h
  · skip
    cases h
    exact l32_0_w3 m n x0 x1 x2 s14 s15 b1 c0
set_option maxHeartbeats 20000000 in
theorem l32_0_ok (m : Nat) : ∀ (n : Nat) (x0 : List (Int × Int)) (x1 : Int) (x2 : Int) (s14 : Int) (s15 : Int) (b1 : List (Int × Int)) (q : Nat × Int × (List (Int × Int))), l32_0 m n x0 x1 x2 s14 s15 b1 = some q → (turns (hds 32 57478) 1 57478 (evC byref (evCall F S7 (m + 24)) (m + 24) 1 (hds 32) lbl32_0) n (l32_0H x0 x1 x2 s14 s15 b1) (l32_0B x0 x1 x2 s14 s15 b1)).run = some (l32_0E (x0) (x1) (x2) (s14) (q.2.1) (q.2.2) q.1)
  | 0, x0, x1, x2, s14, s15, b1, q, h => by cases h
  | n + 1, x0, x1, x2, s14, s15, b1, q, h => l32_0_step m n (l32_0_ok m n) x0 x1 x2 s14 s15 b1 q h

def p32 (m : Nat) (x0 : List (Int × Int)) (x1 : Int) (x2 : Int) : Option ((List (Int × Int)) × (List (Int × Int))) :=
  if (Option.isSome (l32_0 m (m + 24) x0 x1 x2 ((((List.length x0) : Nat) : Int)) 0 (([] : List (Int × Int))))) = true then
    some ((List.take (List.length (l32_0R m (m + 24) x0 x1 x2 ((((List.length x0) : Nat) : Int)) 0 (([] : List (Int × Int)))).2.2) (List.drop 0 (l32_0R m (m + 24) x0 x1 x2 ((((List.length x0) : Nat) : Int)) 0 (([] : List (Int × Int)))).2.2)), x0)
  else
    none
set_option maxHeartbeats 20000000 in
theorem p32_ok (m : Nat) (x0 : List (Int × Int)) (x1 : Int) (x2 : Int) (q : (List (Int × Int)) × (List (Int × Int))) (h : p32 m x0 x1 x2 = some q) : ∃ r B1, (evCall F S7 (m + 25) 32 [(.ptr 0 0), (.d (.int .i64 x1)), (.d (.int .i64 x2))] [(.cells [(.d (.sl (.pair (.int .i64) (.int .i64)) x0))])]).run = some (r, B1) ∧ 1 ≤ B1.length ∧ wkR B1 [(.cells [(.d (.sl (.pair (.int .i64) (.int .i64)) q.2))])] r (.d (.sl (.pair (.int .i64) (.int .i64)) q.1)) ∧ wkBs B1 [(.cells [(.d (.sl (.pair (.int .i64) (.int .i64)) q.2))])] 0 [(.cells [(.d (.sl (.pair (.int .i64) (.int .i64)) q.2))])] := by
  unfold p32 at h
  refine ite_cases h (fun c0 h => ?_) (fun c0 h => ?_)
  · skip
    cases h
    refine ⟨(.d (.sl (.pair (.int .i64) (.int .i64)) (List.take (List.length (l32_0R m (m + 24) x0 x1 x2 ((((List.length x0) : Nat) : Int)) 0 (([] : List (Int × Int)))).2.2) (List.drop 0 (l32_0R m (m + 24) x0 x1 x2 ((((List.length x0) : Nat) : Int)) 0 (([] : List (Int × Int)))).2.2)))), [(.cells [(.d (.sl (.pair (.int .i64) (.int .i64)) x0))])], runT_ok (LS := (fun k => if k = 57478 then some (l32_0E x0 x1 x2 (((((List.length x0) : Nat) : Int))) ((l32_0R m (m + 24) x0 x1 x2 ((((List.length x0) : Nat) : Int)) 0 (([] : List (Int × Int)))).2.1) ((l32_0R m (m + 24) x0 x1 x2 ((((List.length x0) : Nat) : Int)) 0 (([] : List (Int × Int)))).2.2) 0) else none)) (fn := fn32) (vis := [(57478, l32_0H x0 x1 x2 ((((List.length x0) : Nat) : Int)) 0 (([] : List (Int × Int))), l32_0B x0 x1 x2 ((((List.length x0) : Nat) : Int)) 0 (([] : List (Int × Int))))]) (by kernel_rfl) rfl (by kernel_rfl) (M.run_of_path _ [true] _ _ (by kernel_rfl) (all_t (show decide ((0 + (List.length (l32_0R m (m + 24) x0 x1 x2 ((((List.length x0) : Nat) : Int)) 0 (([] : List (Int × Int)))).2.2)) ≤ (List.length (l32_0R m (m + 24) x0 x1 x2 ((((List.length x0) : Nat) : Int)) 0 (([] : List (Int × Int)))).2.2)) = true from decide_eq_true (Nat.le_of_eq (Nat.zero_add _))) all_nil)) ?_, by simp, (wkR.one (wkV.one (wk1.eq rfl))), ⟨wkBox.cells (wkL.cons (wk1.eq rfl) wkL.nil), trivial⟩⟩
    intro p hp p2 hq
    rcases List.mem_cons.1 hp with rfl | hp
    · skip
      have h3 := l32_0_ok m (m + 24) x0 x1 x2 ((((List.length x0) : Nat) : Int)) 0 (([] : List (Int × Int))) _ (some_getD (d := l32_0D) c0)
      exact Eq.trans (Eq.mp (by kernel_rfl) h3) hq
    cases hp
  · skip
    cases h

/-- Samples between two times. -/
def betG (l : SL) (lo hi : Int) : SL := l.filter fun x => decide (x.1 ≥ lo) && decide (x.1 ≤ hi)
theorem bet_loop (m : Nat) (l : SL) (lo hi : Int) (hb : l.length ≤ 1000000) : ∀ (n k : Nat) (acc : SL), k ≤ l.length → acc.length ≤ k → l.length - k < n → ∃ s, l32_0 m n l lo hi (l.length : Nat) (k : Nat) acc = some (0, s, acc ++ betG (l.drop k) lo hi)
  | 0, k, acc, _, _, h => by omega
  | n + 1, k, acc, h1, h2, h3 => by
    rw [l32_0]
    by_cases hk : k < l.length
    · have e1 : decide (((k : Nat) : Int) < (((List.length l) : Nat) : Int)) = true := decide_eq_true (by omega)
      have e2 : decide ((0 : Int) ≤ ((k : Nat) : Int)) = true := decide_eq_true (by omega)
      have e7 : IntKind.wrap .i64 (((k : Nat) : Int) + (1)) = ((k + 1 : Nat) : Int) := by rw [wrap_id (by omega) (by omega)]; rfl
      have e4 : decide ((((List.length acc) + 1) * 16) ≤ 70368744177664) = true := decide_eq_true (by omega)
      rw [drop_getD l k (0, 0) hk, Int.toNat_natCast, e7, if_pos e1, if_pos e2, if_pos e1, if_pos e4]
      generalize l.getD k (0, 0) = x
      have go := bet_loop m l lo hi hb n (k + 1)
      by_cases c1 : x.1 ≥ lo
      · by_cases c2 : x.1 ≤ hi
        · rw [if_pos (decide_eq_true c1), if_pos (decide_eq_true c2)]
          obtain ⟨s, hs⟩ := go (acc ++ [x]) (by omega) (by simp; omega) (by omega)
          refine ⟨s, ?_⟩
          rw [hs]
          simp [betG, c1, c2]
        · rw [if_pos (decide_eq_true c1), if_neg (by simpa using c2)]
          obtain ⟨s, hs⟩ := go acc (by omega) (by omega) (by omega)
          refine ⟨s, ?_⟩
          rw [hs]
          simp [betG, c2]
      · rw [if_neg (by simpa using c1)]
        obtain ⟨s, hs⟩ := go acc (by omega) (by omega) (by omega)
        refine ⟨s, ?_⟩
        rw [hs]
        simp [betG, c1]
    · have e1 : decide (((k : Nat) : Int) < (((List.length l) : Nat) : Int)) = false := decide_eq_false (by omega)
      rw [e1, if_neg (by simp), List.drop_eq_nil_of_le (by omega)]
      exact ⟨((k : Nat) : Int), by simp [betG]⟩
theorem bet32 (l : SL) (lo hi : Int) (h : decide (l.length ≤ 1000000) = true) : ∃ m, p32 m l lo hi = some (betG l lo hi, l) := by
  refine ⟨l.length, ?_⟩
  obtain ⟨s, hs⟩ := bet_loop l.length l lo hi (of_decide_eq_true h) (l.length + 24) 0 [] (by omega) (by simp) (by omega)
  simp only [Int.natCast_zero, List.drop_zero, List.nil_append] at hs
  unfold p32 l32_0R
  rw [hs]
  simp
def s32 : List AV → Boxes → M (AV × Boxes) := normS [.ptr, .val (.int .i64), .val (.int .i64)] [(.sl (.pair (.int .i64) (.int .i64)))] fun xs B => match xs, B with
  | [(.ptr 0 0), (.d (.int .i64 c2)), (.d (.int .i64 c3))], [(.cells [(.d (.sl (.pair (.int .i64) (.int .i64)) c1))])] => .chk (decide (List.length c1 ≤ 1000000)) (.ret ((.d (.sl (.pair (.int .i64) (.int .i64)) (betG c1 c2 c3))), [(.cells [(.d (.sl (.pair (.int .i64) (.int .i64)) c1))])]))
  | _, _ => .fail
theorem s32_at : CallAt Try.prog 32 s32 := by
  refine CallAt.norm (CallAt.weakE (g := fun n => evCall F S7 n 32) (fun n => evCall_atH mixed kinds hds S7 S7_ok n 32) fun xs B r' B' hr => ?_) _ _
  split at hr
  · rename_i c2 c3 c1
    obtain ⟨hp, hr⟩ := (M.run_chk _ _ _).1 hr
    simp only [M.run, Option.some.injEq, Prod.mk.injEq] at hr
    obtain ⟨rfl, rfl⟩ := hr
    obtain ⟨m, hm⟩ := bet32 c1 c2 c3 hp
    obtain ⟨r, B1, h1, h2, h3, h4⟩ := p32_ok m c1 c2 c3 _ hm
    exact ⟨m + 25, r, B1, h1, by simp, h2, h3, h4⟩
  · simp [M.run] at hr
noncomputable def S8 : FuncId → Option (List AV → Boxes → M (AV × Boxes)) := fun f => if f = 32 then some s32 else S7 f
set_option maxHeartbeats 20000000 in
theorem S8_ok : ∀ f s, S8 f = some s → CallAt Try.prog f s := by
  intro f s h
  unfold S8 at h
  split at h
  · rename_i e; subst e; cases h; exact s32_at
  · exact S7_ok f s h

noncomputable def fn34 : AFn := (F 34).getD ⟨0, [], .bad, false, false, noHd⟩
noncomputable def body34 : AC := fn34.body
def l34_0 (m : Nat) : Nat → List (Int × Int) → Int → Int → Option (Nat × Int)
  | 0, _, _, _ => none
  | n + 1, x0, x1, s5 => if decide (s5 < (((List.length x0) : Nat) : Int)) = true then
      if decide (0 ≤ s5) = true then
        if decide ((List.getD x0 (Int.toNat s5) (0, 0)).1 < x1) = true then
          l34_0 m n x0 x1 ((IntKind.wrap .i64 (s5 + (1))))
        else
          some (0, s5)
      else
        none
    else
      some (1, s5)
def l34_0D : Nat × Int := (0, 0)
@[reducible] def l34_0R (m n : Nat) (x0 : List (Int × Int)) (x1 : Int) (s5 : Int) : Nat × Int := Option.getD (l34_0 m n x0 x1 s5) l34_0D
def l34_0H (x0 : List (Int × Int)) (x1 : Int) (s5 : Int) : Env := [(.ptr 0 0), (.d (.int .i64 x1)), .top, .top, .top, (.d (.int .i64 s5)), .top, .top, .top, .top, .top, .top, .top, .top, .top, .top, .top, .top, .top, .top, .top, .top, .top, .top, .top, .top, .top, .top, .top, .top, .top, .top, .top, .top, .top, .top, .top, .top]
def l34_0B (x0 : List (Int × Int)) (x1 : Int) (s5 : Int) : Boxes := [(.cells [(.d (.sl (.pair (.int .i64) (.int .i64)) x0))])]
def l34_0E (x0 : List (Int × Int)) (x1 : Int) (s5 : Int) : Nat → AEx × Env × Boxes
  | 0 => (.exit 0, [(.ptr 0 0), (.d (.int .i64 x1)), .top, .top, .top, (.d (.int .i64 s5)), (.d (.int .i64 s5)), (.ptr 0 0), (.ptr 0 0), (.ptr 0 0), (.d (.sl (.pair (.int .i64) (.int .i64)) x0)), (.d (.int .i64 (((List.length x0) : Nat) : Int))), (.d (.bool (decide (s5 < (((List.length x0) : Nat) : Int))))), (.d (.bool (decide (s5 < (((List.length x0) : Nat) : Int))))), (.ptr 0 0), (.ptr 0 0), (.ptr 0 0), (.d (.sl (.pair (.int .i64) (.int .i64)) x0)), (.d (.int .i64 s5)), (.cptr [(.int .i64 (List.getD x0 (Int.toNat s5) (0, 0)).1), (.int .i64 (List.getD x0 (Int.toNat s5) (0, 0)).2)] 0), (.cptr [(.int .i64 (List.getD x0 (Int.toNat s5) (0, 0)).1), (.int .i64 (List.getD x0 (Int.toNat s5) (0, 0)).2)] 0), (.d (.int .i64 (List.getD x0 (Int.toNat s5) (0, 0)).1)), (.d (.int .i64 x1)), (.d (.bool (decide ((List.getD x0 (Int.toNat s5) (0, 0)).1 < x1)))), (.d (.bool (decide ((List.getD x0 (Int.toNat s5) (0, 0)).1 < x1)))), .top, .top, .top, .top, .top, .top, .top, .top, .top, .top, .top, .top, .top], [(.cells [(.d (.sl (.pair (.int .i64) (.int .i64)) x0))])])
  | _ => (.exit 0, [(.ptr 0 0), (.d (.int .i64 x1)), .top, .top, .top, (.d (.int .i64 s5)), (.d (.int .i64 s5)), (.ptr 0 0), (.ptr 0 0), (.ptr 0 0), (.d (.sl (.pair (.int .i64) (.int .i64)) x0)), (.d (.int .i64 (((List.length x0) : Nat) : Int))), (.d (.bool (decide (s5 < (((List.length x0) : Nat) : Int))))), (.d (.bool (decide (s5 < (((List.length x0) : Nat) : Int))))), (.tup []), (.tup []), (.tup []), (.tup []), (.tup []), (.tup []), (.tup []), (.tup []), (.tup []), (.tup []), (.d (.bool false)), .top, .top, .top, .top, .top, .top, .top, .top, .top, .top, .top, .top, .top], [(.cells [(.d (.sl (.pair (.int .i64) (.int .i64)) x0))])])
noncomputable def lbl34_0 : AC := loopBody 35 body34

set_option maxHeartbeats 20000000 in
theorem l34_0_w0 (m n : Nat) (x0 : List (Int × Int)) (x1 : Int) (s5 : Int) (r : AEx × Env × Boxes) (c0 : decide (s5 < (((List.length x0) : Nat) : Int)) = true) (c6 : decide (0 ≤ s5) = true) (c13 : decide ((List.getD x0 (Int.toNat s5) (0, 0)).1 < x1) = true) (ih : (turns (hds 34 35) 1 35 (evC byref (evCall F S8 (m + 24)) (m + 24) 1 (hds 34) lbl34_0) n (l34_0H x0 x1 ((IntKind.wrap .i64 (s5 + (1))))) (l34_0B x0 x1 ((IntKind.wrap .i64 (s5 + (1)))))).run = some r) : (turns (hds 34 35) 1 35 (evC byref (evCall F S8 (m + 24)) (m + 24) 1 (hds 34) lbl34_0) (n + 1) (l34_0H x0 x1 s5) (l34_0B x0 x1 s5)).run = some r := by
  exact turns_step (M.run_of_path _ [true, true, true, true, true, true, true, true, true, true, true, true, true, true] _ _ (by kernel_rfl) (all_t c0 (all_t c0 (all_t c0 (all_t c0 (all_t c0 (all_t c0 (all_t c6 (all_t c0 (all_t c0 (all_t c0 (all_t c0 (all_t c0 (all_t c0 (all_t c13 all_nil))))))))))))))) ih
set_option maxHeartbeats 20000000 in
theorem l34_0_w1 (m n : Nat) (x0 : List (Int × Int)) (x1 : Int) (s5 : Int) (c0 : decide (s5 < (((List.length x0) : Nat) : Int)) = true) (c6 : decide (0 ≤ s5) = true) (c13 : ¬ decide ((List.getD x0 (Int.toNat s5) (0, 0)).1 < x1) = true) : (turns (hds 34 35) 1 35 (evC byref (evCall F S8 (m + 24)) (m + 24) 1 (hds 34) lbl34_0) (n + 1) (l34_0H x0 x1 s5) (l34_0B x0 x1 s5)).run = some (.exit 0, [(.ptr 0 0), (.d (.int .i64 x1)), .top, .top, .top, (.d (.int .i64 s5)), (.d (.int .i64 s5)), (.ptr 0 0), (.ptr 0 0), (.ptr 0 0), (.d (.sl (.pair (.int .i64) (.int .i64)) x0)), (.d (.int .i64 (((List.length x0) : Nat) : Int))), (.d (.bool (decide (s5 < (((List.length x0) : Nat) : Int))))), (.d (.bool (decide (s5 < (((List.length x0) : Nat) : Int))))), (.ptr 0 0), (.ptr 0 0), (.ptr 0 0), (.d (.sl (.pair (.int .i64) (.int .i64)) x0)), (.d (.int .i64 s5)), (.cptr [(.int .i64 (List.getD x0 (Int.toNat s5) (0, 0)).1), (.int .i64 (List.getD x0 (Int.toNat s5) (0, 0)).2)] 0), (.cptr [(.int .i64 (List.getD x0 (Int.toNat s5) (0, 0)).1), (.int .i64 (List.getD x0 (Int.toNat s5) (0, 0)).2)] 0), (.d (.int .i64 (List.getD x0 (Int.toNat s5) (0, 0)).1)), (.d (.int .i64 x1)), (.d (.bool (decide ((List.getD x0 (Int.toNat s5) (0, 0)).1 < x1)))), (.d (.bool (decide ((List.getD x0 (Int.toNat s5) (0, 0)).1 < x1)))), .top, .top, .top, .top, .top, .top, .top, .top, .top, .top, .top, .top, .top], [(.cells [(.d (.sl (.pair (.int .i64) (.int .i64)) x0))])]) := by
  exact turns_last (by simp) (M.run_of_path _ [true, true, true, true, true, true, true, true, true, true, true, true, true, false] _ _ (by kernel_rfl) (all_t c0 (all_t c0 (all_t c0 (all_t c0 (all_t c0 (all_t c0 (all_t c6 (all_t c0 (all_t c0 (all_t c0 (all_t c0 (all_t c0 (all_t c0 (all_f c13 all_nil))))))))))))))) 
set_option maxHeartbeats 20000000 in
theorem l34_0_w2 (m n : Nat) (x0 : List (Int × Int)) (x1 : Int) (s5 : Int) (c0 : ¬ decide (s5 < (((List.length x0) : Nat) : Int)) = true) : (turns (hds 34 35) 1 35 (evC byref (evCall F S8 (m + 24)) (m + 24) 1 (hds 34) lbl34_0) (n + 1) (l34_0H x0 x1 s5) (l34_0B x0 x1 s5)).run = some (.exit 0, [(.ptr 0 0), (.d (.int .i64 x1)), .top, .top, .top, (.d (.int .i64 s5)), (.d (.int .i64 s5)), (.ptr 0 0), (.ptr 0 0), (.ptr 0 0), (.d (.sl (.pair (.int .i64) (.int .i64)) x0)), (.d (.int .i64 (((List.length x0) : Nat) : Int))), (.d (.bool (decide (s5 < (((List.length x0) : Nat) : Int))))), (.d (.bool (decide (s5 < (((List.length x0) : Nat) : Int))))), (.tup []), (.tup []), (.tup []), (.tup []), (.tup []), (.tup []), (.tup []), (.tup []), (.tup []), (.tup []), (.d (.bool false)), .top, .top, .top, .top, .top, .top, .top, .top, .top, .top, .top, .top, .top], [(.cells [(.d (.sl (.pair (.int .i64) (.int .i64)) x0))])]) := by
  exact turns_last (by simp) (M.run_of_path _ [false, false, false, false, false, false, false, false, false, false, false, false] _ _ (by kernel_rfl) (all_f c0 (all_f c0 (all_f c0 (all_f c0 (all_f c0 (all_f c0 (all_f c0 (all_f c0 (all_f c0 (all_f c0 (all_f c0 (all_f Bool.false_ne_true all_nil))))))))))))) 

set_option maxHeartbeats 20000000 in
theorem l34_0_step (m n : Nat) (ih : ∀ (x0 : List (Int × Int)) (x1 : Int) (s5 : Int) (q : Nat × Int), l34_0 m n x0 x1 s5 = some q → (turns (hds 34 35) 1 35 (evC byref (evCall F S8 (m + 24)) (m + 24) 1 (hds 34) lbl34_0) n (l34_0H x0 x1 s5) (l34_0B x0 x1 s5)).run = some (l34_0E (x0) (x1) (q.2) q.1)) (x0 : List (Int × Int)) (x1 : Int) (s5 : Int) (q : Nat × Int) (h : l34_0 m (n + 1) x0 x1 s5 = some q) : (turns (hds 34 35) 1 35 (evC byref (evCall F S8 (m + 24)) (m + 24) 1 (hds 34) lbl34_0) (n + 1) (l34_0H x0 x1 s5) (l34_0B x0 x1 s5)).run = some (l34_0E (x0) (x1) (q.2) q.1) := by
  rw [l34_0] at h
  refine ite_cases h (fun c0 h => ?_) (fun c0 h => ?_)
  · skip
    refine ite_cases h (fun c6 h => ?_) (fun c6 h => ?_)
    · skip
      refine ite_cases h (fun c13 h => ?_) (fun c13 h => ?_)
      · skip
        exact l34_0_w0 m n x0 x1 s5 _ c0 c6 c13 (ih _ _ _ q h)
      · skip
        cases h
        exact l34_0_w1 m n x0 x1 s5 c0 c6 c13
    · skip
      cases h
  · skip
    cases h
    exact l34_0_w2 m n x0 x1 s5 c0
set_option maxHeartbeats 20000000 in
theorem l34_0_ok (m : Nat) : ∀ (n : Nat) (x0 : List (Int × Int)) (x1 : Int) (s5 : Int) (q : Nat × Int), l34_0 m n x0 x1 s5 = some q → (turns (hds 34 35) 1 35 (evC byref (evCall F S8 (m + 24)) (m + 24) 1 (hds 34) lbl34_0) n (l34_0H x0 x1 s5) (l34_0B x0 x1 s5)).run = some (l34_0E (x0) (x1) (q.2) q.1)
  | 0, x0, x1, s5, q, h => by cases h
  | n + 1, x0, x1, s5, q, h => l34_0_step m n (l34_0_ok m n) x0 x1 s5 q h

def p34 (m : Nat) (x0 : List (Int × Int)) (x1 : Int) : Option (Int × (List (Int × Int))) :=
  if (Option.isSome (l34_0 m (m + 24) x0 x1 0)) = true then
    if ((l34_0R m (m + 24) x0 x1 0).1 == 0) = true then
      if (decide (0 ≤ (l34_0R m (m + 24) x0 x1 0).2) && decide ((l34_0R m (m + 24) x0 x1 0).2 ≤ (((List.length x0) : Nat) : Int))) = true then
        if decide (((List.length (List.drop (Int.toNat (l34_0R m (m + 24) x0 x1 0).2) (List.take (List.length x0) x0))) * 16) ≤ 70368744177664) = true then
          some ((l34_0R m (m + 24) x0 x1 0).2, (List.drop (Int.toNat (l34_0R m (m + 24) x0 x1 0).2) (List.take (List.length x0) x0)))
        else
          none
      else
        none
    else
      if ((l34_0R m (m + 24) x0 x1 0).1 == 1) = true then
        if (decide (0 ≤ (l34_0R m (m + 24) x0 x1 0).2) && decide ((l34_0R m (m + 24) x0 x1 0).2 ≤ (((List.length x0) : Nat) : Int))) = true then
          if decide (((List.length (List.drop (Int.toNat (l34_0R m (m + 24) x0 x1 0).2) (List.take (List.length x0) x0))) * 16) ≤ 70368744177664) = true then
            some ((l34_0R m (m + 24) x0 x1 0).2, (List.drop (Int.toNat (l34_0R m (m + 24) x0 x1 0).2) (List.take (List.length x0) x0)))
          else
            none
        else
          none
      else
        none
  else
    none
set_option maxHeartbeats 20000000 in
theorem p34_ok (m : Nat) (x0 : List (Int × Int)) (x1 : Int) (q : Int × (List (Int × Int))) (h : p34 m x0 x1 = some q) : ∃ r B1, (evCall F S8 (m + 25) 34 [(.ptr 0 0), (.d (.int .i64 x1))] [(.cells [(.d (.sl (.pair (.int .i64) (.int .i64)) x0))])]).run = some (r, B1) ∧ 1 ≤ B1.length ∧ wkR B1 [(.cells [(.d (.sl (.pair (.int .i64) (.int .i64)) q.2))])] r (.d (.int .i64 q.1)) ∧ wkBs B1 [(.cells [(.d (.sl (.pair (.int .i64) (.int .i64)) q.2))])] 0 [(.cells [(.d (.sl (.pair (.int .i64) (.int .i64)) q.2))])] := by
  unfold p34 at h
  refine ite_cases h (fun c0 h => ?_) (fun c0 h => ?_)
  · skip
    refine ite_cases h (fun c1 h => ?_) (fun c1 h => ?_)
    · skip
      refine ite_cases h (fun c2 h => ?_) (fun c2 h => ?_)
      · skip
        refine ite_cases h (fun c3 h => ?_) (fun c3 h => ?_)
        · skip
          cases h
          refine ⟨(.d (.int .i64 (l34_0R m (m + 24) x0 x1 0).2)), [(.cells [(.sr 1 0 (List.length (List.drop (Int.toNat (l34_0R m (m + 24) x0 x1 0).2) (List.take (List.length x0) x0))) 2 none)]), (.arr (.pair (.int .i64) (.int .i64)) (List.drop (Int.toNat (l34_0R m (m + 24) x0 x1 0).2) (List.take (List.length x0) x0)) true)], runT_ok (LS := (fun k => if k = 35 then some (l34_0E x0 x1 ((l34_0R m (m + 24) x0 x1 0).2) 0) else none)) (fn := fn34) (vis := [(35, l34_0H x0 x1 0, l34_0B x0 x1 0)]) (by kernel_rfl) rfl (by kernel_rfl) (M.run_of_path _ [true, true] _ _ (by kernel_rfl) (all_t c2 (all_t c3 all_nil))) ?_, by simp, (wkR.one (wkV.one (wk1.eq rfl))), ⟨wkBox.cells (wkL.cons (wk1.whole rfl (by simp) rfl) wkL.nil), trivial⟩⟩
          intro p hp p2 hq
          rcases List.mem_cons.1 hp with rfl | hp
          · skip
            have h3 := l34_0_ok m (m + 24) x0 x1 0 _ (some_getD (d := l34_0D) c0)
            rw [eq_of_beq c1] at h3
            exact Eq.trans (Eq.mp (by kernel_rfl) h3) hq
          cases hp
        · skip
          cases h
      · skip
        cases h
    · skip
      refine ite_cases h (fun c2 h => ?_) (fun c2 h => ?_)
      · skip
        refine ite_cases h (fun c3 h => ?_) (fun c3 h => ?_)
        · skip
          refine ite_cases h (fun c4 h => ?_) (fun c4 h => ?_)
          · skip
            cases h
            refine ⟨(.d (.int .i64 (l34_0R m (m + 24) x0 x1 0).2)), [(.cells [(.sr 1 0 (List.length (List.drop (Int.toNat (l34_0R m (m + 24) x0 x1 0).2) (List.take (List.length x0) x0))) 2 none)]), (.arr (.pair (.int .i64) (.int .i64)) (List.drop (Int.toNat (l34_0R m (m + 24) x0 x1 0).2) (List.take (List.length x0) x0)) true)], runT_ok (LS := (fun k => if k = 35 then some (l34_0E x0 x1 ((l34_0R m (m + 24) x0 x1 0).2) 1) else none)) (fn := fn34) (vis := [(35, l34_0H x0 x1 0, l34_0B x0 x1 0)]) (by kernel_rfl) rfl (by kernel_rfl) (M.run_of_path _ [true, true] _ _ (by kernel_rfl) (all_t c3 (all_t c4 all_nil))) ?_, by simp, (wkR.one (wkV.one (wk1.eq rfl))), ⟨wkBox.cells (wkL.cons (wk1.whole rfl (by simp) rfl) wkL.nil), trivial⟩⟩
            intro p hp p2 hq
            rcases List.mem_cons.1 hp with rfl | hp
            · skip
              have h3 := l34_0_ok m (m + 24) x0 x1 0 _ (some_getD (d := l34_0D) c0)
              rw [eq_of_beq c2] at h3
              exact Eq.trans (Eq.mp (by kernel_rfl) h3) hq
            cases hp
          · skip
            cases h
        · skip
          cases h
      · skip
        cases h
  · skip
    cases h

/-- How many samples are before a time. -/
def cutN (l : SL) (b : Int) : Nat := uptoG l (b - 1)
theorem cut_loop (m : Nat) (l : SL) (b : Int) (hb : l.length ≤ 1000000) : ∀ (n k : Nat), k ≤ l.length → l.length - k < n → ∃ e, l34_0 m n l b (k : Nat) = some (e, ((k + cutN (l.drop k) b : Nat) : Int)) ∧ (e = 0 ∨ e = 1)
  | 0, k, _, h => by omega
  | n + 1, k, h1, h2 => by
    rw [l34_0]
    by_cases hk : k < l.length
    · have e1 : decide (((k : Nat) : Int) < (((List.length l) : Nat) : Int)) = true := decide_eq_true (by omega)
      have e2 : decide ((0 : Int) ≤ ((k : Nat) : Int)) = true := decide_eq_true (by omega)
      have e7 : IntKind.wrap .i64 (((k : Nat) : Int) + (1)) = ((k + 1 : Nat) : Int) := by rw [wrap_id (by omega) (by omega)]; rfl
      rw [drop_getD l k (0, 0) hk, Int.toNat_natCast, e7, if_pos e1, if_pos e2]
      generalize l.getD k (0, 0) = x
      unfold cutN
      by_cases hc : x.1 < b
      · obtain ⟨e, hr, he⟩ := cut_loop m l b hb n (k + 1) (by omega) (by omega)
        refine ⟨e, ?_, he⟩
        rw [if_pos (decide_eq_true hc), hr, upto_cons, if_pos (by omega)]
        unfold cutN
        rw [show k + 1 + uptoG (l.drop (k + 1)) (b - 1) = k + (uptoG (l.drop (k + 1)) (b - 1) + 1) by omega]
      · refine ⟨0, ?_, .inl rfl⟩
        rw [if_neg (by simpa using hc), upto_cons, if_neg (by omega)]
        rfl
    · have e1 : decide (((k : Nat) : Int) < (((List.length l) : Nat) : Int)) = false := decide_eq_false (by omega)
      rw [e1, if_neg (by simp), List.drop_eq_nil_of_le (by omega)]
      exact ⟨1, rfl, .inr rfl⟩
theorem cut34 (l : SL) (b : Int) (h : decide (l.length ≤ 1000000) = true) : ∃ m, p34 m l b = some (((cutN l b : Nat) : Int), l.drop (cutN l b)) := by
  have h := of_decide_eq_true h
  refine ⟨l.length, ?_⟩
  obtain ⟨e, hr, he⟩ := cut_loop l.length l b h (l.length + 24) 0 (by omega) (by omega)
  simp only [Int.natCast_zero, List.drop_zero, Nat.zero_add] at hr
  have hle : cutN l b ≤ l.length := upto_le l _
  unfold p34 l34_0R
  rw [hr]
  generalize cutN l b = k at hle
  have e1 : (decide ((0 : Int) ≤ ((k : Nat) : Int)) && decide (((k : Nat) : Int) ≤ (((List.length l) : Nat) : Int))) = true := by simp; omega
  have e2 : decide (((List.length (List.drop (Int.toNat ((k : Nat) : Int)) (List.take (List.length l) l))) * 16) ≤ 70368744177664) = true := decide_eq_true (by simp; omega)
  rcases he with rfl | rfl
  · simp only [e1, e2, Option.isSome_some, Option.getD_some, ↓reduceIte, beq_self_eq_true]
    simp
  · simp only [e1, e2, Option.isSome_some, Option.getD_some, ↓reduceIte, beq_self_eq_true]
    simp
def s34 : List AV → Boxes → M (AV × Boxes) := normS [.ptr, .val (.int .i64)] [(.sl (.pair (.int .i64) (.int .i64)))] fun xs B => match xs, B with
  | [(.ptr 0 0), (.d (.int .i64 c2))], [(.cells [(.d (.sl (.pair (.int .i64) (.int .i64)) c1))])] => .chk (decide (List.length c1 ≤ 1000000)) (.ret ((.d (.int .i64 ((cutN c1 c2 : Nat) : Int))), [(.cells [(.d (.sl (.pair (.int .i64) (.int .i64)) (List.drop (cutN c1 c2) c1)))])]))
  | _, _ => .fail
theorem s34_at : CallAt Try.prog 34 s34 := by
  refine CallAt.norm (CallAt.weakE (g := fun n => evCall F S8 n 34) (fun n => evCall_atH mixed kinds hds S8 S8_ok n 34) fun xs B r' B' hr => ?_) _ _
  split at hr
  · rename_i c2 c1
    obtain ⟨hp, hr⟩ := (M.run_chk _ _ _).1 hr
    simp only [M.run, Option.some.injEq, Prod.mk.injEq] at hr
    obtain ⟨rfl, rfl⟩ := hr
    obtain ⟨m, hm⟩ := cut34 c1 c2 hp
    obtain ⟨r, B1, h1, h2, h3, h4⟩ := p34_ok m c1 c2 _ hm
    exact ⟨m + 25, r, B1, h1, by simp, h2, h3, h4⟩
  · simp [M.run] at hr
noncomputable def S9 : FuncId → Option (List AV → Boxes → M (AV × Boxes)) := fun f => if f = 34 then some s34 else S8 f
set_option maxHeartbeats 20000000 in
theorem S9_ok : ∀ f s, S9 f = some s → CallAt Try.prog f s := by
  intro f s h
  unfold S9 at h
  split at h
  · rename_i e; subst e; cases h; exact s34_at
  · exact S8_ok f s h

noncomputable def fn35 : AFn := (F 35).getD ⟨0, [], .bad, false, false, noHd⟩
noncomputable def body35 : AC := fn35.body
def p35 (m : Nat) (x0 : List (Int × Int)) : Option ((List (Int × Int)) × (List (Int × Int))) :=
  if decide (((List.length x0) * 16) ≤ 70368744177664) = true then
    some ((List.take (List.length x0) (List.drop 0 x0)), x0)
  else
    none
set_option maxHeartbeats 20000000 in
theorem p35_ok (m : Nat) (x0 : List (Int × Int)) (q : (List (Int × Int)) × (List (Int × Int))) (h : p35 m x0 = some q) : ∃ r B1, (evCall F S9 (m + 25) 35 [(.ptr 0 0)] [(.cells [(.d (.sl (.pair (.int .i64) (.int .i64)) x0))])]).run = some (r, B1) ∧ 1 ≤ B1.length ∧ wkR B1 [(.cells [(.d (.sl (.pair (.int .i64) (.int .i64)) q.2))])] r (.d (.sl (.pair (.int .i64) (.int .i64)) q.1)) ∧ wkBs B1 [(.cells [(.d (.sl (.pair (.int .i64) (.int .i64)) q.2))])] 0 [(.cells [(.d (.sl (.pair (.int .i64) (.int .i64)) q.2))])] := by
  unfold p35 at h
  refine ite_cases h (fun c0 h => ?_) (fun c0 h => ?_)
  · skip
    cases h
    refine ⟨(.d (.sl (.pair (.int .i64) (.int .i64)) (List.take (List.length x0) (List.drop 0 x0)))), [(.cells [(.d (.sl (.pair (.int .i64) (.int .i64)) x0))])], runT_ok (LS := (fun k => none)) (fn := fn35) (vis := []) (by kernel_rfl) rfl (by kernel_rfl) (M.run_of_path _ [true, true] _ _ (by kernel_rfl) (all_t c0 (all_t (show decide ((0 + (List.length x0)) ≤ (List.length x0)) = true from decide_eq_true (Nat.le_of_eq (Nat.zero_add _))) all_nil))) ?_, by simp, (wkR.one (wkV.one (wk1.eq rfl))), ⟨wkBox.cells (wkL.cons (wk1.eq rfl) wkL.nil), trivial⟩⟩
    intro p hp; cases hp
  · skip
    cases h

theorem all35 (l : SL) (h : decide (l.length ≤ 1000000) = true) : ∃ m, p35 m l = some (l, l) := by
  have h := of_decide_eq_true h
  refine ⟨0, ?_⟩
  have e1 : decide (((List.length l) * 16) ≤ 70368744177664) = true := decide_eq_true (by omega)
  unfold p35
  rw [if_pos e1]
  simp
def s35 : List AV → Boxes → M (AV × Boxes) := normS [.ptr] [(.sl (.pair (.int .i64) (.int .i64)))] fun xs B => match xs, B with
  | [(.ptr 0 0)], [(.cells [(.d (.sl (.pair (.int .i64) (.int .i64)) c1))])] => .chk (decide (List.length c1 ≤ 1000000)) (.ret ((.d (.sl (.pair (.int .i64) (.int .i64)) c1)), [(.cells [(.d (.sl (.pair (.int .i64) (.int .i64)) c1))])]))
  | _, _ => .fail
theorem s35_at : CallAt Try.prog 35 s35 := by
  refine CallAt.norm (CallAt.weakE (g := fun n => evCall F S9 n 35) (fun n => evCall_atH mixed kinds hds S9 S9_ok n 35) fun xs B r' B' hr => ?_) _ _
  split at hr
  · rename_i c1
    obtain ⟨hp, hr⟩ := (M.run_chk _ _ _).1 hr
    simp only [M.run, Option.some.injEq, Prod.mk.injEq] at hr
    obtain ⟨rfl, rfl⟩ := hr
    obtain ⟨m, hm⟩ := all35 c1 hp
    obtain ⟨r, B1, h1, h2, h3, h4⟩ := p35_ok m c1 _ hm
    exact ⟨m + 25, r, B1, h1, by simp, h2, h3, h4⟩
  · simp [M.run] at hr
noncomputable def S10 : FuncId → Option (List AV → Boxes → M (AV × Boxes)) := fun f => if f = 35 then some s35 else S9 f
set_option maxHeartbeats 20000000 in
theorem S10_ok : ∀ f s, S10 f = some s → CallAt Try.prog f s := by
  intro f s h
  unfold S10 at h
  split at h
  · rename_i e; subst e; cases h; exact s35_at
  · exact S9_ok f s h

end Go.Proofs.Ytkppbflmlpabjab.Dec
