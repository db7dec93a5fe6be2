/- Roomy, Intact. MatchTells, as a plain function. MatchTells: its plain law. -/
import Derived.Test.YtghkbjflejgieaaDoorQT7
import Derived.KernelRfl
namespace Go.Proofs.YtghkbjflejgieaaDoor.Dec
open Go.Ev
set_option linter.unusedVariables false
set_option linter.unusedSimpArgs false
set_option maxRecDepth 100000
noncomputable def fn24 : AFn := (F 24).getD ⟨0, [], .bad, false, false, noHd⟩
noncomputable def body24 : AC := fn24.body
def l24_0 (m : Nat) : Nat → (List UInt8) × (List UInt8) × Int → Int → List ((List UInt8) × (List UInt8) × Int) → Option (Nat × Int × (List ((List UInt8) × (List UInt8) × Int)))
  | 0, _, _, _ => none
  | n + 1, x1, s6, b1 => if decide (s6 < (((List.length b1) : Nat) : Int)) = true then
      if decide (0 ≤ s6) = true then
        if decide ((0 + (Int.toNat s6)) < (List.length b1)) = true then
          l24_0 m n x1 ((IntKind.wrap .i64 (s6 + (1)))) ((List.set b1 (0 + (Int.toNat s6)) x1))
        else
          none
      else
        none
    else
      some (0, s6, b1)
def l24_0D : Nat × Int × (List ((List UInt8) × (List UInt8) × Int)) := (0, 0, [])
@[reducible] def l24_0R (m n : Nat) (x1 : (List UInt8) × (List UInt8) × Int) (s6 : Int) (b1 : List ((List UInt8) × (List UInt8) × Int)) : Nat × Int × (List ((List UInt8) × (List UInt8) × Int)) := Option.getD (l24_0 m n x1 s6 b1) l24_0D
def l24_0H (x1 : (List UInt8) × (List UInt8) × Int) (s6 : Int) (b1 : List ((List UInt8) × (List UInt8) × Int)) : Env := [.top, .top, .top, (.ptr 0 0), .top, (.sr 1 0 (List.length b1) 3 none), (.d (.int .i64 s6)), .top, .top, .top, .top, .top, .top, .top, .top, .top, .top, .top, .top, .top, .top, .top, .top, .top, .top, .top, .top]
def l24_0B (x1 : (List UInt8) × (List UInt8) × Int) (s6 : Int) (b1 : List ((List UInt8) × (List UInt8) × Int)) : Boxes := [(.cells [(.d (.str x1.1)), (.d (.str x1.2.1)), (.d (.int .i64 x1.2.2))]), (.arr (.pair .str (.pair .str (.int .i64))) b1 true)]
def l24_0E (x1 : (List UInt8) × (List UInt8) × Int) (s6 : Int) (b1 : List ((List UInt8) × (List UInt8) × Int)) : Nat → AEx × Env × Boxes
  | _ => (.exit 0, [.top, .top, .top, (.ptr 0 0), .top, (.sr 1 0 (List.length b1) 3 none), (.d (.int .i64 s6)), .top, .top, .top, .top, .top, .top, .top, .top, .top, (.d (.int .i64 s6)), (.sr 1 0 (List.length b1) 3 none), (.d (.int .i64 (((List.length b1) : Nat) : Int))), (.d (.bool (decide (s6 < (((List.length b1) : Nat) : Int))))), .top, .top, .top, .top, .top, .top, .top], [(.cells [(.d (.str x1.1)), (.d (.str x1.2.1)), (.d (.int .i64 x1.2.2))]), (.arr (.pair .str (.pair .str (.int .i64))) b1 true)])
noncomputable def lbl24_0 : AC := loopBody 104 body24

set_option maxHeartbeats 20000000 in
theorem l24_0_w0 (m n : Nat) (x1 : (List UInt8) × (List UInt8) × Int) (s6 : Int) (b1 : List ((List UInt8) × (List UInt8) × Int)) (r : AEx × Env × Boxes) (c0 : decide (s6 < (((List.length b1) : Nat) : Int)) = true) (c1 : decide (0 ≤ s6) = true) (c3 : decide ((0 + (Int.toNat s6)) < (List.length b1)) = true) (ih : (turns (hds 24 104) 0 104 (evC byref (evCall F S19 (m + 24)) (m + 24) 0 (hds 24) lbl24_0) n (l24_0H x1 ((IntKind.wrap .i64 (s6 + (1)))) ((List.set b1 (0 + (Int.toNat s6)) x1))) (l24_0B x1 ((IntKind.wrap .i64 (s6 + (1)))) ((List.set b1 (0 + (Int.toNat s6)) x1)))).run = some r) : (turns (hds 24 104) 0 104 (evC byref (evCall F S19 (m + 24)) (m + 24) 0 (hds 24) lbl24_0) (n + 1) (l24_0H x1 s6 b1) (l24_0B x1 s6 b1)).run = some r := by
  have ht : (turn (hds 24 104) 0 104 (evC byref (evCall F S19 (m + 24)) (m + 24) 0 (hds 24) lbl24_0) (l24_0H x1 s6 b1) (l24_0B x1 s6 b1)).run = some (.normal, [.top, .top, .top, (.ptr 0 0), .top, (.sr 1 0 (List.length b1) 3 none), (.d (.int .i64 (IntKind.wrap .i64 (s6 + (1))))), .top, .top, .top, .top, .top, .top, .top, .top, .top, .top, .top, .top, .top, .top, .top, .top, .top, .top, .top, .top], [(.cells [(.d (.str x1.1)), (.d (.str x1.2.1)), (.d (.int .i64 x1.2.2))]), (.arr (.pair .str (.pair .str (.int .i64))) (List.set b1 (0 + (Int.toNat s6)) x1) true)]) := M.run_of_path _ [true, true, true, true] _ _ (by kernel_rfl) (all_t c0 (all_t c1 (all_t c0 (all_t c3 all_nil))))
  refine turns_step ht (turns_eq ?_ ?_ ih)
  · unfold l24_0H
    first | (simp; done) | (simp [Nat.add_assoc]; done)
  · unfold l24_0B
    simp
set_option maxHeartbeats 20000000 in
theorem l24_0_w1 (m n : Nat) (x1 : (List UInt8) × (List UInt8) × Int) (s6 : Int) (b1 : List ((List UInt8) × (List UInt8) × Int)) (c0 : ¬ decide (s6 < (((List.length b1) : Nat) : Int)) = true) : (turns (hds 24 104) 0 104 (evC byref (evCall F S19 (m + 24)) (m + 24) 0 (hds 24) lbl24_0) (n + 1) (l24_0H x1 s6 b1) (l24_0B x1 s6 b1)).run = some (.exit 0, [.top, .top, .top, (.ptr 0 0), .top, (.sr 1 0 (List.length b1) 3 none), (.d (.int .i64 s6)), .top, .top, .top, .top, .top, .top, .top, .top, .top, (.d (.int .i64 s6)), (.sr 1 0 (List.length b1) 3 none), (.d (.int .i64 (((List.length b1) : Nat) : Int))), (.d (.bool (decide (s6 < (((List.length b1) : Nat) : Int))))), .top, .top, .top, .top, .top, .top, .top], [(.cells [(.d (.str x1.1)), (.d (.str x1.2.1)), (.d (.int .i64 x1.2.2))]), (.arr (.pair .str (.pair .str (.int .i64))) b1 true)]) := by
  exact turns_last (by simp) (M.run_of_path _ [false] _ _ (by kernel_rfl) (all_f c0 all_nil)) 

set_option maxHeartbeats 20000000 in
theorem l24_0_step (m n : Nat) (ih : ∀ (x1 : (List UInt8) × (List UInt8) × Int) (s6 : Int) (b1 : List ((List UInt8) × (List UInt8) × Int)) (q : Nat × Int × (List ((List UInt8) × (List UInt8) × Int))), l24_0 m n x1 s6 b1 = some q → (turns (hds 24 104) 0 104 (evC byref (evCall F S19 (m + 24)) (m + 24) 0 (hds 24) lbl24_0) n (l24_0H x1 s6 b1) (l24_0B x1 s6 b1)).run = some (l24_0E (x1) (q.2.1) (q.2.2) q.1)) (x1 : (List UInt8) × (List UInt8) × Int) (s6 : Int) (b1 : List ((List UInt8) × (List UInt8) × Int)) (q : Nat × Int × (List ((List UInt8) × (List UInt8) × Int))) (h : l24_0 m (n + 1) x1 s6 b1 = some q) : (turns (hds 24 104) 0 104 (evC byref (evCall F S19 (m + 24)) (m + 24) 0 (hds 24) lbl24_0) (n + 1) (l24_0H x1 s6 b1) (l24_0B x1 s6 b1)).run = some (l24_0E (x1) (q.2.1) (q.2.2) q.1) := by
  rw [l24_0] at h
  refine ite_cases h (fun c0 h => ?_) (fun c0 h => ?_)
  · skip
    refine ite_cases h (fun c1 h => ?_) (fun c1 h => ?_)
    · skip
      refine ite_cases h (fun c3 h => ?_) (fun c3 h => ?_)
      · skip
        exact l24_0_w0 m n x1 s6 b1 _ c0 c1 c3 (ih _ _ _ q h)
      · skip
        cases h
    · skip
      cases h
  · skip
    cases h
    exact l24_0_w1 m n x1 s6 b1 c0
set_option maxHeartbeats 20000000 in
theorem l24_0_ok (m : Nat) : ∀ (n : Nat) (x1 : (List UInt8) × (List UInt8) × Int) (s6 : Int) (b1 : List ((List UInt8) × (List UInt8) × Int)) (q : Nat × Int × (List ((List UInt8) × (List UInt8) × Int))), l24_0 m n x1 s6 b1 = some q → (turns (hds 24 104) 0 104 (evC byref (evCall F S19 (m + 24)) (m + 24) 0 (hds 24) lbl24_0) n (l24_0H x1 s6 b1) (l24_0B x1 s6 b1)).run = some (l24_0E (x1) (q.2.1) (q.2.2) q.1)
  | 0, x1, s6, b1, q, h => by cases h
  | n + 1, x1, s6, b1, q, h => l24_0_step m n (l24_0_ok m n) x1 s6 b1 q h

def p24 (m : Nat) (x0 : List ((List UInt8) × (List UInt8) × Int)) (x1 : (List UInt8) × (List UInt8) × Int) : Option ((List ((List UInt8) × (List UInt8) × Int))) :=
  if (decide (0 ≤ (IntKind.wrap .i64 ((((List.length x0) : Nat) : Int) + (80)))) && decide ((IntKind.wrap .i64 ((((List.length x0) : Nat) : Int) + (80))) ≤ (IntKind.wrap .i64 ((((List.length x0) : Nat) : Int) + (80))))) = true then
    if (decide (((IntKind.wrap .i64 ((((List.length x0) : Nat) : Int) + (80))) * 40) ≤ 70368744177664) && decide ((IntKind.wrap .i64 ((((List.length x0) : Nat) : Int) + (80))) ≤ 70368744177664)) = true then
      if decide (0 ≤ (List.length (List.replicate (Int.toNat (IntKind.wrap .i64 ((((List.length x0) : Nat) : Int) + (80)))) (([] : List UInt8), (([] : List UInt8), 0))))) = true then
        if decide ((min (List.length x0) (Int.toNat (IntKind.wrap .i64 ((((List.length x0) : Nat) : Int) + (80))))) ≤ (List.length x0)) = true then
          if (Option.isSome (l24_0 m (m + 24) x1 ((((List.length x0) : Nat) : Int)) ((splice (List.replicate (Int.toNat (IntKind.wrap .i64 ((((List.length x0) : Nat) : Int) + (80)))) (([] : List UInt8), (([] : List UInt8), 0))) 0 (List.take (min (List.length x0) (Int.toNat (IntKind.wrap .i64 ((((List.length x0) : Nat) : Int) + (80))))) x0))))) = true then
            some ((List.take (List.length (l24_0R m (m + 24) x1 ((((List.length x0) : Nat) : Int)) ((splice (List.replicate (Int.toNat (IntKind.wrap .i64 ((((List.length x0) : Nat) : Int) + (80)))) (([] : List UInt8), (([] : List UInt8), 0))) 0 (List.take (min (List.length x0) (Int.toNat (IntKind.wrap .i64 ((((List.length x0) : Nat) : Int) + (80))))) x0)))).2.2) (List.drop 0 (l24_0R m (m + 24) x1 ((((List.length x0) : Nat) : Int)) ((splice (List.replicate (Int.toNat (IntKind.wrap .i64 ((((List.length x0) : Nat) : Int) + (80)))) (([] : List UInt8), (([] : List UInt8), 0))) 0 (List.take (min (List.length x0) (Int.toNat (IntKind.wrap .i64 ((((List.length x0) : Nat) : Int) + (80))))) x0)))).2.2)))
          else
            none
        else
          none
      else
        none
    else
      none
  else
    none
set_option maxHeartbeats 20000000 in
theorem p24_ok (m : Nat) (x0 : List ((List UInt8) × (List UInt8) × Int)) (x1 : (List UInt8) × (List UInt8) × Int) (q : (List ((List UInt8) × (List UInt8) × Int))) (h : p24 m x0 x1 = some q) : ∃ r B1, (evCall F S19 (m + 25) 24 [(.d (.sl (.pair .str (.pair .str (.int .i64))) x0)), (.agg [(.d (.str x1.1)), (.d (.str x1.2.1)), (.d (.int .i64 x1.2.2))])] []).run = some (r, B1) ∧ 0 ≤ B1.length ∧ wkR B1 [] r (.d (.sl (.pair .str (.pair .str (.int .i64))) q)) ∧ wkBs B1 [] 0 [] := by
  unfold p24 at h
  refine ite_cases h (fun c0 h => ?_) (fun c0 h => ?_)
  · skip
    refine ite_cases h (fun c1 h => ?_) (fun c1 h => ?_)
    · skip
      refine ite_cases h (fun c2 h => ?_) (fun c2 h => ?_)
      · skip
        refine ite_cases h (fun c3 h => ?_) (fun c3 h => ?_)
        · skip
          refine ite_cases h (fun c4 h => ?_) (fun c4 h => ?_)
          · skip
            cases h
            refine ⟨(.d (.sl (.pair .str (.pair .str (.int .i64))) (List.take (List.length (l24_0R m (m + 24) x1 ((((List.length x0) : Nat) : Int)) ((splice (List.replicate (Int.toNat (IntKind.wrap .i64 ((((List.length x0) : Nat) : Int) + (80)))) (([] : List UInt8), (([] : List UInt8), 0))) 0 (List.take (min (List.length x0) (Int.toNat (IntKind.wrap .i64 ((((List.length x0) : Nat) : Int) + (80))))) x0)))).2.2) (List.drop 0 (l24_0R m (m + 24) x1 ((((List.length x0) : Nat) : Int)) ((splice (List.replicate (Int.toNat (IntKind.wrap .i64 ((((List.length x0) : Nat) : Int) + (80)))) (([] : List UInt8), (([] : List UInt8), 0))) 0 (List.take (min (List.length x0) (Int.toNat (IntKind.wrap .i64 ((((List.length x0) : Nat) : Int) + (80))))) x0)))).2.2)))), [], runT_ok (LS := (fun k => if k = 104 then some (l24_0E x1 ((l24_0R m (m + 24) x1 ((((List.length x0) : Nat) : Int)) ((splice (List.replicate (Int.toNat (IntKind.wrap .i64 ((((List.length x0) : Nat) : Int) + (80)))) (([] : List UInt8), (([] : List UInt8), 0))) 0 (List.take (min (List.length x0) (Int.toNat (IntKind.wrap .i64 ((((List.length x0) : Nat) : Int) + (80))))) x0)))).2.1) ((l24_0R m (m + 24) x1 ((((List.length x0) : Nat) : Int)) ((splice (List.replicate (Int.toNat (IntKind.wrap .i64 ((((List.length x0) : Nat) : Int) + (80)))) (([] : List UInt8), (([] : List UInt8), 0))) 0 (List.take (min (List.length x0) (Int.toNat (IntKind.wrap .i64 ((((List.length x0) : Nat) : Int) + (80))))) x0)))).2.2) 0) else none)) (fn := fn24) (vis := [(104, [.top, .top, .top, (.ptr 0 0), .top, (.sr 1 0 (Int.toNat (IntKind.wrap .i64 ((((List.length x0) : Nat) : Int) + (80)))) 3 none), (.d (.int .i64 (((List.length x0) : Nat) : Int))), .top, .top, .top, .top, .top, .top, .top, .top, .top, .top, .top, .top, .top, .top, .top, .top, .top, .top, .top, .top], [(.cells [(.d (.str x1.1)), (.d (.str x1.2.1)), (.d (.int .i64 x1.2.2))]), (.arr (.pair .str (.pair .str (.int .i64))) (splice (List.replicate (Int.toNat (IntKind.wrap .i64 ((((List.length x0) : Nat) : Int) + (80)))) (([] : List UInt8), (([] : List UInt8), 0))) 0 (List.take (min (List.length x0) (Int.toNat (IntKind.wrap .i64 ((((List.length x0) : Nat) : Int) + (80))))) x0)) true)])]) (by kernel_rfl) rfl (by kernel_rfl) (M.run_of_path _ [true, true, true, true, true] _ _ (by kernel_rfl) (all_t c0 (all_t c1 (all_t c2 (all_t c3 (all_t (show decide ((0 + (List.length (l24_0R m (m + 24) x1 ((((List.length x0) : Nat) : Int)) ((splice (List.replicate (Int.toNat (IntKind.wrap .i64 ((((List.length x0) : Nat) : Int) + (80)))) (([] : List UInt8), (([] : List UInt8), 0))) 0 (List.take (min (List.length x0) (Int.toNat (IntKind.wrap .i64 ((((List.length x0) : Nat) : Int) + (80))))) x0)))).2.2)) ≤ (List.length (l24_0R m (m + 24) x1 ((((List.length x0) : Nat) : Int)) ((splice (List.replicate (Int.toNat (IntKind.wrap .i64 ((((List.length x0) : Nat) : Int) + (80)))) (([] : List UInt8), (([] : List UInt8), 0))) 0 (List.take (min (List.length x0) (Int.toNat (IntKind.wrap .i64 ((((List.length x0) : Nat) : Int) + (80))))) x0)))).2.2)) = true from decide_eq_true (Nat.le_of_eq (Nat.zero_add _))) all_nil)))))) ?_, by simp, (wkR.one (wkV.one (wk1.eq rfl))), trivial⟩
            intro p hp p2 hq
            rcases List.mem_cons.1 hp with rfl | hp
            · skip
              have h3 := l24_0_ok m (m + 24) x1 ((((List.length x0) : Nat) : Int)) ((splice (List.replicate (Int.toNat (IntKind.wrap .i64 ((((List.length x0) : Nat) : Int) + (80)))) (([] : List UInt8), (([] : List UInt8), 0))) 0 (List.take (min (List.length x0) (Int.toNat (IntKind.wrap .i64 ((((List.length x0) : Nat) : Int) + (80))))) x0))) _ (some_getD (d := l24_0D) c4)
              have h3 := turns_eq (e := [.top, .top, .top, (.ptr 0 0), .top, (.sr 1 0 (Int.toNat (IntKind.wrap .i64 ((((List.length x0) : Nat) : Int) + (80)))) 3 none), (.d (.int .i64 (((List.length x0) : Nat) : Int))), .top, .top, .top, .top, .top, .top, .top, .top, .top, .top, .top, .top, .top, .top, .top, .top, .top, .top, .top, .top]) (B := [(.cells [(.d (.str x1.1)), (.d (.str x1.2.1)), (.d (.int .i64 x1.2.2))]), (.arr (.pair .str (.pair .str (.int .i64))) (splice (List.replicate (Int.toNat (IntKind.wrap .i64 ((((List.length x0) : Nat) : Int) + (80)))) (([] : List UInt8), (([] : List UInt8), 0))) 0 (List.take (min (List.length x0) (Int.toNat (IntKind.wrap .i64 ((((List.length x0) : Nat) : Int) + (80))))) x0)) true)]) (by unfold l24_0H; (try rw [show (List.length (splice (List.replicate (Int.toNat (IntKind.wrap .i64 ((((List.length x0) : Nat) : Int) + (80)))) (([] : List UInt8), (([] : List UInt8), 0))) 0 (List.take (min (List.length x0) (Int.toNat (IntKind.wrap .i64 ((((List.length x0) : Nat) : Int) + (80))))) x0))) = (Int.toNat (IntKind.wrap .i64 ((((List.length x0) : Nat) : Int) + (80)))) from by simp [splice] <;> omega])) rfl h3
              exact Eq.trans (Eq.mp (by kernel_rfl) h3) hq
            cases hp
          · skip
            cases h
        · skip
          cases h
      · skip
        cases h
    · skip
      cases h
  · skip
    cases h

/-- A list with room behind it. -/
def mroomyG (l : List MT) (z : MT) : List MT := l ++ List.replicate 80 z
theorem mroomy_loop (m : Nat) (z : MT) : ∀ (n : Nat) (pre post : List MT), post.length < n → pre.length + post.length ≤ 2000000 → ∃ j, l24_0 m n z ((pre.length : Nat) : Int) (pre ++ post) = some (0, j, pre ++ List.replicate post.length z)
  | 0, pre, post, h, _ => by omega
  | n + 1, pre, [], h, hb => by
    rw [l24_0]
    have e1 : decide (((pre.length : Nat) : Int) < (((List.length (pre ++ [])) : Nat) : Int)) = false := decide_eq_false (by simp)
    rw [e1, if_neg (by simp)]
    exact ⟨_, rfl⟩
  | n + 1, pre, x :: post, h, hb => by
    rw [l24_0]
    simp only [List.length_cons] at h hb
    have e1 : decide (((pre.length : Nat) : Int) < (((List.length (pre ++ x :: post)) : Nat) : Int)) = true := decide_eq_true (by simp; omega)
    have e2 : decide ((0 : Int) ≤ ((pre.length : Nat) : Int)) = true := decide_eq_true (by omega)
    have e3 : decide ((0 + pre.length) < (List.length (pre ++ x :: post))) = true := decide_eq_true (by simp)
    have e7 : IntKind.wrap .i64 (((pre.length : Nat) : Int) + (1)) = (((pre ++ [z]).length : Nat) : Int) := by rw [wrap_id (by omega) (by omega)]; simp
    have e8 : (pre ++ x :: post).set (0 + pre.length) z = (pre ++ [z]) ++ post := by simp
    rw [show Int.toNat ((pre.length : Nat) : Int) = pre.length from rfl, e7, e8, if_pos e1, if_pos e2, if_pos e3]
    obtain ⟨j, hj⟩ := mroomy_loop m z n (pre ++ [z]) post (by omega) (by simp; omega)
    exact ⟨j, by rw [hj]; simp [List.replicate_succ]⟩
theorem mroomy24 (l : List MT) (z : MT) (h : decide (l.length ≤ 1000000) = true) : ∃ m, p24 m l z = some (mroomyG l z) := by
  have h := of_decide_eq_true h
  refine ⟨100, ?_⟩
  have ew : IntKind.wrap .i64 ((((List.length l) : Nat) : Int) + (80)) = ((l.length + 80 : Nat) : Int) := by rw [wrap_id (by omega) (by omega)]; rfl
  have et : Int.toNat ((l.length + 80 : Nat) : Int) = l.length + 80 := rfl
  have em : min (List.length l) (l.length + 80) = l.length := by omega
  have es : splice (List.replicate (l.length + 80) ((([] : List UInt8), (([] : List UInt8), 0)) : MT)) 0 (List.take l.length l) = l ++ List.replicate 80 ((([] : List UInt8), (([] : List UInt8), 0)) : MT) := by
    simp [splice, List.drop_replicate]
  obtain ⟨j, hj⟩ := mroomy_loop 100 z (100 + 24) l (List.replicate 80 ((([] : List UInt8), (([] : List UInt8), 0)) : MT)) (by simp) (by simp; omega)
  simp only [List.length_replicate] at hj
  have e1 : (decide ((0 : Int) ≤ ((l.length + 80 : Nat) : Int)) && decide (((l.length + 80 : Nat) : Int) ≤ ((l.length + 80 : Nat) : Int))) = true := by simp; omega
  have e2 : (decide ((((l.length + 80 : Nat) : Int) * 40) ≤ 70368744177664) && decide (((l.length + 80 : Nat) : Int) ≤ 70368744177664)) = true := by simp; omega
  have e3 : decide (0 ≤ (List.length (List.replicate (l.length + 80) ((([] : List UInt8), (([] : List UInt8), 0)) : MT)))) = true := decide_eq_true (by omega)
  have e4 : decide (l.length ≤ l.length) = true := decide_eq_true (by omega)
  unfold p24 l24_0R mroomyG
  generalize List.replicate 80 z = R at *
  simp only [ew, et, em, es, e1, e2, e3, e4, hj, Option.isSome_some, Option.getD_some, ↓reduceIte]
  rw [List.drop_zero, List.take_length]
  rfl
def s24 : List AV → Boxes → M (AV × Boxes) := normS [.val (.sl (.pair .str (.pair .str (.int .i64)))), .val (.pair .str (.pair .str (.int .i64)))] [] fun xs B => match xs, B with
  | [(.d (.sl (.pair .str (.pair .str (.int .i64))) c1)), (.agg [(.d (.str c2)), (.d (.str c3)), (.d (.int .i64 c4))])], [] => .chk (decide (List.length c1 ≤ 1000000)) (.ret ((.d (.sl (.pair .str (.pair .str (.int .i64))) (mroomyG c1 ((c2, (c3, c4)))))), []))
  | _, _ => .fail
theorem s24_at : CallAt Tryd.prog 24 s24 := by
  refine CallAt.norm (CallAt.weakE (g := fun n => evCall F S19 n 24) (fun n => evCall_atH mixed kinds hds S19 S19_ok n 24) fun xs B r' B' hr => ?_) _ _
  split at hr
  · rename_i c1 c2 c3 c4
    obtain ⟨hp, hr⟩ := (M.run_chk _ _ _).1 hr
    simp only [M.run, Option.some.injEq, Prod.mk.injEq] at hr
    obtain ⟨rfl, rfl⟩ := hr
    obtain ⟨m, hm⟩ := mroomy24 c1 ((c2, (c3, c4))) hp
    obtain ⟨r, B1, h1, h2, h3, h4⟩ := p24_ok m c1 ((c2, (c3, c4))) _ hm
    exact ⟨m + 25, r, B1, h1, by simp, h2, h3, h4⟩
  · simp [M.run] at hr
noncomputable def S20 : FuncId → Option (List AV → Boxes → M (AV × Boxes)) := fun f => if f = 24 then some s24 else S19 f
set_option maxHeartbeats 20000000 in
theorem S20_ok : ∀ f s, S20 f = some s → CallAt Tryd.prog f s := by
  intro f s h
  unfold S20 at h
  split at h
  · rename_i e; subst e; cases h; exact s24_at
  · exact S19_ok f s h

noncomputable def fn28 : AFn := (F 28).getD ⟨0, [], .bad, false, false, noHd⟩
noncomputable def body28 : AC := fn28.body
def l28_0 (m : Nat) : Nat → List ((List UInt8) × (List UInt8) × Int) → (List UInt8) × (List UInt8) × Int → Int → Option (Nat × Int)
  | 0, _, _, _ => none
  | n + 1, x0, x2, s7 => if decide (s7 < (((List.length x0) : Nat) : Int)) = true then
      if decide (0 ≤ s7) = true then
        if (((List.getD x0 (Int.toNat s7) (([] : List UInt8), (([] : List UInt8), 0))).1 == x2.1) && (((List.getD x0 (Int.toNat s7) (([] : List UInt8), (([] : List UInt8), 0))).2.1 == x2.2.1) && (((List.getD x0 (Int.toNat s7) (([] : List UInt8), (([] : List UInt8), 0))).2.2 == x2.2.2) && true))) = true then
          l28_0 m n x0 x2 ((IntKind.wrap .i64 (s7 + (1))))
        else
          some (0, s7)
      else
        none
    else
      some (1, s7)
def l28_0D : Nat × Int := (0, 0)
@[reducible] def l28_0R (m n : Nat) (x0 : List ((List UInt8) × (List UInt8) × Int)) (x2 : (List UInt8) × (List UInt8) × Int) (s7 : Int) : Nat × Int := Option.getD (l28_0 m n x0 x2 s7) l28_0D
def l28_0H (x0 : List ((List UInt8) × (List UInt8) × Int)) (x2 : (List UInt8) × (List UInt8) × Int) (s7 : Int) : Env := [(.d (.sl (.pair .str (.pair .str (.int .i64))) x0)), .top, .top, .top, .top, (.ptr 0 0), .top, (.d (.int .i64 s7)), .top, .top, .top, .top, .top, .top, .top, .top, .top, .top, .top, .top, .top, .top, .top, .top, .top, .top, .top, .top, .top, .top, .top, .top, .top, .top, .top, .top, .top]
def l28_0B (x0 : List ((List UInt8) × (List UInt8) × Int)) (x2 : (List UInt8) × (List UInt8) × Int) (s7 : Int) : Boxes := [(.cells [(.d (.str x2.1)), (.d (.str x2.2.1)), (.d (.int .i64 x2.2.2))])]
def l28_0E (x0 : List ((List UInt8) × (List UInt8) × Int)) (x2 : (List UInt8) × (List UInt8) × Int) (s7 : Int) : Nat → AEx × Env × Boxes
  | 0 => (.ret, [(.d (.sl (.pair .str (.pair .str (.int .i64))) x0)), .top, .top, .top, .top, (.ptr 0 0), (.d (.bool false)), (.d (.int .i64 s7)), .top, .top, .top, .top, .top, .top, .top, .top, .top, .top, .top, .top, .top, .top, .top, .top, .top, (.d (.int .i64 s7)), (.d (.sl (.pair .str (.pair .str (.int .i64))) x0)), (.d (.int .i64 (((List.length x0) : Nat) : Int))), (.d (.bool (decide (s7 < (((List.length x0) : Nat) : Int))))), .top, .top, (.d (.sl (.pair .str (.pair .str (.int .i64))) x0)), (.d (.int .i64 s7)), (.cptr [(.str (List.getD x0 (Int.toNat s7) (([] : List UInt8), (([] : List UInt8), 0))).1), (.str (List.getD x0 (Int.toNat s7) (([] : List UInt8), (([] : List UInt8), 0))).2.1), (.int .i64 (List.getD x0 (Int.toNat s7) (([] : List UInt8), (([] : List UInt8), 0))).2.2)] 0), (.agg [(.d (.str (List.getD x0 (Int.toNat s7) (([] : List UInt8), (([] : List UInt8), 0))).1)), (.d (.str (List.getD x0 (Int.toNat s7) (([] : List UInt8), (([] : List UInt8), 0))).2.1)), (.d (.int .i64 (List.getD x0 (Int.toNat s7) (([] : List UInt8), (([] : List UInt8), 0))).2.2))]), (.agg [(.d (.str x2.1)), (.d (.str x2.2.1)), (.d (.int .i64 x2.2.2))]), (.d (.bool (!(((List.getD x0 (Int.toNat s7) (([] : List UInt8), (([] : List UInt8), 0))).1 == x2.1) && (((List.getD x0 (Int.toNat s7) (([] : List UInt8), (([] : List UInt8), 0))).2.1 == x2.2.1) && (((List.getD x0 (Int.toNat s7) (([] : List UInt8), (([] : List UInt8), 0))).2.2 == x2.2.2) && true))))))], [(.cells [(.d (.str x2.1)), (.d (.str x2.2.1)), (.d (.int .i64 x2.2.2))]), .dead, .dead, .dead, .dead, .dead, .dead, .dead, .dead, .dead, .dead, .dead, .dead, .dead, .dead, .dead, .dead, .dead, .dead, .dead, .dead, .dead, .dead, .dead, .dead])
  | _ => (.exit 0, [(.d (.sl (.pair .str (.pair .str (.int .i64))) x0)), .top, .top, .top, .top, (.ptr 0 0), .top, (.d (.int .i64 s7)), .top, .top, .top, .top, .top, .top, .top, .top, .top, .top, .top, .top, .top, .top, .top, .top, .top, (.d (.int .i64 s7)), (.d (.sl (.pair .str (.pair .str (.int .i64))) x0)), (.d (.int .i64 (((List.length x0) : Nat) : Int))), (.d (.bool (decide (s7 < (((List.length x0) : Nat) : Int))))), .top, .top, .top, .top, .top, .top, .top, .top], [(.cells [(.d (.str x2.1)), (.d (.str x2.2.1)), (.d (.int .i64 x2.2.2))])])
noncomputable def lbl28_0 : AC := loopBody 161 body28

set_option maxHeartbeats 20000000 in
theorem l28_0_w0 (m n : Nat) (x0 : List ((List UInt8) × (List UInt8) × Int)) (x2 : (List UInt8) × (List UInt8) × Int) (s7 : Int) (r : AEx × Env × Boxes) (c0 : decide (s7 < (((List.length x0) : Nat) : Int)) = true) (c1 : decide (0 ≤ s7) = true) (c3 : (((List.getD x0 (Int.toNat s7) (([] : List UInt8), (([] : List UInt8), 0))).1 == x2.1) && (((List.getD x0 (Int.toNat s7) (([] : List UInt8), (([] : List UInt8), 0))).2.1 == x2.2.1) && (((List.getD x0 (Int.toNat s7) (([] : List UInt8), (([] : List UInt8), 0))).2.2 == x2.2.2) && true))) = true) (ih : (turns (hds 28 161) 0 161 (evC byref (evCall F S20 (m + 24)) (m + 24) 0 (hds 28) lbl28_0) n (l28_0H x0 x2 ((IntKind.wrap .i64 (s7 + (1))))) (l28_0B x0 x2 ((IntKind.wrap .i64 (s7 + (1)))))).run = some r) : (turns (hds 28 161) 0 161 (evC byref (evCall F S20 (m + 24)) (m + 24) 0 (hds 28) lbl28_0) (n + 1) (l28_0H x0 x2 s7) (l28_0B x0 x2 s7)).run = some r := by
  exact turns_step (M.run_of_path _ [true, true, true, false] _ _ (by kernel_rfl) (all_t c0 (all_t c1 (all_t c0 (all_nt c3 all_nil))))) ih
set_option maxHeartbeats 20000000 in
theorem l28_0_w1 (m n : Nat) (x0 : List ((List UInt8) × (List UInt8) × Int)) (x2 : (List UInt8) × (List UInt8) × Int) (s7 : Int) (c0 : decide (s7 < (((List.length x0) : Nat) : Int)) = true) (c1 : decide (0 ≤ s7) = true) (c3 : ¬ (((List.getD x0 (Int.toNat s7) (([] : List UInt8), (([] : List UInt8), 0))).1 == x2.1) && (((List.getD x0 (Int.toNat s7) (([] : List UInt8), (([] : List UInt8), 0))).2.1 == x2.2.1) && (((List.getD x0 (Int.toNat s7) (([] : List UInt8), (([] : List UInt8), 0))).2.2 == x2.2.2) && true))) = true) : (turns (hds 28 161) 0 161 (evC byref (evCall F S20 (m + 24)) (m + 24) 0 (hds 28) lbl28_0) (n + 1) (l28_0H x0 x2 s7) (l28_0B x0 x2 s7)).run = some (.ret, [(.d (.sl (.pair .str (.pair .str (.int .i64))) x0)), .top, .top, .top, .top, (.ptr 0 0), (.d (.bool false)), (.d (.int .i64 s7)), .top, .top, .top, .top, .top, .top, .top, .top, .top, .top, .top, .top, .top, .top, .top, .top, .top, (.d (.int .i64 s7)), (.d (.sl (.pair .str (.pair .str (.int .i64))) x0)), (.d (.int .i64 (((List.length x0) : Nat) : Int))), (.d (.bool (decide (s7 < (((List.length x0) : Nat) : Int))))), .top, .top, (.d (.sl (.pair .str (.pair .str (.int .i64))) x0)), (.d (.int .i64 s7)), (.cptr [(.str (List.getD x0 (Int.toNat s7) (([] : List UInt8), (([] : List UInt8), 0))).1), (.str (List.getD x0 (Int.toNat s7) (([] : List UInt8), (([] : List UInt8), 0))).2.1), (.int .i64 (List.getD x0 (Int.toNat s7) (([] : List UInt8), (([] : List UInt8), 0))).2.2)] 0), (.agg [(.d (.str (List.getD x0 (Int.toNat s7) (([] : List UInt8), (([] : List UInt8), 0))).1)), (.d (.str (List.getD x0 (Int.toNat s7) (([] : List UInt8), (([] : List UInt8), 0))).2.1)), (.d (.int .i64 (List.getD x0 (Int.toNat s7) (([] : List UInt8), (([] : List UInt8), 0))).2.2))]), (.agg [(.d (.str x2.1)), (.d (.str x2.2.1)), (.d (.int .i64 x2.2.2))]), (.d (.bool (!(((List.getD x0 (Int.toNat s7) (([] : List UInt8), (([] : List UInt8), 0))).1 == x2.1) && (((List.getD x0 (Int.toNat s7) (([] : List UInt8), (([] : List UInt8), 0))).2.1 == x2.2.1) && (((List.getD x0 (Int.toNat s7) (([] : List UInt8), (([] : List UInt8), 0))).2.2 == x2.2.2) && true))))))], [(.cells [(.d (.str x2.1)), (.d (.str x2.2.1)), (.d (.int .i64 x2.2.2))]), .dead, .dead, .dead, .dead, .dead, .dead, .dead, .dead, .dead, .dead, .dead, .dead, .dead, .dead, .dead, .dead, .dead, .dead, .dead, .dead, .dead, .dead, .dead, .dead]) := by
  exact turns_last (by simp) (M.run_of_path _ [true, true, true, true] _ _ (by kernel_rfl) (all_t c0 (all_t c1 (all_t c0 (all_nf c3 all_nil))))) 
set_option maxHeartbeats 20000000 in
theorem l28_0_w2 (m n : Nat) (x0 : List ((List UInt8) × (List UInt8) × Int)) (x2 : (List UInt8) × (List UInt8) × Int) (s7 : Int) (c0 : ¬ decide (s7 < (((List.length x0) : Nat) : Int)) = true) : (turns (hds 28 161) 0 161 (evC byref (evCall F S20 (m + 24)) (m + 24) 0 (hds 28) lbl28_0) (n + 1) (l28_0H x0 x2 s7) (l28_0B x0 x2 s7)).run = some (.exit 0, [(.d (.sl (.pair .str (.pair .str (.int .i64))) x0)), .top, .top, .top, .top, (.ptr 0 0), .top, (.d (.int .i64 s7)), .top, .top, .top, .top, .top, .top, .top, .top, .top, .top, .top, .top, .top, .top, .top, .top, .top, (.d (.int .i64 s7)), (.d (.sl (.pair .str (.pair .str (.int .i64))) x0)), (.d (.int .i64 (((List.length x0) : Nat) : Int))), (.d (.bool (decide (s7 < (((List.length x0) : Nat) : Int))))), .top, .top, .top, .top, .top, .top, .top, .top], [(.cells [(.d (.str x2.1)), (.d (.str x2.2.1)), (.d (.int .i64 x2.2.2))])]) := by
  exact turns_last (by simp) (M.run_of_path _ [false] _ _ (by kernel_rfl) (all_f c0 all_nil)) 

set_option maxHeartbeats 20000000 in
theorem l28_0_step (m n : Nat) (ih : ∀ (x0 : List ((List UInt8) × (List UInt8) × Int)) (x2 : (List UInt8) × (List UInt8) × Int) (s7 : Int) (q : Nat × Int), l28_0 m n x0 x2 s7 = some q → (turns (hds 28 161) 0 161 (evC byref (evCall F S20 (m + 24)) (m + 24) 0 (hds 28) lbl28_0) n (l28_0H x0 x2 s7) (l28_0B x0 x2 s7)).run = some (l28_0E (x0) (x2) (q.2) q.1)) (x0 : List ((List UInt8) × (List UInt8) × Int)) (x2 : (List UInt8) × (List UInt8) × Int) (s7 : Int) (q : Nat × Int) (h : l28_0 m (n + 1) x0 x2 s7 = some q) : (turns (hds 28 161) 0 161 (evC byref (evCall F S20 (m + 24)) (m + 24) 0 (hds 28) lbl28_0) (n + 1) (l28_0H x0 x2 s7) (l28_0B x0 x2 s7)).run = some (l28_0E (x0) (x2) (q.2) q.1) := by
  rw [l28_0] at h
  refine ite_cases h (fun c0 h => ?_) (fun c0 h => ?_)
  · skip
    refine ite_cases h (fun c1 h => ?_) (fun c1 h => ?_)
    · skip
      refine ite_cases h (fun c3 h => ?_) (fun c3 h => ?_)
      · skip
        exact l28_0_w0 m n x0 x2 s7 _ c0 c1 c3 (ih _ _ _ q h)
      · skip
        cases h
        exact l28_0_w1 m n x0 x2 s7 c0 c1 c3
    · skip
      cases h
  · skip
    cases h
    exact l28_0_w2 m n x0 x2 s7 c0
set_option maxHeartbeats 20000000 in
theorem l28_0_ok (m : Nat) : ∀ (n : Nat) (x0 : List ((List UInt8) × (List UInt8) × Int)) (x2 : (List UInt8) × (List UInt8) × Int) (s7 : Int) (q : Nat × Int), l28_0 m n x0 x2 s7 = some q → (turns (hds 28 161) 0 161 (evC byref (evCall F S20 (m + 24)) (m + 24) 0 (hds 28) lbl28_0) n (l28_0H x0 x2 s7) (l28_0B x0 x2 s7)).run = some (l28_0E (x0) (x2) (q.2) q.1)
  | 0, x0, x2, s7, q, h => by cases h
  | n + 1, x0, x2, s7, q, h => l28_0_step m n (l28_0_ok m n) x0 x2 s7 q h

def p28 (m : Nat) (x0 : List ((List UInt8) × (List UInt8) × Int)) (x1 : List ((List UInt8) × (List UInt8) × Int)) (x2 : (List UInt8) × (List UInt8) × Int) : Option (Bool) :=
  if ((((List.length x0) : Nat) : Int) != (IntKind.wrap .i64 ((((List.length x1) : Nat) : Int) + (80)))) = true then
    some (false)
  else
    if (decide (0 ≤ (((List.length x1) : Nat) : Int)) && decide ((((List.length x1) : Nat) : Int) ≤ (((List.length x0) : Nat) : Int))) = true then
      if decide (List.length (List.drop 0 (List.take (Int.toNat (((List.length x1) : Nat) : Int)) x0)) < 4611686018427387904) = true then
        if ((show List ((List UInt8) × (List UInt8) × Int) from (List.drop 0 (List.take (Int.toNat (((List.length x1) : Nat) : Int)) x0))) == x1) = true then
          if (Option.isSome (l28_0 m (m + 24) x0 x2 ((((List.length x1) : Nat) : Int)))) = true then
            if ((l28_0R m (m + 24) x0 x2 ((((List.length x1) : Nat) : Int))).1 == 0) = true then
              some (false)
            else
              if ((l28_0R m (m + 24) x0 x2 ((((List.length x1) : Nat) : Int))).1 == 1) = true then
                some (true)
              else
                none
          else
            none
        else
          some (false)
      else
        none
    else
      none
set_option maxHeartbeats 20000000 in
theorem p28_ok (m : Nat) (x0 : List ((List UInt8) × (List UInt8) × Int)) (x1 : List ((List UInt8) × (List UInt8) × Int)) (x2 : (List UInt8) × (List UInt8) × Int) (q : Bool) (h : p28 m x0 x1 x2 = some q) : ∃ r B1, (evCall F S20 (m + 25) 28 [(.d (.sl (.pair .str (.pair .str (.int .i64))) x0)), (.d (.sl (.pair .str (.pair .str (.int .i64))) x1)), (.agg [(.d (.str x2.1)), (.d (.str x2.2.1)), (.d (.int .i64 x2.2.2))])] []).run = some (r, B1) ∧ 0 ≤ B1.length ∧ wkR B1 [] r (.d (.bool (q))) ∧ wkBs B1 [] 0 [] := by
  unfold p28 at h
  refine ite_cases h (fun c0 h => ?_) (fun c0 h => ?_)
  · skip
    cases h
    refine ⟨(.d (.bool false)), [], runT_ok (LS := (fun k => none)) (fn := fn28) (vis := []) (by kernel_rfl) rfl (by kernel_rfl) (M.run_of_path _ [true, true, true, true, true, true, true, true, true] _ _ (by kernel_rfl) (all_t c0 (all_t c0 (all_t c0 (all_t c0 (all_t c0 (all_t c0 (all_t c0 (all_t c0 (all_t rfl all_nil)))))))))) ?_, by simp, (wkR.one (wkV.one (wk1.eq rfl))), trivial⟩
    intro p hp; cases hp
  · skip
    refine ite_cases h (fun c4 h => ?_) (fun c4 h => ?_)
    · skip
      refine ite_cases h (fun c7 h => ?_) (fun c7 h => ?_)
      · skip
        refine ite_cases h (fun c10 h => ?_) (fun c10 h => ?_)
        · skip
          refine ite_cases h (fun c11 h => ?_) (fun c11 h => ?_)
          · skip
            refine ite_cases h (fun c12 h => ?_) (fun c12 h => ?_)
            · skip
              cases h
              refine ⟨(.d (.bool false)), [], runT_ok (LS := (fun k => if k = 161 then some (l28_0E x0 x2 ((l28_0R m (m + 24) x0 x2 ((((List.length x1) : Nat) : Int))).2) 0) else none)) (fn := fn28) (vis := [(161, l28_0H x0 x2 ((((List.length x1) : Nat) : Int)), l28_0B x0 x2 ((((List.length x1) : Nat) : Int)))]) (by kernel_rfl) rfl (by kernel_rfl) (M.run_of_path _ [false, false, false, false, true, false, false, true, false, false, false] _ _ (by kernel_rfl) (all_f c0 (all_f c0 (all_f c0 (all_f c0 (all_t c4 (all_f c0 (all_f c0 (all_t c7 (all_f c0 (all_f c0 (all_nt c10 all_nil)))))))))))) ?_, by simp, (wkR.one (wkV.one (wk1.eq rfl))), trivial⟩
              intro p hp p2 hq
              rcases List.mem_cons.1 hp with rfl | hp
              · skip
                have h3 := l28_0_ok m (m + 24) x0 x2 ((((List.length x1) : Nat) : Int)) _ (some_getD (d := l28_0D) c11)
                rw [eq_of_beq c12] at h3
                exact Eq.trans (Eq.mp (by kernel_rfl) h3) hq
              cases hp
            · skip
              refine ite_cases h (fun c13 h => ?_) (fun c13 h => ?_)
              · skip
                cases h
                refine ⟨(.d (.bool true)), [], runT_ok (LS := (fun k => if k = 161 then some (l28_0E x0 x2 ((l28_0R m (m + 24) x0 x2 ((((List.length x1) : Nat) : Int))).2) 1) else none)) (fn := fn28) (vis := [(161, l28_0H x0 x2 ((((List.length x1) : Nat) : Int)), l28_0B x0 x2 ((((List.length x1) : Nat) : Int)))]) (by kernel_rfl) rfl (by kernel_rfl) (M.run_of_path _ [false, false, false, false, true, false, false, true, false, false, false] _ _ (by kernel_rfl) (all_f c0 (all_f c0 (all_f c0 (all_f c0 (all_t c4 (all_f c0 (all_f c0 (all_t c7 (all_f c0 (all_f c0 (all_nt c10 all_nil)))))))))))) ?_, by simp, (wkR.one (wkV.one (wk1.eq rfl))), trivial⟩
                intro p hp p2 hq
                rcases List.mem_cons.1 hp with rfl | hp
                · skip
                  have h3 := l28_0_ok m (m + 24) x0 x2 ((((List.length x1) : Nat) : Int)) _ (some_getD (d := l28_0D) c11)
                  rw [eq_of_beq c13] at h3
                  exact Eq.trans (Eq.mp (by kernel_rfl) h3) hq
                cases hp
              · skip
                cases h
          · skip
            cases h
        · skip
          cases h
          refine ⟨(.d (.bool false)), [], runT_ok (LS := (fun k => none)) (fn := fn28) (vis := []) (by kernel_rfl) rfl (by kernel_rfl) (M.run_of_path _ [false, false, false, false, true, false, false, true, false, false, true] _ _ (by kernel_rfl) (all_f c0 (all_f c0 (all_f c0 (all_f c0 (all_t c4 (all_f c0 (all_f c0 (all_t c7 (all_f c0 (all_f c0 (all_nf c10 all_nil)))))))))))) ?_, by simp, (wkR.one (wkV.one (wk1.eq rfl))), trivial⟩
          intro p hp; cases hp
      · skip
        cases h
    · skip
      cases h

/-- Is such a list as it was? -/
def mintactG (f was : List MT) (z : MT) : Bool := decide (f = was ++ List.replicate 80 z)
theorem mintact_loop (m : Nat) (f : List MT) (z : MT) (hb : f.length ≤ 1000000) : ∀ (n k : Nat), k ≤ f.length → f.length - k < n → ∃ j, l28_0 m n f z ((k : Nat) : Int) = some (if f.drop k = List.replicate (f.length - k) z then 1 else 0, j)
  | 0, k, _, h => by omega
  | n + 1, k, h1, h2 => by
    rw [l28_0]
    by_cases hk : k < f.length
    · have e1 : decide (((k : Nat) : Int) < (((List.length f) : Nat) : Int)) = true := decide_eq_true (by omega)
      have e2 : decide ((0 : Int) ≤ ((k : Nat) : Int)) = true := decide_eq_true (by omega)
      have e7 : IntKind.wrap .i64 (((k : Nat) : Int) + (1)) = ((k + 1 : Nat) : Int) := by rw [wrap_id (by omega) (by omega)]; rfl
      rw [drop_getD f k (([] : List UInt8), (([] : List UInt8), 0)) hk, e7, if_pos e1, if_pos e2, show f.length - k = (f.length - (k + 1)) + 1 by omega, List.replicate_succ, show Int.toNat ((k : Nat) : Int) = k from rfl]
      by_cases hc : f.getD k (([] : List UInt8), (([] : List UInt8), 0)) = z
      · have e3 : (((f.getD k (([] : List UInt8), (([] : List UInt8), 0))).1 == z.1) && (((f.getD k (([] : List UInt8), (([] : List UInt8), 0))).2.1 == z.2.1) && (((f.getD k (([] : List UInt8), (([] : List UInt8), 0))).2.2 == z.2.2) && true))) = true := by rw [hc]; simp
        rw [if_pos e3]
        obtain ⟨j, hj⟩ := mintact_loop m f z hb n (k + 1) (by omega) (by omega)
        refine ⟨j, ?_⟩
        rw [hj]
        have hc' : (f.getD k (([] : List UInt8), (([] : List UInt8), 0)) :: f.drop (k + 1) = z :: List.replicate (f.length - (k + 1)) z) = (f.drop (k + 1) = List.replicate (f.length - (k + 1)) z) := by rw [List.cons.injEq]; simp only [hc, true_and]
        simp only [hc']
      · have e3 : ¬ (((f.getD k (([] : List UInt8), (([] : List UInt8), 0))).1 == z.1) && (((f.getD k (([] : List UInt8), (([] : List UInt8), 0))).2.1 == z.2.1) && (((f.getD k (([] : List UInt8), (([] : List UInt8), 0))).2.2 == z.2.2) && true))) = true := by
          intro h; simp at h; exact hc (Prod.ext h.1 (Prod.ext h.2.1 h.2.2))
        rw [if_neg e3, if_neg (by simp only [List.cons.injEq, hc, false_and, not_false_eq_true])]
        exact ⟨_, rfl⟩
    · have e1 : decide (((k : Nat) : Int) < (((List.length f) : Nat) : Int)) = false := decide_eq_false (by omega)
      rw [e1, if_neg (by simp), List.drop_eq_nil_of_le (by omega), show f.length - k = 0 by omega]
      exact ⟨_, rfl⟩
theorem mintact28 (f was : List MT) (z : MT) (h : decide (f.length ≤ 1000000 ∧ was.length ≤ 1000000) = true) : ∃ m, p28 m f was z = some (mintactG f was z) := by
  have ⟨h, hw⟩ := of_decide_eq_true h
  refine ⟨f.length, ?_⟩
  unfold p28 l28_0R mintactG
  by_cases hl : f.length = was.length + 80
  · have ew : IntKind.wrap .i64 ((((List.length was) : Nat) : Int) + (80)) = (((List.length f) : Nat) : Int) := by rw [wrap_id (by omega) (by omega)]; omega
    have e1 : (decide ((0 : Int) ≤ (((List.length was) : Nat) : Int)) && decide ((((List.length was) : Nat) : Int) ≤ (((List.length f) : Nat) : Int))) = true := by simp; omega
    have e2 : decide (List.length (List.drop 0 (List.take was.length f)) < 4611686018427387904) = true := decide_eq_true (by simp; omega)
    have e3 : ((((List.length f) : Nat) : Int) != (((List.length f) : Nat) : Int)) = false := by simp
    obtain ⟨j, hj⟩ := mintact_loop f.length f z h (f.length + 24) was.length (by omega) (by omega)
    rw [show f.length - was.length = 80 by omega] at hj
    have split : f = was ++ List.replicate 80 z ↔ f.take was.length = was ∧ f.drop was.length = List.replicate 80 z := by
      constructor
      · intro e; rw [e]; simp
      · rintro ⟨q1, q2⟩; rw [← q1, ← q2] ; simp
    have hno0 : f.take was.length ≠ was → ¬ f = was ++ List.replicate 80 z := fun q e => q (split.1 e).1
    generalize List.replicate 80 z = R at *
    rw [show Int.toNat ((was.length : Nat) : Int) = was.length from rfl, ew]
    simp only [e1, e2, e3, hj, Option.isSome_some, Option.getD_some, ↓reduceIte, Bool.false_eq_true]
    by_cases q1 : f.take was.length = was
    · by_cases q2 : f.drop was.length = R
      · simp [split, q1, q2]
      · simp [split, q1, q2]
    · simp [split, q1]
  · have ew : ((((List.length f) : Nat) : Int) != IntKind.wrap .i64 ((((List.length was) : Nat) : Int) + (80))) = true := by
      rw [wrap_id (by omega) (by omega)]; simp; omega
    have hno : ¬ f = was ++ List.replicate 80 z := fun e => hl (by rw [e]; simp)
    generalize List.replicate 80 z = R at *
    rw [if_pos ew]
    simp [hno]
def s28 : List AV → Boxes → M (AV × Boxes) := normS [.val (.sl (.pair .str (.pair .str (.int .i64)))), .val (.sl (.pair .str (.pair .str (.int .i64)))), .val (.pair .str (.pair .str (.int .i64)))] [] fun xs B => match xs, B with
  | [(.d (.sl (.pair .str (.pair .str (.int .i64))) c1)), (.d (.sl (.pair .str (.pair .str (.int .i64))) c2)), (.agg [(.d (.str c3)), (.d (.str c4)), (.d (.int .i64 c5))])], [] => .chk (decide (List.length c1 ≤ 1000000 ∧ List.length c2 ≤ 1000000)) (.ret ((.d (.bool (mintactG c1 c2 ((c3, (c4, c5)))))), []))
  | _, _ => .fail
theorem s28_at : CallAt Tryd.prog 28 s28 := by
  refine CallAt.norm (CallAt.weakE (g := fun n => evCall F S20 n 28) (fun n => evCall_atH mixed kinds hds S20 S20_ok n 28) fun xs B r' B' hr => ?_) _ _
  split at hr
  · rename_i c1 c2 c3 c4 c5
    obtain ⟨hp, hr⟩ := (M.run_chk _ _ _).1 hr
    simp only [M.run, Option.some.injEq, Prod.mk.injEq] at hr
    obtain ⟨rfl, rfl⟩ := hr
    obtain ⟨m, hm⟩ := mintact28 c1 c2 ((c3, (c4, c5))) hp
    obtain ⟨r, B1, h1, h2, h3, h4⟩ := p28_ok m c1 c2 ((c3, (c4, c5))) _ hm
    exact ⟨m + 25, r, B1, h1, by simp, h2, h3, h4⟩
  · simp [M.run] at hr
noncomputable def S21 : FuncId → Option (List AV → Boxes → M (AV × Boxes)) := fun f => if f = 28 then some s28 else S20 f
set_option maxHeartbeats 20000000 in
theorem S21_ok : ∀ f s, S21 f = some s → CallAt Tryd.prog f s := by
  intro f s h
  unfold S21 at h
  split at h
  · rename_i e; subst e; cases h; exact s28_at
  · exact S20_ok f s h

end Go.Proofs.YtghkbjflejgieaaDoor.Dec
namespace Go.Proofs.YtghkbjflejgieaaDoor.Dec
open Go.Ev
set_option linter.unusedVariables false
set_option linter.unusedSimpArgs false
set_option maxRecDepth 100000
noncomputable def fn7 : AFn := (F 7).getD ⟨0, [], .bad, false, false, noHd⟩
noncomputable def body7 : AC := fn7.body
def l7_0 (m : Nat) : Nat → List ((List UInt8) × (List UInt8)) → List ((List UInt8) × (List UInt8) × Int) → Bool → Int → Int → List ((List UInt8) × (List UInt8) × Int) → Option (Nat × Bool × Int)
  | 0, _, _, _, _, _, _ => none
  | n + 1, s6, s7, s8, s30, s31, b0 => if decide (s31 < s30) = true then
      if decide (0 ≤ s31) = true then
        if decide (s31 < (((List.length b0) : Nat) : Int)) = true then
          if decide ((0 + (Int.toNat s31)) < (List.length b0)) = true then
            if s8 = true then
              if okPre (List.getD b0 (0 + (Int.toNat s31)) (([] : List UInt8), (([] : List UInt8), 0))) = true then
                l7_0 m n s6 s7 ((okM (List.getD b0 (0 + (Int.toNat s31)) (([] : List UInt8), (([] : List UInt8), 0))))) s30 ((IntKind.wrap .i64 (s31 + (1)))) b0
              else
                none
            else
              l7_0 m n s6 s7 false s30 ((IntKind.wrap .i64 (s31 + (1)))) b0
          else
            none
        else
          none
      else
        none
    else
      some (0, s8, s31)
def l7_0D : Nat × Bool × Int := (0, false, 0)
@[reducible] def l7_0R (m n : Nat) (s6 : List ((List UInt8) × (List UInt8))) (s7 : List ((List UInt8) × (List UInt8) × Int)) (s8 : Bool) (s30 : Int) (s31 : Int) (b0 : List ((List UInt8) × (List UInt8) × Int)) : Nat × Bool × Int := Option.getD (l7_0 m n s6 s7 s8 s30 s31 b0) l7_0D
def l7_0H (s6 : List ((List UInt8) × (List UInt8))) (s7 : List ((List UInt8) × (List UInt8) × Int)) (s8 : Bool) (s30 : Int) (s31 : Int) (b0 : List ((List UInt8) × (List UInt8) × Int)) : Env := [.top, .top, .top, .top, .top, (.sr 0 0 (List.length b0) 3 none), (.d (.sl (.pair .str .str) s6)), (.d (.sl (.pair .str (.pair .str (.int .i64))) s7)), (.d (.bool (s8))), .top, .top, .top, .top, .top, .top, .top, .top, .top, .top, .top, .top, .top, .top, .top, .top, .top, .top, .top, .top, (.sr 0 0 (List.length b0) 3 none), (.d (.int .i64 s30)), (.d (.int .i64 s31)), .top, .top, .top, .top, .top, .top, .top, .top, .top, .top, .top, .top, .top, .top, .top, .top, .top, .top, .top, .top, .top, .top, .top, .top, .top, .top, .top, .top, .top, .top, .top, .top, .top, .top, .top, .top, .top, .top, .top, .top, .top]
def l7_0B (s6 : List ((List UInt8) × (List UInt8))) (s7 : List ((List UInt8) × (List UInt8) × Int)) (s8 : Bool) (s30 : Int) (s31 : Int) (b0 : List ((List UInt8) × (List UInt8) × Int)) : Boxes := [(.arr (.pair .str (.pair .str (.int .i64))) b0 false)]
def l7_0E (s6 : List ((List UInt8) × (List UInt8))) (s7 : List ((List UInt8) × (List UInt8) × Int)) (s8 : Bool) (s30 : Int) (s31 : Int) (b0 : List ((List UInt8) × (List UInt8) × Int)) : Nat → AEx × Env × Boxes
  | _ => (.exit 0, [.top, .top, .top, .top, .top, (.sr 0 0 (List.length b0) 3 none), (.d (.sl (.pair .str .str) s6)), (.d (.sl (.pair .str (.pair .str (.int .i64))) s7)), (.d (.bool (s8))), .top, .top, .top, .top, .top, .top, .top, .top, .top, .top, .top, .top, .top, .top, .top, .top, .top, .top, .top, .top, (.sr 0 0 (List.length b0) 3 none), (.d (.int .i64 s30)), (.d (.int .i64 s31)), (.d (.bool (decide (s31 < s30)))), .top, .top, .top, .top, .top, .top, .top, .top, .top, .top, .top, .top, .top, .top, .top, .top, .top, .top, .top, .top, .top, .top, .top, .top, .top, .top, .top, .top, .top, .top, .top, .top, .top, .top, .top, .top, .top, .top, .top, .top], [(.arr (.pair .str (.pair .str (.int .i64))) b0 false)])
noncomputable def lbl7_0 : AC := loopBody 3758096864 body7

set_option maxHeartbeats 20000000 in
theorem l7_0_w0 (m n : Nat) (s6 : List ((List UInt8) × (List UInt8))) (s7 : List ((List UInt8) × (List UInt8) × Int)) (s8 : Bool) (s30 : Int) (s31 : Int) (b0 : List ((List UInt8) × (List UInt8) × Int)) (r : AEx × Env × Boxes) (c0 : decide (s31 < s30) = true) (c1 : decide (0 ≤ s31) = true) (c2 : decide (s31 < (((List.length b0) : Nat) : Int)) = true) (c3 : decide ((0 + (Int.toNat s31)) < (List.length b0)) = true) (c4 : s8 = true) (c6 : okPre (List.getD b0 (0 + (Int.toNat s31)) (([] : List UInt8), (([] : List UInt8), 0))) = true) (ih : (turns (hds 7 3758096864) 0 3758096864 (evC byref (evCall F S21 (m + 24)) (m + 24) 0 (hds 7) lbl7_0) n (l7_0H s6 s7 ((okM (List.getD b0 (0 + (Int.toNat s31)) (([] : List UInt8), (([] : List UInt8), 0))))) s30 ((IntKind.wrap .i64 (s31 + (1)))) b0) (l7_0B s6 s7 ((okM (List.getD b0 (0 + (Int.toNat s31)) (([] : List UInt8), (([] : List UInt8), 0))))) s30 ((IntKind.wrap .i64 (s31 + (1)))) b0)).run = some r) : (turns (hds 7 3758096864) 0 3758096864 (evC byref (evCall F S21 (m + 24)) (m + 24) 0 (hds 7) lbl7_0) (n + 1) (l7_0H s6 s7 s8 s30 s31 b0) (l7_0B s6 s7 s8 s30 s31 b0)).run = some r := by
  exact turns_step (M.run_of_path _ [true, true, true, true, true, true, true, true] _ _ (by kernel_rfl) (all_t c0 (all_t c1 (all_t c2 (all_t c3 (all_t c4 (all_t c4 (all_t c6 (all_t c4 all_nil))))))))) ih
set_option maxHeartbeats 20000000 in
theorem l7_0_w1 (m n : Nat) (s6 : List ((List UInt8) × (List UInt8))) (s7 : List ((List UInt8) × (List UInt8) × Int)) (s8 : Bool) (s30 : Int) (s31 : Int) (b0 : List ((List UInt8) × (List UInt8) × Int)) (r : AEx × Env × Boxes) (c0 : decide (s31 < s30) = true) (c1 : decide (0 ≤ s31) = true) (c2 : decide (s31 < (((List.length b0) : Nat) : Int)) = true) (c3 : decide ((0 + (Int.toNat s31)) < (List.length b0)) = true) (c4 : ¬ s8 = true) (ih : (turns (hds 7 3758096864) 0 3758096864 (evC byref (evCall F S21 (m + 24)) (m + 24) 0 (hds 7) lbl7_0) n (l7_0H s6 s7 false s30 ((IntKind.wrap .i64 (s31 + (1)))) b0) (l7_0B s6 s7 false s30 ((IntKind.wrap .i64 (s31 + (1)))) b0)).run = some r) : (turns (hds 7 3758096864) 0 3758096864 (evC byref (evCall F S21 (m + 24)) (m + 24) 0 (hds 7) lbl7_0) (n + 1) (l7_0H s6 s7 s8 s30 s31 b0) (l7_0B s6 s7 s8 s30 s31 b0)).run = some r := by
  exact turns_step (M.run_of_path _ [true, true, true, true, false, false, false] _ _ (by kernel_rfl) (all_t c0 (all_t c1 (all_t c2 (all_t c3 (all_f c4 (all_f c4 (all_f c4 all_nil)))))))) ih
set_option maxHeartbeats 20000000 in
theorem l7_0_w2 (m n : Nat) (s6 : List ((List UInt8) × (List UInt8))) (s7 : List ((List UInt8) × (List UInt8) × Int)) (s8 : Bool) (s30 : Int) (s31 : Int) (b0 : List ((List UInt8) × (List UInt8) × Int)) (c0 : ¬ decide (s31 < s30) = true) : (turns (hds 7 3758096864) 0 3758096864 (evC byref (evCall F S21 (m + 24)) (m + 24) 0 (hds 7) lbl7_0) (n + 1) (l7_0H s6 s7 s8 s30 s31 b0) (l7_0B s6 s7 s8 s30 s31 b0)).run = some (.exit 0, [.top, .top, .top, .top, .top, (.sr 0 0 (List.length b0) 3 none), (.d (.sl (.pair .str .str) s6)), (.d (.sl (.pair .str (.pair .str (.int .i64))) s7)), (.d (.bool (s8))), .top, .top, .top, .top, .top, .top, .top, .top, .top, .top, .top, .top, .top, .top, .top, .top, .top, .top, .top, .top, (.sr 0 0 (List.length b0) 3 none), (.d (.int .i64 s30)), (.d (.int .i64 s31)), (.d (.bool (decide (s31 < s30)))), .top, .top, .top, .top, .top, .top, .top, .top, .top, .top, .top, .top, .top, .top, .top, .top, .top, .top, .top, .top, .top, .top, .top, .top, .top, .top, .top, .top, .top, .top, .top, .top, .top, .top, .top, .top, .top, .top, .top, .top], [(.arr (.pair .str (.pair .str (.int .i64))) b0 false)]) := by
  exact turns_last (by simp) (M.run_of_path _ [false] _ _ (by kernel_rfl) (all_f c0 all_nil)) 

set_option maxHeartbeats 20000000 in
theorem l7_0_step (m n : Nat) (ih : ∀ (s6 : List ((List UInt8) × (List UInt8))) (s7 : List ((List UInt8) × (List UInt8) × Int)) (s8 : Bool) (s30 : Int) (s31 : Int) (b0 : List ((List UInt8) × (List UInt8) × Int)) (q : Nat × Bool × Int), l7_0 m n s6 s7 s8 s30 s31 b0 = some q → (turns (hds 7 3758096864) 0 3758096864 (evC byref (evCall F S21 (m + 24)) (m + 24) 0 (hds 7) lbl7_0) n (l7_0H s6 s7 s8 s30 s31 b0) (l7_0B s6 s7 s8 s30 s31 b0)).run = some (l7_0E (s6) (s7) (q.2.1) (s30) (q.2.2) (b0) q.1)) (s6 : List ((List UInt8) × (List UInt8))) (s7 : List ((List UInt8) × (List UInt8) × Int)) (s8 : Bool) (s30 : Int) (s31 : Int) (b0 : List ((List UInt8) × (List UInt8) × Int)) (q : Nat × Bool × Int) (h : l7_0 m (n + 1) s6 s7 s8 s30 s31 b0 = some q) : (turns (hds 7 3758096864) 0 3758096864 (evC byref (evCall F S21 (m + 24)) (m + 24) 0 (hds 7) lbl7_0) (n + 1) (l7_0H s6 s7 s8 s30 s31 b0) (l7_0B s6 s7 s8 s30 s31 b0)).run = some (l7_0E (s6) (s7) (q.2.1) (s30) (q.2.2) (b0) q.1) := by
  rw [l7_0] at h
  refine ite_cases h (fun c0 h => ?_) (fun c0 h => ?_)
  · skip
    refine ite_cases h (fun c1 h => ?_) (fun c1 h => ?_)
    · skip
      refine ite_cases h (fun c2 h => ?_) (fun c2 h => ?_)
      · skip
        refine ite_cases h (fun c3 h => ?_) (fun c3 h => ?_)
        · skip
          refine ite_cases h (fun c4 h => ?_) (fun c4 h => ?_)
          · skip
            refine ite_cases h (fun c6 h => ?_) (fun c6 h => ?_)
            · skip
              exact l7_0_w0 m n s6 s7 s8 s30 s31 b0 _ c0 c1 c2 c3 c4 c6 (ih _ _ _ _ _ _ q h)
            · skip
              cases h
          · skip
            exact l7_0_w1 m n s6 s7 s8 s30 s31 b0 _ c0 c1 c2 c3 c4 (ih _ _ _ _ _ _ q h)
        · skip
          cases h
      · skip
        cases h
    · skip
      cases h
  · skip
    cases h
    exact l7_0_w2 m n s6 s7 s8 s30 s31 b0 c0
set_option maxHeartbeats 20000000 in
theorem l7_0_ok (m : Nat) : ∀ (n : Nat) (s6 : List ((List UInt8) × (List UInt8))) (s7 : List ((List UInt8) × (List UInt8) × Int)) (s8 : Bool) (s30 : Int) (s31 : Int) (b0 : List ((List UInt8) × (List UInt8) × Int)) (q : Nat × Bool × Int), l7_0 m n s6 s7 s8 s30 s31 b0 = some q → (turns (hds 7 3758096864) 0 3758096864 (evC byref (evCall F S21 (m + 24)) (m + 24) 0 (hds 7) lbl7_0) n (l7_0H s6 s7 s8 s30 s31 b0) (l7_0B s6 s7 s8 s30 s31 b0)).run = some (l7_0E (s6) (s7) (q.2.1) (s30) (q.2.2) (b0) q.1)
  | 0, s6, s7, s8, s30, s31, b0, q, h => by cases h
  | n + 1, s6, s7, s8, s30, s31, b0, q, h => l7_0_step m n (l7_0_ok m n) s6 s7 s8 s30 s31 b0 q h

def tells (m : Nat) (x0 : List ((List UInt8) × (List UInt8) × Int)) (x1 : List ((List UInt8) × (List UInt8))) : Option Unit :=
  if (decide (0 ≤ (if (8) < (((List.length x0) : Nat) : Int) then (8) else (((List.length x0) : Nat) : Int))) && decide ((if (8) < (((List.length x0) : Nat) : Int) then (8) else (((List.length x0) : Nat) : Int)) ≤ (((List.length x0) : Nat) : Int))) = true then
    if decide (((0 + (List.length (List.drop 0 (List.take (Int.toNat (if (8) < (((List.length x0) : Nat) : Int) then (8) else (((List.length x0) : Nat) : Int))) x0)))) * 40) ≤ 70368744177664) = true then
      if (decide (0 ≤ (if (8) < (((List.length x1) : Nat) : Int) then (8) else (((List.length x1) : Nat) : Int))) && decide ((if (8) < (((List.length x1) : Nat) : Int) then (8) else (((List.length x1) : Nat) : Int)) ≤ (((List.length x1) : Nat) : Int))) = true then
        if decide ((0 + (0 + (List.length (List.drop 0 (List.take (Int.toNat (if (8) < (((List.length x0) : Nat) : Int) then (8) else (((List.length x0) : Nat) : Int))) x0))))) ≤ (List.length (List.drop 0 (List.take (Int.toNat (if (8) < (((List.length x0) : Nat) : Int) then (8) else (((List.length x0) : Nat) : Int))) x0)))) = true then
          if decide (List.length (List.take (0 + (List.length (List.drop 0 (List.take (Int.toNat (if (8) < (((List.length x0) : Nat) : Int) then (8) else (((List.length x0) : Nat) : Int))) x0)))) (List.drop 0 (List.drop 0 (List.take (Int.toNat (if (8) < (((List.length x0) : Nat) : Int) then (8) else (((List.length x0) : Nat) : Int))) x0)))) ≤ 1000000) = true then
            if (Option.isSome (l7_0 m (m + 24) ((List.drop 0 (List.take (Int.toNat (if (8) < (((List.length x1) : Nat) : Int) then (8) else (((List.length x1) : Nat) : Int))) x1))) ((mroomyG (List.take (0 + (List.length (List.drop 0 (List.take (Int.toNat (if (8) < (((List.length x0) : Nat) : Int) then (8) else (((List.length x0) : Nat) : Int))) x0)))) (List.drop 0 (List.drop 0 (List.take (Int.toNat (if (8) < (((List.length x0) : Nat) : Int) then (8) else (((List.length x0) : Nat) : Int))) x0)))) (([] : List UInt8), (([] : List UInt8), (7))))) (decide ((((0 + (List.length (List.drop 0 (List.take (Int.toNat (if (8) < (((List.length x0) : Nat) : Int) then (8) else (((List.length x0) : Nat) : Int))) x0)))) : Nat) : Int) ≤ 6)) ((((0 + (List.length (List.drop 0 (List.take (Int.toNat (if (8) < (((List.length x0) : Nat) : Int) then (8) else (((List.length x0) : Nat) : Int))) x0)))) : Nat) : Int)) 0 ((List.drop 0 (List.take (Int.toNat (if (8) < (((List.length x0) : Nat) : Int) then (8) else (((List.length x0) : Nat) : Int))) x0))))) = true then
              if (decide (0 ≤ (((List.length ((List.drop 0 (List.take (Int.toNat (if (8) < (((List.length x0) : Nat) : Int) then (8) else (((List.length x0) : Nat) : Int))) x0)))) : Nat) : Int)) && decide ((((List.length ((List.drop 0 (List.take (Int.toNat (if (8) < (((List.length x0) : Nat) : Int) then (8) else (((List.length x0) : Nat) : Int))) x0)))) : Nat) : Int) ≤ (((List.length ((mroomyG (List.take (0 + (List.length (List.drop 0 (List.take (Int.toNat (if (8) < (((List.length x0) : Nat) : Int) then (8) else (((List.length x0) : Nat) : Int))) x0)))) (List.drop 0 (List.drop 0 (List.take (Int.toNat (if (8) < (((List.length x0) : Nat) : Int) then (8) else (((List.length x0) : Nat) : Int))) x0)))) (([] : List UInt8), (([] : List UInt8), (7)))))) : Nat) : Int))) = true then
                if rightPre (List.drop 0 (List.take (Int.toNat (((List.length ((List.drop 0 (List.take (Int.toNat (if (8) < (((List.length x0) : Nat) : Int) then (8) else (((List.length x0) : Nat) : Int))) x0)))) : Nat) : Int)) ((mroomyG (List.take (0 + (List.length (List.drop 0 (List.take (Int.toNat (if (8) < (((List.length x0) : Nat) : Int) then (8) else (((List.length x0) : Nat) : Int))) x0)))) (List.drop 0 (List.drop 0 (List.take (Int.toNat (if (8) < (((List.length x0) : Nat) : Int) then (8) else (((List.length x0) : Nat) : Int))) x0)))) (([] : List UInt8), (([] : List UInt8), (7))))))) = true then
                  if ((rightG (List.drop 0 (List.take (Int.toNat (((List.length ((List.drop 0 (List.take (Int.toNat (if (8) < (((List.length x0) : Nat) : Int) then (8) else (((List.length x0) : Nat) : Int))) x0)))) : Nat) : Int)) ((mroomyG (List.take (0 + (List.length (List.drop 0 (List.take (Int.toNat (if (8) < (((List.length x0) : Nat) : Int) then (8) else (((List.length x0) : Nat) : Int))) x0)))) (List.drop 0 (List.drop 0 (List.take (Int.toNat (if (8) < (((List.length x0) : Nat) : Int) then (8) else (((List.length x0) : Nat) : Int))) x0)))) (([] : List UInt8), (([] : List UInt8), (7)))))))) == (l7_0R m (m + 24) ((List.drop 0 (List.take (Int.toNat (if (8) < (((List.length x1) : Nat) : Int) then (8) else (((List.length x1) : Nat) : Int))) x1))) ((mroomyG (List.take (0 + (List.length (List.drop 0 (List.take (Int.toNat (if (8) < (((List.length x0) : Nat) : Int) then (8) else (((List.length x0) : Nat) : Int))) x0)))) (List.drop 0 (List.drop 0 (List.take (Int.toNat (if (8) < (((List.length x0) : Nat) : Int) then (8) else (((List.length x0) : Nat) : Int))) x0)))) (([] : List UInt8), (([] : List UInt8), (7))))) (decide ((((0 + (List.length (List.drop 0 (List.take (Int.toNat (if (8) < (((List.length x0) : Nat) : Int) then (8) else (((List.length x0) : Nat) : Int))) x0)))) : Nat) : Int) ≤ 6)) ((((0 + (List.length (List.drop 0 (List.take (Int.toNat (if (8) < (((List.length x0) : Nat) : Int) then (8) else (((List.length x0) : Nat) : Int))) x0)))) : Nat) : Int)) 0 ((List.drop 0 (List.take (Int.toNat (if (8) < (((List.length x0) : Nat) : Int) then (8) else (((List.length x0) : Nat) : Int))) x0)))).2.1) = true then
                    if decide (List.length ((List.drop 0 (List.take (Int.toNat (if (8) < (((List.length x1) : Nat) : Int) then (8) else (((List.length x1) : Nat) : Int))) x1))) ≤ 1000000 ∧ List.length (List.take (List.length ((List.drop 0 (List.take (Int.toNat (if (8) < (((List.length x0) : Nat) : Int) then (8) else (((List.length x0) : Nat) : Int))) x0)))) (List.drop 0 ((List.drop 0 (List.take (Int.toNat (if (8) < (((List.length x0) : Nat) : Int) then (8) else (((List.length x0) : Nat) : Int))) x0))))) ≤ 1000000) = true then
                      if decide (List.length (List.take (List.length ((List.drop 0 (List.take (Int.toNat (if (8) < (((List.length x0) : Nat) : Int) then (8) else (((List.length x0) : Nat) : Int))) x0)))) (List.drop 0 ((List.drop 0 (List.take (Int.toNat (if (8) < (((List.length x0) : Nat) : Int) then (8) else (((List.length x0) : Nat) : Int))) x0))))) ≤ 1000000 ∧ List.length ((List.drop 0 (List.take (Int.toNat (if (8) < (((List.length x1) : Nat) : Int) then (8) else (((List.length x1) : Nat) : Int))) x1))) ≤ 1000000) = true then
                        if ((allG ((List.drop 0 (List.take (Int.toNat (if (8) < (((List.length x1) : Nat) : Int) then (8) else (((List.length x1) : Nat) : Int))) x1))) (List.take (List.length ((List.drop 0 (List.take (Int.toNat (if (8) < (((List.length x0) : Nat) : Int) then (8) else (((List.length x0) : Nat) : Int))) x0)))) (List.drop 0 ((List.drop 0 (List.take (Int.toNat (if (8) < (((List.length x0) : Nat) : Int) then (8) else (((List.length x0) : Nat) : Int))) x0)))))) == (allG ((List.drop 0 (List.take (Int.toNat (if (8) < (((List.length x1) : Nat) : Int) then (8) else (((List.length x1) : Nat) : Int))) x1))) (List.take (List.length ((List.drop 0 (List.take (Int.toNat (if (8) < (((List.length x0) : Nat) : Int) then (8) else (((List.length x0) : Nat) : Int))) x0)))) (List.drop 0 ((List.drop 0 (List.take (Int.toNat (if (8) < (((List.length x0) : Nat) : Int) then (8) else (((List.length x0) : Nat) : Int))) x0))))))) = true then
                          if rightPre (List.take (List.length ((List.drop 0 (List.take (Int.toNat (if (8) < (((List.length x0) : Nat) : Int) then (8) else (((List.length x0) : Nat) : Int))) x0)))) (List.drop 0 ((List.drop 0 (List.take (Int.toNat (if (8) < (((List.length x0) : Nat) : Int) then (8) else (((List.length x0) : Nat) : Int))) x0))))) = true then
                            if ((!((printG (List.take (List.length ((List.drop 0 (List.take (Int.toNat (if (8) < (((List.length x0) : Nat) : Int) then (8) else (((List.length x0) : Nat) : Int))) x0)))) (List.drop 0 ((List.drop 0 (List.take (Int.toNat (if (8) < (((List.length x0) : Nat) : Int) then (8) else (((List.length x0) : Nat) : Int))) x0)))))) == ([] : List UInt8))) == (l7_0R m (m + 24) ((List.drop 0 (List.take (Int.toNat (if (8) < (((List.length x1) : Nat) : Int) then (8) else (((List.length x1) : Nat) : Int))) x1))) ((mroomyG (List.take (0 + (List.length (List.drop 0 (List.take (Int.toNat (if (8) < (((List.length x0) : Nat) : Int) then (8) else (((List.length x0) : Nat) : Int))) x0)))) (List.drop 0 (List.drop 0 (List.take (Int.toNat (if (8) < (((List.length x0) : Nat) : Int) then (8) else (((List.length x0) : Nat) : Int))) x0)))) (([] : List UInt8), (([] : List UInt8), (7))))) (decide ((((0 + (List.length (List.drop 0 (List.take (Int.toNat (if (8) < (((List.length x0) : Nat) : Int) then (8) else (((List.length x0) : Nat) : Int))) x0)))) : Nat) : Int) ≤ 6)) ((((0 + (List.length (List.drop 0 (List.take (Int.toNat (if (8) < (((List.length x0) : Nat) : Int) then (8) else (((List.length x0) : Nat) : Int))) x0)))) : Nat) : Int)) 0 ((List.drop 0 (List.take (Int.toNat (if (8) < (((List.length x0) : Nat) : Int) then (8) else (((List.length x0) : Nat) : Int))) x0)))).2.1) = true then
                              if decide (List.length ((mroomyG (List.take (0 + (List.length (List.drop 0 (List.take (Int.toNat (if (8) < (((List.length x0) : Nat) : Int) then (8) else (((List.length x0) : Nat) : Int))) x0)))) (List.drop 0 (List.drop 0 (List.take (Int.toNat (if (8) < (((List.length x0) : Nat) : Int) then (8) else (((List.length x0) : Nat) : Int))) x0)))) (([] : List UInt8), (([] : List UInt8), (7))))) ≤ 1000000 ∧ List.length (List.take (List.length ((List.drop 0 (List.take (Int.toNat (if (8) < (((List.length x0) : Nat) : Int) then (8) else (((List.length x0) : Nat) : Int))) x0)))) (List.drop 0 ((List.drop 0 (List.take (Int.toNat (if (8) < (((List.length x0) : Nat) : Int) then (8) else (((List.length x0) : Nat) : Int))) x0))))) ≤ 1000000) = true then
                                if (mintactG ((mroomyG (List.take (0 + (List.length (List.drop 0 (List.take (Int.toNat (if (8) < (((List.length x0) : Nat) : Int) then (8) else (((List.length x0) : Nat) : Int))) x0)))) (List.drop 0 (List.drop 0 (List.take (Int.toNat (if (8) < (((List.length x0) : Nat) : Int) then (8) else (((List.length x0) : Nat) : Int))) x0)))) (([] : List UInt8), (([] : List UInt8), (7))))) (List.take (List.length ((List.drop 0 (List.take (Int.toNat (if (8) < (((List.length x0) : Nat) : Int) then (8) else (((List.length x0) : Nat) : Int))) x0)))) (List.drop 0 ((List.drop 0 (List.take (Int.toNat (if (8) < (((List.length x0) : Nat) : Int) then (8) else (((List.length x0) : Nat) : Int))) x0))))) (([] : List UInt8), (([] : List UInt8), (7)))) = true then
                                  some ()
                                else
                                  none
                              else
                                none
                            else
                              none
                          else
                            none
                        else
                          none
                      else
                        none
                    else
                      none
                  else
                    none
                else
                  none
              else
                none
            else
              none
          else
            none
        else
          none
      else
        none
    else
      none
  else
    none

set_option maxHeartbeats 20000000 in
theorem tells_w0 (m : Nat) (x0 : List ((List UInt8) × (List UInt8) × Int)) (x1 : List ((List UInt8) × (List UInt8))) (c0 : (decide (0 ≤ (if (8) < (((List.length x0) : Nat) : Int) then (8) else (((List.length x0) : Nat) : Int))) && decide ((if (8) < (((List.length x0) : Nat) : Int) then (8) else (((List.length x0) : Nat) : Int)) ≤ (((List.length x0) : Nat) : Int))) = true) (c1 : decide (((0 + (List.length (List.drop 0 (List.take (Int.toNat (if (8) < (((List.length x0) : Nat) : Int) then (8) else (((List.length x0) : Nat) : Int))) x0)))) * 40) ≤ 70368744177664) = true) (c3 : (decide (0 ≤ (if (8) < (((List.length x1) : Nat) : Int) then (8) else (((List.length x1) : Nat) : Int))) && decide ((if (8) < (((List.length x1) : Nat) : Int) then (8) else (((List.length x1) : Nat) : Int)) ≤ (((List.length x1) : Nat) : Int))) = true) (c4 : decide ((0 + (0 + (List.length (List.drop 0 (List.take (Int.toNat (if (8) < (((List.length x0) : Nat) : Int) then (8) else (((List.length x0) : Nat) : Int))) x0))))) ≤ (List.length (List.drop 0 (List.take (Int.toNat (if (8) < (((List.length x0) : Nat) : Int) then (8) else (((List.length x0) : Nat) : Int))) x0)))) = true) (c5 : decide (List.length (List.take (0 + (List.length (List.drop 0 (List.take (Int.toNat (if (8) < (((List.length x0) : Nat) : Int) then (8) else (((List.length x0) : Nat) : Int))) x0)))) (List.drop 0 (List.drop 0 (List.take (Int.toNat (if (8) < (((List.length x0) : Nat) : Int) then (8) else (((List.length x0) : Nat) : Int))) x0)))) ≤ 1000000) = true) (c6 : (Option.isSome (l7_0 m (m + 24) ((List.drop 0 (List.take (Int.toNat (if (8) < (((List.length x1) : Nat) : Int) then (8) else (((List.length x1) : Nat) : Int))) x1))) ((mroomyG (List.take (0 + (List.length (List.drop 0 (List.take (Int.toNat (if (8) < (((List.length x0) : Nat) : Int) then (8) else (((List.length x0) : Nat) : Int))) x0)))) (List.drop 0 (List.drop 0 (List.take (Int.toNat (if (8) < (((List.length x0) : Nat) : Int) then (8) else (((List.length x0) : Nat) : Int))) x0)))) (([] : List UInt8), (([] : List UInt8), (7))))) (decide ((((0 + (List.length (List.drop 0 (List.take (Int.toNat (if (8) < (((List.length x0) : Nat) : Int) then (8) else (((List.length x0) : Nat) : Int))) x0)))) : Nat) : Int) ≤ 6)) ((((0 + (List.length (List.drop 0 (List.take (Int.toNat (if (8) < (((List.length x0) : Nat) : Int) then (8) else (((List.length x0) : Nat) : Int))) x0)))) : Nat) : Int)) 0 ((List.drop 0 (List.take (Int.toNat (if (8) < (((List.length x0) : Nat) : Int) then (8) else (((List.length x0) : Nat) : Int))) x0))))) = true) (c7 : (decide (0 ≤ (((List.length ((List.drop 0 (List.take (Int.toNat (if (8) < (((List.length x0) : Nat) : Int) then (8) else (((List.length x0) : Nat) : Int))) x0)))) : Nat) : Int)) && decide ((((List.length ((List.drop 0 (List.take (Int.toNat (if (8) < (((List.length x0) : Nat) : Int) then (8) else (((List.length x0) : Nat) : Int))) x0)))) : Nat) : Int) ≤ (((List.length ((mroomyG (List.take (0 + (List.length (List.drop 0 (List.take (Int.toNat (if (8) < (((List.length x0) : Nat) : Int) then (8) else (((List.length x0) : Nat) : Int))) x0)))) (List.drop 0 (List.drop 0 (List.take (Int.toNat (if (8) < (((List.length x0) : Nat) : Int) then (8) else (((List.length x0) : Nat) : Int))) x0)))) (([] : List UInt8), (([] : List UInt8), (7)))))) : Nat) : Int))) = true) (c8 : rightPre (List.drop 0 (List.take (Int.toNat (((List.length ((List.drop 0 (List.take (Int.toNat (if (8) < (((List.length x0) : Nat) : Int) then (8) else (((List.length x0) : Nat) : Int))) x0)))) : Nat) : Int)) ((mroomyG (List.take (0 + (List.length (List.drop 0 (List.take (Int.toNat (if (8) < (((List.length x0) : Nat) : Int) then (8) else (((List.length x0) : Nat) : Int))) x0)))) (List.drop 0 (List.drop 0 (List.take (Int.toNat (if (8) < (((List.length x0) : Nat) : Int) then (8) else (((List.length x0) : Nat) : Int))) x0)))) (([] : List UInt8), (([] : List UInt8), (7))))))) = true) (c9 : ((rightG (List.drop 0 (List.take (Int.toNat (((List.length ((List.drop 0 (List.take (Int.toNat (if (8) < (((List.length x0) : Nat) : Int) then (8) else (((List.length x0) : Nat) : Int))) x0)))) : Nat) : Int)) ((mroomyG (List.take (0 + (List.length (List.drop 0 (List.take (Int.toNat (if (8) < (((List.length x0) : Nat) : Int) then (8) else (((List.length x0) : Nat) : Int))) x0)))) (List.drop 0 (List.drop 0 (List.take (Int.toNat (if (8) < (((List.length x0) : Nat) : Int) then (8) else (((List.length x0) : Nat) : Int))) x0)))) (([] : List UInt8), (([] : List UInt8), (7)))))))) == (l7_0R m (m + 24) ((List.drop 0 (List.take (Int.toNat (if (8) < (((List.length x1) : Nat) : Int) then (8) else (((List.length x1) : Nat) : Int))) x1))) ((mroomyG (List.take (0 + (List.length (List.drop 0 (List.take (Int.toNat (if (8) < (((List.length x0) : Nat) : Int) then (8) else (((List.length x0) : Nat) : Int))) x0)))) (List.drop 0 (List.drop 0 (List.take (Int.toNat (if (8) < (((List.length x0) : Nat) : Int) then (8) else (((List.length x0) : Nat) : Int))) x0)))) (([] : List UInt8), (([] : List UInt8), (7))))) (decide ((((0 + (List.length (List.drop 0 (List.take (Int.toNat (if (8) < (((List.length x0) : Nat) : Int) then (8) else (((List.length x0) : Nat) : Int))) x0)))) : Nat) : Int) ≤ 6)) ((((0 + (List.length (List.drop 0 (List.take (Int.toNat (if (8) < (((List.length x0) : Nat) : Int) then (8) else (((List.length x0) : Nat) : Int))) x0)))) : Nat) : Int)) 0 ((List.drop 0 (List.take (Int.toNat (if (8) < (((List.length x0) : Nat) : Int) then (8) else (((List.length x0) : Nat) : Int))) x0)))).2.1) = true) (c13 : decide (List.length ((List.drop 0 (List.take (Int.toNat (if (8) < (((List.length x1) : Nat) : Int) then (8) else (((List.length x1) : Nat) : Int))) x1))) ≤ 1000000 ∧ List.length (List.take (List.length ((List.drop 0 (List.take (Int.toNat (if (8) < (((List.length x0) : Nat) : Int) then (8) else (((List.length x0) : Nat) : Int))) x0)))) (List.drop 0 ((List.drop 0 (List.take (Int.toNat (if (8) < (((List.length x0) : Nat) : Int) then (8) else (((List.length x0) : Nat) : Int))) x0))))) ≤ 1000000) = true) (c18 : decide (List.length (List.take (List.length ((List.drop 0 (List.take (Int.toNat (if (8) < (((List.length x0) : Nat) : Int) then (8) else (((List.length x0) : Nat) : Int))) x0)))) (List.drop 0 ((List.drop 0 (List.take (Int.toNat (if (8) < (((List.length x0) : Nat) : Int) then (8) else (((List.length x0) : Nat) : Int))) x0))))) ≤ 1000000 ∧ List.length ((List.drop 0 (List.take (Int.toNat (if (8) < (((List.length x1) : Nat) : Int) then (8) else (((List.length x1) : Nat) : Int))) x1))) ≤ 1000000) = true) (c21 : ((allG ((List.drop 0 (List.take (Int.toNat (if (8) < (((List.length x1) : Nat) : Int) then (8) else (((List.length x1) : Nat) : Int))) x1))) (List.take (List.length ((List.drop 0 (List.take (Int.toNat (if (8) < (((List.length x0) : Nat) : Int) then (8) else (((List.length x0) : Nat) : Int))) x0)))) (List.drop 0 ((List.drop 0 (List.take (Int.toNat (if (8) < (((List.length x0) : Nat) : Int) then (8) else (((List.length x0) : Nat) : Int))) x0)))))) == (allG ((List.drop 0 (List.take (Int.toNat (if (8) < (((List.length x1) : Nat) : Int) then (8) else (((List.length x1) : Nat) : Int))) x1))) (List.take (List.length ((List.drop 0 (List.take (Int.toNat (if (8) < (((List.length x0) : Nat) : Int) then (8) else (((List.length x0) : Nat) : Int))) x0)))) (List.drop 0 ((List.drop 0 (List.take (Int.toNat (if (8) < (((List.length x0) : Nat) : Int) then (8) else (((List.length x0) : Nat) : Int))) x0))))))) = true) (c24 : rightPre (List.take (List.length ((List.drop 0 (List.take (Int.toNat (if (8) < (((List.length x0) : Nat) : Int) then (8) else (((List.length x0) : Nat) : Int))) x0)))) (List.drop 0 ((List.drop 0 (List.take (Int.toNat (if (8) < (((List.length x0) : Nat) : Int) then (8) else (((List.length x0) : Nat) : Int))) x0))))) = true) (c29 : ((!((printG (List.take (List.length ((List.drop 0 (List.take (Int.toNat (if (8) < (((List.length x0) : Nat) : Int) then (8) else (((List.length x0) : Nat) : Int))) x0)))) (List.drop 0 ((List.drop 0 (List.take (Int.toNat (if (8) < (((List.length x0) : Nat) : Int) then (8) else (((List.length x0) : Nat) : Int))) x0)))))) == ([] : List UInt8))) == (l7_0R m (m + 24) ((List.drop 0 (List.take (Int.toNat (if (8) < (((List.length x1) : Nat) : Int) then (8) else (((List.length x1) : Nat) : Int))) x1))) ((mroomyG (List.take (0 + (List.length (List.drop 0 (List.take (Int.toNat (if (8) < (((List.length x0) : Nat) : Int) then (8) else (((List.length x0) : Nat) : Int))) x0)))) (List.drop 0 (List.drop 0 (List.take (Int.toNat (if (8) < (((List.length x0) : Nat) : Int) then (8) else (((List.length x0) : Nat) : Int))) x0)))) (([] : List UInt8), (([] : List UInt8), (7))))) (decide ((((0 + (List.length (List.drop 0 (List.take (Int.toNat (if (8) < (((List.length x0) : Nat) : Int) then (8) else (((List.length x0) : Nat) : Int))) x0)))) : Nat) : Int) ≤ 6)) ((((0 + (List.length (List.drop 0 (List.take (Int.toNat (if (8) < (((List.length x0) : Nat) : Int) then (8) else (((List.length x0) : Nat) : Int))) x0)))) : Nat) : Int)) 0 ((List.drop 0 (List.take (Int.toNat (if (8) < (((List.length x0) : Nat) : Int) then (8) else (((List.length x0) : Nat) : Int))) x0)))).2.1) = true) (c34 : decide (List.length ((mroomyG (List.take (0 + (List.length (List.drop 0 (List.take (Int.toNat (if (8) < (((List.length x0) : Nat) : Int) then (8) else (((List.length x0) : Nat) : Int))) x0)))) (List.drop 0 (List.drop 0 (List.take (Int.toNat (if (8) < (((List.length x0) : Nat) : Int) then (8) else (((List.length x0) : Nat) : Int))) x0)))) (([] : List UInt8), (([] : List UInt8), (7))))) ≤ 1000000 ∧ List.length (List.take (List.length ((List.drop 0 (List.take (Int.toNat (if (8) < (((List.length x0) : Nat) : Int) then (8) else (((List.length x0) : Nat) : Int))) x0)))) (List.drop 0 ((List.drop 0 (List.take (Int.toNat (if (8) < (((List.length x0) : Nat) : Int) then (8) else (((List.length x0) : Nat) : Int))) x0))))) ≤ 1000000) = true) (c36 : (mintactG ((mroomyG (List.take (0 + (List.length (List.drop 0 (List.take (Int.toNat (if (8) < (((List.length x0) : Nat) : Int) then (8) else (((List.length x0) : Nat) : Int))) x0)))) (List.drop 0 (List.drop 0 (List.take (Int.toNat (if (8) < (((List.length x0) : Nat) : Int) then (8) else (((List.length x0) : Nat) : Int))) x0)))) (([] : List UInt8), (([] : List UInt8), (7))))) (List.take (List.length ((List.drop 0 (List.take (Int.toNat (if (8) < (((List.length x0) : Nat) : Int) then (8) else (((List.length x0) : Nat) : Int))) x0)))) (List.drop 0 ((List.drop 0 (List.take (Int.toNat (if (8) < (((List.length x0) : Nat) : Int) then (8) else (((List.length x0) : Nat) : Int))) x0))))) (([] : List UInt8), (([] : List UInt8), (7)))) = true) : (evCall F S21 (m + 25) 7 [(.d (.sl (.pair .str (.pair .str (.int .i64))) x0)), (.d (.sl (.pair .str .str) x1))] []).run = some (.d (.bool true), []) := by
  refine runT_ok (LS := (fun k => if k = 3758096864 then some (l7_0E (((List.drop 0 (List.take (Int.toNat (if (8) < (((List.length x1) : Nat) : Int) then (8) else (((List.length x1) : Nat) : Int))) x1)))) (((mroomyG (List.take (0 + (List.length (List.drop 0 (List.take (Int.toNat (if (8) < (((List.length x0) : Nat) : Int) then (8) else (((List.length x0) : Nat) : Int))) x0)))) (List.drop 0 (List.drop 0 (List.take (Int.toNat (if (8) < (((List.length x0) : Nat) : Int) then (8) else (((List.length x0) : Nat) : Int))) x0)))) (([] : List UInt8), (([] : List UInt8), (7)))))) ((l7_0R m (m + 24) ((List.drop 0 (List.take (Int.toNat (if (8) < (((List.length x1) : Nat) : Int) then (8) else (((List.length x1) : Nat) : Int))) x1))) ((mroomyG (List.take (0 + (List.length (List.drop 0 (List.take (Int.toNat (if (8) < (((List.length x0) : Nat) : Int) then (8) else (((List.length x0) : Nat) : Int))) x0)))) (List.drop 0 (List.drop 0 (List.take (Int.toNat (if (8) < (((List.length x0) : Nat) : Int) then (8) else (((List.length x0) : Nat) : Int))) x0)))) (([] : List UInt8), (([] : List UInt8), (7))))) (decide ((((0 + (List.length (List.drop 0 (List.take (Int.toNat (if (8) < (((List.length x0) : Nat) : Int) then (8) else (((List.length x0) : Nat) : Int))) x0)))) : Nat) : Int) ≤ 6)) ((((0 + (List.length (List.drop 0 (List.take (Int.toNat (if (8) < (((List.length x0) : Nat) : Int) then (8) else (((List.length x0) : Nat) : Int))) x0)))) : Nat) : Int)) 0 ((List.drop 0 (List.take (Int.toNat (if (8) < (((List.length x0) : Nat) : Int) then (8) else (((List.length x0) : Nat) : Int))) x0)))).2.1) (((((0 + (List.length (List.drop 0 (List.take (Int.toNat (if (8) < (((List.length x0) : Nat) : Int) then (8) else (((List.length x0) : Nat) : Int))) x0)))) : Nat) : Int))) ((l7_0R m (m + 24) ((List.drop 0 (List.take (Int.toNat (if (8) < (((List.length x1) : Nat) : Int) then (8) else (((List.length x1) : Nat) : Int))) x1))) ((mroomyG (List.take (0 + (List.length (List.drop 0 (List.take (Int.toNat (if (8) < (((List.length x0) : Nat) : Int) then (8) else (((List.length x0) : Nat) : Int))) x0)))) (List.drop 0 (List.drop 0 (List.take (Int.toNat (if (8) < (((List.length x0) : Nat) : Int) then (8) else (((List.length x0) : Nat) : Int))) x0)))) (([] : List UInt8), (([] : List UInt8), (7))))) (decide ((((0 + (List.length (List.drop 0 (List.take (Int.toNat (if (8) < (((List.length x0) : Nat) : Int) then (8) else (((List.length x0) : Nat) : Int))) x0)))) : Nat) : Int) ≤ 6)) ((((0 + (List.length (List.drop 0 (List.take (Int.toNat (if (8) < (((List.length x0) : Nat) : Int) then (8) else (((List.length x0) : Nat) : Int))) x0)))) : Nat) : Int)) 0 ((List.drop 0 (List.take (Int.toNat (if (8) < (((List.length x0) : Nat) : Int) then (8) else (((List.length x0) : Nat) : Int))) x0)))).2.2) (((List.drop 0 (List.take (Int.toNat (if (8) < (((List.length x0) : Nat) : Int) then (8) else (((List.length x0) : Nat) : Int))) x0)))) 0) else none)) (fn := fn7) (r := .d (.bool true)) (B' := []) (vis := [(3758096864, [.top, .top, .top, .top, .top, (.sr 0 0 (0 + (List.length (List.drop 0 (List.take (Int.toNat (if (8) < (((List.length x0) : Nat) : Int) then (8) else (((List.length x0) : Nat) : Int))) x0)))) 3 none), (.d (.sl (.pair .str .str) (List.drop 0 (List.take (Int.toNat (if (8) < (((List.length x1) : Nat) : Int) then (8) else (((List.length x1) : Nat) : Int))) x1)))), (.d (.sl (.pair .str (.pair .str (.int .i64))) (mroomyG (List.take (0 + (List.length (List.drop 0 (List.take (Int.toNat (if (8) < (((List.length x0) : Nat) : Int) then (8) else (((List.length x0) : Nat) : Int))) x0)))) (List.drop 0 (List.drop 0 (List.take (Int.toNat (if (8) < (((List.length x0) : Nat) : Int) then (8) else (((List.length x0) : Nat) : Int))) x0)))) (([] : List UInt8), (([] : List UInt8), (7)))))), (.d (.bool (decide ((((0 + (List.length (List.drop 0 (List.take (Int.toNat (if (8) < (((List.length x0) : Nat) : Int) then (8) else (((List.length x0) : Nat) : Int))) x0)))) : Nat) : Int) ≤ 6)))), .top, .top, .top, .top, .top, .top, .top, .top, .top, .top, .top, .top, .top, .top, .top, .top, .top, .top, .top, .top, (.sr 0 0 (0 + (List.length (List.drop 0 (List.take (Int.toNat (if (8) < (((List.length x0) : Nat) : Int) then (8) else (((List.length x0) : Nat) : Int))) x0)))) 3 none), (.d (.int .i64 (((0 + (List.length (List.drop 0 (List.take (Int.toNat (if (8) < (((List.length x0) : Nat) : Int) then (8) else (((List.length x0) : Nat) : Int))) x0)))) : Nat) : Int))), (.d (.int .i64 (0))), .top, .top, .top, .top, .top, .top, .top, .top, .top, .top, .top, .top, .top, .top, .top, .top, .top, .top, .top, .top, .top, .top, .top, .top, .top, .top, .top, .top, .top, .top, .top, .top, .top, .top, .top, .top, .top, .top, .top, .top, .top], [(.arr (.pair .str (.pair .str (.int .i64))) (List.drop 0 (List.take (Int.toNat (if (8) < (((List.length x0) : Nat) : Int) then (8) else (((List.length x0) : Nat) : Int))) x0)) false)])]) (by kernel_rfl) rfl (by kernel_rfl) (M.run_of_path _ [true, true, true, true, true, true, true, true, true, true, true, true, true, true, true, true, true, true, true, true, true, true, true, true, true, true, true, true, true, true, true, true, true, true, true, true, true] _ _ (by kernel_rfl) (all_t c0 (all_t c1 (all_t rfl (all_t c3 (all_t c4 (all_t c5 (all_t c7 (all_t c8 (all_t c9 (all_t c9 (all_t c9 (all_t (show decide ((0 + (List.length ((List.drop 0 (List.take (Int.toNat (if (8) < (((List.length x0) : Nat) : Int) then (8) else (((List.length x0) : Nat) : Int))) x0))))) ≤ (List.length ((List.drop 0 (List.take (Int.toNat (if (8) < (((List.length x0) : Nat) : Int) then (8) else (((List.length x0) : Nat) : Int))) x0))))) = true from decide_eq_true (Nat.le_of_eq (Nat.zero_add _))) (all_t c13 (all_t c9 (all_t c9 (all_t c9 (all_t (show decide ((0 + (List.length ((List.drop 0 (List.take (Int.toNat (if (8) < (((List.length x0) : Nat) : Int) then (8) else (((List.length x0) : Nat) : Int))) x0))))) ≤ (List.length ((List.drop 0 (List.take (Int.toNat (if (8) < (((List.length x0) : Nat) : Int) then (8) else (((List.length x0) : Nat) : Int))) x0))))) = true from decide_eq_true (Nat.le_of_eq (Nat.zero_add _))) (all_t c18 (all_t c9 (all_t c9 (all_t c21 (all_t c21 (all_t (show decide ((0 + (List.length ((List.drop 0 (List.take (Int.toNat (if (8) < (((List.length x0) : Nat) : Int) then (8) else (((List.length x0) : Nat) : Int))) x0))))) ≤ (List.length ((List.drop 0 (List.take (Int.toNat (if (8) < (((List.length x0) : Nat) : Int) then (8) else (((List.length x0) : Nat) : Int))) x0))))) = true from decide_eq_true (Nat.le_of_eq (Nat.zero_add _))) (all_t c24 (all_t c21 (all_t c21 (all_t c21 (all_t c21 (all_t c29 (all_t c29 (all_t c29 (all_t c29 (all_t (show decide ((0 + (List.length ((List.drop 0 (List.take (Int.toNat (if (8) < (((List.length x0) : Nat) : Int) then (8) else (((List.length x0) : Nat) : Int))) x0))))) ≤ (List.length ((List.drop 0 (List.take (Int.toNat (if (8) < (((List.length x0) : Nat) : Int) then (8) else (((List.length x0) : Nat) : Int))) x0))))) = true from decide_eq_true (Nat.le_of_eq (Nat.zero_add _))) (all_t c34 (all_t c29 (all_t c36 (all_t c36 all_nil)))))))))))))))))))))))))))))))))))))) ?_
  intro p hp p2 hq
  rcases List.mem_cons.1 hp with rfl | hp
  · skip
    have h3 := l7_0_ok m (m + 24) ((List.drop 0 (List.take (Int.toNat (if (8) < (((List.length x1) : Nat) : Int) then (8) else (((List.length x1) : Nat) : Int))) x1))) ((mroomyG (List.take (0 + (List.length (List.drop 0 (List.take (Int.toNat (if (8) < (((List.length x0) : Nat) : Int) then (8) else (((List.length x0) : Nat) : Int))) x0)))) (List.drop 0 (List.drop 0 (List.take (Int.toNat (if (8) < (((List.length x0) : Nat) : Int) then (8) else (((List.length x0) : Nat) : Int))) x0)))) (([] : List UInt8), (([] : List UInt8), (7))))) (decide ((((0 + (List.length (List.drop 0 (List.take (Int.toNat (if (8) < (((List.length x0) : Nat) : Int) then (8) else (((List.length x0) : Nat) : Int))) x0)))) : Nat) : Int) ≤ 6)) ((((0 + (List.length (List.drop 0 (List.take (Int.toNat (if (8) < (((List.length x0) : Nat) : Int) then (8) else (((List.length x0) : Nat) : Int))) x0)))) : Nat) : Int)) 0 ((List.drop 0 (List.take (Int.toNat (if (8) < (((List.length x0) : Nat) : Int) then (8) else (((List.length x0) : Nat) : Int))) x0))) _ (some_getD (d := l7_0D) c6)
    have h3 := turns_eq (e := [.top, .top, .top, .top, .top, (.sr 0 0 (0 + (List.length (List.drop 0 (List.take (Int.toNat (if (8) < (((List.length x0) : Nat) : Int) then (8) else (((List.length x0) : Nat) : Int))) x0)))) 3 none), (.d (.sl (.pair .str .str) (List.drop 0 (List.take (Int.toNat (if (8) < (((List.length x1) : Nat) : Int) then (8) else (((List.length x1) : Nat) : Int))) x1)))), (.d (.sl (.pair .str (.pair .str (.int .i64))) (mroomyG (List.take (0 + (List.length (List.drop 0 (List.take (Int.toNat (if (8) < (((List.length x0) : Nat) : Int) then (8) else (((List.length x0) : Nat) : Int))) x0)))) (List.drop 0 (List.drop 0 (List.take (Int.toNat (if (8) < (((List.length x0) : Nat) : Int) then (8) else (((List.length x0) : Nat) : Int))) x0)))) (([] : List UInt8), (([] : List UInt8), (7)))))), (.d (.bool (decide ((((0 + (List.length (List.drop 0 (List.take (Int.toNat (if (8) < (((List.length x0) : Nat) : Int) then (8) else (((List.length x0) : Nat) : Int))) x0)))) : Nat) : Int) ≤ 6)))), .top, .top, .top, .top, .top, .top, .top, .top, .top, .top, .top, .top, .top, .top, .top, .top, .top, .top, .top, .top, (.sr 0 0 (0 + (List.length (List.drop 0 (List.take (Int.toNat (if (8) < (((List.length x0) : Nat) : Int) then (8) else (((List.length x0) : Nat) : Int))) x0)))) 3 none), (.d (.int .i64 (((0 + (List.length (List.drop 0 (List.take (Int.toNat (if (8) < (((List.length x0) : Nat) : Int) then (8) else (((List.length x0) : Nat) : Int))) x0)))) : Nat) : Int))), (.d (.int .i64 (0))), .top, .top, .top, .top, .top, .top, .top, .top, .top, .top, .top, .top, .top, .top, .top, .top, .top, .top, .top, .top, .top, .top, .top, .top, .top, .top, .top, .top, .top, .top, .top, .top, .top, .top, .top, .top, .top, .top, .top, .top, .top]) (B := [(.arr (.pair .str (.pair .str (.int .i64))) (List.drop 0 (List.take (Int.toNat (if (8) < (((List.length x0) : Nat) : Int) then (8) else (((List.length x0) : Nat) : Int))) x0)) false)]) (by unfold l7_0H; (try rw [show (0 + (List.length (List.drop 0 (List.take (Int.toNat (if (8) < (((List.length x0) : Nat) : Int) then (8) else (((List.length x0) : Nat) : Int))) x0)))) = (List.length (List.drop 0 (List.take (Int.toNat (if (8) < (((List.length x0) : Nat) : Int) then (8) else (((List.length x0) : Nat) : Int))) x0))) from by simp])) rfl h3
    exact Eq.trans (Eq.mp (by kernel_rfl) h3) hq
  cases hp

set_option maxHeartbeats 20000000 in
theorem tells_ok (m : Nat) (x0 : List ((List UInt8) × (List UInt8) × Int)) (x1 : List ((List UInt8) × (List UInt8))) (q : Unit) (h : tells m x0 x1 = some q) : (evCall F S21 (m + 25) 7 [(.d (.sl (.pair .str (.pair .str (.int .i64))) x0)), (.d (.sl (.pair .str .str) x1))] []).run = some (.d (.bool true), []) := by
  unfold tells at h
  refine ite_cases h (fun c0 h => ?_) (fun c0 h => ?_)
  · skip
    refine ite_cases h (fun c1 h => ?_) (fun c1 h => ?_)
    · skip
      refine ite_cases h (fun c3 h => ?_) (fun c3 h => ?_)
      · skip
        refine ite_cases h (fun c4 h => ?_) (fun c4 h => ?_)
        · skip
          refine ite_cases h (fun c5 h => ?_) (fun c5 h => ?_)
          · skip
            refine ite_cases h (fun c6 h => ?_) (fun c6 h => ?_)
            · skip
              refine ite_cases h (fun c7 h => ?_) (fun c7 h => ?_)
              · skip
                refine ite_cases h (fun c8 h => ?_) (fun c8 h => ?_)
                · skip
                  refine ite_cases h (fun c9 h => ?_) (fun c9 h => ?_)
                  · skip
                    refine ite_cases h (fun c13 h => ?_) (fun c13 h => ?_)
                    · skip
                      refine ite_cases h (fun c18 h => ?_) (fun c18 h => ?_)
                      · skip
                        refine ite_cases h (fun c21 h => ?_) (fun c21 h => ?_)
                        · skip
                          refine ite_cases h (fun c24 h => ?_) (fun c24 h => ?_)
                          · skip
                            refine ite_cases h (fun c29 h => ?_) (fun c29 h => ?_)
                            · skip
                              refine ite_cases h (fun c34 h => ?_) (fun c34 h => ?_)
                              · skip
                                refine ite_cases h (fun c36 h => ?_) (fun c36 h => ?_)
                                · skip
                                  cases h
                                  exact tells_w0 m x0 x1 c0 c1 c3 c4 c5 c6 c7 c8 c9 c13 c18 c21 c24 c29 c34 c36
                                · skip
                                  cases h
                              · skip
                                cases h
                            · skip
                              cases h
                          · skip
                            cases h
                        · skip
                          cases h
                      · skip
                        cases h
                    · skip
                      cases h
                  · skip
                    cases h
                · skip
                  cases h
              · skip
                cases h
            · skip
              cases h
          · skip
            cases h
        · skip
          cases h
      · skip
        cases h
    · skip
      cases h
  · skip
    cases h
theorem tells_at (x0 : List ((List UInt8) × (List UInt8) × Int)) (x1 : List ((List UInt8) × (List UInt8))) (h : ∃ m q, tells m x0 x1 = some q) : ∃ g B', CallAt Tryd.prog 7 g ∧ (g [(.d (.sl (.pair .str (.pair .str (.int .i64))) x0)), (.d (.sl (.pair .str .str) x1))] []).run = some (.d (.bool true), B') := by
  obtain ⟨m, q, h⟩ := h
  exact ⟨_, _, evCall_atH mixed kinds hds S21 S21_ok (m + 25) 7, tells_ok m x0 x1 q h⟩

end Go.Proofs.YtghkbjflejgieaaDoor.Dec
namespace Go.Proofs.YtghkbjflejgieaaDoor.Dec
open Go.Ev
set_option linter.unusedVariables false
set_option linter.unusedSimpArgs false
set_option maxRecDepth 100000
theorem print_ne (ms : List MT) : (!(printG ms == ([] : List UInt8))) = rightG ms := by
  unfold printG
  cases rightG ms with
  | true => rfl
  | false => rfl
theorem own_loop (m : Nat) (s6 : LB) (s7 own : List MT) (hb : own.length ≤ 1000000) (hx : ∀ x ∈ own, x.1.length ≤ 9223372036854775807) : ∀ (n k : Nat) (b : Bool), k ≤ own.length → own.length - k < n → ∃ j, l7_0 m n s6 s7 b ((own.length : Nat) : Int) ((k : Nat) : Int) own = some (0, (b && (own.drop k).all okM), j)
  | 0, k, _, _, h => by omega
  | n + 1, k, b, h1, h2 => by
    rw [l7_0]
    by_cases hk : k < own.length
    · have e1 : decide (((k : Nat) : Int) < (((List.length own) : Nat) : Int)) = true := decide_eq_true (by omega)
      have e2 : decide ((0 : Int) ≤ ((k : Nat) : Int)) = true := decide_eq_true (by omega)
      have e3 : decide (k < List.length own) = true := decide_eq_true hk
      have e7 : IntKind.wrap .i64 (((k : Nat) : Int) + (1)) = ((k + 1 : Nat) : Int) := by rw [wrap_id (by omega) (by omega)]; rfl
      have hq := hx _ (getD_mem own k (([] : List UInt8), (([] : List UInt8), 0)) hk)
      have go := fun b => own_loop m s6 s7 own hb hx n (k + 1) b (by omega) (by omega)
      rw [drop_getD own k (([] : List UInt8), (([] : List UInt8), 0)) hk]
      simp only [show Int.toNat ((k : Nat) : Int) = k from rfl, e1, e2, e3, e7, Nat.zero_add, List.all_cons, ↓reduceIte]
      generalize own.getD k (([] : List UInt8), (([] : List UInt8), 0)) = q at *
      have e4 : okPre q = true := decide_eq_true hq
      cases b with
      | true =>
        obtain ⟨j, hj⟩ := go (okM q)
        exact ⟨j, by simp only [e4, ↓reduceIte]; rw [hj, Bool.true_and]⟩
      | false =>
        obtain ⟨j, hj⟩ := go false
        exact ⟨j, by simp only [Bool.false_eq_true, ↓reduceIte]; rw [hj]; simp⟩
    · have e1 : decide (((k : Nat) : Int) < (((List.length own) : Nat) : Int)) = false := decide_eq_false (by omega)
      rw [e1, if_neg (by simp), List.drop_eq_nil_of_le (by omega)]
      exact ⟨_, by rw [List.all_nil, Bool.and_true]⟩
theorem tells_pure (x0 : List MT) (x1 : LB) (hx : ∀ x ∈ x0, x.1.length ≤ 9223372036854775807) : ∃ m q, tells m x0 x1 = some q := by
  refine ⟨100, (), ?_⟩
  unfold tells
  skip
  have c2 : (decide (0 ≤ (if (8) < (((List.length x0) : Nat) : Int) then (8) else (((List.length x0) : Nat) : Int))) && decide ((if (8) < (((List.length x0) : Nat) : Int) then (8) else (((List.length x0) : Nat) : Int)) ≤ (((List.length x0) : Nat) : Int))) = true := by
    split <;> simp <;> omega
  have c3 : (decide (0 ≤ (if (8) < (((List.length x1) : Nat) : Int) then (8) else (((List.length x1) : Nat) : Int))) && decide ((if (8) < (((List.length x1) : Nat) : Int) then (8) else (((List.length x1) : Nat) : Int)) ≤ (((List.length x1) : Nat) : Int))) = true := by
    split <;> simp <;> omega
  have hO : List.drop 0 (List.take (Int.toNat (if (8) < (((List.length x0) : Nat) : Int) then (8) else (((List.length x0) : Nat) : Int))) x0) = x0.take 8 := by
    rw [List.drop_zero]
    split
    · rfl
    · rw [Int.toNat_natCast, List.take_length, List.take_of_length_le (by omega)]
  have hS : List.drop 0 (List.take (Int.toNat (if (8) < (((List.length x1) : Nat) : Int) then (8) else (((List.length x1) : Nat) : Int))) x1) = x1.take 8 := by
    rw [List.drop_zero]
    split
    · rfl
    · rw [Int.toNat_natCast, List.take_length, List.take_of_length_le (by omega)]
  have hOl : (x0.take 8).length ≤ 8 := by rw [List.length_take]; omega
  have hSl : (x1.take 8).length ≤ 8 := by rw [List.length_take]; omega
  have hOx : ∀ x ∈ x0.take 8, x.1.length ≤ 9223372036854775807 := fun x h => hx x (List.mem_of_mem_take h)
  obtain ⟨own, ho⟩ : ∃ own, x0.take 8 = own := ⟨_, rfl⟩
  obtain ⟨st, hs⟩ : ∃ st, x1.take 8 = st := ⟨_, rfl⟩
  rw [ho] at hO hOl hOx
  rw [hs] at hS hSl
  have tO : List.take (List.length own) (List.drop 0 own) = own := by rw [List.drop_zero, List.take_length]
  have t1 : decide (((0 + List.length own) * 40) ≤ 70368744177664) = true := decide_eq_true (by omega)
  have t2 : decide (0 + List.length own ≤ List.length own) = true := decide_eq_true (by omega)
  have hF : List.drop 0 (List.take (List.length own) (mroomyG own (([] : List UInt8), (([] : List UInt8), (7))))) = own := by
    rw [List.drop_zero]
    unfold mroomyG
    rw [List.take_append_of_le_length (Nat.le_refl _), List.take_length]
  have hFl : (mroomyG own (([] : List UInt8), (([] : List UInt8), (7)))).length = own.length + 80 := by unfold mroomyG; rw [List.length_append, List.length_replicate]
  have hI : mintactG (mroomyG own (([] : List UInt8), (([] : List UInt8), (7)))) own (([] : List UInt8), (([] : List UInt8), (7))) = true := decide_eq_true rfl
  obtain ⟨full, hfull⟩ : ∃ f, mroomyG own (([] : List UInt8), (([] : List UInt8), (7))) = f := ⟨_, rfl⟩
  rw [hfull] at hF hFl hI
  have t3 : (decide (0 ≤ (((List.length own) : Nat) : Int)) && decide ((((List.length own) : Nat) : Int) ≤ (((List.length full) : Nat) : Int))) = true := by rw [hFl]; simp; omega
  have t4 : decide (List.length own ≤ 1000000) = true := decide_eq_true (by omega)
  have t5 : rightPre own = true := decide_eq_true ⟨by omega, hOx⟩
  have t6 : decide (List.length st ≤ 1000000 ∧ List.length own ≤ 1000000) = true := decide_eq_true ⟨by omega, by omega⟩
  have t7 : decide (List.length own ≤ 1000000 ∧ List.length st ≤ 1000000) = true := decide_eq_true ⟨by omega, by omega⟩
  have t8 : decide (List.length full ≤ 1000000 ∧ List.length own ≤ 1000000) = true := decide_eq_true ⟨by omega, by omega⟩
  have z1 : 0 + (0 + own.length) = own.length := by omega
  have z2 : 0 + own.length = own.length := by omega
  obtain ⟨j, hj⟩ := own_loop 100 st full own (by omega) hOx (100 + 24) 0 (decide ((((List.length own) : Nat) : Int) ≤ 6)) (by omega) (by omega)
  have q2 : decide ((((List.length own) : Nat) : Int) ≤ 6) = decide (own.length ≤ 6) := by rw [decide_eq_decide]; omega
  have hR : (decide (own.length ≤ 6) && own.all okM) = rightG own := by unfold rightG; rw [Bool.and_comm]
  simp only [Int.natCast_zero, List.drop_zero] at hj
  rw [q2, hR] at hj
  have n1 := print_ne own
  simp only [c2, c3, hO, hS, z1, z2, List.drop_zero] at *
  simp only [t4, t1, t2, hfull, tO, List.take_length, q2, hj, l7_0R, t3, t5, t6, t7, t8, hI, hF, n1, show ∀ k : Nat, Int.toNat ((k : Nat) : Int) = k from fun _ => rfl, beq_self_eq_true, Nat.le_refl, decide_true, Option.isSome_some, Option.getD_some, ↓reduceIte]
theorem tells_law (x0 : List MT) (x1 : LB) (ok0 : Ty.ok (.sl (.pair .str (.pair .str (.int .i64)))) x0) (_ : Ty.ok (.sl (.pair .str .str)) x1) : ∃ g B', CallAt Tryd.prog 7 g ∧ (g [argAV false (.sl (.pair .str (.pair .str (.int .i64)))) x0, argAV false (.sl (.pair .str .str)) x1] []).run = some (.d (.bool true), B') := tells_at x0 x1 (tells_pure x0 x1 (fun x hx => (ok0.2 x hx).1))

end Go.Proofs.YtghkbjflejgieaaDoor.Dec
