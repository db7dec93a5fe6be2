/- Roomy, Intact. What was put is got. BlockTells, as a plain function. BlockTells: its plain law. -/
import Derived.Test.YtghkbjflejgieaaQT6
import Derived.KernelRfl
namespace Go.Proofs.Ytghkbjflejgieaa.Dec
open Go.Ev
set_option linter.unusedVariables false
set_option linter.unusedSimpArgs false
set_option maxRecDepth 100000
noncomputable def fn13 : AFn := (F 13).getD ⟨0, [], .bad, false, false, noHd⟩
noncomputable def body13 : AC := fn13.body
def l13_0 (m : Nat) : Nat → Int × Int → Int → List (Int × Int) → Option (Nat × Int × (List (Int × Int)))
  | 0, _, _, _ => none
  | n + 1, x1, s6, b1 => if decide (s6 < (((List.length b1) : Nat) : Int)) = true then
      if decide (0 ≤ s6) = true then
        if decide ((0 + (Int.toNat s6)) < (List.length b1)) = true then
          l13_0 m n x1 ((IntKind.wrap .i64 (s6 + (1)))) ((List.set b1 (0 + (Int.toNat s6)) x1))
        else
          none
      else
        none
    else
      some (0, s6, b1)
def l13_0D : Nat × Int × (List (Int × Int)) := (0, 0, [])
@[reducible] def l13_0R (m n : Nat) (x1 : Int × Int) (s6 : Int) (b1 : List (Int × Int)) : Nat × Int × (List (Int × Int)) := Option.getD (l13_0 m n x1 s6 b1) l13_0D
def l13_0H (x1 : Int × Int) (s6 : Int) (b1 : List (Int × Int)) : Env := [.top, .top, .top, (.ptr 0 0), .top, (.sr 1 0 (List.length b1) 2 none), (.d (.int .i64 s6)), .top, .top, .top, .top, .top, .top, .top, .top, .top, .top, .top, .top, .top, .top, .top, .top, .top, .top, .top, .top]
def l13_0B (x1 : Int × Int) (s6 : Int) (b1 : List (Int × Int)) : Boxes := [(.cells [(.d (.int .i64 x1.1)), (.d (.int .i64 x1.2))]), (.arr (.pair (.int .i64) (.int .i64)) b1 true)]
def l13_0E (x1 : Int × Int) (s6 : Int) (b1 : List (Int × Int)) : Nat → AEx × Env × Boxes
  | _ => (.exit 0, [.top, .top, .top, (.ptr 0 0), .top, (.sr 1 0 (List.length b1) 2 none), (.d (.int .i64 s6)), .top, .top, .top, .top, .top, .top, .top, .top, .top, (.d (.int .i64 s6)), (.sr 1 0 (List.length b1) 2 none), (.d (.int .i64 (((List.length b1) : Nat) : Int))), (.d (.bool (decide (s6 < (((List.length b1) : Nat) : Int))))), .top, .top, .top, .top, .top, .top, .top], [(.cells [(.d (.int .i64 x1.1)), (.d (.int .i64 x1.2))]), (.arr (.pair (.int .i64) (.int .i64)) b1 true)])
noncomputable def lbl13_0 : AC := loopBody 104 body13

set_option maxHeartbeats 20000000 in
theorem l13_0_w0 (m n : Nat) (x1 : Int × Int) (s6 : Int) (b1 : List (Int × Int)) (r : AEx × Env × Boxes) (c0 : decide (s6 < (((List.length b1) : Nat) : Int)) = true) (c1 : decide (0 ≤ s6) = true) (c3 : decide ((0 + (Int.toNat s6)) < (List.length b1)) = true) (ih : (turns (hds 13 104) 0 104 (evC byref (evCall F S15 (m + 24)) (m + 24) 0 (hds 13) lbl13_0) n (l13_0H x1 ((IntKind.wrap .i64 (s6 + (1)))) ((List.set b1 (0 + (Int.toNat s6)) x1))) (l13_0B x1 ((IntKind.wrap .i64 (s6 + (1)))) ((List.set b1 (0 + (Int.toNat s6)) x1)))).run = some r) : (turns (hds 13 104) 0 104 (evC byref (evCall F S15 (m + 24)) (m + 24) 0 (hds 13) lbl13_0) (n + 1) (l13_0H x1 s6 b1) (l13_0B x1 s6 b1)).run = some r := by
  have ht : (turn (hds 13 104) 0 104 (evC byref (evCall F S15 (m + 24)) (m + 24) 0 (hds 13) lbl13_0) (l13_0H x1 s6 b1) (l13_0B x1 s6 b1)).run = some (.normal, [.top, .top, .top, (.ptr 0 0), .top, (.sr 1 0 (List.length b1) 2 none), (.d (.int .i64 (IntKind.wrap .i64 (s6 + (1))))), .top, .top, .top, .top, .top, .top, .top, .top, .top, .top, .top, .top, .top, .top, .top, .top, .top, .top, .top, .top], [(.cells [(.d (.int .i64 x1.1)), (.d (.int .i64 x1.2))]), (.arr (.pair (.int .i64) (.int .i64)) (List.set b1 (0 + (Int.toNat s6)) x1) true)]) := M.run_of_path _ [true, true, true, true] _ _ (by kernel_rfl) (all_t c0 (all_t c1 (all_t c0 (all_t c3 all_nil))))
  refine turns_step ht (turns_eq ?_ ?_ ih)
  · unfold l13_0H
    first | (simp; done) | (simp [Nat.add_assoc]; done)
  · unfold l13_0B
    simp
set_option maxHeartbeats 20000000 in
theorem l13_0_w1 (m n : Nat) (x1 : Int × Int) (s6 : Int) (b1 : List (Int × Int)) (c0 : ¬ decide (s6 < (((List.length b1) : Nat) : Int)) = true) : (turns (hds 13 104) 0 104 (evC byref (evCall F S15 (m + 24)) (m + 24) 0 (hds 13) lbl13_0) (n + 1) (l13_0H x1 s6 b1) (l13_0B x1 s6 b1)).run = some (.exit 0, [.top, .top, .top, (.ptr 0 0), .top, (.sr 1 0 (List.length b1) 2 none), (.d (.int .i64 s6)), .top, .top, .top, .top, .top, .top, .top, .top, .top, (.d (.int .i64 s6)), (.sr 1 0 (List.length b1) 2 none), (.d (.int .i64 (((List.length b1) : Nat) : Int))), (.d (.bool (decide (s6 < (((List.length b1) : Nat) : Int))))), .top, .top, .top, .top, .top, .top, .top], [(.cells [(.d (.int .i64 x1.1)), (.d (.int .i64 x1.2))]), (.arr (.pair (.int .i64) (.int .i64)) b1 true)]) := by
  exact turns_last (by simp) (M.run_of_path _ [false] _ _ (by kernel_rfl) (all_f c0 all_nil)) 

set_option maxHeartbeats 20000000 in
theorem l13_0_step (m n : Nat) (ih : ∀ (x1 : Int × Int) (s6 : Int) (b1 : List (Int × Int)) (q : Nat × Int × (List (Int × Int))), l13_0 m n x1 s6 b1 = some q → (turns (hds 13 104) 0 104 (evC byref (evCall F S15 (m + 24)) (m + 24) 0 (hds 13) lbl13_0) n (l13_0H x1 s6 b1) (l13_0B x1 s6 b1)).run = some (l13_0E (x1) (q.2.1) (q.2.2) q.1)) (x1 : Int × Int) (s6 : Int) (b1 : List (Int × Int)) (q : Nat × Int × (List (Int × Int))) (h : l13_0 m (n + 1) x1 s6 b1 = some q) : (turns (hds 13 104) 0 104 (evC byref (evCall F S15 (m + 24)) (m + 24) 0 (hds 13) lbl13_0) (n + 1) (l13_0H x1 s6 b1) (l13_0B x1 s6 b1)).run = some (l13_0E (x1) (q.2.1) (q.2.2) q.1) := by
  rw [l13_0] at h
  refine ite_cases h (fun c0 h => ?_) (fun c0 h => ?_)
  · skip
    refine ite_cases h (fun c1 h => ?_) (fun c1 h => ?_)
    · skip
      refine ite_cases h (fun c3 h => ?_) (fun c3 h => ?_)
      · skip
        exact l13_0_w0 m n x1 s6 b1 _ c0 c1 c3 (ih _ _ _ q h)
      · skip
        cases h
    · skip
      cases h
  · skip
    cases h
    exact l13_0_w1 m n x1 s6 b1 c0
set_option maxHeartbeats 20000000 in
theorem l13_0_ok (m : Nat) : ∀ (n : Nat) (x1 : Int × Int) (s6 : Int) (b1 : List (Int × Int)) (q : Nat × Int × (List (Int × Int))), l13_0 m n x1 s6 b1 = some q → (turns (hds 13 104) 0 104 (evC byref (evCall F S15 (m + 24)) (m + 24) 0 (hds 13) lbl13_0) n (l13_0H x1 s6 b1) (l13_0B x1 s6 b1)).run = some (l13_0E (x1) (q.2.1) (q.2.2) q.1)
  | 0, x1, s6, b1, q, h => by cases h
  | n + 1, x1, s6, b1, q, h => l13_0_step m n (l13_0_ok m n) x1 s6 b1 q h

def p13 (m : Nat) (x0 : List (Int × Int)) (x1 : Int × Int) : Option ((List (Int × Int))) :=
  if (decide (0 ≤ (IntKind.wrap .i64 ((((List.length x0) : Nat) : Int) + (80)))) && decide ((IntKind.wrap .i64 ((((List.length x0) : Nat) : Int) + (80))) ≤ (IntKind.wrap .i64 ((((List.length x0) : Nat) : Int) + (80))))) = true then
    if (decide (((IntKind.wrap .i64 ((((List.length x0) : Nat) : Int) + (80))) * 16) ≤ 70368744177664) && decide ((IntKind.wrap .i64 ((((List.length x0) : Nat) : Int) + (80))) ≤ 70368744177664)) = true then
      if decide (0 ≤ (List.length (List.replicate (Int.toNat (IntKind.wrap .i64 ((((List.length x0) : Nat) : Int) + (80)))) (0, 0)))) = true then
        if decide ((min (List.length x0) (Int.toNat (IntKind.wrap .i64 ((((List.length x0) : Nat) : Int) + (80))))) ≤ (List.length x0)) = true then
          if (Option.isSome (l13_0 m (m + 24) x1 ((((List.length x0) : Nat) : Int)) ((splice (List.replicate (Int.toNat (IntKind.wrap .i64 ((((List.length x0) : Nat) : Int) + (80)))) (0, 0)) 0 (List.take (min (List.length x0) (Int.toNat (IntKind.wrap .i64 ((((List.length x0) : Nat) : Int) + (80))))) x0))))) = true then
            some ((List.take (List.length (l13_0R m (m + 24) x1 ((((List.length x0) : Nat) : Int)) ((splice (List.replicate (Int.toNat (IntKind.wrap .i64 ((((List.length x0) : Nat) : Int) + (80)))) (0, 0)) 0 (List.take (min (List.length x0) (Int.toNat (IntKind.wrap .i64 ((((List.length x0) : Nat) : Int) + (80))))) x0)))).2.2) (List.drop 0 (l13_0R m (m + 24) x1 ((((List.length x0) : Nat) : Int)) ((splice (List.replicate (Int.toNat (IntKind.wrap .i64 ((((List.length x0) : Nat) : Int) + (80)))) (0, 0)) 0 (List.take (min (List.length x0) (Int.toNat (IntKind.wrap .i64 ((((List.length x0) : Nat) : Int) + (80))))) x0)))).2.2)))
          else
            none
        else
          none
      else
        none
    else
      none
  else
    none
set_option maxHeartbeats 20000000 in
theorem p13_ok (m : Nat) (x0 : List (Int × Int)) (x1 : Int × Int) (q : (List (Int × Int))) (h : p13 m x0 x1 = some q) : ∃ r B1, (evCall F S15 (m + 25) 13 [(.d (.sl (.pair (.int .i64) (.int .i64)) x0)), (.agg [(.d (.int .i64 x1.1)), (.d (.int .i64 x1.2))])] []).run = some (r, B1) ∧ 0 ≤ B1.length ∧ wkR B1 [] r (.d (.sl (.pair (.int .i64) (.int .i64)) q)) ∧ wkBs B1 [] 0 [] := by
  unfold p13 at h
  refine ite_cases h (fun c0 h => ?_) (fun c0 h => ?_)
  · skip
    refine ite_cases h (fun c1 h => ?_) (fun c1 h => ?_)
    · skip
      refine ite_cases h (fun c2 h => ?_) (fun c2 h => ?_)
      · skip
        refine ite_cases h (fun c3 h => ?_) (fun c3 h => ?_)
        · skip
          refine ite_cases h (fun c4 h => ?_) (fun c4 h => ?_)
          · skip
            cases h
            refine ⟨(.d (.sl (.pair (.int .i64) (.int .i64)) (List.take (List.length (l13_0R m (m + 24) x1 ((((List.length x0) : Nat) : Int)) ((splice (List.replicate (Int.toNat (IntKind.wrap .i64 ((((List.length x0) : Nat) : Int) + (80)))) (0, 0)) 0 (List.take (min (List.length x0) (Int.toNat (IntKind.wrap .i64 ((((List.length x0) : Nat) : Int) + (80))))) x0)))).2.2) (List.drop 0 (l13_0R m (m + 24) x1 ((((List.length x0) : Nat) : Int)) ((splice (List.replicate (Int.toNat (IntKind.wrap .i64 ((((List.length x0) : Nat) : Int) + (80)))) (0, 0)) 0 (List.take (min (List.length x0) (Int.toNat (IntKind.wrap .i64 ((((List.length x0) : Nat) : Int) + (80))))) x0)))).2.2)))), [], runT_ok (LS := (fun k => if k = 104 then some (l13_0E x1 ((l13_0R m (m + 24) x1 ((((List.length x0) : Nat) : Int)) ((splice (List.replicate (Int.toNat (IntKind.wrap .i64 ((((List.length x0) : Nat) : Int) + (80)))) (0, 0)) 0 (List.take (min (List.length x0) (Int.toNat (IntKind.wrap .i64 ((((List.length x0) : Nat) : Int) + (80))))) x0)))).2.1) ((l13_0R m (m + 24) x1 ((((List.length x0) : Nat) : Int)) ((splice (List.replicate (Int.toNat (IntKind.wrap .i64 ((((List.length x0) : Nat) : Int) + (80)))) (0, 0)) 0 (List.take (min (List.length x0) (Int.toNat (IntKind.wrap .i64 ((((List.length x0) : Nat) : Int) + (80))))) x0)))).2.2) 0) else none)) (fn := fn13) (vis := [(104, [.top, .top, .top, (.ptr 0 0), .top, (.sr 1 0 (Int.toNat (IntKind.wrap .i64 ((((List.length x0) : Nat) : Int) + (80)))) 2 none), (.d (.int .i64 (((List.length x0) : Nat) : Int))), .top, .top, .top, .top, .top, .top, .top, .top, .top, .top, .top, .top, .top, .top, .top, .top, .top, .top, .top, .top], [(.cells [(.d (.int .i64 x1.1)), (.d (.int .i64 x1.2))]), (.arr (.pair (.int .i64) (.int .i64)) (splice (List.replicate (Int.toNat (IntKind.wrap .i64 ((((List.length x0) : Nat) : Int) + (80)))) (0, 0)) 0 (List.take (min (List.length x0) (Int.toNat (IntKind.wrap .i64 ((((List.length x0) : Nat) : Int) + (80))))) x0)) true)])]) (by kernel_rfl) rfl (by kernel_rfl) (M.run_of_path _ [true, true, true, true, true] _ _ (by kernel_rfl) (all_t c0 (all_t c1 (all_t c2 (all_t c3 (all_t (show decide ((0 + (List.length (l13_0R m (m + 24) x1 ((((List.length x0) : Nat) : Int)) ((splice (List.replicate (Int.toNat (IntKind.wrap .i64 ((((List.length x0) : Nat) : Int) + (80)))) (0, 0)) 0 (List.take (min (List.length x0) (Int.toNat (IntKind.wrap .i64 ((((List.length x0) : Nat) : Int) + (80))))) x0)))).2.2)) ≤ (List.length (l13_0R m (m + 24) x1 ((((List.length x0) : Nat) : Int)) ((splice (List.replicate (Int.toNat (IntKind.wrap .i64 ((((List.length x0) : Nat) : Int) + (80)))) (0, 0)) 0 (List.take (min (List.length x0) (Int.toNat (IntKind.wrap .i64 ((((List.length x0) : Nat) : Int) + (80))))) x0)))).2.2)) = true from decide_eq_true (Nat.le_of_eq (Nat.zero_add _))) all_nil)))))) ?_, by simp, (wkR.one (wkV.one (wk1.eq rfl))), trivial⟩
            intro p hp p2 hq
            rcases List.mem_cons.1 hp with rfl | hp
            · skip
              have h3 := l13_0_ok m (m + 24) x1 ((((List.length x0) : Nat) : Int)) ((splice (List.replicate (Int.toNat (IntKind.wrap .i64 ((((List.length x0) : Nat) : Int) + (80)))) (0, 0)) 0 (List.take (min (List.length x0) (Int.toNat (IntKind.wrap .i64 ((((List.length x0) : Nat) : Int) + (80))))) x0))) _ (some_getD (d := l13_0D) c4)
              have h3 := turns_eq (e := [.top, .top, .top, (.ptr 0 0), .top, (.sr 1 0 (Int.toNat (IntKind.wrap .i64 ((((List.length x0) : Nat) : Int) + (80)))) 2 none), (.d (.int .i64 (((List.length x0) : Nat) : Int))), .top, .top, .top, .top, .top, .top, .top, .top, .top, .top, .top, .top, .top, .top, .top, .top, .top, .top, .top, .top]) (B := [(.cells [(.d (.int .i64 x1.1)), (.d (.int .i64 x1.2))]), (.arr (.pair (.int .i64) (.int .i64)) (splice (List.replicate (Int.toNat (IntKind.wrap .i64 ((((List.length x0) : Nat) : Int) + (80)))) (0, 0)) 0 (List.take (min (List.length x0) (Int.toNat (IntKind.wrap .i64 ((((List.length x0) : Nat) : Int) + (80))))) x0)) true)]) (by unfold l13_0H; (try rw [show (List.length (splice (List.replicate (Int.toNat (IntKind.wrap .i64 ((((List.length x0) : Nat) : Int) + (80)))) (0, 0)) 0 (List.take (min (List.length x0) (Int.toNat (IntKind.wrap .i64 ((((List.length x0) : Nat) : Int) + (80))))) x0))) = (Int.toNat (IntKind.wrap .i64 ((((List.length x0) : Nat) : Int) + (80)))) from by simp [splice] <;> omega])) rfl h3
              exact Eq.trans (Eq.mp (by kernel_rfl) h3) hq
            cases hp
          · skip
            cases h
        · skip
          cases h
      · skip
        cases h
    · skip
      cases h
  · skip
    cases h

/-- A list with room behind it. -/
def sroomyG (l : SL) (z : Int × Int) : SL := l ++ List.replicate 80 z
theorem sroomy_loop (m : Nat) (z : Int × Int) : ∀ (n : Nat) (pre post : SL), post.length < n → pre.length + post.length ≤ 2000000 → ∃ j, l13_0 m n z ((pre.length : Nat) : Int) (pre ++ post) = some (0, j, pre ++ List.replicate post.length z)
  | 0, pre, post, h, _ => by omega
  | n + 1, pre, [], h, hb => by
    rw [l13_0]
    have e1 : decide (((pre.length : Nat) : Int) < (((List.length (pre ++ [])) : Nat) : Int)) = false := decide_eq_false (by simp)
    rw [e1, if_neg (by simp)]
    exact ⟨_, rfl⟩
  | n + 1, pre, x :: post, h, hb => by
    rw [l13_0]
    simp only [List.length_cons] at h hb
    have e1 : decide (((pre.length : Nat) : Int) < (((List.length (pre ++ x :: post)) : Nat) : Int)) = true := decide_eq_true (by simp; omega)
    have e2 : decide ((0 : Int) ≤ ((pre.length : Nat) : Int)) = true := decide_eq_true (by omega)
    have e3 : decide ((0 + pre.length) < (List.length (pre ++ x :: post))) = true := decide_eq_true (by simp)
    have e7 : IntKind.wrap .i64 (((pre.length : Nat) : Int) + (1)) = (((pre ++ [z]).length : Nat) : Int) := by rw [wrap_id (by omega) (by omega)]; simp
    have e8 : (pre ++ x :: post).set (0 + pre.length) z = (pre ++ [z]) ++ post := by simp
    rw [show Int.toNat ((pre.length : Nat) : Int) = pre.length from rfl, e7, e8, if_pos e1, if_pos e2, if_pos e3]
    obtain ⟨j, hj⟩ := sroomy_loop m z n (pre ++ [z]) post (by omega) (by simp; omega)
    exact ⟨j, by rw [hj]; simp [List.replicate_succ]⟩
theorem sroomy13 (l : SL) (z : Int × Int) (h : decide (l.length ≤ 1000000) = true) : ∃ m, p13 m l z = some (sroomyG l z) := by
  have h := of_decide_eq_true h
  refine ⟨100, ?_⟩
  have ew : IntKind.wrap .i64 ((((List.length l) : Nat) : Int) + (80)) = ((l.length + 80 : Nat) : Int) := by rw [wrap_id (by omega) (by omega)]; rfl
  have et : Int.toNat ((l.length + 80 : Nat) : Int) = l.length + 80 := rfl
  have em : min (List.length l) (l.length + 80) = l.length := by omega
  have es : splice (List.replicate (l.length + 80) ((0, 0) : Int × Int)) 0 (List.take l.length l) = l ++ List.replicate 80 ((0, 0) : Int × Int) := by
    simp [splice, List.drop_replicate]
  obtain ⟨j, hj⟩ := sroomy_loop 100 z (100 + 24) l (List.replicate 80 ((0, 0) : Int × Int)) (by simp) (by simp; omega)
  simp only [List.length_replicate] at hj
  have e1 : (decide ((0 : Int) ≤ ((l.length + 80 : Nat) : Int)) && decide (((l.length + 80 : Nat) : Int) ≤ ((l.length + 80 : Nat) : Int))) = true := by simp; omega
  have e2 : (decide ((((l.length + 80 : Nat) : Int) * 16) ≤ 70368744177664) && decide (((l.length + 80 : Nat) : Int) ≤ 70368744177664)) = true := by simp; omega
  have e3 : decide (0 ≤ (List.length (List.replicate (l.length + 80) ((0, 0) : Int × Int)))) = true := decide_eq_true (by omega)
  have e4 : decide (l.length ≤ l.length) = true := decide_eq_true (by omega)
  unfold p13 l13_0R sroomyG
  generalize List.replicate 80 z = R at *
  simp only [ew, et, em, es, e1, e2, e3, e4, hj, Option.isSome_some, Option.getD_some, ↓reduceIte]
  rw [List.drop_zero, List.take_length]
  rfl
def s13 : List AV → Boxes → M (AV × Boxes) := normS [.val (.sl (.pair (.int .i64) (.int .i64))), .val (.pair (.int .i64) (.int .i64))] [] fun xs B => match xs, B with
  | [(.d (.sl (.pair (.int .i64) (.int .i64)) c1)), (.agg [(.d (.int .i64 c2)), (.d (.int .i64 c3))])], [] => .chk (decide (List.length c1 ≤ 1000000)) (.ret ((.d (.sl (.pair (.int .i64) (.int .i64)) (sroomyG c1 ((c2, c3))))), []))
  | _, _ => .fail
theorem s13_at : CallAt Try.prog 13 s13 := by
  refine CallAt.norm (CallAt.weakE (g := fun n => evCall F S15 n 13) (fun n => evCall_atH mixed kinds hds S15 S15_ok n 13) fun xs B r' B' hr => ?_) _ _
  split at hr
  · rename_i c1 c2 c3
    obtain ⟨hp, hr⟩ := (M.run_chk _ _ _).1 hr
    simp only [M.run, Option.some.injEq, Prod.mk.injEq] at hr
    obtain ⟨rfl, rfl⟩ := hr
    obtain ⟨m, hm⟩ := sroomy13 c1 ((c2, c3)) hp
    obtain ⟨r, B1, h1, h2, h3, h4⟩ := p13_ok m c1 ((c2, c3)) _ hm
    exact ⟨m + 25, r, B1, h1, by simp, h2, h3, h4⟩
  · simp [M.run] at hr
noncomputable def S16 : FuncId → Option (List AV → Boxes → M (AV × Boxes)) := fun f => if f = 13 then some s13 else S15 f
set_option maxHeartbeats 20000000 in
theorem S16_ok : ∀ f s, S16 f = some s → CallAt Try.prog f s := by
  intro f s h
  unfold S16 at h
  split at h
  · rename_i e; subst e; cases h; exact s13_at
  · exact S15_ok f s h

noncomputable def fn14 : AFn := (F 14).getD ⟨0, [], .bad, false, false, noHd⟩
noncomputable def body14 : AC := fn14.body
def l14_0 (m : Nat) : Nat → List (Int × Int) → Int × Int → Int → Option (Nat × Int)
  | 0, _, _, _ => none
  | n + 1, x0, x2, s7 => if decide (s7 < (((List.length x0) : Nat) : Int)) = true then
      if decide (0 ≤ s7) = true then
        if (((List.getD x0 (Int.toNat s7) (0, 0)).1 == x2.1) && (((List.getD x0 (Int.toNat s7) (0, 0)).2 == x2.2) && true)) = true then
          l14_0 m n x0 x2 ((IntKind.wrap .i64 (s7 + (1))))
        else
          some (0, s7)
      else
        none
    else
      some (1, s7)
def l14_0D : Nat × Int := (0, 0)
@[reducible] def l14_0R (m n : Nat) (x0 : List (Int × Int)) (x2 : Int × Int) (s7 : Int) : Nat × Int := Option.getD (l14_0 m n x0 x2 s7) l14_0D
def l14_0H (x0 : List (Int × Int)) (x2 : Int × Int) (s7 : Int) : Env := [(.d (.sl (.pair (.int .i64) (.int .i64)) x0)), .top, .top, .top, .top, (.ptr 0 0), .top, (.d (.int .i64 s7)), .top, .top, .top, .top, .top, .top, .top, .top, .top, .top, .top, .top, .top, .top, .top, .top, .top, .top, .top, .top, .top, .top, .top, .top, .top, .top, .top, .top, .top]
def l14_0B (x0 : List (Int × Int)) (x2 : Int × Int) (s7 : Int) : Boxes := [(.cells [(.d (.int .i64 x2.1)), (.d (.int .i64 x2.2))])]
def l14_0E (x0 : List (Int × Int)) (x2 : Int × Int) (s7 : Int) : Nat → AEx × Env × Boxes
  | 0 => (.ret, [(.d (.sl (.pair (.int .i64) (.int .i64)) x0)), .top, .top, .top, .top, (.ptr 0 0), (.d (.bool false)), (.d (.int .i64 s7)), .top, .top, .top, .top, .top, .top, .top, .top, .top, .top, .top, .top, .top, .top, .top, .top, .top, (.d (.int .i64 s7)), (.d (.sl (.pair (.int .i64) (.int .i64)) x0)), (.d (.int .i64 (((List.length x0) : Nat) : Int))), (.d (.bool (decide (s7 < (((List.length x0) : Nat) : Int))))), .top, .top, (.d (.sl (.pair (.int .i64) (.int .i64)) x0)), (.d (.int .i64 s7)), (.cptr [(.int .i64 (List.getD x0 (Int.toNat s7) (0, 0)).1), (.int .i64 (List.getD x0 (Int.toNat s7) (0, 0)).2)] 0), (.agg [(.d (.int .i64 (List.getD x0 (Int.toNat s7) (0, 0)).1)), (.d (.int .i64 (List.getD x0 (Int.toNat s7) (0, 0)).2))]), (.agg [(.d (.int .i64 x2.1)), (.d (.int .i64 x2.2))]), (.d (.bool (!(((List.getD x0 (Int.toNat s7) (0, 0)).1 == x2.1) && (((List.getD x0 (Int.toNat s7) (0, 0)).2 == x2.2) && true)))))], [(.cells [(.d (.int .i64 x2.1)), (.d (.int .i64 x2.2))]), .dead, .dead, .dead, .dead, .dead, .dead, .dead, .dead, .dead, .dead, .dead, .dead, .dead, .dead, .dead, .dead, .dead, .dead, .dead, .dead, .dead, .dead, .dead, .dead])
  | _ => (.exit 0, [(.d (.sl (.pair (.int .i64) (.int .i64)) x0)), .top, .top, .top, .top, (.ptr 0 0), .top, (.d (.int .i64 s7)), .top, .top, .top, .top, .top, .top, .top, .top, .top, .top, .top, .top, .top, .top, .top, .top, .top, (.d (.int .i64 s7)), (.d (.sl (.pair (.int .i64) (.int .i64)) x0)), (.d (.int .i64 (((List.length x0) : Nat) : Int))), (.d (.bool (decide (s7 < (((List.length x0) : Nat) : Int))))), .top, .top, .top, .top, .top, .top, .top, .top], [(.cells [(.d (.int .i64 x2.1)), (.d (.int .i64 x2.2))])])
noncomputable def lbl14_0 : AC := loopBody 161 body14

set_option maxHeartbeats 20000000 in
theorem l14_0_w0 (m n : Nat) (x0 : List (Int × Int)) (x2 : Int × Int) (s7 : Int) (r : AEx × Env × Boxes) (c0 : decide (s7 < (((List.length x0) : Nat) : Int)) = true) (c1 : decide (0 ≤ s7) = true) (c3 : (((List.getD x0 (Int.toNat s7) (0, 0)).1 == x2.1) && (((List.getD x0 (Int.toNat s7) (0, 0)).2 == x2.2) && true)) = true) (ih : (turns (hds 14 161) 0 161 (evC byref (evCall F S16 (m + 24)) (m + 24) 0 (hds 14) lbl14_0) n (l14_0H x0 x2 ((IntKind.wrap .i64 (s7 + (1))))) (l14_0B x0 x2 ((IntKind.wrap .i64 (s7 + (1)))))).run = some r) : (turns (hds 14 161) 0 161 (evC byref (evCall F S16 (m + 24)) (m + 24) 0 (hds 14) lbl14_0) (n + 1) (l14_0H x0 x2 s7) (l14_0B x0 x2 s7)).run = some r := by
  exact turns_step (M.run_of_path _ [true, true, true, false] _ _ (by kernel_rfl) (all_t c0 (all_t c1 (all_t c0 (all_nt c3 all_nil))))) ih
set_option maxHeartbeats 20000000 in
theorem l14_0_w1 (m n : Nat) (x0 : List (Int × Int)) (x2 : Int × Int) (s7 : Int) (c0 : decide (s7 < (((List.length x0) : Nat) : Int)) = true) (c1 : decide (0 ≤ s7) = true) (c3 : ¬ (((List.getD x0 (Int.toNat s7) (0, 0)).1 == x2.1) && (((List.getD x0 (Int.toNat s7) (0, 0)).2 == x2.2) && true)) = true) : (turns (hds 14 161) 0 161 (evC byref (evCall F S16 (m + 24)) (m + 24) 0 (hds 14) lbl14_0) (n + 1) (l14_0H x0 x2 s7) (l14_0B x0 x2 s7)).run = some (.ret, [(.d (.sl (.pair (.int .i64) (.int .i64)) x0)), .top, .top, .top, .top, (.ptr 0 0), (.d (.bool false)), (.d (.int .i64 s7)), .top, .top, .top, .top, .top, .top, .top, .top, .top, .top, .top, .top, .top, .top, .top, .top, .top, (.d (.int .i64 s7)), (.d (.sl (.pair (.int .i64) (.int .i64)) x0)), (.d (.int .i64 (((List.length x0) : Nat) : Int))), (.d (.bool (decide (s7 < (((List.length x0) : Nat) : Int))))), .top, .top, (.d (.sl (.pair (.int .i64) (.int .i64)) x0)), (.d (.int .i64 s7)), (.cptr [(.int .i64 (List.getD x0 (Int.toNat s7) (0, 0)).1), (.int .i64 (List.getD x0 (Int.toNat s7) (0, 0)).2)] 0), (.agg [(.d (.int .i64 (List.getD x0 (Int.toNat s7) (0, 0)).1)), (.d (.int .i64 (List.getD x0 (Int.toNat s7) (0, 0)).2))]), (.agg [(.d (.int .i64 x2.1)), (.d (.int .i64 x2.2))]), (.d (.bool (!(((List.getD x0 (Int.toNat s7) (0, 0)).1 == x2.1) && (((List.getD x0 (Int.toNat s7) (0, 0)).2 == x2.2) && true)))))], [(.cells [(.d (.int .i64 x2.1)), (.d (.int .i64 x2.2))]), .dead, .dead, .dead, .dead, .dead, .dead, .dead, .dead, .dead, .dead, .dead, .dead, .dead, .dead, .dead, .dead, .dead, .dead, .dead, .dead, .dead, .dead, .dead, .dead]) := by
  exact turns_last (by simp) (M.run_of_path _ [true, true, true, true] _ _ (by kernel_rfl) (all_t c0 (all_t c1 (all_t c0 (all_nf c3 all_nil))))) 
set_option maxHeartbeats 20000000 in
theorem l14_0_w2 (m n : Nat) (x0 : List (Int × Int)) (x2 : Int × Int) (s7 : Int) (c0 : ¬ decide (s7 < (((List.length x0) : Nat) : Int)) = true) : (turns (hds 14 161) 0 161 (evC byref (evCall F S16 (m + 24)) (m + 24) 0 (hds 14) lbl14_0) (n + 1) (l14_0H x0 x2 s7) (l14_0B x0 x2 s7)).run = some (.exit 0, [(.d (.sl (.pair (.int .i64) (.int .i64)) x0)), .top, .top, .top, .top, (.ptr 0 0), .top, (.d (.int .i64 s7)), .top, .top, .top, .top, .top, .top, .top, .top, .top, .top, .top, .top, .top, .top, .top, .top, .top, (.d (.int .i64 s7)), (.d (.sl (.pair (.int .i64) (.int .i64)) x0)), (.d (.int .i64 (((List.length x0) : Nat) : Int))), (.d (.bool (decide (s7 < (((List.length x0) : Nat) : Int))))), .top, .top, .top, .top, .top, .top, .top, .top], [(.cells [(.d (.int .i64 x2.1)), (.d (.int .i64 x2.2))])]) := by
  exact turns_last (by simp) (M.run_of_path _ [false] _ _ (by kernel_rfl) (all_f c0 all_nil)) 

set_option maxHeartbeats 20000000 in
theorem l14_0_step (m n : Nat) (ih : ∀ (x0 : List (Int × Int)) (x2 : Int × Int) (s7 : Int) (q : Nat × Int), l14_0 m n x0 x2 s7 = some q → (turns (hds 14 161) 0 161 (evC byref (evCall F S16 (m + 24)) (m + 24) 0 (hds 14) lbl14_0) n (l14_0H x0 x2 s7) (l14_0B x0 x2 s7)).run = some (l14_0E (x0) (x2) (q.2) q.1)) (x0 : List (Int × Int)) (x2 : Int × Int) (s7 : Int) (q : Nat × Int) (h : l14_0 m (n + 1) x0 x2 s7 = some q) : (turns (hds 14 161) 0 161 (evC byref (evCall F S16 (m + 24)) (m + 24) 0 (hds 14) lbl14_0) (n + 1) (l14_0H x0 x2 s7) (l14_0B x0 x2 s7)).run = some (l14_0E (x0) (x2) (q.2) q.1) := by
  rw [l14_0] at h
  refine ite_cases h (fun c0 h => ?_) (fun c0 h => ?_)
  · skip
    refine ite_cases h (fun c1 h => ?_) (fun c1 h => ?_)
    · skip
      refine ite_cases h (fun c3 h => ?_) (fun c3 h => ?_)
      · skip
        exact l14_0_w0 m n x0 x2 s7 _ c0 c1 c3 (ih _ _ _ q h)
      · skip
        cases h
        exact l14_0_w1 m n x0 x2 s7 c0 c1 c3
    · skip
      cases h
  · skip
    cases h
    exact l14_0_w2 m n x0 x2 s7 c0
set_option maxHeartbeats 20000000 in
theorem l14_0_ok (m : Nat) : ∀ (n : Nat) (x0 : List (Int × Int)) (x2 : Int × Int) (s7 : Int) (q : Nat × Int), l14_0 m n x0 x2 s7 = some q → (turns (hds 14 161) 0 161 (evC byref (evCall F S16 (m + 24)) (m + 24) 0 (hds 14) lbl14_0) n (l14_0H x0 x2 s7) (l14_0B x0 x2 s7)).run = some (l14_0E (x0) (x2) (q.2) q.1)
  | 0, x0, x2, s7, q, h => by cases h
  | n + 1, x0, x2, s7, q, h => l14_0_step m n (l14_0_ok m n) x0 x2 s7 q h

def p14 (m : Nat) (x0 : List (Int × Int)) (x1 : List (Int × Int)) (x2 : Int × Int) : Option (Bool) :=
  if ((((List.length x0) : Nat) : Int) != (IntKind.wrap .i64 ((((List.length x1) : Nat) : Int) + (80)))) = true then
    some (false)
  else
    if (decide (0 ≤ (((List.length x1) : Nat) : Int)) && decide ((((List.length x1) : Nat) : Int) ≤ (((List.length x0) : Nat) : Int))) = true then
      if decide (List.length (List.drop 0 (List.take (Int.toNat (((List.length x1) : Nat) : Int)) x0)) < 4611686018427387904) = true then
        if ((show List (Int × Int) from (List.drop 0 (List.take (Int.toNat (((List.length x1) : Nat) : Int)) x0))) == x1) = true then
          if (Option.isSome (l14_0 m (m + 24) x0 x2 ((((List.length x1) : Nat) : Int)))) = true then
            if ((l14_0R m (m + 24) x0 x2 ((((List.length x1) : Nat) : Int))).1 == 0) = true then
              some (false)
            else
              if ((l14_0R m (m + 24) x0 x2 ((((List.length x1) : Nat) : Int))).1 == 1) = true then
                some (true)
              else
                none
          else
            none
        else
          some (false)
      else
        none
    else
      none
set_option maxHeartbeats 20000000 in
theorem p14_ok (m : Nat) (x0 : List (Int × Int)) (x1 : List (Int × Int)) (x2 : Int × Int) (q : Bool) (h : p14 m x0 x1 x2 = some q) : ∃ r B1, (evCall F S16 (m + 25) 14 [(.d (.sl (.pair (.int .i64) (.int .i64)) x0)), (.d (.sl (.pair (.int .i64) (.int .i64)) x1)), (.agg [(.d (.int .i64 x2.1)), (.d (.int .i64 x2.2))])] []).run = some (r, B1) ∧ 0 ≤ B1.length ∧ wkR B1 [] r (.d (.bool (q))) ∧ wkBs B1 [] 0 [] := by
  unfold p14 at h
  refine ite_cases h (fun c0 h => ?_) (fun c0 h => ?_)
  · skip
    cases h
    refine ⟨(.d (.bool false)), [], runT_ok (LS := (fun k => none)) (fn := fn14) (vis := []) (by kernel_rfl) rfl (by kernel_rfl) (M.run_of_path _ [true, true, true, true, true, true, true, true, true] _ _ (by kernel_rfl) (all_t c0 (all_t c0 (all_t c0 (all_t c0 (all_t c0 (all_t c0 (all_t c0 (all_t c0 (all_t rfl all_nil)))))))))) ?_, by simp, (wkR.one (wkV.one (wk1.eq rfl))), trivial⟩
    intro p hp; cases hp
  · skip
    refine ite_cases h (fun c4 h => ?_) (fun c4 h => ?_)
    · skip
      refine ite_cases h (fun c7 h => ?_) (fun c7 h => ?_)
      · skip
        refine ite_cases h (fun c10 h => ?_) (fun c10 h => ?_)
        · skip
          refine ite_cases h (fun c11 h => ?_) (fun c11 h => ?_)
          · skip
            refine ite_cases h (fun c12 h => ?_) (fun c12 h => ?_)
            · skip
              cases h
              refine ⟨(.d (.bool false)), [], runT_ok (LS := (fun k => if k = 161 then some (l14_0E x0 x2 ((l14_0R m (m + 24) x0 x2 ((((List.length x1) : Nat) : Int))).2) 0) else none)) (fn := fn14) (vis := [(161, l14_0H x0 x2 ((((List.length x1) : Nat) : Int)), l14_0B x0 x2 ((((List.length x1) : Nat) : Int)))]) (by kernel_rfl) rfl (by kernel_rfl) (M.run_of_path _ [false, false, false, false, true, false, false, true, false, false, false] _ _ (by kernel_rfl) (all_f c0 (all_f c0 (all_f c0 (all_f c0 (all_t c4 (all_f c0 (all_f c0 (all_t c7 (all_f c0 (all_f c0 (all_nt c10 all_nil)))))))))))) ?_, by simp, (wkR.one (wkV.one (wk1.eq rfl))), trivial⟩
              intro p hp p2 hq
              rcases List.mem_cons.1 hp with rfl | hp
              · skip
                have h3 := l14_0_ok m (m + 24) x0 x2 ((((List.length x1) : Nat) : Int)) _ (some_getD (d := l14_0D) c11)
                rw [eq_of_beq c12] at h3
                exact Eq.trans (Eq.mp (by kernel_rfl) h3) hq
              cases hp
            · skip
              refine ite_cases h (fun c13 h => ?_) (fun c13 h => ?_)
              · skip
                cases h
                refine ⟨(.d (.bool true)), [], runT_ok (LS := (fun k => if k = 161 then some (l14_0E x0 x2 ((l14_0R m (m + 24) x0 x2 ((((List.length x1) : Nat) : Int))).2) 1) else none)) (fn := fn14) (vis := [(161, l14_0H x0 x2 ((((List.length x1) : Nat) : Int)), l14_0B x0 x2 ((((List.length x1) : Nat) : Int)))]) (by kernel_rfl) rfl (by kernel_rfl) (M.run_of_path _ [false, false, false, false, true, false, false, true, false, false, false] _ _ (by kernel_rfl) (all_f c0 (all_f c0 (all_f c0 (all_f c0 (all_t c4 (all_f c0 (all_f c0 (all_t c7 (all_f c0 (all_f c0 (all_nt c10 all_nil)))))))))))) ?_, by simp, (wkR.one (wkV.one (wk1.eq rfl))), trivial⟩
                intro p hp p2 hq
                rcases List.mem_cons.1 hp with rfl | hp
                · skip
                  have h3 := l14_0_ok m (m + 24) x0 x2 ((((List.length x1) : Nat) : Int)) _ (some_getD (d := l14_0D) c11)
                  rw [eq_of_beq c13] at h3
                  exact Eq.trans (Eq.mp (by kernel_rfl) h3) hq
                cases hp
              · skip
                cases h
          · skip
            cases h
        · skip
          cases h
          refine ⟨(.d (.bool false)), [], runT_ok (LS := (fun k => none)) (fn := fn14) (vis := []) (by kernel_rfl) rfl (by kernel_rfl) (M.run_of_path _ [false, false, false, false, true, false, false, true, false, false, true] _ _ (by kernel_rfl) (all_f c0 (all_f c0 (all_f c0 (all_f c0 (all_t c4 (all_f c0 (all_f c0 (all_t c7 (all_f c0 (all_f c0 (all_nf c10 all_nil)))))))))))) ?_, by simp, (wkR.one (wkV.one (wk1.eq rfl))), trivial⟩
          intro p hp; cases hp
      · skip
        cases h
    · skip
      cases h

/-- Is such a list as it was? -/
def sintactG (f was : SL) (z : Int × Int) : Bool := decide (f = was ++ List.replicate 80 z)
theorem sintact_loop (m : Nat) (f : SL) (z : Int × Int) (hb : f.length ≤ 1000000) : ∀ (n k : Nat), k ≤ f.length → f.length - k < n → ∃ j, l14_0 m n f z ((k : Nat) : Int) = some (if f.drop k = List.replicate (f.length - k) z then 1 else 0, j)
  | 0, k, _, h => by omega
  | n + 1, k, h1, h2 => by
    rw [l14_0]
    by_cases hk : k < f.length
    · have e1 : decide (((k : Nat) : Int) < (((List.length f) : Nat) : Int)) = true := decide_eq_true (by omega)
      have e2 : decide ((0 : Int) ≤ ((k : Nat) : Int)) = true := decide_eq_true (by omega)
      have e7 : IntKind.wrap .i64 (((k : Nat) : Int) + (1)) = ((k + 1 : Nat) : Int) := by rw [wrap_id (by omega) (by omega)]; rfl
      rw [drop_getD f k (0, 0) hk, e7, if_pos e1, if_pos e2, show f.length - k = (f.length - (k + 1)) + 1 by omega, List.replicate_succ, show Int.toNat ((k : Nat) : Int) = k from rfl]
      by_cases hc : f.getD k (0, 0) = z
      · have e3 : (((f.getD k (0, 0)).1 == z.1) && (((f.getD k (0, 0)).2 == z.2) && true)) = true := by rw [hc]; simp
        rw [if_pos e3]
        obtain ⟨j, hj⟩ := sintact_loop m f z hb n (k + 1) (by omega) (by omega)
        refine ⟨j, ?_⟩
        rw [hj]
        have hc' : (f.getD k (0, 0) :: f.drop (k + 1) = z :: List.replicate (f.length - (k + 1)) z) = (f.drop (k + 1) = List.replicate (f.length - (k + 1)) z) := by rw [List.cons.injEq]; simp only [hc, true_and]
        simp only [hc']
      · have e3 : ¬ (((f.getD k (0, 0)).1 == z.1) && (((f.getD k (0, 0)).2 == z.2) && true)) = true := by
          intro h; simp at h; exact hc (Prod.ext h.1 h.2)
        rw [if_neg e3, if_neg (by simp only [List.cons.injEq, hc, false_and, not_false_eq_true])]
        exact ⟨_, rfl⟩
    · have e1 : decide (((k : Nat) : Int) < (((List.length f) : Nat) : Int)) = false := decide_eq_false (by omega)
      rw [e1, if_neg (by simp), List.drop_eq_nil_of_le (by omega), show f.length - k = 0 by omega]
      exact ⟨_, rfl⟩
theorem sintact14 (f was : SL) (z : Int × Int) (h : decide (f.length ≤ 1000000 ∧ was.length ≤ 1000000) = true) : ∃ m, p14 m f was z = some (sintactG f was z) := by
  have ⟨h, hw⟩ := of_decide_eq_true h
  refine ⟨f.length, ?_⟩
  unfold p14 l14_0R sintactG
  by_cases hl : f.length = was.length + 80
  · have ew : IntKind.wrap .i64 ((((List.length was) : Nat) : Int) + (80)) = (((List.length f) : Nat) : Int) := by rw [wrap_id (by omega) (by omega)]; omega
    have e1 : (decide ((0 : Int) ≤ (((List.length was) : Nat) : Int)) && decide ((((List.length was) : Nat) : Int) ≤ (((List.length f) : Nat) : Int))) = true := by simp; omega
    have e2 : decide (List.length (List.drop 0 (List.take was.length f)) < 4611686018427387904) = true := decide_eq_true (by simp; omega)
    have e3 : ((((List.length f) : Nat) : Int) != (((List.length f) : Nat) : Int)) = false := by simp
    obtain ⟨j, hj⟩ := sintact_loop f.length f z h (f.length + 24) was.length (by omega) (by omega)
    rw [show f.length - was.length = 80 by omega] at hj
    have split : f = was ++ List.replicate 80 z ↔ f.take was.length = was ∧ f.drop was.length = List.replicate 80 z := by
      constructor
      · intro e; rw [e]; simp
      · rintro ⟨q1, q2⟩; rw [← q1, ← q2] ; simp
    have hno0 : f.take was.length ≠ was → ¬ f = was ++ List.replicate 80 z := fun q e => q (split.1 e).1
    generalize List.replicate 80 z = R at *
    rw [show Int.toNat ((was.length : Nat) : Int) = was.length from rfl, ew]
    simp only [e1, e2, e3, hj, Option.isSome_some, Option.getD_some, ↓reduceIte, Bool.false_eq_true]
    by_cases q1 : f.take was.length = was
    · by_cases q2 : f.drop was.length = R
      · simp [split, q1, q2]
      · simp [split, q1, q2]
    · simp [split, q1]
  · have ew : ((((List.length f) : Nat) : Int) != IntKind.wrap .i64 ((((List.length was) : Nat) : Int) + (80))) = true := by
      rw [wrap_id (by omega) (by omega)]; simp; omega
    have hno : ¬ f = was ++ List.replicate 80 z := fun e => hl (by rw [e]; simp)
    generalize List.replicate 80 z = R at *
    rw [if_pos ew]
    simp [hno]
def s14 : List AV → Boxes → M (AV × Boxes) := normS [.val (.sl (.pair (.int .i64) (.int .i64))), .val (.sl (.pair (.int .i64) (.int .i64))), .val (.pair (.int .i64) (.int .i64))] [] fun xs B => match xs, B with
  | [(.d (.sl (.pair (.int .i64) (.int .i64)) c1)), (.d (.sl (.pair (.int .i64) (.int .i64)) c2)), (.agg [(.d (.int .i64 c3)), (.d (.int .i64 c4))])], [] => .chk (decide (List.length c1 ≤ 1000000 ∧ List.length c2 ≤ 1000000)) (.ret ((.d (.bool (sintactG c1 c2 ((c3, c4))))), []))
  | _, _ => .fail
theorem s14_at : CallAt Try.prog 14 s14 := by
  refine CallAt.norm (CallAt.weakE (g := fun n => evCall F S16 n 14) (fun n => evCall_atH mixed kinds hds S16 S16_ok n 14) fun xs B r' B' hr => ?_) _ _
  split at hr
  · rename_i c1 c2 c3 c4
    obtain ⟨hp, hr⟩ := (M.run_chk _ _ _).1 hr
    simp only [M.run, Option.some.injEq, Prod.mk.injEq] at hr
    obtain ⟨rfl, rfl⟩ := hr
    obtain ⟨m, hm⟩ := sintact14 c1 c2 ((c3, c4)) hp
    obtain ⟨r, B1, h1, h2, h3, h4⟩ := p14_ok m c1 c2 ((c3, c4)) _ hm
    exact ⟨m + 25, r, B1, h1, by simp, h2, h3, h4⟩
  · simp [M.run] at hr
noncomputable def S17 : FuncId → Option (List AV → Boxes → M (AV × Boxes)) := fun f => if f = 14 then some s14 else S16 f
set_option maxHeartbeats 20000000 in
theorem S17_ok : ∀ f s, S17 f = some s → CallAt Try.prog f s := by
  intro f s h
  unfold S17 at h
  split at h
  · rename_i e; subst e; cases h; exact s14_at
  · exact S16_ok f s h

noncomputable def fn20 : AFn := (F 20).getD ⟨0, [], .bad, false, false, noHd⟩
noncomputable def body20 : AC := fn20.body
def l20_0 (m : Nat) : Nat → Int → Int → List Int → Option (Nat × Int × (List Int))
  | 0, _, _, _ => none
  | n + 1, x1, s6, b0 => if decide (s6 < (((List.length b0) : Nat) : Int)) = true then
      if decide (0 ≤ s6) = true then
        if decide ((0 + (Int.toNat s6)) < (List.length b0)) = true then
          l20_0 m n x1 ((IntKind.wrap .i64 (s6 + (1)))) ((List.set b0 (0 + (Int.toNat s6)) x1))
        else
          none
      else
        none
    else
      some (0, s6, b0)
def l20_0D : Nat × Int × (List Int) := (0, 0, [])
@[reducible] def l20_0R (m n : Nat) (x1 : Int) (s6 : Int) (b0 : List Int) : Nat × Int × (List Int) := Option.getD (l20_0 m n x1 s6 b0) l20_0D
def l20_0H (x1 : Int) (s6 : Int) (b0 : List Int) : Env := [.top, (.d (.int .u8 x1)), .top, .top, .top, (.sr 0 0 (List.length b0) 1 none), (.d (.int .i64 s6)), .top, .top, .top, .top, .top, .top, .top, .top, .top, .top, .top, .top, .top, .top, .top, .top, .top, .top, .top, .top]
def l20_0B (x1 : Int) (s6 : Int) (b0 : List Int) : Boxes := [(.arr (.int .u8) b0 true)]
def l20_0E (x1 : Int) (s6 : Int) (b0 : List Int) : Nat → AEx × Env × Boxes
  | _ => (.exit 0, [.top, (.d (.int .u8 x1)), .top, .top, .top, (.sr 0 0 (List.length b0) 1 none), (.d (.int .i64 s6)), .top, .top, .top, .top, .top, .top, .top, .top, .top, (.d (.int .i64 s6)), (.sr 0 0 (List.length b0) 1 none), (.d (.int .i64 (((List.length b0) : Nat) : Int))), (.d (.bool (decide (s6 < (((List.length b0) : Nat) : Int))))), .top, .top, .top, .top, .top, .top, .top], [(.arr (.int .u8) b0 true)])
noncomputable def lbl20_0 : AC := loopBody 98 body20

set_option maxHeartbeats 20000000 in
theorem l20_0_w0 (m n : Nat) (x1 : Int) (s6 : Int) (b0 : List Int) (r : AEx × Env × Boxes) (c0 : decide (s6 < (((List.length b0) : Nat) : Int)) = true) (c1 : decide (0 ≤ s6) = true) (c3 : decide ((0 + (Int.toNat s6)) < (List.length b0)) = true) (ih : (turns (hds 20 98) 0 98 (evC byref (evCall F S17 (m + 24)) (m + 24) 0 (hds 20) lbl20_0) n (l20_0H x1 ((IntKind.wrap .i64 (s6 + (1)))) ((List.set b0 (0 + (Int.toNat s6)) x1))) (l20_0B x1 ((IntKind.wrap .i64 (s6 + (1)))) ((List.set b0 (0 + (Int.toNat s6)) x1)))).run = some r) : (turns (hds 20 98) 0 98 (evC byref (evCall F S17 (m + 24)) (m + 24) 0 (hds 20) lbl20_0) (n + 1) (l20_0H x1 s6 b0) (l20_0B x1 s6 b0)).run = some r := by
  have ht : (turn (hds 20 98) 0 98 (evC byref (evCall F S17 (m + 24)) (m + 24) 0 (hds 20) lbl20_0) (l20_0H x1 s6 b0) (l20_0B x1 s6 b0)).run = some (.normal, [.top, (.d (.int .u8 x1)), .top, .top, .top, (.sr 0 0 (List.length b0) 1 none), (.d (.int .i64 (IntKind.wrap .i64 (s6 + (1))))), .top, .top, .top, .top, .top, .top, .top, .top, .top, .top, .top, .top, .top, .top, .top, .top, .top, .top, .top, .top], [(.arr (.int .u8) (List.set b0 (0 + (Int.toNat s6)) x1) true)]) := M.run_of_path _ [true, true, true, true] _ _ (by kernel_rfl) (all_t c0 (all_t c1 (all_t c0 (all_t c3 all_nil))))
  refine turns_step ht (turns_eq ?_ ?_ ih)
  · unfold l20_0H
    first | (simp; done) | (simp [Nat.add_assoc]; done)
  · unfold l20_0B
    simp
set_option maxHeartbeats 20000000 in
theorem l20_0_w1 (m n : Nat) (x1 : Int) (s6 : Int) (b0 : List Int) (c0 : ¬ decide (s6 < (((List.length b0) : Nat) : Int)) = true) : (turns (hds 20 98) 0 98 (evC byref (evCall F S17 (m + 24)) (m + 24) 0 (hds 20) lbl20_0) (n + 1) (l20_0H x1 s6 b0) (l20_0B x1 s6 b0)).run = some (.exit 0, [.top, (.d (.int .u8 x1)), .top, .top, .top, (.sr 0 0 (List.length b0) 1 none), (.d (.int .i64 s6)), .top, .top, .top, .top, .top, .top, .top, .top, .top, (.d (.int .i64 s6)), (.sr 0 0 (List.length b0) 1 none), (.d (.int .i64 (((List.length b0) : Nat) : Int))), (.d (.bool (decide (s6 < (((List.length b0) : Nat) : Int))))), .top, .top, .top, .top, .top, .top, .top], [(.arr (.int .u8) b0 true)]) := by
  exact turns_last (by simp) (M.run_of_path _ [false] _ _ (by kernel_rfl) (all_f c0 all_nil)) 

set_option maxHeartbeats 20000000 in
theorem l20_0_step (m n : Nat) (ih : ∀ (x1 : Int) (s6 : Int) (b0 : List Int) (q : Nat × Int × (List Int)), l20_0 m n x1 s6 b0 = some q → (turns (hds 20 98) 0 98 (evC byref (evCall F S17 (m + 24)) (m + 24) 0 (hds 20) lbl20_0) n (l20_0H x1 s6 b0) (l20_0B x1 s6 b0)).run = some (l20_0E (x1) (q.2.1) (q.2.2) q.1)) (x1 : Int) (s6 : Int) (b0 : List Int) (q : Nat × Int × (List Int)) (h : l20_0 m (n + 1) x1 s6 b0 = some q) : (turns (hds 20 98) 0 98 (evC byref (evCall F S17 (m + 24)) (m + 24) 0 (hds 20) lbl20_0) (n + 1) (l20_0H x1 s6 b0) (l20_0B x1 s6 b0)).run = some (l20_0E (x1) (q.2.1) (q.2.2) q.1) := by
  rw [l20_0] at h
  refine ite_cases h (fun c0 h => ?_) (fun c0 h => ?_)
  · skip
    refine ite_cases h (fun c1 h => ?_) (fun c1 h => ?_)
    · skip
      refine ite_cases h (fun c3 h => ?_) (fun c3 h => ?_)
      · skip
        exact l20_0_w0 m n x1 s6 b0 _ c0 c1 c3 (ih _ _ _ q h)
      · skip
        cases h
    · skip
      cases h
  · skip
    cases h
    exact l20_0_w1 m n x1 s6 b0 c0
set_option maxHeartbeats 20000000 in
theorem l20_0_ok (m : Nat) : ∀ (n : Nat) (x1 : Int) (s6 : Int) (b0 : List Int) (q : Nat × Int × (List Int)), l20_0 m n x1 s6 b0 = some q → (turns (hds 20 98) 0 98 (evC byref (evCall F S17 (m + 24)) (m + 24) 0 (hds 20) lbl20_0) n (l20_0H x1 s6 b0) (l20_0B x1 s6 b0)).run = some (l20_0E (x1) (q.2.1) (q.2.2) q.1)
  | 0, x1, s6, b0, q, h => by cases h
  | n + 1, x1, s6, b0, q, h => l20_0_step m n (l20_0_ok m n) x1 s6 b0 q h

def p20 (m : Nat) (x0 : List Int) (x1 : Int) : Option ((List Int)) :=
  if (decide (0 ≤ (IntKind.wrap .i64 ((((List.length x0) : Nat) : Int) + (80)))) && decide ((IntKind.wrap .i64 ((((List.length x0) : Nat) : Int) + (80))) ≤ (IntKind.wrap .i64 ((((List.length x0) : Nat) : Int) + (80))))) = true then
    if (decide (((IntKind.wrap .i64 ((((List.length x0) : Nat) : Int) + (80))) * 1) ≤ 70368744177664) && decide ((IntKind.wrap .i64 ((((List.length x0) : Nat) : Int) + (80))) ≤ 70368744177664)) = true then
      if decide (0 ≤ (List.length (List.replicate (Int.toNat (IntKind.wrap .i64 ((((List.length x0) : Nat) : Int) + (80)))) 0))) = true then
        if decide ((min (List.length x0) (Int.toNat (IntKind.wrap .i64 ((((List.length x0) : Nat) : Int) + (80))))) ≤ (List.length x0)) = true then
          if (Option.isSome (l20_0 m (m + 24) x1 ((((List.length x0) : Nat) : Int)) ((splice (List.replicate (Int.toNat (IntKind.wrap .i64 ((((List.length x0) : Nat) : Int) + (80)))) 0) 0 (List.take (min (List.length x0) (Int.toNat (IntKind.wrap .i64 ((((List.length x0) : Nat) : Int) + (80))))) x0))))) = true then
            some ((List.take (List.length (l20_0R m (m + 24) x1 ((((List.length x0) : Nat) : Int)) ((splice (List.replicate (Int.toNat (IntKind.wrap .i64 ((((List.length x0) : Nat) : Int) + (80)))) 0) 0 (List.take (min (List.length x0) (Int.toNat (IntKind.wrap .i64 ((((List.length x0) : Nat) : Int) + (80))))) x0)))).2.2) (List.drop 0 (l20_0R m (m + 24) x1 ((((List.length x0) : Nat) : Int)) ((splice (List.replicate (Int.toNat (IntKind.wrap .i64 ((((List.length x0) : Nat) : Int) + (80)))) 0) 0 (List.take (min (List.length x0) (Int.toNat (IntKind.wrap .i64 ((((List.length x0) : Nat) : Int) + (80))))) x0)))).2.2)))
          else
            none
        else
          none
      else
        none
    else
      none
  else
    none
set_option maxHeartbeats 20000000 in
theorem p20_ok (m : Nat) (x0 : List Int) (x1 : Int) (q : (List Int)) (h : p20 m x0 x1 = some q) : ∃ r B1, (evCall F S17 (m + 25) 20 [(.d (.sl (.int .u8) x0)), (.d (.int .u8 x1))] []).run = some (r, B1) ∧ 0 ≤ B1.length ∧ wkR B1 [] r (.d (.sl (.int .u8) q)) ∧ wkBs B1 [] 0 [] := by
  unfold p20 at h
  refine ite_cases h (fun c0 h => ?_) (fun c0 h => ?_)
  · skip
    refine ite_cases h (fun c1 h => ?_) (fun c1 h => ?_)
    · skip
      refine ite_cases h (fun c2 h => ?_) (fun c2 h => ?_)
      · skip
        refine ite_cases h (fun c3 h => ?_) (fun c3 h => ?_)
        · skip
          refine ite_cases h (fun c4 h => ?_) (fun c4 h => ?_)
          · skip
            cases h
            refine ⟨(.d (.sl (.int .u8) (List.take (List.length (l20_0R m (m + 24) x1 ((((List.length x0) : Nat) : Int)) ((splice (List.replicate (Int.toNat (IntKind.wrap .i64 ((((List.length x0) : Nat) : Int) + (80)))) 0) 0 (List.take (min (List.length x0) (Int.toNat (IntKind.wrap .i64 ((((List.length x0) : Nat) : Int) + (80))))) x0)))).2.2) (List.drop 0 (l20_0R m (m + 24) x1 ((((List.length x0) : Nat) : Int)) ((splice (List.replicate (Int.toNat (IntKind.wrap .i64 ((((List.length x0) : Nat) : Int) + (80)))) 0) 0 (List.take (min (List.length x0) (Int.toNat (IntKind.wrap .i64 ((((List.length x0) : Nat) : Int) + (80))))) x0)))).2.2)))), [], runT_ok (LS := (fun k => if k = 98 then some (l20_0E x1 ((l20_0R m (m + 24) x1 ((((List.length x0) : Nat) : Int)) ((splice (List.replicate (Int.toNat (IntKind.wrap .i64 ((((List.length x0) : Nat) : Int) + (80)))) 0) 0 (List.take (min (List.length x0) (Int.toNat (IntKind.wrap .i64 ((((List.length x0) : Nat) : Int) + (80))))) x0)))).2.1) ((l20_0R m (m + 24) x1 ((((List.length x0) : Nat) : Int)) ((splice (List.replicate (Int.toNat (IntKind.wrap .i64 ((((List.length x0) : Nat) : Int) + (80)))) 0) 0 (List.take (min (List.length x0) (Int.toNat (IntKind.wrap .i64 ((((List.length x0) : Nat) : Int) + (80))))) x0)))).2.2) 0) else none)) (fn := fn20) (vis := [(98, [.top, (.d (.int .u8 x1)), .top, .top, .top, (.sr 0 0 (Int.toNat (IntKind.wrap .i64 ((((List.length x0) : Nat) : Int) + (80)))) 1 none), (.d (.int .i64 (((List.length x0) : Nat) : Int))), .top, .top, .top, .top, .top, .top, .top, .top, .top, .top, .top, .top, .top, .top, .top, .top, .top, .top, .top, .top], [(.arr (.int .u8) (splice (List.replicate (Int.toNat (IntKind.wrap .i64 ((((List.length x0) : Nat) : Int) + (80)))) 0) 0 (List.take (min (List.length x0) (Int.toNat (IntKind.wrap .i64 ((((List.length x0) : Nat) : Int) + (80))))) x0)) true)])]) (by kernel_rfl) rfl (by kernel_rfl) (M.run_of_path _ [true, true, true, true, true] _ _ (by kernel_rfl) (all_t c0 (all_t c1 (all_t c2 (all_t c3 (all_t (show decide ((0 + (List.length (l20_0R m (m + 24) x1 ((((List.length x0) : Nat) : Int)) ((splice (List.replicate (Int.toNat (IntKind.wrap .i64 ((((List.length x0) : Nat) : Int) + (80)))) 0) 0 (List.take (min (List.length x0) (Int.toNat (IntKind.wrap .i64 ((((List.length x0) : Nat) : Int) + (80))))) x0)))).2.2)) ≤ (List.length (l20_0R m (m + 24) x1 ((((List.length x0) : Nat) : Int)) ((splice (List.replicate (Int.toNat (IntKind.wrap .i64 ((((List.length x0) : Nat) : Int) + (80)))) 0) 0 (List.take (min (List.length x0) (Int.toNat (IntKind.wrap .i64 ((((List.length x0) : Nat) : Int) + (80))))) x0)))).2.2)) = true from decide_eq_true (Nat.le_of_eq (Nat.zero_add _))) all_nil)))))) ?_, by simp, (wkR.one (wkV.one (wk1.eq rfl))), trivial⟩
            intro p hp p2 hq
            rcases List.mem_cons.1 hp with rfl | hp
            · skip
              have h3 := l20_0_ok m (m + 24) x1 ((((List.length x0) : Nat) : Int)) ((splice (List.replicate (Int.toNat (IntKind.wrap .i64 ((((List.length x0) : Nat) : Int) + (80)))) 0) 0 (List.take (min (List.length x0) (Int.toNat (IntKind.wrap .i64 ((((List.length x0) : Nat) : Int) + (80))))) x0))) _ (some_getD (d := l20_0D) c4)
              have h3 := turns_eq (e := [.top, (.d (.int .u8 x1)), .top, .top, .top, (.sr 0 0 (Int.toNat (IntKind.wrap .i64 ((((List.length x0) : Nat) : Int) + (80)))) 1 none), (.d (.int .i64 (((List.length x0) : Nat) : Int))), .top, .top, .top, .top, .top, .top, .top, .top, .top, .top, .top, .top, .top, .top, .top, .top, .top, .top, .top, .top]) (B := [(.arr (.int .u8) (splice (List.replicate (Int.toNat (IntKind.wrap .i64 ((((List.length x0) : Nat) : Int) + (80)))) 0) 0 (List.take (min (List.length x0) (Int.toNat (IntKind.wrap .i64 ((((List.length x0) : Nat) : Int) + (80))))) x0)) true)]) (by unfold l20_0H; (try rw [show (List.length (splice (List.replicate (Int.toNat (IntKind.wrap .i64 ((((List.length x0) : Nat) : Int) + (80)))) 0) 0 (List.take (min (List.length x0) (Int.toNat (IntKind.wrap .i64 ((((List.length x0) : Nat) : Int) + (80))))) x0))) = (Int.toNat (IntKind.wrap .i64 ((((List.length x0) : Nat) : Int) + (80)))) from by simp [splice] <;> omega])) rfl h3
              exact Eq.trans (Eq.mp (by kernel_rfl) h3) hq
            cases hp
          · skip
            cases h
        · skip
          cases h
      · skip
        cases h
    · skip
      cases h
  · skip
    cases h

/-- A list with room behind it. -/
def broomyG (l : List Int) (z : Int) : List Int := l ++ List.replicate 80 z
theorem broomy_loop (m : Nat) (z : Int) : ∀ (n : Nat) (pre post : List Int), post.length < n → pre.length + post.length ≤ 2000000 → ∃ j, l20_0 m n z ((pre.length : Nat) : Int) (pre ++ post) = some (0, j, pre ++ List.replicate post.length z)
  | 0, pre, post, h, _ => by omega
  | n + 1, pre, [], h, hb => by
    rw [l20_0]
    have e1 : decide (((pre.length : Nat) : Int) < (((List.length (pre ++ [])) : Nat) : Int)) = false := decide_eq_false (by simp)
    rw [e1, if_neg (by simp)]
    exact ⟨_, rfl⟩
  | n + 1, pre, x :: post, h, hb => by
    rw [l20_0]
    simp only [List.length_cons] at h hb
    have e1 : decide (((pre.length : Nat) : Int) < (((List.length (pre ++ x :: post)) : Nat) : Int)) = true := decide_eq_true (by simp; omega)
    have e2 : decide ((0 : Int) ≤ ((pre.length : Nat) : Int)) = true := decide_eq_true (by omega)
    have e3 : decide ((0 + pre.length) < (List.length (pre ++ x :: post))) = true := decide_eq_true (by simp)
    have e7 : IntKind.wrap .i64 (((pre.length : Nat) : Int) + (1)) = (((pre ++ [z]).length : Nat) : Int) := by rw [wrap_id (by omega) (by omega)]; simp
    have e8 : (pre ++ x :: post).set (0 + pre.length) z = (pre ++ [z]) ++ post := by simp
    rw [show Int.toNat ((pre.length : Nat) : Int) = pre.length from rfl, e7, e8, if_pos e1, if_pos e2, if_pos e3]
    obtain ⟨j, hj⟩ := broomy_loop m z n (pre ++ [z]) post (by omega) (by simp; omega)
    exact ⟨j, by rw [hj]; simp [List.replicate_succ]⟩
theorem broomy20 (l : List Int) (z : Int) (h : decide (l.length ≤ 1000000) = true) : ∃ m, p20 m l z = some (broomyG l z) := by
  have h := of_decide_eq_true h
  refine ⟨100, ?_⟩
  have ew : IntKind.wrap .i64 ((((List.length l) : Nat) : Int) + (80)) = ((l.length + 80 : Nat) : Int) := by rw [wrap_id (by omega) (by omega)]; rfl
  have et : Int.toNat ((l.length + 80 : Nat) : Int) = l.length + 80 := rfl
  have em : min (List.length l) (l.length + 80) = l.length := by omega
  have es : splice (List.replicate (l.length + 80) 0) 0 (List.take l.length l) = l ++ List.replicate 80 0 := by
    simp [splice, List.drop_replicate]
  obtain ⟨j, hj⟩ := broomy_loop 100 z (100 + 24) l (List.replicate 80 0) (by simp) (by simp; omega)
  simp only [List.length_replicate] at hj
  have e1 : (decide ((0 : Int) ≤ ((l.length + 80 : Nat) : Int)) && decide (((l.length + 80 : Nat) : Int) ≤ ((l.length + 80 : Nat) : Int))) = true := by simp; omega
  have e2 : (decide ((((l.length + 80 : Nat) : Int) * 1) ≤ 70368744177664) && decide (((l.length + 80 : Nat) : Int) ≤ 70368744177664)) = true := by simp; omega
  have e3 : decide (0 ≤ (List.length (List.replicate (l.length + 80) (0 : Int)))) = true := decide_eq_true (by omega)
  have e4 : decide (l.length ≤ l.length) = true := decide_eq_true (by omega)
  unfold p20 l20_0R broomyG
  generalize List.replicate 80 z = R at *
  simp only [ew, et, em, es, e1, e2, e3, e4, hj, Option.isSome_some, Option.getD_some, ↓reduceIte]
  rw [List.drop_zero, List.take_length]
  rfl
def s20 : List AV → Boxes → M (AV × Boxes) := normS [.val (.sl (.int .u8)), .val (.int .u8)] [] fun xs B => match xs, B with
  | [(.d (.sl (.int .u8) c1)), (.d (.int .u8 c2))], [] => .chk (decide (List.length c1 ≤ 1000000)) (.ret ((.d (.sl (.int .u8) (broomyG c1 c2))), []))
  | _, _ => .fail
theorem s20_at : CallAt Try.prog 20 s20 := by
  refine CallAt.norm (CallAt.weakE (g := fun n => evCall F S17 n 20) (fun n => evCall_atH mixed kinds hds S17 S17_ok n 20) fun xs B r' B' hr => ?_) _ _
  split at hr
  · rename_i c1 c2
    obtain ⟨hp, hr⟩ := (M.run_chk _ _ _).1 hr
    simp only [M.run, Option.some.injEq, Prod.mk.injEq] at hr
    obtain ⟨rfl, rfl⟩ := hr
    obtain ⟨m, hm⟩ := broomy20 c1 c2 hp
    obtain ⟨r, B1, h1, h2, h3, h4⟩ := p20_ok m c1 c2 _ hm
    exact ⟨m + 25, r, B1, h1, by simp, h2, h3, h4⟩
  · simp [M.run] at hr
noncomputable def S18 : FuncId → Option (List AV → Boxes → M (AV × Boxes)) := fun f => if f = 20 then some s20 else S17 f
set_option maxHeartbeats 20000000 in
theorem S18_ok : ∀ f s, S18 f = some s → CallAt Try.prog f s := by
  intro f s h
  unfold S18 at h
  split at h
  · rename_i e; subst e; cases h; exact s20_at
  · exact S17_ok f s h

noncomputable def fn21 : AFn := (F 21).getD ⟨0, [], .bad, false, false, noHd⟩
noncomputable def body21 : AC := fn21.body
def l21_0 (m : Nat) : Nat → List Int → Int → Int → Option (Nat × Int)
  | 0, _, _, _ => none
  | n + 1, x0, x2, s7 => if decide (s7 < (((List.length x0) : Nat) : Int)) = true then
      if decide (0 ≤ s7) = true then
        if ((List.getD x0 (Int.toNat s7) 0) != x2) = true then
          some (0, s7)
        else
          l21_0 m n x0 x2 ((IntKind.wrap .i64 (s7 + (1))))
      else
        none
    else
      some (1, s7)
def l21_0D : Nat × Int := (0, 0)
@[reducible] def l21_0R (m n : Nat) (x0 : List Int) (x2 : Int) (s7 : Int) : Nat × Int := Option.getD (l21_0 m n x0 x2 s7) l21_0D
def l21_0H (x0 : List Int) (x2 : Int) (s7 : Int) : Env := [(.d (.sl (.int .u8) x0)), .top, (.d (.int .u8 x2)), .top, .top, .top, .top, (.d (.int .i64 s7)), .top, .top, .top, .top, .top, .top, .top, .top, .top, .top, .top, .top, .top, .top, .top, .top, .top, .top, .top, .top, .top, .top, .top, .top, .top, .top, .top, .top, .top]
def l21_0B (x0 : List Int) (x2 : Int) (s7 : Int) : Boxes := []
def l21_0E (x0 : List Int) (x2 : Int) (s7 : Int) : Nat → AEx × Env × Boxes
  | 0 => (.ret, [(.d (.sl (.int .u8) x0)), .top, (.d (.int .u8 x2)), .top, .top, .top, (.d (.bool false)), (.d (.int .i64 s7)), .top, .top, .top, .top, .top, .top, .top, .top, .top, .top, .top, .top, .top, .top, .top, .top, .top, (.d (.int .i64 s7)), (.d (.sl (.int .u8) x0)), (.d (.int .i64 (((List.length x0) : Nat) : Int))), (.d (.bool (decide (s7 < (((List.length x0) : Nat) : Int))))), .top, .top, (.d (.sl (.int .u8) x0)), (.d (.int .i64 s7)), (.cptr [(.int .u8 (List.getD x0 (Int.toNat s7) 0))] 0), (.d (.int .u8 (List.getD x0 (Int.toNat s7) 0))), (.d (.int .u8 x2)), (.d (.bool ((List.getD x0 (Int.toNat s7) 0) != x2)))], [])
  | _ => (.exit 0, [(.d (.sl (.int .u8) x0)), .top, (.d (.int .u8 x2)), .top, .top, .top, .top, (.d (.int .i64 s7)), .top, .top, .top, .top, .top, .top, .top, .top, .top, .top, .top, .top, .top, .top, .top, .top, .top, (.d (.int .i64 s7)), (.d (.sl (.int .u8) x0)), (.d (.int .i64 (((List.length x0) : Nat) : Int))), (.d (.bool (decide (s7 < (((List.length x0) : Nat) : Int))))), .top, .top, .top, .top, .top, .top, .top, .top], [])
noncomputable def lbl21_0 : AC := loopBody 133 body21

set_option maxHeartbeats 20000000 in
theorem l21_0_w0 (m n : Nat) (x0 : List Int) (x2 : Int) (s7 : Int) (c0 : decide (s7 < (((List.length x0) : Nat) : Int)) = true) (c1 : decide (0 ≤ s7) = true) (c3 : ((List.getD x0 (Int.toNat s7) 0) != x2) = true) : (turns (hds 21 133) 0 133 (evC byref (evCall F S18 (m + 24)) (m + 24) 0 (hds 21) lbl21_0) (n + 1) (l21_0H x0 x2 s7) (l21_0B x0 x2 s7)).run = some (.ret, [(.d (.sl (.int .u8) x0)), .top, (.d (.int .u8 x2)), .top, .top, .top, (.d (.bool false)), (.d (.int .i64 s7)), .top, .top, .top, .top, .top, .top, .top, .top, .top, .top, .top, .top, .top, .top, .top, .top, .top, (.d (.int .i64 s7)), (.d (.sl (.int .u8) x0)), (.d (.int .i64 (((List.length x0) : Nat) : Int))), (.d (.bool (decide (s7 < (((List.length x0) : Nat) : Int))))), .top, .top, (.d (.sl (.int .u8) x0)), (.d (.int .i64 s7)), (.cptr [(.int .u8 (List.getD x0 (Int.toNat s7) 0))] 0), (.d (.int .u8 (List.getD x0 (Int.toNat s7) 0))), (.d (.int .u8 x2)), (.d (.bool ((List.getD x0 (Int.toNat s7) 0) != x2)))], []) := by
  exact turns_last (by simp) (M.run_of_path _ [true, true, true, true] _ _ (by kernel_rfl) (all_t c0 (all_t c1 (all_t c0 (all_t c3 all_nil))))) 
set_option maxHeartbeats 20000000 in
theorem l21_0_w1 (m n : Nat) (x0 : List Int) (x2 : Int) (s7 : Int) (r : AEx × Env × Boxes) (c0 : decide (s7 < (((List.length x0) : Nat) : Int)) = true) (c1 : decide (0 ≤ s7) = true) (c3 : ¬ ((List.getD x0 (Int.toNat s7) 0) != x2) = true) (ih : (turns (hds 21 133) 0 133 (evC byref (evCall F S18 (m + 24)) (m + 24) 0 (hds 21) lbl21_0) n (l21_0H x0 x2 ((IntKind.wrap .i64 (s7 + (1))))) (l21_0B x0 x2 ((IntKind.wrap .i64 (s7 + (1)))))).run = some r) : (turns (hds 21 133) 0 133 (evC byref (evCall F S18 (m + 24)) (m + 24) 0 (hds 21) lbl21_0) (n + 1) (l21_0H x0 x2 s7) (l21_0B x0 x2 s7)).run = some r := by
  exact turns_step (M.run_of_path _ [true, true, true, false] _ _ (by kernel_rfl) (all_t c0 (all_t c1 (all_t c0 (all_f c3 all_nil))))) ih
set_option maxHeartbeats 20000000 in
theorem l21_0_w2 (m n : Nat) (x0 : List Int) (x2 : Int) (s7 : Int) (c0 : ¬ decide (s7 < (((List.length x0) : Nat) : Int)) = true) : (turns (hds 21 133) 0 133 (evC byref (evCall F S18 (m + 24)) (m + 24) 0 (hds 21) lbl21_0) (n + 1) (l21_0H x0 x2 s7) (l21_0B x0 x2 s7)).run = some (.exit 0, [(.d (.sl (.int .u8) x0)), .top, (.d (.int .u8 x2)), .top, .top, .top, .top, (.d (.int .i64 s7)), .top, .top, .top, .top, .top, .top, .top, .top, .top, .top, .top, .top, .top, .top, .top, .top, .top, (.d (.int .i64 s7)), (.d (.sl (.int .u8) x0)), (.d (.int .i64 (((List.length x0) : Nat) : Int))), (.d (.bool (decide (s7 < (((List.length x0) : Nat) : Int))))), .top, .top, .top, .top, .top, .top, .top, .top], []) := by
  exact turns_last (by simp) (M.run_of_path _ [false] _ _ (by kernel_rfl) (all_f c0 all_nil)) 

set_option maxHeartbeats 20000000 in
theorem l21_0_step (m n : Nat) (ih : ∀ (x0 : List Int) (x2 : Int) (s7 : Int) (q : Nat × Int), l21_0 m n x0 x2 s7 = some q → (turns (hds 21 133) 0 133 (evC byref (evCall F S18 (m + 24)) (m + 24) 0 (hds 21) lbl21_0) n (l21_0H x0 x2 s7) (l21_0B x0 x2 s7)).run = some (l21_0E (x0) (x2) (q.2) q.1)) (x0 : List Int) (x2 : Int) (s7 : Int) (q : Nat × Int) (h : l21_0 m (n + 1) x0 x2 s7 = some q) : (turns (hds 21 133) 0 133 (evC byref (evCall F S18 (m + 24)) (m + 24) 0 (hds 21) lbl21_0) (n + 1) (l21_0H x0 x2 s7) (l21_0B x0 x2 s7)).run = some (l21_0E (x0) (x2) (q.2) q.1) := by
  rw [l21_0] at h
  refine ite_cases h (fun c0 h => ?_) (fun c0 h => ?_)
  · skip
    refine ite_cases h (fun c1 h => ?_) (fun c1 h => ?_)
    · skip
      refine ite_cases h (fun c3 h => ?_) (fun c3 h => ?_)
      · skip
        cases h
        exact l21_0_w0 m n x0 x2 s7 c0 c1 c3
      · skip
        exact l21_0_w1 m n x0 x2 s7 _ c0 c1 c3 (ih _ _ _ q h)
    · skip
      cases h
  · skip
    cases h
    exact l21_0_w2 m n x0 x2 s7 c0
set_option maxHeartbeats 20000000 in
theorem l21_0_ok (m : Nat) : ∀ (n : Nat) (x0 : List Int) (x2 : Int) (s7 : Int) (q : Nat × Int), l21_0 m n x0 x2 s7 = some q → (turns (hds 21 133) 0 133 (evC byref (evCall F S18 (m + 24)) (m + 24) 0 (hds 21) lbl21_0) n (l21_0H x0 x2 s7) (l21_0B x0 x2 s7)).run = some (l21_0E (x0) (x2) (q.2) q.1)
  | 0, x0, x2, s7, q, h => by cases h
  | n + 1, x0, x2, s7, q, h => l21_0_step m n (l21_0_ok m n) x0 x2 s7 q h

def p21 (m : Nat) (x0 : List Int) (x1 : List Int) (x2 : Int) : Option (Bool) :=
  if ((((List.length x0) : Nat) : Int) != (IntKind.wrap .i64 ((((List.length x1) : Nat) : Int) + (80)))) = true then
    some (false)
  else
    if (decide (0 ≤ (((List.length x1) : Nat) : Int)) && decide ((((List.length x1) : Nat) : Int) ≤ (((List.length x0) : Nat) : Int))) = true then
      if decide (List.length (List.drop 0 (List.take (Int.toNat (((List.length x1) : Nat) : Int)) x0)) < 4611686018427387904) = true then
        if ((show List (Int) from (List.drop 0 (List.take (Int.toNat (((List.length x1) : Nat) : Int)) x0))) == x1) = true then
          if (Option.isSome (l21_0 m (m + 24) x0 x2 ((((List.length x1) : Nat) : Int)))) = true then
            if ((l21_0R m (m + 24) x0 x2 ((((List.length x1) : Nat) : Int))).1 == 0) = true then
              some (false)
            else
              if ((l21_0R m (m + 24) x0 x2 ((((List.length x1) : Nat) : Int))).1 == 1) = true then
                some (true)
              else
                none
          else
            none
        else
          some (false)
      else
        none
    else
      none
set_option maxHeartbeats 20000000 in
theorem p21_ok (m : Nat) (x0 : List Int) (x1 : List Int) (x2 : Int) (q : Bool) (h : p21 m x0 x1 x2 = some q) : ∃ r B1, (evCall F S18 (m + 25) 21 [(.d (.sl (.int .u8) x0)), (.d (.sl (.int .u8) x1)), (.d (.int .u8 x2))] []).run = some (r, B1) ∧ 0 ≤ B1.length ∧ wkR B1 [] r (.d (.bool (q))) ∧ wkBs B1 [] 0 [] := by
  unfold p21 at h
  refine ite_cases h (fun c0 h => ?_) (fun c0 h => ?_)
  · skip
    cases h
    refine ⟨(.d (.bool false)), [], runT_ok (LS := (fun k => none)) (fn := fn21) (vis := []) (by kernel_rfl) rfl (by kernel_rfl) (M.run_of_path _ [true, true, true, true, true, true, true, true, true] _ _ (by kernel_rfl) (all_t c0 (all_t c0 (all_t c0 (all_t c0 (all_t c0 (all_t c0 (all_t c0 (all_t c0 (all_t rfl all_nil)))))))))) ?_, by simp, (wkR.one (wkV.one (wk1.eq rfl))), trivial⟩
    intro p hp; cases hp
  · skip
    refine ite_cases h (fun c4 h => ?_) (fun c4 h => ?_)
    · skip
      refine ite_cases h (fun c7 h => ?_) (fun c7 h => ?_)
      · skip
        refine ite_cases h (fun c10 h => ?_) (fun c10 h => ?_)
        · skip
          refine ite_cases h (fun c11 h => ?_) (fun c11 h => ?_)
          · skip
            refine ite_cases h (fun c12 h => ?_) (fun c12 h => ?_)
            · skip
              cases h
              refine ⟨(.d (.bool false)), [], runT_ok (LS := (fun k => if k = 133 then some (l21_0E x0 x2 ((l21_0R m (m + 24) x0 x2 ((((List.length x1) : Nat) : Int))).2) 0) else none)) (fn := fn21) (vis := [(133, l21_0H x0 x2 ((((List.length x1) : Nat) : Int)), l21_0B x0 x2 ((((List.length x1) : Nat) : Int)))]) (by kernel_rfl) rfl (by kernel_rfl) (M.run_of_path _ [false, false, false, false, true, false, false, true, false, false, false] _ _ (by kernel_rfl) (all_f c0 (all_f c0 (all_f c0 (all_f c0 (all_t c4 (all_f c0 (all_f c0 (all_t c7 (all_f c0 (all_f c0 (all_nt c10 all_nil)))))))))))) ?_, by simp, (wkR.one (wkV.one (wk1.eq rfl))), trivial⟩
              intro p hp p2 hq
              rcases List.mem_cons.1 hp with rfl | hp
              · skip
                have h3 := l21_0_ok m (m + 24) x0 x2 ((((List.length x1) : Nat) : Int)) _ (some_getD (d := l21_0D) c11)
                rw [eq_of_beq c12] at h3
                exact Eq.trans (Eq.mp (by kernel_rfl) h3) hq
              cases hp
            · skip
              refine ite_cases h (fun c13 h => ?_) (fun c13 h => ?_)
              · skip
                cases h
                refine ⟨(.d (.bool true)), [], runT_ok (LS := (fun k => if k = 133 then some (l21_0E x0 x2 ((l21_0R m (m + 24) x0 x2 ((((List.length x1) : Nat) : Int))).2) 1) else none)) (fn := fn21) (vis := [(133, l21_0H x0 x2 ((((List.length x1) : Nat) : Int)), l21_0B x0 x2 ((((List.length x1) : Nat) : Int)))]) (by kernel_rfl) rfl (by kernel_rfl) (M.run_of_path _ [false, false, false, false, true, false, false, true, false, false, false] _ _ (by kernel_rfl) (all_f c0 (all_f c0 (all_f c0 (all_f c0 (all_t c4 (all_f c0 (all_f c0 (all_t c7 (all_f c0 (all_f c0 (all_nt c10 all_nil)))))))))))) ?_, by simp, (wkR.one (wkV.one (wk1.eq rfl))), trivial⟩
                intro p hp p2 hq
                rcases List.mem_cons.1 hp with rfl | hp
                · skip
                  have h3 := l21_0_ok m (m + 24) x0 x2 ((((List.length x1) : Nat) : Int)) _ (some_getD (d := l21_0D) c11)
                  rw [eq_of_beq c13] at h3
                  exact Eq.trans (Eq.mp (by kernel_rfl) h3) hq
                cases hp
              · skip
                cases h
          · skip
            cases h
        · skip
          cases h
          refine ⟨(.d (.bool false)), [], runT_ok (LS := (fun k => none)) (fn := fn21) (vis := []) (by kernel_rfl) rfl (by kernel_rfl) (M.run_of_path _ [false, false, false, false, true, false, false, true, false, false, true] _ _ (by kernel_rfl) (all_f c0 (all_f c0 (all_f c0 (all_f c0 (all_t c4 (all_f c0 (all_f c0 (all_t c7 (all_f c0 (all_f c0 (all_nf c10 all_nil)))))))))))) ?_, by simp, (wkR.one (wkV.one (wk1.eq rfl))), trivial⟩
          intro p hp; cases hp
      · skip
        cases h
    · skip
      cases h

/-- Is such a list as it was? -/
def bintactG (f was : List Int) (z : Int) : Bool := decide (f = was ++ List.replicate 80 z)
theorem bintact_loop (m : Nat) (f : List Int) (z : Int) (hb : f.length ≤ 1000000) : ∀ (n k : Nat), k ≤ f.length → f.length - k < n → ∃ j, l21_0 m n f z ((k : Nat) : Int) = some (if f.drop k = List.replicate (f.length - k) z then 1 else 0, j)
  | 0, k, _, h => by omega
  | n + 1, k, h1, h2 => by
    rw [l21_0]
    by_cases hk : k < f.length
    · have e1 : decide (((k : Nat) : Int) < (((List.length f) : Nat) : Int)) = true := decide_eq_true (by omega)
      have e2 : decide ((0 : Int) ≤ ((k : Nat) : Int)) = true := decide_eq_true (by omega)
      have e7 : IntKind.wrap .i64 (((k : Nat) : Int) + (1)) = ((k + 1 : Nat) : Int) := by rw [wrap_id (by omega) (by omega)]; rfl
      rw [drop_getD f k 0 hk, e7, if_pos e1, if_pos e2, show f.length - k = (f.length - (k + 1)) + 1 by omega, List.replicate_succ, show Int.toNat ((k : Nat) : Int) = k from rfl]
      by_cases hc : f.getD k 0 = z
      · have e3 : (f.getD k 0 != z) = false := by rw [hc]; simp
        rw [e3, if_neg (by simp)]
        obtain ⟨j, hj⟩ := bintact_loop m f z hb n (k + 1) (by omega) (by omega)
        refine ⟨j, ?_⟩
        rw [hj]
        have hc' : (f.getD k 0 :: f.drop (k + 1) = z :: List.replicate (f.length - (k + 1)) z) = (f.drop (k + 1) = List.replicate (f.length - (k + 1)) z) := by rw [List.cons.injEq]; simp only [hc, true_and]
        simp only [hc']
      · have e3 : (f.getD k 0 != z) = true := by simpa using hc
        rw [e3, if_pos rfl, if_neg (by simp only [List.cons.injEq, hc, false_and, not_false_eq_true])]
        exact ⟨_, rfl⟩
    · have e1 : decide (((k : Nat) : Int) < (((List.length f) : Nat) : Int)) = false := decide_eq_false (by omega)
      rw [e1, if_neg (by simp), List.drop_eq_nil_of_le (by omega), show f.length - k = 0 by omega]
      exact ⟨_, rfl⟩
theorem bintact21 (f was : List Int) (z : Int) (h : decide (f.length ≤ 1000000 ∧ was.length ≤ 1000000) = true) : ∃ m, p21 m f was z = some (bintactG f was z) := by
  have ⟨h, hw⟩ := of_decide_eq_true h
  refine ⟨f.length, ?_⟩
  unfold p21 l21_0R bintactG
  by_cases hl : f.length = was.length + 80
  · have ew : IntKind.wrap .i64 ((((List.length was) : Nat) : Int) + (80)) = (((List.length f) : Nat) : Int) := by rw [wrap_id (by omega) (by omega)]; omega
    have e1 : (decide ((0 : Int) ≤ (((List.length was) : Nat) : Int)) && decide ((((List.length was) : Nat) : Int) ≤ (((List.length f) : Nat) : Int))) = true := by simp; omega
    have e2 : decide (List.length (List.drop 0 (List.take was.length f)) < 4611686018427387904) = true := decide_eq_true (by simp; omega)
    have e3 : ((((List.length f) : Nat) : Int) != (((List.length f) : Nat) : Int)) = false := by simp
    obtain ⟨j, hj⟩ := bintact_loop f.length f z h (f.length + 24) was.length (by omega) (by omega)
    rw [show f.length - was.length = 80 by omega] at hj
    have split : f = was ++ List.replicate 80 z ↔ f.take was.length = was ∧ f.drop was.length = List.replicate 80 z := by
      constructor
      · intro e; rw [e]; simp
      · rintro ⟨q1, q2⟩; rw [← q1, ← q2] ; simp
    have hno0 : f.take was.length ≠ was → ¬ f = was ++ List.replicate 80 z := fun q e => q (split.1 e).1
    generalize List.replicate 80 z = R at *
    rw [show Int.toNat ((was.length : Nat) : Int) = was.length from rfl, ew]
    simp only [e1, e2, e3, hj, Option.isSome_some, Option.getD_some, ↓reduceIte, Bool.false_eq_true]
    by_cases q1 : f.take was.length = was
    · by_cases q2 : f.drop was.length = R
      · simp [split, q1, q2]
      · simp [split, q1, q2]
    · simp [split, q1]
  · have ew : ((((List.length f) : Nat) : Int) != IntKind.wrap .i64 ((((List.length was) : Nat) : Int) + (80))) = true := by
      rw [wrap_id (by omega) (by omega)]; simp; omega
    have hno : ¬ f = was ++ List.replicate 80 z := fun e => hl (by rw [e]; simp)
    generalize List.replicate 80 z = R at *
    rw [if_pos ew]
    simp [hno]
def s21 : List AV → Boxes → M (AV × Boxes) := normS [.val (.sl (.int .u8)), .val (.sl (.int .u8)), .val (.int .u8)] [] fun xs B => match xs, B with
  | [(.d (.sl (.int .u8) c1)), (.d (.sl (.int .u8) c2)), (.d (.int .u8 c3))], [] => .chk (decide (List.length c1 ≤ 1000000 ∧ List.length c2 ≤ 1000000)) (.ret ((.d (.bool (bintactG c1 c2 c3))), []))
  | _, _ => .fail
theorem s21_at : CallAt Try.prog 21 s21 := by
  refine CallAt.norm (CallAt.weakE (g := fun n => evCall F S18 n 21) (fun n => evCall_atH mixed kinds hds S18 S18_ok n 21) fun xs B r' B' hr => ?_) _ _
  split at hr
  · rename_i c1 c2 c3
    obtain ⟨hp, hr⟩ := (M.run_chk _ _ _).1 hr
    simp only [M.run, Option.some.injEq, Prod.mk.injEq] at hr
    obtain ⟨rfl, rfl⟩ := hr
    obtain ⟨m, hm⟩ := bintact21 c1 c2 c3 hp
    obtain ⟨r, B1, h1, h2, h3, h4⟩ := p21_ok m c1 c2 c3 _ hm
    exact ⟨m + 25, r, B1, h1, by simp, h2, h3, h4⟩
  · simp [M.run] at hr
noncomputable def S19 : FuncId → Option (List AV → Boxes → M (AV × Boxes)) := fun f => if f = 21 then some s21 else S18 f
set_option maxHeartbeats 20000000 in
theorem S19_ok : ∀ f s, S19 f = some s → CallAt Try.prog f s := by
  intro f s h
  unfold S19 at h
  split at h
  · rename_i e; subst e; cases h; exact s21_at
  · exact S18_ok f s h

end Go.Proofs.Ytghkbjflejgieaa.Dec
namespace Go.Proofs.Ytghkbjflejgieaa.Dec
open Go.Ev
set_option linter.unusedVariables false
set_option linter.unusedSimpArgs false
set_option maxRecDepth 100000

/-- By rising times. -/
def Rises (l : SL) : Prop := l.Pairwise fun a b => a.1 < b.1
theorem upto_eq : ∀ (l : SL) (t : Int) (i : Nat), Rises l → i < l.length → (l.getD i (0, 0)).1 ≤ t → (i + 1 < l.length → t < (l.getD (i + 1) (0, 0)).1) → uptoG l t = i + 1
  | [], t, i, _, h, _, _ => by simp at h
  | a :: r, t, 0, hr, _, h1, h2 => by
    rw [upto_cons]
    have h1' : a.1 ≤ t := by simpa using h1
    rw [if_pos h1']
    cases r with
    | nil => rfl
    | cons b s =>
      have := h2 (by simp)
      have h3 : t < b.1 := by simpa using this
      rw [upto_cons, if_neg (by omega)]
  | a :: r, t, i + 1, hr, h, h1, h2 => by
    rw [upto_cons]
    have hp := List.pairwise_cons.1 hr
    have hi : i < r.length := by simpa using h
    have h1' : (r.getD i (0, 0)).1 ≤ t := by simpa using h1
    have hm := hp.1 _ (getD_mem r i (0, 0) hi)
    rw [if_pos (by omega), upto_eq r t i hp.2 hi h1' fun h3 => by simpa using h2 (by simpa using h3)]
theorem upto_last : ∀ (l : SL) (t : Int), uptoG l t ≠ 0 → (l.getD (uptoG l t - 1) (0, 0)).1 ≤ t
  | [], t, h => absurd rfl h
  | a :: r, t, h => by
    rw [upto_cons] at h ⊢
    by_cases ha : a.1 ≤ t
    · rw [if_pos ha]
      by_cases h0 : uptoG r t = 0
      · rw [h0]; simpa using ha
      · have := upto_last r t h0
        obtain ⟨k, hk⟩ : ∃ k, uptoG r t = k + 1 := ⟨uptoG r t - 1, by omega⟩
        rw [hk] at this ⊢
        simpa using this
    · rw [if_neg ha] at h; exact absurd rfl h
theorem sampGo_len : ∀ (ks : List Int) (t : Int), (sampGo t ks).length = ks.length
  | [], t => rfl
  | k :: ks, t => by simp [sampGo, sampGo_len ks]
theorem sampGo_above : ∀ (ks : List Int) (t : Int) x, x ∈ sampGo t ks → t < x.1 ∧ x.1 ≤ t + 12 * ks.length
  | [], t, x, h => by simp [sampGo] at h
  | k :: ks, t, x, h => by
    have hw := within_1_12 k
    rcases List.mem_cons.1 h with rfl | h
    · simp only [List.length_cons]; omega
    · have := sampGo_above ks _ x h
      simp only [List.length_cons]; omega
theorem sampGo_rises : ∀ (ks : List Int) (t : Int), Rises (sampGo t ks)
  | [], t => List.Pairwise.nil
  | k :: ks, t => List.pairwise_cons.2 ⟨fun x hx => (sampGo_above ks _ x hx).1, sampGo_rises ks _⟩
set_option maxHeartbeats 20000000 in
theorem samples_ok (ks : List Int) : Rises (samplesG ks) ∧ (samplesG ks).length ≤ 20 ∧ ∀ x ∈ samplesG ks, 1 ≤ x.1 ∧ x.1 ≤ 240 := by
  refine ⟨sampGo_rises _ _, by unfold samplesG; rw [sampGo_len, List.length_take]; omega, fun x hx => ?_⟩
  have := sampGo_above _ _ x hx
  rw [List.length_take] at this
  omega
set_option maxHeartbeats 20000000 in
theorem addR_ok : ∀ (xs out : SL), Rises (out ++ xs) → (out ++ xs).length ≤ 200 → (∀ x ∈ xs, 0 ≤ x.1 ∧ x.1 ≤ 1099511627776) → addR out xs = (0, out ++ xs)
  | [], out, _, _, _ => by simp [addR]
  | x :: xs, out, h1, h2, h3 => by
    have hx := h3 x (List.mem_cons_self ..)
    rw [addR, if_neg (by omega), if_neg (by omega)]
    have hno : ¬ (0 < out.length ∧ x.1 ≤ (out.getD (out.length - 1) (0, 0)).1) := by
      rintro ⟨h4, h5⟩
      have := (List.pairwise_append.1 h1).2.2 _ (getD_mem out (out.length - 1) (0, 0) (by omega)) x (List.mem_cons_self ..)
      omega
    rw [if_neg hno, if_neg (by simp at h2; omega)]
    have e : out ++ x :: xs = (out ++ [x]) ++ xs := by simp
    rw [e] at h1 h2 ⊢
    exact addR_ok xs (out ++ [x]) h1 h2 fun y hy => h3 y (List.mem_cons_of_mem _ hy)
set_option maxHeartbeats 20000000 in
theorem addG_ok {xs : SL} (h1 : Rises xs) (h2 : xs.length ≤ 200) (h3 : ∀ x ∈ xs, 0 ≤ x.1 ∧ x.1 ≤ 1099511627776) : addG [] xs = (0, xs) := by
  have := addR_ok xs [] (by simpa using h1) (by simpa using h2) h3
  unfold addG
  rw [this]
  simp
set_option maxHeartbeats 20000000 in
theorem inR_of_ok {x : Int} (h : Ty.ok (.int .i64) x) : inR x = true := by
  unfold Ty.ok at h
  simp [Lit.wf] at h
  have hm : IntKind.min .i64 = -9223372036854775808 := rfl
  exact decide_eq_true (by omega)
set_option maxHeartbeats 20000000 in
theorem byte_of_ok {x : Int} (h : Ty.ok (.int .u8) x) : 0 ≤ x ∧ x ≤ 255 := by
  unfold Ty.ok at h
  simp [Lit.wf] at h
  have hm : IntKind.min .u8 = 0 := rfl
  have hM : IntKind.max .u8 = 255 := rfl
  omega
theorem wrap_back (a b : Int) (h : inR b = true) : IntKind.wrap .i64 (a + IntKind.wrap .i64 (b - a)) = b := by
  have h := of_decide_eq_true h
  have h1 := wrapS (b - a)
  generalize IntKind.wrap .i64 (b - a) = w at *
  rw [wrapS]
  split at h1 <;> split <;> omega
def inL (l : SL) : Prop := ∀ x ∈ l, inR x.1 = true ∧ inR x.2 = true
theorem readR_put : ∀ (l : SL) (t v s : Int) (acc : SL) (rest : List Int), inL l → readR l.length (putR t v s l ++ rest) s (t, v) acc = (acc ++ l, true)
  | [], t, v, s, acc, rest, _ => by simp [readR]
  | x :: xs, t, v, s, acc, rest, h => by
    have hx := h x (List.mem_cons_self ..)
    have e1 : putR t v s (x :: xs) ++ rest = nb (zz (IntKind.wrap .i64 (IntKind.wrap .i64 (x.1 - t) - s))) ++ (nb (zz (IntKind.wrap .i64 (x.2 - v))) ++ (putR x.1 x.2 (IntKind.wrap .i64 (x.1 - t)) xs ++ rest)) := by
      simp [putR, numG]
    have e2 : IntKind.wrap .i64 (s + IntKind.wrap .i64 (IntKind.wrap .i64 (x.1 - t) - s)) = IntKind.wrap .i64 (x.1 - t) := wrap_back _ _ (inR_wrap _)
    have e3 : IntKind.wrap .i64 (t + IntKind.wrap .i64 (x.1 - t)) = x.1 := wrap_back _ _ hx.1
    have e4 : IntKind.wrap .i64 (v + IntKind.wrap .i64 (x.2 - v)) = x.2 := wrap_back _ _ hx.2
    have n1 := nb_len10 (zz_lt (inR_wrap (IntKind.wrap .i64 (x.1 - t) - s)))
    have n2 := nb_len10 (zz_lt (inR_wrap (x.2 - v)))
    rw [List.length_cons, readR, e1]
    have f1 := next_nb (inR_wrap (IntKind.wrap .i64 (x.1 - t) - s)) (nb (zz (IntKind.wrap .i64 (x.2 - v))) ++ (putR x.1 x.2 (IntKind.wrap .i64 (x.1 - t)) xs ++ rest))
    have f2 := next_nb (inR_wrap (x.2 - v)) (putR x.1 x.2 (IntKind.wrap .i64 (x.1 - t)) xs ++ rest)
    have ih := readR_put xs x.1 x.2 (IntKind.wrap .i64 (x.1 - t)) (acc ++ [x]) rest fun y hy => h y (List.mem_cons_of_mem _ hy)
    generalize hA : nb (zz (IntKind.wrap .i64 (IntKind.wrap .i64 (x.1 - t) - s))) = A at *
    generalize hC : nb (zz (IntKind.wrap .i64 (x.2 - v))) = C at *
    generalize putR x.1 x.2 (IntKind.wrap .i64 (x.1 - t)) xs ++ rest = R at *
    have g1 : List.drop A.length (A ++ (C ++ R)) = C ++ R := List.drop_left' rfl
    have g2 : List.drop (A.length + C.length) (A ++ (C ++ R)) = R := by
      rw [← List.append_assoc]; exact List.drop_left' (by simp)
    simp only [f1, Int.toNat_natCast, g1, f2, e2, e3, e4]
    rw [if_neg (by omega), if_neg (by omega)]
    rw [show ((A.length : Int) + (C.length : Int)).toNat = A.length + C.length by omega, g2, ih]
    simp
theorem read_block (l : SL) (hl : l.length ≤ 200) (h : inL l) : readG (blockG l) = (l, true) := by
  have hi := inR_len l (by omega)
  have f := next_nb hi (putR 0 0 0 l)
  have n1 := nb_len10 (zz_lt hi)
  have e : blockG l = nb (zz ((l.length : Nat) : Int)) ++ putR 0 0 0 l := by simp [blockG, numG]
  have ih := readR_put l 0 0 0 [] [] h
  rw [List.append_nil, List.nil_append] at ih
  unfold readG
  rw [e]
  generalize nb (zz ((l.length : Nat) : Int)) = A at *
  have g1 : List.drop A.length (A ++ putR 0 0 0 l) = putR 0 0 0 l := List.drop_left' rfl
  simp only [f, Int.toNat_natCast, g1]
  rw [if_neg (by omega), if_neg (by omega), if_neg (by omega), ih]
theorem addR_zero : ∀ (l out : SL), (addR out l).1 = 0 → (addR out l).2 = out ++ l ∧ (∀ x ∈ l, 0 ≤ x.1 ∧ x.1 ≤ 1099511627776) ∧ (out.length ≤ 200 → (out ++ l).length ≤ 200)
  | [], out, _ => by simp [addR]
  | x :: xs, out, h => by
    unfold addR at h ⊢
    by_cases c1 : x.1 < 0
    · rw [if_pos c1] at h; simp at h
    · rw [if_neg c1] at h ⊢
      by_cases c2 : x.1 > 1099511627776
      · rw [if_pos c2] at h; simp at h
      · rw [if_neg c2] at h ⊢
        by_cases c3 : 0 < out.length ∧ x.1 ≤ (out.getD (out.length - 1) (0, 0)).1
        · rw [if_pos c3] at h; simp at h
        · rw [if_neg c3] at h ⊢
          by_cases c4 : out.length = 200
          · rw [if_pos c4] at h; simp at h
          · rw [if_neg c4] at h ⊢
            obtain ⟨g1, g2, g3⟩ := addR_zero xs (out ++ [x]) h
            refine ⟨by rw [g1]; simp, fun y hy => ?_, fun hl => ?_⟩
            · rcases List.mem_cons.1 hy with rfl | hy
              · omega
              · exact g2 y hy
            · have := g3 (by simp; omega)
              simpa using this
theorem add_zero {l : SL} (h : (addG [] l).1 = 0) : (∀ x ∈ l, 0 ≤ x.1 ∧ x.1 ≤ 1099511627776) ∧ l.length ≤ 200 := by
  have h0 : (addR [] l).1 = 0 := by
    unfold addG at h
    split at h
    · rename_i h1; exact h1
    · exact h
  obtain ⟨_, g2, g3⟩ := addR_zero l [] h0
  exact ⟨g2, by simpa using g3⟩
def vals (l : SL) : Prop := ∀ x ∈ l, inR x.2 = true
theorem read_put {l : SL} (hv : vals l) (h : (addG [] l).1 = 0) : readG (putG l) = (l, true) := by
  obtain ⟨h1, h2⟩ := add_zero h
  unfold putG
  rw [if_pos h]
  exact read_block l h2 fun x hx => ⟨decide_eq_true (by have := h1 x hx; omega), hv x hx⟩
theorem get_put (l : SL) (hv : vals l) : getG (putG l) = if (addG [] l).1 = 0 then (l, 0) else ([], 1) := by
  by_cases h : (addG [] l).1 = 0
  · rw [if_pos h]
    unfold getG
    rw [read_put hv h, if_pos ⟨rfl, rfl⟩]
  · rw [if_neg h]
    unfold putG
    rw [if_neg h]
    rfl
theorem put_inj {x y : SL} (hx : vals x) (hy : vals y) (h1 : (addG [] x).1 = 0) (h2 : (addG [] y).1 = 0) (h : putG x = putG y) : x = y := by
  have a := read_put hx h1
  have b := read_put hy h2
  rw [h, b] at a
  exact (congrArg Prod.fst a).symm
theorem put_pos {l : SL} (h : (addG [] l).1 = 0) : 0 < (putG l).length ∧ (putG l).length ≤ 4010 := by
  obtain ⟨_, h2⟩ := add_zero h
  have := blockG_len l (by omega)
  unfold putG
  rw [if_pos h]
  omega
theorem num_bytes : ∀ (ns : List Int), (∀ n ∈ ns, inR n = true) → ∀ x ∈ numG ns, 0 ≤ x ∧ x ≤ 255
  | [], _, x, hx => by simp [numG] at hx
  | n :: ns, h, x, hx => by
    rcases List.mem_append.1 hx with hx | hx
    · exact nb_bytes 10 _ (Nat.lt_of_lt_of_le (zz_lt (h n (List.mem_cons_self ..))) (by decide)) x hx
    · exact num_bytes ns (fun y hy => h y (List.mem_cons_of_mem _ hy)) x hx
theorem putR_bytes : ∀ (l : SL) (t v s : Int), ∀ x ∈ putR t v s l, 0 ≤ x ∧ x ≤ 255
  | [], t, v, s, x, hx => by simp [putR] at hx
  | y :: l, t, v, s, x, hx => by
    rcases List.mem_append.1 hx with hx | hx
    · exact num_bytes _ (by simp [inR_wrap]) x hx
    · exact putR_bytes l _ _ _ x hx
theorem put_bytes (l : SL) (h : l.length ≤ 1000000) : ∀ x ∈ putG l, 0 ≤ x ∧ x ≤ 255 := by
  intro x hx
  unfold putG at hx
  split at hx
  · rcases List.mem_append.1 hx with hx | hx
    · exact num_bytes _ (by simpa using inR_len l h) x hx
    · exact putR_bytes l _ _ _ x hx
  · simp at hx
theorem samp_vals : ∀ (ks : List Int) (t : Int), vals (sampGo t ks)
  | [], t => fun x hx => by simp [sampGo] at hx
  | k :: ks, t => fun x hx => by
    rcases List.mem_cons.1 hx with rfl | hx
    · refine decide_eq_true ?_
      have y1 := Int.emod_nonneg (IntKind.wrap .i64 (Int.tdiv k 12)) (b := 14) (by omega)
      have y2 := Int.emod_lt_of_pos (IntKind.wrap .i64 (Int.tdiv k 12)) (b := 14) (by omega)
      simp only
      unfold withinI
      rw [show (9 : Int) - -4 + 1 = 14 from rfl]
      omega
    · exact samp_vals ks _ x hx
theorem samp_right (ks : List Int) : vals (samplesG ks) ∧ (samplesG ks).length ≤ 20 ∧ ∀ c, (addG [] ((samplesG ks).take c)).1 = 0 := by
  obtain ⟨h1, h2, h3⟩ := samples_ok ks
  refine ⟨samp_vals _ _, h2, fun c => ?_⟩
  rw [addG_ok (h1.sublist (List.take_sublist _ _)) (by rw [List.length_take]; omega) fun x hx => by have := h3 x (List.mem_of_mem_take hx); omega]
theorem samp_right0 (ks : List Int) : (addG [] (samplesG ks)).1 = 0 := by
  have := (samp_right ks).2.2 (samplesG ks).length
  rwa [List.take_length] at this

end Go.Proofs.Ytghkbjflejgieaa.Dec
namespace Go.Proofs.Ytghkbjflejgieaa.Dec
open Go.Ev
set_option linter.unusedVariables false
set_option linter.unusedSimpArgs false
set_option maxRecDepth 100000
noncomputable def fn4 : AFn := (F 4).getD ⟨0, [], .bad, false, false, noHd⟩
noncomputable def body4 : AC := fn4.body
def l4_0 (m : Nat) : Nat → Int → Int → Int → Int → List (Int × Int) → Option (Nat × Int × (List (Int × Int)))
  | 0, _, _, _, _, _ => none
  | n + 1, x3, x4, s36, s37, b0 => if decide (s37 < s36) = true then
      if ((IntKind.wrap .i64 ((((BitVec.ofInt 64 s37 &&& BitVec.ofInt 64 (3)).toNat : Nat) : Int))) == (1)) = true then
        if decide (0 ≤ s37) = true then
          if decide (s37 < (((List.length b0) : Nat) : Int)) = true then
            if decide ((0 + (Int.toNat s37)) < (List.length b0)) = true then
              l4_0 m n x3 x4 s36 ((IntKind.wrap .i64 (s37 + (1)))) ((List.set b0 (0 + (Int.toNat s37)) ((List.getD b0 (0 + (Int.toNat s37)) (0, 0)).1, x3)))
            else
              none
          else
            none
        else
          none
      else
        l4_0 m n x3 x4 s36 ((IntKind.wrap .i64 (s37 + (1)))) b0
    else
      some (0, s37, b0)
def l4_0D : Nat × Int × (List (Int × Int)) := (0, 0, [])
@[reducible] def l4_0R (m n : Nat) (x3 : Int) (x4 : Int) (s36 : Int) (s37 : Int) (b0 : List (Int × Int)) : Nat × Int × (List (Int × Int)) := Option.getD (l4_0 m n x3 x4 s36 s37 b0) l4_0D
def l4_0H (x3 : Int) (x4 : Int) (s36 : Int) (s37 : Int) (b0 : List (Int × Int)) : Env := [.top, .top, .top, (.d (.int .i64 x3)), (.d (.int .i64 x4)), .top, .top, .top, .top, .top, .top, (.sr 0 0 (List.length b0) 2 none), .top, .top, .top, .top, .top, .top, .top, .top, .top, .top, .top, .top, .top, .top, .top, .top, .top, .top, .top, .top, .top, .top, .top, .top, (.d (.int .i64 s36)), (.d (.int .i64 s37)), .top, .top, .top, .top, .top, .top, .top, .top, .top, .top, .top, .top, .top, .top, .top, .top, .top, .top, .top, .top, .top, .top, .top, .top, .top, .top, .top, .top, .top, .top, .top, .top, .top, .top, .top, .top, .top, .top, .top, .top, .top, .top, .top, .top, .top, .top, .top, .top, .top, .top, .top, .top, .top, .top, .top, .top, .top, .top, .top, .top, .top, .top, .top, .top, .top, .top, .top, .top, .top, .top, .top, .top, .top, .top, .top, .top, .top, .top, .top, .top, .top, .top, .top, .top, .top, .top, .top, .top, .top, .top, .top, .top, .top, .top, .top, .top, .top, .top, .top, .top, .top, .top, .top, .top, .top, .top, .top, .top, .top, .top, .top, .top, .top, .top, .top, .top, .top, .top, .top, .top, .top, .top, .top, .top, .top, .top, .top, .top, .top, .top, .top, .top, .top, .top, .top, .top, .top, .top, .top, .top, .top, .top, .top, .top, .top, .top]
def l4_0B (x3 : Int) (x4 : Int) (s36 : Int) (s37 : Int) (b0 : List (Int × Int)) : Boxes := [(.arr (.pair (.int .i64) (.int .i64)) b0 true)]
def l4_0E (x3 : Int) (x4 : Int) (s36 : Int) (s37 : Int) (b0 : List (Int × Int)) : Nat → AEx × Env × Boxes
  | _ => (.exit 0, [.top, .top, .top, (.d (.int .i64 x3)), (.d (.int .i64 x4)), .top, .top, .top, .top, .top, .top, (.sr 0 0 (List.length b0) 2 none), .top, .top, .top, .top, .top, .top, .top, .top, .top, .top, .top, .top, .top, .top, .top, .top, .top, .top, .top, .top, .top, .top, .top, .top, (.d (.int .i64 s36)), (.d (.int .i64 s37)), (.d (.bool (decide (s37 < s36)))), .top, .top, .top, .top, .top, .top, .top, .top, .top, .top, .top, .top, .top, .top, .top, .top, .top, .top, .top, .top, .top, .top, .top, .top, .top, .top, .top, .top, .top, .top, .top, .top, .top, .top, .top, .top, .top, .top, .top, .top, .top, .top, .top, .top, .top, .top, .top, .top, .top, .top, .top, .top, .top, .top, .top, .top, .top, .top, .top, .top, .top, .top, .top, .top, .top, .top, .top, .top, .top, .top, .top, .top, .top, .top, .top, .top, .top, .top, .top, .top, .top, .top, .top, .top, .top, .top, .top, .top, .top, .top, .top, .top, .top, .top, .top, .top, .top, .top, .top, .top, .top, .top, .top, .top, .top, .top, .top, .top, .top, .top, .top, .top, .top, .top, .top, .top, .top, .top, .top, .top, .top, .top, .top, .top, .top, .top, .top, .top, .top, .top, .top, .top, .top, .top, .top, .top, .top, .top, .top, .top, .top, .top, .top, .top, .top], [(.arr (.pair (.int .i64) (.int .i64)) b0 true)])
noncomputable def lbl4_0 : AC := loopBody 206158432280 body4

set_option maxHeartbeats 20000000 in
theorem l4_0_w0 (m n : Nat) (x3 : Int) (x4 : Int) (s36 : Int) (s37 : Int) (b0 : List (Int × Int)) (r : AEx × Env × Boxes) (c0 : decide (s37 < s36) = true) (c1 : ((IntKind.wrap .i64 ((((BitVec.ofInt 64 s37 &&& BitVec.ofInt 64 (3)).toNat : Nat) : Int))) == (1)) = true) (c2 : decide (0 ≤ s37) = true) (c3 : decide (s37 < (((List.length b0) : Nat) : Int)) = true) (c4 : decide ((0 + (Int.toNat s37)) < (List.length b0)) = true) (ih : (turns (hds 4 206158432280) 0 206158432280 (evC byref (evCall F S19 (m + 24)) (m + 24) 0 (hds 4) lbl4_0) n (l4_0H x3 x4 s36 ((IntKind.wrap .i64 (s37 + (1)))) ((List.set b0 (0 + (Int.toNat s37)) ((List.getD b0 (0 + (Int.toNat s37)) (0, 0)).1, x3)))) (l4_0B x3 x4 s36 ((IntKind.wrap .i64 (s37 + (1)))) ((List.set b0 (0 + (Int.toNat s37)) ((List.getD b0 (0 + (Int.toNat s37)) (0, 0)).1, x3))))).run = some r) : (turns (hds 4 206158432280) 0 206158432280 (evC byref (evCall F S19 (m + 24)) (m + 24) 0 (hds 4) lbl4_0) (n + 1) (l4_0H x3 x4 s36 s37 b0) (l4_0B x3 x4 s36 s37 b0)).run = some r := by
  have ht : (turn (hds 4 206158432280) 0 206158432280 (evC byref (evCall F S19 (m + 24)) (m + 24) 0 (hds 4) lbl4_0) (l4_0H x3 x4 s36 s37 b0) (l4_0B x3 x4 s36 s37 b0)).run = some (.normal, [.top, .top, .top, (.d (.int .i64 x3)), (.d (.int .i64 x4)), .top, .top, .top, .top, .top, .top, (.sr 0 0 (List.length b0) 2 none), .top, .top, .top, .top, .top, .top, .top, .top, .top, .top, .top, .top, .top, .top, .top, .top, .top, .top, .top, .top, .top, .top, .top, .top, (.d (.int .i64 s36)), (.d (.int .i64 (IntKind.wrap .i64 (s37 + (1))))), .top, .top, .top, .top, .top, .top, .top, .top, .top, .top, .top, .top, .top, .top, .top, .top, .top, .top, .top, .top, .top, .top, .top, .top, .top, .top, .top, .top, .top, .top, .top, .top, .top, .top, .top, .top, .top, .top, .top, .top, .top, .top, .top, .top, .top, .top, .top, .top, .top, .top, .top, .top, .top, .top, .top, .top, .top, .top, .top, .top, .top, .top, .top, .top, .top, .top, .top, .top, .top, .top, .top, .top, .top, .top, .top, .top, .top, .top, .top, .top, .top, .top, .top, .top, .top, .top, .top, .top, .top, .top, .top, .top, .top, .top, .top, .top, .top, .top, .top, .top, .top, .top, .top, .top, .top, .top, .top, .top, .top, .top, .top, .top, .top, .top, .top, .top, .top, .top, .top, .top, .top, .top, .top, .top, .top, .top, .top, .top, .top, .top, .top, .top, .top, .top, .top, .top, .top, .top, .top, .top, .top, .top, .top, .top, .top, .top], [(.arr (.pair (.int .i64) (.int .i64)) (List.set b0 (0 + (Int.toNat s37)) ((List.getD b0 (0 + (Int.toNat s37)) (0, 0)).1, x3)) true)]) := M.run_of_path _ [true, true, true, true, true] _ _ (by kernel_rfl) (all_t c0 (all_t c1 (all_t c2 (all_t c3 (all_t c4 all_nil)))))
  refine turns_step ht (turns_eq ?_ ?_ ih)
  · unfold l4_0H
    first | (simp; done) | (simp [Nat.add_assoc]; done)
  · unfold l4_0B
    simp
set_option maxHeartbeats 20000000 in
theorem l4_0_w1 (m n : Nat) (x3 : Int) (x4 : Int) (s36 : Int) (s37 : Int) (b0 : List (Int × Int)) (r : AEx × Env × Boxes) (c0 : decide (s37 < s36) = true) (c1 : ¬ ((IntKind.wrap .i64 ((((BitVec.ofInt 64 s37 &&& BitVec.ofInt 64 (3)).toNat : Nat) : Int))) == (1)) = true) (ih : (turns (hds 4 206158432280) 0 206158432280 (evC byref (evCall F S19 (m + 24)) (m + 24) 0 (hds 4) lbl4_0) n (l4_0H x3 x4 s36 ((IntKind.wrap .i64 (s37 + (1)))) b0) (l4_0B x3 x4 s36 ((IntKind.wrap .i64 (s37 + (1)))) b0)).run = some r) : (turns (hds 4 206158432280) 0 206158432280 (evC byref (evCall F S19 (m + 24)) (m + 24) 0 (hds 4) lbl4_0) (n + 1) (l4_0H x3 x4 s36 s37 b0) (l4_0B x3 x4 s36 s37 b0)).run = some r := by
  exact turns_step (M.run_of_path _ [true, false] _ _ (by kernel_rfl) (all_t c0 (all_f c1 all_nil))) ih
set_option maxHeartbeats 20000000 in
theorem l4_0_w2 (m n : Nat) (x3 : Int) (x4 : Int) (s36 : Int) (s37 : Int) (b0 : List (Int × Int)) (c0 : ¬ decide (s37 < s36) = true) : (turns (hds 4 206158432280) 0 206158432280 (evC byref (evCall F S19 (m + 24)) (m + 24) 0 (hds 4) lbl4_0) (n + 1) (l4_0H x3 x4 s36 s37 b0) (l4_0B x3 x4 s36 s37 b0)).run = some (.exit 0, [.top, .top, .top, (.d (.int .i64 x3)), (.d (.int .i64 x4)), .top, .top, .top, .top, .top, .top, (.sr 0 0 (List.length b0) 2 none), .top, .top, .top, .top, .top, .top, .top, .top, .top, .top, .top, .top, .top, .top, .top, .top, .top, .top, .top, .top, .top, .top, .top, .top, (.d (.int .i64 s36)), (.d (.int .i64 s37)), (.d (.bool (decide (s37 < s36)))), .top, .top, .top, .top, .top, .top, .top, .top, .top, .top, .top, .top, .top, .top, .top, .top, .top, .top, .top, .top, .top, .top, .top, .top, .top, .top, .top, .top, .top, .top, .top, .top, .top, .top, .top, .top, .top, .top, .top, .top, .top, .top, .top, .top, .top, .top, .top, .top, .top, .top, .top, .top, .top, .top, .top, .top, .top, .top, .top, .top, .top, .top, .top, .top, .top, .top, .top, .top, .top, .top, .top, .top, .top, .top, .top, .top, .top, .top, .top, .top, .top, .top, .top, .top, .top, .top, .top, .top, .top, .top, .top, .top, .top, .top, .top, .top, .top, .top, .top, .top, .top, .top, .top, .top, .top, .top, .top, .top, .top, .top, .top, .top, .top, .top, .top, .top, .top, .top, .top, .top, .top, .top, .top, .top, .top, .top, .top, .top, .top, .top, .top, .top, .top, .top, .top, .top, .top, .top, .top, .top, .top, .top, .top, .top, .top], [(.arr (.pair (.int .i64) (.int .i64)) b0 true)]) := by
  exact turns_last (by simp) (M.run_of_path _ [false] _ _ (by kernel_rfl) (all_f c0 all_nil)) 

set_option maxHeartbeats 20000000 in
theorem l4_0_step (m n : Nat) (ih : ∀ (x3 : Int) (x4 : Int) (s36 : Int) (s37 : Int) (b0 : List (Int × Int)) (q : Nat × Int × (List (Int × Int))), l4_0 m n x3 x4 s36 s37 b0 = some q → (turns (hds 4 206158432280) 0 206158432280 (evC byref (evCall F S19 (m + 24)) (m + 24) 0 (hds 4) lbl4_0) n (l4_0H x3 x4 s36 s37 b0) (l4_0B x3 x4 s36 s37 b0)).run = some (l4_0E (x3) (x4) (s36) (q.2.1) (q.2.2) q.1)) (x3 : Int) (x4 : Int) (s36 : Int) (s37 : Int) (b0 : List (Int × Int)) (q : Nat × Int × (List (Int × Int))) (h : l4_0 m (n + 1) x3 x4 s36 s37 b0 = some q) : (turns (hds 4 206158432280) 0 206158432280 (evC byref (evCall F S19 (m + 24)) (m + 24) 0 (hds 4) lbl4_0) (n + 1) (l4_0H x3 x4 s36 s37 b0) (l4_0B x3 x4 s36 s37 b0)).run = some (l4_0E (x3) (x4) (s36) (q.2.1) (q.2.2) q.1) := by
  rw [l4_0] at h
  refine ite_cases h (fun c0 h => ?_) (fun c0 h => ?_)
  · skip
    refine ite_cases h (fun c1 h => ?_) (fun c1 h => ?_)
    · skip
      refine ite_cases h (fun c2 h => ?_) (fun c2 h => ?_)
      · skip
        refine ite_cases h (fun c3 h => ?_) (fun c3 h => ?_)
        · skip
          refine ite_cases h (fun c4 h => ?_) (fun c4 h => ?_)
          · skip
            exact l4_0_w0 m n x3 x4 s36 s37 b0 _ c0 c1 c2 c3 c4 (ih _ _ _ _ _ q h)
          · skip
            cases h
        · skip
          cases h
      · skip
        cases h
    · skip
      exact l4_0_w1 m n x3 x4 s36 s37 b0 _ c0 c1 (ih _ _ _ _ _ q h)
  · skip
    cases h
    exact l4_0_w2 m n x3 x4 s36 s37 b0 c0
set_option maxHeartbeats 20000000 in
theorem l4_0_ok (m : Nat) : ∀ (n : Nat) (x3 : Int) (x4 : Int) (s36 : Int) (s37 : Int) (b0 : List (Int × Int)) (q : Nat × Int × (List (Int × Int))), l4_0 m n x3 x4 s36 s37 b0 = some q → (turns (hds 4 206158432280) 0 206158432280 (evC byref (evCall F S19 (m + 24)) (m + 24) 0 (hds 4) lbl4_0) n (l4_0H x3 x4 s36 s37 b0) (l4_0B x3 x4 s36 s37 b0)).run = some (l4_0E (x3) (x4) (s36) (q.2.1) (q.2.2) q.1)
  | 0, x3, x4, s36, s37, b0, q, h => by cases h
  | n + 1, x3, x4, s36, s37, b0, q, h => l4_0_step m n (l4_0_ok m n) x3 x4 s36 s37 b0 q h

def l4_1 (m : Nat) : Nat → Int → Int → Bool → Int → Int → List (Int × Int) → Option (Nat × Bool × Int)
  | 0, _, _, _, _, _, _ => none
  | n + 1, x3, x4, s13, s50, s51, b0 => if decide (s51 < s50) = true then
      if decide (0 ≤ s51) = true then
        if decide (s51 < (((List.length b0) : Nat) : Int)) = true then
          if decide ((0 + (Int.toNat s51)) < (List.length b0)) = true then
            if s13 = true then
              if decide ((List.getD b0 (0 + (Int.toNat s51)) (0, 0)).1 ≥ 0) = true then
                if decide ((List.getD b0 (0 + (Int.toNat s51)) (0, 0)).1 ≤ 1099511627776) = true then
                  if (s51 == (0)) = true then
                    l4_1 m n x3 x4 true s50 ((IntKind.wrap .i64 (s51 + (1)))) b0
                  else
                    if decide (0 ≤ (IntKind.wrap .i64 (s51 - (1)))) = true then
                      if decide ((IntKind.wrap .i64 (s51 - (1))) < (((List.length b0) : Nat) : Int)) = true then
                        if decide ((0 + (Int.toNat (IntKind.wrap .i64 (s51 - (1))))) < (List.length b0)) = true then
                          l4_1 m n x3 x4 (decide ((List.getD b0 (0 + (Int.toNat s51)) (0, 0)).1 > (List.getD b0 (0 + (Int.toNat (IntKind.wrap .i64 (s51 - (1))))) (0, 0)).1)) s50 ((IntKind.wrap .i64 (s51 + (1)))) b0
                        else
                          none
                      else
                        none
                    else
                      none
                else
                  l4_1 m n x3 x4 false s50 ((IntKind.wrap .i64 (s51 + (1)))) b0
              else
                l4_1 m n x3 x4 false s50 ((IntKind.wrap .i64 (s51 + (1)))) b0
            else
              l4_1 m n x3 x4 false s50 ((IntKind.wrap .i64 (s51 + (1)))) b0
          else
            none
        else
          none
      else
        none
    else
      some (0, s13, s51)
def l4_1D : Nat × Bool × Int := (0, false, 0)
@[reducible] def l4_1R (m n : Nat) (x3 : Int) (x4 : Int) (s13 : Bool) (s50 : Int) (s51 : Int) (b0 : List (Int × Int)) : Nat × Bool × Int := Option.getD (l4_1 m n x3 x4 s13 s50 s51 b0) l4_1D
def l4_1H (x3 : Int) (x4 : Int) (s13 : Bool) (s50 : Int) (s51 : Int) (b0 : List (Int × Int)) : Env := [.top, .top, .top, (.d (.int .i64 x3)), (.d (.int .i64 x4)), .top, .top, .top, .top, .top, .top, (.sr 0 0 (List.length b0) 2 none), .top, (.d (.bool (s13))), .top, .top, .top, .top, .top, .top, .top, .top, .top, .top, .top, .top, .top, .top, .top, .top, .top, .top, .top, .top, .top, .top, .top, .top, .top, .top, .top, .top, .top, .top, .top, .top, .top, .top, .top, (.sr 0 0 (List.length b0) 2 none), (.d (.int .i64 s50)), (.d (.int .i64 s51)), .top, .top, .top, .top, .top, .top, .top, .top, .top, .top, .top, .top, .top, .top, .top, .top, .top, .top, .top, .top, .top, .top, .top, .top, .top, .top, .top, .top, .top, .top, .top, .top, .top, .top, .top, .top, .top, .top, .top, .top, .top, .top, .top, .top, .top, .top, .top, .top, .top, .top, .top, .top, .top, .top, .top, .top, .top, .top, .top, .top, .top, .top, .top, .top, .top, .top, .top, .top, .top, .top, .top, .top, .top, .top, .top, .top, .top, .top, .top, .top, .top, .top, .top, .top, .top, .top, .top, .top, .top, .top, .top, .top, .top, .top, .top, .top, .top, .top, .top, .top, .top, .top, .top, .top, .top, .top, .top, .top, .top, .top, .top, .top, .top, .top, .top, .top, .top, .top, .top, .top, .top, .top, .top, .top, .top, .top, .top, .top, .top, .top, .top, .top]
def l4_1B (x3 : Int) (x4 : Int) (s13 : Bool) (s50 : Int) (s51 : Int) (b0 : List (Int × Int)) : Boxes := [(.arr (.pair (.int .i64) (.int .i64)) b0 true)]
def l4_1E (x3 : Int) (x4 : Int) (s13 : Bool) (s50 : Int) (s51 : Int) (b0 : List (Int × Int)) : Nat → AEx × Env × Boxes
  | _ => (.exit 2, [.top, .top, .top, (.d (.int .i64 x3)), (.d (.int .i64 x4)), .top, .top, .top, .top, .top, .top, (.sr 0 0 (List.length b0) 2 none), .top, (.d (.bool (s13))), .top, .top, .top, .top, .top, .top, .top, .top, .top, .top, .top, .top, .top, .top, .top, .top, .top, .top, .top, .top, .top, .top, .top, .top, .top, .top, .top, .top, .top, .top, .top, .top, .top, .top, .top, (.sr 0 0 (List.length b0) 2 none), (.d (.int .i64 s50)), (.d (.int .i64 s51)), (.d (.bool (decide (s51 < s50)))), .top, .top, .top, .top, .top, .top, .top, .top, .top, .top, .top, .top, .top, .top, .top, .top, .top, .top, .top, .top, .top, .top, .top, .top, .top, .top, .top, .top, .top, .top, .top, .top, .top, .top, .top, .top, .top, .top, .top, .top, .top, .top, .top, .top, .top, .top, .top, .top, .top, .top, .top, .top, .top, .top, .top, .top, .top, .top, .top, .top, .top, .top, .top, .top, .top, .top, .top, .top, .top, .top, .top, .top, .top, .top, .top, .top, .top, .top, .top, .top, .top, .top, .top, .top, .top, .top, .top, .top, .top, .top, .top, .top, .top, .top, .top, .top, .top, .top, .top, .top, .top, .top, .top, .top, .top, .top, .top, .top, .top, .top, .top, .top, .top, .top, .top, .top, .top, .top, .top, .top, .top, .top, .top, .top, .top, .top, .top, .top, .top, .top, .top], [(.arr (.pair (.int .i64) (.int .i64)) b0 true)])
noncomputable def lbl4_1 : AC := loopBody 3940649673959448 body4

set_option maxHeartbeats 20000000 in
theorem l4_1_w0 (m n : Nat) (x3 : Int) (x4 : Int) (s13 : Bool) (s50 : Int) (s51 : Int) (b0 : List (Int × Int)) (r : AEx × Env × Boxes) (c0 : decide (s51 < s50) = true) (c1 : decide (0 ≤ s51) = true) (c2 : decide (s51 < (((List.length b0) : Nat) : Int)) = true) (c3 : decide ((0 + (Int.toNat s51)) < (List.length b0)) = true) (c4 : s13 = true) (c8 : decide ((List.getD b0 (0 + (Int.toNat s51)) (0, 0)).1 ≥ 0) = true) (c12 : decide ((List.getD b0 (0 + (Int.toNat s51)) (0, 0)).1 ≤ 1099511627776) = true) (c15 : (s51 == (0)) = true) (ih : (turns (hds 4 3940649673959448) 0 3940649673959448 (evC byref (evCall F S19 (m + 24)) (m + 24) 0 (hds 4) lbl4_1) n (l4_1H x3 x4 true s50 ((IntKind.wrap .i64 (s51 + (1)))) b0) (l4_1B x3 x4 true s50 ((IntKind.wrap .i64 (s51 + (1)))) b0)).run = some r) : (turns (hds 4 3940649673959448) 0 3940649673959448 (evC byref (evCall F S19 (m + 24)) (m + 24) 0 (hds 4) lbl4_1) (n + 1) (l4_1H x3 x4 s13 s50 s51 b0) (l4_1B x3 x4 s13 s50 s51 b0)).run = some r := by
  exact turns_step (M.run_of_path _ [true, true, true, true, true, true, true, true, true, true, true, true, true, true, true, true, true, true, true, true, true, true, true, true, true, true, true] _ _ (by kernel_rfl) (all_t c0 (all_t c1 (all_t c2 (all_t c3 (all_t c4 (all_t c4 (all_t c4 (all_t c4 (all_t c8 (all_t c8 (all_t c8 (all_t c8 (all_t c12 (all_t c12 (all_t c12 (all_t c15 (all_t c15 (all_t c15 (all_t c15 (all_t c15 (all_t c15 (all_t c15 (all_t c15 (all_t c15 (all_t c12 (all_t c15 (all_t c12 all_nil)))))))))))))))))))))))))))) ih
set_option maxHeartbeats 20000000 in
theorem l4_1_w1 (m n : Nat) (x3 : Int) (x4 : Int) (s13 : Bool) (s50 : Int) (s51 : Int) (b0 : List (Int × Int)) (r : AEx × Env × Boxes) (c0 : decide (s51 < s50) = true) (c1 : decide (0 ≤ s51) = true) (c2 : decide (s51 < (((List.length b0) : Nat) : Int)) = true) (c3 : decide ((0 + (Int.toNat s51)) < (List.length b0)) = true) (c4 : s13 = true) (c8 : decide ((List.getD b0 (0 + (Int.toNat s51)) (0, 0)).1 ≥ 0) = true) (c12 : decide ((List.getD b0 (0 + (Int.toNat s51)) (0, 0)).1 ≤ 1099511627776) = true) (c15 : ¬ (s51 == (0)) = true) (c21 : decide (0 ≤ (IntKind.wrap .i64 (s51 - (1)))) = true) (c22 : decide ((IntKind.wrap .i64 (s51 - (1))) < (((List.length b0) : Nat) : Int)) = true) (c25 : decide ((0 + (Int.toNat (IntKind.wrap .i64 (s51 - (1))))) < (List.length b0)) = true) (ih : (turns (hds 4 3940649673959448) 0 3940649673959448 (evC byref (evCall F S19 (m + 24)) (m + 24) 0 (hds 4) lbl4_1) n (l4_1H x3 x4 (decide ((List.getD b0 (0 + (Int.toNat s51)) (0, 0)).1 > (List.getD b0 (0 + (Int.toNat (IntKind.wrap .i64 (s51 - (1))))) (0, 0)).1)) s50 ((IntKind.wrap .i64 (s51 + (1)))) b0) (l4_1B x3 x4 (decide ((List.getD b0 (0 + (Int.toNat s51)) (0, 0)).1 > (List.getD b0 (0 + (Int.toNat (IntKind.wrap .i64 (s51 - (1))))) (0, 0)).1)) s50 ((IntKind.wrap .i64 (s51 + (1)))) b0)).run = some r) : (turns (hds 4 3940649673959448) 0 3940649673959448 (evC byref (evCall F S19 (m + 24)) (m + 24) 0 (hds 4) lbl4_1) (n + 1) (l4_1H x3 x4 s13 s50 s51 b0) (l4_1B x3 x4 s13 s50 s51 b0)).run = some r := by
  exact turns_step (M.run_of_path _ [true, true, true, true, true, true, true, true, true, true, true, true, true, true, true, false, false, false, false, false, false, true, true, false, false, true, false, true, false, true] _ _ (by kernel_rfl) (all_t c0 (all_t c1 (all_t c2 (all_t c3 (all_t c4 (all_t c4 (all_t c4 (all_t c4 (all_t c8 (all_t c8 (all_t c8 (all_t c8 (all_t c12 (all_t c12 (all_t c12 (all_f c15 (all_f c15 (all_f c15 (all_f c15 (all_f c15 (all_f c15 (all_t c21 (all_t c22 (all_f c15 (all_f c15 (all_t c25 (all_f c15 (all_t c12 (all_f c15 (all_t c12 all_nil))))))))))))))))))))))))))))))) ih
set_option maxHeartbeats 20000000 in
theorem l4_1_w2 (m n : Nat) (x3 : Int) (x4 : Int) (s13 : Bool) (s50 : Int) (s51 : Int) (b0 : List (Int × Int)) (r : AEx × Env × Boxes) (c0 : decide (s51 < s50) = true) (c1 : decide (0 ≤ s51) = true) (c2 : decide (s51 < (((List.length b0) : Nat) : Int)) = true) (c3 : decide ((0 + (Int.toNat s51)) < (List.length b0)) = true) (c4 : s13 = true) (c8 : decide ((List.getD b0 (0 + (Int.toNat s51)) (0, 0)).1 ≥ 0) = true) (c12 : ¬ decide ((List.getD b0 (0 + (Int.toNat s51)) (0, 0)).1 ≤ 1099511627776) = true) (ih : (turns (hds 4 3940649673959448) 0 3940649673959448 (evC byref (evCall F S19 (m + 24)) (m + 24) 0 (hds 4) lbl4_1) n (l4_1H x3 x4 false s50 ((IntKind.wrap .i64 (s51 + (1)))) b0) (l4_1B x3 x4 false s50 ((IntKind.wrap .i64 (s51 + (1)))) b0)).run = some r) : (turns (hds 4 3940649673959448) 0 3940649673959448 (evC byref (evCall F S19 (m + 24)) (m + 24) 0 (hds 4) lbl4_1) (n + 1) (l4_1H x3 x4 s13 s50 s51 b0) (l4_1B x3 x4 s13 s50 s51 b0)).run = some r := by
  exact turns_step (M.run_of_path _ [true, true, true, true, true, true, true, true, true, true, true, true, false, false, false, false, false] _ _ (by kernel_rfl) (all_t c0 (all_t c1 (all_t c2 (all_t c3 (all_t c4 (all_t c4 (all_t c4 (all_t c4 (all_t c8 (all_t c8 (all_t c8 (all_t c8 (all_f c12 (all_f c12 (all_f c12 (all_f c12 (all_f c12 all_nil)))))))))))))))))) ih
set_option maxHeartbeats 20000000 in
theorem l4_1_w3 (m n : Nat) (x3 : Int) (x4 : Int) (s13 : Bool) (s50 : Int) (s51 : Int) (b0 : List (Int × Int)) (r : AEx × Env × Boxes) (c0 : decide (s51 < s50) = true) (c1 : decide (0 ≤ s51) = true) (c2 : decide (s51 < (((List.length b0) : Nat) : Int)) = true) (c3 : decide ((0 + (Int.toNat s51)) < (List.length b0)) = true) (c4 : s13 = true) (c8 : ¬ decide ((List.getD b0 (0 + (Int.toNat s51)) (0, 0)).1 ≥ 0) = true) (ih : (turns (hds 4 3940649673959448) 0 3940649673959448 (evC byref (evCall F S19 (m + 24)) (m + 24) 0 (hds 4) lbl4_1) n (l4_1H x3 x4 false s50 ((IntKind.wrap .i64 (s51 + (1)))) b0) (l4_1B x3 x4 false s50 ((IntKind.wrap .i64 (s51 + (1)))) b0)).run = some r) : (turns (hds 4 3940649673959448) 0 3940649673959448 (evC byref (evCall F S19 (m + 24)) (m + 24) 0 (hds 4) lbl4_1) (n + 1) (l4_1H x3 x4 s13 s50 s51 b0) (l4_1B x3 x4 s13 s50 s51 b0)).run = some r := by
  exact turns_step (M.run_of_path _ [true, true, true, true, true, true, true, true, false, false, false, false, false, false, false, false, false] _ _ (by kernel_rfl) (all_t c0 (all_t c1 (all_t c2 (all_t c3 (all_t c4 (all_t c4 (all_t c4 (all_t c4 (all_f c8 (all_f c8 (all_f c8 (all_f c8 (all_f Bool.false_ne_true (all_f Bool.false_ne_true (all_f Bool.false_ne_true (all_f Bool.false_ne_true (all_f Bool.false_ne_true all_nil)))))))))))))))))) ih
set_option maxHeartbeats 20000000 in
theorem l4_1_w4 (m n : Nat) (x3 : Int) (x4 : Int) (s13 : Bool) (s50 : Int) (s51 : Int) (b0 : List (Int × Int)) (r : AEx × Env × Boxes) (c0 : decide (s51 < s50) = true) (c1 : decide (0 ≤ s51) = true) (c2 : decide (s51 < (((List.length b0) : Nat) : Int)) = true) (c3 : decide ((0 + (Int.toNat s51)) < (List.length b0)) = true) (c4 : ¬ s13 = true) (ih : (turns (hds 4 3940649673959448) 0 3940649673959448 (evC byref (evCall F S19 (m + 24)) (m + 24) 0 (hds 4) lbl4_1) n (l4_1H x3 x4 false s50 ((IntKind.wrap .i64 (s51 + (1)))) b0) (l4_1B x3 x4 false s50 ((IntKind.wrap .i64 (s51 + (1)))) b0)).run = some r) : (turns (hds 4 3940649673959448) 0 3940649673959448 (evC byref (evCall F S19 (m + 24)) (m + 24) 0 (hds 4) lbl4_1) (n + 1) (l4_1H x3 x4 s13 s50 s51 b0) (l4_1B x3 x4 s13 s50 s51 b0)).run = some r := by
  exact turns_step (M.run_of_path _ [true, true, true, true, false, false, false, false, false, false, false, false, false, false, false, false, false] _ _ (by kernel_rfl) (all_t c0 (all_t c1 (all_t c2 (all_t c3 (all_f c4 (all_f c4 (all_f c4 (all_f c4 (all_f Bool.false_ne_true (all_f Bool.false_ne_true (all_f Bool.false_ne_true (all_f Bool.false_ne_true (all_f Bool.false_ne_true (all_f Bool.false_ne_true (all_f Bool.false_ne_true (all_f Bool.false_ne_true (all_f Bool.false_ne_true all_nil)))))))))))))))))) ih
set_option maxHeartbeats 20000000 in
theorem l4_1_w5 (m n : Nat) (x3 : Int) (x4 : Int) (s13 : Bool) (s50 : Int) (s51 : Int) (b0 : List (Int × Int)) (c0 : ¬ decide (s51 < s50) = true) : (turns (hds 4 3940649673959448) 0 3940649673959448 (evC byref (evCall F S19 (m + 24)) (m + 24) 0 (hds 4) lbl4_1) (n + 1) (l4_1H x3 x4 s13 s50 s51 b0) (l4_1B x3 x4 s13 s50 s51 b0)).run = some (.exit 2, [.top, .top, .top, (.d (.int .i64 x3)), (.d (.int .i64 x4)), .top, .top, .top, .top, .top, .top, (.sr 0 0 (List.length b0) 2 none), .top, (.d (.bool (s13))), .top, .top, .top, .top, .top, .top, .top, .top, .top, .top, .top, .top, .top, .top, .top, .top, .top, .top, .top, .top, .top, .top, .top, .top, .top, .top, .top, .top, .top, .top, .top, .top, .top, .top, .top, (.sr 0 0 (List.length b0) 2 none), (.d (.int .i64 s50)), (.d (.int .i64 s51)), (.d (.bool (decide (s51 < s50)))), .top, .top, .top, .top, .top, .top, .top, .top, .top, .top, .top, .top, .top, .top, .top, .top, .top, .top, .top, .top, .top, .top, .top, .top, .top, .top, .top, .top, .top, .top, .top, .top, .top, .top, .top, .top, .top, .top, .top, .top, .top, .top, .top, .top, .top, .top, .top, .top, .top, .top, .top, .top, .top, .top, .top, .top, .top, .top, .top, .top, .top, .top, .top, .top, .top, .top, .top, .top, .top, .top, .top, .top, .top, .top, .top, .top, .top, .top, .top, .top, .top, .top, .top, .top, .top, .top, .top, .top, .top, .top, .top, .top, .top, .top, .top, .top, .top, .top, .top, .top, .top, .top, .top, .top, .top, .top, .top, .top, .top, .top, .top, .top, .top, .top, .top, .top, .top, .top, .top, .top, .top, .top, .top, .top, .top, .top, .top, .top, .top, .top, .top], [(.arr (.pair (.int .i64) (.int .i64)) b0 true)]) := by
  exact turns_last (by simp) (M.run_of_path _ [false] _ _ (by kernel_rfl) (all_f c0 all_nil)) 

set_option maxHeartbeats 20000000 in
theorem l4_1_step (m n : Nat) (ih : ∀ (x3 : Int) (x4 : Int) (s13 : Bool) (s50 : Int) (s51 : Int) (b0 : List (Int × Int)) (q : Nat × Bool × Int), l4_1 m n x3 x4 s13 s50 s51 b0 = some q → (turns (hds 4 3940649673959448) 0 3940649673959448 (evC byref (evCall F S19 (m + 24)) (m + 24) 0 (hds 4) lbl4_1) n (l4_1H x3 x4 s13 s50 s51 b0) (l4_1B x3 x4 s13 s50 s51 b0)).run = some (l4_1E (x3) (x4) (q.2.1) (s50) (q.2.2) (b0) q.1)) (x3 : Int) (x4 : Int) (s13 : Bool) (s50 : Int) (s51 : Int) (b0 : List (Int × Int)) (q : Nat × Bool × Int) (h : l4_1 m (n + 1) x3 x4 s13 s50 s51 b0 = some q) : (turns (hds 4 3940649673959448) 0 3940649673959448 (evC byref (evCall F S19 (m + 24)) (m + 24) 0 (hds 4) lbl4_1) (n + 1) (l4_1H x3 x4 s13 s50 s51 b0) (l4_1B x3 x4 s13 s50 s51 b0)).run = some (l4_1E (x3) (x4) (q.2.1) (s50) (q.2.2) (b0) q.1) := by
  rw [l4_1] at h
  refine ite_cases h (fun c0 h => ?_) (fun c0 h => ?_)
  · skip
    refine ite_cases h (fun c1 h => ?_) (fun c1 h => ?_)
    · skip
      refine ite_cases h (fun c2 h => ?_) (fun c2 h => ?_)
      · skip
        refine ite_cases h (fun c3 h => ?_) (fun c3 h => ?_)
        · skip
          refine ite_cases h (fun c4 h => ?_) (fun c4 h => ?_)
          · skip
            refine ite_cases h (fun c8 h => ?_) (fun c8 h => ?_)
            · skip
              refine ite_cases h (fun c12 h => ?_) (fun c12 h => ?_)
              · skip
                refine ite_cases h (fun c15 h => ?_) (fun c15 h => ?_)
                · skip
                  exact l4_1_w0 m n x3 x4 s13 s50 s51 b0 _ c0 c1 c2 c3 c4 c8 c12 c15 (ih _ _ _ _ _ _ q h)
                · skip
                  refine ite_cases h (fun c21 h => ?_) (fun c21 h => ?_)
                  · skip
                    refine ite_cases h (fun c22 h => ?_) (fun c22 h => ?_)
                    · skip
                      refine ite_cases h (fun c25 h => ?_) (fun c25 h => ?_)
                      · skip
                        exact l4_1_w1 m n x3 x4 s13 s50 s51 b0 _ c0 c1 c2 c3 c4 c8 c12 c15 c21 c22 c25 (ih _ _ _ _ _ _ q h)
                      · skip
                        cases h
                    · skip
                      cases h
                  · skip
                    cases h
              · skip
                exact l4_1_w2 m n x3 x4 s13 s50 s51 b0 _ c0 c1 c2 c3 c4 c8 c12 (ih _ _ _ _ _ _ q h)
            · skip
              exact l4_1_w3 m n x3 x4 s13 s50 s51 b0 _ c0 c1 c2 c3 c4 c8 (ih _ _ _ _ _ _ q h)
          · skip
            exact l4_1_w4 m n x3 x4 s13 s50 s51 b0 _ c0 c1 c2 c3 c4 (ih _ _ _ _ _ _ q h)
        · skip
          cases h
      · skip
        cases h
    · skip
      cases h
  · skip
    cases h
    exact l4_1_w5 m n x3 x4 s13 s50 s51 b0 c0
set_option maxHeartbeats 20000000 in
theorem l4_1_ok (m : Nat) : ∀ (n : Nat) (x3 : Int) (x4 : Int) (s13 : Bool) (s50 : Int) (s51 : Int) (b0 : List (Int × Int)) (q : Nat × Bool × Int), l4_1 m n x3 x4 s13 s50 s51 b0 = some q → (turns (hds 4 3940649673959448) 0 3940649673959448 (evC byref (evCall F S19 (m + 24)) (m + 24) 0 (hds 4) lbl4_1) n (l4_1H x3 x4 s13 s50 s51 b0) (l4_1B x3 x4 s13 s50 s51 b0)).run = some (l4_1E (x3) (x4) (q.2.1) (s50) (q.2.2) (b0) q.1)
  | 0, x3, x4, s13, s50, s51, b0, q, h => by cases h
  | n + 1, x3, x4, s13, s50, s51, b0, q, h => l4_1_step m n (l4_1_ok m n) x3 x4 s13 s50 s51 b0 q h

def btells (m : Nat) (x0 : List (Int × Int)) (x1 : List Int) (x2 : Bool) (x3 : Int) (x4 : Int) : Option Unit :=
  if (decide (0 ≤ (if (20) < (((List.length x0) : Nat) : Int) then (20) else (((List.length x0) : Nat) : Int))) && decide ((if (20) < (((List.length x0) : Nat) : Int) then (20) else (((List.length x0) : Nat) : Int)) ≤ (((List.length x0) : Nat) : Int))) = true then
    if decide (((0 + (List.length (List.drop 0 (List.take (Int.toNat (if (20) < (((List.length x0) : Nat) : Int) then (20) else (((List.length x0) : Nat) : Int))) x0)))) * 16) ≤ 70368744177664) = true then
      if x2 = true then
        if (Option.isSome (l4_0 m (m + 24) x3 x4 ((((List.length (samplesG x1)) : Nat) : Int)) 0 ((samplesG x1)))) = true then
          if (Option.isSome (l4_1 m (m + 24) x3 x4 true ((((List.length (l4_0R m (m + 24) x3 x4 ((((List.length (samplesG x1)) : Nat) : Int)) 0 ((samplesG x1))).2.2) : Nat) : Int)) 0 ((l4_0R m (m + 24) x3 x4 ((((List.length (samplesG x1)) : Nat) : Int)) 0 ((samplesG x1))).2.2))) = true then
            if decide (List.length (List.take (List.length ((l4_0R m (m + 24) x3 x4 ((((List.length (samplesG x1)) : Nat) : Int)) 0 ((samplesG x1))).2.2)) (List.drop 0 ((l4_0R m (m + 24) x3 x4 ((((List.length (samplesG x1)) : Nat) : Int)) 0 ((samplesG x1))).2.2))) ≤ 1000000) = true then
              if (decide (0 ≤ (((List.length ((l4_0R m (m + 24) x3 x4 ((((List.length (samplesG x1)) : Nat) : Int)) 0 ((samplesG x1))).2.2)) : Nat) : Int)) && decide ((((List.length ((l4_0R m (m + 24) x3 x4 ((((List.length (samplesG x1)) : Nat) : Int)) 0 ((samplesG x1))).2.2)) : Nat) : Int) ≤ (((List.length (sroomyG (List.take (List.length ((l4_0R m (m + 24) x3 x4 ((((List.length (samplesG x1)) : Nat) : Int)) 0 ((samplesG x1))).2.2)) (List.drop 0 ((l4_0R m (m + 24) x3 x4 ((((List.length (samplesG x1)) : Nat) : Int)) 0 ((samplesG x1))).2.2))) ((7), (0)))) : Nat) : Int))) = true then
                if decide (List.length (List.drop 0 (List.take (Int.toNat (((List.length ((l4_0R m (m + 24) x3 x4 ((((List.length (samplesG x1)) : Nat) : Int)) 0 ((samplesG x1))).2.2)) : Nat) : Int)) (sroomyG (List.take (List.length ((l4_0R m (m + 24) x3 x4 ((((List.length (samplesG x1)) : Nat) : Int)) 0 ((samplesG x1))).2.2)) (List.drop 0 ((l4_0R m (m + 24) x3 x4 ((((List.length (samplesG x1)) : Nat) : Int)) 0 ((samplesG x1))).2.2))) ((7), (0))))) ≤ 1000000) = true then
                  if bytesOK (putG (List.drop 0 (List.take (Int.toNat (((List.length ((l4_0R m (m + 24) x3 x4 ((((List.length (samplesG x1)) : Nat) : Int)) 0 ((samplesG x1))).2.2)) : Nat) : Int)) (sroomyG (List.take (List.length ((l4_0R m (m + 24) x3 x4 ((((List.length (samplesG x1)) : Nat) : Int)) 0 ((samplesG x1))).2.2)) (List.drop 0 ((l4_0R m (m + 24) x3 x4 ((((List.length (samplesG x1)) : Nat) : Int)) 0 ((samplesG x1))).2.2))) ((7), (0)))))) = true then
                    if decide (List.length (sroomyG (List.take (List.length ((l4_0R m (m + 24) x3 x4 ((((List.length (samplesG x1)) : Nat) : Int)) 0 ((samplesG x1))).2.2)) (List.drop 0 ((l4_0R m (m + 24) x3 x4 ((((List.length (samplesG x1)) : Nat) : Int)) 0 ((samplesG x1))).2.2))) ((7), (0))) ≤ 1000000 ∧ List.length (List.take (List.length ((l4_0R m (m + 24) x3 x4 ((((List.length (samplesG x1)) : Nat) : Int)) 0 ((samplesG x1))).2.2)) (List.drop 0 ((l4_0R m (m + 24) x3 x4 ((((List.length (samplesG x1)) : Nat) : Int)) 0 ((samplesG x1))).2.2))) ≤ 1000000) = true then
                      if (sintactG (sroomyG (List.take (List.length ((l4_0R m (m + 24) x3 x4 ((((List.length (samplesG x1)) : Nat) : Int)) 0 ((samplesG x1))).2.2)) (List.drop 0 ((l4_0R m (m + 24) x3 x4 ((((List.length (samplesG x1)) : Nat) : Int)) 0 ((samplesG x1))).2.2))) ((7), (0))) (List.take (List.length ((l4_0R m (m + 24) x3 x4 ((((List.length (samplesG x1)) : Nat) : Int)) 0 ((samplesG x1))).2.2)) (List.drop 0 ((l4_0R m (m + 24) x3 x4 ((((List.length (samplesG x1)) : Nat) : Int)) 0 ((samplesG x1))).2.2))) ((7), (0))) = true then
                        if (l4_1R m (m + 24) x3 x4 true ((((List.length (l4_0R m (m + 24) x3 x4 ((((List.length (samplesG x1)) : Nat) : Int)) 0 ((samplesG x1))).2.2) : Nat) : Int)) 0 ((l4_0R m (m + 24) x3 x4 ((((List.length (samplesG x1)) : Nat) : Int)) 0 ((samplesG x1))).2.2)).2.1 = true then
                          if decide (List.length (putG (List.drop 0 (List.take (Int.toNat (((List.length ((l4_0R m (m + 24) x3 x4 ((((List.length (samplesG x1)) : Nat) : Int)) 0 ((samplesG x1))).2.2)) : Nat) : Int)) (sroomyG (List.take (List.length ((l4_0R m (m + 24) x3 x4 ((((List.length (samplesG x1)) : Nat) : Int)) 0 ((samplesG x1))).2.2)) (List.drop 0 ((l4_0R m (m + 24) x3 x4 ((((List.length (samplesG x1)) : Nat) : Int)) 0 ((samplesG x1))).2.2))) ((7), (0)))))) < 4611686018427387904) = true then
                            if ((show List (Int) from (putG (List.drop 0 (List.take (Int.toNat (((List.length ((l4_0R m (m + 24) x3 x4 ((((List.length (samplesG x1)) : Nat) : Int)) 0 ((samplesG x1))).2.2)) : Nat) : Int)) (sroomyG (List.take (List.length ((l4_0R m (m + 24) x3 x4 ((((List.length (samplesG x1)) : Nat) : Int)) 0 ((samplesG x1))).2.2)) (List.drop 0 ((l4_0R m (m + 24) x3 x4 ((((List.length (samplesG x1)) : Nat) : Int)) 0 ((samplesG x1))).2.2))) ((7), (0))))))) == (blockG (List.take (List.length ((l4_0R m (m + 24) x3 x4 ((((List.length (samplesG x1)) : Nat) : Int)) 0 ((samplesG x1))).2.2)) (List.drop 0 ((l4_0R m (m + 24) x3 x4 ((((List.length (samplesG x1)) : Nat) : Int)) 0 ((samplesG x1))).2.2))))) = true then
                              if ((getG (putG (List.drop 0 (List.take (Int.toNat (((List.length ((l4_0R m (m + 24) x3 x4 ((((List.length (samplesG x1)) : Nat) : Int)) 0 ((samplesG x1))).2.2)) : Nat) : Int)) (sroomyG (List.take (List.length ((l4_0R m (m + 24) x3 x4 ((((List.length (samplesG x1)) : Nat) : Int)) 0 ((samplesG x1))).2.2)) (List.drop 0 ((l4_0R m (m + 24) x3 x4 ((((List.length (samplesG x1)) : Nat) : Int)) 0 ((samplesG x1))).2.2))) ((7), (0))))))).2 != (0)) = true then
                                none
                              else
                                if decide (List.length (getG (putG (List.drop 0 (List.take (Int.toNat (((List.length ((l4_0R m (m + 24) x3 x4 ((((List.length (samplesG x1)) : Nat) : Int)) 0 ((samplesG x1))).2.2)) : Nat) : Int)) (sroomyG (List.take (List.length ((l4_0R m (m + 24) x3 x4 ((((List.length (samplesG x1)) : Nat) : Int)) 0 ((samplesG x1))).2.2)) (List.drop 0 ((l4_0R m (m + 24) x3 x4 ((((List.length (samplesG x1)) : Nat) : Int)) 0 ((samplesG x1))).2.2))) ((7), (0))))))).1 < 4611686018427387904) = true then
                                  if ((show List (Int × Int) from (getG (putG (List.drop 0 (List.take (Int.toNat (((List.length ((l4_0R m (m + 24) x3 x4 ((((List.length (samplesG x1)) : Nat) : Int)) 0 ((samplesG x1))).2.2)) : Nat) : Int)) (sroomyG (List.take (List.length ((l4_0R m (m + 24) x3 x4 ((((List.length (samplesG x1)) : Nat) : Int)) 0 ((samplesG x1))).2.2)) (List.drop 0 ((l4_0R m (m + 24) x3 x4 ((((List.length (samplesG x1)) : Nat) : Int)) 0 ((samplesG x1))).2.2))) ((7), (0))))))).1) == (List.take (List.length ((l4_0R m (m + 24) x3 x4 ((((List.length (samplesG x1)) : Nat) : Int)) 0 ((samplesG x1))).2.2)) (List.drop 0 ((l4_0R m (m + 24) x3 x4 ((((List.length (samplesG x1)) : Nat) : Int)) 0 ((samplesG x1))).2.2)))) = true then
                                    if inR x3 = true then
                                      if inR x4 = true then
                                        if decide ((((List.length (numG [x3])) + (List.length (List.take (List.length (numG [x4])) (List.drop 0 (numG [x4]))))) * 1) ≤ 70368744177664) = true then
                                          if decide ((0 + ((List.length (numG [x3])) + (List.length (List.take (List.length (numG [x4])) (List.drop 0 (numG [x4])))))) ≤ (List.length ((numG [x3]) ++ (List.take (List.length (numG [x4])) (List.drop 0 (numG [x4])))))) = true then
                                            if bytesOK (List.take ((List.length (numG [x3])) + (List.length (List.take (List.length (numG [x4])) (List.drop 0 (numG [x4]))))) (List.drop 0 ((numG [x3]) ++ (List.take (List.length (numG [x4])) (List.drop 0 (numG [x4])))))) = true then
                                              if (decide (0 ≤ (IntKind.wrap .i64 ((((List.length (numG [x3])) : Nat) : Int) - (1)))) && decide ((IntKind.wrap .i64 ((((List.length (numG [x3])) : Nat) : Int) - (1))) ≤ ((((List.length (numG [x3])) + (List.length (List.take (List.length (numG [x4])) (List.drop 0 (numG [x4]))))) : Nat) : Int))) = true then
                                                if decide ((0 + ((Int.toNat (IntKind.wrap .i64 ((((List.length (numG [x3])) : Nat) : Int) - (1)))) - 0)) ≤ (List.length ((numG [x3]) ++ (List.take (List.length (numG [x4])) (List.drop 0 (numG [x4])))))) = true then
                                                  if bytesOK (List.take ((Int.toNat (IntKind.wrap .i64 ((((List.length (numG [x3])) : Nat) : Int) - (1)))) - 0) (List.drop 0 ((numG [x3]) ++ (List.take (List.length (numG [x4])) (List.drop 0 (numG [x4])))))) = true then
                                                    if numPre [x3, x4] = true then
                                                      if decide (List.length (List.take (List.length (numG [x3, x4])) (List.drop 0 (numG [x3, x4]))) < 4611686018427387904) = true then
                                                        if ((show List (Int) from (List.take (List.length (numG [x3, x4])) (List.drop 0 (numG [x3, x4])))) == (List.take ((List.length (numG [x3])) + (List.length (List.take (List.length (numG [x4])) (List.drop 0 (numG [x4]))))) (List.drop 0 ((numG [x3]) ++ (List.take (List.length (numG [x4])) (List.drop 0 (numG [x4]))))))) = true then
                                                          if ((nextG (List.take ((List.length (numG [x3])) + (List.length (List.take (List.length (numG [x4])) (List.drop 0 (numG [x4]))))) (List.drop 0 ((numG [x3]) ++ (List.take (List.length (numG [x4])) (List.drop 0 (numG [x4]))))))).1 == x3) = true then
                                                            if ((nextG (List.take ((List.length (numG [x3])) + (List.length (List.take (List.length (numG [x4])) (List.drop 0 (numG [x4]))))) (List.drop 0 ((numG [x3]) ++ (List.take (List.length (numG [x4])) (List.drop 0 (numG [x4]))))))).2 == (((List.length (numG [x3])) : Nat) : Int)) = true then
                                                              if ((nextG (List.take ((Int.toNat (IntKind.wrap .i64 ((((List.length (numG [x3])) : Nat) : Int) - (1)))) - 0) (List.drop 0 ((numG [x3]) ++ (List.take (List.length (numG [x4])) (List.drop 0 (numG [x4]))))))).2 == (0)) = true then
                                                                some ()
                                                              else
                                                                none
                                                            else
                                                              none
                                                          else
                                                            none
                                                        else
                                                          none
                                                      else
                                                        none
                                                    else
                                                      none
                                                  else
                                                    none
                                                else
                                                  none
                                              else
                                                none
                                            else
                                              none
                                          else
                                            none
                                        else
                                          none
                                      else
                                        none
                                    else
                                      none
                                  else
                                    none
                                else
                                  none
                            else
                              none
                          else
                            none
                        else
                          if ((((List.length (putG (List.drop 0 (List.take (Int.toNat (((List.length ((l4_0R m (m + 24) x3 x4 ((((List.length (samplesG x1)) : Nat) : Int)) 0 ((samplesG x1))).2.2)) : Nat) : Int)) (sroomyG (List.take (List.length ((l4_0R m (m + 24) x3 x4 ((((List.length (samplesG x1)) : Nat) : Int)) 0 ((samplesG x1))).2.2)) (List.drop 0 ((l4_0R m (m + 24) x3 x4 ((((List.length (samplesG x1)) : Nat) : Int)) 0 ((samplesG x1))).2.2))) ((7), (0))))))) : Nat) : Int) != (0)) = true then
                            none
                          else
                            if ((getG (putG (List.drop 0 (List.take (Int.toNat (((List.length ((l4_0R m (m + 24) x3 x4 ((((List.length (samplesG x1)) : Nat) : Int)) 0 ((samplesG x1))).2.2)) : Nat) : Int)) (sroomyG (List.take (List.length ((l4_0R m (m + 24) x3 x4 ((((List.length (samplesG x1)) : Nat) : Int)) 0 ((samplesG x1))).2.2)) (List.drop 0 ((l4_0R m (m + 24) x3 x4 ((((List.length (samplesG x1)) : Nat) : Int)) 0 ((samplesG x1))).2.2))) ((7), (0))))))).2 != (1)) = true then
                              none
                            else
                              if ((((List.length (getG (putG (List.drop 0 (List.take (Int.toNat (((List.length ((l4_0R m (m + 24) x3 x4 ((((List.length (samplesG x1)) : Nat) : Int)) 0 ((samplesG x1))).2.2)) : Nat) : Int)) (sroomyG (List.take (List.length ((l4_0R m (m + 24) x3 x4 ((((List.length (samplesG x1)) : Nat) : Int)) 0 ((samplesG x1))).2.2)) (List.drop 0 ((l4_0R m (m + 24) x3 x4 ((((List.length (samplesG x1)) : Nat) : Int)) 0 ((samplesG x1))).2.2))) ((7), (0))))))).1) : Nat) : Int) != (0)) = true then
                                none
                              else
                                if inR x3 = true then
                                  if inR x4 = true then
                                    if decide ((((List.length (numG [x3])) + (List.length (List.take (List.length (numG [x4])) (List.drop 0 (numG [x4]))))) * 1) ≤ 70368744177664) = true then
                                      if decide ((0 + ((List.length (numG [x3])) + (List.length (List.take (List.length (numG [x4])) (List.drop 0 (numG [x4])))))) ≤ (List.length ((numG [x3]) ++ (List.take (List.length (numG [x4])) (List.drop 0 (numG [x4])))))) = true then
                                        if bytesOK (List.take ((List.length (numG [x3])) + (List.length (List.take (List.length (numG [x4])) (List.drop 0 (numG [x4]))))) (List.drop 0 ((numG [x3]) ++ (List.take (List.length (numG [x4])) (List.drop 0 (numG [x4])))))) = true then
                                          if (decide (0 ≤ (IntKind.wrap .i64 ((((List.length (numG [x3])) : Nat) : Int) - (1)))) && decide ((IntKind.wrap .i64 ((((List.length (numG [x3])) : Nat) : Int) - (1))) ≤ ((((List.length (numG [x3])) + (List.length (List.take (List.length (numG [x4])) (List.drop 0 (numG [x4]))))) : Nat) : Int))) = true then
                                            if decide ((0 + ((Int.toNat (IntKind.wrap .i64 ((((List.length (numG [x3])) : Nat) : Int) - (1)))) - 0)) ≤ (List.length ((numG [x3]) ++ (List.take (List.length (numG [x4])) (List.drop 0 (numG [x4])))))) = true then
                                              if bytesOK (List.take ((Int.toNat (IntKind.wrap .i64 ((((List.length (numG [x3])) : Nat) : Int) - (1)))) - 0) (List.drop 0 ((numG [x3]) ++ (List.take (List.length (numG [x4])) (List.drop 0 (numG [x4])))))) = true then
                                                if numPre [x3, x4] = true then
                                                  if decide (List.length (List.take (List.length (numG [x3, x4])) (List.drop 0 (numG [x3, x4]))) < 4611686018427387904) = true then
                                                    if ((show List (Int) from (List.take (List.length (numG [x3, x4])) (List.drop 0 (numG [x3, x4])))) == (List.take ((List.length (numG [x3])) + (List.length (List.take (List.length (numG [x4])) (List.drop 0 (numG [x4]))))) (List.drop 0 ((numG [x3]) ++ (List.take (List.length (numG [x4])) (List.drop 0 (numG [x4]))))))) = true then
                                                      if ((nextG (List.take ((List.length (numG [x3])) + (List.length (List.take (List.length (numG [x4])) (List.drop 0 (numG [x4]))))) (List.drop 0 ((numG [x3]) ++ (List.take (List.length (numG [x4])) (List.drop 0 (numG [x4]))))))).1 == x3) = true then
                                                        if ((nextG (List.take ((List.length (numG [x3])) + (List.length (List.take (List.length (numG [x4])) (List.drop 0 (numG [x4]))))) (List.drop 0 ((numG [x3]) ++ (List.take (List.length (numG [x4])) (List.drop 0 (numG [x4]))))))).2 == (((List.length (numG [x3])) : Nat) : Int)) = true then
                                                          if ((nextG (List.take ((Int.toNat (IntKind.wrap .i64 ((((List.length (numG [x3])) : Nat) : Int) - (1)))) - 0) (List.drop 0 ((numG [x3]) ++ (List.take (List.length (numG [x4])) (List.drop 0 (numG [x4]))))))).2 == (0)) = true then
                                                            some ()
                                                          else
                                                            none
                                                        else
                                                          none
                                                      else
                                                        none
                                                    else
                                                      none
                                                  else
                                                    none
                                                else
                                                  none
                                              else
                                                none
                                            else
                                              none
                                          else
                                            none
                                        else
                                          none
                                      else
                                        none
                                    else
                                      none
                                  else
                                    none
                                else
                                  none
                      else
                        none
                    else
                      none
                  else
                    none
                else
                  none
              else
                none
            else
              none
          else
            none
        else
          none
      else
        if (Option.isSome (l4_1 m (m + 24) x3 x4 true ((((0 + (List.length (List.drop 0 (List.take (Int.toNat (if (20) < (((List.length x0) : Nat) : Int) then (20) else (((List.length x0) : Nat) : Int))) x0)))) : Nat) : Int)) 0 ((List.drop 0 (List.take (Int.toNat (if (20) < (((List.length x0) : Nat) : Int) then (20) else (((List.length x0) : Nat) : Int))) x0))))) = true then
          if decide (List.length (List.take (List.length ((List.drop 0 (List.take (Int.toNat (if (20) < (((List.length x0) : Nat) : Int) then (20) else (((List.length x0) : Nat) : Int))) x0)))) (List.drop 0 ((List.drop 0 (List.take (Int.toNat (if (20) < (((List.length x0) : Nat) : Int) then (20) else (((List.length x0) : Nat) : Int))) x0))))) ≤ 1000000) = true then
            if (decide (0 ≤ (((List.length ((List.drop 0 (List.take (Int.toNat (if (20) < (((List.length x0) : Nat) : Int) then (20) else (((List.length x0) : Nat) : Int))) x0)))) : Nat) : Int)) && decide ((((List.length ((List.drop 0 (List.take (Int.toNat (if (20) < (((List.length x0) : Nat) : Int) then (20) else (((List.length x0) : Nat) : Int))) x0)))) : Nat) : Int) ≤ (((List.length (sroomyG (List.take (List.length ((List.drop 0 (List.take (Int.toNat (if (20) < (((List.length x0) : Nat) : Int) then (20) else (((List.length x0) : Nat) : Int))) x0)))) (List.drop 0 ((List.drop 0 (List.take (Int.toNat (if (20) < (((List.length x0) : Nat) : Int) then (20) else (((List.length x0) : Nat) : Int))) x0))))) ((7), (0)))) : Nat) : Int))) = true then
              if decide (List.length (List.drop 0 (List.take (Int.toNat (((List.length ((List.drop 0 (List.take (Int.toNat (if (20) < (((List.length x0) : Nat) : Int) then (20) else (((List.length x0) : Nat) : Int))) x0)))) : Nat) : Int)) (sroomyG (List.take (List.length ((List.drop 0 (List.take (Int.toNat (if (20) < (((List.length x0) : Nat) : Int) then (20) else (((List.length x0) : Nat) : Int))) x0)))) (List.drop 0 ((List.drop 0 (List.take (Int.toNat (if (20) < (((List.length x0) : Nat) : Int) then (20) else (((List.length x0) : Nat) : Int))) x0))))) ((7), (0))))) ≤ 1000000) = true then
                if bytesOK (putG (List.drop 0 (List.take (Int.toNat (((List.length ((List.drop 0 (List.take (Int.toNat (if (20) < (((List.length x0) : Nat) : Int) then (20) else (((List.length x0) : Nat) : Int))) x0)))) : Nat) : Int)) (sroomyG (List.take (List.length ((List.drop 0 (List.take (Int.toNat (if (20) < (((List.length x0) : Nat) : Int) then (20) else (((List.length x0) : Nat) : Int))) x0)))) (List.drop 0 ((List.drop 0 (List.take (Int.toNat (if (20) < (((List.length x0) : Nat) : Int) then (20) else (((List.length x0) : Nat) : Int))) x0))))) ((7), (0)))))) = true then
                  if decide (List.length (sroomyG (List.take (List.length ((List.drop 0 (List.take (Int.toNat (if (20) < (((List.length x0) : Nat) : Int) then (20) else (((List.length x0) : Nat) : Int))) x0)))) (List.drop 0 ((List.drop 0 (List.take (Int.toNat (if (20) < (((List.length x0) : Nat) : Int) then (20) else (((List.length x0) : Nat) : Int))) x0))))) ((7), (0))) ≤ 1000000 ∧ List.length (List.take (List.length ((List.drop 0 (List.take (Int.toNat (if (20) < (((List.length x0) : Nat) : Int) then (20) else (((List.length x0) : Nat) : Int))) x0)))) (List.drop 0 ((List.drop 0 (List.take (Int.toNat (if (20) < (((List.length x0) : Nat) : Int) then (20) else (((List.length x0) : Nat) : Int))) x0))))) ≤ 1000000) = true then
                    if (sintactG (sroomyG (List.take (List.length ((List.drop 0 (List.take (Int.toNat (if (20) < (((List.length x0) : Nat) : Int) then (20) else (((List.length x0) : Nat) : Int))) x0)))) (List.drop 0 ((List.drop 0 (List.take (Int.toNat (if (20) < (((List.length x0) : Nat) : Int) then (20) else (((List.length x0) : Nat) : Int))) x0))))) ((7), (0))) (List.take (List.length ((List.drop 0 (List.take (Int.toNat (if (20) < (((List.length x0) : Nat) : Int) then (20) else (((List.length x0) : Nat) : Int))) x0)))) (List.drop 0 ((List.drop 0 (List.take (Int.toNat (if (20) < (((List.length x0) : Nat) : Int) then (20) else (((List.length x0) : Nat) : Int))) x0))))) ((7), (0))) = true then
                      if (l4_1R m (m + 24) x3 x4 true ((((0 + (List.length (List.drop 0 (List.take (Int.toNat (if (20) < (((List.length x0) : Nat) : Int) then (20) else (((List.length x0) : Nat) : Int))) x0)))) : Nat) : Int)) 0 ((List.drop 0 (List.take (Int.toNat (if (20) < (((List.length x0) : Nat) : Int) then (20) else (((List.length x0) : Nat) : Int))) x0)))).2.1 = true then
                        if decide (List.length (putG (List.drop 0 (List.take (Int.toNat (((List.length ((List.drop 0 (List.take (Int.toNat (if (20) < (((List.length x0) : Nat) : Int) then (20) else (((List.length x0) : Nat) : Int))) x0)))) : Nat) : Int)) (sroomyG (List.take (List.length ((List.drop 0 (List.take (Int.toNat (if (20) < (((List.length x0) : Nat) : Int) then (20) else (((List.length x0) : Nat) : Int))) x0)))) (List.drop 0 ((List.drop 0 (List.take (Int.toNat (if (20) < (((List.length x0) : Nat) : Int) then (20) else (((List.length x0) : Nat) : Int))) x0))))) ((7), (0)))))) < 4611686018427387904) = true then
                          if ((show List (Int) from (putG (List.drop 0 (List.take (Int.toNat (((List.length ((List.drop 0 (List.take (Int.toNat (if (20) < (((List.length x0) : Nat) : Int) then (20) else (((List.length x0) : Nat) : Int))) x0)))) : Nat) : Int)) (sroomyG (List.take (List.length ((List.drop 0 (List.take (Int.toNat (if (20) < (((List.length x0) : Nat) : Int) then (20) else (((List.length x0) : Nat) : Int))) x0)))) (List.drop 0 ((List.drop 0 (List.take (Int.toNat (if (20) < (((List.length x0) : Nat) : Int) then (20) else (((List.length x0) : Nat) : Int))) x0))))) ((7), (0))))))) == (blockG (List.take (List.length ((List.drop 0 (List.take (Int.toNat (if (20) < (((List.length x0) : Nat) : Int) then (20) else (((List.length x0) : Nat) : Int))) x0)))) (List.drop 0 ((List.drop 0 (List.take (Int.toNat (if (20) < (((List.length x0) : Nat) : Int) then (20) else (((List.length x0) : Nat) : Int))) x0))))))) = true then
                            if ((getG (putG (List.drop 0 (List.take (Int.toNat (((List.length ((List.drop 0 (List.take (Int.toNat (if (20) < (((List.length x0) : Nat) : Int) then (20) else (((List.length x0) : Nat) : Int))) x0)))) : Nat) : Int)) (sroomyG (List.take (List.length ((List.drop 0 (List.take (Int.toNat (if (20) < (((List.length x0) : Nat) : Int) then (20) else (((List.length x0) : Nat) : Int))) x0)))) (List.drop 0 ((List.drop 0 (List.take (Int.toNat (if (20) < (((List.length x0) : Nat) : Int) then (20) else (((List.length x0) : Nat) : Int))) x0))))) ((7), (0))))))).2 != (0)) = true then
                              none
                            else
                              if decide (List.length (getG (putG (List.drop 0 (List.take (Int.toNat (((List.length ((List.drop 0 (List.take (Int.toNat (if (20) < (((List.length x0) : Nat) : Int) then (20) else (((List.length x0) : Nat) : Int))) x0)))) : Nat) : Int)) (sroomyG (List.take (List.length ((List.drop 0 (List.take (Int.toNat (if (20) < (((List.length x0) : Nat) : Int) then (20) else (((List.length x0) : Nat) : Int))) x0)))) (List.drop 0 ((List.drop 0 (List.take (Int.toNat (if (20) < (((List.length x0) : Nat) : Int) then (20) else (((List.length x0) : Nat) : Int))) x0))))) ((7), (0))))))).1 < 4611686018427387904) = true then
                                if ((show List (Int × Int) from (getG (putG (List.drop 0 (List.take (Int.toNat (((List.length ((List.drop 0 (List.take (Int.toNat (if (20) < (((List.length x0) : Nat) : Int) then (20) else (((List.length x0) : Nat) : Int))) x0)))) : Nat) : Int)) (sroomyG (List.take (List.length ((List.drop 0 (List.take (Int.toNat (if (20) < (((List.length x0) : Nat) : Int) then (20) else (((List.length x0) : Nat) : Int))) x0)))) (List.drop 0 ((List.drop 0 (List.take (Int.toNat (if (20) < (((List.length x0) : Nat) : Int) then (20) else (((List.length x0) : Nat) : Int))) x0))))) ((7), (0))))))).1) == (List.take (List.length ((List.drop 0 (List.take (Int.toNat (if (20) < (((List.length x0) : Nat) : Int) then (20) else (((List.length x0) : Nat) : Int))) x0)))) (List.drop 0 ((List.drop 0 (List.take (Int.toNat (if (20) < (((List.length x0) : Nat) : Int) then (20) else (((List.length x0) : Nat) : Int))) x0)))))) = true then
                                  if inR x3 = true then
                                    if inR x4 = true then
                                      if decide ((((List.length (numG [x3])) + (List.length (List.take (List.length (numG [x4])) (List.drop 0 (numG [x4]))))) * 1) ≤ 70368744177664) = true then
                                        if decide ((0 + ((List.length (numG [x3])) + (List.length (List.take (List.length (numG [x4])) (List.drop 0 (numG [x4])))))) ≤ (List.length ((numG [x3]) ++ (List.take (List.length (numG [x4])) (List.drop 0 (numG [x4])))))) = true then
                                          if bytesOK (List.take ((List.length (numG [x3])) + (List.length (List.take (List.length (numG [x4])) (List.drop 0 (numG [x4]))))) (List.drop 0 ((numG [x3]) ++ (List.take (List.length (numG [x4])) (List.drop 0 (numG [x4])))))) = true then
                                            if (decide (0 ≤ (IntKind.wrap .i64 ((((List.length (numG [x3])) : Nat) : Int) - (1)))) && decide ((IntKind.wrap .i64 ((((List.length (numG [x3])) : Nat) : Int) - (1))) ≤ ((((List.length (numG [x3])) + (List.length (List.take (List.length (numG [x4])) (List.drop 0 (numG [x4]))))) : Nat) : Int))) = true then
                                              if decide ((0 + ((Int.toNat (IntKind.wrap .i64 ((((List.length (numG [x3])) : Nat) : Int) - (1)))) - 0)) ≤ (List.length ((numG [x3]) ++ (List.take (List.length (numG [x4])) (List.drop 0 (numG [x4])))))) = true then
                                                if bytesOK (List.take ((Int.toNat (IntKind.wrap .i64 ((((List.length (numG [x3])) : Nat) : Int) - (1)))) - 0) (List.drop 0 ((numG [x3]) ++ (List.take (List.length (numG [x4])) (List.drop 0 (numG [x4])))))) = true then
                                                  if numPre [x3, x4] = true then
                                                    if decide (List.length (List.take (List.length (numG [x3, x4])) (List.drop 0 (numG [x3, x4]))) < 4611686018427387904) = true then
                                                      if ((show List (Int) from (List.take (List.length (numG [x3, x4])) (List.drop 0 (numG [x3, x4])))) == (List.take ((List.length (numG [x3])) + (List.length (List.take (List.length (numG [x4])) (List.drop 0 (numG [x4]))))) (List.drop 0 ((numG [x3]) ++ (List.take (List.length (numG [x4])) (List.drop 0 (numG [x4]))))))) = true then
                                                        if ((nextG (List.take ((List.length (numG [x3])) + (List.length (List.take (List.length (numG [x4])) (List.drop 0 (numG [x4]))))) (List.drop 0 ((numG [x3]) ++ (List.take (List.length (numG [x4])) (List.drop 0 (numG [x4]))))))).1 == x3) = true then
                                                          if ((nextG (List.take ((List.length (numG [x3])) + (List.length (List.take (List.length (numG [x4])) (List.drop 0 (numG [x4]))))) (List.drop 0 ((numG [x3]) ++ (List.take (List.length (numG [x4])) (List.drop 0 (numG [x4]))))))).2 == (((List.length (numG [x3])) : Nat) : Int)) = true then
                                                            if ((nextG (List.take ((Int.toNat (IntKind.wrap .i64 ((((List.length (numG [x3])) : Nat) : Int) - (1)))) - 0) (List.drop 0 ((numG [x3]) ++ (List.take (List.length (numG [x4])) (List.drop 0 (numG [x4]))))))).2 == (0)) = true then
                                                              some ()
                                                            else
                                                              none
                                                          else
                                                            none
                                                        else
                                                          none
                                                      else
                                                        none
                                                    else
                                                      none
                                                  else
                                                    none
                                                else
                                                  none
                                              else
                                                none
                                            else
                                              none
                                          else
                                            none
                                        else
                                          none
                                      else
                                        none
                                    else
                                      none
                                  else
                                    none
                                else
                                  none
                              else
                                none
                          else
                            none
                        else
                          none
                      else
                        if ((((List.length (putG (List.drop 0 (List.take (Int.toNat (((List.length ((List.drop 0 (List.take (Int.toNat (if (20) < (((List.length x0) : Nat) : Int) then (20) else (((List.length x0) : Nat) : Int))) x0)))) : Nat) : Int)) (sroomyG (List.take (List.length ((List.drop 0 (List.take (Int.toNat (if (20) < (((List.length x0) : Nat) : Int) then (20) else (((List.length x0) : Nat) : Int))) x0)))) (List.drop 0 ((List.drop 0 (List.take (Int.toNat (if (20) < (((List.length x0) : Nat) : Int) then (20) else (((List.length x0) : Nat) : Int))) x0))))) ((7), (0))))))) : Nat) : Int) != (0)) = true then
                          none
                        else
                          if ((getG (putG (List.drop 0 (List.take (Int.toNat (((List.length ((List.drop 0 (List.take (Int.toNat (if (20) < (((List.length x0) : Nat) : Int) then (20) else (((List.length x0) : Nat) : Int))) x0)))) : Nat) : Int)) (sroomyG (List.take (List.length ((List.drop 0 (List.take (Int.toNat (if (20) < (((List.length x0) : Nat) : Int) then (20) else (((List.length x0) : Nat) : Int))) x0)))) (List.drop 0 ((List.drop 0 (List.take (Int.toNat (if (20) < (((List.length x0) : Nat) : Int) then (20) else (((List.length x0) : Nat) : Int))) x0))))) ((7), (0))))))).2 != (1)) = true then
                            none
                          else
                            if ((((List.length (getG (putG (List.drop 0 (List.take (Int.toNat (((List.length ((List.drop 0 (List.take (Int.toNat (if (20) < (((List.length x0) : Nat) : Int) then (20) else (((List.length x0) : Nat) : Int))) x0)))) : Nat) : Int)) (sroomyG (List.take (List.length ((List.drop 0 (List.take (Int.toNat (if (20) < (((List.length x0) : Nat) : Int) then (20) else (((List.length x0) : Nat) : Int))) x0)))) (List.drop 0 ((List.drop 0 (List.take (Int.toNat (if (20) < (((List.length x0) : Nat) : Int) then (20) else (((List.length x0) : Nat) : Int))) x0))))) ((7), (0))))))).1) : Nat) : Int) != (0)) = true then
                              none
                            else
                              if inR x3 = true then
                                if inR x4 = true then
                                  if decide ((((List.length (numG [x3])) + (List.length (List.take (List.length (numG [x4])) (List.drop 0 (numG [x4]))))) * 1) ≤ 70368744177664) = true then
                                    if decide ((0 + ((List.length (numG [x3])) + (List.length (List.take (List.length (numG [x4])) (List.drop 0 (numG [x4])))))) ≤ (List.length ((numG [x3]) ++ (List.take (List.length (numG [x4])) (List.drop 0 (numG [x4])))))) = true then
                                      if bytesOK (List.take ((List.length (numG [x3])) + (List.length (List.take (List.length (numG [x4])) (List.drop 0 (numG [x4]))))) (List.drop 0 ((numG [x3]) ++ (List.take (List.length (numG [x4])) (List.drop 0 (numG [x4])))))) = true then
                                        if (decide (0 ≤ (IntKind.wrap .i64 ((((List.length (numG [x3])) : Nat) : Int) - (1)))) && decide ((IntKind.wrap .i64 ((((List.length (numG [x3])) : Nat) : Int) - (1))) ≤ ((((List.length (numG [x3])) + (List.length (List.take (List.length (numG [x4])) (List.drop 0 (numG [x4]))))) : Nat) : Int))) = true then
                                          if decide ((0 + ((Int.toNat (IntKind.wrap .i64 ((((List.length (numG [x3])) : Nat) : Int) - (1)))) - 0)) ≤ (List.length ((numG [x3]) ++ (List.take (List.length (numG [x4])) (List.drop 0 (numG [x4])))))) = true then
                                            if bytesOK (List.take ((Int.toNat (IntKind.wrap .i64 ((((List.length (numG [x3])) : Nat) : Int) - (1)))) - 0) (List.drop 0 ((numG [x3]) ++ (List.take (List.length (numG [x4])) (List.drop 0 (numG [x4])))))) = true then
                                              if numPre [x3, x4] = true then
                                                if decide (List.length (List.take (List.length (numG [x3, x4])) (List.drop 0 (numG [x3, x4]))) < 4611686018427387904) = true then
                                                  if ((show List (Int) from (List.take (List.length (numG [x3, x4])) (List.drop 0 (numG [x3, x4])))) == (List.take ((List.length (numG [x3])) + (List.length (List.take (List.length (numG [x4])) (List.drop 0 (numG [x4]))))) (List.drop 0 ((numG [x3]) ++ (List.take (List.length (numG [x4])) (List.drop 0 (numG [x4]))))))) = true then
                                                    if ((nextG (List.take ((List.length (numG [x3])) + (List.length (List.take (List.length (numG [x4])) (List.drop 0 (numG [x4]))))) (List.drop 0 ((numG [x3]) ++ (List.take (List.length (numG [x4])) (List.drop 0 (numG [x4]))))))).1 == x3) = true then
                                                      if ((nextG (List.take ((List.length (numG [x3])) + (List.length (List.take (List.length (numG [x4])) (List.drop 0 (numG [x4]))))) (List.drop 0 ((numG [x3]) ++ (List.take (List.length (numG [x4])) (List.drop 0 (numG [x4]))))))).2 == (((List.length (numG [x3])) : Nat) : Int)) = true then
                                                        if ((nextG (List.take ((Int.toNat (IntKind.wrap .i64 ((((List.length (numG [x3])) : Nat) : Int) - (1)))) - 0) (List.drop 0 ((numG [x3]) ++ (List.take (List.length (numG [x4])) (List.drop 0 (numG [x4]))))))).2 == (0)) = true then
                                                          some ()
                                                        else
                                                          none
                                                      else
                                                        none
                                                    else
                                                      none
                                                  else
                                                    none
                                                else
                                                  none
                                              else
                                                none
                                            else
                                              none
                                          else
                                            none
                                        else
                                          none
                                      else
                                        none
                                    else
                                      none
                                  else
                                    none
                                else
                                  none
                              else
                                none
                    else
                      none
                  else
                    none
                else
                  none
              else
                none
            else
              none
          else
            none
        else
          none
    else
      none
  else
    none

set_option maxHeartbeats 20000000 in
theorem btells_w0 (m : Nat) (x0 : List (Int × Int)) (x1 : List Int) (x2 : Bool) (x3 : Int) (x4 : Int) (c0 : (decide (0 ≤ (if (20) < (((List.length x0) : Nat) : Int) then (20) else (((List.length x0) : Nat) : Int))) && decide ((if (20) < (((List.length x0) : Nat) : Int) then (20) else (((List.length x0) : Nat) : Int)) ≤ (((List.length x0) : Nat) : Int))) = true) (c1 : decide (((0 + (List.length (List.drop 0 (List.take (Int.toNat (if (20) < (((List.length x0) : Nat) : Int) then (20) else (((List.length x0) : Nat) : Int))) x0)))) * 16) ≤ 70368744177664) = true) (c3 : x2 = true) (c5 : (Option.isSome (l4_0 m (m + 24) x3 x4 ((((List.length (samplesG x1)) : Nat) : Int)) 0 ((samplesG x1)))) = true) (c6 : (Option.isSome (l4_1 m (m + 24) x3 x4 true ((((List.length (l4_0R m (m + 24) x3 x4 ((((List.length (samplesG x1)) : Nat) : Int)) 0 ((samplesG x1))).2.2) : Nat) : Int)) 0 ((l4_0R m (m + 24) x3 x4 ((((List.length (samplesG x1)) : Nat) : Int)) 0 ((samplesG x1))).2.2))) = true) (c8 : decide (List.length (List.take (List.length ((l4_0R m (m + 24) x3 x4 ((((List.length (samplesG x1)) : Nat) : Int)) 0 ((samplesG x1))).2.2)) (List.drop 0 ((l4_0R m (m + 24) x3 x4 ((((List.length (samplesG x1)) : Nat) : Int)) 0 ((samplesG x1))).2.2))) ≤ 1000000) = true) (c9 : (decide (0 ≤ (((List.length ((l4_0R m (m + 24) x3 x4 ((((List.length (samplesG x1)) : Nat) : Int)) 0 ((samplesG x1))).2.2)) : Nat) : Int)) && decide ((((List.length ((l4_0R m (m + 24) x3 x4 ((((List.length (samplesG x1)) : Nat) : Int)) 0 ((samplesG x1))).2.2)) : Nat) : Int) ≤ (((List.length (sroomyG (List.take (List.length ((l4_0R m (m + 24) x3 x4 ((((List.length (samplesG x1)) : Nat) : Int)) 0 ((samplesG x1))).2.2)) (List.drop 0 ((l4_0R m (m + 24) x3 x4 ((((List.length (samplesG x1)) : Nat) : Int)) 0 ((samplesG x1))).2.2))) ((7), (0)))) : Nat) : Int))) = true) (c10 : decide (List.length (List.drop 0 (List.take (Int.toNat (((List.length ((l4_0R m (m + 24) x3 x4 ((((List.length (samplesG x1)) : Nat) : Int)) 0 ((samplesG x1))).2.2)) : Nat) : Int)) (sroomyG (List.take (List.length ((l4_0R m (m + 24) x3 x4 ((((List.length (samplesG x1)) : Nat) : Int)) 0 ((samplesG x1))).2.2)) (List.drop 0 ((l4_0R m (m + 24) x3 x4 ((((List.length (samplesG x1)) : Nat) : Int)) 0 ((samplesG x1))).2.2))) ((7), (0))))) ≤ 1000000) = true) (c11 : bytesOK (putG (List.drop 0 (List.take (Int.toNat (((List.length ((l4_0R m (m + 24) x3 x4 ((((List.length (samplesG x1)) : Nat) : Int)) 0 ((samplesG x1))).2.2)) : Nat) : Int)) (sroomyG (List.take (List.length ((l4_0R m (m + 24) x3 x4 ((((List.length (samplesG x1)) : Nat) : Int)) 0 ((samplesG x1))).2.2)) (List.drop 0 ((l4_0R m (m + 24) x3 x4 ((((List.length (samplesG x1)) : Nat) : Int)) 0 ((samplesG x1))).2.2))) ((7), (0)))))) = true) (c13 : decide (List.length (sroomyG (List.take (List.length ((l4_0R m (m + 24) x3 x4 ((((List.length (samplesG x1)) : Nat) : Int)) 0 ((samplesG x1))).2.2)) (List.drop 0 ((l4_0R m (m + 24) x3 x4 ((((List.length (samplesG x1)) : Nat) : Int)) 0 ((samplesG x1))).2.2))) ((7), (0))) ≤ 1000000 ∧ List.length (List.take (List.length ((l4_0R m (m + 24) x3 x4 ((((List.length (samplesG x1)) : Nat) : Int)) 0 ((samplesG x1))).2.2)) (List.drop 0 ((l4_0R m (m + 24) x3 x4 ((((List.length (samplesG x1)) : Nat) : Int)) 0 ((samplesG x1))).2.2))) ≤ 1000000) = true) (c14 : (sintactG (sroomyG (List.take (List.length ((l4_0R m (m + 24) x3 x4 ((((List.length (samplesG x1)) : Nat) : Int)) 0 ((samplesG x1))).2.2)) (List.drop 0 ((l4_0R m (m + 24) x3 x4 ((((List.length (samplesG x1)) : Nat) : Int)) 0 ((samplesG x1))).2.2))) ((7), (0))) (List.take (List.length ((l4_0R m (m + 24) x3 x4 ((((List.length (samplesG x1)) : Nat) : Int)) 0 ((samplesG x1))).2.2)) (List.drop 0 ((l4_0R m (m + 24) x3 x4 ((((List.length (samplesG x1)) : Nat) : Int)) 0 ((samplesG x1))).2.2))) ((7), (0))) = true) (c17 : (l4_1R m (m + 24) x3 x4 true ((((List.length (l4_0R m (m + 24) x3 x4 ((((List.length (samplesG x1)) : Nat) : Int)) 0 ((samplesG x1))).2.2) : Nat) : Int)) 0 ((l4_0R m (m + 24) x3 x4 ((((List.length (samplesG x1)) : Nat) : Int)) 0 ((samplesG x1))).2.2)).2.1 = true) (c35 : decide (List.length (putG (List.drop 0 (List.take (Int.toNat (((List.length ((l4_0R m (m + 24) x3 x4 ((((List.length (samplesG x1)) : Nat) : Int)) 0 ((samplesG x1))).2.2)) : Nat) : Int)) (sroomyG (List.take (List.length ((l4_0R m (m + 24) x3 x4 ((((List.length (samplesG x1)) : Nat) : Int)) 0 ((samplesG x1))).2.2)) (List.drop 0 ((l4_0R m (m + 24) x3 x4 ((((List.length (samplesG x1)) : Nat) : Int)) 0 ((samplesG x1))).2.2))) ((7), (0)))))) < 4611686018427387904) = true) (c38 : ((show List (Int) from (putG (List.drop 0 (List.take (Int.toNat (((List.length ((l4_0R m (m + 24) x3 x4 ((((List.length (samplesG x1)) : Nat) : Int)) 0 ((samplesG x1))).2.2)) : Nat) : Int)) (sroomyG (List.take (List.length ((l4_0R m (m + 24) x3 x4 ((((List.length (samplesG x1)) : Nat) : Int)) 0 ((samplesG x1))).2.2)) (List.drop 0 ((l4_0R m (m + 24) x3 x4 ((((List.length (samplesG x1)) : Nat) : Int)) 0 ((samplesG x1))).2.2))) ((7), (0))))))) == (blockG (List.take (List.length ((l4_0R m (m + 24) x3 x4 ((((List.length (samplesG x1)) : Nat) : Int)) 0 ((samplesG x1))).2.2)) (List.drop 0 ((l4_0R m (m + 24) x3 x4 ((((List.length (samplesG x1)) : Nat) : Int)) 0 ((samplesG x1))).2.2))))) = true) (c43 : ¬ ((getG (putG (List.drop 0 (List.take (Int.toNat (((List.length ((l4_0R m (m + 24) x3 x4 ((((List.length (samplesG x1)) : Nat) : Int)) 0 ((samplesG x1))).2.2)) : Nat) : Int)) (sroomyG (List.take (List.length ((l4_0R m (m + 24) x3 x4 ((((List.length (samplesG x1)) : Nat) : Int)) 0 ((samplesG x1))).2.2)) (List.drop 0 ((l4_0R m (m + 24) x3 x4 ((((List.length (samplesG x1)) : Nat) : Int)) 0 ((samplesG x1))).2.2))) ((7), (0))))))).2 != (0)) = true) (c47 : decide (List.length (getG (putG (List.drop 0 (List.take (Int.toNat (((List.length ((l4_0R m (m + 24) x3 x4 ((((List.length (samplesG x1)) : Nat) : Int)) 0 ((samplesG x1))).2.2)) : Nat) : Int)) (sroomyG (List.take (List.length ((l4_0R m (m + 24) x3 x4 ((((List.length (samplesG x1)) : Nat) : Int)) 0 ((samplesG x1))).2.2)) (List.drop 0 ((l4_0R m (m + 24) x3 x4 ((((List.length (samplesG x1)) : Nat) : Int)) 0 ((samplesG x1))).2.2))) ((7), (0))))))).1 < 4611686018427387904) = true) (c54 : ((show List (Int × Int) from (getG (putG (List.drop 0 (List.take (Int.toNat (((List.length ((l4_0R m (m + 24) x3 x4 ((((List.length (samplesG x1)) : Nat) : Int)) 0 ((samplesG x1))).2.2)) : Nat) : Int)) (sroomyG (List.take (List.length ((l4_0R m (m + 24) x3 x4 ((((List.length (samplesG x1)) : Nat) : Int)) 0 ((samplesG x1))).2.2)) (List.drop 0 ((l4_0R m (m + 24) x3 x4 ((((List.length (samplesG x1)) : Nat) : Int)) 0 ((samplesG x1))).2.2))) ((7), (0))))))).1) == (List.take (List.length ((l4_0R m (m + 24) x3 x4 ((((List.length (samplesG x1)) : Nat) : Int)) 0 ((samplesG x1))).2.2)) (List.drop 0 ((l4_0R m (m + 24) x3 x4 ((((List.length (samplesG x1)) : Nat) : Int)) 0 ((samplesG x1))).2.2)))) = true) (c55 : inR x3 = true) (c56 : inR x4 = true) (c58 : decide ((((List.length (numG [x3])) + (List.length (List.take (List.length (numG [x4])) (List.drop 0 (numG [x4]))))) * 1) ≤ 70368744177664) = true) (c60 : decide ((0 + ((List.length (numG [x3])) + (List.length (List.take (List.length (numG [x4])) (List.drop 0 (numG [x4])))))) ≤ (List.length ((numG [x3]) ++ (List.take (List.length (numG [x4])) (List.drop 0 (numG [x4])))))) = true) (c61 : bytesOK (List.take ((List.length (numG [x3])) + (List.length (List.take (List.length (numG [x4])) (List.drop 0 (numG [x4]))))) (List.drop 0 ((numG [x3]) ++ (List.take (List.length (numG [x4])) (List.drop 0 (numG [x4])))))) = true) (c63 : (decide (0 ≤ (IntKind.wrap .i64 ((((List.length (numG [x3])) : Nat) : Int) - (1)))) && decide ((IntKind.wrap .i64 ((((List.length (numG [x3])) : Nat) : Int) - (1))) ≤ ((((List.length (numG [x3])) + (List.length (List.take (List.length (numG [x4])) (List.drop 0 (numG [x4]))))) : Nat) : Int))) = true) (c65 : decide ((0 + ((Int.toNat (IntKind.wrap .i64 ((((List.length (numG [x3])) : Nat) : Int) - (1)))) - 0)) ≤ (List.length ((numG [x3]) ++ (List.take (List.length (numG [x4])) (List.drop 0 (numG [x4])))))) = true) (c66 : bytesOK (List.take ((Int.toNat (IntKind.wrap .i64 ((((List.length (numG [x3])) : Nat) : Int) - (1)))) - 0) (List.drop 0 ((numG [x3]) ++ (List.take (List.length (numG [x4])) (List.drop 0 (numG [x4])))))) = true) (c68 : numPre [x3, x4] = true) (c71 : decide (List.length (List.take (List.length (numG [x3, x4])) (List.drop 0 (numG [x3, x4]))) < 4611686018427387904) = true) (c72 : ((show List (Int) from (List.take (List.length (numG [x3, x4])) (List.drop 0 (numG [x3, x4])))) == (List.take ((List.length (numG [x3])) + (List.length (List.take (List.length (numG [x4])) (List.drop 0 (numG [x4]))))) (List.drop 0 ((numG [x3]) ++ (List.take (List.length (numG [x4])) (List.drop 0 (numG [x4]))))))) = true) (c76 : ((nextG (List.take ((List.length (numG [x3])) + (List.length (List.take (List.length (numG [x4])) (List.drop 0 (numG [x4]))))) (List.drop 0 ((numG [x3]) ++ (List.take (List.length (numG [x4])) (List.drop 0 (numG [x4]))))))).1 == x3) = true) (c83 : ((nextG (List.take ((List.length (numG [x3])) + (List.length (List.take (List.length (numG [x4])) (List.drop 0 (numG [x4]))))) (List.drop 0 ((numG [x3]) ++ (List.take (List.length (numG [x4])) (List.drop 0 (numG [x4]))))))).2 == (((List.length (numG [x3])) : Nat) : Int)) = true) (c86 : ((nextG (List.take ((Int.toNat (IntKind.wrap .i64 ((((List.length (numG [x3])) : Nat) : Int) - (1)))) - 0) (List.drop 0 ((numG [x3]) ++ (List.take (List.length (numG [x4])) (List.drop 0 (numG [x4]))))))).2 == (0)) = true) : (evCall F S19 (m + 25) 4 [(.d (.sl (.pair (.int .i64) (.int .i64)) x0)), (.d (.sl (.int .i64) x1)), (.d (.bool (x2))), (.d (.int .i64 x3)), (.d (.int .i64 x4))] []).run = some (.d (.bool true), []) := by
  refine runT_ok (LS := (fun k => if k = 206158432280 then some (l4_0E x3 x4 (((((List.length (samplesG x1)) : Nat) : Int))) ((l4_0R m (m + 24) x3 x4 ((((List.length (samplesG x1)) : Nat) : Int)) 0 ((samplesG x1))).2.1) ((l4_0R m (m + 24) x3 x4 ((((List.length (samplesG x1)) : Nat) : Int)) 0 ((samplesG x1))).2.2) 0) else if k = 3940649673959448 then some (l4_1E x3 x4 ((l4_1R m (m + 24) x3 x4 true ((((List.length (l4_0R m (m + 24) x3 x4 ((((List.length (samplesG x1)) : Nat) : Int)) 0 ((samplesG x1))).2.2) : Nat) : Int)) 0 ((l4_0R m (m + 24) x3 x4 ((((List.length (samplesG x1)) : Nat) : Int)) 0 ((samplesG x1))).2.2)).2.1) (((((List.length (l4_0R m (m + 24) x3 x4 ((((List.length (samplesG x1)) : Nat) : Int)) 0 ((samplesG x1))).2.2) : Nat) : Int))) ((l4_1R m (m + 24) x3 x4 true ((((List.length (l4_0R m (m + 24) x3 x4 ((((List.length (samplesG x1)) : Nat) : Int)) 0 ((samplesG x1))).2.2) : Nat) : Int)) 0 ((l4_0R m (m + 24) x3 x4 ((((List.length (samplesG x1)) : Nat) : Int)) 0 ((samplesG x1))).2.2)).2.2) (((l4_0R m (m + 24) x3 x4 ((((List.length (samplesG x1)) : Nat) : Int)) 0 ((samplesG x1))).2.2)) 0) else none)) (fn := fn4) (r := .d (.bool true)) (B' := []) (vis := [(206158432280, l4_0H x3 x4 ((((List.length (samplesG x1)) : Nat) : Int)) 0 ((samplesG x1)), l4_0B x3 x4 ((((List.length (samplesG x1)) : Nat) : Int)) 0 ((samplesG x1))), (3940649673959448, l4_1H x3 x4 true ((((List.length (l4_0R m (m + 24) x3 x4 ((((List.length (samplesG x1)) : Nat) : Int)) 0 ((samplesG x1))).2.2) : Nat) : Int)) 0 ((l4_0R m (m + 24) x3 x4 ((((List.length (samplesG x1)) : Nat) : Int)) 0 ((samplesG x1))).2.2), l4_1B x3 x4 true ((((List.length (l4_0R m (m + 24) x3 x4 ((((List.length (samplesG x1)) : Nat) : Int)) 0 ((samplesG x1))).2.2) : Nat) : Int)) 0 ((l4_0R m (m + 24) x3 x4 ((((List.length (samplesG x1)) : Nat) : Int)) 0 ((samplesG x1))).2.2))]) (by kernel_rfl) rfl (by kernel_rfl) (M.run_of_path _ [true, true, true, true, true, true, true, true, true, true, true, true, false, false, false, false, false, false, false, false, false, false, false, false, false, false, false, true, true, true, true, true, true, true, true, true, false, false, true, false, true, false, false, false, true, true, false, true, false, false, true, false, false, true, true, true, true, true, true, true, true, true, true, true, true, true, true, true, true, true, true, true, true, true, true, true, true, true, true, true, true, true, true, true, true, true] _ _ (by kernel_rfl) (all_t c0 (all_t c1 (all_t rfl (all_t c3 (all_t rfl (all_t (show decide ((0 + (List.length ((l4_0R m (m + 24) x3 x4 ((((List.length (samplesG x1)) : Nat) : Int)) 0 ((samplesG x1))).2.2))) ≤ (List.length ((l4_0R m (m + 24) x3 x4 ((((List.length (samplesG x1)) : Nat) : Int)) 0 ((samplesG x1))).2.2))) = true from decide_eq_true (Nat.le_of_eq (Nat.zero_add _))) (all_t c8 (all_t c9 (all_t c10 (all_t c11 (all_t (show decide ((0 + (List.length ((l4_0R m (m + 24) x3 x4 ((((List.length (samplesG x1)) : Nat) : Int)) 0 ((samplesG x1))).2.2))) ≤ (List.length ((l4_0R m (m + 24) x3 x4 ((((List.length (samplesG x1)) : Nat) : Int)) 0 ((samplesG x1))).2.2))) = true from decide_eq_true (Nat.le_of_eq (Nat.zero_add _))) (all_t c13 (all_nt c14 (all_nt c14 (all_nt c14 (all_nt c17 (all_nt c17 (all_nt c17 (all_nt c17 (all_nt c17 (all_nt c17 (all_nt c17 (all_nt c14 (all_nt c17 (all_nt c14 (all_f Bool.false_ne_true (all_f Bool.false_ne_true (all_t c17 (all_t c17 (all_t c17 (all_t (show decide ((0 + (List.length ((l4_0R m (m + 24) x3 x4 ((((List.length (samplesG x1)) : Nat) : Int)) 0 ((samplesG x1))).2.2))) ≤ (List.length ((l4_0R m (m + 24) x3 x4 ((((List.length (samplesG x1)) : Nat) : Int)) 0 ((samplesG x1))).2.2))) = true from decide_eq_true (Nat.le_of_eq (Nat.zero_add _))) (all_t c8 (all_t c17 (all_t c35 (all_t c17 (all_t c17 (all_nt c38 (all_nt c38 (all_t c17 (all_nt c38 (all_t c17 (all_f c43 (all_f c43 (all_f c43 (all_t (show decide ((0 + (List.length ((l4_0R m (m + 24) x3 x4 ((((List.length (samplesG x1)) : Nat) : Int)) 0 ((samplesG x1))).2.2))) ≤ (List.length ((l4_0R m (m + 24) x3 x4 ((((List.length (samplesG x1)) : Nat) : Int)) 0 ((samplesG x1))).2.2))) = true from decide_eq_true (Nat.le_of_eq (Nat.zero_add _))) (all_t c47 (all_f c43 (all_t c17 (all_f c43 (all_f Bool.false_ne_true (all_t c17 (all_f Bool.false_ne_true (all_nt c54 (all_t c55 (all_t c56 (all_t (show decide ((0 + (List.length (numG [x4]))) ≤ (List.length (numG [x4]))) = true from decide_eq_true (Nat.le_of_eq (Nat.zero_add _))) (all_t c58 (all_t (show decide ((List.length (numG [x3])) = (List.length (numG [x3]))) = true from decide_eq_true rfl) (all_t c60 (all_t c61 (all_t c55 (all_t c63 (all_t (show (decide (0 < ((List.length (numG [x3])) + (List.length (List.take (List.length (numG [x4])) (List.drop 0 (numG [x4])))))) || true) = true from Bool.or_true _) (all_t c65 (all_t c66 (all_t rfl (all_t c68 (all_t (show decide ((0 + (List.length (numG [x3, x4]))) ≤ (List.length (numG [x3, x4]))) = true from decide_eq_true (Nat.le_of_eq (Nat.zero_add _))) (all_t c60 (all_t c71 (all_t c72 (all_t c72 (all_t c72 (all_t c72 (all_t c76 (all_t c76 (all_t c76 (all_t c55 (all_t c76 (all_t c76 (all_t c76 (all_t c83 (all_t c83 (all_t c83 (all_t c86 (all_t c86 all_nil))))))))))))))))))))))))))))))))))))))))))))))))))))))))))))))))))))))))))))))))))))))) ?_
  intro p hp p2 hq
  rcases List.mem_cons.1 hp with rfl | hp
  · skip
    have h3 := l4_0_ok m (m + 24) x3 x4 ((((List.length (samplesG x1)) : Nat) : Int)) 0 ((samplesG x1)) _ (some_getD (d := l4_0D) c5)
    exact Eq.trans (Eq.mp (by kernel_rfl) h3) hq
  rcases List.mem_cons.1 hp with rfl | hp
  · skip
    have h3 := l4_1_ok m (m + 24) x3 x4 true ((((List.length (l4_0R m (m + 24) x3 x4 ((((List.length (samplesG x1)) : Nat) : Int)) 0 ((samplesG x1))).2.2) : Nat) : Int)) 0 ((l4_0R m (m + 24) x3 x4 ((((List.length (samplesG x1)) : Nat) : Int)) 0 ((samplesG x1))).2.2) _ (some_getD (d := l4_1D) c6)
    exact Eq.trans (Eq.mp (by kernel_rfl) h3) hq
  cases hp

set_option maxHeartbeats 20000000 in
theorem btells_w1 (m : Nat) (x0 : List (Int × Int)) (x1 : List Int) (x2 : Bool) (x3 : Int) (x4 : Int) (c0 : (decide (0 ≤ (if (20) < (((List.length x0) : Nat) : Int) then (20) else (((List.length x0) : Nat) : Int))) && decide ((if (20) < (((List.length x0) : Nat) : Int) then (20) else (((List.length x0) : Nat) : Int)) ≤ (((List.length x0) : Nat) : Int))) = true) (c1 : decide (((0 + (List.length (List.drop 0 (List.take (Int.toNat (if (20) < (((List.length x0) : Nat) : Int) then (20) else (((List.length x0) : Nat) : Int))) x0)))) * 16) ≤ 70368744177664) = true) (c3 : x2 = true) (c5 : (Option.isSome (l4_0 m (m + 24) x3 x4 ((((List.length (samplesG x1)) : Nat) : Int)) 0 ((samplesG x1)))) = true) (c6 : (Option.isSome (l4_1 m (m + 24) x3 x4 true ((((List.length (l4_0R m (m + 24) x3 x4 ((((List.length (samplesG x1)) : Nat) : Int)) 0 ((samplesG x1))).2.2) : Nat) : Int)) 0 ((l4_0R m (m + 24) x3 x4 ((((List.length (samplesG x1)) : Nat) : Int)) 0 ((samplesG x1))).2.2))) = true) (c8 : decide (List.length (List.take (List.length ((l4_0R m (m + 24) x3 x4 ((((List.length (samplesG x1)) : Nat) : Int)) 0 ((samplesG x1))).2.2)) (List.drop 0 ((l4_0R m (m + 24) x3 x4 ((((List.length (samplesG x1)) : Nat) : Int)) 0 ((samplesG x1))).2.2))) ≤ 1000000) = true) (c9 : (decide (0 ≤ (((List.length ((l4_0R m (m + 24) x3 x4 ((((List.length (samplesG x1)) : Nat) : Int)) 0 ((samplesG x1))).2.2)) : Nat) : Int)) && decide ((((List.length ((l4_0R m (m + 24) x3 x4 ((((List.length (samplesG x1)) : Nat) : Int)) 0 ((samplesG x1))).2.2)) : Nat) : Int) ≤ (((List.length (sroomyG (List.take (List.length ((l4_0R m (m + 24) x3 x4 ((((List.length (samplesG x1)) : Nat) : Int)) 0 ((samplesG x1))).2.2)) (List.drop 0 ((l4_0R m (m + 24) x3 x4 ((((List.length (samplesG x1)) : Nat) : Int)) 0 ((samplesG x1))).2.2))) ((7), (0)))) : Nat) : Int))) = true) (c10 : decide (List.length (List.drop 0 (List.take (Int.toNat (((List.length ((l4_0R m (m + 24) x3 x4 ((((List.length (samplesG x1)) : Nat) : Int)) 0 ((samplesG x1))).2.2)) : Nat) : Int)) (sroomyG (List.take (List.length ((l4_0R m (m + 24) x3 x4 ((((List.length (samplesG x1)) : Nat) : Int)) 0 ((samplesG x1))).2.2)) (List.drop 0 ((l4_0R m (m + 24) x3 x4 ((((List.length (samplesG x1)) : Nat) : Int)) 0 ((samplesG x1))).2.2))) ((7), (0))))) ≤ 1000000) = true) (c11 : bytesOK (putG (List.drop 0 (List.take (Int.toNat (((List.length ((l4_0R m (m + 24) x3 x4 ((((List.length (samplesG x1)) : Nat) : Int)) 0 ((samplesG x1))).2.2)) : Nat) : Int)) (sroomyG (List.take (List.length ((l4_0R m (m + 24) x3 x4 ((((List.length (samplesG x1)) : Nat) : Int)) 0 ((samplesG x1))).2.2)) (List.drop 0 ((l4_0R m (m + 24) x3 x4 ((((List.length (samplesG x1)) : Nat) : Int)) 0 ((samplesG x1))).2.2))) ((7), (0)))))) = true) (c13 : decide (List.length (sroomyG (List.take (List.length ((l4_0R m (m + 24) x3 x4 ((((List.length (samplesG x1)) : Nat) : Int)) 0 ((samplesG x1))).2.2)) (List.drop 0 ((l4_0R m (m + 24) x3 x4 ((((List.length (samplesG x1)) : Nat) : Int)) 0 ((samplesG x1))).2.2))) ((7), (0))) ≤ 1000000 ∧ List.length (List.take (List.length ((l4_0R m (m + 24) x3 x4 ((((List.length (samplesG x1)) : Nat) : Int)) 0 ((samplesG x1))).2.2)) (List.drop 0 ((l4_0R m (m + 24) x3 x4 ((((List.length (samplesG x1)) : Nat) : Int)) 0 ((samplesG x1))).2.2))) ≤ 1000000) = true) (c14 : (sintactG (sroomyG (List.take (List.length ((l4_0R m (m + 24) x3 x4 ((((List.length (samplesG x1)) : Nat) : Int)) 0 ((samplesG x1))).2.2)) (List.drop 0 ((l4_0R m (m + 24) x3 x4 ((((List.length (samplesG x1)) : Nat) : Int)) 0 ((samplesG x1))).2.2))) ((7), (0))) (List.take (List.length ((l4_0R m (m + 24) x3 x4 ((((List.length (samplesG x1)) : Nat) : Int)) 0 ((samplesG x1))).2.2)) (List.drop 0 ((l4_0R m (m + 24) x3 x4 ((((List.length (samplesG x1)) : Nat) : Int)) 0 ((samplesG x1))).2.2))) ((7), (0))) = true) (c17 : ¬ (l4_1R m (m + 24) x3 x4 true ((((List.length (l4_0R m (m + 24) x3 x4 ((((List.length (samplesG x1)) : Nat) : Int)) 0 ((samplesG x1))).2.2) : Nat) : Int)) 0 ((l4_0R m (m + 24) x3 x4 ((((List.length (samplesG x1)) : Nat) : Int)) 0 ((samplesG x1))).2.2)).2.1 = true) (c21 : ¬ ((((List.length (putG (List.drop 0 (List.take (Int.toNat (((List.length ((l4_0R m (m + 24) x3 x4 ((((List.length (samplesG x1)) : Nat) : Int)) 0 ((samplesG x1))).2.2)) : Nat) : Int)) (sroomyG (List.take (List.length ((l4_0R m (m + 24) x3 x4 ((((List.length (samplesG x1)) : Nat) : Int)) 0 ((samplesG x1))).2.2)) (List.drop 0 ((l4_0R m (m + 24) x3 x4 ((((List.length (samplesG x1)) : Nat) : Int)) 0 ((samplesG x1))).2.2))) ((7), (0))))))) : Nat) : Int) != (0)) = true) (c26 : ¬ ((getG (putG (List.drop 0 (List.take (Int.toNat (((List.length ((l4_0R m (m + 24) x3 x4 ((((List.length (samplesG x1)) : Nat) : Int)) 0 ((samplesG x1))).2.2)) : Nat) : Int)) (sroomyG (List.take (List.length ((l4_0R m (m + 24) x3 x4 ((((List.length (samplesG x1)) : Nat) : Int)) 0 ((samplesG x1))).2.2)) (List.drop 0 ((l4_0R m (m + 24) x3 x4 ((((List.length (samplesG x1)) : Nat) : Int)) 0 ((samplesG x1))).2.2))) ((7), (0))))))).2 != (1)) = true) (c34 : ¬ ((((List.length (getG (putG (List.drop 0 (List.take (Int.toNat (((List.length ((l4_0R m (m + 24) x3 x4 ((((List.length (samplesG x1)) : Nat) : Int)) 0 ((samplesG x1))).2.2)) : Nat) : Int)) (sroomyG (List.take (List.length ((l4_0R m (m + 24) x3 x4 ((((List.length (samplesG x1)) : Nat) : Int)) 0 ((samplesG x1))).2.2)) (List.drop 0 ((l4_0R m (m + 24) x3 x4 ((((List.length (samplesG x1)) : Nat) : Int)) 0 ((samplesG x1))).2.2))) ((7), (0))))))).1) : Nat) : Int) != (0)) = true) (c49 : inR x3 = true) (c50 : inR x4 = true) (c52 : decide ((((List.length (numG [x3])) + (List.length (List.take (List.length (numG [x4])) (List.drop 0 (numG [x4]))))) * 1) ≤ 70368744177664) = true) (c54 : decide ((0 + ((List.length (numG [x3])) + (List.length (List.take (List.length (numG [x4])) (List.drop 0 (numG [x4])))))) ≤ (List.length ((numG [x3]) ++ (List.take (List.length (numG [x4])) (List.drop 0 (numG [x4])))))) = true) (c55 : bytesOK (List.take ((List.length (numG [x3])) + (List.length (List.take (List.length (numG [x4])) (List.drop 0 (numG [x4]))))) (List.drop 0 ((numG [x3]) ++ (List.take (List.length (numG [x4])) (List.drop 0 (numG [x4])))))) = true) (c57 : (decide (0 ≤ (IntKind.wrap .i64 ((((List.length (numG [x3])) : Nat) : Int) - (1)))) && decide ((IntKind.wrap .i64 ((((List.length (numG [x3])) : Nat) : Int) - (1))) ≤ ((((List.length (numG [x3])) + (List.length (List.take (List.length (numG [x4])) (List.drop 0 (numG [x4]))))) : Nat) : Int))) = true) (c59 : decide ((0 + ((Int.toNat (IntKind.wrap .i64 ((((List.length (numG [x3])) : Nat) : Int) - (1)))) - 0)) ≤ (List.length ((numG [x3]) ++ (List.take (List.length (numG [x4])) (List.drop 0 (numG [x4])))))) = true) (c60 : bytesOK (List.take ((Int.toNat (IntKind.wrap .i64 ((((List.length (numG [x3])) : Nat) : Int) - (1)))) - 0) (List.drop 0 ((numG [x3]) ++ (List.take (List.length (numG [x4])) (List.drop 0 (numG [x4])))))) = true) (c62 : numPre [x3, x4] = true) (c65 : decide (List.length (List.take (List.length (numG [x3, x4])) (List.drop 0 (numG [x3, x4]))) < 4611686018427387904) = true) (c66 : ((show List (Int) from (List.take (List.length (numG [x3, x4])) (List.drop 0 (numG [x3, x4])))) == (List.take ((List.length (numG [x3])) + (List.length (List.take (List.length (numG [x4])) (List.drop 0 (numG [x4]))))) (List.drop 0 ((numG [x3]) ++ (List.take (List.length (numG [x4])) (List.drop 0 (numG [x4]))))))) = true) (c70 : ((nextG (List.take ((List.length (numG [x3])) + (List.length (List.take (List.length (numG [x4])) (List.drop 0 (numG [x4]))))) (List.drop 0 ((numG [x3]) ++ (List.take (List.length (numG [x4])) (List.drop 0 (numG [x4]))))))).1 == x3) = true) (c77 : ((nextG (List.take ((List.length (numG [x3])) + (List.length (List.take (List.length (numG [x4])) (List.drop 0 (numG [x4]))))) (List.drop 0 ((numG [x3]) ++ (List.take (List.length (numG [x4])) (List.drop 0 (numG [x4]))))))).2 == (((List.length (numG [x3])) : Nat) : Int)) = true) (c80 : ((nextG (List.take ((Int.toNat (IntKind.wrap .i64 ((((List.length (numG [x3])) : Nat) : Int) - (1)))) - 0) (List.drop 0 ((numG [x3]) ++ (List.take (List.length (numG [x4])) (List.drop 0 (numG [x4]))))))).2 == (0)) = true) : (evCall F S19 (m + 25) 4 [(.d (.sl (.pair (.int .i64) (.int .i64)) x0)), (.d (.sl (.int .i64) x1)), (.d (.bool (x2))), (.d (.int .i64 x3)), (.d (.int .i64 x4))] []).run = some (.d (.bool true), []) := by
  refine runT_ok (LS := (fun k => if k = 206158432280 then some (l4_0E x3 x4 (((((List.length (samplesG x1)) : Nat) : Int))) ((l4_0R m (m + 24) x3 x4 ((((List.length (samplesG x1)) : Nat) : Int)) 0 ((samplesG x1))).2.1) ((l4_0R m (m + 24) x3 x4 ((((List.length (samplesG x1)) : Nat) : Int)) 0 ((samplesG x1))).2.2) 0) else if k = 3940649673959448 then some (l4_1E x3 x4 ((l4_1R m (m + 24) x3 x4 true ((((List.length (l4_0R m (m + 24) x3 x4 ((((List.length (samplesG x1)) : Nat) : Int)) 0 ((samplesG x1))).2.2) : Nat) : Int)) 0 ((l4_0R m (m + 24) x3 x4 ((((List.length (samplesG x1)) : Nat) : Int)) 0 ((samplesG x1))).2.2)).2.1) (((((List.length (l4_0R m (m + 24) x3 x4 ((((List.length (samplesG x1)) : Nat) : Int)) 0 ((samplesG x1))).2.2) : Nat) : Int))) ((l4_1R m (m + 24) x3 x4 true ((((List.length (l4_0R m (m + 24) x3 x4 ((((List.length (samplesG x1)) : Nat) : Int)) 0 ((samplesG x1))).2.2) : Nat) : Int)) 0 ((l4_0R m (m + 24) x3 x4 ((((List.length (samplesG x1)) : Nat) : Int)) 0 ((samplesG x1))).2.2)).2.2) (((l4_0R m (m + 24) x3 x4 ((((List.length (samplesG x1)) : Nat) : Int)) 0 ((samplesG x1))).2.2)) 0) else none)) (fn := fn4) (r := .d (.bool true)) (B' := []) (vis := [(206158432280, l4_0H x3 x4 ((((List.length (samplesG x1)) : Nat) : Int)) 0 ((samplesG x1)), l4_0B x3 x4 ((((List.length (samplesG x1)) : Nat) : Int)) 0 ((samplesG x1))), (3940649673959448, l4_1H x3 x4 true ((((List.length (l4_0R m (m + 24) x3 x4 ((((List.length (samplesG x1)) : Nat) : Int)) 0 ((samplesG x1))).2.2) : Nat) : Int)) 0 ((l4_0R m (m + 24) x3 x4 ((((List.length (samplesG x1)) : Nat) : Int)) 0 ((samplesG x1))).2.2), l4_1B x3 x4 true ((((List.length (l4_0R m (m + 24) x3 x4 ((((List.length (samplesG x1)) : Nat) : Int)) 0 ((samplesG x1))).2.2) : Nat) : Int)) 0 ((l4_0R m (m + 24) x3 x4 ((((List.length (samplesG x1)) : Nat) : Int)) 0 ((samplesG x1))).2.2))]) (by kernel_rfl) rfl (by kernel_rfl) (M.run_of_path _ [true, true, true, true, true, true, true, true, true, true, true, true, false, false, false, true, true, true, true, false, false, true, false, true, false, false, false, true, false, false, true, false, false, false, false, false, false, false, false, false, false, false, false, false, false, false, false, true, true, true, true, true, true, true, true, true, true, true, true, true, true, true, true, true, true, true, true, true, true, true, true, true, true, true, true, true, true, true, true, true] _ _ (by kernel_rfl) (all_t c0 (all_t c1 (all_t rfl (all_t c3 (all_t rfl (all_t (show decide ((0 + (List.length ((l4_0R m (m + 24) x3 x4 ((((List.length (samplesG x1)) : Nat) : Int)) 0 ((samplesG x1))).2.2))) ≤ (List.length ((l4_0R m (m + 24) x3 x4 ((((List.length (samplesG x1)) : Nat) : Int)) 0 ((samplesG x1))).2.2))) = true from decide_eq_true (Nat.le_of_eq (Nat.zero_add _))) (all_t c8 (all_t c9 (all_t c10 (all_t c11 (all_t (show decide ((0 + (List.length ((l4_0R m (m + 24) x3 x4 ((((List.length (samplesG x1)) : Nat) : Int)) 0 ((samplesG x1))).2.2))) ≤ (List.length ((l4_0R m (m + 24) x3 x4 ((((List.length (samplesG x1)) : Nat) : Int)) 0 ((samplesG x1))).2.2))) = true from decide_eq_true (Nat.le_of_eq (Nat.zero_add _))) (all_t c13 (all_nt c14 (all_nt c14 (all_nt c14 (all_nf c17 (all_nf c17 (all_nf c17 (all_nf c17 (all_f c21 (all_f c21 (all_nf c17 (all_f c21 (all_nf c17 (all_f c26 (all_f c26 (all_f c26 (all_nf c17 (all_f c26 (all_nt c14 (all_nf c17 (all_nt c14 (all_f c34 (all_f c34 (all_f c17 (all_f c17 (all_f c17 (all_f c17 (all_f c17 (all_f c17 (all_f c17 (all_f c17 (all_f c17 (all_f c34 (all_f c17 (all_f c34 (all_f Bool.false_ne_true (all_t c49 (all_t c50 (all_t (show decide ((0 + (List.length (numG [x4]))) ≤ (List.length (numG [x4]))) = true from decide_eq_true (Nat.le_of_eq (Nat.zero_add _))) (all_t c52 (all_t (show decide ((List.length (numG [x3])) = (List.length (numG [x3]))) = true from decide_eq_true rfl) (all_t c54 (all_t c55 (all_t c49 (all_t c57 (all_t (show (decide (0 < ((List.length (numG [x3])) + (List.length (List.take (List.length (numG [x4])) (List.drop 0 (numG [x4])))))) || true) = true from Bool.or_true _) (all_t c59 (all_t c60 (all_t rfl (all_t c62 (all_t (show decide ((0 + (List.length (numG [x3, x4]))) ≤ (List.length (numG [x3, x4]))) = true from decide_eq_true (Nat.le_of_eq (Nat.zero_add _))) (all_t c54 (all_t c65 (all_t c66 (all_t c66 (all_t c66 (all_t c66 (all_t c70 (all_t c70 (all_t c70 (all_t c49 (all_t c70 (all_t c70 (all_t c70 (all_t c77 (all_t c77 (all_t c77 (all_t c80 (all_t c80 all_nil))))))))))))))))))))))))))))))))))))))))))))))))))))))))))))))))))))))))))))))))) ?_
  intro p hp p2 hq
  rcases List.mem_cons.1 hp with rfl | hp
  · skip
    have h3 := l4_0_ok m (m + 24) x3 x4 ((((List.length (samplesG x1)) : Nat) : Int)) 0 ((samplesG x1)) _ (some_getD (d := l4_0D) c5)
    exact Eq.trans (Eq.mp (by kernel_rfl) h3) hq
  rcases List.mem_cons.1 hp with rfl | hp
  · skip
    have h3 := l4_1_ok m (m + 24) x3 x4 true ((((List.length (l4_0R m (m + 24) x3 x4 ((((List.length (samplesG x1)) : Nat) : Int)) 0 ((samplesG x1))).2.2) : Nat) : Int)) 0 ((l4_0R m (m + 24) x3 x4 ((((List.length (samplesG x1)) : Nat) : Int)) 0 ((samplesG x1))).2.2) _ (some_getD (d := l4_1D) c6)
    exact Eq.trans (Eq.mp (by kernel_rfl) h3) hq
  cases hp

set_option maxHeartbeats 20000000 in
theorem btells_w2 (m : Nat) (x0 : List (Int × Int)) (x1 : List Int) (x2 : Bool) (x3 : Int) (x4 : Int) (c0 : (decide (0 ≤ (if (20) < (((List.length x0) : Nat) : Int) then (20) else (((List.length x0) : Nat) : Int))) && decide ((if (20) < (((List.length x0) : Nat) : Int) then (20) else (((List.length x0) : Nat) : Int)) ≤ (((List.length x0) : Nat) : Int))) = true) (c1 : decide (((0 + (List.length (List.drop 0 (List.take (Int.toNat (if (20) < (((List.length x0) : Nat) : Int) then (20) else (((List.length x0) : Nat) : Int))) x0)))) * 16) ≤ 70368744177664) = true) (c3 : ¬ x2 = true) (c4 : (Option.isSome (l4_1 m (m + 24) x3 x4 true ((((0 + (List.length (List.drop 0 (List.take (Int.toNat (if (20) < (((List.length x0) : Nat) : Int) then (20) else (((List.length x0) : Nat) : Int))) x0)))) : Nat) : Int)) 0 ((List.drop 0 (List.take (Int.toNat (if (20) < (((List.length x0) : Nat) : Int) then (20) else (((List.length x0) : Nat) : Int))) x0))))) = true) (c6 : decide (List.length (List.take (List.length ((List.drop 0 (List.take (Int.toNat (if (20) < (((List.length x0) : Nat) : Int) then (20) else (((List.length x0) : Nat) : Int))) x0)))) (List.drop 0 ((List.drop 0 (List.take (Int.toNat (if (20) < (((List.length x0) : Nat) : Int) then (20) else (((List.length x0) : Nat) : Int))) x0))))) ≤ 1000000) = true) (c7 : (decide (0 ≤ (((List.length ((List.drop 0 (List.take (Int.toNat (if (20) < (((List.length x0) : Nat) : Int) then (20) else (((List.length x0) : Nat) : Int))) x0)))) : Nat) : Int)) && decide ((((List.length ((List.drop 0 (List.take (Int.toNat (if (20) < (((List.length x0) : Nat) : Int) then (20) else (((List.length x0) : Nat) : Int))) x0)))) : Nat) : Int) ≤ (((List.length (sroomyG (List.take (List.length ((List.drop 0 (List.take (Int.toNat (if (20) < (((List.length x0) : Nat) : Int) then (20) else (((List.length x0) : Nat) : Int))) x0)))) (List.drop 0 ((List.drop 0 (List.take (Int.toNat (if (20) < (((List.length x0) : Nat) : Int) then (20) else (((List.length x0) : Nat) : Int))) x0))))) ((7), (0)))) : Nat) : Int))) = true) (c8 : decide (List.length (List.drop 0 (List.take (Int.toNat (((List.length ((List.drop 0 (List.take (Int.toNat (if (20) < (((List.length x0) : Nat) : Int) then (20) else (((List.length x0) : Nat) : Int))) x0)))) : Nat) : Int)) (sroomyG (List.take (List.length ((List.drop 0 (List.take (Int.toNat (if (20) < (((List.length x0) : Nat) : Int) then (20) else (((List.length x0) : Nat) : Int))) x0)))) (List.drop 0 ((List.drop 0 (List.take (Int.toNat (if (20) < (((List.length x0) : Nat) : Int) then (20) else (((List.length x0) : Nat) : Int))) x0))))) ((7), (0))))) ≤ 1000000) = true) (c9 : bytesOK (putG (List.drop 0 (List.take (Int.toNat (((List.length ((List.drop 0 (List.take (Int.toNat (if (20) < (((List.length x0) : Nat) : Int) then (20) else (((List.length x0) : Nat) : Int))) x0)))) : Nat) : Int)) (sroomyG (List.take (List.length ((List.drop 0 (List.take (Int.toNat (if (20) < (((List.length x0) : Nat) : Int) then (20) else (((List.length x0) : Nat) : Int))) x0)))) (List.drop 0 ((List.drop 0 (List.take (Int.toNat (if (20) < (((List.length x0) : Nat) : Int) then (20) else (((List.length x0) : Nat) : Int))) x0))))) ((7), (0)))))) = true) (c11 : decide (List.length (sroomyG (List.take (List.length ((List.drop 0 (List.take (Int.toNat (if (20) < (((List.length x0) : Nat) : Int) then (20) else (((List.length x0) : Nat) : Int))) x0)))) (List.drop 0 ((List.drop 0 (List.take (Int.toNat (if (20) < (((List.length x0) : Nat) : Int) then (20) else (((List.length x0) : Nat) : Int))) x0))))) ((7), (0))) ≤ 1000000 ∧ List.length (List.take (List.length ((List.drop 0 (List.take (Int.toNat (if (20) < (((List.length x0) : Nat) : Int) then (20) else (((List.length x0) : Nat) : Int))) x0)))) (List.drop 0 ((List.drop 0 (List.take (Int.toNat (if (20) < (((List.length x0) : Nat) : Int) then (20) else (((List.length x0) : Nat) : Int))) x0))))) ≤ 1000000) = true) (c12 : (sintactG (sroomyG (List.take (List.length ((List.drop 0 (List.take (Int.toNat (if (20) < (((List.length x0) : Nat) : Int) then (20) else (((List.length x0) : Nat) : Int))) x0)))) (List.drop 0 ((List.drop 0 (List.take (Int.toNat (if (20) < (((List.length x0) : Nat) : Int) then (20) else (((List.length x0) : Nat) : Int))) x0))))) ((7), (0))) (List.take (List.length ((List.drop 0 (List.take (Int.toNat (if (20) < (((List.length x0) : Nat) : Int) then (20) else (((List.length x0) : Nat) : Int))) x0)))) (List.drop 0 ((List.drop 0 (List.take (Int.toNat (if (20) < (((List.length x0) : Nat) : Int) then (20) else (((List.length x0) : Nat) : Int))) x0))))) ((7), (0))) = true) (c15 : (l4_1R m (m + 24) x3 x4 true ((((0 + (List.length (List.drop 0 (List.take (Int.toNat (if (20) < (((List.length x0) : Nat) : Int) then (20) else (((List.length x0) : Nat) : Int))) x0)))) : Nat) : Int)) 0 ((List.drop 0 (List.take (Int.toNat (if (20) < (((List.length x0) : Nat) : Int) then (20) else (((List.length x0) : Nat) : Int))) x0)))).2.1 = true) (c33 : decide (List.length (putG (List.drop 0 (List.take (Int.toNat (((List.length ((List.drop 0 (List.take (Int.toNat (if (20) < (((List.length x0) : Nat) : Int) then (20) else (((List.length x0) : Nat) : Int))) x0)))) : Nat) : Int)) (sroomyG (List.take (List.length ((List.drop 0 (List.take (Int.toNat (if (20) < (((List.length x0) : Nat) : Int) then (20) else (((List.length x0) : Nat) : Int))) x0)))) (List.drop 0 ((List.drop 0 (List.take (Int.toNat (if (20) < (((List.length x0) : Nat) : Int) then (20) else (((List.length x0) : Nat) : Int))) x0))))) ((7), (0)))))) < 4611686018427387904) = true) (c36 : ((show List (Int) from (putG (List.drop 0 (List.take (Int.toNat (((List.length ((List.drop 0 (List.take (Int.toNat (if (20) < (((List.length x0) : Nat) : Int) then (20) else (((List.length x0) : Nat) : Int))) x0)))) : Nat) : Int)) (sroomyG (List.take (List.length ((List.drop 0 (List.take (Int.toNat (if (20) < (((List.length x0) : Nat) : Int) then (20) else (((List.length x0) : Nat) : Int))) x0)))) (List.drop 0 ((List.drop 0 (List.take (Int.toNat (if (20) < (((List.length x0) : Nat) : Int) then (20) else (((List.length x0) : Nat) : Int))) x0))))) ((7), (0))))))) == (blockG (List.take (List.length ((List.drop 0 (List.take (Int.toNat (if (20) < (((List.length x0) : Nat) : Int) then (20) else (((List.length x0) : Nat) : Int))) x0)))) (List.drop 0 ((List.drop 0 (List.take (Int.toNat (if (20) < (((List.length x0) : Nat) : Int) then (20) else (((List.length x0) : Nat) : Int))) x0))))))) = true) (c41 : ¬ ((getG (putG (List.drop 0 (List.take (Int.toNat (((List.length ((List.drop 0 (List.take (Int.toNat (if (20) < (((List.length x0) : Nat) : Int) then (20) else (((List.length x0) : Nat) : Int))) x0)))) : Nat) : Int)) (sroomyG (List.take (List.length ((List.drop 0 (List.take (Int.toNat (if (20) < (((List.length x0) : Nat) : Int) then (20) else (((List.length x0) : Nat) : Int))) x0)))) (List.drop 0 ((List.drop 0 (List.take (Int.toNat (if (20) < (((List.length x0) : Nat) : Int) then (20) else (((List.length x0) : Nat) : Int))) x0))))) ((7), (0))))))).2 != (0)) = true) (c45 : decide (List.length (getG (putG (List.drop 0 (List.take (Int.toNat (((List.length ((List.drop 0 (List.take (Int.toNat (if (20) < (((List.length x0) : Nat) : Int) then (20) else (((List.length x0) : Nat) : Int))) x0)))) : Nat) : Int)) (sroomyG (List.take (List.length ((List.drop 0 (List.take (Int.toNat (if (20) < (((List.length x0) : Nat) : Int) then (20) else (((List.length x0) : Nat) : Int))) x0)))) (List.drop 0 ((List.drop 0 (List.take (Int.toNat (if (20) < (((List.length x0) : Nat) : Int) then (20) else (((List.length x0) : Nat) : Int))) x0))))) ((7), (0))))))).1 < 4611686018427387904) = true) (c52 : ((show List (Int × Int) from (getG (putG (List.drop 0 (List.take (Int.toNat (((List.length ((List.drop 0 (List.take (Int.toNat (if (20) < (((List.length x0) : Nat) : Int) then (20) else (((List.length x0) : Nat) : Int))) x0)))) : Nat) : Int)) (sroomyG (List.take (List.length ((List.drop 0 (List.take (Int.toNat (if (20) < (((List.length x0) : Nat) : Int) then (20) else (((List.length x0) : Nat) : Int))) x0)))) (List.drop 0 ((List.drop 0 (List.take (Int.toNat (if (20) < (((List.length x0) : Nat) : Int) then (20) else (((List.length x0) : Nat) : Int))) x0))))) ((7), (0))))))).1) == (List.take (List.length ((List.drop 0 (List.take (Int.toNat (if (20) < (((List.length x0) : Nat) : Int) then (20) else (((List.length x0) : Nat) : Int))) x0)))) (List.drop 0 ((List.drop 0 (List.take (Int.toNat (if (20) < (((List.length x0) : Nat) : Int) then (20) else (((List.length x0) : Nat) : Int))) x0)))))) = true) (c53 : inR x3 = true) (c54 : inR x4 = true) (c56 : decide ((((List.length (numG [x3])) + (List.length (List.take (List.length (numG [x4])) (List.drop 0 (numG [x4]))))) * 1) ≤ 70368744177664) = true) (c58 : decide ((0 + ((List.length (numG [x3])) + (List.length (List.take (List.length (numG [x4])) (List.drop 0 (numG [x4])))))) ≤ (List.length ((numG [x3]) ++ (List.take (List.length (numG [x4])) (List.drop 0 (numG [x4])))))) = true) (c59 : bytesOK (List.take ((List.length (numG [x3])) + (List.length (List.take (List.length (numG [x4])) (List.drop 0 (numG [x4]))))) (List.drop 0 ((numG [x3]) ++ (List.take (List.length (numG [x4])) (List.drop 0 (numG [x4])))))) = true) (c61 : (decide (0 ≤ (IntKind.wrap .i64 ((((List.length (numG [x3])) : Nat) : Int) - (1)))) && decide ((IntKind.wrap .i64 ((((List.length (numG [x3])) : Nat) : Int) - (1))) ≤ ((((List.length (numG [x3])) + (List.length (List.take (List.length (numG [x4])) (List.drop 0 (numG [x4]))))) : Nat) : Int))) = true) (c63 : decide ((0 + ((Int.toNat (IntKind.wrap .i64 ((((List.length (numG [x3])) : Nat) : Int) - (1)))) - 0)) ≤ (List.length ((numG [x3]) ++ (List.take (List.length (numG [x4])) (List.drop 0 (numG [x4])))))) = true) (c64 : bytesOK (List.take ((Int.toNat (IntKind.wrap .i64 ((((List.length (numG [x3])) : Nat) : Int) - (1)))) - 0) (List.drop 0 ((numG [x3]) ++ (List.take (List.length (numG [x4])) (List.drop 0 (numG [x4])))))) = true) (c66 : numPre [x3, x4] = true) (c69 : decide (List.length (List.take (List.length (numG [x3, x4])) (List.drop 0 (numG [x3, x4]))) < 4611686018427387904) = true) (c70 : ((show List (Int) from (List.take (List.length (numG [x3, x4])) (List.drop 0 (numG [x3, x4])))) == (List.take ((List.length (numG [x3])) + (List.length (List.take (List.length (numG [x4])) (List.drop 0 (numG [x4]))))) (List.drop 0 ((numG [x3]) ++ (List.take (List.length (numG [x4])) (List.drop 0 (numG [x4]))))))) = true) (c74 : ((nextG (List.take ((List.length (numG [x3])) + (List.length (List.take (List.length (numG [x4])) (List.drop 0 (numG [x4]))))) (List.drop 0 ((numG [x3]) ++ (List.take (List.length (numG [x4])) (List.drop 0 (numG [x4]))))))).1 == x3) = true) (c81 : ((nextG (List.take ((List.length (numG [x3])) + (List.length (List.take (List.length (numG [x4])) (List.drop 0 (numG [x4]))))) (List.drop 0 ((numG [x3]) ++ (List.take (List.length (numG [x4])) (List.drop 0 (numG [x4]))))))).2 == (((List.length (numG [x3])) : Nat) : Int)) = true) (c84 : ((nextG (List.take ((Int.toNat (IntKind.wrap .i64 ((((List.length (numG [x3])) : Nat) : Int) - (1)))) - 0) (List.drop 0 ((numG [x3]) ++ (List.take (List.length (numG [x4])) (List.drop 0 (numG [x4]))))))).2 == (0)) = true) : (evCall F S19 (m + 25) 4 [(.d (.sl (.pair (.int .i64) (.int .i64)) x0)), (.d (.sl (.int .i64) x1)), (.d (.bool (x2))), (.d (.int .i64 x3)), (.d (.int .i64 x4))] []).run = some (.d (.bool true), []) := by
  refine runT_ok (LS := (fun k => if k = 3940649673959448 then some (l4_1E x3 x4 ((l4_1R m (m + 24) x3 x4 true ((((0 + (List.length (List.drop 0 (List.take (Int.toNat (if (20) < (((List.length x0) : Nat) : Int) then (20) else (((List.length x0) : Nat) : Int))) x0)))) : Nat) : Int)) 0 ((List.drop 0 (List.take (Int.toNat (if (20) < (((List.length x0) : Nat) : Int) then (20) else (((List.length x0) : Nat) : Int))) x0)))).2.1) (((((0 + (List.length (List.drop 0 (List.take (Int.toNat (if (20) < (((List.length x0) : Nat) : Int) then (20) else (((List.length x0) : Nat) : Int))) x0)))) : Nat) : Int))) ((l4_1R m (m + 24) x3 x4 true ((((0 + (List.length (List.drop 0 (List.take (Int.toNat (if (20) < (((List.length x0) : Nat) : Int) then (20) else (((List.length x0) : Nat) : Int))) x0)))) : Nat) : Int)) 0 ((List.drop 0 (List.take (Int.toNat (if (20) < (((List.length x0) : Nat) : Int) then (20) else (((List.length x0) : Nat) : Int))) x0)))).2.2) (((List.drop 0 (List.take (Int.toNat (if (20) < (((List.length x0) : Nat) : Int) then (20) else (((List.length x0) : Nat) : Int))) x0)))) 0) else none)) (fn := fn4) (r := .d (.bool true)) (B' := []) (vis := [(3940649673959448, [.top, .top, .top, (.d (.int .i64 x3)), (.d (.int .i64 x4)), .top, .top, .top, .top, .top, .top, (.sr 0 0 (0 + (List.length (List.drop 0 (List.take (Int.toNat (if (20) < (((List.length x0) : Nat) : Int) then (20) else (((List.length x0) : Nat) : Int))) x0)))) 2 none), .top, (.d (.bool true)), .top, .top, .top, .top, .top, .top, .top, .top, .top, .top, .top, .top, .top, .top, .top, .top, .top, .top, .top, .top, .top, .top, .top, .top, .top, .top, .top, .top, .top, .top, .top, .top, .top, .top, .top, (.sr 0 0 (0 + (List.length (List.drop 0 (List.take (Int.toNat (if (20) < (((List.length x0) : Nat) : Int) then (20) else (((List.length x0) : Nat) : Int))) x0)))) 2 none), (.d (.int .i64 (((0 + (List.length (List.drop 0 (List.take (Int.toNat (if (20) < (((List.length x0) : Nat) : Int) then (20) else (((List.length x0) : Nat) : Int))) x0)))) : Nat) : Int))), (.d (.int .i64 (0))), .top, .top, .top, .top, .top, .top, .top, .top, .top, .top, .top, .top, .top, .top, .top, .top, .top, .top, .top, .top, .top, .top, .top, .top, .top, .top, .top, .top, .top, .top, .top, .top, .top, .top, .top, .top, .top, .top, .top, .top, .top, .top, .top, .top, .top, .top, .top, .top, .top, .top, .top, .top, .top, .top, .top, .top, .top, .top, .top, .top, .top, .top, .top, .top, .top, .top, .top, .top, .top, .top, .top, .top, .top, .top, .top, .top, .top, .top, .top, .top, .top, .top, .top, .top, .top, .top, .top, .top, .top, .top, .top, .top, .top, .top, .top, .top, .top, .top, .top, .top, .top, .top, .top, .top, .top, .top, .top, .top, .top, .top, .top, .top, .top, .top, .top, .top, .top, .top, .top, .top, .top, .top, .top, .top, .top, .top, .top, .top, .top, .top, .top, .top], [(.arr (.pair (.int .i64) (.int .i64)) (List.drop 0 (List.take (Int.toNat (if (20) < (((List.length x0) : Nat) : Int) then (20) else (((List.length x0) : Nat) : Int))) x0)) true)])]) (by kernel_rfl) rfl (by kernel_rfl) (M.run_of_path _ [true, true, true, false, true, true, true, true, true, true, true, false, false, false, false, false, false, false, false, false, false, false, false, false, false, false, true, true, true, true, true, true, true, true, true, false, false, true, false, true, false, false, false, true, true, false, true, false, false, true, false, false, true, true, true, true, true, true, true, true, true, true, true, true, true, true, true, true, true, true, true, true, true, true, true, true, true, true, true, true, true, true, true, true, true] _ _ (by kernel_rfl) (all_t c0 (all_t c1 (all_t rfl (all_f c3 (all_t (show decide ((0 + (List.length ((List.drop 0 (List.take (Int.toNat (if (20) < (((List.length x0) : Nat) : Int) then (20) else (((List.length x0) : Nat) : Int))) x0))))) ≤ (List.length ((List.drop 0 (List.take (Int.toNat (if (20) < (((List.length x0) : Nat) : Int) then (20) else (((List.length x0) : Nat) : Int))) x0))))) = true from decide_eq_true (Nat.le_of_eq (Nat.zero_add _))) (all_t c6 (all_t c7 (all_t c8 (all_t c9 (all_t (show decide ((0 + (List.length ((List.drop 0 (List.take (Int.toNat (if (20) < (((List.length x0) : Nat) : Int) then (20) else (((List.length x0) : Nat) : Int))) x0))))) ≤ (List.length ((List.drop 0 (List.take (Int.toNat (if (20) < (((List.length x0) : Nat) : Int) then (20) else (((List.length x0) : Nat) : Int))) x0))))) = true from decide_eq_true (Nat.le_of_eq (Nat.zero_add _))) (all_t c11 (all_nt c12 (all_nt c12 (all_nt c12 (all_nt c15 (all_nt c15 (all_nt c15 (all_nt c15 (all_nt c15 (all_nt c15 (all_nt c15 (all_nt c12 (all_nt c15 (all_nt c12 (all_f Bool.false_ne_true (all_f Bool.false_ne_true (all_t c15 (all_t c15 (all_t c15 (all_t (show decide ((0 + (List.length ((List.drop 0 (List.take (Int.toNat (if (20) < (((List.length x0) : Nat) : Int) then (20) else (((List.length x0) : Nat) : Int))) x0))))) ≤ (List.length ((List.drop 0 (List.take (Int.toNat (if (20) < (((List.length x0) : Nat) : Int) then (20) else (((List.length x0) : Nat) : Int))) x0))))) = true from decide_eq_true (Nat.le_of_eq (Nat.zero_add _))) (all_t c6 (all_t c15 (all_t c33 (all_t c15 (all_t c15 (all_nt c36 (all_nt c36 (all_t c15 (all_nt c36 (all_t c15 (all_f c41 (all_f c41 (all_f c41 (all_t (show decide ((0 + (List.length ((List.drop 0 (List.take (Int.toNat (if (20) < (((List.length x0) : Nat) : Int) then (20) else (((List.length x0) : Nat) : Int))) x0))))) ≤ (List.length ((List.drop 0 (List.take (Int.toNat (if (20) < (((List.length x0) : Nat) : Int) then (20) else (((List.length x0) : Nat) : Int))) x0))))) = true from decide_eq_true (Nat.le_of_eq (Nat.zero_add _))) (all_t c45 (all_f c41 (all_t c15 (all_f c41 (all_f Bool.false_ne_true (all_t c15 (all_f Bool.false_ne_true (all_nt c52 (all_t c53 (all_t c54 (all_t (show decide ((0 + (List.length (numG [x4]))) ≤ (List.length (numG [x4]))) = true from decide_eq_true (Nat.le_of_eq (Nat.zero_add _))) (all_t c56 (all_t (show decide ((List.length (numG [x3])) = (List.length (numG [x3]))) = true from decide_eq_true rfl) (all_t c58 (all_t c59 (all_t c53 (all_t c61 (all_t (show (decide (0 < ((List.length (numG [x3])) + (List.length (List.take (List.length (numG [x4])) (List.drop 0 (numG [x4])))))) || true) = true from Bool.or_true _) (all_t c63 (all_t c64 (all_t rfl (all_t c66 (all_t (show decide ((0 + (List.length (numG [x3, x4]))) ≤ (List.length (numG [x3, x4]))) = true from decide_eq_true (Nat.le_of_eq (Nat.zero_add _))) (all_t c58 (all_t c69 (all_t c70 (all_t c70 (all_t c70 (all_t c70 (all_t c74 (all_t c74 (all_t c74 (all_t c53 (all_t c74 (all_t c74 (all_t c74 (all_t c81 (all_t c81 (all_t c81 (all_t c84 (all_t c84 all_nil)))))))))))))))))))))))))))))))))))))))))))))))))))))))))))))))))))))))))))))))))))))) ?_
  intro p hp p2 hq
  rcases List.mem_cons.1 hp with rfl | hp
  · skip
    have h3 := l4_1_ok m (m + 24) x3 x4 true ((((0 + (List.length (List.drop 0 (List.take (Int.toNat (if (20) < (((List.length x0) : Nat) : Int) then (20) else (((List.length x0) : Nat) : Int))) x0)))) : Nat) : Int)) 0 ((List.drop 0 (List.take (Int.toNat (if (20) < (((List.length x0) : Nat) : Int) then (20) else (((List.length x0) : Nat) : Int))) x0))) _ (some_getD (d := l4_1D) c4)
    have h3 := turns_eq (e := [.top, .top, .top, (.d (.int .i64 x3)), (.d (.int .i64 x4)), .top, .top, .top, .top, .top, .top, (.sr 0 0 (0 + (List.length (List.drop 0 (List.take (Int.toNat (if (20) < (((List.length x0) : Nat) : Int) then (20) else (((List.length x0) : Nat) : Int))) x0)))) 2 none), .top, (.d (.bool true)), .top, .top, .top, .top, .top, .top, .top, .top, .top, .top, .top, .top, .top, .top, .top, .top, .top, .top, .top, .top, .top, .top, .top, .top, .top, .top, .top, .top, .top, .top, .top, .top, .top, .top, .top, (.sr 0 0 (0 + (List.length (List.drop 0 (List.take (Int.toNat (if (20) < (((List.length x0) : Nat) : Int) then (20) else (((List.length x0) : Nat) : Int))) x0)))) 2 none), (.d (.int .i64 (((0 + (List.length (List.drop 0 (List.take (Int.toNat (if (20) < (((List.length x0) : Nat) : Int) then (20) else (((List.length x0) : Nat) : Int))) x0)))) : Nat) : Int))), (.d (.int .i64 (0))), .top, .top, .top, .top, .top, .top, .top, .top, .top, .top, .top, .top, .top, .top, .top, .top, .top, .top, .top, .top, .top, .top, .top, .top, .top, .top, .top, .top, .top, .top, .top, .top, .top, .top, .top, .top, .top, .top, .top, .top, .top, .top, .top, .top, .top, .top, .top, .top, .top, .top, .top, .top, .top, .top, .top, .top, .top, .top, .top, .top, .top, .top, .top, .top, .top, .top, .top, .top, .top, .top, .top, .top, .top, .top, .top, .top, .top, .top, .top, .top, .top, .top, .top, .top, .top, .top, .top, .top, .top, .top, .top, .top, .top, .top, .top, .top, .top, .top, .top, .top, .top, .top, .top, .top, .top, .top, .top, .top, .top, .top, .top, .top, .top, .top, .top, .top, .top, .top, .top, .top, .top, .top, .top, .top, .top, .top, .top, .top, .top, .top, .top, .top]) (B := [(.arr (.pair (.int .i64) (.int .i64)) (List.drop 0 (List.take (Int.toNat (if (20) < (((List.length x0) : Nat) : Int) then (20) else (((List.length x0) : Nat) : Int))) x0)) true)]) (by unfold l4_1H; (try rw [show (0 + (List.length (List.drop 0 (List.take (Int.toNat (if (20) < (((List.length x0) : Nat) : Int) then (20) else (((List.length x0) : Nat) : Int))) x0)))) = (List.length (List.drop 0 (List.take (Int.toNat (if (20) < (((List.length x0) : Nat) : Int) then (20) else (((List.length x0) : Nat) : Int))) x0))) from by simp])) rfl h3
    exact Eq.trans (Eq.mp (by kernel_rfl) h3) hq
  cases hp

set_option maxHeartbeats 20000000 in
theorem btells_w3 (m : Nat) (x0 : List (Int × Int)) (x1 : List Int) (x2 : Bool) (x3 : Int) (x4 : Int) (c0 : (decide (0 ≤ (if (20) < (((List.length x0) : Nat) : Int) then (20) else (((List.length x0) : Nat) : Int))) && decide ((if (20) < (((List.length x0) : Nat) : Int) then (20) else (((List.length x0) : Nat) : Int)) ≤ (((List.length x0) : Nat) : Int))) = true) (c1 : decide (((0 + (List.length (List.drop 0 (List.take (Int.toNat (if (20) < (((List.length x0) : Nat) : Int) then (20) else (((List.length x0) : Nat) : Int))) x0)))) * 16) ≤ 70368744177664) = true) (c3 : ¬ x2 = true) (c4 : (Option.isSome (l4_1 m (m + 24) x3 x4 true ((((0 + (List.length (List.drop 0 (List.take (Int.toNat (if (20) < (((List.length x0) : Nat) : Int) then (20) else (((List.length x0) : Nat) : Int))) x0)))) : Nat) : Int)) 0 ((List.drop 0 (List.take (Int.toNat (if (20) < (((List.length x0) : Nat) : Int) then (20) else (((List.length x0) : Nat) : Int))) x0))))) = true) (c6 : decide (List.length (List.take (List.length ((List.drop 0 (List.take (Int.toNat (if (20) < (((List.length x0) : Nat) : Int) then (20) else (((List.length x0) : Nat) : Int))) x0)))) (List.drop 0 ((List.drop 0 (List.take (Int.toNat (if (20) < (((List.length x0) : Nat) : Int) then (20) else (((List.length x0) : Nat) : Int))) x0))))) ≤ 1000000) = true) (c7 : (decide (0 ≤ (((List.length ((List.drop 0 (List.take (Int.toNat (if (20) < (((List.length x0) : Nat) : Int) then (20) else (((List.length x0) : Nat) : Int))) x0)))) : Nat) : Int)) && decide ((((List.length ((List.drop 0 (List.take (Int.toNat (if (20) < (((List.length x0) : Nat) : Int) then (20) else (((List.length x0) : Nat) : Int))) x0)))) : Nat) : Int) ≤ (((List.length (sroomyG (List.take (List.length ((List.drop 0 (List.take (Int.toNat (if (20) < (((List.length x0) : Nat) : Int) then (20) else (((List.length x0) : Nat) : Int))) x0)))) (List.drop 0 ((List.drop 0 (List.take (Int.toNat (if (20) < (((List.length x0) : Nat) : Int) then (20) else (((List.length x0) : Nat) : Int))) x0))))) ((7), (0)))) : Nat) : Int))) = true) (c8 : decide (List.length (List.drop 0 (List.take (Int.toNat (((List.length ((List.drop 0 (List.take (Int.toNat (if (20) < (((List.length x0) : Nat) : Int) then (20) else (((List.length x0) : Nat) : Int))) x0)))) : Nat) : Int)) (sroomyG (List.take (List.length ((List.drop 0 (List.take (Int.toNat (if (20) < (((List.length x0) : Nat) : Int) then (20) else (((List.length x0) : Nat) : Int))) x0)))) (List.drop 0 ((List.drop 0 (List.take (Int.toNat (if (20) < (((List.length x0) : Nat) : Int) then (20) else (((List.length x0) : Nat) : Int))) x0))))) ((7), (0))))) ≤ 1000000) = true) (c9 : bytesOK (putG (List.drop 0 (List.take (Int.toNat (((List.length ((List.drop 0 (List.take (Int.toNat (if (20) < (((List.length x0) : Nat) : Int) then (20) else (((List.length x0) : Nat) : Int))) x0)))) : Nat) : Int)) (sroomyG (List.take (List.length ((List.drop 0 (List.take (Int.toNat (if (20) < (((List.length x0) : Nat) : Int) then (20) else (((List.length x0) : Nat) : Int))) x0)))) (List.drop 0 ((List.drop 0 (List.take (Int.toNat (if (20) < (((List.length x0) : Nat) : Int) then (20) else (((List.length x0) : Nat) : Int))) x0))))) ((7), (0)))))) = true) (c11 : decide (List.length (sroomyG (List.take (List.length ((List.drop 0 (List.take (Int.toNat (if (20) < (((List.length x0) : Nat) : Int) then (20) else (((List.length x0) : Nat) : Int))) x0)))) (List.drop 0 ((List.drop 0 (List.take (Int.toNat (if (20) < (((List.length x0) : Nat) : Int) then (20) else (((List.length x0) : Nat) : Int))) x0))))) ((7), (0))) ≤ 1000000 ∧ List.length (List.take (List.length ((List.drop 0 (List.take (Int.toNat (if (20) < (((List.length x0) : Nat) : Int) then (20) else (((List.length x0) : Nat) : Int))) x0)))) (List.drop 0 ((List.drop 0 (List.take (Int.toNat (if (20) < (((List.length x0) : Nat) : Int) then (20) else (((List.length x0) : Nat) : Int))) x0))))) ≤ 1000000) = true) (c12 : (sintactG (sroomyG (List.take (List.length ((List.drop 0 (List.take (Int.toNat (if (20) < (((List.length x0) : Nat) : Int) then (20) else (((List.length x0) : Nat) : Int))) x0)))) (List.drop 0 ((List.drop 0 (List.take (Int.toNat (if (20) < (((List.length x0) : Nat) : Int) then (20) else (((List.length x0) : Nat) : Int))) x0))))) ((7), (0))) (List.take (List.length ((List.drop 0 (List.take (Int.toNat (if (20) < (((List.length x0) : Nat) : Int) then (20) else (((List.length x0) : Nat) : Int))) x0)))) (List.drop 0 ((List.drop 0 (List.take (Int.toNat (if (20) < (((List.length x0) : Nat) : Int) then (20) else (((List.length x0) : Nat) : Int))) x0))))) ((7), (0))) = true) (c15 : ¬ (l4_1R m (m + 24) x3 x4 true ((((0 + (List.length (List.drop 0 (List.take (Int.toNat (if (20) < (((List.length x0) : Nat) : Int) then (20) else (((List.length x0) : Nat) : Int))) x0)))) : Nat) : Int)) 0 ((List.drop 0 (List.take (Int.toNat (if (20) < (((List.length x0) : Nat) : Int) then (20) else (((List.length x0) : Nat) : Int))) x0)))).2.1 = true) (c19 : ¬ ((((List.length (putG (List.drop 0 (List.take (Int.toNat (((List.length ((List.drop 0 (List.take (Int.toNat (if (20) < (((List.length x0) : Nat) : Int) then (20) else (((List.length x0) : Nat) : Int))) x0)))) : Nat) : Int)) (sroomyG (List.take (List.length ((List.drop 0 (List.take (Int.toNat (if (20) < (((List.length x0) : Nat) : Int) then (20) else (((List.length x0) : Nat) : Int))) x0)))) (List.drop 0 ((List.drop 0 (List.take (Int.toNat (if (20) < (((List.length x0) : Nat) : Int) then (20) else (((List.length x0) : Nat) : Int))) x0))))) ((7), (0))))))) : Nat) : Int) != (0)) = true) (c24 : ¬ ((getG (putG (List.drop 0 (List.take (Int.toNat (((List.length ((List.drop 0 (List.take (Int.toNat (if (20) < (((List.length x0) : Nat) : Int) then (20) else (((List.length x0) : Nat) : Int))) x0)))) : Nat) : Int)) (sroomyG (List.take (List.length ((List.drop 0 (List.take (Int.toNat (if (20) < (((List.length x0) : Nat) : Int) then (20) else (((List.length x0) : Nat) : Int))) x0)))) (List.drop 0 ((List.drop 0 (List.take (Int.toNat (if (20) < (((List.length x0) : Nat) : Int) then (20) else (((List.length x0) : Nat) : Int))) x0))))) ((7), (0))))))).2 != (1)) = true) (c32 : ¬ ((((List.length (getG (putG (List.drop 0 (List.take (Int.toNat (((List.length ((List.drop 0 (List.take (Int.toNat (if (20) < (((List.length x0) : Nat) : Int) then (20) else (((List.length x0) : Nat) : Int))) x0)))) : Nat) : Int)) (sroomyG (List.take (List.length ((List.drop 0 (List.take (Int.toNat (if (20) < (((List.length x0) : Nat) : Int) then (20) else (((List.length x0) : Nat) : Int))) x0)))) (List.drop 0 ((List.drop 0 (List.take (Int.toNat (if (20) < (((List.length x0) : Nat) : Int) then (20) else (((List.length x0) : Nat) : Int))) x0))))) ((7), (0))))))).1) : Nat) : Int) != (0)) = true) (c47 : inR x3 = true) (c48 : inR x4 = true) (c50 : decide ((((List.length (numG [x3])) + (List.length (List.take (List.length (numG [x4])) (List.drop 0 (numG [x4]))))) * 1) ≤ 70368744177664) = true) (c52 : decide ((0 + ((List.length (numG [x3])) + (List.length (List.take (List.length (numG [x4])) (List.drop 0 (numG [x4])))))) ≤ (List.length ((numG [x3]) ++ (List.take (List.length (numG [x4])) (List.drop 0 (numG [x4])))))) = true) (c53 : bytesOK (List.take ((List.length (numG [x3])) + (List.length (List.take (List.length (numG [x4])) (List.drop 0 (numG [x4]))))) (List.drop 0 ((numG [x3]) ++ (List.take (List.length (numG [x4])) (List.drop 0 (numG [x4])))))) = true) (c55 : (decide (0 ≤ (IntKind.wrap .i64 ((((List.length (numG [x3])) : Nat) : Int) - (1)))) && decide ((IntKind.wrap .i64 ((((List.length (numG [x3])) : Nat) : Int) - (1))) ≤ ((((List.length (numG [x3])) + (List.length (List.take (List.length (numG [x4])) (List.drop 0 (numG [x4]))))) : Nat) : Int))) = true) (c57 : decide ((0 + ((Int.toNat (IntKind.wrap .i64 ((((List.length (numG [x3])) : Nat) : Int) - (1)))) - 0)) ≤ (List.length ((numG [x3]) ++ (List.take (List.length (numG [x4])) (List.drop 0 (numG [x4])))))) = true) (c58 : bytesOK (List.take ((Int.toNat (IntKind.wrap .i64 ((((List.length (numG [x3])) : Nat) : Int) - (1)))) - 0) (List.drop 0 ((numG [x3]) ++ (List.take (List.length (numG [x4])) (List.drop 0 (numG [x4])))))) = true) (c60 : numPre [x3, x4] = true) (c63 : decide (List.length (List.take (List.length (numG [x3, x4])) (List.drop 0 (numG [x3, x4]))) < 4611686018427387904) = true) (c64 : ((show List (Int) from (List.take (List.length (numG [x3, x4])) (List.drop 0 (numG [x3, x4])))) == (List.take ((List.length (numG [x3])) + (List.length (List.take (List.length (numG [x4])) (List.drop 0 (numG [x4]))))) (List.drop 0 ((numG [x3]) ++ (List.take (List.length (numG [x4])) (List.drop 0 (numG [x4]))))))) = true) (c68 : ((nextG (List.take ((List.length (numG [x3])) + (List.length (List.take (List.length (numG [x4])) (List.drop 0 (numG [x4]))))) (List.drop 0 ((numG [x3]) ++ (List.take (List.length (numG [x4])) (List.drop 0 (numG [x4]))))))).1 == x3) = true) (c75 : ((nextG (List.take ((List.length (numG [x3])) + (List.length (List.take (List.length (numG [x4])) (List.drop 0 (numG [x4]))))) (List.drop 0 ((numG [x3]) ++ (List.take (List.length (numG [x4])) (List.drop 0 (numG [x4]))))))).2 == (((List.length (numG [x3])) : Nat) : Int)) = true) (c78 : ((nextG (List.take ((Int.toNat (IntKind.wrap .i64 ((((List.length (numG [x3])) : Nat) : Int) - (1)))) - 0) (List.drop 0 ((numG [x3]) ++ (List.take (List.length (numG [x4])) (List.drop 0 (numG [x4]))))))).2 == (0)) = true) : (evCall F S19 (m + 25) 4 [(.d (.sl (.pair (.int .i64) (.int .i64)) x0)), (.d (.sl (.int .i64) x1)), (.d (.bool (x2))), (.d (.int .i64 x3)), (.d (.int .i64 x4))] []).run = some (.d (.bool true), []) := by
  refine runT_ok (LS := (fun k => if k = 3940649673959448 then some (l4_1E x3 x4 ((l4_1R m (m + 24) x3 x4 true ((((0 + (List.length (List.drop 0 (List.take (Int.toNat (if (20) < (((List.length x0) : Nat) : Int) then (20) else (((List.length x0) : Nat) : Int))) x0)))) : Nat) : Int)) 0 ((List.drop 0 (List.take (Int.toNat (if (20) < (((List.length x0) : Nat) : Int) then (20) else (((List.length x0) : Nat) : Int))) x0)))).2.1) (((((0 + (List.length (List.drop 0 (List.take (Int.toNat (if (20) < (((List.length x0) : Nat) : Int) then (20) else (((List.length x0) : Nat) : Int))) x0)))) : Nat) : Int))) ((l4_1R m (m + 24) x3 x4 true ((((0 + (List.length (List.drop 0 (List.take (Int.toNat (if (20) < (((List.length x0) : Nat) : Int) then (20) else (((List.length x0) : Nat) : Int))) x0)))) : Nat) : Int)) 0 ((List.drop 0 (List.take (Int.toNat (if (20) < (((List.length x0) : Nat) : Int) then (20) else (((List.length x0) : Nat) : Int))) x0)))).2.2) (((List.drop 0 (List.take (Int.toNat (if (20) < (((List.length x0) : Nat) : Int) then (20) else (((List.length x0) : Nat) : Int))) x0)))) 0) else none)) (fn := fn4) (r := .d (.bool true)) (B' := []) (vis := [(3940649673959448, [.top, .top, .top, (.d (.int .i64 x3)), (.d (.int .i64 x4)), .top, .top, .top, .top, .top, .top, (.sr 0 0 (0 + (List.length (List.drop 0 (List.take (Int.toNat (if (20) < (((List.length x0) : Nat) : Int) then (20) else (((List.length x0) : Nat) : Int))) x0)))) 2 none), .top, (.d (.bool true)), .top, .top, .top, .top, .top, .top, .top, .top, .top, .top, .top, .top, .top, .top, .top, .top, .top, .top, .top, .top, .top, .top, .top, .top, .top, .top, .top, .top, .top, .top, .top, .top, .top, .top, .top, (.sr 0 0 (0 + (List.length (List.drop 0 (List.take (Int.toNat (if (20) < (((List.length x0) : Nat) : Int) then (20) else (((List.length x0) : Nat) : Int))) x0)))) 2 none), (.d (.int .i64 (((0 + (List.length (List.drop 0 (List.take (Int.toNat (if (20) < (((List.length x0) : Nat) : Int) then (20) else (((List.length x0) : Nat) : Int))) x0)))) : Nat) : Int))), (.d (.int .i64 (0))), .top, .top, .top, .top, .top, .top, .top, .top, .top, .top, .top, .top, .top, .top, .top, .top, .top, .top, .top, .top, .top, .top, .top, .top, .top, .top, .top, .top, .top, .top, .top, .top, .top, .top, .top, .top, .top, .top, .top, .top, .top, .top, .top, .top, .top, .top, .top, .top, .top, .top, .top, .top, .top, .top, .top, .top, .top, .top, .top, .top, .top, .top, .top, .top, .top, .top, .top, .top, .top, .top, .top, .top, .top, .top, .top, .top, .top, .top, .top, .top, .top, .top, .top, .top, .top, .top, .top, .top, .top, .top, .top, .top, .top, .top, .top, .top, .top, .top, .top, .top, .top, .top, .top, .top, .top, .top, .top, .top, .top, .top, .top, .top, .top, .top, .top, .top, .top, .top, .top, .top, .top, .top, .top, .top, .top, .top, .top, .top, .top, .top, .top, .top], [(.arr (.pair (.int .i64) (.int .i64)) (List.drop 0 (List.take (Int.toNat (if (20) < (((List.length x0) : Nat) : Int) then (20) else (((List.length x0) : Nat) : Int))) x0)) true)])]) (by kernel_rfl) rfl (by kernel_rfl) (M.run_of_path _ [true, true, true, false, true, true, true, true, true, true, true, false, false, false, true, true, true, true, false, false, true, false, true, false, false, false, true, false, false, true, false, false, false, false, false, false, false, false, false, false, false, false, false, false, false, false, true, true, true, true, true, true, true, true, true, true, true, true, true, true, true, true, true, true, true, true, true, true, true, true, true, true, true, true, true, true, true, true, true] _ _ (by kernel_rfl) (all_t c0 (all_t c1 (all_t rfl (all_f c3 (all_t (show decide ((0 + (List.length ((List.drop 0 (List.take (Int.toNat (if (20) < (((List.length x0) : Nat) : Int) then (20) else (((List.length x0) : Nat) : Int))) x0))))) ≤ (List.length ((List.drop 0 (List.take (Int.toNat (if (20) < (((List.length x0) : Nat) : Int) then (20) else (((List.length x0) : Nat) : Int))) x0))))) = true from decide_eq_true (Nat.le_of_eq (Nat.zero_add _))) (all_t c6 (all_t c7 (all_t c8 (all_t c9 (all_t (show decide ((0 + (List.length ((List.drop 0 (List.take (Int.toNat (if (20) < (((List.length x0) : Nat) : Int) then (20) else (((List.length x0) : Nat) : Int))) x0))))) ≤ (List.length ((List.drop 0 (List.take (Int.toNat (if (20) < (((List.length x0) : Nat) : Int) then (20) else (((List.length x0) : Nat) : Int))) x0))))) = true from decide_eq_true (Nat.le_of_eq (Nat.zero_add _))) (all_t c11 (all_nt c12 (all_nt c12 (all_nt c12 (all_nf c15 (all_nf c15 (all_nf c15 (all_nf c15 (all_f c19 (all_f c19 (all_nf c15 (all_f c19 (all_nf c15 (all_f c24 (all_f c24 (all_f c24 (all_nf c15 (all_f c24 (all_nt c12 (all_nf c15 (all_nt c12 (all_f c32 (all_f c32 (all_f c15 (all_f c15 (all_f c15 (all_f c15 (all_f c15 (all_f c15 (all_f c15 (all_f c15 (all_f c15 (all_f c32 (all_f c15 (all_f c32 (all_f Bool.false_ne_true (all_t c47 (all_t c48 (all_t (show decide ((0 + (List.length (numG [x4]))) ≤ (List.length (numG [x4]))) = true from decide_eq_true (Nat.le_of_eq (Nat.zero_add _))) (all_t c50 (all_t (show decide ((List.length (numG [x3])) = (List.length (numG [x3]))) = true from decide_eq_true rfl) (all_t c52 (all_t c53 (all_t c47 (all_t c55 (all_t (show (decide (0 < ((List.length (numG [x3])) + (List.length (List.take (List.length (numG [x4])) (List.drop 0 (numG [x4])))))) || true) = true from Bool.or_true _) (all_t c57 (all_t c58 (all_t rfl (all_t c60 (all_t (show decide ((0 + (List.length (numG [x3, x4]))) ≤ (List.length (numG [x3, x4]))) = true from decide_eq_true (Nat.le_of_eq (Nat.zero_add _))) (all_t c52 (all_t c63 (all_t c64 (all_t c64 (all_t c64 (all_t c64 (all_t c68 (all_t c68 (all_t c68 (all_t c47 (all_t c68 (all_t c68 (all_t c68 (all_t c75 (all_t c75 (all_t c75 (all_t c78 (all_t c78 all_nil)))))))))))))))))))))))))))))))))))))))))))))))))))))))))))))))))))))))))))))))) ?_
  intro p hp p2 hq
  rcases List.mem_cons.1 hp with rfl | hp
  · skip
    have h3 := l4_1_ok m (m + 24) x3 x4 true ((((0 + (List.length (List.drop 0 (List.take (Int.toNat (if (20) < (((List.length x0) : Nat) : Int) then (20) else (((List.length x0) : Nat) : Int))) x0)))) : Nat) : Int)) 0 ((List.drop 0 (List.take (Int.toNat (if (20) < (((List.length x0) : Nat) : Int) then (20) else (((List.length x0) : Nat) : Int))) x0))) _ (some_getD (d := l4_1D) c4)
    have h3 := turns_eq (e := [.top, .top, .top, (.d (.int .i64 x3)), (.d (.int .i64 x4)), .top, .top, .top, .top, .top, .top, (.sr 0 0 (0 + (List.length (List.drop 0 (List.take (Int.toNat (if (20) < (((List.length x0) : Nat) : Int) then (20) else (((List.length x0) : Nat) : Int))) x0)))) 2 none), .top, (.d (.bool true)), .top, .top, .top, .top, .top, .top, .top, .top, .top, .top, .top, .top, .top, .top, .top, .top, .top, .top, .top, .top, .top, .top, .top, .top, .top, .top, .top, .top, .top, .top, .top, .top, .top, .top, .top, (.sr 0 0 (0 + (List.length (List.drop 0 (List.take (Int.toNat (if (20) < (((List.length x0) : Nat) : Int) then (20) else (((List.length x0) : Nat) : Int))) x0)))) 2 none), (.d (.int .i64 (((0 + (List.length (List.drop 0 (List.take (Int.toNat (if (20) < (((List.length x0) : Nat) : Int) then (20) else (((List.length x0) : Nat) : Int))) x0)))) : Nat) : Int))), (.d (.int .i64 (0))), .top, .top, .top, .top, .top, .top, .top, .top, .top, .top, .top, .top, .top, .top, .top, .top, .top, .top, .top, .top, .top, .top, .top, .top, .top, .top, .top, .top, .top, .top, .top, .top, .top, .top, .top, .top, .top, .top, .top, .top, .top, .top, .top, .top, .top, .top, .top, .top, .top, .top, .top, .top, .top, .top, .top, .top, .top, .top, .top, .top, .top, .top, .top, .top, .top, .top, .top, .top, .top, .top, .top, .top, .top, .top, .top, .top, .top, .top, .top, .top, .top, .top, .top, .top, .top, .top, .top, .top, .top, .top, .top, .top, .top, .top, .top, .top, .top, .top, .top, .top, .top, .top, .top, .top, .top, .top, .top, .top, .top, .top, .top, .top, .top, .top, .top, .top, .top, .top, .top, .top, .top, .top, .top, .top, .top, .top, .top, .top, .top, .top, .top, .top]) (B := [(.arr (.pair (.int .i64) (.int .i64)) (List.drop 0 (List.take (Int.toNat (if (20) < (((List.length x0) : Nat) : Int) then (20) else (((List.length x0) : Nat) : Int))) x0)) true)]) (by unfold l4_1H; (try rw [show (0 + (List.length (List.drop 0 (List.take (Int.toNat (if (20) < (((List.length x0) : Nat) : Int) then (20) else (((List.length x0) : Nat) : Int))) x0)))) = (List.length (List.drop 0 (List.take (Int.toNat (if (20) < (((List.length x0) : Nat) : Int) then (20) else (((List.length x0) : Nat) : Int))) x0))) from by simp])) rfl h3
    exact Eq.trans (Eq.mp (by kernel_rfl) h3) hq
  cases hp

set_option maxHeartbeats 20000000 in
theorem btells_ok (m : Nat) (x0 : List (Int × Int)) (x1 : List Int) (x2 : Bool) (x3 : Int) (x4 : Int) (q : Unit) (h : btells m x0 x1 x2 x3 x4 = some q) : (evCall F S19 (m + 25) 4 [(.d (.sl (.pair (.int .i64) (.int .i64)) x0)), (.d (.sl (.int .i64) x1)), (.d (.bool (x2))), (.d (.int .i64 x3)), (.d (.int .i64 x4))] []).run = some (.d (.bool true), []) := by
  unfold btells at h
  refine ite_cases h (fun c0 h => ?_) (fun c0 h => ?_)
  · skip
    refine ite_cases h (fun c1 h => ?_) (fun c1 h => ?_)
    · skip
      refine ite_cases h (fun c3 h => ?_) (fun c3 h => ?_)
      · skip
        refine ite_cases h (fun c5 h => ?_) (fun c5 h => ?_)
        · skip
          refine ite_cases h (fun c6 h => ?_) (fun c6 h => ?_)
          · skip
            refine ite_cases h (fun c8 h => ?_) (fun c8 h => ?_)
            · skip
              refine ite_cases h (fun c9 h => ?_) (fun c9 h => ?_)
              · skip
                refine ite_cases h (fun c10 h => ?_) (fun c10 h => ?_)
                · skip
                  refine ite_cases h (fun c11 h => ?_) (fun c11 h => ?_)
                  · skip
                    refine ite_cases h (fun c13 h => ?_) (fun c13 h => ?_)
                    · skip
                      refine ite_cases h (fun c14 h => ?_) (fun c14 h => ?_)
                      · skip
                        refine ite_cases h (fun c17 h => ?_) (fun c17 h => ?_)
                        · skip
                          refine ite_cases h (fun c35 h => ?_) (fun c35 h => ?_)
                          · skip
                            refine ite_cases h (fun c38 h => ?_) (fun c38 h => ?_)
                            · skip
                              refine ite_cases h (fun c43 h => ?_) (fun c43 h => ?_)
                              · skip
                                cases h
                              · skip
                                refine ite_cases h (fun c47 h => ?_) (fun c47 h => ?_)
                                · skip
                                  refine ite_cases h (fun c54 h => ?_) (fun c54 h => ?_)
                                  · skip
                                    refine ite_cases h (fun c55 h => ?_) (fun c55 h => ?_)
                                    · skip
                                      refine ite_cases h (fun c56 h => ?_) (fun c56 h => ?_)
                                      · skip
                                        refine ite_cases h (fun c58 h => ?_) (fun c58 h => ?_)
                                        · skip
                                          refine ite_cases h (fun c60 h => ?_) (fun c60 h => ?_)
                                          · skip
                                            refine ite_cases h (fun c61 h => ?_) (fun c61 h => ?_)
                                            · skip
                                              refine ite_cases h (fun c63 h => ?_) (fun c63 h => ?_)
                                              · skip
                                                refine ite_cases h (fun c65 h => ?_) (fun c65 h => ?_)
                                                · skip
                                                  refine ite_cases h (fun c66 h => ?_) (fun c66 h => ?_)
                                                  · skip
                                                    refine ite_cases h (fun c68 h => ?_) (fun c68 h => ?_)
                                                    · skip
                                                      refine ite_cases h (fun c71 h => ?_) (fun c71 h => ?_)
                                                      · skip
                                                        refine ite_cases h (fun c72 h => ?_) (fun c72 h => ?_)
                                                        · skip
                                                          refine ite_cases h (fun c76 h => ?_) (fun c76 h => ?_)
                                                          · skip
                                                            refine ite_cases h (fun c83 h => ?_) (fun c83 h => ?_)
                                                            · skip
                                                              refine ite_cases h (fun c86 h => ?_) (fun c86 h => ?_)
                                                              · skip
                                                                cases h
                                                                exact btells_w0 m x0 x1 x2 x3 x4 c0 c1 c3 c5 c6 c8 c9 c10 c11 c13 c14 c17 c35 c38 c43 c47 c54 c55 c56 c58 c60 c61 c63 c65 c66 c68 c71 c72 c76 c83 c86
                                                              · skip
                                                                cases h
                                                            · skip
                                                              cases h
                                                          · skip
                                                            cases h
                                                        · skip
                                                          cases h
                                                      · skip
                                                        cases h
                                                    · skip
                                                      cases h
                                                  · skip
                                                    cases h
                                                · skip
                                                  cases h
                                              · skip
                                                cases h
                                            · skip
                                              cases h
                                          · skip
                                            cases h
                                        · skip
                                          cases h
                                      · skip
                                        cases h
                                    · skip
                                      cases h
                                  · skip
                                    cases h
                                · skip
                                  cases h
                            · skip
                              cases h
                          · skip
                            cases h
                        · skip
                          refine ite_cases h (fun c21 h => ?_) (fun c21 h => ?_)
                          · skip
                            cases h
                          · skip
                            refine ite_cases h (fun c26 h => ?_) (fun c26 h => ?_)
                            · skip
                              cases h
                            · skip
                              refine ite_cases h (fun c34 h => ?_) (fun c34 h => ?_)
                              · skip
                                cases h
                              · skip
                                refine ite_cases h (fun c49 h => ?_) (fun c49 h => ?_)
                                · skip
                                  refine ite_cases h (fun c50 h => ?_) (fun c50 h => ?_)
                                  · skip
                                    refine ite_cases h (fun c52 h => ?_) (fun c52 h => ?_)
                                    · skip
                                      refine ite_cases h (fun c54 h => ?_) (fun c54 h => ?_)
                                      · skip
                                        refine ite_cases h (fun c55 h => ?_) (fun c55 h => ?_)
                                        · skip
                                          refine ite_cases h (fun c57 h => ?_) (fun c57 h => ?_)
                                          · skip
                                            refine ite_cases h (fun c59 h => ?_) (fun c59 h => ?_)
                                            · skip
                                              refine ite_cases h (fun c60 h => ?_) (fun c60 h => ?_)
                                              · skip
                                                refine ite_cases h (fun c62 h => ?_) (fun c62 h => ?_)
                                                · skip
                                                  refine ite_cases h (fun c65 h => ?_) (fun c65 h => ?_)
                                                  · skip
                                                    refine ite_cases h (fun c66 h => ?_) (fun c66 h => ?_)
                                                    · skip
                                                      refine ite_cases h (fun c70 h => ?_) (fun c70 h => ?_)
                                                      · skip
                                                        refine ite_cases h (fun c77 h => ?_) (fun c77 h => ?_)
                                                        · skip
                                                          refine ite_cases h (fun c80 h => ?_) (fun c80 h => ?_)
                                                          · skip
                                                            cases h
                                                            exact btells_w1 m x0 x1 x2 x3 x4 c0 c1 c3 c5 c6 c8 c9 c10 c11 c13 c14 c17 c21 c26 c34 c49 c50 c52 c54 c55 c57 c59 c60 c62 c65 c66 c70 c77 c80
                                                          · skip
                                                            cases h
                                                        · skip
                                                          cases h
                                                      · skip
                                                        cases h
                                                    · skip
                                                      cases h
                                                  · skip
                                                    cases h
                                                · skip
                                                  cases h
                                              · skip
                                                cases h
                                            · skip
                                              cases h
                                          · skip
                                            cases h
                                        · skip
                                          cases h
                                      · skip
                                        cases h
                                    · skip
                                      cases h
                                  · skip
                                    cases h
                                · skip
                                  cases h
                      · skip
                        cases h
                    · skip
                      cases h
                  · skip
                    cases h
                · skip
                  cases h
              · skip
                cases h
            · skip
              cases h
          · skip
            cases h
        · skip
          cases h
      · skip
        refine ite_cases h (fun c4 h => ?_) (fun c4 h => ?_)
        · skip
          refine ite_cases h (fun c6 h => ?_) (fun c6 h => ?_)
          · skip
            refine ite_cases h (fun c7 h => ?_) (fun c7 h => ?_)
            · skip
              refine ite_cases h (fun c8 h => ?_) (fun c8 h => ?_)
              · skip
                refine ite_cases h (fun c9 h => ?_) (fun c9 h => ?_)
                · skip
                  refine ite_cases h (fun c11 h => ?_) (fun c11 h => ?_)
                  · skip
                    refine ite_cases h (fun c12 h => ?_) (fun c12 h => ?_)
                    · skip
                      refine ite_cases h (fun c15 h => ?_) (fun c15 h => ?_)
                      · skip
                        refine ite_cases h (fun c33 h => ?_) (fun c33 h => ?_)
                        · skip
                          refine ite_cases h (fun c36 h => ?_) (fun c36 h => ?_)
                          · skip
                            refine ite_cases h (fun c41 h => ?_) (fun c41 h => ?_)
                            · skip
                              cases h
                            · skip
                              refine ite_cases h (fun c45 h => ?_) (fun c45 h => ?_)
                              · skip
                                refine ite_cases h (fun c52 h => ?_) (fun c52 h => ?_)
                                · skip
                                  refine ite_cases h (fun c53 h => ?_) (fun c53 h => ?_)
                                  · skip
                                    refine ite_cases h (fun c54 h => ?_) (fun c54 h => ?_)
                                    · skip
                                      refine ite_cases h (fun c56 h => ?_) (fun c56 h => ?_)
                                      · skip
                                        refine ite_cases h (fun c58 h => ?_) (fun c58 h => ?_)
                                        · skip
                                          refine ite_cases h (fun c59 h => ?_) (fun c59 h => ?_)
                                          · skip
                                            refine ite_cases h (fun c61 h => ?_) (fun c61 h => ?_)
                                            · skip
                                              refine ite_cases h (fun c63 h => ?_) (fun c63 h => ?_)
                                              · skip
                                                refine ite_cases h (fun c64 h => ?_) (fun c64 h => ?_)
                                                · skip
                                                  refine ite_cases h (fun c66 h => ?_) (fun c66 h => ?_)
                                                  · skip
                                                    refine ite_cases h (fun c69 h => ?_) (fun c69 h => ?_)
                                                    · skip
                                                      refine ite_cases h (fun c70 h => ?_) (fun c70 h => ?_)
                                                      · skip
                                                        refine ite_cases h (fun c74 h => ?_) (fun c74 h => ?_)
                                                        · skip
                                                          refine ite_cases h (fun c81 h => ?_) (fun c81 h => ?_)
                                                          · skip
                                                            refine ite_cases h (fun c84 h => ?_) (fun c84 h => ?_)
                                                            · skip
                                                              cases h
                                                              exact btells_w2 m x0 x1 x2 x3 x4 c0 c1 c3 c4 c6 c7 c8 c9 c11 c12 c15 c33 c36 c41 c45 c52 c53 c54 c56 c58 c59 c61 c63 c64 c66 c69 c70 c74 c81 c84
                                                            · skip
                                                              cases h
                                                          · skip
                                                            cases h
                                                        · skip
                                                          cases h
                                                      · skip
                                                        cases h
                                                    · skip
                                                      cases h
                                                  · skip
                                                    cases h
                                                · skip
                                                  cases h
                                              · skip
                                                cases h
                                            · skip
                                              cases h
                                          · skip
                                            cases h
                                        · skip
                                          cases h
                                      · skip
                                        cases h
                                    · skip
                                      cases h
                                  · skip
                                    cases h
                                · skip
                                  cases h
                              · skip
                                cases h
                          · skip
                            cases h
                        · skip
                          cases h
                      · skip
                        refine ite_cases h (fun c19 h => ?_) (fun c19 h => ?_)
                        · skip
                          cases h
                        · skip
                          refine ite_cases h (fun c24 h => ?_) (fun c24 h => ?_)
                          · skip
                            cases h
                          · skip
                            refine ite_cases h (fun c32 h => ?_) (fun c32 h => ?_)
                            · skip
                              cases h
                            · skip
                              refine ite_cases h (fun c47 h => ?_) (fun c47 h => ?_)
                              · skip
                                refine ite_cases h (fun c48 h => ?_) (fun c48 h => ?_)
                                · skip
                                  refine ite_cases h (fun c50 h => ?_) (fun c50 h => ?_)
                                  · skip
                                    refine ite_cases h (fun c52 h => ?_) (fun c52 h => ?_)
                                    · skip
                                      refine ite_cases h (fun c53 h => ?_) (fun c53 h => ?_)
                                      · skip
                                        refine ite_cases h (fun c55 h => ?_) (fun c55 h => ?_)
                                        · skip
                                          refine ite_cases h (fun c57 h => ?_) (fun c57 h => ?_)
                                          · skip
                                            refine ite_cases h (fun c58 h => ?_) (fun c58 h => ?_)
                                            · skip
                                              refine ite_cases h (fun c60 h => ?_) (fun c60 h => ?_)
                                              · skip
                                                refine ite_cases h (fun c63 h => ?_) (fun c63 h => ?_)
                                                · skip
                                                  refine ite_cases h (fun c64 h => ?_) (fun c64 h => ?_)
                                                  · skip
                                                    refine ite_cases h (fun c68 h => ?_) (fun c68 h => ?_)
                                                    · skip
                                                      refine ite_cases h (fun c75 h => ?_) (fun c75 h => ?_)
                                                      · skip
                                                        refine ite_cases h (fun c78 h => ?_) (fun c78 h => ?_)
                                                        · skip
                                                          cases h
                                                          exact btells_w3 m x0 x1 x2 x3 x4 c0 c1 c3 c4 c6 c7 c8 c9 c11 c12 c15 c19 c24 c32 c47 c48 c50 c52 c53 c55 c57 c58 c60 c63 c64 c68 c75 c78
                                                        · skip
                                                          cases h
                                                      · skip
                                                        cases h
                                                    · skip
                                                      cases h
                                                  · skip
                                                    cases h
                                                · skip
                                                  cases h
                                              · skip
                                                cases h
                                            · skip
                                              cases h
                                          · skip
                                            cases h
                                        · skip
                                          cases h
                                      · skip
                                        cases h
                                    · skip
                                      cases h
                                  · skip
                                    cases h
                                · skip
                                  cases h
                              · skip
                                cases h
                    · skip
                      cases h
                  · skip
                    cases h
                · skip
                  cases h
              · skip
                cases h
            · skip
              cases h
          · skip
            cases h
        · skip
          cases h
    · skip
      cases h
  · skip
    cases h
theorem btells_at (x0 : List (Int × Int)) (x1 : List Int) (x2 : Bool) (x3 : Int) (x4 : Int) (h : ∃ m q, btells m x0 x1 x2 x3 x4 = some q) : ∃ g B', CallAt Try.prog 4 g ∧ (g [(.d (.sl (.pair (.int .i64) (.int .i64)) x0)), (.d (.sl (.int .i64) x1)), (.d (.bool (x2))), (.d (.int .i64 x3)), (.d (.int .i64 x4))] []).run = some (.d (.bool true), B') := by
  obtain ⟨m, q, h⟩ := h
  exact ⟨_, _, evCall_atH mixed kinds hds S19 S19_ok (m + 25) 4, btells_ok m x0 x1 x2 x3 x4 q h⟩

end Go.Proofs.Ytghkbjflejgieaa.Dec
namespace Go.Proofs.Ytghkbjflejgieaa.Dec
open Go.Ev
set_option linter.unusedVariables false
set_option linter.unusedSimpArgs false
set_option maxRecDepth 100000
theorem numG1 (n : Int) : numG [n] = nb (zz n) := by simp [numG]
theorem trunc : ∀ (v i u : Nat), decG i u ((nb v).take ((nb v).length - 1)) = none := by
  intro v
  induction v using Nat.strongRecOn with
  | _ v ih =>
    intro i u
    rw [nb]
    by_cases hv : v < 128
    · rw [if_pos hv]; rfl
    · rw [if_neg hv, List.length_cons, Nat.add_sub_cancel]
      have h0 : 0 < (nb (v / 128)).length := by rw [nb]; split <;> simp
      obtain ⟨q, hq⟩ : ∃ q, (nb (v / 128)).length = q + 1 := ⟨(nb (v / 128)).length - 1, by omega⟩
      have := ih (v / 128) (by omega) (i + 1) (u + Int.toNat (((v % 128 + 128 : Nat)) : Int) % 128 * 2 ^ (7 * i))
      rw [hq, Nat.add_sub_cancel] at this
      rw [hq, List.take_succ_cons]
      unfold decG
      rw [this]
      split
      · rfl
      · split
        · rfl
        · split
          · rfl
          · rw [if_neg (by omega)]
theorem addR_cons (out : SL) (y : Int × Int) (l : SL) : addR out (y :: l) = if y.1 < 0 then (1, out) else if y.1 > 1099511627776 then (1, out) else if 0 < out.length ∧ y.1 ≤ (out.getD (out.length - 1) (0, 0)).1 then (2, out) else if out.length = 200 then (8, out) else addR (out ++ [y]) l := rfl
theorem addR_snoc : ∀ (l out : SL) (x : Int × Int), (addR out (l ++ [x])).1 = if (addR out l).1 = 0 then (addR (addR out l).2 [x]).1 else (addR out l).1
  | [], out, x => by rw [List.nil_append, if_pos (show (addR out []).1 = 0 from rfl)]; rfl
  | y :: l, out, x => by
    rw [List.cons_append, addR_cons out y (l ++ [x]), addR_cons out y l]
    by_cases c1 : y.1 < 0
    · simp [c1]
    · by_cases c2 : y.1 > 1099511627776
      · simp [c1, c2]
      · by_cases c3 : 0 < out.length ∧ y.1 ≤ (out.getD (out.length - 1) (0, 0)).1
        · simp only [if_neg c1, if_neg c2, if_pos c3]; rw [if_neg (by decide)]
        · by_cases c4 : out.length = 200
          · simp only [if_neg c1, if_neg c2, if_neg c3, if_pos c4]; rw [if_neg (by decide)]
          · simp only [if_neg c1, if_neg c2, if_neg c3, if_neg c4]
            exact addR_snoc l (out ++ [y]) x
set_option maxHeartbeats 20000000 in
theorem addR_step (L : SL) (k : Nat) (hk : k < L.length) (hl : L.length ≤ 100) : ((addR [] (L.take (k + 1))).1 = 0) ↔ ((addR [] (L.take k)).1 = 0 ∧ (L.getD k (0, 0)).1 ≥ 0 ∧ (L.getD k (0, 0)).1 ≤ 1099511627776 ∧ (k = 0 ∨ (L.getD k (0, 0)).1 > (L.getD (k - 1) (0, 0)).1)) := by
  rw [take_succ_getD L k (0, 0) hk, addR_snoc]
  by_cases h0 : (addR [] (L.take k)).1 = 0
  · rw [if_pos h0]
    have h1 := (addR_zero (L.take k) [] h0).1
    rw [List.nil_append] at h1
    rw [h1]
    have hlen : (L.take k).length = k := by rw [List.length_take]; omega
    generalize L.getD k (0, 0) = x
    have hlast : 0 < k → (L.take k).getD (k - 1) (0, 0) = L.getD (k - 1) (0, 0) := by
      intro hp
      rw [List.getD_eq_getElem?_getD, List.getD_eq_getElem?_getD, List.getElem?_take_of_lt (by omega)]
    rw [addR_cons, hlen]
    by_cases c1 : x.1 < 0
    · rw [if_pos c1]; exact ⟨fun h => absurd h (by simp), fun h => absurd h.2.1 (by omega)⟩
    · rw [if_neg c1]
      by_cases c2 : x.1 > 1099511627776
      · rw [if_pos c2]; exact ⟨fun h => absurd h (by simp), fun h => absurd h.2.2.1 (by omega)⟩
      · rw [if_neg c2]
        by_cases hp : 0 < k
        · rw [hlast hp]
          by_cases c3 : x.1 ≤ (L.getD (k - 1) (0, 0)).1
          · rw [if_pos ⟨hp, c3⟩]; exact ⟨fun h => absurd h (by simp), fun h => absurd h.2.2.2 (by omega)⟩
          · rw [if_neg (fun h => c3 h.2), if_neg (by omega)]
            exact ⟨fun _ => ⟨h0, by omega, by omega, .inr (by omega)⟩, fun _ => rfl⟩
        · rw [if_neg (fun h => hp h.1), if_neg (by omega)]
          exact ⟨fun _ => ⟨h0, by omega, by omega, .inl (by omega)⟩, fun _ => rfl⟩
  · rw [if_neg h0]
    constructor
    · intro h; exact absurd h h0
    · intro h; exact absurd h.1 h0
theorem right_loop (m : Nat) (x3 x4 : Int) (L : SL) (hl : L.length ≤ 100) : ∀ (n k : Nat), k ≤ L.length → L.length - k < n → ∃ j, l4_1 m n x3 x4 (decide ((addR [] (L.take k)).1 = 0)) (L.length : Nat) (k : Nat) L = some (0, decide ((addR [] L).1 = 0), j)
  | 0, k, _, h => by omega
  | n + 1, k, h1, h2 => by
    rw [l4_1]
    by_cases hk : k < L.length
    · have e1 : decide (((k : Nat) : Int) < (((List.length L) : Nat) : Int)) = true := decide_eq_true (by omega)
      have e2 : decide ((0 : Int) ≤ ((k : Nat) : Int)) = true := decide_eq_true (by omega)
      have e3 : decide (k < List.length L) = true := decide_eq_true hk
      have e7 : IntKind.wrap .i64 (((k : Nat) : Int) + (1)) = ((k + 1 : Nat) : Int) := by rw [wrap_id (by omega) (by omega)]; rfl
      have st := addR_step L k hk hl
      obtain ⟨j, hj⟩ := right_loop m x3 x4 L hl n (k + 1) (by omega) (by omega)
      simp only [show Int.toNat ((k : Nat) : Int) = k from rfl, Nat.zero_add, e1, e2, e3, e7, ↓reduceIte]
      by_cases h0 : (addR [] (L.take k)).1 = 0
      · have f0 : decide ((addR [] (L.take k)).1 = 0) = true := decide_eq_true h0
        by_cases c1 : (L.getD k (0, 0)).1 ≥ 0
        · by_cases c2 : (L.getD k (0, 0)).1 ≤ 1099511627776
          · have f1 : decide ((L.getD k (0, 0)).1 ≥ 0) = true := decide_eq_true c1
            have f2 : decide ((L.getD k (0, 0)).1 ≤ 1099511627776) = true := decide_eq_true c2
            by_cases hp : k = 0
            · have f3 : (((k : Nat) : Int) == (0)) = true := by simp [hp]
              have fin : decide ((addR [] (L.take (k + 1))).1 = 0) = true := decide_eq_true (st.2 ⟨h0, c1, c2, .inl hp⟩)
              rw [fin] at hj
              simp only [f0, f1, f2, f3, ↓reduceIte]
              exact ⟨j, hj⟩
            · have f3 : (((k : Nat) : Int) == (0)) = false := by rw [beq_eq_false_iff_ne]; omega
              have w : IntKind.wrap .i64 (((k : Nat) : Int) - (1)) = ((k - 1 : Nat) : Int) := by rw [wrap_id (by omega) (by omega)]; omega
              have f4 : decide ((0 : Int) ≤ ((k - 1 : Nat) : Int)) = true := decide_eq_true (by omega)
              have f5 : decide (((k - 1 : Nat) : Int) < (((List.length L) : Nat) : Int)) = true := decide_eq_true (by omega)
              have f6 : decide (k - 1 < List.length L) = true := decide_eq_true (by omega)
              have fin : decide ((addR [] (L.take (k + 1))).1 = 0) = decide ((L.getD k (0, 0)).1 > (L.getD (k - 1) (0, 0)).1) := by
                rw [decide_eq_decide, st]
                constructor
                · rintro ⟨_, _, _, h | h⟩
                  · exact absurd h hp
                  · exact h
                · intro h; exact ⟨h0, c1, c2, .inr h⟩
              rw [fin] at hj
              simp only [f0, f1, f2, f3, w, show Int.toNat ((k - 1 : Nat) : Int) = k - 1 from rfl, Nat.zero_add, f4, f5, f6, ↓reduceIte, Bool.false_eq_true]
              exact ⟨j, hj⟩
          · have f1 : decide ((L.getD k (0, 0)).1 ≥ 0) = true := decide_eq_true c1
            have f2 : decide ((L.getD k (0, 0)).1 ≤ 1099511627776) = false := decide_eq_false c2
            have fin : decide ((addR [] (L.take (k + 1))).1 = 0) = false := decide_eq_false fun h => c2 (st.1 h).2.2.1
            rw [fin] at hj
            simp only [f0, f1, f2, ↓reduceIte, Bool.false_eq_true]
            exact ⟨j, hj⟩
        · have f1 : decide ((L.getD k (0, 0)).1 ≥ 0) = false := decide_eq_false c1
          have fin : decide ((addR [] (L.take (k + 1))).1 = 0) = false := decide_eq_false fun h => c1 (st.1 h).2.1
          rw [fin] at hj
          simp only [f0, f1, ↓reduceIte, Bool.false_eq_true]
          exact ⟨j, hj⟩
      · have f0 : decide ((addR [] (L.take k)).1 = 0) = false := decide_eq_false h0
        have fin : decide ((addR [] (L.take (k + 1))).1 = 0) = false := decide_eq_false fun h => h0 (st.1 h).1
        rw [fin] at hj
        simp only [f0, ↓reduceIte, Bool.false_eq_true]
        exact ⟨j, hj⟩
    · have e1 : decide (((k : Nat) : Int) < (((List.length L) : Nat) : Int)) = false := decide_eq_false (by omega)
      rw [e1, if_neg (by simp), List.take_of_length_le (by omega)]
      exact ⟨_, rfl⟩
theorem turn_loop (m : Nat) (x3 x4 : Int) (ok3 : inR x3 = true) (N : Nat) (hN : N ≤ 20) : ∀ (n k : Nat) (b : SL), b.length = N → vals b → k ≤ N → N - k < n → ∃ j b', l4_0 m n x3 x4 (N : Nat) (k : Nat) b = some (0, j, b') ∧ b'.length = N ∧ vals b'
  | 0, k, b, _, _, _, h => by omega
  | n + 1, k, b, h1, hv, h2, h3 => by
    rw [l4_0]
    by_cases hk : k < N
    · have e1 : decide (((k : Nat) : Int) < ((N : Nat) : Int)) = true := decide_eq_true (by omega)
      have e2 : decide ((0 : Int) ≤ ((k : Nat) : Int)) = true := decide_eq_true (by omega)
      have e3 : decide (((k : Nat) : Int) < (((List.length b) : Nat) : Int)) = true := decide_eq_true (by omega)
      have e4 : decide (k < List.length b) = true := decide_eq_true (by omega)
      have e7 : IntKind.wrap .i64 (((k : Nat) : Int) + (1)) = ((k + 1 : Nat) : Int) := by rw [wrap_id (by omega) (by omega)]; rfl
      simp only [show Int.toNat ((k : Nat) : Int) = k from rfl, Nat.zero_add, e1, e2, e3, e4, e7, ↓reduceIte]
      generalize (IntKind.wrap .i64 ((((BitVec.ofInt 64 ((k : Nat) : Int) &&& BitVec.ofInt 64 (3)).toNat : Nat) : Int)) == (1)) = c
      cases c with
      | true =>
        simp only [↓reduceIte]
        refine turn_loop m x3 x4 ok3 N hN n (k + 1) _ (by rw [List.length_set]; exact h1) (fun x hx => ?_) (by omega) (by omega)
        rcases List.mem_or_eq_of_mem_set hx with h | h
        · exact hv x h
        · rw [h]; exact ok3
      | false =>
        simp only [↓reduceIte, Bool.false_eq_true]
        exact turn_loop m x3 x4 ok3 N hN n (k + 1) b h1 hv (by omega) (by omega)
    · have e1 : decide (((k : Nat) : Int) < ((N : Nat) : Int)) = false := decide_eq_false (by omega)
      rw [e1, if_neg (by simp)]
      exact ⟨_, b, rfl, h1, hv⟩
theorem btells_pure (x0 : SL) (x1 : List Int) (x2 : Bool) (x3 x4 : Int) (hx0 : vals x0) (ok3 : inR x3 = true) (ok4 : inR x4 = true) : ∃ m q, btells m x0 x1 x2 x3 x4 = some q := by
  obtain ⟨m, hm⟩ : ∃ m : Nat, m = 200 := ⟨_, rfl⟩
  refine ⟨m, (), ?_⟩
  unfold btells
  skip
  have c0 : (decide (0 ≤ (if (20) < (((List.length x0) : Nat) : Int) then (20) else (((List.length x0) : Nat) : Int))) && decide ((if (20) < (((List.length x0) : Nat) : Int) then (20) else (((List.length x0) : Nat) : Int)) ≤ (((List.length x0) : Nat) : Int))) = true := by
    split <;> simp <;> omega
  have hR : List.drop 0 (List.take (Int.toNat (if (20) < (((List.length x0) : Nat) : Int) then (20) else (((List.length x0) : Nat) : Int))) x0) = x0.take 20 := by
    rw [List.drop_zero]
    split
    · rfl
    · rw [Int.toNat_natCast, List.take_length, List.take_of_length_le (by omega)]
  have hRl : (x0.take 20).length ≤ 20 := by rw [List.length_take]; omega
  have hRv : vals (x0.take 20) := fun x hx => hx0 x (List.mem_of_mem_take hx)
  simp only [c0, hR, ↓reduceIte]
  obtain ⟨R, hRd⟩ : ∃ R, x0.take 20 = R := ⟨_, rfl⟩
  rw [hRd] at hRl hRv
  simp only [hRd]
  have e1 : decide ((List.length R * 16) ≤ 70368744177664) = true := decide_eq_true (by omega)
  have e2 : decide (List.length R ≤ List.length R) = true := decide_eq_true (Nat.le_refl _)
  simp only [Nat.zero_add, e1, e2, ↓reduceIte]
  cases x2 with
  | false =>
    simp only [↓reduceIte, Bool.false_eq_true]
    obtain ⟨T, hT⟩ : ∃ T, R = T := ⟨_, rfl⟩
    subst hT
    have hl := hRl
    have hv := hRv
    have tA : List.take (List.length (numG [x3])) (List.drop 0 (numG [x3])) = numG [x3] := by rw [List.drop_zero, List.take_length]
    have tC : List.take (List.length (numG [x4])) (List.drop 0 (numG [x4])) = numG [x4] := by rw [List.drop_zero, List.take_length]
    have g3 := numG1 x3
    have g4 := numG1 x4
    have l3 := nb_len10 (zz_lt ok3)
    have l4 := nb_len10 (zz_lt ok4)
    have nx := next_nb ok3 (numG [x4])
    have tr := trunc (zz x3) 0 0
    rw [← g3] at l3 nx tr
    rw [← g4] at l4
    have by3 := num_bytes [x3] (by simpa using ok3)
    have by4 := num_bytes [x4] (by simpa using ok4)
    have e34 : numG [x3, x4] = numG [x3] ++ numG [x4] := by simp [numG]
    have m34 : numPre [x3, x4] = true := decide_eq_true ⟨by simp, by simp [ok3, ok4]⟩
    generalize numG [x3] = A at *
    generalize numG [x4] = C at *
    have u1 : decide (((List.length A) + (List.length C)) * 1 ≤ 70368744177664) = true := decide_eq_true (by omega)
    have u2 : decide ((List.length A) + (List.length C) ≤ (List.length (A ++ C))) = true := decide_eq_true (by rw [List.length_append]; omega)
    have uT : List.take ((List.length A) + (List.length C)) (List.drop 0 (A ++ C)) = A ++ C := by rw [List.drop_zero, List.take_of_length_le (by rw [List.length_append]; omega)]
    have u3 : bytesOK (A ++ C) = true := decide_eq_true ⟨by rw [List.length_append]; omega, fun x hx => by
      rcases List.mem_append.1 hx with h | h
      · exact by3 x h
      · exact by4 x h⟩
    have w1 : IntKind.wrap .i64 ((((List.length A) : Nat) : Int) - (1)) = ((List.length A - 1 : Nat) : Int) := by rw [wrap_id (by omega) (by omega)]; omega
    have u4 : (decide (0 ≤ ((List.length A - 1 : Nat) : Int)) && decide (((List.length A - 1 : Nat) : Int) ≤ (((List.length A) + (List.length C) : Nat) : Int))) = true := by simp; omega
    have u5 : decide (List.length A - 1 ≤ List.length (A ++ C)) = true := decide_eq_true (by rw [List.length_append]; omega)
    have uR : List.take (List.length A - 1) (List.drop 0 (A ++ C)) = List.take (List.length A - 1) A := by rw [List.drop_zero, List.take_append_of_le_length (by omega)]
    have u6 : bytesOK (List.take (List.length A - 1) A) = true := decide_eq_true ⟨by rw [List.length_take]; omega, fun x hx => by3 x (List.mem_of_mem_take hx)⟩
    have u7 : nextG (List.take (List.length A - 1) A) = (0, 0) := by unfold nextG; rw [tr]
    have uAC : List.take (List.length (A ++ C)) (List.drop 0 (A ++ C)) = A ++ C := by rw [List.drop_zero, List.take_length]
    have u8 : decide (List.length (A ++ C) < 4611686018427387904) = true := decide_eq_true (by rw [List.length_append]; omega)
    have tT : List.take (List.length R) (List.drop 0 R) = R := by rw [List.drop_zero, List.take_length]
    have hF : List.drop 0 (List.take (List.length R) (sroomyG R ((7), (0)))) = R := by
      rw [List.drop_zero]
      unfold sroomyG
      rw [List.take_left' rfl]
    have hFl : (sroomyG R ((7), (0))).length = R.length + 80 := by unfold sroomyG; rw [List.length_append, List.length_replicate]
    have t1 : decide (List.length R ≤ 1000000) = true := decide_eq_true (by omega)
    have t2 : (decide (0 ≤ (((List.length R) : Nat) : Int)) && decide ((((List.length R) : Nat) : Int) ≤ (((List.length (sroomyG R ((7), (0)))) : Nat) : Int))) = true := by rw [hFl]; simp; omega
    have t3 : bytesOK (putG R) = true := decide_eq_true ⟨Nat.le_trans (putG_len R (by omega)) (by omega), put_bytes R (by omega)⟩
    have t4 : decide (List.length (sroomyG R ((7), (0))) ≤ 1000000 ∧ List.length R ≤ 1000000) = true := decide_eq_true ⟨by omega, by omega⟩
    have t5 : sintactG (sroomyG R ((7), (0))) R ((7), (0)) = true := decide_eq_true rfl
    obtain ⟨full, hfull⟩ : ∃ f, sroomyG R ((7), (0)) = f := ⟨_, rfl⟩
    rw [hfull] at hF hFl t2 t4 t5
    obtain ⟨j1, hj1⟩ := right_loop m x3 x4 R (by omega) (m + 24) 0 (by omega) (by omega)
    rw [List.take_zero, Int.natCast_zero] at hj1
    have hj1 : l4_1 m (m + 24) x3 x4 true (((List.length R) : Nat) : Int) 0 R = some (0, decide ((addR [] R).1 = 0), j1) := hj1
    have hadd : (addG [] R).1 = 0 ↔ (addR [] R).1 = 0 := by
      unfold addG
      split
      · rename_i h; simp [h]
      · rfl
    have gp := get_put R hv
    by_cases hr : (addR [] R).1 = 0
    · have r0 : decide ((addR [] R).1 = 0) = true := decide_eq_true hr
      rw [if_pos (hadd.2 hr)] at gp
      have pp := put_pos (hadd.2 hr)
      have pb : putG R = blockG R := by unfold putG; rw [if_pos (hadd.2 hr)]
      rw [r0] at hj1
      have t6 : decide (List.length (putG R) < 4611686018427387904) = true := decide_eq_true (by omega)
      have t7 : decide (List.length R < 4611686018427387904) = true := decide_eq_true (by omega)
      rw [pb] at t3 t6 gp
      have z0 : ((0 : Int) != (0)) = false := rfl
      simp only [tA, tC, e34, m34, u1, u2, uT, u3, w1, u4, u5, uR, u6, u7, uAC, u8, nx, ok3, ok4, Nat.zero_add, Nat.sub_zero, show ∀ n : Nat, Int.toNat ((n : Nat) : Int) = n from fun _ => rfl, tT, hfull, hF, t1, t2, t3, t4, t5, l4_1R, hj1, pb, t6, t7, gp, z0, Option.isSome_some, Option.getD_some, beq_self_eq_true, ↓reduceIte, Bool.false_eq_true]
    · have r0 : decide ((addR [] R).1 = 0) = false := decide_eq_false hr
      rw [if_neg (fun h => hr (hadd.1 h))] at gp
      have pb : putG R = [] := by unfold putG; rw [if_neg (fun h => hr (hadd.1 h))]
      rw [r0] at hj1
      rw [pb] at t3 gp
      have z0 : ((1 : Int) != (1)) = false := rfl
      have z1 : ((((List.length ([] : List Int)) : Nat) : Int) != (0)) = false := rfl
      have z2 : ((((List.length ([] : List (Int × Int))) : Nat) : Int) != (0)) = false := rfl
      simp only [tA, tC, e34, m34, u1, u2, uT, u3, w1, u4, u5, uR, u6, u7, uAC, u8, nx, ok3, ok4, Nat.zero_add, Nat.sub_zero, show ∀ n : Nat, Int.toNat ((n : Nat) : Int) = n from fun _ => rfl, tT, hfull, hF, t1, t2, t3, t4, t5, l4_1R, hj1, pb, gp, z0, z1, z2, Option.isSome_some, Option.getD_some, beq_self_eq_true, ↓reduceIte, Bool.false_eq_true]
  | true =>
    simp only [↓reduceIte]
    obtain ⟨vX, lX, _⟩ := samp_right x1
    obtain ⟨X, hX⟩ : ∃ X, samplesG x1 = X := ⟨_, rfl⟩
    rw [hX] at vX lX
    simp only [hX]
    obtain ⟨j0, T, hj0, hTl, hv⟩ := turn_loop m x3 x4 ok3 X.length lX (m + 24) 0 X rfl vX (by omega) (by omega)
    rw [Int.natCast_zero] at hj0
    have hl : T.length ≤ 20 := by omega
    simp only [l4_0R, hj0, Option.isSome_some, Option.getD_some, ↓reduceIte]
    have tA : List.take (List.length (numG [x3])) (List.drop 0 (numG [x3])) = numG [x3] := by rw [List.drop_zero, List.take_length]
    have tC : List.take (List.length (numG [x4])) (List.drop 0 (numG [x4])) = numG [x4] := by rw [List.drop_zero, List.take_length]
    have g3 := numG1 x3
    have g4 := numG1 x4
    have l3 := nb_len10 (zz_lt ok3)
    have l4 := nb_len10 (zz_lt ok4)
    have nx := next_nb ok3 (numG [x4])
    have tr := trunc (zz x3) 0 0
    rw [← g3] at l3 nx tr
    rw [← g4] at l4
    have by3 := num_bytes [x3] (by simpa using ok3)
    have by4 := num_bytes [x4] (by simpa using ok4)
    have e34 : numG [x3, x4] = numG [x3] ++ numG [x4] := by simp [numG]
    have m34 : numPre [x3, x4] = true := decide_eq_true ⟨by simp, by simp [ok3, ok4]⟩
    generalize numG [x3] = A at *
    generalize numG [x4] = C at *
    have u1 : decide (((List.length A) + (List.length C)) * 1 ≤ 70368744177664) = true := decide_eq_true (by omega)
    have u2 : decide ((List.length A) + (List.length C) ≤ (List.length (A ++ C))) = true := decide_eq_true (by rw [List.length_append]; omega)
    have uT : List.take ((List.length A) + (List.length C)) (List.drop 0 (A ++ C)) = A ++ C := by rw [List.drop_zero, List.take_of_length_le (by rw [List.length_append]; omega)]
    have u3 : bytesOK (A ++ C) = true := decide_eq_true ⟨by rw [List.length_append]; omega, fun x hx => by
      rcases List.mem_append.1 hx with h | h
      · exact by3 x h
      · exact by4 x h⟩
    have w1 : IntKind.wrap .i64 ((((List.length A) : Nat) : Int) - (1)) = ((List.length A - 1 : Nat) : Int) := by rw [wrap_id (by omega) (by omega)]; omega
    have u4 : (decide (0 ≤ ((List.length A - 1 : Nat) : Int)) && decide (((List.length A - 1 : Nat) : Int) ≤ (((List.length A) + (List.length C) : Nat) : Int))) = true := by simp; omega
    have u5 : decide (List.length A - 1 ≤ List.length (A ++ C)) = true := decide_eq_true (by rw [List.length_append]; omega)
    have uR : List.take (List.length A - 1) (List.drop 0 (A ++ C)) = List.take (List.length A - 1) A := by rw [List.drop_zero, List.take_append_of_le_length (by omega)]
    have u6 : bytesOK (List.take (List.length A - 1) A) = true := decide_eq_true ⟨by rw [List.length_take]; omega, fun x hx => by3 x (List.mem_of_mem_take hx)⟩
    have u7 : nextG (List.take (List.length A - 1) A) = (0, 0) := by unfold nextG; rw [tr]
    have uAC : List.take (List.length (A ++ C)) (List.drop 0 (A ++ C)) = A ++ C := by rw [List.drop_zero, List.take_length]
    have u8 : decide (List.length (A ++ C) < 4611686018427387904) = true := decide_eq_true (by rw [List.length_append]; omega)
    have tT : List.take (List.length T) (List.drop 0 T) = T := by rw [List.drop_zero, List.take_length]
    have hF : List.drop 0 (List.take (List.length T) (sroomyG T ((7), (0)))) = T := by
      rw [List.drop_zero]
      unfold sroomyG
      rw [List.take_left' rfl]
    have hFl : (sroomyG T ((7), (0))).length = T.length + 80 := by unfold sroomyG; rw [List.length_append, List.length_replicate]
    have t1 : decide (List.length T ≤ 1000000) = true := decide_eq_true (by omega)
    have t2 : (decide (0 ≤ (((List.length T) : Nat) : Int)) && decide ((((List.length T) : Nat) : Int) ≤ (((List.length (sroomyG T ((7), (0)))) : Nat) : Int))) = true := by rw [hFl]; simp; omega
    have t3 : bytesOK (putG T) = true := decide_eq_true ⟨Nat.le_trans (putG_len T (by omega)) (by omega), put_bytes T (by omega)⟩
    have t4 : decide (List.length (sroomyG T ((7), (0))) ≤ 1000000 ∧ List.length T ≤ 1000000) = true := decide_eq_true ⟨by omega, by omega⟩
    have t5 : sintactG (sroomyG T ((7), (0))) T ((7), (0)) = true := decide_eq_true rfl
    obtain ⟨full, hfull⟩ : ∃ f, sroomyG T ((7), (0)) = f := ⟨_, rfl⟩
    rw [hfull] at hF hFl t2 t4 t5
    obtain ⟨j1, hj1⟩ := right_loop m x3 x4 T (by omega) (m + 24) 0 (by omega) (by omega)
    rw [List.take_zero, Int.natCast_zero] at hj1
    have hj1 : l4_1 m (m + 24) x3 x4 true (((List.length T) : Nat) : Int) 0 T = some (0, decide ((addR [] T).1 = 0), j1) := hj1
    have hadd : (addG [] T).1 = 0 ↔ (addR [] T).1 = 0 := by
      unfold addG
      split
      · rename_i h; simp [h]
      · rfl
    have gp := get_put T hv
    by_cases hr : (addR [] T).1 = 0
    · have r0 : decide ((addR [] T).1 = 0) = true := decide_eq_true hr
      rw [if_pos (hadd.2 hr)] at gp
      have pp := put_pos (hadd.2 hr)
      have pb : putG T = blockG T := by unfold putG; rw [if_pos (hadd.2 hr)]
      rw [r0] at hj1
      have t6 : decide (List.length (putG T) < 4611686018427387904) = true := decide_eq_true (by omega)
      have t7 : decide (List.length T < 4611686018427387904) = true := decide_eq_true (by omega)
      rw [pb] at t3 t6 gp
      have z0 : ((0 : Int) != (0)) = false := rfl
      simp only [tA, tC, e34, m34, u1, u2, uT, u3, w1, u4, u5, uR, u6, u7, uAC, u8, nx, ok3, ok4, Nat.zero_add, Nat.sub_zero, show ∀ n : Nat, Int.toNat ((n : Nat) : Int) = n from fun _ => rfl, tT, hfull, hF, t1, t2, t3, t4, t5, l4_1R, hj1, pb, t6, t7, gp, z0, Option.isSome_some, Option.getD_some, beq_self_eq_true, ↓reduceIte, Bool.false_eq_true]
    · have r0 : decide ((addR [] T).1 = 0) = false := decide_eq_false hr
      rw [if_neg (fun h => hr (hadd.1 h))] at gp
      have pb : putG T = [] := by unfold putG; rw [if_neg (fun h => hr (hadd.1 h))]
      rw [r0] at hj1
      rw [pb] at t3 gp
      have z0 : ((1 : Int) != (1)) = false := rfl
      have z1 : ((((List.length ([] : List Int)) : Nat) : Int) != (0)) = false := rfl
      have z2 : ((((List.length ([] : List (Int × Int))) : Nat) : Int) != (0)) = false := rfl
      simp only [tA, tC, e34, m34, u1, u2, uT, u3, w1, u4, u5, uR, u6, u7, uAC, u8, nx, ok3, ok4, Nat.zero_add, Nat.sub_zero, show ∀ n : Nat, Int.toNat ((n : Nat) : Int) = n from fun _ => rfl, tT, hfull, hF, t1, t2, t3, t4, t5, l4_1R, hj1, pb, gp, z0, z1, z2, Option.isSome_some, Option.getD_some, beq_self_eq_true, ↓reduceIte, Bool.false_eq_true]
theorem btells_law (x0 : SL) (x1 : List Int) (x2 : Bool) (x3 x4 : Int) (ok0 : Ty.ok (.sl (.pair (.int .i64) (.int .i64))) x0) (_ : Ty.ok (.sl (.int .i64)) x1) (_ : Ty.ok .bool x2) (ok3 : Ty.ok (.int .i64) x3) (ok4 : Ty.ok (.int .i64) x4) : ∃ g B', CallAt Try.prog 4 g ∧ (g [argAV false (.sl (.pair (.int .i64) (.int .i64))) x0, argAV false (.sl (.int .i64)) x1, argAV false .bool x2, argAV false (.int .i64) x3, argAV false (.int .i64) x4] []).run = some (.d (.bool true), B') := btells_at x0 x1 x2 x3 x4 (btells_pure x0 x1 x2 x3 x4 (fun x hx => inR_of_ok (ok0.2 x hx).2) (inR_of_ok ok3) (inR_of_ok ok4))

end Go.Proofs.Ytghkbjflejgieaa.Dec
