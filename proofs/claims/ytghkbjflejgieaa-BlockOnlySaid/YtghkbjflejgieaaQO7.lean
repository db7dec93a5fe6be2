/- Roomy, Intact. What was put is got. BlockOnly, as a plain function. BlockOnly: its plain law. -/
import Derived.Test.YtghkbjflejgieaaQO6
import Derived.KernelRfl
namespace Go.Proofs.Ytghkbjflejgieaa.Dec
open Go.Ev
set_option linter.unusedVariables false
set_option linter.unusedSimpArgs false
set_option maxRecDepth 100000
noncomputable def fn13 : AFn := (F 13).getD ⟨0, [], .bad, false, false, noHd⟩
noncomputable def body13 : AC := fn13.body
def l13_0 (m : Nat) : Nat → Int × Int → Int → List (Int × Int) → Option (Nat × Int × (List (Int × Int)))
  | 0, _, _, _ => none
  | n + 1, x1, s6, b1 => if decide (s6 < (((List.length b1) : Nat) : Int)) = true then
      if decide (0 ≤ s6) = true then
        if decide ((0 + (Int.toNat s6)) < (List.length b1)) = true then
          l13_0 m n x1 ((IntKind.wrap .i64 (s6 + (1)))) ((List.set b1 (0 + (Int.toNat s6)) x1))
        else
          none
      else
        none
    else
      some (0, s6, b1)
def l13_0D : Nat × Int × (List (Int × Int)) := (0, 0, [])
@[reducible] def l13_0R (m n : Nat) (x1 : Int × Int) (s6 : Int) (b1 : List (Int × Int)) : Nat × Int × (List (Int × Int)) := Option.getD (l13_0 m n x1 s6 b1) l13_0D
def l13_0H (x1 : Int × Int) (s6 : Int) (b1 : List (Int × Int)) : Env := [.top, .top, .top, (.ptr 0 0), .top, (.sr 1 0 (List.length b1) 2 none), (.d (.int .i64 s6)), .top, .top, .top, .top, .top, .top, .top, .top, .top, .top, .top, .top, .top, .top, .top, .top, .top, .top, .top, .top]
def l13_0B (x1 : Int × Int) (s6 : Int) (b1 : List (Int × Int)) : Boxes := [(.cells [(.d (.int .i64 x1.1)), (.d (.int .i64 x1.2))]), (.arr (.pair (.int .i64) (.int .i64)) b1 true)]
def l13_0E (x1 : Int × Int) (s6 : Int) (b1 : List (Int × Int)) : Nat → AEx × Env × Boxes
  | _ => (.exit 0, [.top, .top, .top, (.ptr 0 0), .top, (.sr 1 0 (List.length b1) 2 none), (.d (.int .i64 s6)), .top, .top, .top, .top, .top, .top, .top, .top, .top, (.d (.int .i64 s6)), (.sr 1 0 (List.length b1) 2 none), (.d (.int .i64 (((List.length b1) : Nat) : Int))), (.d (.bool (decide (s6 < (((List.length b1) : Nat) : Int))))), .top, .top, .top, .top, .top, .top, .top], [(.cells [(.d (.int .i64 x1.1)), (.d (.int .i64 x1.2))]), (.arr (.pair (.int .i64) (.int .i64)) b1 true)])
noncomputable def lbl13_0 : AC := loopBody 104 body13

set_option maxHeartbeats 20000000 in
theorem l13_0_w0 (m n : Nat) (x1 : Int × Int) (s6 : Int) (b1 : List (Int × Int)) (r : AEx × Env × Boxes) (c0 : decide (s6 < (((List.length b1) : Nat) : Int)) = true) (c1 : decide (0 ≤ s6) = true) (c3 : decide ((0 + (Int.toNat s6)) < (List.length b1)) = true) (ih : (turns (hds 13 104) 0 104 (evC byref (evCall F S15 (m + 24)) (m + 24) 0 (hds 13) lbl13_0) n (l13_0H x1 ((IntKind.wrap .i64 (s6 + (1)))) ((List.set b1 (0 + (Int.toNat s6)) x1))) (l13_0B x1 ((IntKind.wrap .i64 (s6 + (1)))) ((List.set b1 (0 + (Int.toNat s6)) x1)))).run = some r) : (turns (hds 13 104) 0 104 (evC byref (evCall F S15 (m + 24)) (m + 24) 0 (hds 13) lbl13_0) (n + 1) (l13_0H x1 s6 b1) (l13_0B x1 s6 b1)).run = some r := by
  have ht : (turn (hds 13 104) 0 104 (evC byref (evCall F S15 (m + 24)) (m + 24) 0 (hds 13) lbl13_0) (l13_0H x1 s6 b1) (l13_0B x1 s6 b1)).run = some (.normal, [.top, .top, .top, (.ptr 0 0), .top, (.sr 1 0 (List.length b1) 2 none), (.d (.int .i64 (IntKind.wrap .i64 (s6 + (1))))), .top, .top, .top, .top, .top, .top, .top, .top, .top, .top, .top, .top, .top, .top, .top, .top, .top, .top, .top, .top], [(.cells [(.d (.int .i64 x1.1)), (.d (.int .i64 x1.2))]), (.arr (.pair (.int .i64) (.int .i64)) (List.set b1 (0 + (Int.toNat s6)) x1) true)]) := M.run_of_path _ [true, true, true, true] _ _ (by kernel_rfl) (all_t c0 (all_t c1 (all_t c0 (all_t c3 all_nil))))
  refine turns_step ht (turns_eq ?_ ?_ ih)
  · unfold l13_0H
    first | (simp; done) | (simp [Nat.add_assoc]; done)
  · unfold l13_0B
    simp
set_option maxHeartbeats 20000000 in
theorem l13_0_w1 (m n : Nat) (x1 : Int × Int) (s6 : Int) (b1 : List (Int × Int)) (c0 : ¬ decide (s6 < (((List.length b1) : Nat) : Int)) = true) : (turns (hds 13 104) 0 104 (evC byref (evCall F S15 (m + 24)) (m + 24) 0 (hds 13) lbl13_0) (n + 1) (l13_0H x1 s6 b1) (l13_0B x1 s6 b1)).run = some (.exit 0, [.top, .top, .top, (.ptr 0 0), .top, (.sr 1 0 (List.length b1) 2 none), (.d (.int .i64 s6)), .top, .top, .top, .top, .top, .top, .top, .top, .top, (.d (.int .i64 s6)), (.sr 1 0 (List.length b1) 2 none), (.d (.int .i64 (((List.length b1) : Nat) : Int))), (.d (.bool (decide (s6 < (((List.length b1) : Nat) : Int))))), .top, .top, .top, .top, .top, .top, .top], [(.cells [(.d (.int .i64 x1.1)), (.d (.int .i64 x1.2))]), (.arr (.pair (.int .i64) (.int .i64)) b1 true)]) := by
  exact turns_last (by simp) (M.run_of_path _ [false] _ _ (by kernel_rfl) (all_f c0 all_nil)) 

set_option maxHeartbeats 20000000 in
theorem l13_0_step (m n : Nat) (ih : ∀ (x1 : Int × Int) (s6 : Int) (b1 : List (Int × Int)) (q : Nat × Int × (List (Int × Int))), l13_0 m n x1 s6 b1 = some q → (turns (hds 13 104) 0 104 (evC byref (evCall F S15 (m + 24)) (m + 24) 0 (hds 13) lbl13_0) n (l13_0H x1 s6 b1) (l13_0B x1 s6 b1)).run = some (l13_0E (x1) (q.2.1) (q.2.2) q.1)) (x1 : Int × Int) (s6 : Int) (b1 : List (Int × Int)) (q : Nat × Int × (List (Int × Int))) (h : l13_0 m (n + 1) x1 s6 b1 = some q) : (turns (hds 13 104) 0 104 (evC byref (evCall F S15 (m + 24)) (m + 24) 0 (hds 13) lbl13_0) (n + 1) (l13_0H x1 s6 b1) (l13_0B x1 s6 b1)).run = some (l13_0E (x1) (q.2.1) (q.2.2) q.1) := by
  rw [l13_0] at h
  refine ite_cases h (fun c0 h => ?_) (fun c0 h => ?_)
  · skip
    refine ite_cases h (fun c1 h => ?_) (fun c1 h => ?_)
    · skip
      refine ite_cases h (fun c3 h => ?_) (fun c3 h => ?_)
      · skip
        exact l13_0_w0 m n x1 s6 b1 _ c0 c1 c3 (ih _ _ _ q h)
      · skip
        cases h
    · skip
      cases h
  · skip
    cases h
    exact l13_0_w1 m n x1 s6 b1 c0
set_option maxHeartbeats 20000000 in
theorem l13_0_ok (m : Nat) : ∀ (n : Nat) (x1 : Int × Int) (s6 : Int) (b1 : List (Int × Int)) (q : Nat × Int × (List (Int × Int))), l13_0 m n x1 s6 b1 = some q → (turns (hds 13 104) 0 104 (evC byref (evCall F S15 (m + 24)) (m + 24) 0 (hds 13) lbl13_0) n (l13_0H x1 s6 b1) (l13_0B x1 s6 b1)).run = some (l13_0E (x1) (q.2.1) (q.2.2) q.1)
  | 0, x1, s6, b1, q, h => by cases h
  | n + 1, x1, s6, b1, q, h => l13_0_step m n (l13_0_ok m n) x1 s6 b1 q h

def p13 (m : Nat) (x0 : List (Int × Int)) (x1 : Int × Int) : Option ((List (Int × Int))) :=
  if (decide (0 ≤ (IntKind.wrap .i64 ((((List.length x0) : Nat) : Int) + (80)))) && decide ((IntKind.wrap .i64 ((((List.length x0) : Nat) : Int) + (80))) ≤ (IntKind.wrap .i64 ((((List.length x0) : Nat) : Int) + (80))))) = true then
    if (decide (((IntKind.wrap .i64 ((((List.length x0) : Nat) : Int) + (80))) * 16) ≤ 70368744177664) && decide ((IntKind.wrap .i64 ((((List.length x0) : Nat) : Int) + (80))) ≤ 70368744177664)) = true then
      if decide (0 ≤ (List.length (List.replicate (Int.toNat (IntKind.wrap .i64 ((((List.length x0) : Nat) : Int) + (80)))) (0, 0)))) = true then
        if decide ((min (List.length x0) (Int.toNat (IntKind.wrap .i64 ((((List.length x0) : Nat) : Int) + (80))))) ≤ (List.length x0)) = true then
          if (Option.isSome (l13_0 m (m + 24) x1 ((((List.length x0) : Nat) : Int)) ((splice (List.replicate (Int.toNat (IntKind.wrap .i64 ((((List.length x0) : Nat) : Int) + (80)))) (0, 0)) 0 (List.take (min (List.length x0) (Int.toNat (IntKind.wrap .i64 ((((List.length x0) : Nat) : Int) + (80))))) x0))))) = true then
            some ((List.take (List.length (l13_0R m (m + 24) x1 ((((List.length x0) : Nat) : Int)) ((splice (List.replicate (Int.toNat (IntKind.wrap .i64 ((((List.length x0) : Nat) : Int) + (80)))) (0, 0)) 0 (List.take (min (List.length x0) (Int.toNat (IntKind.wrap .i64 ((((List.length x0) : Nat) : Int) + (80))))) x0)))).2.2) (List.drop 0 (l13_0R m (m + 24) x1 ((((List.length x0) : Nat) : Int)) ((splice (List.replicate (Int.toNat (IntKind.wrap .i64 ((((List.length x0) : Nat) : Int) + (80)))) (0, 0)) 0 (List.take (min (List.length x0) (Int.toNat (IntKind.wrap .i64 ((((List.length x0) : Nat) : Int) + (80))))) x0)))).2.2)))
          else
            none
        else
          none
      else
        none
    else
      none
  else
    none
set_option maxHeartbeats 20000000 in
theorem p13_ok (m : Nat) (x0 : List (Int × Int)) (x1 : Int × Int) (q : (List (Int × Int))) (h : p13 m x0 x1 = some q) : ∃ r B1, (evCall F S15 (m + 25) 13 [(.d (.sl (.pair (.int .i64) (.int .i64)) x0)), (.agg [(.d (.int .i64 x1.1)), (.d (.int .i64 x1.2))])] []).run = some (r, B1) ∧ 0 ≤ B1.length ∧ wkR B1 [] r (.d (.sl (.pair (.int .i64) (.int .i64)) q)) ∧ wkBs B1 [] 0 [] := by
  unfold p13 at h
  refine ite_cases h (fun c0 h => ?_) (fun c0 h => ?_)
  · skip
    refine ite_cases h (fun c1 h => ?_) (fun c1 h => ?_)
    · skip
      refine ite_cases h (fun c2 h => ?_) (fun c2 h => ?_)
      · skip
        refine ite_cases h (fun c3 h => ?_) (fun c3 h => ?_)
        · skip
          refine ite_cases h (fun c4 h => ?_) (fun c4 h => ?_)
          · skip
            cases h
            refine ⟨(.d (.sl (.pair (.int .i64) (.int .i64)) (List.take (List.length (l13_0R m (m + 24) x1 ((((List.length x0) : Nat) : Int)) ((splice (List.replicate (Int.toNat (IntKind.wrap .i64 ((((List.length x0) : Nat) : Int) + (80)))) (0, 0)) 0 (List.take (min (List.length x0) (Int.toNat (IntKind.wrap .i64 ((((List.length x0) : Nat) : Int) + (80))))) x0)))).2.2) (List.drop 0 (l13_0R m (m + 24) x1 ((((List.length x0) : Nat) : Int)) ((splice (List.replicate (Int.toNat (IntKind.wrap .i64 ((((List.length x0) : Nat) : Int) + (80)))) (0, 0)) 0 (List.take (min (List.length x0) (Int.toNat (IntKind.wrap .i64 ((((List.length x0) : Nat) : Int) + (80))))) x0)))).2.2)))), [], runT_ok (LS := (fun k => if k = 104 then some (l13_0E x1 ((l13_0R m (m + 24) x1 ((((List.length x0) : Nat) : Int)) ((splice (List.replicate (Int.toNat (IntKind.wrap .i64 ((((List.length x0) : Nat) : Int) + (80)))) (0, 0)) 0 (List.take (min (List.length x0) (Int.toNat (IntKind.wrap .i64 ((((List.length x0) : Nat) : Int) + (80))))) x0)))).2.1) ((l13_0R m (m + 24) x1 ((((List.length x0) : Nat) : Int)) ((splice (List.replicate (Int.toNat (IntKind.wrap .i64 ((((List.length x0) : Nat) : Int) + (80)))) (0, 0)) 0 (List.take (min (List.length x0) (Int.toNat (IntKind.wrap .i64 ((((List.length x0) : Nat) : Int) + (80))))) x0)))).2.2) 0) else none)) (fn := fn13) (vis := [(104, [.top, .top, .top, (.ptr 0 0), .top, (.sr 1 0 (Int.toNat (IntKind.wrap .i64 ((((List.length x0) : Nat) : Int) + (80)))) 2 none), (.d (.int .i64 (((List.length x0) : Nat) : Int))), .top, .top, .top, .top, .top, .top, .top, .top, .top, .top, .top, .top, .top, .top, .top, .top, .top, .top, .top, .top], [(.cells [(.d (.int .i64 x1.1)), (.d (.int .i64 x1.2))]), (.arr (.pair (.int .i64) (.int .i64)) (splice (List.replicate (Int.toNat (IntKind.wrap .i64 ((((List.length x0) : Nat) : Int) + (80)))) (0, 0)) 0 (List.take (min (List.length x0) (Int.toNat (IntKind.wrap .i64 ((((List.length x0) : Nat) : Int) + (80))))) x0)) true)])]) (by kernel_rfl) rfl (by kernel_rfl) (M.run_of_path _ [true, true, true, true, true] _ _ (by kernel_rfl) (all_t c0 (all_t c1 (all_t c2 (all_t c3 (all_t (show decide ((0 + (List.length (l13_0R m (m + 24) x1 ((((List.length x0) : Nat) : Int)) ((splice (List.replicate (Int.toNat (IntKind.wrap .i64 ((((List.length x0) : Nat) : Int) + (80)))) (0, 0)) 0 (List.take (min (List.length x0) (Int.toNat (IntKind.wrap .i64 ((((List.length x0) : Nat) : Int) + (80))))) x0)))).2.2)) ≤ (List.length (l13_0R m (m + 24) x1 ((((List.length x0) : Nat) : Int)) ((splice (List.replicate (Int.toNat (IntKind.wrap .i64 ((((List.length x0) : Nat) : Int) + (80)))) (0, 0)) 0 (List.take (min (List.length x0) (Int.toNat (IntKind.wrap .i64 ((((List.length x0) : Nat) : Int) + (80))))) x0)))).2.2)) = true from decide_eq_true (Nat.le_of_eq (Nat.zero_add _))) all_nil)))))) ?_, by simp, (wkR.one (wkV.one (wk1.eq rfl))), trivial⟩
            intro p hp p2 hq
            rcases List.mem_cons.1 hp with rfl | hp
            · skip
              have h3 := l13_0_ok m (m + 24) x1 ((((List.length x0) : Nat) : Int)) ((splice (List.replicate (Int.toNat (IntKind.wrap .i64 ((((List.length x0) : Nat) : Int) + (80)))) (0, 0)) 0 (List.take (min (List.length x0) (Int.toNat (IntKind.wrap .i64 ((((List.length x0) : Nat) : Int) + (80))))) x0))) _ (some_getD (d := l13_0D) c4)
              have h3 := turns_eq (e := [.top, .top, .top, (.ptr 0 0), .top, (.sr 1 0 (Int.toNat (IntKind.wrap .i64 ((((List.length x0) : Nat) : Int) + (80)))) 2 none), (.d (.int .i64 (((List.length x0) : Nat) : Int))), .top, .top, .top, .top, .top, .top, .top, .top, .top, .top, .top, .top, .top, .top, .top, .top, .top, .top, .top, .top]) (B := [(.cells [(.d (.int .i64 x1.1)), (.d (.int .i64 x1.2))]), (.arr (.pair (.int .i64) (.int .i64)) (splice (List.replicate (Int.toNat (IntKind.wrap .i64 ((((List.length x0) : Nat) : Int) + (80)))) (0, 0)) 0 (List.take (min (List.length x0) (Int.toNat (IntKind.wrap .i64 ((((List.length x0) : Nat) : Int) + (80))))) x0)) true)]) (by unfold l13_0H; (try rw [show (List.length (splice (List.replicate (Int.toNat (IntKind.wrap .i64 ((((List.length x0) : Nat) : Int) + (80)))) (0, 0)) 0 (List.take (min (List.length x0) (Int.toNat (IntKind.wrap .i64 ((((List.length x0) : Nat) : Int) + (80))))) x0))) = (Int.toNat (IntKind.wrap .i64 ((((List.length x0) : Nat) : Int) + (80)))) from by simp [splice] <;> omega])) rfl h3
              exact Eq.trans (Eq.mp (by kernel_rfl) h3) hq
            cases hp
          · skip
            cases h
        · skip
          cases h
      · skip
        cases h
    · skip
      cases h
  · skip
    cases h

/-- A list with room behind it. -/
def sroomyG (l : SL) (z : Int × Int) : SL := l ++ List.replicate 80 z
theorem sroomy_loop (m : Nat) (z : Int × Int) : ∀ (n : Nat) (pre post : SL), post.length < n → pre.length + post.length ≤ 2000000 → ∃ j, l13_0 m n z ((pre.length : Nat) : Int) (pre ++ post) = some (0, j, pre ++ List.replicate post.length z)
  | 0, pre, post, h, _ => by omega
  | n + 1, pre, [], h, hb => by
    rw [l13_0]
    have e1 : decide (((pre.length : Nat) : Int) < (((List.length (pre ++ [])) : Nat) : Int)) = false := decide_eq_false (by simp)
    rw [e1, if_neg (by simp)]
    exact ⟨_, rfl⟩
  | n + 1, pre, x :: post, h, hb => by
    rw [l13_0]
    simp only [List.length_cons] at h hb
    have e1 : decide (((pre.length : Nat) : Int) < (((List.length (pre ++ x :: post)) : Nat) : Int)) = true := decide_eq_true (by simp; omega)
    have e2 : decide ((0 : Int) ≤ ((pre.length : Nat) : Int)) = true := decide_eq_true (by omega)
    have e3 : decide ((0 + pre.length) < (List.length (pre ++ x :: post))) = true := decide_eq_true (by simp)
    have e7 : IntKind.wrap .i64 (((pre.length : Nat) : Int) + (1)) = (((pre ++ [z]).length : Nat) : Int) := by rw [wrap_id (by omega) (by omega)]; simp
    have e8 : (pre ++ x :: post).set (0 + pre.length) z = (pre ++ [z]) ++ post := by simp
    rw [show Int.toNat ((pre.length : Nat) : Int) = pre.length from rfl, e7, e8, if_pos e1, if_pos e2, if_pos e3]
    obtain ⟨j, hj⟩ := sroomy_loop m z n (pre ++ [z]) post (by omega) (by simp; omega)
    exact ⟨j, by rw [hj]; simp [List.replicate_succ]⟩
theorem sroomy13 (l : SL) (z : Int × Int) (h : decide (l.length ≤ 1000000) = true) : ∃ m, p13 m l z = some (sroomyG l z) := by
  have h := of_decide_eq_true h
  refine ⟨100, ?_⟩
  have ew : IntKind.wrap .i64 ((((List.length l) : Nat) : Int) + (80)) = ((l.length + 80 : Nat) : Int) := by rw [wrap_id (by omega) (by omega)]; rfl
  have et : Int.toNat ((l.length + 80 : Nat) : Int) = l.length + 80 := rfl
  have em : min (List.length l) (l.length + 80) = l.length := by omega
  have es : splice (List.replicate (l.length + 80) ((0, 0) : Int × Int)) 0 (List.take l.length l) = l ++ List.replicate 80 ((0, 0) : Int × Int) := by
    simp [splice, List.drop_replicate]
  obtain ⟨j, hj⟩ := sroomy_loop 100 z (100 + 24) l (List.replicate 80 ((0, 0) : Int × Int)) (by simp) (by simp; omega)
  simp only [List.length_replicate] at hj
  have e1 : (decide ((0 : Int) ≤ ((l.length + 80 : Nat) : Int)) && decide (((l.length + 80 : Nat) : Int) ≤ ((l.length + 80 : Nat) : Int))) = true := by simp; omega
  have e2 : (decide ((((l.length + 80 : Nat) : Int) * 16) ≤ 70368744177664) && decide (((l.length + 80 : Nat) : Int) ≤ 70368744177664)) = true := by simp; omega
  have e3 : decide (0 ≤ (List.length (List.replicate (l.length + 80) ((0, 0) : Int × Int)))) = true := decide_eq_true (by omega)
  have e4 : decide (l.length ≤ l.length) = true := decide_eq_true (by omega)
  unfold p13 l13_0R sroomyG
  generalize List.replicate 80 z = R at *
  simp only [ew, et, em, es, e1, e2, e3, e4, hj, Option.isSome_some, Option.getD_some, ↓reduceIte]
  rw [List.drop_zero, List.take_length]
  rfl
def s13 : List AV → Boxes → M (AV × Boxes) := normS [.val (.sl (.pair (.int .i64) (.int .i64))), .val (.pair (.int .i64) (.int .i64))] [] fun xs B => match xs, B with
  | [(.d (.sl (.pair (.int .i64) (.int .i64)) c1)), (.agg [(.d (.int .i64 c2)), (.d (.int .i64 c3))])], [] => .chk (decide (List.length c1 ≤ 1000000)) (.ret ((.d (.sl (.pair (.int .i64) (.int .i64)) (sroomyG c1 ((c2, c3))))), []))
  | _, _ => .fail
theorem s13_at : CallAt Try.prog 13 s13 := by
  refine CallAt.norm (CallAt.weakE (g := fun n => evCall F S15 n 13) (fun n => evCall_atH mixed kinds hds S15 S15_ok n 13) fun xs B r' B' hr => ?_) _ _
  split at hr
  · rename_i c1 c2 c3
    obtain ⟨hp, hr⟩ := (M.run_chk _ _ _).1 hr
    simp only [M.run, Option.some.injEq, Prod.mk.injEq] at hr
    obtain ⟨rfl, rfl⟩ := hr
    obtain ⟨m, hm⟩ := sroomy13 c1 ((c2, c3)) hp
    obtain ⟨r, B1, h1, h2, h3, h4⟩ := p13_ok m c1 ((c2, c3)) _ hm
    exact ⟨m + 25, r, B1, h1, by simp, h2, h3, h4⟩
  · simp [M.run] at hr
noncomputable def S16 : FuncId → Option (List AV → Boxes → M (AV × Boxes)) := fun f => if f = 13 then some s13 else S15 f
set_option maxHeartbeats 20000000 in
theorem S16_ok : ∀ f s, S16 f = some s → CallAt Try.prog f s := by
  intro f s h
  unfold S16 at h
  split at h
  · rename_i e; subst e; cases h; exact s13_at
  · exact S15_ok f s h

noncomputable def fn14 : AFn := (F 14).getD ⟨0, [], .bad, false, false, noHd⟩
noncomputable def body14 : AC := fn14.body
def l14_0 (m : Nat) : Nat → List (Int × Int) → Int × Int → Int → Option (Nat × Int)
  | 0, _, _, _ => none
  | n + 1, x0, x2, s7 => if decide (s7 < (((List.length x0) : Nat) : Int)) = true then
      if decide (0 ≤ s7) = true then
        if (((List.getD x0 (Int.toNat s7) (0, 0)).1 == x2.1) && (((List.getD x0 (Int.toNat s7) (0, 0)).2 == x2.2) && true)) = true then
          l14_0 m n x0 x2 ((IntKind.wrap .i64 (s7 + (1))))
        else
          some (0, s7)
      else
        none
    else
      some (1, s7)
def l14_0D : Nat × Int := (0, 0)
@[reducible] def l14_0R (m n : Nat) (x0 : List (Int × Int)) (x2 : Int × Int) (s7 : Int) : Nat × Int := Option.getD (l14_0 m n x0 x2 s7) l14_0D
def l14_0H (x0 : List (Int × Int)) (x2 : Int × Int) (s7 : Int) : Env := [(.d (.sl (.pair (.int .i64) (.int .i64)) x0)), .top, .top, .top, .top, (.ptr 0 0), .top, (.d (.int .i64 s7)), .top, .top, .top, .top, .top, .top, .top, .top, .top, .top, .top, .top, .top, .top, .top, .top, .top, .top, .top, .top, .top, .top, .top, .top, .top, .top, .top, .top, .top]
def l14_0B (x0 : List (Int × Int)) (x2 : Int × Int) (s7 : Int) : Boxes := [(.cells [(.d (.int .i64 x2.1)), (.d (.int .i64 x2.2))])]
def l14_0E (x0 : List (Int × Int)) (x2 : Int × Int) (s7 : Int) : Nat → AEx × Env × Boxes
  | 0 => (.ret, [(.d (.sl (.pair (.int .i64) (.int .i64)) x0)), .top, .top, .top, .top, (.ptr 0 0), (.d (.bool false)), (.d (.int .i64 s7)), .top, .top, .top, .top, .top, .top, .top, .top, .top, .top, .top, .top, .top, .top, .top, .top, .top, (.d (.int .i64 s7)), (.d (.sl (.pair (.int .i64) (.int .i64)) x0)), (.d (.int .i64 (((List.length x0) : Nat) : Int))), (.d (.bool (decide (s7 < (((List.length x0) : Nat) : Int))))), .top, .top, (.d (.sl (.pair (.int .i64) (.int .i64)) x0)), (.d (.int .i64 s7)), (.cptr [(.int .i64 (List.getD x0 (Int.toNat s7) (0, 0)).1), (.int .i64 (List.getD x0 (Int.toNat s7) (0, 0)).2)] 0), (.agg [(.d (.int .i64 (List.getD x0 (Int.toNat s7) (0, 0)).1)), (.d (.int .i64 (List.getD x0 (Int.toNat s7) (0, 0)).2))]), (.agg [(.d (.int .i64 x2.1)), (.d (.int .i64 x2.2))]), (.d (.bool (!(((List.getD x0 (Int.toNat s7) (0, 0)).1 == x2.1) && (((List.getD x0 (Int.toNat s7) (0, 0)).2 == x2.2) && true)))))], [(.cells [(.d (.int .i64 x2.1)), (.d (.int .i64 x2.2))]), .dead, .dead, .dead, .dead, .dead, .dead, .dead, .dead, .dead, .dead, .dead, .dead, .dead, .dead, .dead, .dead, .dead, .dead, .dead, .dead, .dead, .dead, .dead, .dead])
  | _ => (.exit 0, [(.d (.sl (.pair (.int .i64) (.int .i64)) x0)), .top, .top, .top, .top, (.ptr 0 0), .top, (.d (.int .i64 s7)), .top, .top, .top, .top, .top, .top, .top, .top, .top, .top, .top, .top, .top, .top, .top, .top, .top, (.d (.int .i64 s7)), (.d (.sl (.pair (.int .i64) (.int .i64)) x0)), (.d (.int .i64 (((List.length x0) : Nat) : Int))), (.d (.bool (decide (s7 < (((List.length x0) : Nat) : Int))))), .top, .top, .top, .top, .top, .top, .top, .top], [(.cells [(.d (.int .i64 x2.1)), (.d (.int .i64 x2.2))])])
noncomputable def lbl14_0 : AC := loopBody 161 body14

set_option maxHeartbeats 20000000 in
theorem l14_0_w0 (m n : Nat) (x0 : List (Int × Int)) (x2 : Int × Int) (s7 : Int) (r : AEx × Env × Boxes) (c0 : decide (s7 < (((List.length x0) : Nat) : Int)) = true) (c1 : decide (0 ≤ s7) = true) (c3 : (((List.getD x0 (Int.toNat s7) (0, 0)).1 == x2.1) && (((List.getD x0 (Int.toNat s7) (0, 0)).2 == x2.2) && true)) = true) (ih : (turns (hds 14 161) 0 161 (evC byref (evCall F S16 (m + 24)) (m + 24) 0 (hds 14) lbl14_0) n (l14_0H x0 x2 ((IntKind.wrap .i64 (s7 + (1))))) (l14_0B x0 x2 ((IntKind.wrap .i64 (s7 + (1)))))).run = some r) : (turns (hds 14 161) 0 161 (evC byref (evCall F S16 (m + 24)) (m + 24) 0 (hds 14) lbl14_0) (n + 1) (l14_0H x0 x2 s7) (l14_0B x0 x2 s7)).run = some r := by
  exact turns_step (M.run_of_path _ [true, true, true, false] _ _ (by kernel_rfl) (all_t c0 (all_t c1 (all_t c0 (all_nt c3 all_nil))))) ih
set_option maxHeartbeats 20000000 in
theorem l14_0_w1 (m n : Nat) (x0 : List (Int × Int)) (x2 : Int × Int) (s7 : Int) (c0 : decide (s7 < (((List.length x0) : Nat) : Int)) = true) (c1 : decide (0 ≤ s7) = true) (c3 : ¬ (((List.getD x0 (Int.toNat s7) (0, 0)).1 == x2.1) && (((List.getD x0 (Int.toNat s7) (0, 0)).2 == x2.2) && true)) = true) : (turns (hds 14 161) 0 161 (evC byref (evCall F S16 (m + 24)) (m + 24) 0 (hds 14) lbl14_0) (n + 1) (l14_0H x0 x2 s7) (l14_0B x0 x2 s7)).run = some (.ret, [(.d (.sl (.pair (.int .i64) (.int .i64)) x0)), .top, .top, .top, .top, (.ptr 0 0), (.d (.bool false)), (.d (.int .i64 s7)), .top, .top, .top, .top, .top, .top, .top, .top, .top, .top, .top, .top, .top, .top, .top, .top, .top, (.d (.int .i64 s7)), (.d (.sl (.pair (.int .i64) (.int .i64)) x0)), (.d (.int .i64 (((List.length x0) : Nat) : Int))), (.d (.bool (decide (s7 < (((List.length x0) : Nat) : Int))))), .top, .top, (.d (.sl (.pair (.int .i64) (.int .i64)) x0)), (.d (.int .i64 s7)), (.cptr [(.int .i64 (List.getD x0 (Int.toNat s7) (0, 0)).1), (.int .i64 (List.getD x0 (Int.toNat s7) (0, 0)).2)] 0), (.agg [(.d (.int .i64 (List.getD x0 (Int.toNat s7) (0, 0)).1)), (.d (.int .i64 (List.getD x0 (Int.toNat s7) (0, 0)).2))]), (.agg [(.d (.int .i64 x2.1)), (.d (.int .i64 x2.2))]), (.d (.bool (!(((List.getD x0 (Int.toNat s7) (0, 0)).1 == x2.1) && (((List.getD x0 (Int.toNat s7) (0, 0)).2 == x2.2) && true)))))], [(.cells [(.d (.int .i64 x2.1)), (.d (.int .i64 x2.2))]), .dead, .dead, .dead, .dead, .dead, .dead, .dead, .dead, .dead, .dead, .dead, .dead, .dead, .dead, .dead, .dead, .dead, .dead, .dead, .dead, .dead, .dead, .dead, .dead]) := by
  exact turns_last (by simp) (M.run_of_path _ [true, true, true, true] _ _ (by kernel_rfl) (all_t c0 (all_t c1 (all_t c0 (all_nf c3 all_nil))))) 
set_option maxHeartbeats 20000000 in
theorem l14_0_w2 (m n : Nat) (x0 : List (Int × Int)) (x2 : Int × Int) (s7 : Int) (c0 : ¬ decide (s7 < (((List.length x0) : Nat) : Int)) = true) : (turns (hds 14 161) 0 161 (evC byref (evCall F S16 (m + 24)) (m + 24) 0 (hds 14) lbl14_0) (n + 1) (l14_0H x0 x2 s7) (l14_0B x0 x2 s7)).run = some (.exit 0, [(.d (.sl (.pair (.int .i64) (.int .i64)) x0)), .top, .top, .top, .top, (.ptr 0 0), .top, (.d (.int .i64 s7)), .top, .top, .top, .top, .top, .top, .top, .top, .top, .top, .top, .top, .top, .top, .top, .top, .top, (.d (.int .i64 s7)), (.d (.sl (.pair (.int .i64) (.int .i64)) x0)), (.d (.int .i64 (((List.length x0) : Nat) : Int))), (.d (.bool (decide (s7 < (((List.length x0) : Nat) : Int))))), .top, .top, .top, .top, .top, .top, .top, .top], [(.cells [(.d (.int .i64 x2.1)), (.d (.int .i64 x2.2))])]) := by
  exact turns_last (by simp) (M.run_of_path _ [false] _ _ (by kernel_rfl) (all_f c0 all_nil)) 

set_option maxHeartbeats 20000000 in
theorem l14_0_step (m n : Nat) (ih : ∀ (x0 : List (Int × Int)) (x2 : Int × Int) (s7 : Int) (q : Nat × Int), l14_0 m n x0 x2 s7 = some q → (turns (hds 14 161) 0 161 (evC byref (evCall F S16 (m + 24)) (m + 24) 0 (hds 14) lbl14_0) n (l14_0H x0 x2 s7) (l14_0B x0 x2 s7)).run = some (l14_0E (x0) (x2) (q.2) q.1)) (x0 : List (Int × Int)) (x2 : Int × Int) (s7 : Int) (q : Nat × Int) (h : l14_0 m (n + 1) x0 x2 s7 = some q) : (turns (hds 14 161) 0 161 (evC byref (evCall F S16 (m + 24)) (m + 24) 0 (hds 14) lbl14_0) (n + 1) (l14_0H x0 x2 s7) (l14_0B x0 x2 s7)).run = some (l14_0E (x0) (x2) (q.2) q.1) := by
  rw [l14_0] at h
  refine ite_cases h (fun c0 h => ?_) (fun c0 h => ?_)
  · skip
    refine ite_cases h (fun c1 h => ?_) (fun c1 h => ?_)
    · skip
      refine ite_cases h (fun c3 h => ?_) (fun c3 h => ?_)
      · skip
        exact l14_0_w0 m n x0 x2 s7 _ c0 c1 c3 (ih _ _ _ q h)
      · skip
        cases h
        exact l14_0_w1 m n x0 x2 s7 c0 c1 c3
    · skip
      cases h
  · skip
    cases h
    exact l14_0_w2 m n x0 x2 s7 c0
set_option maxHeartbeats 20000000 in
theorem l14_0_ok (m : Nat) : ∀ (n : Nat) (x0 : List (Int × Int)) (x2 : Int × Int) (s7 : Int) (q : Nat × Int), l14_0 m n x0 x2 s7 = some q → (turns (hds 14 161) 0 161 (evC byref (evCall F S16 (m + 24)) (m + 24) 0 (hds 14) lbl14_0) n (l14_0H x0 x2 s7) (l14_0B x0 x2 s7)).run = some (l14_0E (x0) (x2) (q.2) q.1)
  | 0, x0, x2, s7, q, h => by cases h
  | n + 1, x0, x2, s7, q, h => l14_0_step m n (l14_0_ok m n) x0 x2 s7 q h

def p14 (m : Nat) (x0 : List (Int × Int)) (x1 : List (Int × Int)) (x2 : Int × Int) : Option (Bool) :=
  if ((((List.length x0) : Nat) : Int) != (IntKind.wrap .i64 ((((List.length x1) : Nat) : Int) + (80)))) = true then
    some (false)
  else
    if (decide (0 ≤ (((List.length x1) : Nat) : Int)) && decide ((((List.length x1) : Nat) : Int) ≤ (((List.length x0) : Nat) : Int))) = true then
      if decide (List.length (List.drop 0 (List.take (Int.toNat (((List.length x1) : Nat) : Int)) x0)) < 4611686018427387904) = true then
        if ((show List (Int × Int) from (List.drop 0 (List.take (Int.toNat (((List.length x1) : Nat) : Int)) x0))) == x1) = true then
          if (Option.isSome (l14_0 m (m + 24) x0 x2 ((((List.length x1) : Nat) : Int)))) = true then
            if ((l14_0R m (m + 24) x0 x2 ((((List.length x1) : Nat) : Int))).1 == 0) = true then
              some (false)
            else
              if ((l14_0R m (m + 24) x0 x2 ((((List.length x1) : Nat) : Int))).1 == 1) = true then
                some (true)
              else
                none
          else
            none
        else
          some (false)
      else
        none
    else
      none
set_option maxHeartbeats 20000000 in
theorem p14_ok (m : Nat) (x0 : List (Int × Int)) (x1 : List (Int × Int)) (x2 : Int × Int) (q : Bool) (h : p14 m x0 x1 x2 = some q) : ∃ r B1, (evCall F S16 (m + 25) 14 [(.d (.sl (.pair (.int .i64) (.int .i64)) x0)), (.d (.sl (.pair (.int .i64) (.int .i64)) x1)), (.agg [(.d (.int .i64 x2.1)), (.d (.int .i64 x2.2))])] []).run = some (r, B1) ∧ 0 ≤ B1.length ∧ wkR B1 [] r (.d (.bool (q))) ∧ wkBs B1 [] 0 [] := by
  unfold p14 at h
  refine ite_cases h (fun c0 h => ?_) (fun c0 h => ?_)
  · skip
    cases h
    refine ⟨(.d (.bool false)), [], runT_ok (LS := (fun k => none)) (fn := fn14) (vis := []) (by kernel_rfl) rfl (by kernel_rfl) (M.run_of_path _ [true, true, true, true, true, true, true, true, true] _ _ (by kernel_rfl) (all_t c0 (all_t c0 (all_t c0 (all_t c0 (all_t c0 (all_t c0 (all_t c0 (all_t c0 (all_t rfl all_nil)))))))))) ?_, by simp, (wkR.one (wkV.one (wk1.eq rfl))), trivial⟩
    intro p hp; cases hp
  · skip
    refine ite_cases h (fun c4 h => ?_) (fun c4 h => ?_)
    · skip
      refine ite_cases h (fun c7 h => ?_) (fun c7 h => ?_)
      · skip
        refine ite_cases h (fun c10 h => ?_) (fun c10 h => ?_)
        · skip
          refine ite_cases h (fun c11 h => ?_) (fun c11 h => ?_)
          · skip
            refine ite_cases h (fun c12 h => ?_) (fun c12 h => ?_)
            · skip
              cases h
              refine ⟨(.d (.bool false)), [], runT_ok (LS := (fun k => if k = 161 then some (l14_0E x0 x2 ((l14_0R m (m + 24) x0 x2 ((((List.length x1) : Nat) : Int))).2) 0) else none)) (fn := fn14) (vis := [(161, l14_0H x0 x2 ((((List.length x1) : Nat) : Int)), l14_0B x0 x2 ((((List.length x1) : Nat) : Int)))]) (by kernel_rfl) rfl (by kernel_rfl) (M.run_of_path _ [false, false, false, false, true, false, false, true, false, false, false] _ _ (by kernel_rfl) (all_f c0 (all_f c0 (all_f c0 (all_f c0 (all_t c4 (all_f c0 (all_f c0 (all_t c7 (all_f c0 (all_f c0 (all_nt c10 all_nil)))))))))))) ?_, by simp, (wkR.one (wkV.one (wk1.eq rfl))), trivial⟩
              intro p hp p2 hq
              rcases List.mem_cons.1 hp with rfl | hp
              · skip
                have h3 := l14_0_ok m (m + 24) x0 x2 ((((List.length x1) : Nat) : Int)) _ (some_getD (d := l14_0D) c11)
                rw [eq_of_beq c12] at h3
                exact Eq.trans (Eq.mp (by kernel_rfl) h3) hq
              cases hp
            · skip
              refine ite_cases h (fun c13 h => ?_) (fun c13 h => ?_)
              · skip
                cases h
                refine ⟨(.d (.bool true)), [], runT_ok (LS := (fun k => if k = 161 then some (l14_0E x0 x2 ((l14_0R m (m + 24) x0 x2 ((((List.length x1) : Nat) : Int))).2) 1) else none)) (fn := fn14) (vis := [(161, l14_0H x0 x2 ((((List.length x1) : Nat) : Int)), l14_0B x0 x2 ((((List.length x1) : Nat) : Int)))]) (by kernel_rfl) rfl (by kernel_rfl) (M.run_of_path _ [false, false, false, false, true, false, false, true, false, false, false] _ _ (by kernel_rfl) (all_f c0 (all_f c0 (all_f c0 (all_f c0 (all_t c4 (all_f c0 (all_f c0 (all_t c7 (all_f c0 (all_f c0 (all_nt c10 all_nil)))))))))))) ?_, by simp, (wkR.one (wkV.one (wk1.eq rfl))), trivial⟩
                intro p hp p2 hq
                rcases List.mem_cons.1 hp with rfl | hp
                · skip
                  have h3 := l14_0_ok m (m + 24) x0 x2 ((((List.length x1) : Nat) : Int)) _ (some_getD (d := l14_0D) c11)
                  rw [eq_of_beq c13] at h3
                  exact Eq.trans (Eq.mp (by kernel_rfl) h3) hq
                cases hp
              · skip
                cases h
          · skip
            cases h
        · skip
          cases h
          refine ⟨(.d (.bool false)), [], runT_ok (LS := (fun k => none)) (fn := fn14) (vis := []) (by kernel_rfl) rfl (by kernel_rfl) (M.run_of_path _ [false, false, false, false, true, false, false, true, false, false, true] _ _ (by kernel_rfl) (all_f c0 (all_f c0 (all_f c0 (all_f c0 (all_t c4 (all_f c0 (all_f c0 (all_t c7 (all_f c0 (all_f c0 (all_nf c10 all_nil)))))))))))) ?_, by simp, (wkR.one (wkV.one (wk1.eq rfl))), trivial⟩
          intro p hp; cases hp
      · skip
        cases h
    · skip
      cases h

/-- Is such a list as it was? -/
def sintactG (f was : SL) (z : Int × Int) : Bool := decide (f = was ++ List.replicate 80 z)
theorem sintact_loop (m : Nat) (f : SL) (z : Int × Int) (hb : f.length ≤ 1000000) : ∀ (n k : Nat), k ≤ f.length → f.length - k < n → ∃ j, l14_0 m n f z ((k : Nat) : Int) = some (if f.drop k = List.replicate (f.length - k) z then 1 else 0, j)
  | 0, k, _, h => by omega
  | n + 1, k, h1, h2 => by
    rw [l14_0]
    by_cases hk : k < f.length
    · have e1 : decide (((k : Nat) : Int) < (((List.length f) : Nat) : Int)) = true := decide_eq_true (by omega)
      have e2 : decide ((0 : Int) ≤ ((k : Nat) : Int)) = true := decide_eq_true (by omega)
      have e7 : IntKind.wrap .i64 (((k : Nat) : Int) + (1)) = ((k + 1 : Nat) : Int) := by rw [wrap_id (by omega) (by omega)]; rfl
      rw [drop_getD f k (0, 0) hk, e7, if_pos e1, if_pos e2, show f.length - k = (f.length - (k + 1)) + 1 by omega, List.replicate_succ, show Int.toNat ((k : Nat) : Int) = k from rfl]
      by_cases hc : f.getD k (0, 0) = z
      · have e3 : (((f.getD k (0, 0)).1 == z.1) && (((f.getD k (0, 0)).2 == z.2) && true)) = true := by rw [hc]; simp
        rw [if_pos e3]
        obtain ⟨j, hj⟩ := sintact_loop m f z hb n (k + 1) (by omega) (by omega)
        refine ⟨j, ?_⟩
        rw [hj]
        have hc' : (f.getD k (0, 0) :: f.drop (k + 1) = z :: List.replicate (f.length - (k + 1)) z) = (f.drop (k + 1) = List.replicate (f.length - (k + 1)) z) := by rw [List.cons.injEq]; simp only [hc, true_and]
        simp only [hc']
      · have e3 : ¬ (((f.getD k (0, 0)).1 == z.1) && (((f.getD k (0, 0)).2 == z.2) && true)) = true := by
          intro h; simp at h; exact hc (Prod.ext h.1 h.2)
        rw [if_neg e3, if_neg (by simp only [List.cons.injEq, hc, false_and, not_false_eq_true])]
        exact ⟨_, rfl⟩
    · have e1 : decide (((k : Nat) : Int) < (((List.length f) : Nat) : Int)) = false := decide_eq_false (by omega)
      rw [e1, if_neg (by simp), List.drop_eq_nil_of_le (by omega), show f.length - k = 0 by omega]
      exact ⟨_, rfl⟩
theorem sintact14 (f was : SL) (z : Int × Int) (h : decide (f.length ≤ 1000000 ∧ was.length ≤ 1000000) = true) : ∃ m, p14 m f was z = some (sintactG f was z) := by
  have ⟨h, hw⟩ := of_decide_eq_true h
  refine ⟨f.length, ?_⟩
  unfold p14 l14_0R sintactG
  by_cases hl : f.length = was.length + 80
  · have ew : IntKind.wrap .i64 ((((List.length was) : Nat) : Int) + (80)) = (((List.length f) : Nat) : Int) := by rw [wrap_id (by omega) (by omega)]; omega
    have e1 : (decide ((0 : Int) ≤ (((List.length was) : Nat) : Int)) && decide ((((List.length was) : Nat) : Int) ≤ (((List.length f) : Nat) : Int))) = true := by simp; omega
    have e2 : decide (List.length (List.drop 0 (List.take was.length f)) < 4611686018427387904) = true := decide_eq_true (by simp; omega)
    have e3 : ((((List.length f) : Nat) : Int) != (((List.length f) : Nat) : Int)) = false := by simp
    obtain ⟨j, hj⟩ := sintact_loop f.length f z h (f.length + 24) was.length (by omega) (by omega)
    rw [show f.length - was.length = 80 by omega] at hj
    have split : f = was ++ List.replicate 80 z ↔ f.take was.length = was ∧ f.drop was.length = List.replicate 80 z := by
      constructor
      · intro e; rw [e]; simp
      · rintro ⟨q1, q2⟩; rw [← q1, ← q2] ; simp
    have hno0 : f.take was.length ≠ was → ¬ f = was ++ List.replicate 80 z := fun q e => q (split.1 e).1
    generalize List.replicate 80 z = R at *
    rw [show Int.toNat ((was.length : Nat) : Int) = was.length from rfl, ew]
    simp only [e1, e2, e3, hj, Option.isSome_some, Option.getD_some, ↓reduceIte, Bool.false_eq_true]
    by_cases q1 : f.take was.length = was
    · by_cases q2 : f.drop was.length = R
      · simp [split, q1, q2]
      · simp [split, q1, q2]
    · simp [split, q1]
  · have ew : ((((List.length f) : Nat) : Int) != IntKind.wrap .i64 ((((List.length was) : Nat) : Int) + (80))) = true := by
      rw [wrap_id (by omega) (by omega)]; simp; omega
    have hno : ¬ f = was ++ List.replicate 80 z := fun e => hl (by rw [e]; simp)
    generalize List.replicate 80 z = R at *
    rw [if_pos ew]
    simp [hno]
def s14 : List AV → Boxes → M (AV × Boxes) := normS [.val (.sl (.pair (.int .i64) (.int .i64))), .val (.sl (.pair (.int .i64) (.int .i64))), .val (.pair (.int .i64) (.int .i64))] [] fun xs B => match xs, B with
  | [(.d (.sl (.pair (.int .i64) (.int .i64)) c1)), (.d (.sl (.pair (.int .i64) (.int .i64)) c2)), (.agg [(.d (.int .i64 c3)), (.d (.int .i64 c4))])], [] => .chk (decide (List.length c1 ≤ 1000000 ∧ List.length c2 ≤ 1000000)) (.ret ((.d (.bool (sintactG c1 c2 ((c3, c4))))), []))
  | _, _ => .fail
theorem s14_at : CallAt Try.prog 14 s14 := by
  refine CallAt.norm (CallAt.weakE (g := fun n => evCall F S16 n 14) (fun n => evCall_atH mixed kinds hds S16 S16_ok n 14) fun xs B r' B' hr => ?_) _ _
  split at hr
  · rename_i c1 c2 c3 c4
    obtain ⟨hp, hr⟩ := (M.run_chk _ _ _).1 hr
    simp only [M.run, Option.some.injEq, Prod.mk.injEq] at hr
    obtain ⟨rfl, rfl⟩ := hr
    obtain ⟨m, hm⟩ := sintact14 c1 c2 ((c3, c4)) hp
    obtain ⟨r, B1, h1, h2, h3, h4⟩ := p14_ok m c1 c2 ((c3, c4)) _ hm
    exact ⟨m + 25, r, B1, h1, by simp, h2, h3, h4⟩
  · simp [M.run] at hr
noncomputable def S17 : FuncId → Option (List AV → Boxes → M (AV × Boxes)) := fun f => if f = 14 then some s14 else S16 f
set_option maxHeartbeats 20000000 in
theorem S17_ok : ∀ f s, S17 f = some s → CallAt Try.prog f s := by
  intro f s h
  unfold S17 at h
  split at h
  · rename_i e; subst e; cases h; exact s14_at
  · exact S16_ok f s h

noncomputable def fn20 : AFn := (F 20).getD ⟨0, [], .bad, false, false, noHd⟩
noncomputable def body20 : AC := fn20.body
def l20_0 (m : Nat) : Nat → Int → Int → List Int → Option (Nat × Int × (List Int))
  | 0, _, _, _ => none
  | n + 1, x1, s6, b0 => if decide (s6 < (((List.length b0) : Nat) : Int)) = true then
      if decide (0 ≤ s6) = true then
        if decide ((0 + (Int.toNat s6)) < (List.length b0)) = true then
          l20_0 m n x1 ((IntKind.wrap .i64 (s6 + (1)))) ((List.set b0 (0 + (Int.toNat s6)) x1))
        else
          none
      else
        none
    else
      some (0, s6, b0)
def l20_0D : Nat × Int × (List Int) := (0, 0, [])
@[reducible] def l20_0R (m n : Nat) (x1 : Int) (s6 : Int) (b0 : List Int) : Nat × Int × (List Int) := Option.getD (l20_0 m n x1 s6 b0) l20_0D
def l20_0H (x1 : Int) (s6 : Int) (b0 : List Int) : Env := [.top, (.d (.int .u8 x1)), .top, .top, .top, (.sr 0 0 (List.length b0) 1 none), (.d (.int .i64 s6)), .top, .top, .top, .top, .top, .top, .top, .top, .top, .top, .top, .top, .top, .top, .top, .top, .top, .top, .top, .top]
def l20_0B (x1 : Int) (s6 : Int) (b0 : List Int) : Boxes := [(.arr (.int .u8) b0 true)]
def l20_0E (x1 : Int) (s6 : Int) (b0 : List Int) : Nat → AEx × Env × Boxes
  | _ => (.exit 0, [.top, (.d (.int .u8 x1)), .top, .top, .top, (.sr 0 0 (List.length b0) 1 none), (.d (.int .i64 s6)), .top, .top, .top, .top, .top, .top, .top, .top, .top, (.d (.int .i64 s6)), (.sr 0 0 (List.length b0) 1 none), (.d (.int .i64 (((List.length b0) : Nat) : Int))), (.d (.bool (decide (s6 < (((List.length b0) : Nat) : Int))))), .top, .top, .top, .top, .top, .top, .top], [(.arr (.int .u8) b0 true)])
noncomputable def lbl20_0 : AC := loopBody 98 body20

set_option maxHeartbeats 20000000 in
theorem l20_0_w0 (m n : Nat) (x1 : Int) (s6 : Int) (b0 : List Int) (r : AEx × Env × Boxes) (c0 : decide (s6 < (((List.length b0) : Nat) : Int)) = true) (c1 : decide (0 ≤ s6) = true) (c3 : decide ((0 + (Int.toNat s6)) < (List.length b0)) = true) (ih : (turns (hds 20 98) 0 98 (evC byref (evCall F S17 (m + 24)) (m + 24) 0 (hds 20) lbl20_0) n (l20_0H x1 ((IntKind.wrap .i64 (s6 + (1)))) ((List.set b0 (0 + (Int.toNat s6)) x1))) (l20_0B x1 ((IntKind.wrap .i64 (s6 + (1)))) ((List.set b0 (0 + (Int.toNat s6)) x1)))).run = some r) : (turns (hds 20 98) 0 98 (evC byref (evCall F S17 (m + 24)) (m + 24) 0 (hds 20) lbl20_0) (n + 1) (l20_0H x1 s6 b0) (l20_0B x1 s6 b0)).run = some r := by
  have ht : (turn (hds 20 98) 0 98 (evC byref (evCall F S17 (m + 24)) (m + 24) 0 (hds 20) lbl20_0) (l20_0H x1 s6 b0) (l20_0B x1 s6 b0)).run = some (.normal, [.top, (.d (.int .u8 x1)), .top, .top, .top, (.sr 0 0 (List.length b0) 1 none), (.d (.int .i64 (IntKind.wrap .i64 (s6 + (1))))), .top, .top, .top, .top, .top, .top, .top, .top, .top, .top, .top, .top, .top, .top, .top, .top, .top, .top, .top, .top], [(.arr (.int .u8) (List.set b0 (0 + (Int.toNat s6)) x1) true)]) := M.run_of_path _ [true, true, true, true] _ _ (by kernel_rfl) (all_t c0 (all_t c1 (all_t c0 (all_t c3 all_nil))))
  refine turns_step ht (turns_eq ?_ ?_ ih)
  · unfold l20_0H
    first | (simp; done) | (simp [Nat.add_assoc]; done)
  · unfold l20_0B
    simp
set_option maxHeartbeats 20000000 in
theorem l20_0_w1 (m n : Nat) (x1 : Int) (s6 : Int) (b0 : List Int) (c0 : ¬ decide (s6 < (((List.length b0) : Nat) : Int)) = true) : (turns (hds 20 98) 0 98 (evC byref (evCall F S17 (m + 24)) (m + 24) 0 (hds 20) lbl20_0) (n + 1) (l20_0H x1 s6 b0) (l20_0B x1 s6 b0)).run = some (.exit 0, [.top, (.d (.int .u8 x1)), .top, .top, .top, (.sr 0 0 (List.length b0) 1 none), (.d (.int .i64 s6)), .top, .top, .top, .top, .top, .top, .top, .top, .top, (.d (.int .i64 s6)), (.sr 0 0 (List.length b0) 1 none), (.d (.int .i64 (((List.length b0) : Nat) : Int))), (.d (.bool (decide (s6 < (((List.length b0) : Nat) : Int))))), .top, .top, .top, .top, .top, .top, .top], [(.arr (.int .u8) b0 true)]) := by
  exact turns_last (by simp) (M.run_of_path _ [false] _ _ (by kernel_rfl) (all_f c0 all_nil)) 

set_option maxHeartbeats 20000000 in
theorem l20_0_step (m n : Nat) (ih : ∀ (x1 : Int) (s6 : Int) (b0 : List Int) (q : Nat × Int × (List Int)), l20_0 m n x1 s6 b0 = some q → (turns (hds 20 98) 0 98 (evC byref (evCall F S17 (m + 24)) (m + 24) 0 (hds 20) lbl20_0) n (l20_0H x1 s6 b0) (l20_0B x1 s6 b0)).run = some (l20_0E (x1) (q.2.1) (q.2.2) q.1)) (x1 : Int) (s6 : Int) (b0 : List Int) (q : Nat × Int × (List Int)) (h : l20_0 m (n + 1) x1 s6 b0 = some q) : (turns (hds 20 98) 0 98 (evC byref (evCall F S17 (m + 24)) (m + 24) 0 (hds 20) lbl20_0) (n + 1) (l20_0H x1 s6 b0) (l20_0B x1 s6 b0)).run = some (l20_0E (x1) (q.2.1) (q.2.2) q.1) := by
  rw [l20_0] at h
  refine ite_cases h (fun c0 h => ?_) (fun c0 h => ?_)
  · skip
    refine ite_cases h (fun c1 h => ?_) (fun c1 h => ?_)
    · skip
      refine ite_cases h (fun c3 h => ?_) (fun c3 h => ?_)
      · skip
        exact l20_0_w0 m n x1 s6 b0 _ c0 c1 c3 (ih _ _ _ q h)
      · skip
        cases h
    · skip
      cases h
  · skip
    cases h
    exact l20_0_w1 m n x1 s6 b0 c0
set_option maxHeartbeats 20000000 in
theorem l20_0_ok (m : Nat) : ∀ (n : Nat) (x1 : Int) (s6 : Int) (b0 : List Int) (q : Nat × Int × (List Int)), l20_0 m n x1 s6 b0 = some q → (turns (hds 20 98) 0 98 (evC byref (evCall F S17 (m + 24)) (m + 24) 0 (hds 20) lbl20_0) n (l20_0H x1 s6 b0) (l20_0B x1 s6 b0)).run = some (l20_0E (x1) (q.2.1) (q.2.2) q.1)
  | 0, x1, s6, b0, q, h => by cases h
  | n + 1, x1, s6, b0, q, h => l20_0_step m n (l20_0_ok m n) x1 s6 b0 q h

def p20 (m : Nat) (x0 : List Int) (x1 : Int) : Option ((List Int)) :=
  if (decide (0 ≤ (IntKind.wrap .i64 ((((List.length x0) : Nat) : Int) + (80)))) && decide ((IntKind.wrap .i64 ((((List.length x0) : Nat) : Int) + (80))) ≤ (IntKind.wrap .i64 ((((List.length x0) : Nat) : Int) + (80))))) = true then
    if (decide (((IntKind.wrap .i64 ((((List.length x0) : Nat) : Int) + (80))) * 1) ≤ 70368744177664) && decide ((IntKind.wrap .i64 ((((List.length x0) : Nat) : Int) + (80))) ≤ 70368744177664)) = true then
      if decide (0 ≤ (List.length (List.replicate (Int.toNat (IntKind.wrap .i64 ((((List.length x0) : Nat) : Int) + (80)))) 0))) = true then
        if decide ((min (List.length x0) (Int.toNat (IntKind.wrap .i64 ((((List.length x0) : Nat) : Int) + (80))))) ≤ (List.length x0)) = true then
          if (Option.isSome (l20_0 m (m + 24) x1 ((((List.length x0) : Nat) : Int)) ((splice (List.replicate (Int.toNat (IntKind.wrap .i64 ((((List.length x0) : Nat) : Int) + (80)))) 0) 0 (List.take (min (List.length x0) (Int.toNat (IntKind.wrap .i64 ((((List.length x0) : Nat) : Int) + (80))))) x0))))) = true then
            some ((List.take (List.length (l20_0R m (m + 24) x1 ((((List.length x0) : Nat) : Int)) ((splice (List.replicate (Int.toNat (IntKind.wrap .i64 ((((List.length x0) : Nat) : Int) + (80)))) 0) 0 (List.take (min (List.length x0) (Int.toNat (IntKind.wrap .i64 ((((List.length x0) : Nat) : Int) + (80))))) x0)))).2.2) (List.drop 0 (l20_0R m (m + 24) x1 ((((List.length x0) : Nat) : Int)) ((splice (List.replicate (Int.toNat (IntKind.wrap .i64 ((((List.length x0) : Nat) : Int) + (80)))) 0) 0 (List.take (min (List.length x0) (Int.toNat (IntKind.wrap .i64 ((((List.length x0) : Nat) : Int) + (80))))) x0)))).2.2)))
          else
            none
        else
          none
      else
        none
    else
      none
  else
    none
set_option maxHeartbeats 20000000 in
theorem p20_ok (m : Nat) (x0 : List Int) (x1 : Int) (q : (List Int)) (h : p20 m x0 x1 = some q) : ∃ r B1, (evCall F S17 (m + 25) 20 [(.d (.sl (.int .u8) x0)), (.d (.int .u8 x1))] []).run = some (r, B1) ∧ 0 ≤ B1.length ∧ wkR B1 [] r (.d (.sl (.int .u8) q)) ∧ wkBs B1 [] 0 [] := by
  unfold p20 at h
  refine ite_cases h (fun c0 h => ?_) (fun c0 h => ?_)
  · skip
    refine ite_cases h (fun c1 h => ?_) (fun c1 h => ?_)
    · skip
      refine ite_cases h (fun c2 h => ?_) (fun c2 h => ?_)
      · skip
        refine ite_cases h (fun c3 h => ?_) (fun c3 h => ?_)
        · skip
          refine ite_cases h (fun c4 h => ?_) (fun c4 h => ?_)
          · skip
            cases h
            refine ⟨(.d (.sl (.int .u8) (List.take (List.length (l20_0R m (m + 24) x1 ((((List.length x0) : Nat) : Int)) ((splice (List.replicate (Int.toNat (IntKind.wrap .i64 ((((List.length x0) : Nat) : Int) + (80)))) 0) 0 (List.take (min (List.length x0) (Int.toNat (IntKind.wrap .i64 ((((List.length x0) : Nat) : Int) + (80))))) x0)))).2.2) (List.drop 0 (l20_0R m (m + 24) x1 ((((List.length x0) : Nat) : Int)) ((splice (List.replicate (Int.toNat (IntKind.wrap .i64 ((((List.length x0) : Nat) : Int) + (80)))) 0) 0 (List.take (min (List.length x0) (Int.toNat (IntKind.wrap .i64 ((((List.length x0) : Nat) : Int) + (80))))) x0)))).2.2)))), [], runT_ok (LS := (fun k => if k = 98 then some (l20_0E x1 ((l20_0R m (m + 24) x1 ((((List.length x0) : Nat) : Int)) ((splice (List.replicate (Int.toNat (IntKind.wrap .i64 ((((List.length x0) : Nat) : Int) + (80)))) 0) 0 (List.take (min (List.length x0) (Int.toNat (IntKind.wrap .i64 ((((List.length x0) : Nat) : Int) + (80))))) x0)))).2.1) ((l20_0R m (m + 24) x1 ((((List.length x0) : Nat) : Int)) ((splice (List.replicate (Int.toNat (IntKind.wrap .i64 ((((List.length x0) : Nat) : Int) + (80)))) 0) 0 (List.take (min (List.length x0) (Int.toNat (IntKind.wrap .i64 ((((List.length x0) : Nat) : Int) + (80))))) x0)))).2.2) 0) else none)) (fn := fn20) (vis := [(98, [.top, (.d (.int .u8 x1)), .top, .top, .top, (.sr 0 0 (Int.toNat (IntKind.wrap .i64 ((((List.length x0) : Nat) : Int) + (80)))) 1 none), (.d (.int .i64 (((List.length x0) : Nat) : Int))), .top, .top, .top, .top, .top, .top, .top, .top, .top, .top, .top, .top, .top, .top, .top, .top, .top, .top, .top, .top], [(.arr (.int .u8) (splice (List.replicate (Int.toNat (IntKind.wrap .i64 ((((List.length x0) : Nat) : Int) + (80)))) 0) 0 (List.take (min (List.length x0) (Int.toNat (IntKind.wrap .i64 ((((List.length x0) : Nat) : Int) + (80))))) x0)) true)])]) (by kernel_rfl) rfl (by kernel_rfl) (M.run_of_path _ [true, true, true, true, true] _ _ (by kernel_rfl) (all_t c0 (all_t c1 (all_t c2 (all_t c3 (all_t (show decide ((0 + (List.length (l20_0R m (m + 24) x1 ((((List.length x0) : Nat) : Int)) ((splice (List.replicate (Int.toNat (IntKind.wrap .i64 ((((List.length x0) : Nat) : Int) + (80)))) 0) 0 (List.take (min (List.length x0) (Int.toNat (IntKind.wrap .i64 ((((List.length x0) : Nat) : Int) + (80))))) x0)))).2.2)) ≤ (List.length (l20_0R m (m + 24) x1 ((((List.length x0) : Nat) : Int)) ((splice (List.replicate (Int.toNat (IntKind.wrap .i64 ((((List.length x0) : Nat) : Int) + (80)))) 0) 0 (List.take (min (List.length x0) (Int.toNat (IntKind.wrap .i64 ((((List.length x0) : Nat) : Int) + (80))))) x0)))).2.2)) = true from decide_eq_true (Nat.le_of_eq (Nat.zero_add _))) all_nil)))))) ?_, by simp, (wkR.one (wkV.one (wk1.eq rfl))), trivial⟩
            intro p hp p2 hq
            rcases List.mem_cons.1 hp with rfl | hp
            · skip
              have h3 := l20_0_ok m (m + 24) x1 ((((List.length x0) : Nat) : Int)) ((splice (List.replicate (Int.toNat (IntKind.wrap .i64 ((((List.length x0) : Nat) : Int) + (80)))) 0) 0 (List.take (min (List.length x0) (Int.toNat (IntKind.wrap .i64 ((((List.length x0) : Nat) : Int) + (80))))) x0))) _ (some_getD (d := l20_0D) c4)
              have h3 := turns_eq (e := [.top, (.d (.int .u8 x1)), .top, .top, .top, (.sr 0 0 (Int.toNat (IntKind.wrap .i64 ((((List.length x0) : Nat) : Int) + (80)))) 1 none), (.d (.int .i64 (((List.length x0) : Nat) : Int))), .top, .top, .top, .top, .top, .top, .top, .top, .top, .top, .top, .top, .top, .top, .top, .top, .top, .top, .top, .top]) (B := [(.arr (.int .u8) (splice (List.replicate (Int.toNat (IntKind.wrap .i64 ((((List.length x0) : Nat) : Int) + (80)))) 0) 0 (List.take (min (List.length x0) (Int.toNat (IntKind.wrap .i64 ((((List.length x0) : Nat) : Int) + (80))))) x0)) true)]) (by unfold l20_0H; (try rw [show (List.length (splice (List.replicate (Int.toNat (IntKind.wrap .i64 ((((List.length x0) : Nat) : Int) + (80)))) 0) 0 (List.take (min (List.length x0) (Int.toNat (IntKind.wrap .i64 ((((List.length x0) : Nat) : Int) + (80))))) x0))) = (Int.toNat (IntKind.wrap .i64 ((((List.length x0) : Nat) : Int) + (80)))) from by simp [splice] <;> omega])) rfl h3
              exact Eq.trans (Eq.mp (by kernel_rfl) h3) hq
            cases hp
          · skip
            cases h
        · skip
          cases h
      · skip
        cases h
    · skip
      cases h
  · skip
    cases h

/-- A list with room behind it. -/
def broomyG (l : List Int) (z : Int) : List Int := l ++ List.replicate 80 z
theorem broomy_loop (m : Nat) (z : Int) : ∀ (n : Nat) (pre post : List Int), post.length < n → pre.length + post.length ≤ 2000000 → ∃ j, l20_0 m n z ((pre.length : Nat) : Int) (pre ++ post) = some (0, j, pre ++ List.replicate post.length z)
  | 0, pre, post, h, _ => by omega
  | n + 1, pre, [], h, hb => by
    rw [l20_0]
    have e1 : decide (((pre.length : Nat) : Int) < (((List.length (pre ++ [])) : Nat) : Int)) = false := decide_eq_false (by simp)
    rw [e1, if_neg (by simp)]
    exact ⟨_, rfl⟩
  | n + 1, pre, x :: post, h, hb => by
    rw [l20_0]
    simp only [List.length_cons] at h hb
    have e1 : decide (((pre.length : Nat) : Int) < (((List.length (pre ++ x :: post)) : Nat) : Int)) = true := decide_eq_true (by simp; omega)
    have e2 : decide ((0 : Int) ≤ ((pre.length : Nat) : Int)) = true := decide_eq_true (by omega)
    have e3 : decide ((0 + pre.length) < (List.length (pre ++ x :: post))) = true := decide_eq_true (by simp)
    have e7 : IntKind.wrap .i64 (((pre.length : Nat) : Int) + (1)) = (((pre ++ [z]).length : Nat) : Int) := by rw [wrap_id (by omega) (by omega)]; simp
    have e8 : (pre ++ x :: post).set (0 + pre.length) z = (pre ++ [z]) ++ post := by simp
    rw [show Int.toNat ((pre.length : Nat) : Int) = pre.length from rfl, e7, e8, if_pos e1, if_pos e2, if_pos e3]
    obtain ⟨j, hj⟩ := broomy_loop m z n (pre ++ [z]) post (by omega) (by simp; omega)
    exact ⟨j, by rw [hj]; simp [List.replicate_succ]⟩
theorem broomy20 (l : List Int) (z : Int) (h : decide (l.length ≤ 1000000) = true) : ∃ m, p20 m l z = some (broomyG l z) := by
  have h := of_decide_eq_true h
  refine ⟨100, ?_⟩
  have ew : IntKind.wrap .i64 ((((List.length l) : Nat) : Int) + (80)) = ((l.length + 80 : Nat) : Int) := by rw [wrap_id (by omega) (by omega)]; rfl
  have et : Int.toNat ((l.length + 80 : Nat) : Int) = l.length + 80 := rfl
  have em : min (List.length l) (l.length + 80) = l.length := by omega
  have es : splice (List.replicate (l.length + 80) 0) 0 (List.take l.length l) = l ++ List.replicate 80 0 := by
    simp [splice, List.drop_replicate]
  obtain ⟨j, hj⟩ := broomy_loop 100 z (100 + 24) l (List.replicate 80 0) (by simp) (by simp; omega)
  simp only [List.length_replicate] at hj
  have e1 : (decide ((0 : Int) ≤ ((l.length + 80 : Nat) : Int)) && decide (((l.length + 80 : Nat) : Int) ≤ ((l.length + 80 : Nat) : Int))) = true := by simp; omega
  have e2 : (decide ((((l.length + 80 : Nat) : Int) * 1) ≤ 70368744177664) && decide (((l.length + 80 : Nat) : Int) ≤ 70368744177664)) = true := by simp; omega
  have e3 : decide (0 ≤ (List.length (List.replicate (l.length + 80) (0 : Int)))) = true := decide_eq_true (by omega)
  have e4 : decide (l.length ≤ l.length) = true := decide_eq_true (by omega)
  unfold p20 l20_0R broomyG
  generalize List.replicate 80 z = R at *
  simp only [ew, et, em, es, e1, e2, e3, e4, hj, Option.isSome_some, Option.getD_some, ↓reduceIte]
  rw [List.drop_zero, List.take_length]
  rfl
def s20 : List AV → Boxes → M (AV × Boxes) := normS [.val (.sl (.int .u8)), .val (.int .u8)] [] fun xs B => match xs, B with
  | [(.d (.sl (.int .u8) c1)), (.d (.int .u8 c2))], [] => .chk (decide (List.length c1 ≤ 1000000)) (.ret ((.d (.sl (.int .u8) (broomyG c1 c2))), []))
  | _, _ => .fail
theorem s20_at : CallAt Try.prog 20 s20 := by
  refine CallAt.norm (CallAt.weakE (g := fun n => evCall F S17 n 20) (fun n => evCall_atH mixed kinds hds S17 S17_ok n 20) fun xs B r' B' hr => ?_) _ _
  split at hr
  · rename_i c1 c2
    obtain ⟨hp, hr⟩ := (M.run_chk _ _ _).1 hr
    simp only [M.run, Option.some.injEq, Prod.mk.injEq] at hr
    obtain ⟨rfl, rfl⟩ := hr
    obtain ⟨m, hm⟩ := broomy20 c1 c2 hp
    obtain ⟨r, B1, h1, h2, h3, h4⟩ := p20_ok m c1 c2 _ hm
    exact ⟨m + 25, r, B1, h1, by simp, h2, h3, h4⟩
  · simp [M.run] at hr
noncomputable def S18 : FuncId → Option (List AV → Boxes → M (AV × Boxes)) := fun f => if f = 20 then some s20 else S17 f
set_option maxHeartbeats 20000000 in
theorem S18_ok : ∀ f s, S18 f = some s → CallAt Try.prog f s := by
  intro f s h
  unfold S18 at h
  split at h
  · rename_i e; subst e; cases h; exact s20_at
  · exact S17_ok f s h

noncomputable def fn21 : AFn := (F 21).getD ⟨0, [], .bad, false, false, noHd⟩
noncomputable def body21 : AC := fn21.body
def l21_0 (m : Nat) : Nat → List Int → Int → Int → Option (Nat × Int)
  | 0, _, _, _ => none
  | n + 1, x0, x2, s7 => if decide (s7 < (((List.length x0) : Nat) : Int)) = true then
      if decide (0 ≤ s7) = true then
        if ((List.getD x0 (Int.toNat s7) 0) != x2) = true then
          some (0, s7)
        else
          l21_0 m n x0 x2 ((IntKind.wrap .i64 (s7 + (1))))
      else
        none
    else
      some (1, s7)
def l21_0D : Nat × Int := (0, 0)
@[reducible] def l21_0R (m n : Nat) (x0 : List Int) (x2 : Int) (s7 : Int) : Nat × Int := Option.getD (l21_0 m n x0 x2 s7) l21_0D
def l21_0H (x0 : List Int) (x2 : Int) (s7 : Int) : Env := [(.d (.sl (.int .u8) x0)), .top, (.d (.int .u8 x2)), .top, .top, .top, .top, (.d (.int .i64 s7)), .top, .top, .top, .top, .top, .top, .top, .top, .top, .top, .top, .top, .top, .top, .top, .top, .top, .top, .top, .top, .top, .top, .top, .top, .top, .top, .top, .top, .top]
def l21_0B (x0 : List Int) (x2 : Int) (s7 : Int) : Boxes := []
def l21_0E (x0 : List Int) (x2 : Int) (s7 : Int) : Nat → AEx × Env × Boxes
  | 0 => (.ret, [(.d (.sl (.int .u8) x0)), .top, (.d (.int .u8 x2)), .top, .top, .top, (.d (.bool false)), (.d (.int .i64 s7)), .top, .top, .top, .top, .top, .top, .top, .top, .top, .top, .top, .top, .top, .top, .top, .top, .top, (.d (.int .i64 s7)), (.d (.sl (.int .u8) x0)), (.d (.int .i64 (((List.length x0) : Nat) : Int))), (.d (.bool (decide (s7 < (((List.length x0) : Nat) : Int))))), .top, .top, (.d (.sl (.int .u8) x0)), (.d (.int .i64 s7)), (.cptr [(.int .u8 (List.getD x0 (Int.toNat s7) 0))] 0), (.d (.int .u8 (List.getD x0 (Int.toNat s7) 0))), (.d (.int .u8 x2)), (.d (.bool ((List.getD x0 (Int.toNat s7) 0) != x2)))], [])
  | _ => (.exit 0, [(.d (.sl (.int .u8) x0)), .top, (.d (.int .u8 x2)), .top, .top, .top, .top, (.d (.int .i64 s7)), .top, .top, .top, .top, .top, .top, .top, .top, .top, .top, .top, .top, .top, .top, .top, .top, .top, (.d (.int .i64 s7)), (.d (.sl (.int .u8) x0)), (.d (.int .i64 (((List.length x0) : Nat) : Int))), (.d (.bool (decide (s7 < (((List.length x0) : Nat) : Int))))), .top, .top, .top, .top, .top, .top, .top, .top], [])
noncomputable def lbl21_0 : AC := loopBody 133 body21

set_option maxHeartbeats 20000000 in
theorem l21_0_w0 (m n : Nat) (x0 : List Int) (x2 : Int) (s7 : Int) (c0 : decide (s7 < (((List.length x0) : Nat) : Int)) = true) (c1 : decide (0 ≤ s7) = true) (c3 : ((List.getD x0 (Int.toNat s7) 0) != x2) = true) : (turns (hds 21 133) 0 133 (evC byref (evCall F S18 (m + 24)) (m + 24) 0 (hds 21) lbl21_0) (n + 1) (l21_0H x0 x2 s7) (l21_0B x0 x2 s7)).run = some (.ret, [(.d (.sl (.int .u8) x0)), .top, (.d (.int .u8 x2)), .top, .top, .top, (.d (.bool false)), (.d (.int .i64 s7)), .top, .top, .top, .top, .top, .top, .top, .top, .top, .top, .top, .top, .top, .top, .top, .top, .top, (.d (.int .i64 s7)), (.d (.sl (.int .u8) x0)), (.d (.int .i64 (((List.length x0) : Nat) : Int))), (.d (.bool (decide (s7 < (((List.length x0) : Nat) : Int))))), .top, .top, (.d (.sl (.int .u8) x0)), (.d (.int .i64 s7)), (.cptr [(.int .u8 (List.getD x0 (Int.toNat s7) 0))] 0), (.d (.int .u8 (List.getD x0 (Int.toNat s7) 0))), (.d (.int .u8 x2)), (.d (.bool ((List.getD x0 (Int.toNat s7) 0) != x2)))], []) := by
  exact turns_last (by simp) (M.run_of_path _ [true, true, true, true] _ _ (by kernel_rfl) (all_t c0 (all_t c1 (all_t c0 (all_t c3 all_nil))))) 
set_option maxHeartbeats 20000000 in
theorem l21_0_w1 (m n : Nat) (x0 : List Int) (x2 : Int) (s7 : Int) (r : AEx × Env × Boxes) (c0 : decide (s7 < (((List.length x0) : Nat) : Int)) = true) (c1 : decide (0 ≤ s7) = true) (c3 : ¬ ((List.getD x0 (Int.toNat s7) 0) != x2) = true) (ih : (turns (hds 21 133) 0 133 (evC byref (evCall F S18 (m + 24)) (m + 24) 0 (hds 21) lbl21_0) n (l21_0H x0 x2 ((IntKind.wrap .i64 (s7 + (1))))) (l21_0B x0 x2 ((IntKind.wrap .i64 (s7 + (1)))))).run = some r) : (turns (hds 21 133) 0 133 (evC byref (evCall F S18 (m + 24)) (m + 24) 0 (hds 21) lbl21_0) (n + 1) (l21_0H x0 x2 s7) (l21_0B x0 x2 s7)).run = some r := by
  exact turns_step (M.run_of_path _ [true, true, true, false] _ _ (by kernel_rfl) (all_t c0 (all_t c1 (all_t c0 (all_f c3 all_nil))))) ih
set_option maxHeartbeats 20000000 in
theorem l21_0_w2 (m n : Nat) (x0 : List Int) (x2 : Int) (s7 : Int) (c0 : ¬ decide (s7 < (((List.length x0) : Nat) : Int)) = true) : (turns (hds 21 133) 0 133 (evC byref (evCall F S18 (m + 24)) (m + 24) 0 (hds 21) lbl21_0) (n + 1) (l21_0H x0 x2 s7) (l21_0B x0 x2 s7)).run = some (.exit 0, [(.d (.sl (.int .u8) x0)), .top, (.d (.int .u8 x2)), .top, .top, .top, .top, (.d (.int .i64 s7)), .top, .top, .top, .top, .top, .top, .top, .top, .top, .top, .top, .top, .top, .top, .top, .top, .top, (.d (.int .i64 s7)), (.d (.sl (.int .u8) x0)), (.d (.int .i64 (((List.length x0) : Nat) : Int))), (.d (.bool (decide (s7 < (((List.length x0) : Nat) : Int))))), .top, .top, .top, .top, .top, .top, .top, .top], []) := by
  exact turns_last (by simp) (M.run_of_path _ [false] _ _ (by kernel_rfl) (all_f c0 all_nil)) 

set_option maxHeartbeats 20000000 in
theorem l21_0_step (m n : Nat) (ih : ∀ (x0 : List Int) (x2 : Int) (s7 : Int) (q : Nat × Int), l21_0 m n x0 x2 s7 = some q → (turns (hds 21 133) 0 133 (evC byref (evCall F S18 (m + 24)) (m + 24) 0 (hds 21) lbl21_0) n (l21_0H x0 x2 s7) (l21_0B x0 x2 s7)).run = some (l21_0E (x0) (x2) (q.2) q.1)) (x0 : List Int) (x2 : Int) (s7 : Int) (q : Nat × Int) (h : l21_0 m (n + 1) x0 x2 s7 = some q) : (turns (hds 21 133) 0 133 (evC byref (evCall F S18 (m + 24)) (m + 24) 0 (hds 21) lbl21_0) (n + 1) (l21_0H x0 x2 s7) (l21_0B x0 x2 s7)).run = some (l21_0E (x0) (x2) (q.2) q.1) := by
  rw [l21_0] at h
  refine ite_cases h (fun c0 h => ?_) (fun c0 h => ?_)
  · skip
    refine ite_cases h (fun c1 h => ?_) (fun c1 h => ?_)
    · skip
      refine ite_cases h (fun c3 h => ?_) (fun c3 h => ?_)
      · skip
        cases h
        exact l21_0_w0 m n x0 x2 s7 c0 c1 c3
      · skip
        exact l21_0_w1 m n x0 x2 s7 _ c0 c1 c3 (ih _ _ _ q h)
    · skip
      cases h
  · skip
    cases h
    exact l21_0_w2 m n x0 x2 s7 c0
set_option maxHeartbeats 20000000 in
theorem l21_0_ok (m : Nat) : ∀ (n : Nat) (x0 : List Int) (x2 : Int) (s7 : Int) (q : Nat × Int), l21_0 m n x0 x2 s7 = some q → (turns (hds 21 133) 0 133 (evC byref (evCall F S18 (m + 24)) (m + 24) 0 (hds 21) lbl21_0) n (l21_0H x0 x2 s7) (l21_0B x0 x2 s7)).run = some (l21_0E (x0) (x2) (q.2) q.1)
  | 0, x0, x2, s7, q, h => by cases h
  | n + 1, x0, x2, s7, q, h => l21_0_step m n (l21_0_ok m n) x0 x2 s7 q h

def p21 (m : Nat) (x0 : List Int) (x1 : List Int) (x2 : Int) : Option (Bool) :=
  if ((((List.length x0) : Nat) : Int) != (IntKind.wrap .i64 ((((List.length x1) : Nat) : Int) + (80)))) = true then
    some (false)
  else
    if (decide (0 ≤ (((List.length x1) : Nat) : Int)) && decide ((((List.length x1) : Nat) : Int) ≤ (((List.length x0) : Nat) : Int))) = true then
      if decide (List.length (List.drop 0 (List.take (Int.toNat (((List.length x1) : Nat) : Int)) x0)) < 4611686018427387904) = true then
        if ((show List (Int) from (List.drop 0 (List.take (Int.toNat (((List.length x1) : Nat) : Int)) x0))) == x1) = true then
          if (Option.isSome (l21_0 m (m + 24) x0 x2 ((((List.length x1) : Nat) : Int)))) = true then
            if ((l21_0R m (m + 24) x0 x2 ((((List.length x1) : Nat) : Int))).1 == 0) = true then
              some (false)
            else
              if ((l21_0R m (m + 24) x0 x2 ((((List.length x1) : Nat) : Int))).1 == 1) = true then
                some (true)
              else
                none
          else
            none
        else
          some (false)
      else
        none
    else
      none
set_option maxHeartbeats 20000000 in
theorem p21_ok (m : Nat) (x0 : List Int) (x1 : List Int) (x2 : Int) (q : Bool) (h : p21 m x0 x1 x2 = some q) : ∃ r B1, (evCall F S18 (m + 25) 21 [(.d (.sl (.int .u8) x0)), (.d (.sl (.int .u8) x1)), (.d (.int .u8 x2))] []).run = some (r, B1) ∧ 0 ≤ B1.length ∧ wkR B1 [] r (.d (.bool (q))) ∧ wkBs B1 [] 0 [] := by
  unfold p21 at h
  refine ite_cases h (fun c0 h => ?_) (fun c0 h => ?_)
  · skip
    cases h
    refine ⟨(.d (.bool false)), [], runT_ok (LS := (fun k => none)) (fn := fn21) (vis := []) (by kernel_rfl) rfl (by kernel_rfl) (M.run_of_path _ [true, true, true, true, true, true, true, true, true] _ _ (by kernel_rfl) (all_t c0 (all_t c0 (all_t c0 (all_t c0 (all_t c0 (all_t c0 (all_t c0 (all_t c0 (all_t rfl all_nil)))))))))) ?_, by simp, (wkR.one (wkV.one (wk1.eq rfl))), trivial⟩
    intro p hp; cases hp
  · skip
    refine ite_cases h (fun c4 h => ?_) (fun c4 h => ?_)
    · skip
      refine ite_cases h (fun c7 h => ?_) (fun c7 h => ?_)
      · skip
        refine ite_cases h (fun c10 h => ?_) (fun c10 h => ?_)
        · skip
          refine ite_cases h (fun c11 h => ?_) (fun c11 h => ?_)
          · skip
            refine ite_cases h (fun c12 h => ?_) (fun c12 h => ?_)
            · skip
              cases h
              refine ⟨(.d (.bool false)), [], runT_ok (LS := (fun k => if k = 133 then some (l21_0E x0 x2 ((l21_0R m (m + 24) x0 x2 ((((List.length x1) : Nat) : Int))).2) 0) else none)) (fn := fn21) (vis := [(133, l21_0H x0 x2 ((((List.length x1) : Nat) : Int)), l21_0B x0 x2 ((((List.length x1) : Nat) : Int)))]) (by kernel_rfl) rfl (by kernel_rfl) (M.run_of_path _ [false, false, false, false, true, false, false, true, false, false, false] _ _ (by kernel_rfl) (all_f c0 (all_f c0 (all_f c0 (all_f c0 (all_t c4 (all_f c0 (all_f c0 (all_t c7 (all_f c0 (all_f c0 (all_nt c10 all_nil)))))))))))) ?_, by simp, (wkR.one (wkV.one (wk1.eq rfl))), trivial⟩
              intro p hp p2 hq
              rcases List.mem_cons.1 hp with rfl | hp
              · skip
                have h3 := l21_0_ok m (m + 24) x0 x2 ((((List.length x1) : Nat) : Int)) _ (some_getD (d := l21_0D) c11)
                rw [eq_of_beq c12] at h3
                exact Eq.trans (Eq.mp (by kernel_rfl) h3) hq
              cases hp
            · skip
              refine ite_cases h (fun c13 h => ?_) (fun c13 h => ?_)
              · skip
                cases h
                refine ⟨(.d (.bool true)), [], runT_ok (LS := (fun k => if k = 133 then some (l21_0E x0 x2 ((l21_0R m (m + 24) x0 x2 ((((List.length x1) : Nat) : Int))).2) 1) else none)) (fn := fn21) (vis := [(133, l21_0H x0 x2 ((((List.length x1) : Nat) : Int)), l21_0B x0 x2 ((((List.length x1) : Nat) : Int)))]) (by kernel_rfl) rfl (by kernel_rfl) (M.run_of_path _ [false, false, false, false, true, false, false, true, false, false, false] _ _ (by kernel_rfl) (all_f c0 (all_f c0 (all_f c0 (all_f c0 (all_t c4 (all_f c0 (all_f c0 (all_t c7 (all_f c0 (all_f c0 (all_nt c10 all_nil)))))))))))) ?_, by simp, (wkR.one (wkV.one (wk1.eq rfl))), trivial⟩
                intro p hp p2 hq
                rcases List.mem_cons.1 hp with rfl | hp
                · skip
                  have h3 := l21_0_ok m (m + 24) x0 x2 ((((List.length x1) : Nat) : Int)) _ (some_getD (d := l21_0D) c11)
                  rw [eq_of_beq c13] at h3
                  exact Eq.trans (Eq.mp (by kernel_rfl) h3) hq
                cases hp
              · skip
                cases h
          · skip
            cases h
        · skip
          cases h
          refine ⟨(.d (.bool false)), [], runT_ok (LS := (fun k => none)) (fn := fn21) (vis := []) (by kernel_rfl) rfl (by kernel_rfl) (M.run_of_path _ [false, false, false, false, true, false, false, true, false, false, true] _ _ (by kernel_rfl) (all_f c0 (all_f c0 (all_f c0 (all_f c0 (all_t c4 (all_f c0 (all_f c0 (all_t c7 (all_f c0 (all_f c0 (all_nf c10 all_nil)))))))))))) ?_, by simp, (wkR.one (wkV.one (wk1.eq rfl))), trivial⟩
          intro p hp; cases hp
      · skip
        cases h
    · skip
      cases h

/-- Is such a list as it was? -/
def bintactG (f was : List Int) (z : Int) : Bool := decide (f = was ++ List.replicate 80 z)
theorem bintact_loop (m : Nat) (f : List Int) (z : Int) (hb : f.length ≤ 1000000) : ∀ (n k : Nat), k ≤ f.length → f.length - k < n → ∃ j, l21_0 m n f z ((k : Nat) : Int) = some (if f.drop k = List.replicate (f.length - k) z then 1 else 0, j)
  | 0, k, _, h => by omega
  | n + 1, k, h1, h2 => by
    rw [l21_0]
    by_cases hk : k < f.length
    · have e1 : decide (((k : Nat) : Int) < (((List.length f) : Nat) : Int)) = true := decide_eq_true (by omega)
      have e2 : decide ((0 : Int) ≤ ((k : Nat) : Int)) = true := decide_eq_true (by omega)
      have e7 : IntKind.wrap .i64 (((k : Nat) : Int) + (1)) = ((k + 1 : Nat) : Int) := by rw [wrap_id (by omega) (by omega)]; rfl
      rw [drop_getD f k 0 hk, e7, if_pos e1, if_pos e2, show f.length - k = (f.length - (k + 1)) + 1 by omega, List.replicate_succ, show Int.toNat ((k : Nat) : Int) = k from rfl]
      by_cases hc : f.getD k 0 = z
      · have e3 : (f.getD k 0 != z) = false := by rw [hc]; simp
        rw [e3, if_neg (by simp)]
        obtain ⟨j, hj⟩ := bintact_loop m f z hb n (k + 1) (by omega) (by omega)
        refine ⟨j, ?_⟩
        rw [hj]
        have hc' : (f.getD k 0 :: f.drop (k + 1) = z :: List.replicate (f.length - (k + 1)) z) = (f.drop (k + 1) = List.replicate (f.length - (k + 1)) z) := by rw [List.cons.injEq]; simp only [hc, true_and]
        simp only [hc']
      · have e3 : (f.getD k 0 != z) = true := by simpa using hc
        rw [e3, if_pos rfl, if_neg (by simp only [List.cons.injEq, hc, false_and, not_false_eq_true])]
        exact ⟨_, rfl⟩
    · have e1 : decide (((k : Nat) : Int) < (((List.length f) : Nat) : Int)) = false := decide_eq_false (by omega)
      rw [e1, if_neg (by simp), List.drop_eq_nil_of_le (by omega), show f.length - k = 0 by omega]
      exact ⟨_, rfl⟩
theorem bintact21 (f was : List Int) (z : Int) (h : decide (f.length ≤ 1000000 ∧ was.length ≤ 1000000) = true) : ∃ m, p21 m f was z = some (bintactG f was z) := by
  have ⟨h, hw⟩ := of_decide_eq_true h
  refine ⟨f.length, ?_⟩
  unfold p21 l21_0R bintactG
  by_cases hl : f.length = was.length + 80
  · have ew : IntKind.wrap .i64 ((((List.length was) : Nat) : Int) + (80)) = (((List.length f) : Nat) : Int) := by rw [wrap_id (by omega) (by omega)]; omega
    have e1 : (decide ((0 : Int) ≤ (((List.length was) : Nat) : Int)) && decide ((((List.length was) : Nat) : Int) ≤ (((List.length f) : Nat) : Int))) = true := by simp; omega
    have e2 : decide (List.length (List.drop 0 (List.take was.length f)) < 4611686018427387904) = true := decide_eq_true (by simp; omega)
    have e3 : ((((List.length f) : Nat) : Int) != (((List.length f) : Nat) : Int)) = false := by simp
    obtain ⟨j, hj⟩ := bintact_loop f.length f z h (f.length + 24) was.length (by omega) (by omega)
    rw [show f.length - was.length = 80 by omega] at hj
    have split : f = was ++ List.replicate 80 z ↔ f.take was.length = was ∧ f.drop was.length = List.replicate 80 z := by
      constructor
      · intro e; rw [e]; simp
      · rintro ⟨q1, q2⟩; rw [← q1, ← q2] ; simp
    have hno0 : f.take was.length ≠ was → ¬ f = was ++ List.replicate 80 z := fun q e => q (split.1 e).1
    generalize List.replicate 80 z = R at *
    rw [show Int.toNat ((was.length : Nat) : Int) = was.length from rfl, ew]
    simp only [e1, e2, e3, hj, Option.isSome_some, Option.getD_some, ↓reduceIte, Bool.false_eq_true]
    by_cases q1 : f.take was.length = was
    · by_cases q2 : f.drop was.length = R
      · simp [split, q1, q2]
      · simp [split, q1, q2]
    · simp [split, q1]
  · have ew : ((((List.length f) : Nat) : Int) != IntKind.wrap .i64 ((((List.length was) : Nat) : Int) + (80))) = true := by
      rw [wrap_id (by omega) (by omega)]; simp; omega
    have hno : ¬ f = was ++ List.replicate 80 z := fun e => hl (by rw [e]; simp)
    generalize List.replicate 80 z = R at *
    rw [if_pos ew]
    simp [hno]
def s21 : List AV → Boxes → M (AV × Boxes) := normS [.val (.sl (.int .u8)), .val (.sl (.int .u8)), .val (.int .u8)] [] fun xs B => match xs, B with
  | [(.d (.sl (.int .u8) c1)), (.d (.sl (.int .u8) c2)), (.d (.int .u8 c3))], [] => .chk (decide (List.length c1 ≤ 1000000 ∧ List.length c2 ≤ 1000000)) (.ret ((.d (.bool (bintactG c1 c2 c3))), []))
  | _, _ => .fail
theorem s21_at : CallAt Try.prog 21 s21 := by
  refine CallAt.norm (CallAt.weakE (g := fun n => evCall F S18 n 21) (fun n => evCall_atH mixed kinds hds S18 S18_ok n 21) fun xs B r' B' hr => ?_) _ _
  split at hr
  · rename_i c1 c2 c3
    obtain ⟨hp, hr⟩ := (M.run_chk _ _ _).1 hr
    simp only [M.run, Option.some.injEq, Prod.mk.injEq] at hr
    obtain ⟨rfl, rfl⟩ := hr
    obtain ⟨m, hm⟩ := bintact21 c1 c2 c3 hp
    obtain ⟨r, B1, h1, h2, h3, h4⟩ := p21_ok m c1 c2 c3 _ hm
    exact ⟨m + 25, r, B1, h1, by simp, h2, h3, h4⟩
  · simp [M.run] at hr
noncomputable def S19 : FuncId → Option (List AV → Boxes → M (AV × Boxes)) := fun f => if f = 21 then some s21 else S18 f
set_option maxHeartbeats 20000000 in
theorem S19_ok : ∀ f s, S19 f = some s → CallAt Try.prog f s := by
  intro f s h
  unfold S19 at h
  split at h
  · rename_i e; subst e; cases h; exact s21_at
  · exact S18_ok f s h

end Go.Proofs.Ytghkbjflejgieaa.Dec
namespace Go.Proofs.Ytghkbjflejgieaa.Dec
open Go.Ev
set_option linter.unusedVariables false
set_option linter.unusedSimpArgs false
set_option maxRecDepth 100000

/-- By rising times. -/
def Rises (l : SL) : Prop := l.Pairwise fun a b => a.1 < b.1
theorem upto_eq : ∀ (l : SL) (t : Int) (i : Nat), Rises l → i < l.length → (l.getD i (0, 0)).1 ≤ t → (i + 1 < l.length → t < (l.getD (i + 1) (0, 0)).1) → uptoG l t = i + 1
  | [], t, i, _, h, _, _ => by simp at h
  | a :: r, t, 0, hr, _, h1, h2 => by
    rw [upto_cons]
    have h1' : a.1 ≤ t := by simpa using h1
    rw [if_pos h1']
    cases r with
    | nil => rfl
    | cons b s =>
      have := h2 (by simp)
      have h3 : t < b.1 := by simpa using this
      rw [upto_cons, if_neg (by omega)]
  | a :: r, t, i + 1, hr, h, h1, h2 => by
    rw [upto_cons]
    have hp := List.pairwise_cons.1 hr
    have hi : i < r.length := by simpa using h
    have h1' : (r.getD i (0, 0)).1 ≤ t := by simpa using h1
    have hm := hp.1 _ (getD_mem r i (0, 0) hi)
    rw [if_pos (by omega), upto_eq r t i hp.2 hi h1' fun h3 => by simpa using h2 (by simpa using h3)]
theorem upto_last : ∀ (l : SL) (t : Int), uptoG l t ≠ 0 → (l.getD (uptoG l t - 1) (0, 0)).1 ≤ t
  | [], t, h => absurd rfl h
  | a :: r, t, h => by
    rw [upto_cons] at h ⊢
    by_cases ha : a.1 ≤ t
    · rw [if_pos ha]
      by_cases h0 : uptoG r t = 0
      · rw [h0]; simpa using ha
      · have := upto_last r t h0
        obtain ⟨k, hk⟩ : ∃ k, uptoG r t = k + 1 := ⟨uptoG r t - 1, by omega⟩
        rw [hk] at this ⊢
        simpa using this
    · rw [if_neg ha] at h; exact absurd rfl h
theorem sampGo_len : ∀ (ks : List Int) (t : Int), (sampGo t ks).length = ks.length
  | [], t => rfl
  | k :: ks, t => by simp [sampGo, sampGo_len ks]
theorem sampGo_above : ∀ (ks : List Int) (t : Int) x, x ∈ sampGo t ks → t < x.1 ∧ x.1 ≤ t + 12 * ks.length
  | [], t, x, h => by simp [sampGo] at h
  | k :: ks, t, x, h => by
    have hw := within_1_12 k
    rcases List.mem_cons.1 h with rfl | h
    · simp only [List.length_cons]; omega
    · have := sampGo_above ks _ x h
      simp only [List.length_cons]; omega
theorem sampGo_rises : ∀ (ks : List Int) (t : Int), Rises (sampGo t ks)
  | [], t => List.Pairwise.nil
  | k :: ks, t => List.pairwise_cons.2 ⟨fun x hx => (sampGo_above ks _ x hx).1, sampGo_rises ks _⟩
set_option maxHeartbeats 20000000 in
theorem samples_ok (ks : List Int) : Rises (samplesG ks) ∧ (samplesG ks).length ≤ 20 ∧ ∀ x ∈ samplesG ks, 1 ≤ x.1 ∧ x.1 ≤ 240 := by
  refine ⟨sampGo_rises _ _, by unfold samplesG; rw [sampGo_len, List.length_take]; omega, fun x hx => ?_⟩
  have := sampGo_above _ _ x hx
  rw [List.length_take] at this
  omega
set_option maxHeartbeats 20000000 in
theorem addR_ok : ∀ (xs out : SL), Rises (out ++ xs) → (out ++ xs).length ≤ 200 → (∀ x ∈ xs, 0 ≤ x.1 ∧ x.1 ≤ 1099511627776) → addR out xs = (0, out ++ xs)
  | [], out, _, _, _ => by simp [addR]
  | x :: xs, out, h1, h2, h3 => by
    have hx := h3 x (List.mem_cons_self ..)
    rw [addR, if_neg (by omega), if_neg (by omega)]
    have hno : ¬ (0 < out.length ∧ x.1 ≤ (out.getD (out.length - 1) (0, 0)).1) := by
      rintro ⟨h4, h5⟩
      have := (List.pairwise_append.1 h1).2.2 _ (getD_mem out (out.length - 1) (0, 0) (by omega)) x (List.mem_cons_self ..)
      omega
    rw [if_neg hno, if_neg (by simp at h2; omega)]
    have e : out ++ x :: xs = (out ++ [x]) ++ xs := by simp
    rw [e] at h1 h2 ⊢
    exact addR_ok xs (out ++ [x]) h1 h2 fun y hy => h3 y (List.mem_cons_of_mem _ hy)
set_option maxHeartbeats 20000000 in
theorem addG_ok {xs : SL} (h1 : Rises xs) (h2 : xs.length ≤ 200) (h3 : ∀ x ∈ xs, 0 ≤ x.1 ∧ x.1 ≤ 1099511627776) : addG [] xs = (0, xs) := by
  have := addR_ok xs [] (by simpa using h1) (by simpa using h2) h3
  unfold addG
  rw [this]
  simp
set_option maxHeartbeats 20000000 in
theorem inR_of_ok {x : Int} (h : Ty.ok (.int .i64) x) : inR x = true := by
  unfold Ty.ok at h
  simp [Lit.wf] at h
  have hm : IntKind.min .i64 = -9223372036854775808 := rfl
  exact decide_eq_true (by omega)
set_option maxHeartbeats 20000000 in
theorem byte_of_ok {x : Int} (h : Ty.ok (.int .u8) x) : 0 ≤ x ∧ x ≤ 255 := by
  unfold Ty.ok at h
  simp [Lit.wf] at h
  have hm : IntKind.min .u8 = 0 := rfl
  have hM : IntKind.max .u8 = 255 := rfl
  omega
theorem wrap_back (a b : Int) (h : inR b = true) : IntKind.wrap .i64 (a + IntKind.wrap .i64 (b - a)) = b := by
  have h := of_decide_eq_true h
  have h1 := wrapS (b - a)
  generalize IntKind.wrap .i64 (b - a) = w at *
  rw [wrapS]
  split at h1 <;> split <;> omega
def inL (l : SL) : Prop := ∀ x ∈ l, inR x.1 = true ∧ inR x.2 = true
theorem readR_put : ∀ (l : SL) (t v s : Int) (acc : SL) (rest : List Int), inL l → readR l.length (putR t v s l ++ rest) s (t, v) acc = (acc ++ l, true)
  | [], t, v, s, acc, rest, _ => by simp [readR]
  | x :: xs, t, v, s, acc, rest, h => by
    have hx := h x (List.mem_cons_self ..)
    have e1 : putR t v s (x :: xs) ++ rest = nb (zz (IntKind.wrap .i64 (IntKind.wrap .i64 (x.1 - t) - s))) ++ (nb (zz (IntKind.wrap .i64 (x.2 - v))) ++ (putR x.1 x.2 (IntKind.wrap .i64 (x.1 - t)) xs ++ rest)) := by
      simp [putR, numG]
    have e2 : IntKind.wrap .i64 (s + IntKind.wrap .i64 (IntKind.wrap .i64 (x.1 - t) - s)) = IntKind.wrap .i64 (x.1 - t) := wrap_back _ _ (inR_wrap _)
    have e3 : IntKind.wrap .i64 (t + IntKind.wrap .i64 (x.1 - t)) = x.1 := wrap_back _ _ hx.1
    have e4 : IntKind.wrap .i64 (v + IntKind.wrap .i64 (x.2 - v)) = x.2 := wrap_back _ _ hx.2
    have n1 := nb_len10 (zz_lt (inR_wrap (IntKind.wrap .i64 (x.1 - t) - s)))
    have n2 := nb_len10 (zz_lt (inR_wrap (x.2 - v)))
    rw [List.length_cons, readR, e1]
    have f1 := next_nb (inR_wrap (IntKind.wrap .i64 (x.1 - t) - s)) (nb (zz (IntKind.wrap .i64 (x.2 - v))) ++ (putR x.1 x.2 (IntKind.wrap .i64 (x.1 - t)) xs ++ rest))
    have f2 := next_nb (inR_wrap (x.2 - v)) (putR x.1 x.2 (IntKind.wrap .i64 (x.1 - t)) xs ++ rest)
    have ih := readR_put xs x.1 x.2 (IntKind.wrap .i64 (x.1 - t)) (acc ++ [x]) rest fun y hy => h y (List.mem_cons_of_mem _ hy)
    generalize hA : nb (zz (IntKind.wrap .i64 (IntKind.wrap .i64 (x.1 - t) - s))) = A at *
    generalize hC : nb (zz (IntKind.wrap .i64 (x.2 - v))) = C at *
    generalize putR x.1 x.2 (IntKind.wrap .i64 (x.1 - t)) xs ++ rest = R at *
    have g1 : List.drop A.length (A ++ (C ++ R)) = C ++ R := List.drop_left' rfl
    have g2 : List.drop (A.length + C.length) (A ++ (C ++ R)) = R := by
      rw [← List.append_assoc]; exact List.drop_left' (by simp)
    simp only [f1, Int.toNat_natCast, g1, f2, e2, e3, e4]
    rw [if_neg (by omega), if_neg (by omega)]
    rw [show ((A.length : Int) + (C.length : Int)).toNat = A.length + C.length by omega, g2, ih]
    simp
theorem read_block (l : SL) (hl : l.length ≤ 200) (h : inL l) : readG (blockG l) = (l, true) := by
  have hi := inR_len l (by omega)
  have f := next_nb hi (putR 0 0 0 l)
  have n1 := nb_len10 (zz_lt hi)
  have e : blockG l = nb (zz ((l.length : Nat) : Int)) ++ putR 0 0 0 l := by simp [blockG, numG]
  have ih := readR_put l 0 0 0 [] [] h
  rw [List.append_nil, List.nil_append] at ih
  unfold readG
  rw [e]
  generalize nb (zz ((l.length : Nat) : Int)) = A at *
  have g1 : List.drop A.length (A ++ putR 0 0 0 l) = putR 0 0 0 l := List.drop_left' rfl
  simp only [f, Int.toNat_natCast, g1]
  rw [if_neg (by omega), if_neg (by omega), if_neg (by omega), ih]
theorem addR_zero : ∀ (l out : SL), (addR out l).1 = 0 → (addR out l).2 = out ++ l ∧ (∀ x ∈ l, 0 ≤ x.1 ∧ x.1 ≤ 1099511627776) ∧ (out.length ≤ 200 → (out ++ l).length ≤ 200)
  | [], out, _ => by simp [addR]
  | x :: xs, out, h => by
    unfold addR at h ⊢
    by_cases c1 : x.1 < 0
    · rw [if_pos c1] at h; simp at h
    · rw [if_neg c1] at h ⊢
      by_cases c2 : x.1 > 1099511627776
      · rw [if_pos c2] at h; simp at h
      · rw [if_neg c2] at h ⊢
        by_cases c3 : 0 < out.length ∧ x.1 ≤ (out.getD (out.length - 1) (0, 0)).1
        · rw [if_pos c3] at h; simp at h
        · rw [if_neg c3] at h ⊢
          by_cases c4 : out.length = 200
          · rw [if_pos c4] at h; simp at h
          · rw [if_neg c4] at h ⊢
            obtain ⟨g1, g2, g3⟩ := addR_zero xs (out ++ [x]) h
            refine ⟨by rw [g1]; simp, fun y hy => ?_, fun hl => ?_⟩
            · rcases List.mem_cons.1 hy with rfl | hy
              · omega
              · exact g2 y hy
            · have := g3 (by simp; omega)
              simpa using this
theorem add_zero {l : SL} (h : (addG [] l).1 = 0) : (∀ x ∈ l, 0 ≤ x.1 ∧ x.1 ≤ 1099511627776) ∧ l.length ≤ 200 := by
  have h0 : (addR [] l).1 = 0 := by
    unfold addG at h
    split at h
    · rename_i h1; exact h1
    · exact h
  obtain ⟨_, g2, g3⟩ := addR_zero l [] h0
  exact ⟨g2, by simpa using g3⟩
def vals (l : SL) : Prop := ∀ x ∈ l, inR x.2 = true
theorem read_put {l : SL} (hv : vals l) (h : (addG [] l).1 = 0) : readG (putG l) = (l, true) := by
  obtain ⟨h1, h2⟩ := add_zero h
  unfold putG
  rw [if_pos h]
  exact read_block l h2 fun x hx => ⟨decide_eq_true (by have := h1 x hx; omega), hv x hx⟩
theorem get_put (l : SL) (hv : vals l) : getG (putG l) = if (addG [] l).1 = 0 then (l, 0) else ([], 1) := by
  by_cases h : (addG [] l).1 = 0
  · rw [if_pos h]
    unfold getG
    rw [read_put hv h, if_pos ⟨rfl, rfl⟩]
  · rw [if_neg h]
    unfold putG
    rw [if_neg h]
    rfl
theorem put_inj {x y : SL} (hx : vals x) (hy : vals y) (h1 : (addG [] x).1 = 0) (h2 : (addG [] y).1 = 0) (h : putG x = putG y) : x = y := by
  have a := read_put hx h1
  have b := read_put hy h2
  rw [h, b] at a
  exact (congrArg Prod.fst a).symm
theorem put_pos {l : SL} (h : (addG [] l).1 = 0) : 0 < (putG l).length ∧ (putG l).length ≤ 4010 := by
  obtain ⟨_, h2⟩ := add_zero h
  have := blockG_len l (by omega)
  unfold putG
  rw [if_pos h]
  omega
theorem num_bytes : ∀ (ns : List Int), (∀ n ∈ ns, inR n = true) → ∀ x ∈ numG ns, 0 ≤ x ∧ x ≤ 255
  | [], _, x, hx => by simp [numG] at hx
  | n :: ns, h, x, hx => by
    rcases List.mem_append.1 hx with hx | hx
    · exact nb_bytes 10 _ (Nat.lt_of_lt_of_le (zz_lt (h n (List.mem_cons_self ..))) (by decide)) x hx
    · exact num_bytes ns (fun y hy => h y (List.mem_cons_of_mem _ hy)) x hx
theorem putR_bytes : ∀ (l : SL) (t v s : Int), ∀ x ∈ putR t v s l, 0 ≤ x ∧ x ≤ 255
  | [], t, v, s, x, hx => by simp [putR] at hx
  | y :: l, t, v, s, x, hx => by
    rcases List.mem_append.1 hx with hx | hx
    · exact num_bytes _ (by simp [inR_wrap]) x hx
    · exact putR_bytes l _ _ _ x hx
theorem put_bytes (l : SL) (h : l.length ≤ 1000000) : ∀ x ∈ putG l, 0 ≤ x ∧ x ≤ 255 := by
  intro x hx
  unfold putG at hx
  split at hx
  · rcases List.mem_append.1 hx with hx | hx
    · exact num_bytes _ (by simpa using inR_len l h) x hx
    · exact putR_bytes l _ _ _ x hx
  · simp at hx
theorem samp_vals : ∀ (ks : List Int) (t : Int), vals (sampGo t ks)
  | [], t => fun x hx => by simp [sampGo] at hx
  | k :: ks, t => fun x hx => by
    rcases List.mem_cons.1 hx with rfl | hx
    · refine decide_eq_true ?_
      have y1 := Int.emod_nonneg (IntKind.wrap .i64 (Int.tdiv k 12)) (b := 14) (by omega)
      have y2 := Int.emod_lt_of_pos (IntKind.wrap .i64 (Int.tdiv k 12)) (b := 14) (by omega)
      simp only
      unfold withinI
      rw [show (9 : Int) - -4 + 1 = 14 from rfl]
      omega
    · exact samp_vals ks _ x hx
theorem samp_right (ks : List Int) : vals (samplesG ks) ∧ (samplesG ks).length ≤ 20 ∧ ∀ c, (addG [] ((samplesG ks).take c)).1 = 0 := by
  obtain ⟨h1, h2, h3⟩ := samples_ok ks
  refine ⟨samp_vals _ _, h2, fun c => ?_⟩
  rw [addG_ok (h1.sublist (List.take_sublist _ _)) (by rw [List.length_take]; omega) fun x hx => by have := h3 x (List.mem_of_mem_take hx); omega]
theorem samp_right0 (ks : List Int) : (addG [] (samplesG ks)).1 = 0 := by
  have := (samp_right ks).2.2 (samplesG ks).length
  rwa [List.take_length] at this

end Go.Proofs.Ytghkbjflejgieaa.Dec
namespace Go.Proofs.Ytghkbjflejgieaa.Dec
open Go.Ev
set_option linter.unusedVariables false
set_option linter.unusedSimpArgs false
set_option maxRecDepth 100000
noncomputable def fn5 : AFn := (F 5).getD ⟨0, [], .bad, false, false, noHd⟩
noncomputable def body5 : AC := fn5.body
def only (m : Nat) (x0 : List Int) (x1 : List Int) (x2 : Int) (x3 : Int) (x4 : Int) : Option Unit :=
  if decide (List.length (List.take (List.length (samplesG x0)) (List.drop 0 (samplesG x0))) ≤ 1000000) = true then
    if decide (((0 + (List.length (putG (List.take (List.length (samplesG x0)) (List.drop 0 (samplesG x0)))))) * 1) ≤ 70368744177664) = true then
      if ((decide (0 ≤ (if (IntKind.wrap .i64 ((((0 + (List.length (putG (List.take (List.length (samplesG x0)) (List.drop 0 (samplesG x0)))))) : Nat) : Int) - (1))) < (0) then (0) else (IntKind.wrap .i64 ((((0 + (List.length (putG (List.take (List.length (samplesG x0)) (List.drop 0 (samplesG x0)))))) : Nat) : Int) - (1))))) && decide ((if (IntKind.wrap .i64 ((((0 + (List.length (putG (List.take (List.length (samplesG x0)) (List.drop 0 (samplesG x0)))))) : Nat) : Int) - (1))) < (0) then (0) else (IntKind.wrap .i64 ((((0 + (List.length (putG (List.take (List.length (samplesG x0)) (List.drop 0 (samplesG x0)))))) : Nat) : Int) - (1)))) ≤ 2305843009213693951)) && decide (((if (IntKind.wrap .i64 ((((0 + (List.length (putG (List.take (List.length (samplesG x0)) (List.drop 0 (samplesG x0)))))) : Nat) : Int) - (1))) < (0) then (0) else (IntKind.wrap .i64 ((((0 + (List.length (putG (List.take (List.length (samplesG x0)) (List.drop 0 (samplesG x0)))))) : Nat) : Int) - (1)))) - (0)) ≤ 2305843009213693951)) = true then
        if ((((0 + (List.length (putG (List.take (List.length (samplesG x0)) (List.drop 0 (samplesG x0)))))) : Nat) : Int) == (0)) = true then
          none
        else
          if ((IntKind.wrap .i64 ((((BitVec.ofInt 64 x4 &&& BitVec.ofInt 64 (3)).toNat : Nat) : Int))) == (0)) = true then
            if decide (0 ≤ (withinI x2 (0) (if (IntKind.wrap .i64 ((((0 + (List.length (putG (List.take (List.length (samplesG x0)) (List.drop 0 (samplesG x0)))))) : Nat) : Int) - (1))) < (0) then (0) else (IntKind.wrap .i64 ((((0 + (List.length (putG (List.take (List.length (samplesG x0)) (List.drop 0 (samplesG x0)))))) : Nat) : Int) - (1)))))) = true then
              if decide ((withinI x2 (0) (if (IntKind.wrap .i64 ((((0 + (List.length (putG (List.take (List.length (samplesG x0)) (List.drop 0 (samplesG x0)))))) : Nat) : Int) - (1))) < (0) then (0) else (IntKind.wrap .i64 ((((0 + (List.length (putG (List.take (List.length (samplesG x0)) (List.drop 0 (samplesG x0)))))) : Nat) : Int) - (1))))) < (((0 + (List.length (putG (List.take (List.length (samplesG x0)) (List.drop 0 (samplesG x0)))))) : Nat) : Int)) = true then
                if decide ((0 + (Int.toNat (withinI x2 (0) (if (IntKind.wrap .i64 ((((0 + (List.length (putG (List.take (List.length (samplesG x0)) (List.drop 0 (samplesG x0)))))) : Nat) : Int) - (1))) < (0) then (0) else (IntKind.wrap .i64 ((((0 + (List.length (putG (List.take (List.length (samplesG x0)) (List.drop 0 (samplesG x0)))))) : Nat) : Int) - (1))))))) < (List.length (putG (List.take (List.length (samplesG x0)) (List.drop 0 (samplesG x0)))))) = true then
                  if decide ((0 + (0 + (List.length (putG (List.take (List.length (samplesG x0)) (List.drop 0 (samplesG x0))))))) ≤ (List.length (List.set (putG (List.take (List.length (samplesG x0)) (List.drop 0 (samplesG x0)))) (0 + (Int.toNat (withinI x2 (0) (if (IntKind.wrap .i64 ((((0 + (List.length (putG (List.take (List.length (samplesG x0)) (List.drop 0 (samplesG x0)))))) : Nat) : Int) - (1))) < (0) then (0) else (IntKind.wrap .i64 ((((0 + (List.length (putG (List.take (List.length (samplesG x0)) (List.drop 0 (samplesG x0)))))) : Nat) : Int) - (1))))))) (IntKind.wrap .u8 ((((BitVec.ofInt 8 (List.getD (putG (List.take (List.length (samplesG x0)) (List.drop 0 (samplesG x0)))) (0 + (Int.toNat (withinI x2 (0) (if (IntKind.wrap .i64 ((((0 + (List.length (putG (List.take (List.length (samplesG x0)) (List.drop 0 (samplesG x0)))))) : Nat) : Int) - (1))) < (0) then (0) else (IntKind.wrap .i64 ((((0 + (List.length (putG (List.take (List.length (samplesG x0)) (List.drop 0 (samplesG x0)))))) : Nat) : Int) - (1))))))) 0) ^^^ BitVec.ofInt 8 x3).toNat : Nat) : Int)))))) = true then
                    if decide (List.length (List.take (0 + (List.length (putG (List.take (List.length (samplesG x0)) (List.drop 0 (samplesG x0)))))) (List.drop 0 (List.set (putG (List.take (List.length (samplesG x0)) (List.drop 0 (samplesG x0)))) (0 + (Int.toNat (withinI x2 (0) (if (IntKind.wrap .i64 ((((0 + (List.length (putG (List.take (List.length (samplesG x0)) (List.drop 0 (samplesG x0)))))) : Nat) : Int) - (1))) < (0) then (0) else (IntKind.wrap .i64 ((((0 + (List.length (putG (List.take (List.length (samplesG x0)) (List.drop 0 (samplesG x0)))))) : Nat) : Int) - (1))))))) (IntKind.wrap .u8 ((((BitVec.ofInt 8 (List.getD (putG (List.take (List.length (samplesG x0)) (List.drop 0 (samplesG x0)))) (0 + (Int.toNat (withinI x2 (0) (if (IntKind.wrap .i64 ((((0 + (List.length (putG (List.take (List.length (samplesG x0)) (List.drop 0 (samplesG x0)))))) : Nat) : Int) - (1))) < (0) then (0) else (IntKind.wrap .i64 ((((0 + (List.length (putG (List.take (List.length (samplesG x0)) (List.drop 0 (samplesG x0)))))) : Nat) : Int) - (1))))))) 0) ^^^ BitVec.ofInt 8 x3).toNat : Nat) : Int)))))) ≤ 1000000) = true then
                      if (decide (0 ≤ (((0 + (List.length (putG (List.take (List.length (samplesG x0)) (List.drop 0 (samplesG x0)))))) : Nat) : Int)) && decide ((((0 + (List.length (putG (List.take (List.length (samplesG x0)) (List.drop 0 (samplesG x0)))))) : Nat) : Int) ≤ (((List.length (broomyG (List.take (0 + (List.length (putG (List.take (List.length (samplesG x0)) (List.drop 0 (samplesG x0)))))) (List.drop 0 (List.set (putG (List.take (List.length (samplesG x0)) (List.drop 0 (samplesG x0)))) (0 + (Int.toNat (withinI x2 (0) (if (IntKind.wrap .i64 ((((0 + (List.length (putG (List.take (List.length (samplesG x0)) (List.drop 0 (samplesG x0)))))) : Nat) : Int) - (1))) < (0) then (0) else (IntKind.wrap .i64 ((((0 + (List.length (putG (List.take (List.length (samplesG x0)) (List.drop 0 (samplesG x0)))))) : Nat) : Int) - (1))))))) (IntKind.wrap .u8 ((((BitVec.ofInt 8 (List.getD (putG (List.take (List.length (samplesG x0)) (List.drop 0 (samplesG x0)))) (0 + (Int.toNat (withinI x2 (0) (if (IntKind.wrap .i64 ((((0 + (List.length (putG (List.take (List.length (samplesG x0)) (List.drop 0 (samplesG x0)))))) : Nat) : Int) - (1))) < (0) then (0) else (IntKind.wrap .i64 ((((0 + (List.length (putG (List.take (List.length (samplesG x0)) (List.drop 0 (samplesG x0)))))) : Nat) : Int) - (1))))))) 0) ^^^ BitVec.ofInt 8 x3).toNat : Nat) : Int)))))) (7))) : Nat) : Int))) = true then
                        if bytesOK (List.drop 0 (List.take (Int.toNat (((0 + (List.length (putG (List.take (List.length (samplesG x0)) (List.drop 0 (samplesG x0)))))) : Nat) : Int)) (broomyG (List.take (0 + (List.length (putG (List.take (List.length (samplesG x0)) (List.drop 0 (samplesG x0)))))) (List.drop 0 (List.set (putG (List.take (List.length (samplesG x0)) (List.drop 0 (samplesG x0)))) (0 + (Int.toNat (withinI x2 (0) (if (IntKind.wrap .i64 ((((0 + (List.length (putG (List.take (List.length (samplesG x0)) (List.drop 0 (samplesG x0)))))) : Nat) : Int) - (1))) < (0) then (0) else (IntKind.wrap .i64 ((((0 + (List.length (putG (List.take (List.length (samplesG x0)) (List.drop 0 (samplesG x0)))))) : Nat) : Int) - (1))))))) (IntKind.wrap .u8 ((((BitVec.ofInt 8 (List.getD (putG (List.take (List.length (samplesG x0)) (List.drop 0 (samplesG x0)))) (0 + (Int.toNat (withinI x2 (0) (if (IntKind.wrap .i64 ((((0 + (List.length (putG (List.take (List.length (samplesG x0)) (List.drop 0 (samplesG x0)))))) : Nat) : Int) - (1))) < (0) then (0) else (IntKind.wrap .i64 ((((0 + (List.length (putG (List.take (List.length (samplesG x0)) (List.drop 0 (samplesG x0)))))) : Nat) : Int) - (1))))))) 0) ^^^ BitVec.ofInt 8 x3).toNat : Nat) : Int)))))) (7)))) = true then
                          if decide (List.length (broomyG (List.take (0 + (List.length (putG (List.take (List.length (samplesG x0)) (List.drop 0 (samplesG x0)))))) (List.drop 0 (List.set (putG (List.take (List.length (samplesG x0)) (List.drop 0 (samplesG x0)))) (0 + (Int.toNat (withinI x2 (0) (if (IntKind.wrap .i64 ((((0 + (List.length (putG (List.take (List.length (samplesG x0)) (List.drop 0 (samplesG x0)))))) : Nat) : Int) - (1))) < (0) then (0) else (IntKind.wrap .i64 ((((0 + (List.length (putG (List.take (List.length (samplesG x0)) (List.drop 0 (samplesG x0)))))) : Nat) : Int) - (1))))))) (IntKind.wrap .u8 ((((BitVec.ofInt 8 (List.getD (putG (List.take (List.length (samplesG x0)) (List.drop 0 (samplesG x0)))) (0 + (Int.toNat (withinI x2 (0) (if (IntKind.wrap .i64 ((((0 + (List.length (putG (List.take (List.length (samplesG x0)) (List.drop 0 (samplesG x0)))))) : Nat) : Int) - (1))) < (0) then (0) else (IntKind.wrap .i64 ((((0 + (List.length (putG (List.take (List.length (samplesG x0)) (List.drop 0 (samplesG x0)))))) : Nat) : Int) - (1))))))) 0) ^^^ BitVec.ofInt 8 x3).toNat : Nat) : Int)))))) (7)) ≤ 1000000 ∧ List.length (List.take (0 + (List.length (putG (List.take (List.length (samplesG x0)) (List.drop 0 (samplesG x0)))))) (List.drop 0 (List.set (putG (List.take (List.length (samplesG x0)) (List.drop 0 (samplesG x0)))) (0 + (Int.toNat (withinI x2 (0) (if (IntKind.wrap .i64 ((((0 + (List.length (putG (List.take (List.length (samplesG x0)) (List.drop 0 (samplesG x0)))))) : Nat) : Int) - (1))) < (0) then (0) else (IntKind.wrap .i64 ((((0 + (List.length (putG (List.take (List.length (samplesG x0)) (List.drop 0 (samplesG x0)))))) : Nat) : Int) - (1))))))) (IntKind.wrap .u8 ((((BitVec.ofInt 8 (List.getD (putG (List.take (List.length (samplesG x0)) (List.drop 0 (samplesG x0)))) (0 + (Int.toNat (withinI x2 (0) (if (IntKind.wrap .i64 ((((0 + (List.length (putG (List.take (List.length (samplesG x0)) (List.drop 0 (samplesG x0)))))) : Nat) : Int) - (1))) < (0) then (0) else (IntKind.wrap .i64 ((((0 + (List.length (putG (List.take (List.length (samplesG x0)) (List.drop 0 (samplesG x0)))))) : Nat) : Int) - (1))))))) 0) ^^^ BitVec.ofInt 8 x3).toNat : Nat) : Int)))))) ≤ 1000000) = true then
                            if (bintactG (broomyG (List.take (0 + (List.length (putG (List.take (List.length (samplesG x0)) (List.drop 0 (samplesG x0)))))) (List.drop 0 (List.set (putG (List.take (List.length (samplesG x0)) (List.drop 0 (samplesG x0)))) (0 + (Int.toNat (withinI x2 (0) (if (IntKind.wrap .i64 ((((0 + (List.length (putG (List.take (List.length (samplesG x0)) (List.drop 0 (samplesG x0)))))) : Nat) : Int) - (1))) < (0) then (0) else (IntKind.wrap .i64 ((((0 + (List.length (putG (List.take (List.length (samplesG x0)) (List.drop 0 (samplesG x0)))))) : Nat) : Int) - (1))))))) (IntKind.wrap .u8 ((((BitVec.ofInt 8 (List.getD (putG (List.take (List.length (samplesG x0)) (List.drop 0 (samplesG x0)))) (0 + (Int.toNat (withinI x2 (0) (if (IntKind.wrap .i64 ((((0 + (List.length (putG (List.take (List.length (samplesG x0)) (List.drop 0 (samplesG x0)))))) : Nat) : Int) - (1))) < (0) then (0) else (IntKind.wrap .i64 ((((0 + (List.length (putG (List.take (List.length (samplesG x0)) (List.drop 0 (samplesG x0)))))) : Nat) : Int) - (1))))))) 0) ^^^ BitVec.ofInt 8 x3).toNat : Nat) : Int)))))) (7)) (List.take (0 + (List.length (putG (List.take (List.length (samplesG x0)) (List.drop 0 (samplesG x0)))))) (List.drop 0 (List.set (putG (List.take (List.length (samplesG x0)) (List.drop 0 (samplesG x0)))) (0 + (Int.toNat (withinI x2 (0) (if (IntKind.wrap .i64 ((((0 + (List.length (putG (List.take (List.length (samplesG x0)) (List.drop 0 (samplesG x0)))))) : Nat) : Int) - (1))) < (0) then (0) else (IntKind.wrap .i64 ((((0 + (List.length (putG (List.take (List.length (samplesG x0)) (List.drop 0 (samplesG x0)))))) : Nat) : Int) - (1))))))) (IntKind.wrap .u8 ((((BitVec.ofInt 8 (List.getD (putG (List.take (List.length (samplesG x0)) (List.drop 0 (samplesG x0)))) (0 + (Int.toNat (withinI x2 (0) (if (IntKind.wrap .i64 ((((0 + (List.length (putG (List.take (List.length (samplesG x0)) (List.drop 0 (samplesG x0)))))) : Nat) : Int) - (1))) < (0) then (0) else (IntKind.wrap .i64 ((((0 + (List.length (putG (List.take (List.length (samplesG x0)) (List.drop 0 (samplesG x0)))))) : Nat) : Int) - (1))))))) 0) ^^^ BitVec.ofInt 8 x3).toNat : Nat) : Int)))))) (7)) = true then
                              if ((getG (List.drop 0 (List.take (Int.toNat (((0 + (List.length (putG (List.take (List.length (samplesG x0)) (List.drop 0 (samplesG x0)))))) : Nat) : Int)) (broomyG (List.take (0 + (List.length (putG (List.take (List.length (samplesG x0)) (List.drop 0 (samplesG x0)))))) (List.drop 0 (List.set (putG (List.take (List.length (samplesG x0)) (List.drop 0 (samplesG x0)))) (0 + (Int.toNat (withinI x2 (0) (if (IntKind.wrap .i64 ((((0 + (List.length (putG (List.take (List.length (samplesG x0)) (List.drop 0 (samplesG x0)))))) : Nat) : Int) - (1))) < (0) then (0) else (IntKind.wrap .i64 ((((0 + (List.length (putG (List.take (List.length (samplesG x0)) (List.drop 0 (samplesG x0)))))) : Nat) : Int) - (1))))))) (IntKind.wrap .u8 ((((BitVec.ofInt 8 (List.getD (putG (List.take (List.length (samplesG x0)) (List.drop 0 (samplesG x0)))) (0 + (Int.toNat (withinI x2 (0) (if (IntKind.wrap .i64 ((((0 + (List.length (putG (List.take (List.length (samplesG x0)) (List.drop 0 (samplesG x0)))))) : Nat) : Int) - (1))) < (0) then (0) else (IntKind.wrap .i64 ((((0 + (List.length (putG (List.take (List.length (samplesG x0)) (List.drop 0 (samplesG x0)))))) : Nat) : Int) - (1))))))) 0) ^^^ BitVec.ofInt 8 x3).toNat : Nat) : Int)))))) (7))))).2 == (0)) = true then
                                if decide (List.length (getG (List.drop 0 (List.take (Int.toNat (((0 + (List.length (putG (List.take (List.length (samplesG x0)) (List.drop 0 (samplesG x0)))))) : Nat) : Int)) (broomyG (List.take (0 + (List.length (putG (List.take (List.length (samplesG x0)) (List.drop 0 (samplesG x0)))))) (List.drop 0 (List.set (putG (List.take (List.length (samplesG x0)) (List.drop 0 (samplesG x0)))) (0 + (Int.toNat (withinI x2 (0) (if (IntKind.wrap .i64 ((((0 + (List.length (putG (List.take (List.length (samplesG x0)) (List.drop 0 (samplesG x0)))))) : Nat) : Int) - (1))) < (0) then (0) else (IntKind.wrap .i64 ((((0 + (List.length (putG (List.take (List.length (samplesG x0)) (List.drop 0 (samplesG x0)))))) : Nat) : Int) - (1))))))) (IntKind.wrap .u8 ((((BitVec.ofInt 8 (List.getD (putG (List.take (List.length (samplesG x0)) (List.drop 0 (samplesG x0)))) (0 + (Int.toNat (withinI x2 (0) (if (IntKind.wrap .i64 ((((0 + (List.length (putG (List.take (List.length (samplesG x0)) (List.drop 0 (samplesG x0)))))) : Nat) : Int) - (1))) < (0) then (0) else (IntKind.wrap .i64 ((((0 + (List.length (putG (List.take (List.length (samplesG x0)) (List.drop 0 (samplesG x0)))))) : Nat) : Int) - (1))))))) 0) ^^^ BitVec.ofInt 8 x3).toNat : Nat) : Int)))))) (7))))).1 ≤ 1000000) = true then
                                  if decide (List.length (putG (getG (List.drop 0 (List.take (Int.toNat (((0 + (List.length (putG (List.take (List.length (samplesG x0)) (List.drop 0 (samplesG x0)))))) : Nat) : Int)) (broomyG (List.take (0 + (List.length (putG (List.take (List.length (samplesG x0)) (List.drop 0 (samplesG x0)))))) (List.drop 0 (List.set (putG (List.take (List.length (samplesG x0)) (List.drop 0 (samplesG x0)))) (0 + (Int.toNat (withinI x2 (0) (if (IntKind.wrap .i64 ((((0 + (List.length (putG (List.take (List.length (samplesG x0)) (List.drop 0 (samplesG x0)))))) : Nat) : Int) - (1))) < (0) then (0) else (IntKind.wrap .i64 ((((0 + (List.length (putG (List.take (List.length (samplesG x0)) (List.drop 0 (samplesG x0)))))) : Nat) : Int) - (1))))))) (IntKind.wrap .u8 ((((BitVec.ofInt 8 (List.getD (putG (List.take (List.length (samplesG x0)) (List.drop 0 (samplesG x0)))) (0 + (Int.toNat (withinI x2 (0) (if (IntKind.wrap .i64 ((((0 + (List.length (putG (List.take (List.length (samplesG x0)) (List.drop 0 (samplesG x0)))))) : Nat) : Int) - (1))) < (0) then (0) else (IntKind.wrap .i64 ((((0 + (List.length (putG (List.take (List.length (samplesG x0)) (List.drop 0 (samplesG x0)))))) : Nat) : Int) - (1))))))) 0) ^^^ BitVec.ofInt 8 x3).toNat : Nat) : Int)))))) (7))))).1) < 4611686018427387904) = true then
                                    if ((show List (Int) from (putG (getG (List.drop 0 (List.take (Int.toNat (((0 + (List.length (putG (List.take (List.length (samplesG x0)) (List.drop 0 (samplesG x0)))))) : Nat) : Int)) (broomyG (List.take (0 + (List.length (putG (List.take (List.length (samplesG x0)) (List.drop 0 (samplesG x0)))))) (List.drop 0 (List.set (putG (List.take (List.length (samplesG x0)) (List.drop 0 (samplesG x0)))) (0 + (Int.toNat (withinI x2 (0) (if (IntKind.wrap .i64 ((((0 + (List.length (putG (List.take (List.length (samplesG x0)) (List.drop 0 (samplesG x0)))))) : Nat) : Int) - (1))) < (0) then (0) else (IntKind.wrap .i64 ((((0 + (List.length (putG (List.take (List.length (samplesG x0)) (List.drop 0 (samplesG x0)))))) : Nat) : Int) - (1))))))) (IntKind.wrap .u8 ((((BitVec.ofInt 8 (List.getD (putG (List.take (List.length (samplesG x0)) (List.drop 0 (samplesG x0)))) (0 + (Int.toNat (withinI x2 (0) (if (IntKind.wrap .i64 ((((0 + (List.length (putG (List.take (List.length (samplesG x0)) (List.drop 0 (samplesG x0)))))) : Nat) : Int) - (1))) < (0) then (0) else (IntKind.wrap .i64 ((((0 + (List.length (putG (List.take (List.length (samplesG x0)) (List.drop 0 (samplesG x0)))))) : Nat) : Int) - (1))))))) 0) ^^^ BitVec.ofInt 8 x3).toNat : Nat) : Int)))))) (7))))).1)) == (List.take (0 + (List.length (putG (List.take (List.length (samplesG x0)) (List.drop 0 (samplesG x0)))))) (List.drop 0 (List.set (putG (List.take (List.length (samplesG x0)) (List.drop 0 (samplesG x0)))) (0 + (Int.toNat (withinI x2 (0) (if (IntKind.wrap .i64 ((((0 + (List.length (putG (List.take (List.length (samplesG x0)) (List.drop 0 (samplesG x0)))))) : Nat) : Int) - (1))) < (0) then (0) else (IntKind.wrap .i64 ((((0 + (List.length (putG (List.take (List.length (samplesG x0)) (List.drop 0 (samplesG x0)))))) : Nat) : Int) - (1))))))) (IntKind.wrap .u8 ((((BitVec.ofInt 8 (List.getD (putG (List.take (List.length (samplesG x0)) (List.drop 0 (samplesG x0)))) (0 + (Int.toNat (withinI x2 (0) (if (IntKind.wrap .i64 ((((0 + (List.length (putG (List.take (List.length (samplesG x0)) (List.drop 0 (samplesG x0)))))) : Nat) : Int) - (1))) < (0) then (0) else (IntKind.wrap .i64 ((((0 + (List.length (putG (List.take (List.length (samplesG x0)) (List.drop 0 (samplesG x0)))))) : Nat) : Int) - (1))))))) 0) ^^^ BitVec.ofInt 8 x3).toNat : Nat) : Int))))))) = true then
                                      some ()
                                    else
                                      none
                                  else
                                    none
                                else
                                  none
                              else
                                if ((getG (List.drop 0 (List.take (Int.toNat (((0 + (List.length (putG (List.take (List.length (samplesG x0)) (List.drop 0 (samplesG x0)))))) : Nat) : Int)) (broomyG (List.take (0 + (List.length (putG (List.take (List.length (samplesG x0)) (List.drop 0 (samplesG x0)))))) (List.drop 0 (List.set (putG (List.take (List.length (samplesG x0)) (List.drop 0 (samplesG x0)))) (0 + (Int.toNat (withinI x2 (0) (if (IntKind.wrap .i64 ((((0 + (List.length (putG (List.take (List.length (samplesG x0)) (List.drop 0 (samplesG x0)))))) : Nat) : Int) - (1))) < (0) then (0) else (IntKind.wrap .i64 ((((0 + (List.length (putG (List.take (List.length (samplesG x0)) (List.drop 0 (samplesG x0)))))) : Nat) : Int) - (1))))))) (IntKind.wrap .u8 ((((BitVec.ofInt 8 (List.getD (putG (List.take (List.length (samplesG x0)) (List.drop 0 (samplesG x0)))) (0 + (Int.toNat (withinI x2 (0) (if (IntKind.wrap .i64 ((((0 + (List.length (putG (List.take (List.length (samplesG x0)) (List.drop 0 (samplesG x0)))))) : Nat) : Int) - (1))) < (0) then (0) else (IntKind.wrap .i64 ((((0 + (List.length (putG (List.take (List.length (samplesG x0)) (List.drop 0 (samplesG x0)))))) : Nat) : Int) - (1))))))) 0) ^^^ BitVec.ofInt 8 x3).toNat : Nat) : Int)))))) (7))))).2 == (1)) = true then
                                  if ((((List.length (getG (List.drop 0 (List.take (Int.toNat (((0 + (List.length (putG (List.take (List.length (samplesG x0)) (List.drop 0 (samplesG x0)))))) : Nat) : Int)) (broomyG (List.take (0 + (List.length (putG (List.take (List.length (samplesG x0)) (List.drop 0 (samplesG x0)))))) (List.drop 0 (List.set (putG (List.take (List.length (samplesG x0)) (List.drop 0 (samplesG x0)))) (0 + (Int.toNat (withinI x2 (0) (if (IntKind.wrap .i64 ((((0 + (List.length (putG (List.take (List.length (samplesG x0)) (List.drop 0 (samplesG x0)))))) : Nat) : Int) - (1))) < (0) then (0) else (IntKind.wrap .i64 ((((0 + (List.length (putG (List.take (List.length (samplesG x0)) (List.drop 0 (samplesG x0)))))) : Nat) : Int) - (1))))))) (IntKind.wrap .u8 ((((BitVec.ofInt 8 (List.getD (putG (List.take (List.length (samplesG x0)) (List.drop 0 (samplesG x0)))) (0 + (Int.toNat (withinI x2 (0) (if (IntKind.wrap .i64 ((((0 + (List.length (putG (List.take (List.length (samplesG x0)) (List.drop 0 (samplesG x0)))))) : Nat) : Int) - (1))) < (0) then (0) else (IntKind.wrap .i64 ((((0 + (List.length (putG (List.take (List.length (samplesG x0)) (List.drop 0 (samplesG x0)))))) : Nat) : Int) - (1))))))) 0) ^^^ BitVec.ofInt 8 x3).toNat : Nat) : Int)))))) (7))))).1) : Nat) : Int) == (0)) = true then
                                    some ()
                                  else
                                    none
                                else
                                  none
                            else
                              none
                          else
                            none
                        else
                          none
                      else
                        none
                    else
                      none
                  else
                    none
                else
                  none
              else
                none
            else
              none
          else
            if ((IntKind.wrap .i64 ((((BitVec.ofInt 64 x4 &&& BitVec.ofInt 64 (3)).toNat : Nat) : Int))) == (1)) = true then
              if (decide (0 ≤ (withinI x2 (0) (if (IntKind.wrap .i64 ((((0 + (List.length (putG (List.take (List.length (samplesG x0)) (List.drop 0 (samplesG x0)))))) : Nat) : Int) - (1))) < (0) then (0) else (IntKind.wrap .i64 ((((0 + (List.length (putG (List.take (List.length (samplesG x0)) (List.drop 0 (samplesG x0)))))) : Nat) : Int) - (1)))))) && decide ((withinI x2 (0) (if (IntKind.wrap .i64 ((((0 + (List.length (putG (List.take (List.length (samplesG x0)) (List.drop 0 (samplesG x0)))))) : Nat) : Int) - (1))) < (0) then (0) else (IntKind.wrap .i64 ((((0 + (List.length (putG (List.take (List.length (samplesG x0)) (List.drop 0 (samplesG x0)))))) : Nat) : Int) - (1))))) ≤ (((0 + (List.length (putG (List.take (List.length (samplesG x0)) (List.drop 0 (samplesG x0)))))) : Nat) : Int))) = true then
                if decide ((0 + ((Int.toNat (withinI x2 (0) (if (IntKind.wrap .i64 ((((0 + (List.length (putG (List.take (List.length (samplesG x0)) (List.drop 0 (samplesG x0)))))) : Nat) : Int) - (1))) < (0) then (0) else (IntKind.wrap .i64 ((((0 + (List.length (putG (List.take (List.length (samplesG x0)) (List.drop 0 (samplesG x0)))))) : Nat) : Int) - (1)))))) - 0)) ≤ (List.length (putG (List.take (List.length (samplesG x0)) (List.drop 0 (samplesG x0)))))) = true then
                  if decide (List.length (List.take ((Int.toNat (withinI x2 (0) (if (IntKind.wrap .i64 ((((0 + (List.length (putG (List.take (List.length (samplesG x0)) (List.drop 0 (samplesG x0)))))) : Nat) : Int) - (1))) < (0) then (0) else (IntKind.wrap .i64 ((((0 + (List.length (putG (List.take (List.length (samplesG x0)) (List.drop 0 (samplesG x0)))))) : Nat) : Int) - (1)))))) - 0) (List.drop 0 (putG (List.take (List.length (samplesG x0)) (List.drop 0 (samplesG x0)))))) ≤ 1000000) = true then
                    if (decide (0 ≤ ((((Int.toNat (withinI x2 (0) (if (IntKind.wrap .i64 ((((0 + (List.length (putG (List.take (List.length (samplesG x0)) (List.drop 0 (samplesG x0)))))) : Nat) : Int) - (1))) < (0) then (0) else (IntKind.wrap .i64 ((((0 + (List.length (putG (List.take (List.length (samplesG x0)) (List.drop 0 (samplesG x0)))))) : Nat) : Int) - (1)))))) - 0) : Nat) : Int)) && decide (((((Int.toNat (withinI x2 (0) (if (IntKind.wrap .i64 ((((0 + (List.length (putG (List.take (List.length (samplesG x0)) (List.drop 0 (samplesG x0)))))) : Nat) : Int) - (1))) < (0) then (0) else (IntKind.wrap .i64 ((((0 + (List.length (putG (List.take (List.length (samplesG x0)) (List.drop 0 (samplesG x0)))))) : Nat) : Int) - (1)))))) - 0) : Nat) : Int) ≤ (((List.length (broomyG (List.take ((Int.toNat (withinI x2 (0) (if (IntKind.wrap .i64 ((((0 + (List.length (putG (List.take (List.length (samplesG x0)) (List.drop 0 (samplesG x0)))))) : Nat) : Int) - (1))) < (0) then (0) else (IntKind.wrap .i64 ((((0 + (List.length (putG (List.take (List.length (samplesG x0)) (List.drop 0 (samplesG x0)))))) : Nat) : Int) - (1)))))) - 0) (List.drop 0 (putG (List.take (List.length (samplesG x0)) (List.drop 0 (samplesG x0)))))) (7))) : Nat) : Int))) = true then
                      if bytesOK (List.drop 0 (List.take (Int.toNat ((((Int.toNat (withinI x2 (0) (if (IntKind.wrap .i64 ((((0 + (List.length (putG (List.take (List.length (samplesG x0)) (List.drop 0 (samplesG x0)))))) : Nat) : Int) - (1))) < (0) then (0) else (IntKind.wrap .i64 ((((0 + (List.length (putG (List.take (List.length (samplesG x0)) (List.drop 0 (samplesG x0)))))) : Nat) : Int) - (1)))))) - 0) : Nat) : Int)) (broomyG (List.take ((Int.toNat (withinI x2 (0) (if (IntKind.wrap .i64 ((((0 + (List.length (putG (List.take (List.length (samplesG x0)) (List.drop 0 (samplesG x0)))))) : Nat) : Int) - (1))) < (0) then (0) else (IntKind.wrap .i64 ((((0 + (List.length (putG (List.take (List.length (samplesG x0)) (List.drop 0 (samplesG x0)))))) : Nat) : Int) - (1)))))) - 0) (List.drop 0 (putG (List.take (List.length (samplesG x0)) (List.drop 0 (samplesG x0)))))) (7)))) = true then
                        if decide (List.length (broomyG (List.take ((Int.toNat (withinI x2 (0) (if (IntKind.wrap .i64 ((((0 + (List.length (putG (List.take (List.length (samplesG x0)) (List.drop 0 (samplesG x0)))))) : Nat) : Int) - (1))) < (0) then (0) else (IntKind.wrap .i64 ((((0 + (List.length (putG (List.take (List.length (samplesG x0)) (List.drop 0 (samplesG x0)))))) : Nat) : Int) - (1)))))) - 0) (List.drop 0 (putG (List.take (List.length (samplesG x0)) (List.drop 0 (samplesG x0)))))) (7)) ≤ 1000000 ∧ List.length (List.take ((Int.toNat (withinI x2 (0) (if (IntKind.wrap .i64 ((((0 + (List.length (putG (List.take (List.length (samplesG x0)) (List.drop 0 (samplesG x0)))))) : Nat) : Int) - (1))) < (0) then (0) else (IntKind.wrap .i64 ((((0 + (List.length (putG (List.take (List.length (samplesG x0)) (List.drop 0 (samplesG x0)))))) : Nat) : Int) - (1)))))) - 0) (List.drop 0 (putG (List.take (List.length (samplesG x0)) (List.drop 0 (samplesG x0)))))) ≤ 1000000) = true then
                          if (bintactG (broomyG (List.take ((Int.toNat (withinI x2 (0) (if (IntKind.wrap .i64 ((((0 + (List.length (putG (List.take (List.length (samplesG x0)) (List.drop 0 (samplesG x0)))))) : Nat) : Int) - (1))) < (0) then (0) else (IntKind.wrap .i64 ((((0 + (List.length (putG (List.take (List.length (samplesG x0)) (List.drop 0 (samplesG x0)))))) : Nat) : Int) - (1)))))) - 0) (List.drop 0 (putG (List.take (List.length (samplesG x0)) (List.drop 0 (samplesG x0)))))) (7)) (List.take ((Int.toNat (withinI x2 (0) (if (IntKind.wrap .i64 ((((0 + (List.length (putG (List.take (List.length (samplesG x0)) (List.drop 0 (samplesG x0)))))) : Nat) : Int) - (1))) < (0) then (0) else (IntKind.wrap .i64 ((((0 + (List.length (putG (List.take (List.length (samplesG x0)) (List.drop 0 (samplesG x0)))))) : Nat) : Int) - (1)))))) - 0) (List.drop 0 (putG (List.take (List.length (samplesG x0)) (List.drop 0 (samplesG x0)))))) (7)) = true then
                            if ((getG (List.drop 0 (List.take (Int.toNat ((((Int.toNat (withinI x2 (0) (if (IntKind.wrap .i64 ((((0 + (List.length (putG (List.take (List.length (samplesG x0)) (List.drop 0 (samplesG x0)))))) : Nat) : Int) - (1))) < (0) then (0) else (IntKind.wrap .i64 ((((0 + (List.length (putG (List.take (List.length (samplesG x0)) (List.drop 0 (samplesG x0)))))) : Nat) : Int) - (1)))))) - 0) : Nat) : Int)) (broomyG (List.take ((Int.toNat (withinI x2 (0) (if (IntKind.wrap .i64 ((((0 + (List.length (putG (List.take (List.length (samplesG x0)) (List.drop 0 (samplesG x0)))))) : Nat) : Int) - (1))) < (0) then (0) else (IntKind.wrap .i64 ((((0 + (List.length (putG (List.take (List.length (samplesG x0)) (List.drop 0 (samplesG x0)))))) : Nat) : Int) - (1)))))) - 0) (List.drop 0 (putG (List.take (List.length (samplesG x0)) (List.drop 0 (samplesG x0)))))) (7))))).2 == (0)) = true then
                              if decide (List.length (getG (List.drop 0 (List.take (Int.toNat ((((Int.toNat (withinI x2 (0) (if (IntKind.wrap .i64 ((((0 + (List.length (putG (List.take (List.length (samplesG x0)) (List.drop 0 (samplesG x0)))))) : Nat) : Int) - (1))) < (0) then (0) else (IntKind.wrap .i64 ((((0 + (List.length (putG (List.take (List.length (samplesG x0)) (List.drop 0 (samplesG x0)))))) : Nat) : Int) - (1)))))) - 0) : Nat) : Int)) (broomyG (List.take ((Int.toNat (withinI x2 (0) (if (IntKind.wrap .i64 ((((0 + (List.length (putG (List.take (List.length (samplesG x0)) (List.drop 0 (samplesG x0)))))) : Nat) : Int) - (1))) < (0) then (0) else (IntKind.wrap .i64 ((((0 + (List.length (putG (List.take (List.length (samplesG x0)) (List.drop 0 (samplesG x0)))))) : Nat) : Int) - (1)))))) - 0) (List.drop 0 (putG (List.take (List.length (samplesG x0)) (List.drop 0 (samplesG x0)))))) (7))))).1 ≤ 1000000) = true then
                                if decide (List.length (putG (getG (List.drop 0 (List.take (Int.toNat ((((Int.toNat (withinI x2 (0) (if (IntKind.wrap .i64 ((((0 + (List.length (putG (List.take (List.length (samplesG x0)) (List.drop 0 (samplesG x0)))))) : Nat) : Int) - (1))) < (0) then (0) else (IntKind.wrap .i64 ((((0 + (List.length (putG (List.take (List.length (samplesG x0)) (List.drop 0 (samplesG x0)))))) : Nat) : Int) - (1)))))) - 0) : Nat) : Int)) (broomyG (List.take ((Int.toNat (withinI x2 (0) (if (IntKind.wrap .i64 ((((0 + (List.length (putG (List.take (List.length (samplesG x0)) (List.drop 0 (samplesG x0)))))) : Nat) : Int) - (1))) < (0) then (0) else (IntKind.wrap .i64 ((((0 + (List.length (putG (List.take (List.length (samplesG x0)) (List.drop 0 (samplesG x0)))))) : Nat) : Int) - (1)))))) - 0) (List.drop 0 (putG (List.take (List.length (samplesG x0)) (List.drop 0 (samplesG x0)))))) (7))))).1) < 4611686018427387904) = true then
                                  if ((show List (Int) from (putG (getG (List.drop 0 (List.take (Int.toNat ((((Int.toNat (withinI x2 (0) (if (IntKind.wrap .i64 ((((0 + (List.length (putG (List.take (List.length (samplesG x0)) (List.drop 0 (samplesG x0)))))) : Nat) : Int) - (1))) < (0) then (0) else (IntKind.wrap .i64 ((((0 + (List.length (putG (List.take (List.length (samplesG x0)) (List.drop 0 (samplesG x0)))))) : Nat) : Int) - (1)))))) - 0) : Nat) : Int)) (broomyG (List.take ((Int.toNat (withinI x2 (0) (if (IntKind.wrap .i64 ((((0 + (List.length (putG (List.take (List.length (samplesG x0)) (List.drop 0 (samplesG x0)))))) : Nat) : Int) - (1))) < (0) then (0) else (IntKind.wrap .i64 ((((0 + (List.length (putG (List.take (List.length (samplesG x0)) (List.drop 0 (samplesG x0)))))) : Nat) : Int) - (1)))))) - 0) (List.drop 0 (putG (List.take (List.length (samplesG x0)) (List.drop 0 (samplesG x0)))))) (7))))).1)) == (List.take ((Int.toNat (withinI x2 (0) (if (IntKind.wrap .i64 ((((0 + (List.length (putG (List.take (List.length (samplesG x0)) (List.drop 0 (samplesG x0)))))) : Nat) : Int) - (1))) < (0) then (0) else (IntKind.wrap .i64 ((((0 + (List.length (putG (List.take (List.length (samplesG x0)) (List.drop 0 (samplesG x0)))))) : Nat) : Int) - (1)))))) - 0) (List.drop 0 (putG (List.take (List.length (samplesG x0)) (List.drop 0 (samplesG x0))))))) = true then
                                    some ()
                                  else
                                    none
                                else
                                  none
                              else
                                none
                            else
                              if ((getG (List.drop 0 (List.take (Int.toNat ((((Int.toNat (withinI x2 (0) (if (IntKind.wrap .i64 ((((0 + (List.length (putG (List.take (List.length (samplesG x0)) (List.drop 0 (samplesG x0)))))) : Nat) : Int) - (1))) < (0) then (0) else (IntKind.wrap .i64 ((((0 + (List.length (putG (List.take (List.length (samplesG x0)) (List.drop 0 (samplesG x0)))))) : Nat) : Int) - (1)))))) - 0) : Nat) : Int)) (broomyG (List.take ((Int.toNat (withinI x2 (0) (if (IntKind.wrap .i64 ((((0 + (List.length (putG (List.take (List.length (samplesG x0)) (List.drop 0 (samplesG x0)))))) : Nat) : Int) - (1))) < (0) then (0) else (IntKind.wrap .i64 ((((0 + (List.length (putG (List.take (List.length (samplesG x0)) (List.drop 0 (samplesG x0)))))) : Nat) : Int) - (1)))))) - 0) (List.drop 0 (putG (List.take (List.length (samplesG x0)) (List.drop 0 (samplesG x0)))))) (7))))).2 == (1)) = true then
                                if ((((List.length (getG (List.drop 0 (List.take (Int.toNat ((((Int.toNat (withinI x2 (0) (if (IntKind.wrap .i64 ((((0 + (List.length (putG (List.take (List.length (samplesG x0)) (List.drop 0 (samplesG x0)))))) : Nat) : Int) - (1))) < (0) then (0) else (IntKind.wrap .i64 ((((0 + (List.length (putG (List.take (List.length (samplesG x0)) (List.drop 0 (samplesG x0)))))) : Nat) : Int) - (1)))))) - 0) : Nat) : Int)) (broomyG (List.take ((Int.toNat (withinI x2 (0) (if (IntKind.wrap .i64 ((((0 + (List.length (putG (List.take (List.length (samplesG x0)) (List.drop 0 (samplesG x0)))))) : Nat) : Int) - (1))) < (0) then (0) else (IntKind.wrap .i64 ((((0 + (List.length (putG (List.take (List.length (samplesG x0)) (List.drop 0 (samplesG x0)))))) : Nat) : Int) - (1)))))) - 0) (List.drop 0 (putG (List.take (List.length (samplesG x0)) (List.drop 0 (samplesG x0)))))) (7))))).1) : Nat) : Int) == (0)) = true then
                                  some ()
                                else
                                  none
                              else
                                none
                          else
                            none
                        else
                          none
                      else
                        none
                    else
                      none
                  else
                    none
                else
                  none
              else
                none
            else
              if ((IntKind.wrap .i64 ((((BitVec.ofInt 64 x4 &&& BitVec.ofInt 64 (3)).toNat : Nat) : Int))) == (2)) = true then
                if (decide (0 ≤ (if (10) < (((List.length x1) : Nat) : Int) then (10) else (((List.length x1) : Nat) : Int))) && decide ((if (10) < (((List.length x1) : Nat) : Int) then (10) else (((List.length x1) : Nat) : Int)) ≤ (((List.length x1) : Nat) : Int))) = true then
                  if decide ((((0 + (List.length (putG (List.take (List.length (samplesG x0)) (List.drop 0 (samplesG x0)))))) + (List.length (List.drop 0 (List.take (Int.toNat (if (10) < (((List.length x1) : Nat) : Int) then (10) else (((List.length x1) : Nat) : Int))) x1)))) * 1) ≤ 70368744177664) = true then
                    if decide ((0 + (List.length (putG (List.take (List.length (samplesG x0)) (List.drop 0 (samplesG x0)))))) = (List.length (putG (List.take (List.length (samplesG x0)) (List.drop 0 (samplesG x0)))))) = true then
                      if decide ((0 + ((0 + (List.length (putG (List.take (List.length (samplesG x0)) (List.drop 0 (samplesG x0)))))) + (List.length (List.drop 0 (List.take (Int.toNat (if (10) < (((List.length x1) : Nat) : Int) then (10) else (((List.length x1) : Nat) : Int))) x1))))) ≤ (List.length ((putG (List.take (List.length (samplesG x0)) (List.drop 0 (samplesG x0)))) ++ (List.drop 0 (List.take (Int.toNat (if (10) < (((List.length x1) : Nat) : Int) then (10) else (((List.length x1) : Nat) : Int))) x1))))) = true then
                        if decide (List.length (List.take ((0 + (List.length (putG (List.take (List.length (samplesG x0)) (List.drop 0 (samplesG x0)))))) + (List.length (List.drop 0 (List.take (Int.toNat (if (10) < (((List.length x1) : Nat) : Int) then (10) else (((List.length x1) : Nat) : Int))) x1)))) (List.drop 0 ((putG (List.take (List.length (samplesG x0)) (List.drop 0 (samplesG x0)))) ++ (List.drop 0 (List.take (Int.toNat (if (10) < (((List.length x1) : Nat) : Int) then (10) else (((List.length x1) : Nat) : Int))) x1))))) ≤ 1000000) = true then
                          if (decide (0 ≤ ((((0 + (List.length (putG (List.take (List.length (samplesG x0)) (List.drop 0 (samplesG x0)))))) + (List.length (List.drop 0 (List.take (Int.toNat (if (10) < (((List.length x1) : Nat) : Int) then (10) else (((List.length x1) : Nat) : Int))) x1)))) : Nat) : Int)) && decide (((((0 + (List.length (putG (List.take (List.length (samplesG x0)) (List.drop 0 (samplesG x0)))))) + (List.length (List.drop 0 (List.take (Int.toNat (if (10) < (((List.length x1) : Nat) : Int) then (10) else (((List.length x1) : Nat) : Int))) x1)))) : Nat) : Int) ≤ (((List.length (broomyG (List.take ((0 + (List.length (putG (List.take (List.length (samplesG x0)) (List.drop 0 (samplesG x0)))))) + (List.length (List.drop 0 (List.take (Int.toNat (if (10) < (((List.length x1) : Nat) : Int) then (10) else (((List.length x1) : Nat) : Int))) x1)))) (List.drop 0 ((putG (List.take (List.length (samplesG x0)) (List.drop 0 (samplesG x0)))) ++ (List.drop 0 (List.take (Int.toNat (if (10) < (((List.length x1) : Nat) : Int) then (10) else (((List.length x1) : Nat) : Int))) x1))))) (7))) : Nat) : Int))) = true then
                            if bytesOK (List.drop 0 (List.take (Int.toNat ((((0 + (List.length (putG (List.take (List.length (samplesG x0)) (List.drop 0 (samplesG x0)))))) + (List.length (List.drop 0 (List.take (Int.toNat (if (10) < (((List.length x1) : Nat) : Int) then (10) else (((List.length x1) : Nat) : Int))) x1)))) : Nat) : Int)) (broomyG (List.take ((0 + (List.length (putG (List.take (List.length (samplesG x0)) (List.drop 0 (samplesG x0)))))) + (List.length (List.drop 0 (List.take (Int.toNat (if (10) < (((List.length x1) : Nat) : Int) then (10) else (((List.length x1) : Nat) : Int))) x1)))) (List.drop 0 ((putG (List.take (List.length (samplesG x0)) (List.drop 0 (samplesG x0)))) ++ (List.drop 0 (List.take (Int.toNat (if (10) < (((List.length x1) : Nat) : Int) then (10) else (((List.length x1) : Nat) : Int))) x1))))) (7)))) = true then
                              if decide (List.length (broomyG (List.take ((0 + (List.length (putG (List.take (List.length (samplesG x0)) (List.drop 0 (samplesG x0)))))) + (List.length (List.drop 0 (List.take (Int.toNat (if (10) < (((List.length x1) : Nat) : Int) then (10) else (((List.length x1) : Nat) : Int))) x1)))) (List.drop 0 ((putG (List.take (List.length (samplesG x0)) (List.drop 0 (samplesG x0)))) ++ (List.drop 0 (List.take (Int.toNat (if (10) < (((List.length x1) : Nat) : Int) then (10) else (((List.length x1) : Nat) : Int))) x1))))) (7)) ≤ 1000000 ∧ List.length (List.take ((0 + (List.length (putG (List.take (List.length (samplesG x0)) (List.drop 0 (samplesG x0)))))) + (List.length (List.drop 0 (List.take (Int.toNat (if (10) < (((List.length x1) : Nat) : Int) then (10) else (((List.length x1) : Nat) : Int))) x1)))) (List.drop 0 ((putG (List.take (List.length (samplesG x0)) (List.drop 0 (samplesG x0)))) ++ (List.drop 0 (List.take (Int.toNat (if (10) < (((List.length x1) : Nat) : Int) then (10) else (((List.length x1) : Nat) : Int))) x1))))) ≤ 1000000) = true then
                                if (bintactG (broomyG (List.take ((0 + (List.length (putG (List.take (List.length (samplesG x0)) (List.drop 0 (samplesG x0)))))) + (List.length (List.drop 0 (List.take (Int.toNat (if (10) < (((List.length x1) : Nat) : Int) then (10) else (((List.length x1) : Nat) : Int))) x1)))) (List.drop 0 ((putG (List.take (List.length (samplesG x0)) (List.drop 0 (samplesG x0)))) ++ (List.drop 0 (List.take (Int.toNat (if (10) < (((List.length x1) : Nat) : Int) then (10) else (((List.length x1) : Nat) : Int))) x1))))) (7)) (List.take ((0 + (List.length (putG (List.take (List.length (samplesG x0)) (List.drop 0 (samplesG x0)))))) + (List.length (List.drop 0 (List.take (Int.toNat (if (10) < (((List.length x1) : Nat) : Int) then (10) else (((List.length x1) : Nat) : Int))) x1)))) (List.drop 0 ((putG (List.take (List.length (samplesG x0)) (List.drop 0 (samplesG x0)))) ++ (List.drop 0 (List.take (Int.toNat (if (10) < (((List.length x1) : Nat) : Int) then (10) else (((List.length x1) : Nat) : Int))) x1))))) (7)) = true then
                                  if ((getG (List.drop 0 (List.take (Int.toNat ((((0 + (List.length (putG (List.take (List.length (samplesG x0)) (List.drop 0 (samplesG x0)))))) + (List.length (List.drop 0 (List.take (Int.toNat (if (10) < (((List.length x1) : Nat) : Int) then (10) else (((List.length x1) : Nat) : Int))) x1)))) : Nat) : Int)) (broomyG (List.take ((0 + (List.length (putG (List.take (List.length (samplesG x0)) (List.drop 0 (samplesG x0)))))) + (List.length (List.drop 0 (List.take (Int.toNat (if (10) < (((List.length x1) : Nat) : Int) then (10) else (((List.length x1) : Nat) : Int))) x1)))) (List.drop 0 ((putG (List.take (List.length (samplesG x0)) (List.drop 0 (samplesG x0)))) ++ (List.drop 0 (List.take (Int.toNat (if (10) < (((List.length x1) : Nat) : Int) then (10) else (((List.length x1) : Nat) : Int))) x1))))) (7))))).2 == (0)) = true then
                                    if decide (List.length (getG (List.drop 0 (List.take (Int.toNat ((((0 + (List.length (putG (List.take (List.length (samplesG x0)) (List.drop 0 (samplesG x0)))))) + (List.length (List.drop 0 (List.take (Int.toNat (if (10) < (((List.length x1) : Nat) : Int) then (10) else (((List.length x1) : Nat) : Int))) x1)))) : Nat) : Int)) (broomyG (List.take ((0 + (List.length (putG (List.take (List.length (samplesG x0)) (List.drop 0 (samplesG x0)))))) + (List.length (List.drop 0 (List.take (Int.toNat (if (10) < (((List.length x1) : Nat) : Int) then (10) else (((List.length x1) : Nat) : Int))) x1)))) (List.drop 0 ((putG (List.take (List.length (samplesG x0)) (List.drop 0 (samplesG x0)))) ++ (List.drop 0 (List.take (Int.toNat (if (10) < (((List.length x1) : Nat) : Int) then (10) else (((List.length x1) : Nat) : Int))) x1))))) (7))))).1 ≤ 1000000) = true then
                                      if decide (List.length (putG (getG (List.drop 0 (List.take (Int.toNat ((((0 + (List.length (putG (List.take (List.length (samplesG x0)) (List.drop 0 (samplesG x0)))))) + (List.length (List.drop 0 (List.take (Int.toNat (if (10) < (((List.length x1) : Nat) : Int) then (10) else (((List.length x1) : Nat) : Int))) x1)))) : Nat) : Int)) (broomyG (List.take ((0 + (List.length (putG (List.take (List.length (samplesG x0)) (List.drop 0 (samplesG x0)))))) + (List.length (List.drop 0 (List.take (Int.toNat (if (10) < (((List.length x1) : Nat) : Int) then (10) else (((List.length x1) : Nat) : Int))) x1)))) (List.drop 0 ((putG (List.take (List.length (samplesG x0)) (List.drop 0 (samplesG x0)))) ++ (List.drop 0 (List.take (Int.toNat (if (10) < (((List.length x1) : Nat) : Int) then (10) else (((List.length x1) : Nat) : Int))) x1))))) (7))))).1) < 4611686018427387904) = true then
                                        if ((show List (Int) from (putG (getG (List.drop 0 (List.take (Int.toNat ((((0 + (List.length (putG (List.take (List.length (samplesG x0)) (List.drop 0 (samplesG x0)))))) + (List.length (List.drop 0 (List.take (Int.toNat (if (10) < (((List.length x1) : Nat) : Int) then (10) else (((List.length x1) : Nat) : Int))) x1)))) : Nat) : Int)) (broomyG (List.take ((0 + (List.length (putG (List.take (List.length (samplesG x0)) (List.drop 0 (samplesG x0)))))) + (List.length (List.drop 0 (List.take (Int.toNat (if (10) < (((List.length x1) : Nat) : Int) then (10) else (((List.length x1) : Nat) : Int))) x1)))) (List.drop 0 ((putG (List.take (List.length (samplesG x0)) (List.drop 0 (samplesG x0)))) ++ (List.drop 0 (List.take (Int.toNat (if (10) < (((List.length x1) : Nat) : Int) then (10) else (((List.length x1) : Nat) : Int))) x1))))) (7))))).1)) == (List.take ((0 + (List.length (putG (List.take (List.length (samplesG x0)) (List.drop 0 (samplesG x0)))))) + (List.length (List.drop 0 (List.take (Int.toNat (if (10) < (((List.length x1) : Nat) : Int) then (10) else (((List.length x1) : Nat) : Int))) x1)))) (List.drop 0 ((putG (List.take (List.length (samplesG x0)) (List.drop 0 (samplesG x0)))) ++ (List.drop 0 (List.take (Int.toNat (if (10) < (((List.length x1) : Nat) : Int) then (10) else (((List.length x1) : Nat) : Int))) x1)))))) = true then
                                          some ()
                                        else
                                          none
                                      else
                                        none
                                    else
                                      none
                                  else
                                    if ((getG (List.drop 0 (List.take (Int.toNat ((((0 + (List.length (putG (List.take (List.length (samplesG x0)) (List.drop 0 (samplesG x0)))))) + (List.length (List.drop 0 (List.take (Int.toNat (if (10) < (((List.length x1) : Nat) : Int) then (10) else (((List.length x1) : Nat) : Int))) x1)))) : Nat) : Int)) (broomyG (List.take ((0 + (List.length (putG (List.take (List.length (samplesG x0)) (List.drop 0 (samplesG x0)))))) + (List.length (List.drop 0 (List.take (Int.toNat (if (10) < (((List.length x1) : Nat) : Int) then (10) else (((List.length x1) : Nat) : Int))) x1)))) (List.drop 0 ((putG (List.take (List.length (samplesG x0)) (List.drop 0 (samplesG x0)))) ++ (List.drop 0 (List.take (Int.toNat (if (10) < (((List.length x1) : Nat) : Int) then (10) else (((List.length x1) : Nat) : Int))) x1))))) (7))))).2 == (1)) = true then
                                      if ((((List.length (getG (List.drop 0 (List.take (Int.toNat ((((0 + (List.length (putG (List.take (List.length (samplesG x0)) (List.drop 0 (samplesG x0)))))) + (List.length (List.drop 0 (List.take (Int.toNat (if (10) < (((List.length x1) : Nat) : Int) then (10) else (((List.length x1) : Nat) : Int))) x1)))) : Nat) : Int)) (broomyG (List.take ((0 + (List.length (putG (List.take (List.length (samplesG x0)) (List.drop 0 (samplesG x0)))))) + (List.length (List.drop 0 (List.take (Int.toNat (if (10) < (((List.length x1) : Nat) : Int) then (10) else (((List.length x1) : Nat) : Int))) x1)))) (List.drop 0 ((putG (List.take (List.length (samplesG x0)) (List.drop 0 (samplesG x0)))) ++ (List.drop 0 (List.take (Int.toNat (if (10) < (((List.length x1) : Nat) : Int) then (10) else (((List.length x1) : Nat) : Int))) x1))))) (7))))).1) : Nat) : Int) == (0)) = true then
                                        some ()
                                      else
                                        none
                                    else
                                      none
                                else
                                  none
                              else
                                none
                            else
                              none
                          else
                            none
                        else
                          none
                      else
                        none
                    else
                      none
                  else
                    none
                else
                  none
              else
                if (decide (0 ≤ (if (40) < (((List.length x1) : Nat) : Int) then (40) else (((List.length x1) : Nat) : Int))) && decide ((if (40) < (((List.length x1) : Nat) : Int) then (40) else (((List.length x1) : Nat) : Int)) ≤ (((List.length x1) : Nat) : Int))) = true then
                  if decide (((0 + (List.length (List.drop 0 (List.take (Int.toNat (if (40) < (((List.length x1) : Nat) : Int) then (40) else (((List.length x1) : Nat) : Int))) x1)))) * 1) ≤ 70368744177664) = true then
                    if decide ((0 + (0 + (List.length (List.drop 0 (List.take (Int.toNat (if (40) < (((List.length x1) : Nat) : Int) then (40) else (((List.length x1) : Nat) : Int))) x1))))) ≤ (List.length (List.drop 0 (List.take (Int.toNat (if (40) < (((List.length x1) : Nat) : Int) then (40) else (((List.length x1) : Nat) : Int))) x1)))) = true then
                      if decide (List.length (List.take (0 + (List.length (List.drop 0 (List.take (Int.toNat (if (40) < (((List.length x1) : Nat) : Int) then (40) else (((List.length x1) : Nat) : Int))) x1)))) (List.drop 0 (List.drop 0 (List.take (Int.toNat (if (40) < (((List.length x1) : Nat) : Int) then (40) else (((List.length x1) : Nat) : Int))) x1)))) ≤ 1000000) = true then
                        if (decide (0 ≤ (((0 + (List.length (List.drop 0 (List.take (Int.toNat (if (40) < (((List.length x1) : Nat) : Int) then (40) else (((List.length x1) : Nat) : Int))) x1)))) : Nat) : Int)) && decide ((((0 + (List.length (List.drop 0 (List.take (Int.toNat (if (40) < (((List.length x1) : Nat) : Int) then (40) else (((List.length x1) : Nat) : Int))) x1)))) : Nat) : Int) ≤ (((List.length (broomyG (List.take (0 + (List.length (List.drop 0 (List.take (Int.toNat (if (40) < (((List.length x1) : Nat) : Int) then (40) else (((List.length x1) : Nat) : Int))) x1)))) (List.drop 0 (List.drop 0 (List.take (Int.toNat (if (40) < (((List.length x1) : Nat) : Int) then (40) else (((List.length x1) : Nat) : Int))) x1)))) (7))) : Nat) : Int))) = true then
                          if bytesOK (List.drop 0 (List.take (Int.toNat (((0 + (List.length (List.drop 0 (List.take (Int.toNat (if (40) < (((List.length x1) : Nat) : Int) then (40) else (((List.length x1) : Nat) : Int))) x1)))) : Nat) : Int)) (broomyG (List.take (0 + (List.length (List.drop 0 (List.take (Int.toNat (if (40) < (((List.length x1) : Nat) : Int) then (40) else (((List.length x1) : Nat) : Int))) x1)))) (List.drop 0 (List.drop 0 (List.take (Int.toNat (if (40) < (((List.length x1) : Nat) : Int) then (40) else (((List.length x1) : Nat) : Int))) x1)))) (7)))) = true then
                            if decide (List.length (broomyG (List.take (0 + (List.length (List.drop 0 (List.take (Int.toNat (if (40) < (((List.length x1) : Nat) : Int) then (40) else (((List.length x1) : Nat) : Int))) x1)))) (List.drop 0 (List.drop 0 (List.take (Int.toNat (if (40) < (((List.length x1) : Nat) : Int) then (40) else (((List.length x1) : Nat) : Int))) x1)))) (7)) ≤ 1000000 ∧ List.length (List.take (0 + (List.length (List.drop 0 (List.take (Int.toNat (if (40) < (((List.length x1) : Nat) : Int) then (40) else (((List.length x1) : Nat) : Int))) x1)))) (List.drop 0 (List.drop 0 (List.take (Int.toNat (if (40) < (((List.length x1) : Nat) : Int) then (40) else (((List.length x1) : Nat) : Int))) x1)))) ≤ 1000000) = true then
                              if (bintactG (broomyG (List.take (0 + (List.length (List.drop 0 (List.take (Int.toNat (if (40) < (((List.length x1) : Nat) : Int) then (40) else (((List.length x1) : Nat) : Int))) x1)))) (List.drop 0 (List.drop 0 (List.take (Int.toNat (if (40) < (((List.length x1) : Nat) : Int) then (40) else (((List.length x1) : Nat) : Int))) x1)))) (7)) (List.take (0 + (List.length (List.drop 0 (List.take (Int.toNat (if (40) < (((List.length x1) : Nat) : Int) then (40) else (((List.length x1) : Nat) : Int))) x1)))) (List.drop 0 (List.drop 0 (List.take (Int.toNat (if (40) < (((List.length x1) : Nat) : Int) then (40) else (((List.length x1) : Nat) : Int))) x1)))) (7)) = true then
                                if ((getG (List.drop 0 (List.take (Int.toNat (((0 + (List.length (List.drop 0 (List.take (Int.toNat (if (40) < (((List.length x1) : Nat) : Int) then (40) else (((List.length x1) : Nat) : Int))) x1)))) : Nat) : Int)) (broomyG (List.take (0 + (List.length (List.drop 0 (List.take (Int.toNat (if (40) < (((List.length x1) : Nat) : Int) then (40) else (((List.length x1) : Nat) : Int))) x1)))) (List.drop 0 (List.drop 0 (List.take (Int.toNat (if (40) < (((List.length x1) : Nat) : Int) then (40) else (((List.length x1) : Nat) : Int))) x1)))) (7))))).2 == (0)) = true then
                                  if decide (List.length (getG (List.drop 0 (List.take (Int.toNat (((0 + (List.length (List.drop 0 (List.take (Int.toNat (if (40) < (((List.length x1) : Nat) : Int) then (40) else (((List.length x1) : Nat) : Int))) x1)))) : Nat) : Int)) (broomyG (List.take (0 + (List.length (List.drop 0 (List.take (Int.toNat (if (40) < (((List.length x1) : Nat) : Int) then (40) else (((List.length x1) : Nat) : Int))) x1)))) (List.drop 0 (List.drop 0 (List.take (Int.toNat (if (40) < (((List.length x1) : Nat) : Int) then (40) else (((List.length x1) : Nat) : Int))) x1)))) (7))))).1 ≤ 1000000) = true then
                                    if decide (List.length (putG (getG (List.drop 0 (List.take (Int.toNat (((0 + (List.length (List.drop 0 (List.take (Int.toNat (if (40) < (((List.length x1) : Nat) : Int) then (40) else (((List.length x1) : Nat) : Int))) x1)))) : Nat) : Int)) (broomyG (List.take (0 + (List.length (List.drop 0 (List.take (Int.toNat (if (40) < (((List.length x1) : Nat) : Int) then (40) else (((List.length x1) : Nat) : Int))) x1)))) (List.drop 0 (List.drop 0 (List.take (Int.toNat (if (40) < (((List.length x1) : Nat) : Int) then (40) else (((List.length x1) : Nat) : Int))) x1)))) (7))))).1) < 4611686018427387904) = true then
                                      if ((show List (Int) from (putG (getG (List.drop 0 (List.take (Int.toNat (((0 + (List.length (List.drop 0 (List.take (Int.toNat (if (40) < (((List.length x1) : Nat) : Int) then (40) else (((List.length x1) : Nat) : Int))) x1)))) : Nat) : Int)) (broomyG (List.take (0 + (List.length (List.drop 0 (List.take (Int.toNat (if (40) < (((List.length x1) : Nat) : Int) then (40) else (((List.length x1) : Nat) : Int))) x1)))) (List.drop 0 (List.drop 0 (List.take (Int.toNat (if (40) < (((List.length x1) : Nat) : Int) then (40) else (((List.length x1) : Nat) : Int))) x1)))) (7))))).1)) == (List.take (0 + (List.length (List.drop 0 (List.take (Int.toNat (if (40) < (((List.length x1) : Nat) : Int) then (40) else (((List.length x1) : Nat) : Int))) x1)))) (List.drop 0 (List.drop 0 (List.take (Int.toNat (if (40) < (((List.length x1) : Nat) : Int) then (40) else (((List.length x1) : Nat) : Int))) x1))))) = true then
                                        some ()
                                      else
                                        none
                                    else
                                      none
                                  else
                                    none
                                else
                                  if ((getG (List.drop 0 (List.take (Int.toNat (((0 + (List.length (List.drop 0 (List.take (Int.toNat (if (40) < (((List.length x1) : Nat) : Int) then (40) else (((List.length x1) : Nat) : Int))) x1)))) : Nat) : Int)) (broomyG (List.take (0 + (List.length (List.drop 0 (List.take (Int.toNat (if (40) < (((List.length x1) : Nat) : Int) then (40) else (((List.length x1) : Nat) : Int))) x1)))) (List.drop 0 (List.drop 0 (List.take (Int.toNat (if (40) < (((List.length x1) : Nat) : Int) then (40) else (((List.length x1) : Nat) : Int))) x1)))) (7))))).2 == (1)) = true then
                                    if ((((List.length (getG (List.drop 0 (List.take (Int.toNat (((0 + (List.length (List.drop 0 (List.take (Int.toNat (if (40) < (((List.length x1) : Nat) : Int) then (40) else (((List.length x1) : Nat) : Int))) x1)))) : Nat) : Int)) (broomyG (List.take (0 + (List.length (List.drop 0 (List.take (Int.toNat (if (40) < (((List.length x1) : Nat) : Int) then (40) else (((List.length x1) : Nat) : Int))) x1)))) (List.drop 0 (List.drop 0 (List.take (Int.toNat (if (40) < (((List.length x1) : Nat) : Int) then (40) else (((List.length x1) : Nat) : Int))) x1)))) (7))))).1) : Nat) : Int) == (0)) = true then
                                      some ()
                                    else
                                      none
                                  else
                                    none
                              else
                                none
                            else
                              none
                          else
                            none
                        else
                          none
                      else
                        none
                    else
                      none
                  else
                    none
                else
                  none
      else
        none
    else
      none
  else
    none

set_option maxHeartbeats 20000000 in
theorem only_w0 (m : Nat) (x0 : List Int) (x1 : List Int) (x2 : Int) (x3 : Int) (x4 : Int) (c2 : decide (List.length (List.take (List.length (samplesG x0)) (List.drop 0 (samplesG x0))) ≤ 1000000) = true) (c3 : decide (((0 + (List.length (putG (List.take (List.length (samplesG x0)) (List.drop 0 (samplesG x0)))))) * 1) ≤ 70368744177664) = true) (c5 : ((decide (0 ≤ (if (IntKind.wrap .i64 ((((0 + (List.length (putG (List.take (List.length (samplesG x0)) (List.drop 0 (samplesG x0)))))) : Nat) : Int) - (1))) < (0) then (0) else (IntKind.wrap .i64 ((((0 + (List.length (putG (List.take (List.length (samplesG x0)) (List.drop 0 (samplesG x0)))))) : Nat) : Int) - (1))))) && decide ((if (IntKind.wrap .i64 ((((0 + (List.length (putG (List.take (List.length (samplesG x0)) (List.drop 0 (samplesG x0)))))) : Nat) : Int) - (1))) < (0) then (0) else (IntKind.wrap .i64 ((((0 + (List.length (putG (List.take (List.length (samplesG x0)) (List.drop 0 (samplesG x0)))))) : Nat) : Int) - (1)))) ≤ 2305843009213693951)) && decide (((if (IntKind.wrap .i64 ((((0 + (List.length (putG (List.take (List.length (samplesG x0)) (List.drop 0 (samplesG x0)))))) : Nat) : Int) - (1))) < (0) then (0) else (IntKind.wrap .i64 ((((0 + (List.length (putG (List.take (List.length (samplesG x0)) (List.drop 0 (samplesG x0)))))) : Nat) : Int) - (1)))) - (0)) ≤ 2305843009213693951)) = true) (c6 : ¬ ((((0 + (List.length (putG (List.take (List.length (samplesG x0)) (List.drop 0 (samplesG x0)))))) : Nat) : Int) == (0)) = true) (c7 : ((IntKind.wrap .i64 ((((BitVec.ofInt 64 x4 &&& BitVec.ofInt 64 (3)).toNat : Nat) : Int))) == (0)) = true) (c8 : decide (0 ≤ (withinI x2 (0) (if (IntKind.wrap .i64 ((((0 + (List.length (putG (List.take (List.length (samplesG x0)) (List.drop 0 (samplesG x0)))))) : Nat) : Int) - (1))) < (0) then (0) else (IntKind.wrap .i64 ((((0 + (List.length (putG (List.take (List.length (samplesG x0)) (List.drop 0 (samplesG x0)))))) : Nat) : Int) - (1)))))) = true) (c9 : decide ((withinI x2 (0) (if (IntKind.wrap .i64 ((((0 + (List.length (putG (List.take (List.length (samplesG x0)) (List.drop 0 (samplesG x0)))))) : Nat) : Int) - (1))) < (0) then (0) else (IntKind.wrap .i64 ((((0 + (List.length (putG (List.take (List.length (samplesG x0)) (List.drop 0 (samplesG x0)))))) : Nat) : Int) - (1))))) < (((0 + (List.length (putG (List.take (List.length (samplesG x0)) (List.drop 0 (samplesG x0)))))) : Nat) : Int)) = true) (c10 : decide ((0 + (Int.toNat (withinI x2 (0) (if (IntKind.wrap .i64 ((((0 + (List.length (putG (List.take (List.length (samplesG x0)) (List.drop 0 (samplesG x0)))))) : Nat) : Int) - (1))) < (0) then (0) else (IntKind.wrap .i64 ((((0 + (List.length (putG (List.take (List.length (samplesG x0)) (List.drop 0 (samplesG x0)))))) : Nat) : Int) - (1))))))) < (List.length (putG (List.take (List.length (samplesG x0)) (List.drop 0 (samplesG x0)))))) = true) (c14 : decide ((0 + (0 + (List.length (putG (List.take (List.length (samplesG x0)) (List.drop 0 (samplesG x0))))))) ≤ (List.length (List.set (putG (List.take (List.length (samplesG x0)) (List.drop 0 (samplesG x0)))) (0 + (Int.toNat (withinI x2 (0) (if (IntKind.wrap .i64 ((((0 + (List.length (putG (List.take (List.length (samplesG x0)) (List.drop 0 (samplesG x0)))))) : Nat) : Int) - (1))) < (0) then (0) else (IntKind.wrap .i64 ((((0 + (List.length (putG (List.take (List.length (samplesG x0)) (List.drop 0 (samplesG x0)))))) : Nat) : Int) - (1))))))) (IntKind.wrap .u8 ((((BitVec.ofInt 8 (List.getD (putG (List.take (List.length (samplesG x0)) (List.drop 0 (samplesG x0)))) (0 + (Int.toNat (withinI x2 (0) (if (IntKind.wrap .i64 ((((0 + (List.length (putG (List.take (List.length (samplesG x0)) (List.drop 0 (samplesG x0)))))) : Nat) : Int) - (1))) < (0) then (0) else (IntKind.wrap .i64 ((((0 + (List.length (putG (List.take (List.length (samplesG x0)) (List.drop 0 (samplesG x0)))))) : Nat) : Int) - (1))))))) 0) ^^^ BitVec.ofInt 8 x3).toNat : Nat) : Int)))))) = true) (c15 : decide (List.length (List.take (0 + (List.length (putG (List.take (List.length (samplesG x0)) (List.drop 0 (samplesG x0)))))) (List.drop 0 (List.set (putG (List.take (List.length (samplesG x0)) (List.drop 0 (samplesG x0)))) (0 + (Int.toNat (withinI x2 (0) (if (IntKind.wrap .i64 ((((0 + (List.length (putG (List.take (List.length (samplesG x0)) (List.drop 0 (samplesG x0)))))) : Nat) : Int) - (1))) < (0) then (0) else (IntKind.wrap .i64 ((((0 + (List.length (putG (List.take (List.length (samplesG x0)) (List.drop 0 (samplesG x0)))))) : Nat) : Int) - (1))))))) (IntKind.wrap .u8 ((((BitVec.ofInt 8 (List.getD (putG (List.take (List.length (samplesG x0)) (List.drop 0 (samplesG x0)))) (0 + (Int.toNat (withinI x2 (0) (if (IntKind.wrap .i64 ((((0 + (List.length (putG (List.take (List.length (samplesG x0)) (List.drop 0 (samplesG x0)))))) : Nat) : Int) - (1))) < (0) then (0) else (IntKind.wrap .i64 ((((0 + (List.length (putG (List.take (List.length (samplesG x0)) (List.drop 0 (samplesG x0)))))) : Nat) : Int) - (1))))))) 0) ^^^ BitVec.ofInt 8 x3).toNat : Nat) : Int)))))) ≤ 1000000) = true) (c16 : (decide (0 ≤ (((0 + (List.length (putG (List.take (List.length (samplesG x0)) (List.drop 0 (samplesG x0)))))) : Nat) : Int)) && decide ((((0 + (List.length (putG (List.take (List.length (samplesG x0)) (List.drop 0 (samplesG x0)))))) : Nat) : Int) ≤ (((List.length (broomyG (List.take (0 + (List.length (putG (List.take (List.length (samplesG x0)) (List.drop 0 (samplesG x0)))))) (List.drop 0 (List.set (putG (List.take (List.length (samplesG x0)) (List.drop 0 (samplesG x0)))) (0 + (Int.toNat (withinI x2 (0) (if (IntKind.wrap .i64 ((((0 + (List.length (putG (List.take (List.length (samplesG x0)) (List.drop 0 (samplesG x0)))))) : Nat) : Int) - (1))) < (0) then (0) else (IntKind.wrap .i64 ((((0 + (List.length (putG (List.take (List.length (samplesG x0)) (List.drop 0 (samplesG x0)))))) : Nat) : Int) - (1))))))) (IntKind.wrap .u8 ((((BitVec.ofInt 8 (List.getD (putG (List.take (List.length (samplesG x0)) (List.drop 0 (samplesG x0)))) (0 + (Int.toNat (withinI x2 (0) (if (IntKind.wrap .i64 ((((0 + (List.length (putG (List.take (List.length (samplesG x0)) (List.drop 0 (samplesG x0)))))) : Nat) : Int) - (1))) < (0) then (0) else (IntKind.wrap .i64 ((((0 + (List.length (putG (List.take (List.length (samplesG x0)) (List.drop 0 (samplesG x0)))))) : Nat) : Int) - (1))))))) 0) ^^^ BitVec.ofInt 8 x3).toNat : Nat) : Int)))))) (7))) : Nat) : Int))) = true) (c17 : bytesOK (List.drop 0 (List.take (Int.toNat (((0 + (List.length (putG (List.take (List.length (samplesG x0)) (List.drop 0 (samplesG x0)))))) : Nat) : Int)) (broomyG (List.take (0 + (List.length (putG (List.take (List.length (samplesG x0)) (List.drop 0 (samplesG x0)))))) (List.drop 0 (List.set (putG (List.take (List.length (samplesG x0)) (List.drop 0 (samplesG x0)))) (0 + (Int.toNat (withinI x2 (0) (if (IntKind.wrap .i64 ((((0 + (List.length (putG (List.take (List.length (samplesG x0)) (List.drop 0 (samplesG x0)))))) : Nat) : Int) - (1))) < (0) then (0) else (IntKind.wrap .i64 ((((0 + (List.length (putG (List.take (List.length (samplesG x0)) (List.drop 0 (samplesG x0)))))) : Nat) : Int) - (1))))))) (IntKind.wrap .u8 ((((BitVec.ofInt 8 (List.getD (putG (List.take (List.length (samplesG x0)) (List.drop 0 (samplesG x0)))) (0 + (Int.toNat (withinI x2 (0) (if (IntKind.wrap .i64 ((((0 + (List.length (putG (List.take (List.length (samplesG x0)) (List.drop 0 (samplesG x0)))))) : Nat) : Int) - (1))) < (0) then (0) else (IntKind.wrap .i64 ((((0 + (List.length (putG (List.take (List.length (samplesG x0)) (List.drop 0 (samplesG x0)))))) : Nat) : Int) - (1))))))) 0) ^^^ BitVec.ofInt 8 x3).toNat : Nat) : Int)))))) (7)))) = true) (c19 : decide (List.length (broomyG (List.take (0 + (List.length (putG (List.take (List.length (samplesG x0)) (List.drop 0 (samplesG x0)))))) (List.drop 0 (List.set (putG (List.take (List.length (samplesG x0)) (List.drop 0 (samplesG x0)))) (0 + (Int.toNat (withinI x2 (0) (if (IntKind.wrap .i64 ((((0 + (List.length (putG (List.take (List.length (samplesG x0)) (List.drop 0 (samplesG x0)))))) : Nat) : Int) - (1))) < (0) then (0) else (IntKind.wrap .i64 ((((0 + (List.length (putG (List.take (List.length (samplesG x0)) (List.drop 0 (samplesG x0)))))) : Nat) : Int) - (1))))))) (IntKind.wrap .u8 ((((BitVec.ofInt 8 (List.getD (putG (List.take (List.length (samplesG x0)) (List.drop 0 (samplesG x0)))) (0 + (Int.toNat (withinI x2 (0) (if (IntKind.wrap .i64 ((((0 + (List.length (putG (List.take (List.length (samplesG x0)) (List.drop 0 (samplesG x0)))))) : Nat) : Int) - (1))) < (0) then (0) else (IntKind.wrap .i64 ((((0 + (List.length (putG (List.take (List.length (samplesG x0)) (List.drop 0 (samplesG x0)))))) : Nat) : Int) - (1))))))) 0) ^^^ BitVec.ofInt 8 x3).toNat : Nat) : Int)))))) (7)) ≤ 1000000 ∧ List.length (List.take (0 + (List.length (putG (List.take (List.length (samplesG x0)) (List.drop 0 (samplesG x0)))))) (List.drop 0 (List.set (putG (List.take (List.length (samplesG x0)) (List.drop 0 (samplesG x0)))) (0 + (Int.toNat (withinI x2 (0) (if (IntKind.wrap .i64 ((((0 + (List.length (putG (List.take (List.length (samplesG x0)) (List.drop 0 (samplesG x0)))))) : Nat) : Int) - (1))) < (0) then (0) else (IntKind.wrap .i64 ((((0 + (List.length (putG (List.take (List.length (samplesG x0)) (List.drop 0 (samplesG x0)))))) : Nat) : Int) - (1))))))) (IntKind.wrap .u8 ((((BitVec.ofInt 8 (List.getD (putG (List.take (List.length (samplesG x0)) (List.drop 0 (samplesG x0)))) (0 + (Int.toNat (withinI x2 (0) (if (IntKind.wrap .i64 ((((0 + (List.length (putG (List.take (List.length (samplesG x0)) (List.drop 0 (samplesG x0)))))) : Nat) : Int) - (1))) < (0) then (0) else (IntKind.wrap .i64 ((((0 + (List.length (putG (List.take (List.length (samplesG x0)) (List.drop 0 (samplesG x0)))))) : Nat) : Int) - (1))))))) 0) ^^^ BitVec.ofInt 8 x3).toNat : Nat) : Int)))))) ≤ 1000000) = true) (c20 : (bintactG (broomyG (List.take (0 + (List.length (putG (List.take (List.length (samplesG x0)) (List.drop 0 (samplesG x0)))))) (List.drop 0 (List.set (putG (List.take (List.length (samplesG x0)) (List.drop 0 (samplesG x0)))) (0 + (Int.toNat (withinI x2 (0) (if (IntKind.wrap .i64 ((((0 + (List.length (putG (List.take (List.length (samplesG x0)) (List.drop 0 (samplesG x0)))))) : Nat) : Int) - (1))) < (0) then (0) else (IntKind.wrap .i64 ((((0 + (List.length (putG (List.take (List.length (samplesG x0)) (List.drop 0 (samplesG x0)))))) : Nat) : Int) - (1))))))) (IntKind.wrap .u8 ((((BitVec.ofInt 8 (List.getD (putG (List.take (List.length (samplesG x0)) (List.drop 0 (samplesG x0)))) (0 + (Int.toNat (withinI x2 (0) (if (IntKind.wrap .i64 ((((0 + (List.length (putG (List.take (List.length (samplesG x0)) (List.drop 0 (samplesG x0)))))) : Nat) : Int) - (1))) < (0) then (0) else (IntKind.wrap .i64 ((((0 + (List.length (putG (List.take (List.length (samplesG x0)) (List.drop 0 (samplesG x0)))))) : Nat) : Int) - (1))))))) 0) ^^^ BitVec.ofInt 8 x3).toNat : Nat) : Int)))))) (7)) (List.take (0 + (List.length (putG (List.take (List.length (samplesG x0)) (List.drop 0 (samplesG x0)))))) (List.drop 0 (List.set (putG (List.take (List.length (samplesG x0)) (List.drop 0 (samplesG x0)))) (0 + (Int.toNat (withinI x2 (0) (if (IntKind.wrap .i64 ((((0 + (List.length (putG (List.take (List.length (samplesG x0)) (List.drop 0 (samplesG x0)))))) : Nat) : Int) - (1))) < (0) then (0) else (IntKind.wrap .i64 ((((0 + (List.length (putG (List.take (List.length (samplesG x0)) (List.drop 0 (samplesG x0)))))) : Nat) : Int) - (1))))))) (IntKind.wrap .u8 ((((BitVec.ofInt 8 (List.getD (putG (List.take (List.length (samplesG x0)) (List.drop 0 (samplesG x0)))) (0 + (Int.toNat (withinI x2 (0) (if (IntKind.wrap .i64 ((((0 + (List.length (putG (List.take (List.length (samplesG x0)) (List.drop 0 (samplesG x0)))))) : Nat) : Int) - (1))) < (0) then (0) else (IntKind.wrap .i64 ((((0 + (List.length (putG (List.take (List.length (samplesG x0)) (List.drop 0 (samplesG x0)))))) : Nat) : Int) - (1))))))) 0) ^^^ BitVec.ofInt 8 x3).toNat : Nat) : Int)))))) (7)) = true) (c21 : ((getG (List.drop 0 (List.take (Int.toNat (((0 + (List.length (putG (List.take (List.length (samplesG x0)) (List.drop 0 (samplesG x0)))))) : Nat) : Int)) (broomyG (List.take (0 + (List.length (putG (List.take (List.length (samplesG x0)) (List.drop 0 (samplesG x0)))))) (List.drop 0 (List.set (putG (List.take (List.length (samplesG x0)) (List.drop 0 (samplesG x0)))) (0 + (Int.toNat (withinI x2 (0) (if (IntKind.wrap .i64 ((((0 + (List.length (putG (List.take (List.length (samplesG x0)) (List.drop 0 (samplesG x0)))))) : Nat) : Int) - (1))) < (0) then (0) else (IntKind.wrap .i64 ((((0 + (List.length (putG (List.take (List.length (samplesG x0)) (List.drop 0 (samplesG x0)))))) : Nat) : Int) - (1))))))) (IntKind.wrap .u8 ((((BitVec.ofInt 8 (List.getD (putG (List.take (List.length (samplesG x0)) (List.drop 0 (samplesG x0)))) (0 + (Int.toNat (withinI x2 (0) (if (IntKind.wrap .i64 ((((0 + (List.length (putG (List.take (List.length (samplesG x0)) (List.drop 0 (samplesG x0)))))) : Nat) : Int) - (1))) < (0) then (0) else (IntKind.wrap .i64 ((((0 + (List.length (putG (List.take (List.length (samplesG x0)) (List.drop 0 (samplesG x0)))))) : Nat) : Int) - (1))))))) 0) ^^^ BitVec.ofInt 8 x3).toNat : Nat) : Int)))))) (7))))).2 == (0)) = true) (c22 : decide (List.length (getG (List.drop 0 (List.take (Int.toNat (((0 + (List.length (putG (List.take (List.length (samplesG x0)) (List.drop 0 (samplesG x0)))))) : Nat) : Int)) (broomyG (List.take (0 + (List.length (putG (List.take (List.length (samplesG x0)) (List.drop 0 (samplesG x0)))))) (List.drop 0 (List.set (putG (List.take (List.length (samplesG x0)) (List.drop 0 (samplesG x0)))) (0 + (Int.toNat (withinI x2 (0) (if (IntKind.wrap .i64 ((((0 + (List.length (putG (List.take (List.length (samplesG x0)) (List.drop 0 (samplesG x0)))))) : Nat) : Int) - (1))) < (0) then (0) else (IntKind.wrap .i64 ((((0 + (List.length (putG (List.take (List.length (samplesG x0)) (List.drop 0 (samplesG x0)))))) : Nat) : Int) - (1))))))) (IntKind.wrap .u8 ((((BitVec.ofInt 8 (List.getD (putG (List.take (List.length (samplesG x0)) (List.drop 0 (samplesG x0)))) (0 + (Int.toNat (withinI x2 (0) (if (IntKind.wrap .i64 ((((0 + (List.length (putG (List.take (List.length (samplesG x0)) (List.drop 0 (samplesG x0)))))) : Nat) : Int) - (1))) < (0) then (0) else (IntKind.wrap .i64 ((((0 + (List.length (putG (List.take (List.length (samplesG x0)) (List.drop 0 (samplesG x0)))))) : Nat) : Int) - (1))))))) 0) ^^^ BitVec.ofInt 8 x3).toNat : Nat) : Int)))))) (7))))).1 ≤ 1000000) = true) (c24 : decide (List.length (putG (getG (List.drop 0 (List.take (Int.toNat (((0 + (List.length (putG (List.take (List.length (samplesG x0)) (List.drop 0 (samplesG x0)))))) : Nat) : Int)) (broomyG (List.take (0 + (List.length (putG (List.take (List.length (samplesG x0)) (List.drop 0 (samplesG x0)))))) (List.drop 0 (List.set (putG (List.take (List.length (samplesG x0)) (List.drop 0 (samplesG x0)))) (0 + (Int.toNat (withinI x2 (0) (if (IntKind.wrap .i64 ((((0 + (List.length (putG (List.take (List.length (samplesG x0)) (List.drop 0 (samplesG x0)))))) : Nat) : Int) - (1))) < (0) then (0) else (IntKind.wrap .i64 ((((0 + (List.length (putG (List.take (List.length (samplesG x0)) (List.drop 0 (samplesG x0)))))) : Nat) : Int) - (1))))))) (IntKind.wrap .u8 ((((BitVec.ofInt 8 (List.getD (putG (List.take (List.length (samplesG x0)) (List.drop 0 (samplesG x0)))) (0 + (Int.toNat (withinI x2 (0) (if (IntKind.wrap .i64 ((((0 + (List.length (putG (List.take (List.length (samplesG x0)) (List.drop 0 (samplesG x0)))))) : Nat) : Int) - (1))) < (0) then (0) else (IntKind.wrap .i64 ((((0 + (List.length (putG (List.take (List.length (samplesG x0)) (List.drop 0 (samplesG x0)))))) : Nat) : Int) - (1))))))) 0) ^^^ BitVec.ofInt 8 x3).toNat : Nat) : Int)))))) (7))))).1) < 4611686018427387904) = true) (c25 : ((show List (Int) from (putG (getG (List.drop 0 (List.take (Int.toNat (((0 + (List.length (putG (List.take (List.length (samplesG x0)) (List.drop 0 (samplesG x0)))))) : Nat) : Int)) (broomyG (List.take (0 + (List.length (putG (List.take (List.length (samplesG x0)) (List.drop 0 (samplesG x0)))))) (List.drop 0 (List.set (putG (List.take (List.length (samplesG x0)) (List.drop 0 (samplesG x0)))) (0 + (Int.toNat (withinI x2 (0) (if (IntKind.wrap .i64 ((((0 + (List.length (putG (List.take (List.length (samplesG x0)) (List.drop 0 (samplesG x0)))))) : Nat) : Int) - (1))) < (0) then (0) else (IntKind.wrap .i64 ((((0 + (List.length (putG (List.take (List.length (samplesG x0)) (List.drop 0 (samplesG x0)))))) : Nat) : Int) - (1))))))) (IntKind.wrap .u8 ((((BitVec.ofInt 8 (List.getD (putG (List.take (List.length (samplesG x0)) (List.drop 0 (samplesG x0)))) (0 + (Int.toNat (withinI x2 (0) (if (IntKind.wrap .i64 ((((0 + (List.length (putG (List.take (List.length (samplesG x0)) (List.drop 0 (samplesG x0)))))) : Nat) : Int) - (1))) < (0) then (0) else (IntKind.wrap .i64 ((((0 + (List.length (putG (List.take (List.length (samplesG x0)) (List.drop 0 (samplesG x0)))))) : Nat) : Int) - (1))))))) 0) ^^^ BitVec.ofInt 8 x3).toNat : Nat) : Int)))))) (7))))).1)) == (List.take (0 + (List.length (putG (List.take (List.length (samplesG x0)) (List.drop 0 (samplesG x0)))))) (List.drop 0 (List.set (putG (List.take (List.length (samplesG x0)) (List.drop 0 (samplesG x0)))) (0 + (Int.toNat (withinI x2 (0) (if (IntKind.wrap .i64 ((((0 + (List.length (putG (List.take (List.length (samplesG x0)) (List.drop 0 (samplesG x0)))))) : Nat) : Int) - (1))) < (0) then (0) else (IntKind.wrap .i64 ((((0 + (List.length (putG (List.take (List.length (samplesG x0)) (List.drop 0 (samplesG x0)))))) : Nat) : Int) - (1))))))) (IntKind.wrap .u8 ((((BitVec.ofInt 8 (List.getD (putG (List.take (List.length (samplesG x0)) (List.drop 0 (samplesG x0)))) (0 + (Int.toNat (withinI x2 (0) (if (IntKind.wrap .i64 ((((0 + (List.length (putG (List.take (List.length (samplesG x0)) (List.drop 0 (samplesG x0)))))) : Nat) : Int) - (1))) < (0) then (0) else (IntKind.wrap .i64 ((((0 + (List.length (putG (List.take (List.length (samplesG x0)) (List.drop 0 (samplesG x0)))))) : Nat) : Int) - (1))))))) 0) ^^^ BitVec.ofInt 8 x3).toNat : Nat) : Int))))))) = true) : (evCall F S19 (m + 25) 5 [(.d (.sl (.int .i64) x0)), (.d (.sl (.int .u8) x1)), (.d (.int .i64 x2)), (.d (.int .u8 x3)), (.d (.int .i64 x4))] []).run = some (.d (.bool true), []) := by
  refine runT_ok (LS := (fun k => none)) (fn := fn5) (r := .d (.bool true)) (B' := []) (vis := []) (by kernel_rfl) rfl (by kernel_rfl) (M.run_of_path _ [true, true, true, true, true, true, false, true, true, true, true, true, true, true, true, true, true, true, true, true, false, true, true, true, true, true, true] _ _ (by kernel_rfl) (all_t rfl (all_t (show decide ((0 + (List.length (samplesG x0))) ≤ (List.length (samplesG x0))) = true from decide_eq_true (Nat.le_of_eq (Nat.zero_add _))) (all_t c2 (all_t c3 (all_t rfl (all_t c5 (all_f c6 (all_t c7 (all_t c8 (all_t c9 (all_t c10 (all_t c8 (all_t c9 (all_t c10 (all_t c14 (all_t c15 (all_t c16 (all_t c17 (all_t c14 (all_t c19 (all_nt c20 (all_t c21 (all_t c22 (all_t c14 (all_t c24 (all_t c25 (all_t c25 all_nil)))))))))))))))))))))))))))) ?_
  intro p hp; cases hp

set_option maxHeartbeats 20000000 in
theorem only_w1 (m : Nat) (x0 : List Int) (x1 : List Int) (x2 : Int) (x3 : Int) (x4 : Int) (c2 : decide (List.length (List.take (List.length (samplesG x0)) (List.drop 0 (samplesG x0))) ≤ 1000000) = true) (c3 : decide (((0 + (List.length (putG (List.take (List.length (samplesG x0)) (List.drop 0 (samplesG x0)))))) * 1) ≤ 70368744177664) = true) (c5 : ((decide (0 ≤ (if (IntKind.wrap .i64 ((((0 + (List.length (putG (List.take (List.length (samplesG x0)) (List.drop 0 (samplesG x0)))))) : Nat) : Int) - (1))) < (0) then (0) else (IntKind.wrap .i64 ((((0 + (List.length (putG (List.take (List.length (samplesG x0)) (List.drop 0 (samplesG x0)))))) : Nat) : Int) - (1))))) && decide ((if (IntKind.wrap .i64 ((((0 + (List.length (putG (List.take (List.length (samplesG x0)) (List.drop 0 (samplesG x0)))))) : Nat) : Int) - (1))) < (0) then (0) else (IntKind.wrap .i64 ((((0 + (List.length (putG (List.take (List.length (samplesG x0)) (List.drop 0 (samplesG x0)))))) : Nat) : Int) - (1)))) ≤ 2305843009213693951)) && decide (((if (IntKind.wrap .i64 ((((0 + (List.length (putG (List.take (List.length (samplesG x0)) (List.drop 0 (samplesG x0)))))) : Nat) : Int) - (1))) < (0) then (0) else (IntKind.wrap .i64 ((((0 + (List.length (putG (List.take (List.length (samplesG x0)) (List.drop 0 (samplesG x0)))))) : Nat) : Int) - (1)))) - (0)) ≤ 2305843009213693951)) = true) (c6 : ¬ ((((0 + (List.length (putG (List.take (List.length (samplesG x0)) (List.drop 0 (samplesG x0)))))) : Nat) : Int) == (0)) = true) (c7 : ((IntKind.wrap .i64 ((((BitVec.ofInt 64 x4 &&& BitVec.ofInt 64 (3)).toNat : Nat) : Int))) == (0)) = true) (c8 : decide (0 ≤ (withinI x2 (0) (if (IntKind.wrap .i64 ((((0 + (List.length (putG (List.take (List.length (samplesG x0)) (List.drop 0 (samplesG x0)))))) : Nat) : Int) - (1))) < (0) then (0) else (IntKind.wrap .i64 ((((0 + (List.length (putG (List.take (List.length (samplesG x0)) (List.drop 0 (samplesG x0)))))) : Nat) : Int) - (1)))))) = true) (c9 : decide ((withinI x2 (0) (if (IntKind.wrap .i64 ((((0 + (List.length (putG (List.take (List.length (samplesG x0)) (List.drop 0 (samplesG x0)))))) : Nat) : Int) - (1))) < (0) then (0) else (IntKind.wrap .i64 ((((0 + (List.length (putG (List.take (List.length (samplesG x0)) (List.drop 0 (samplesG x0)))))) : Nat) : Int) - (1))))) < (((0 + (List.length (putG (List.take (List.length (samplesG x0)) (List.drop 0 (samplesG x0)))))) : Nat) : Int)) = true) (c10 : decide ((0 + (Int.toNat (withinI x2 (0) (if (IntKind.wrap .i64 ((((0 + (List.length (putG (List.take (List.length (samplesG x0)) (List.drop 0 (samplesG x0)))))) : Nat) : Int) - (1))) < (0) then (0) else (IntKind.wrap .i64 ((((0 + (List.length (putG (List.take (List.length (samplesG x0)) (List.drop 0 (samplesG x0)))))) : Nat) : Int) - (1))))))) < (List.length (putG (List.take (List.length (samplesG x0)) (List.drop 0 (samplesG x0)))))) = true) (c14 : decide ((0 + (0 + (List.length (putG (List.take (List.length (samplesG x0)) (List.drop 0 (samplesG x0))))))) ≤ (List.length (List.set (putG (List.take (List.length (samplesG x0)) (List.drop 0 (samplesG x0)))) (0 + (Int.toNat (withinI x2 (0) (if (IntKind.wrap .i64 ((((0 + (List.length (putG (List.take (List.length (samplesG x0)) (List.drop 0 (samplesG x0)))))) : Nat) : Int) - (1))) < (0) then (0) else (IntKind.wrap .i64 ((((0 + (List.length (putG (List.take (List.length (samplesG x0)) (List.drop 0 (samplesG x0)))))) : Nat) : Int) - (1))))))) (IntKind.wrap .u8 ((((BitVec.ofInt 8 (List.getD (putG (List.take (List.length (samplesG x0)) (List.drop 0 (samplesG x0)))) (0 + (Int.toNat (withinI x2 (0) (if (IntKind.wrap .i64 ((((0 + (List.length (putG (List.take (List.length (samplesG x0)) (List.drop 0 (samplesG x0)))))) : Nat) : Int) - (1))) < (0) then (0) else (IntKind.wrap .i64 ((((0 + (List.length (putG (List.take (List.length (samplesG x0)) (List.drop 0 (samplesG x0)))))) : Nat) : Int) - (1))))))) 0) ^^^ BitVec.ofInt 8 x3).toNat : Nat) : Int)))))) = true) (c15 : decide (List.length (List.take (0 + (List.length (putG (List.take (List.length (samplesG x0)) (List.drop 0 (samplesG x0)))))) (List.drop 0 (List.set (putG (List.take (List.length (samplesG x0)) (List.drop 0 (samplesG x0)))) (0 + (Int.toNat (withinI x2 (0) (if (IntKind.wrap .i64 ((((0 + (List.length (putG (List.take (List.length (samplesG x0)) (List.drop 0 (samplesG x0)))))) : Nat) : Int) - (1))) < (0) then (0) else (IntKind.wrap .i64 ((((0 + (List.length (putG (List.take (List.length (samplesG x0)) (List.drop 0 (samplesG x0)))))) : Nat) : Int) - (1))))))) (IntKind.wrap .u8 ((((BitVec.ofInt 8 (List.getD (putG (List.take (List.length (samplesG x0)) (List.drop 0 (samplesG x0)))) (0 + (Int.toNat (withinI x2 (0) (if (IntKind.wrap .i64 ((((0 + (List.length (putG (List.take (List.length (samplesG x0)) (List.drop 0 (samplesG x0)))))) : Nat) : Int) - (1))) < (0) then (0) else (IntKind.wrap .i64 ((((0 + (List.length (putG (List.take (List.length (samplesG x0)) (List.drop 0 (samplesG x0)))))) : Nat) : Int) - (1))))))) 0) ^^^ BitVec.ofInt 8 x3).toNat : Nat) : Int)))))) ≤ 1000000) = true) (c16 : (decide (0 ≤ (((0 + (List.length (putG (List.take (List.length (samplesG x0)) (List.drop 0 (samplesG x0)))))) : Nat) : Int)) && decide ((((0 + (List.length (putG (List.take (List.length (samplesG x0)) (List.drop 0 (samplesG x0)))))) : Nat) : Int) ≤ (((List.length (broomyG (List.take (0 + (List.length (putG (List.take (List.length (samplesG x0)) (List.drop 0 (samplesG x0)))))) (List.drop 0 (List.set (putG (List.take (List.length (samplesG x0)) (List.drop 0 (samplesG x0)))) (0 + (Int.toNat (withinI x2 (0) (if (IntKind.wrap .i64 ((((0 + (List.length (putG (List.take (List.length (samplesG x0)) (List.drop 0 (samplesG x0)))))) : Nat) : Int) - (1))) < (0) then (0) else (IntKind.wrap .i64 ((((0 + (List.length (putG (List.take (List.length (samplesG x0)) (List.drop 0 (samplesG x0)))))) : Nat) : Int) - (1))))))) (IntKind.wrap .u8 ((((BitVec.ofInt 8 (List.getD (putG (List.take (List.length (samplesG x0)) (List.drop 0 (samplesG x0)))) (0 + (Int.toNat (withinI x2 (0) (if (IntKind.wrap .i64 ((((0 + (List.length (putG (List.take (List.length (samplesG x0)) (List.drop 0 (samplesG x0)))))) : Nat) : Int) - (1))) < (0) then (0) else (IntKind.wrap .i64 ((((0 + (List.length (putG (List.take (List.length (samplesG x0)) (List.drop 0 (samplesG x0)))))) : Nat) : Int) - (1))))))) 0) ^^^ BitVec.ofInt 8 x3).toNat : Nat) : Int)))))) (7))) : Nat) : Int))) = true) (c17 : bytesOK (List.drop 0 (List.take (Int.toNat (((0 + (List.length (putG (List.take (List.length (samplesG x0)) (List.drop 0 (samplesG x0)))))) : Nat) : Int)) (broomyG (List.take (0 + (List.length (putG (List.take (List.length (samplesG x0)) (List.drop 0 (samplesG x0)))))) (List.drop 0 (List.set (putG (List.take (List.length (samplesG x0)) (List.drop 0 (samplesG x0)))) (0 + (Int.toNat (withinI x2 (0) (if (IntKind.wrap .i64 ((((0 + (List.length (putG (List.take (List.length (samplesG x0)) (List.drop 0 (samplesG x0)))))) : Nat) : Int) - (1))) < (0) then (0) else (IntKind.wrap .i64 ((((0 + (List.length (putG (List.take (List.length (samplesG x0)) (List.drop 0 (samplesG x0)))))) : Nat) : Int) - (1))))))) (IntKind.wrap .u8 ((((BitVec.ofInt 8 (List.getD (putG (List.take (List.length (samplesG x0)) (List.drop 0 (samplesG x0)))) (0 + (Int.toNat (withinI x2 (0) (if (IntKind.wrap .i64 ((((0 + (List.length (putG (List.take (List.length (samplesG x0)) (List.drop 0 (samplesG x0)))))) : Nat) : Int) - (1))) < (0) then (0) else (IntKind.wrap .i64 ((((0 + (List.length (putG (List.take (List.length (samplesG x0)) (List.drop 0 (samplesG x0)))))) : Nat) : Int) - (1))))))) 0) ^^^ BitVec.ofInt 8 x3).toNat : Nat) : Int)))))) (7)))) = true) (c19 : decide (List.length (broomyG (List.take (0 + (List.length (putG (List.take (List.length (samplesG x0)) (List.drop 0 (samplesG x0)))))) (List.drop 0 (List.set (putG (List.take (List.length (samplesG x0)) (List.drop 0 (samplesG x0)))) (0 + (Int.toNat (withinI x2 (0) (if (IntKind.wrap .i64 ((((0 + (List.length (putG (List.take (List.length (samplesG x0)) (List.drop 0 (samplesG x0)))))) : Nat) : Int) - (1))) < (0) then (0) else (IntKind.wrap .i64 ((((0 + (List.length (putG (List.take (List.length (samplesG x0)) (List.drop 0 (samplesG x0)))))) : Nat) : Int) - (1))))))) (IntKind.wrap .u8 ((((BitVec.ofInt 8 (List.getD (putG (List.take (List.length (samplesG x0)) (List.drop 0 (samplesG x0)))) (0 + (Int.toNat (withinI x2 (0) (if (IntKind.wrap .i64 ((((0 + (List.length (putG (List.take (List.length (samplesG x0)) (List.drop 0 (samplesG x0)))))) : Nat) : Int) - (1))) < (0) then (0) else (IntKind.wrap .i64 ((((0 + (List.length (putG (List.take (List.length (samplesG x0)) (List.drop 0 (samplesG x0)))))) : Nat) : Int) - (1))))))) 0) ^^^ BitVec.ofInt 8 x3).toNat : Nat) : Int)))))) (7)) ≤ 1000000 ∧ List.length (List.take (0 + (List.length (putG (List.take (List.length (samplesG x0)) (List.drop 0 (samplesG x0)))))) (List.drop 0 (List.set (putG (List.take (List.length (samplesG x0)) (List.drop 0 (samplesG x0)))) (0 + (Int.toNat (withinI x2 (0) (if (IntKind.wrap .i64 ((((0 + (List.length (putG (List.take (List.length (samplesG x0)) (List.drop 0 (samplesG x0)))))) : Nat) : Int) - (1))) < (0) then (0) else (IntKind.wrap .i64 ((((0 + (List.length (putG (List.take (List.length (samplesG x0)) (List.drop 0 (samplesG x0)))))) : Nat) : Int) - (1))))))) (IntKind.wrap .u8 ((((BitVec.ofInt 8 (List.getD (putG (List.take (List.length (samplesG x0)) (List.drop 0 (samplesG x0)))) (0 + (Int.toNat (withinI x2 (0) (if (IntKind.wrap .i64 ((((0 + (List.length (putG (List.take (List.length (samplesG x0)) (List.drop 0 (samplesG x0)))))) : Nat) : Int) - (1))) < (0) then (0) else (IntKind.wrap .i64 ((((0 + (List.length (putG (List.take (List.length (samplesG x0)) (List.drop 0 (samplesG x0)))))) : Nat) : Int) - (1))))))) 0) ^^^ BitVec.ofInt 8 x3).toNat : Nat) : Int)))))) ≤ 1000000) = true) (c20 : (bintactG (broomyG (List.take (0 + (List.length (putG (List.take (List.length (samplesG x0)) (List.drop 0 (samplesG x0)))))) (List.drop 0 (List.set (putG (List.take (List.length (samplesG x0)) (List.drop 0 (samplesG x0)))) (0 + (Int.toNat (withinI x2 (0) (if (IntKind.wrap .i64 ((((0 + (List.length (putG (List.take (List.length (samplesG x0)) (List.drop 0 (samplesG x0)))))) : Nat) : Int) - (1))) < (0) then (0) else (IntKind.wrap .i64 ((((0 + (List.length (putG (List.take (List.length (samplesG x0)) (List.drop 0 (samplesG x0)))))) : Nat) : Int) - (1))))))) (IntKind.wrap .u8 ((((BitVec.ofInt 8 (List.getD (putG (List.take (List.length (samplesG x0)) (List.drop 0 (samplesG x0)))) (0 + (Int.toNat (withinI x2 (0) (if (IntKind.wrap .i64 ((((0 + (List.length (putG (List.take (List.length (samplesG x0)) (List.drop 0 (samplesG x0)))))) : Nat) : Int) - (1))) < (0) then (0) else (IntKind.wrap .i64 ((((0 + (List.length (putG (List.take (List.length (samplesG x0)) (List.drop 0 (samplesG x0)))))) : Nat) : Int) - (1))))))) 0) ^^^ BitVec.ofInt 8 x3).toNat : Nat) : Int)))))) (7)) (List.take (0 + (List.length (putG (List.take (List.length (samplesG x0)) (List.drop 0 (samplesG x0)))))) (List.drop 0 (List.set (putG (List.take (List.length (samplesG x0)) (List.drop 0 (samplesG x0)))) (0 + (Int.toNat (withinI x2 (0) (if (IntKind.wrap .i64 ((((0 + (List.length (putG (List.take (List.length (samplesG x0)) (List.drop 0 (samplesG x0)))))) : Nat) : Int) - (1))) < (0) then (0) else (IntKind.wrap .i64 ((((0 + (List.length (putG (List.take (List.length (samplesG x0)) (List.drop 0 (samplesG x0)))))) : Nat) : Int) - (1))))))) (IntKind.wrap .u8 ((((BitVec.ofInt 8 (List.getD (putG (List.take (List.length (samplesG x0)) (List.drop 0 (samplesG x0)))) (0 + (Int.toNat (withinI x2 (0) (if (IntKind.wrap .i64 ((((0 + (List.length (putG (List.take (List.length (samplesG x0)) (List.drop 0 (samplesG x0)))))) : Nat) : Int) - (1))) < (0) then (0) else (IntKind.wrap .i64 ((((0 + (List.length (putG (List.take (List.length (samplesG x0)) (List.drop 0 (samplesG x0)))))) : Nat) : Int) - (1))))))) 0) ^^^ BitVec.ofInt 8 x3).toNat : Nat) : Int)))))) (7)) = true) (c21 : ¬ ((getG (List.drop 0 (List.take (Int.toNat (((0 + (List.length (putG (List.take (List.length (samplesG x0)) (List.drop 0 (samplesG x0)))))) : Nat) : Int)) (broomyG (List.take (0 + (List.length (putG (List.take (List.length (samplesG x0)) (List.drop 0 (samplesG x0)))))) (List.drop 0 (List.set (putG (List.take (List.length (samplesG x0)) (List.drop 0 (samplesG x0)))) (0 + (Int.toNat (withinI x2 (0) (if (IntKind.wrap .i64 ((((0 + (List.length (putG (List.take (List.length (samplesG x0)) (List.drop 0 (samplesG x0)))))) : Nat) : Int) - (1))) < (0) then (0) else (IntKind.wrap .i64 ((((0 + (List.length (putG (List.take (List.length (samplesG x0)) (List.drop 0 (samplesG x0)))))) : Nat) : Int) - (1))))))) (IntKind.wrap .u8 ((((BitVec.ofInt 8 (List.getD (putG (List.take (List.length (samplesG x0)) (List.drop 0 (samplesG x0)))) (0 + (Int.toNat (withinI x2 (0) (if (IntKind.wrap .i64 ((((0 + (List.length (putG (List.take (List.length (samplesG x0)) (List.drop 0 (samplesG x0)))))) : Nat) : Int) - (1))) < (0) then (0) else (IntKind.wrap .i64 ((((0 + (List.length (putG (List.take (List.length (samplesG x0)) (List.drop 0 (samplesG x0)))))) : Nat) : Int) - (1))))))) 0) ^^^ BitVec.ofInt 8 x3).toNat : Nat) : Int)))))) (7))))).2 == (0)) = true) (c22 : ((getG (List.drop 0 (List.take (Int.toNat (((0 + (List.length (putG (List.take (List.length (samplesG x0)) (List.drop 0 (samplesG x0)))))) : Nat) : Int)) (broomyG (List.take (0 + (List.length (putG (List.take (List.length (samplesG x0)) (List.drop 0 (samplesG x0)))))) (List.drop 0 (List.set (putG (List.take (List.length (samplesG x0)) (List.drop 0 (samplesG x0)))) (0 + (Int.toNat (withinI x2 (0) (if (IntKind.wrap .i64 ((((0 + (List.length (putG (List.take (List.length (samplesG x0)) (List.drop 0 (samplesG x0)))))) : Nat) : Int) - (1))) < (0) then (0) else (IntKind.wrap .i64 ((((0 + (List.length (putG (List.take (List.length (samplesG x0)) (List.drop 0 (samplesG x0)))))) : Nat) : Int) - (1))))))) (IntKind.wrap .u8 ((((BitVec.ofInt 8 (List.getD (putG (List.take (List.length (samplesG x0)) (List.drop 0 (samplesG x0)))) (0 + (Int.toNat (withinI x2 (0) (if (IntKind.wrap .i64 ((((0 + (List.length (putG (List.take (List.length (samplesG x0)) (List.drop 0 (samplesG x0)))))) : Nat) : Int) - (1))) < (0) then (0) else (IntKind.wrap .i64 ((((0 + (List.length (putG (List.take (List.length (samplesG x0)) (List.drop 0 (samplesG x0)))))) : Nat) : Int) - (1))))))) 0) ^^^ BitVec.ofInt 8 x3).toNat : Nat) : Int)))))) (7))))).2 == (1)) = true) (c26 : ((((List.length (getG (List.drop 0 (List.take (Int.toNat (((0 + (List.length (putG (List.take (List.length (samplesG x0)) (List.drop 0 (samplesG x0)))))) : Nat) : Int)) (broomyG (List.take (0 + (List.length (putG (List.take (List.length (samplesG x0)) (List.drop 0 (samplesG x0)))))) (List.drop 0 (List.set (putG (List.take (List.length (samplesG x0)) (List.drop 0 (samplesG x0)))) (0 + (Int.toNat (withinI x2 (0) (if (IntKind.wrap .i64 ((((0 + (List.length (putG (List.take (List.length (samplesG x0)) (List.drop 0 (samplesG x0)))))) : Nat) : Int) - (1))) < (0) then (0) else (IntKind.wrap .i64 ((((0 + (List.length (putG (List.take (List.length (samplesG x0)) (List.drop 0 (samplesG x0)))))) : Nat) : Int) - (1))))))) (IntKind.wrap .u8 ((((BitVec.ofInt 8 (List.getD (putG (List.take (List.length (samplesG x0)) (List.drop 0 (samplesG x0)))) (0 + (Int.toNat (withinI x2 (0) (if (IntKind.wrap .i64 ((((0 + (List.length (putG (List.take (List.length (samplesG x0)) (List.drop 0 (samplesG x0)))))) : Nat) : Int) - (1))) < (0) then (0) else (IntKind.wrap .i64 ((((0 + (List.length (putG (List.take (List.length (samplesG x0)) (List.drop 0 (samplesG x0)))))) : Nat) : Int) - (1))))))) 0) ^^^ BitVec.ofInt 8 x3).toNat : Nat) : Int)))))) (7))))).1) : Nat) : Int) == (0)) = true) : (evCall F S19 (m + 25) 5 [(.d (.sl (.int .i64) x0)), (.d (.sl (.int .u8) x1)), (.d (.int .i64 x2)), (.d (.int .u8 x3)), (.d (.int .i64 x4))] []).run = some (.d (.bool true), []) := by
  refine runT_ok (LS := (fun k => none)) (fn := fn5) (r := .d (.bool true)) (B' := []) (vis := []) (by kernel_rfl) rfl (by kernel_rfl) (M.run_of_path _ [true, true, true, true, true, true, false, true, true, true, true, true, true, true, true, true, true, true, true, true, false, false, true, true, true, true, true, true] _ _ (by kernel_rfl) (all_t rfl (all_t (show decide ((0 + (List.length (samplesG x0))) ≤ (List.length (samplesG x0))) = true from decide_eq_true (Nat.le_of_eq (Nat.zero_add _))) (all_t c2 (all_t c3 (all_t rfl (all_t c5 (all_f c6 (all_t c7 (all_t c8 (all_t c9 (all_t c10 (all_t c8 (all_t c9 (all_t c10 (all_t c14 (all_t c15 (all_t c16 (all_t c17 (all_t c14 (all_t c19 (all_nt c20 (all_f c21 (all_t c22 (all_t c22 (all_t c22 (all_t c22 (all_t c26 (all_t c26 all_nil))))))))))))))))))))))))))))) ?_
  intro p hp; cases hp

set_option maxHeartbeats 20000000 in
theorem only_w2 (m : Nat) (x0 : List Int) (x1 : List Int) (x2 : Int) (x3 : Int) (x4 : Int) (c2 : decide (List.length (List.take (List.length (samplesG x0)) (List.drop 0 (samplesG x0))) ≤ 1000000) = true) (c3 : decide (((0 + (List.length (putG (List.take (List.length (samplesG x0)) (List.drop 0 (samplesG x0)))))) * 1) ≤ 70368744177664) = true) (c5 : ((decide (0 ≤ (if (IntKind.wrap .i64 ((((0 + (List.length (putG (List.take (List.length (samplesG x0)) (List.drop 0 (samplesG x0)))))) : Nat) : Int) - (1))) < (0) then (0) else (IntKind.wrap .i64 ((((0 + (List.length (putG (List.take (List.length (samplesG x0)) (List.drop 0 (samplesG x0)))))) : Nat) : Int) - (1))))) && decide ((if (IntKind.wrap .i64 ((((0 + (List.length (putG (List.take (List.length (samplesG x0)) (List.drop 0 (samplesG x0)))))) : Nat) : Int) - (1))) < (0) then (0) else (IntKind.wrap .i64 ((((0 + (List.length (putG (List.take (List.length (samplesG x0)) (List.drop 0 (samplesG x0)))))) : Nat) : Int) - (1)))) ≤ 2305843009213693951)) && decide (((if (IntKind.wrap .i64 ((((0 + (List.length (putG (List.take (List.length (samplesG x0)) (List.drop 0 (samplesG x0)))))) : Nat) : Int) - (1))) < (0) then (0) else (IntKind.wrap .i64 ((((0 + (List.length (putG (List.take (List.length (samplesG x0)) (List.drop 0 (samplesG x0)))))) : Nat) : Int) - (1)))) - (0)) ≤ 2305843009213693951)) = true) (c6 : ¬ ((((0 + (List.length (putG (List.take (List.length (samplesG x0)) (List.drop 0 (samplesG x0)))))) : Nat) : Int) == (0)) = true) (c7 : ¬ ((IntKind.wrap .i64 ((((BitVec.ofInt 64 x4 &&& BitVec.ofInt 64 (3)).toNat : Nat) : Int))) == (0)) = true) (c8 : ((IntKind.wrap .i64 ((((BitVec.ofInt 64 x4 &&& BitVec.ofInt 64 (3)).toNat : Nat) : Int))) == (1)) = true) (c9 : (decide (0 ≤ (withinI x2 (0) (if (IntKind.wrap .i64 ((((0 + (List.length (putG (List.take (List.length (samplesG x0)) (List.drop 0 (samplesG x0)))))) : Nat) : Int) - (1))) < (0) then (0) else (IntKind.wrap .i64 ((((0 + (List.length (putG (List.take (List.length (samplesG x0)) (List.drop 0 (samplesG x0)))))) : Nat) : Int) - (1)))))) && decide ((withinI x2 (0) (if (IntKind.wrap .i64 ((((0 + (List.length (putG (List.take (List.length (samplesG x0)) (List.drop 0 (samplesG x0)))))) : Nat) : Int) - (1))) < (0) then (0) else (IntKind.wrap .i64 ((((0 + (List.length (putG (List.take (List.length (samplesG x0)) (List.drop 0 (samplesG x0)))))) : Nat) : Int) - (1))))) ≤ (((0 + (List.length (putG (List.take (List.length (samplesG x0)) (List.drop 0 (samplesG x0)))))) : Nat) : Int))) = true) (c11 : decide ((0 + ((Int.toNat (withinI x2 (0) (if (IntKind.wrap .i64 ((((0 + (List.length (putG (List.take (List.length (samplesG x0)) (List.drop 0 (samplesG x0)))))) : Nat) : Int) - (1))) < (0) then (0) else (IntKind.wrap .i64 ((((0 + (List.length (putG (List.take (List.length (samplesG x0)) (List.drop 0 (samplesG x0)))))) : Nat) : Int) - (1)))))) - 0)) ≤ (List.length (putG (List.take (List.length (samplesG x0)) (List.drop 0 (samplesG x0)))))) = true) (c12 : decide (List.length (List.take ((Int.toNat (withinI x2 (0) (if (IntKind.wrap .i64 ((((0 + (List.length (putG (List.take (List.length (samplesG x0)) (List.drop 0 (samplesG x0)))))) : Nat) : Int) - (1))) < (0) then (0) else (IntKind.wrap .i64 ((((0 + (List.length (putG (List.take (List.length (samplesG x0)) (List.drop 0 (samplesG x0)))))) : Nat) : Int) - (1)))))) - 0) (List.drop 0 (putG (List.take (List.length (samplesG x0)) (List.drop 0 (samplesG x0)))))) ≤ 1000000) = true) (c13 : (decide (0 ≤ ((((Int.toNat (withinI x2 (0) (if (IntKind.wrap .i64 ((((0 + (List.length (putG (List.take (List.length (samplesG x0)) (List.drop 0 (samplesG x0)))))) : Nat) : Int) - (1))) < (0) then (0) else (IntKind.wrap .i64 ((((0 + (List.length (putG (List.take (List.length (samplesG x0)) (List.drop 0 (samplesG x0)))))) : Nat) : Int) - (1)))))) - 0) : Nat) : Int)) && decide (((((Int.toNat (withinI x2 (0) (if (IntKind.wrap .i64 ((((0 + (List.length (putG (List.take (List.length (samplesG x0)) (List.drop 0 (samplesG x0)))))) : Nat) : Int) - (1))) < (0) then (0) else (IntKind.wrap .i64 ((((0 + (List.length (putG (List.take (List.length (samplesG x0)) (List.drop 0 (samplesG x0)))))) : Nat) : Int) - (1)))))) - 0) : Nat) : Int) ≤ (((List.length (broomyG (List.take ((Int.toNat (withinI x2 (0) (if (IntKind.wrap .i64 ((((0 + (List.length (putG (List.take (List.length (samplesG x0)) (List.drop 0 (samplesG x0)))))) : Nat) : Int) - (1))) < (0) then (0) else (IntKind.wrap .i64 ((((0 + (List.length (putG (List.take (List.length (samplesG x0)) (List.drop 0 (samplesG x0)))))) : Nat) : Int) - (1)))))) - 0) (List.drop 0 (putG (List.take (List.length (samplesG x0)) (List.drop 0 (samplesG x0)))))) (7))) : Nat) : Int))) = true) (c14 : bytesOK (List.drop 0 (List.take (Int.toNat ((((Int.toNat (withinI x2 (0) (if (IntKind.wrap .i64 ((((0 + (List.length (putG (List.take (List.length (samplesG x0)) (List.drop 0 (samplesG x0)))))) : Nat) : Int) - (1))) < (0) then (0) else (IntKind.wrap .i64 ((((0 + (List.length (putG (List.take (List.length (samplesG x0)) (List.drop 0 (samplesG x0)))))) : Nat) : Int) - (1)))))) - 0) : Nat) : Int)) (broomyG (List.take ((Int.toNat (withinI x2 (0) (if (IntKind.wrap .i64 ((((0 + (List.length (putG (List.take (List.length (samplesG x0)) (List.drop 0 (samplesG x0)))))) : Nat) : Int) - (1))) < (0) then (0) else (IntKind.wrap .i64 ((((0 + (List.length (putG (List.take (List.length (samplesG x0)) (List.drop 0 (samplesG x0)))))) : Nat) : Int) - (1)))))) - 0) (List.drop 0 (putG (List.take (List.length (samplesG x0)) (List.drop 0 (samplesG x0)))))) (7)))) = true) (c16 : decide (List.length (broomyG (List.take ((Int.toNat (withinI x2 (0) (if (IntKind.wrap .i64 ((((0 + (List.length (putG (List.take (List.length (samplesG x0)) (List.drop 0 (samplesG x0)))))) : Nat) : Int) - (1))) < (0) then (0) else (IntKind.wrap .i64 ((((0 + (List.length (putG (List.take (List.length (samplesG x0)) (List.drop 0 (samplesG x0)))))) : Nat) : Int) - (1)))))) - 0) (List.drop 0 (putG (List.take (List.length (samplesG x0)) (List.drop 0 (samplesG x0)))))) (7)) ≤ 1000000 ∧ List.length (List.take ((Int.toNat (withinI x2 (0) (if (IntKind.wrap .i64 ((((0 + (List.length (putG (List.take (List.length (samplesG x0)) (List.drop 0 (samplesG x0)))))) : Nat) : Int) - (1))) < (0) then (0) else (IntKind.wrap .i64 ((((0 + (List.length (putG (List.take (List.length (samplesG x0)) (List.drop 0 (samplesG x0)))))) : Nat) : Int) - (1)))))) - 0) (List.drop 0 (putG (List.take (List.length (samplesG x0)) (List.drop 0 (samplesG x0)))))) ≤ 1000000) = true) (c17 : (bintactG (broomyG (List.take ((Int.toNat (withinI x2 (0) (if (IntKind.wrap .i64 ((((0 + (List.length (putG (List.take (List.length (samplesG x0)) (List.drop 0 (samplesG x0)))))) : Nat) : Int) - (1))) < (0) then (0) else (IntKind.wrap .i64 ((((0 + (List.length (putG (List.take (List.length (samplesG x0)) (List.drop 0 (samplesG x0)))))) : Nat) : Int) - (1)))))) - 0) (List.drop 0 (putG (List.take (List.length (samplesG x0)) (List.drop 0 (samplesG x0)))))) (7)) (List.take ((Int.toNat (withinI x2 (0) (if (IntKind.wrap .i64 ((((0 + (List.length (putG (List.take (List.length (samplesG x0)) (List.drop 0 (samplesG x0)))))) : Nat) : Int) - (1))) < (0) then (0) else (IntKind.wrap .i64 ((((0 + (List.length (putG (List.take (List.length (samplesG x0)) (List.drop 0 (samplesG x0)))))) : Nat) : Int) - (1)))))) - 0) (List.drop 0 (putG (List.take (List.length (samplesG x0)) (List.drop 0 (samplesG x0)))))) (7)) = true) (c18 : ((getG (List.drop 0 (List.take (Int.toNat ((((Int.toNat (withinI x2 (0) (if (IntKind.wrap .i64 ((((0 + (List.length (putG (List.take (List.length (samplesG x0)) (List.drop 0 (samplesG x0)))))) : Nat) : Int) - (1))) < (0) then (0) else (IntKind.wrap .i64 ((((0 + (List.length (putG (List.take (List.length (samplesG x0)) (List.drop 0 (samplesG x0)))))) : Nat) : Int) - (1)))))) - 0) : Nat) : Int)) (broomyG (List.take ((Int.toNat (withinI x2 (0) (if (IntKind.wrap .i64 ((((0 + (List.length (putG (List.take (List.length (samplesG x0)) (List.drop 0 (samplesG x0)))))) : Nat) : Int) - (1))) < (0) then (0) else (IntKind.wrap .i64 ((((0 + (List.length (putG (List.take (List.length (samplesG x0)) (List.drop 0 (samplesG x0)))))) : Nat) : Int) - (1)))))) - 0) (List.drop 0 (putG (List.take (List.length (samplesG x0)) (List.drop 0 (samplesG x0)))))) (7))))).2 == (0)) = true) (c19 : decide (List.length (getG (List.drop 0 (List.take (Int.toNat ((((Int.toNat (withinI x2 (0) (if (IntKind.wrap .i64 ((((0 + (List.length (putG (List.take (List.length (samplesG x0)) (List.drop 0 (samplesG x0)))))) : Nat) : Int) - (1))) < (0) then (0) else (IntKind.wrap .i64 ((((0 + (List.length (putG (List.take (List.length (samplesG x0)) (List.drop 0 (samplesG x0)))))) : Nat) : Int) - (1)))))) - 0) : Nat) : Int)) (broomyG (List.take ((Int.toNat (withinI x2 (0) (if (IntKind.wrap .i64 ((((0 + (List.length (putG (List.take (List.length (samplesG x0)) (List.drop 0 (samplesG x0)))))) : Nat) : Int) - (1))) < (0) then (0) else (IntKind.wrap .i64 ((((0 + (List.length (putG (List.take (List.length (samplesG x0)) (List.drop 0 (samplesG x0)))))) : Nat) : Int) - (1)))))) - 0) (List.drop 0 (putG (List.take (List.length (samplesG x0)) (List.drop 0 (samplesG x0)))))) (7))))).1 ≤ 1000000) = true) (c21 : decide (List.length (putG (getG (List.drop 0 (List.take (Int.toNat ((((Int.toNat (withinI x2 (0) (if (IntKind.wrap .i64 ((((0 + (List.length (putG (List.take (List.length (samplesG x0)) (List.drop 0 (samplesG x0)))))) : Nat) : Int) - (1))) < (0) then (0) else (IntKind.wrap .i64 ((((0 + (List.length (putG (List.take (List.length (samplesG x0)) (List.drop 0 (samplesG x0)))))) : Nat) : Int) - (1)))))) - 0) : Nat) : Int)) (broomyG (List.take ((Int.toNat (withinI x2 (0) (if (IntKind.wrap .i64 ((((0 + (List.length (putG (List.take (List.length (samplesG x0)) (List.drop 0 (samplesG x0)))))) : Nat) : Int) - (1))) < (0) then (0) else (IntKind.wrap .i64 ((((0 + (List.length (putG (List.take (List.length (samplesG x0)) (List.drop 0 (samplesG x0)))))) : Nat) : Int) - (1)))))) - 0) (List.drop 0 (putG (List.take (List.length (samplesG x0)) (List.drop 0 (samplesG x0)))))) (7))))).1) < 4611686018427387904) = true) (c22 : ((show List (Int) from (putG (getG (List.drop 0 (List.take (Int.toNat ((((Int.toNat (withinI x2 (0) (if (IntKind.wrap .i64 ((((0 + (List.length (putG (List.take (List.length (samplesG x0)) (List.drop 0 (samplesG x0)))))) : Nat) : Int) - (1))) < (0) then (0) else (IntKind.wrap .i64 ((((0 + (List.length (putG (List.take (List.length (samplesG x0)) (List.drop 0 (samplesG x0)))))) : Nat) : Int) - (1)))))) - 0) : Nat) : Int)) (broomyG (List.take ((Int.toNat (withinI x2 (0) (if (IntKind.wrap .i64 ((((0 + (List.length (putG (List.take (List.length (samplesG x0)) (List.drop 0 (samplesG x0)))))) : Nat) : Int) - (1))) < (0) then (0) else (IntKind.wrap .i64 ((((0 + (List.length (putG (List.take (List.length (samplesG x0)) (List.drop 0 (samplesG x0)))))) : Nat) : Int) - (1)))))) - 0) (List.drop 0 (putG (List.take (List.length (samplesG x0)) (List.drop 0 (samplesG x0)))))) (7))))).1)) == (List.take ((Int.toNat (withinI x2 (0) (if (IntKind.wrap .i64 ((((0 + (List.length (putG (List.take (List.length (samplesG x0)) (List.drop 0 (samplesG x0)))))) : Nat) : Int) - (1))) < (0) then (0) else (IntKind.wrap .i64 ((((0 + (List.length (putG (List.take (List.length (samplesG x0)) (List.drop 0 (samplesG x0)))))) : Nat) : Int) - (1)))))) - 0) (List.drop 0 (putG (List.take (List.length (samplesG x0)) (List.drop 0 (samplesG x0))))))) = true) : (evCall F S19 (m + 25) 5 [(.d (.sl (.int .i64) x0)), (.d (.sl (.int .u8) x1)), (.d (.int .i64 x2)), (.d (.int .u8 x3)), (.d (.int .i64 x4))] []).run = some (.d (.bool true), []) := by
  refine runT_ok (LS := (fun k => none)) (fn := fn5) (r := .d (.bool true)) (B' := []) (vis := []) (by kernel_rfl) rfl (by kernel_rfl) (M.run_of_path _ [true, true, true, true, true, true, false, false, true, true, true, true, true, true, true, true, true, false, true, true, true, true, true, true] _ _ (by kernel_rfl) (all_t rfl (all_t (show decide ((0 + (List.length (samplesG x0))) ≤ (List.length (samplesG x0))) = true from decide_eq_true (Nat.le_of_eq (Nat.zero_add _))) (all_t c2 (all_t c3 (all_t rfl (all_t c5 (all_f c6 (all_f c7 (all_t c8 (all_t c9 (all_t (show (decide (0 < (0 + (List.length (putG (List.take (List.length (samplesG x0)) (List.drop 0 (samplesG x0))))))) || true) = true from Bool.or_true _) (all_t c11 (all_t c12 (all_t c13 (all_t c14 (all_t c11 (all_t c16 (all_nt c17 (all_t c18 (all_t c19 (all_t c11 (all_t c21 (all_t c22 (all_t c22 all_nil))))))))))))))))))))))))) ?_
  intro p hp; cases hp

set_option maxHeartbeats 20000000 in
theorem only_w3 (m : Nat) (x0 : List Int) (x1 : List Int) (x2 : Int) (x3 : Int) (x4 : Int) (c2 : decide (List.length (List.take (List.length (samplesG x0)) (List.drop 0 (samplesG x0))) ≤ 1000000) = true) (c3 : decide (((0 + (List.length (putG (List.take (List.length (samplesG x0)) (List.drop 0 (samplesG x0)))))) * 1) ≤ 70368744177664) = true) (c5 : ((decide (0 ≤ (if (IntKind.wrap .i64 ((((0 + (List.length (putG (List.take (List.length (samplesG x0)) (List.drop 0 (samplesG x0)))))) : Nat) : Int) - (1))) < (0) then (0) else (IntKind.wrap .i64 ((((0 + (List.length (putG (List.take (List.length (samplesG x0)) (List.drop 0 (samplesG x0)))))) : Nat) : Int) - (1))))) && decide ((if (IntKind.wrap .i64 ((((0 + (List.length (putG (List.take (List.length (samplesG x0)) (List.drop 0 (samplesG x0)))))) : Nat) : Int) - (1))) < (0) then (0) else (IntKind.wrap .i64 ((((0 + (List.length (putG (List.take (List.length (samplesG x0)) (List.drop 0 (samplesG x0)))))) : Nat) : Int) - (1)))) ≤ 2305843009213693951)) && decide (((if (IntKind.wrap .i64 ((((0 + (List.length (putG (List.take (List.length (samplesG x0)) (List.drop 0 (samplesG x0)))))) : Nat) : Int) - (1))) < (0) then (0) else (IntKind.wrap .i64 ((((0 + (List.length (putG (List.take (List.length (samplesG x0)) (List.drop 0 (samplesG x0)))))) : Nat) : Int) - (1)))) - (0)) ≤ 2305843009213693951)) = true) (c6 : ¬ ((((0 + (List.length (putG (List.take (List.length (samplesG x0)) (List.drop 0 (samplesG x0)))))) : Nat) : Int) == (0)) = true) (c7 : ¬ ((IntKind.wrap .i64 ((((BitVec.ofInt 64 x4 &&& BitVec.ofInt 64 (3)).toNat : Nat) : Int))) == (0)) = true) (c8 : ((IntKind.wrap .i64 ((((BitVec.ofInt 64 x4 &&& BitVec.ofInt 64 (3)).toNat : Nat) : Int))) == (1)) = true) (c9 : (decide (0 ≤ (withinI x2 (0) (if (IntKind.wrap .i64 ((((0 + (List.length (putG (List.take (List.length (samplesG x0)) (List.drop 0 (samplesG x0)))))) : Nat) : Int) - (1))) < (0) then (0) else (IntKind.wrap .i64 ((((0 + (List.length (putG (List.take (List.length (samplesG x0)) (List.drop 0 (samplesG x0)))))) : Nat) : Int) - (1)))))) && decide ((withinI x2 (0) (if (IntKind.wrap .i64 ((((0 + (List.length (putG (List.take (List.length (samplesG x0)) (List.drop 0 (samplesG x0)))))) : Nat) : Int) - (1))) < (0) then (0) else (IntKind.wrap .i64 ((((0 + (List.length (putG (List.take (List.length (samplesG x0)) (List.drop 0 (samplesG x0)))))) : Nat) : Int) - (1))))) ≤ (((0 + (List.length (putG (List.take (List.length (samplesG x0)) (List.drop 0 (samplesG x0)))))) : Nat) : Int))) = true) (c11 : decide ((0 + ((Int.toNat (withinI x2 (0) (if (IntKind.wrap .i64 ((((0 + (List.length (putG (List.take (List.length (samplesG x0)) (List.drop 0 (samplesG x0)))))) : Nat) : Int) - (1))) < (0) then (0) else (IntKind.wrap .i64 ((((0 + (List.length (putG (List.take (List.length (samplesG x0)) (List.drop 0 (samplesG x0)))))) : Nat) : Int) - (1)))))) - 0)) ≤ (List.length (putG (List.take (List.length (samplesG x0)) (List.drop 0 (samplesG x0)))))) = true) (c12 : decide (List.length (List.take ((Int.toNat (withinI x2 (0) (if (IntKind.wrap .i64 ((((0 + (List.length (putG (List.take (List.length (samplesG x0)) (List.drop 0 (samplesG x0)))))) : Nat) : Int) - (1))) < (0) then (0) else (IntKind.wrap .i64 ((((0 + (List.length (putG (List.take (List.length (samplesG x0)) (List.drop 0 (samplesG x0)))))) : Nat) : Int) - (1)))))) - 0) (List.drop 0 (putG (List.take (List.length (samplesG x0)) (List.drop 0 (samplesG x0)))))) ≤ 1000000) = true) (c13 : (decide (0 ≤ ((((Int.toNat (withinI x2 (0) (if (IntKind.wrap .i64 ((((0 + (List.length (putG (List.take (List.length (samplesG x0)) (List.drop 0 (samplesG x0)))))) : Nat) : Int) - (1))) < (0) then (0) else (IntKind.wrap .i64 ((((0 + (List.length (putG (List.take (List.length (samplesG x0)) (List.drop 0 (samplesG x0)))))) : Nat) : Int) - (1)))))) - 0) : Nat) : Int)) && decide (((((Int.toNat (withinI x2 (0) (if (IntKind.wrap .i64 ((((0 + (List.length (putG (List.take (List.length (samplesG x0)) (List.drop 0 (samplesG x0)))))) : Nat) : Int) - (1))) < (0) then (0) else (IntKind.wrap .i64 ((((0 + (List.length (putG (List.take (List.length (samplesG x0)) (List.drop 0 (samplesG x0)))))) : Nat) : Int) - (1)))))) - 0) : Nat) : Int) ≤ (((List.length (broomyG (List.take ((Int.toNat (withinI x2 (0) (if (IntKind.wrap .i64 ((((0 + (List.length (putG (List.take (List.length (samplesG x0)) (List.drop 0 (samplesG x0)))))) : Nat) : Int) - (1))) < (0) then (0) else (IntKind.wrap .i64 ((((0 + (List.length (putG (List.take (List.length (samplesG x0)) (List.drop 0 (samplesG x0)))))) : Nat) : Int) - (1)))))) - 0) (List.drop 0 (putG (List.take (List.length (samplesG x0)) (List.drop 0 (samplesG x0)))))) (7))) : Nat) : Int))) = true) (c14 : bytesOK (List.drop 0 (List.take (Int.toNat ((((Int.toNat (withinI x2 (0) (if (IntKind.wrap .i64 ((((0 + (List.length (putG (List.take (List.length (samplesG x0)) (List.drop 0 (samplesG x0)))))) : Nat) : Int) - (1))) < (0) then (0) else (IntKind.wrap .i64 ((((0 + (List.length (putG (List.take (List.length (samplesG x0)) (List.drop 0 (samplesG x0)))))) : Nat) : Int) - (1)))))) - 0) : Nat) : Int)) (broomyG (List.take ((Int.toNat (withinI x2 (0) (if (IntKind.wrap .i64 ((((0 + (List.length (putG (List.take (List.length (samplesG x0)) (List.drop 0 (samplesG x0)))))) : Nat) : Int) - (1))) < (0) then (0) else (IntKind.wrap .i64 ((((0 + (List.length (putG (List.take (List.length (samplesG x0)) (List.drop 0 (samplesG x0)))))) : Nat) : Int) - (1)))))) - 0) (List.drop 0 (putG (List.take (List.length (samplesG x0)) (List.drop 0 (samplesG x0)))))) (7)))) = true) (c16 : decide (List.length (broomyG (List.take ((Int.toNat (withinI x2 (0) (if (IntKind.wrap .i64 ((((0 + (List.length (putG (List.take (List.length (samplesG x0)) (List.drop 0 (samplesG x0)))))) : Nat) : Int) - (1))) < (0) then (0) else (IntKind.wrap .i64 ((((0 + (List.length (putG (List.take (List.length (samplesG x0)) (List.drop 0 (samplesG x0)))))) : Nat) : Int) - (1)))))) - 0) (List.drop 0 (putG (List.take (List.length (samplesG x0)) (List.drop 0 (samplesG x0)))))) (7)) ≤ 1000000 ∧ List.length (List.take ((Int.toNat (withinI x2 (0) (if (IntKind.wrap .i64 ((((0 + (List.length (putG (List.take (List.length (samplesG x0)) (List.drop 0 (samplesG x0)))))) : Nat) : Int) - (1))) < (0) then (0) else (IntKind.wrap .i64 ((((0 + (List.length (putG (List.take (List.length (samplesG x0)) (List.drop 0 (samplesG x0)))))) : Nat) : Int) - (1)))))) - 0) (List.drop 0 (putG (List.take (List.length (samplesG x0)) (List.drop 0 (samplesG x0)))))) ≤ 1000000) = true) (c17 : (bintactG (broomyG (List.take ((Int.toNat (withinI x2 (0) (if (IntKind.wrap .i64 ((((0 + (List.length (putG (List.take (List.length (samplesG x0)) (List.drop 0 (samplesG x0)))))) : Nat) : Int) - (1))) < (0) then (0) else (IntKind.wrap .i64 ((((0 + (List.length (putG (List.take (List.length (samplesG x0)) (List.drop 0 (samplesG x0)))))) : Nat) : Int) - (1)))))) - 0) (List.drop 0 (putG (List.take (List.length (samplesG x0)) (List.drop 0 (samplesG x0)))))) (7)) (List.take ((Int.toNat (withinI x2 (0) (if (IntKind.wrap .i64 ((((0 + (List.length (putG (List.take (List.length (samplesG x0)) (List.drop 0 (samplesG x0)))))) : Nat) : Int) - (1))) < (0) then (0) else (IntKind.wrap .i64 ((((0 + (List.length (putG (List.take (List.length (samplesG x0)) (List.drop 0 (samplesG x0)))))) : Nat) : Int) - (1)))))) - 0) (List.drop 0 (putG (List.take (List.length (samplesG x0)) (List.drop 0 (samplesG x0)))))) (7)) = true) (c18 : ¬ ((getG (List.drop 0 (List.take (Int.toNat ((((Int.toNat (withinI x2 (0) (if (IntKind.wrap .i64 ((((0 + (List.length (putG (List.take (List.length (samplesG x0)) (List.drop 0 (samplesG x0)))))) : Nat) : Int) - (1))) < (0) then (0) else (IntKind.wrap .i64 ((((0 + (List.length (putG (List.take (List.length (samplesG x0)) (List.drop 0 (samplesG x0)))))) : Nat) : Int) - (1)))))) - 0) : Nat) : Int)) (broomyG (List.take ((Int.toNat (withinI x2 (0) (if (IntKind.wrap .i64 ((((0 + (List.length (putG (List.take (List.length (samplesG x0)) (List.drop 0 (samplesG x0)))))) : Nat) : Int) - (1))) < (0) then (0) else (IntKind.wrap .i64 ((((0 + (List.length (putG (List.take (List.length (samplesG x0)) (List.drop 0 (samplesG x0)))))) : Nat) : Int) - (1)))))) - 0) (List.drop 0 (putG (List.take (List.length (samplesG x0)) (List.drop 0 (samplesG x0)))))) (7))))).2 == (0)) = true) (c19 : ((getG (List.drop 0 (List.take (Int.toNat ((((Int.toNat (withinI x2 (0) (if (IntKind.wrap .i64 ((((0 + (List.length (putG (List.take (List.length (samplesG x0)) (List.drop 0 (samplesG x0)))))) : Nat) : Int) - (1))) < (0) then (0) else (IntKind.wrap .i64 ((((0 + (List.length (putG (List.take (List.length (samplesG x0)) (List.drop 0 (samplesG x0)))))) : Nat) : Int) - (1)))))) - 0) : Nat) : Int)) (broomyG (List.take ((Int.toNat (withinI x2 (0) (if (IntKind.wrap .i64 ((((0 + (List.length (putG (List.take (List.length (samplesG x0)) (List.drop 0 (samplesG x0)))))) : Nat) : Int) - (1))) < (0) then (0) else (IntKind.wrap .i64 ((((0 + (List.length (putG (List.take (List.length (samplesG x0)) (List.drop 0 (samplesG x0)))))) : Nat) : Int) - (1)))))) - 0) (List.drop 0 (putG (List.take (List.length (samplesG x0)) (List.drop 0 (samplesG x0)))))) (7))))).2 == (1)) = true) (c23 : ((((List.length (getG (List.drop 0 (List.take (Int.toNat ((((Int.toNat (withinI x2 (0) (if (IntKind.wrap .i64 ((((0 + (List.length (putG (List.take (List.length (samplesG x0)) (List.drop 0 (samplesG x0)))))) : Nat) : Int) - (1))) < (0) then (0) else (IntKind.wrap .i64 ((((0 + (List.length (putG (List.take (List.length (samplesG x0)) (List.drop 0 (samplesG x0)))))) : Nat) : Int) - (1)))))) - 0) : Nat) : Int)) (broomyG (List.take ((Int.toNat (withinI x2 (0) (if (IntKind.wrap .i64 ((((0 + (List.length (putG (List.take (List.length (samplesG x0)) (List.drop 0 (samplesG x0)))))) : Nat) : Int) - (1))) < (0) then (0) else (IntKind.wrap .i64 ((((0 + (List.length (putG (List.take (List.length (samplesG x0)) (List.drop 0 (samplesG x0)))))) : Nat) : Int) - (1)))))) - 0) (List.drop 0 (putG (List.take (List.length (samplesG x0)) (List.drop 0 (samplesG x0)))))) (7))))).1) : Nat) : Int) == (0)) = true) : (evCall F S19 (m + 25) 5 [(.d (.sl (.int .i64) x0)), (.d (.sl (.int .u8) x1)), (.d (.int .i64 x2)), (.d (.int .u8 x3)), (.d (.int .i64 x4))] []).run = some (.d (.bool true), []) := by
  refine runT_ok (LS := (fun k => none)) (fn := fn5) (r := .d (.bool true)) (B' := []) (vis := []) (by kernel_rfl) rfl (by kernel_rfl) (M.run_of_path _ [true, true, true, true, true, true, false, false, true, true, true, true, true, true, true, true, true, false, false, true, true, true, true, true, true] _ _ (by kernel_rfl) (all_t rfl (all_t (show decide ((0 + (List.length (samplesG x0))) ≤ (List.length (samplesG x0))) = true from decide_eq_true (Nat.le_of_eq (Nat.zero_add _))) (all_t c2 (all_t c3 (all_t rfl (all_t c5 (all_f c6 (all_f c7 (all_t c8 (all_t c9 (all_t (show (decide (0 < (0 + (List.length (putG (List.take (List.length (samplesG x0)) (List.drop 0 (samplesG x0))))))) || true) = true from Bool.or_true _) (all_t c11 (all_t c12 (all_t c13 (all_t c14 (all_t c11 (all_t c16 (all_nt c17 (all_f c18 (all_t c19 (all_t c19 (all_t c19 (all_t c19 (all_t c23 (all_t c23 all_nil)))))))))))))))))))))))))) ?_
  intro p hp; cases hp

set_option maxHeartbeats 20000000 in
theorem only_w4 (m : Nat) (x0 : List Int) (x1 : List Int) (x2 : Int) (x3 : Int) (x4 : Int) (c2 : decide (List.length (List.take (List.length (samplesG x0)) (List.drop 0 (samplesG x0))) ≤ 1000000) = true) (c3 : decide (((0 + (List.length (putG (List.take (List.length (samplesG x0)) (List.drop 0 (samplesG x0)))))) * 1) ≤ 70368744177664) = true) (c5 : ((decide (0 ≤ (if (IntKind.wrap .i64 ((((0 + (List.length (putG (List.take (List.length (samplesG x0)) (List.drop 0 (samplesG x0)))))) : Nat) : Int) - (1))) < (0) then (0) else (IntKind.wrap .i64 ((((0 + (List.length (putG (List.take (List.length (samplesG x0)) (List.drop 0 (samplesG x0)))))) : Nat) : Int) - (1))))) && decide ((if (IntKind.wrap .i64 ((((0 + (List.length (putG (List.take (List.length (samplesG x0)) (List.drop 0 (samplesG x0)))))) : Nat) : Int) - (1))) < (0) then (0) else (IntKind.wrap .i64 ((((0 + (List.length (putG (List.take (List.length (samplesG x0)) (List.drop 0 (samplesG x0)))))) : Nat) : Int) - (1)))) ≤ 2305843009213693951)) && decide (((if (IntKind.wrap .i64 ((((0 + (List.length (putG (List.take (List.length (samplesG x0)) (List.drop 0 (samplesG x0)))))) : Nat) : Int) - (1))) < (0) then (0) else (IntKind.wrap .i64 ((((0 + (List.length (putG (List.take (List.length (samplesG x0)) (List.drop 0 (samplesG x0)))))) : Nat) : Int) - (1)))) - (0)) ≤ 2305843009213693951)) = true) (c6 : ¬ ((((0 + (List.length (putG (List.take (List.length (samplesG x0)) (List.drop 0 (samplesG x0)))))) : Nat) : Int) == (0)) = true) (c7 : ¬ ((IntKind.wrap .i64 ((((BitVec.ofInt 64 x4 &&& BitVec.ofInt 64 (3)).toNat : Nat) : Int))) == (0)) = true) (c8 : ¬ ((IntKind.wrap .i64 ((((BitVec.ofInt 64 x4 &&& BitVec.ofInt 64 (3)).toNat : Nat) : Int))) == (1)) = true) (c9 : ((IntKind.wrap .i64 ((((BitVec.ofInt 64 x4 &&& BitVec.ofInt 64 (3)).toNat : Nat) : Int))) == (2)) = true) (c10 : (decide (0 ≤ (if (10) < (((List.length x1) : Nat) : Int) then (10) else (((List.length x1) : Nat) : Int))) && decide ((if (10) < (((List.length x1) : Nat) : Int) then (10) else (((List.length x1) : Nat) : Int)) ≤ (((List.length x1) : Nat) : Int))) = true) (c11 : decide ((((0 + (List.length (putG (List.take (List.length (samplesG x0)) (List.drop 0 (samplesG x0)))))) + (List.length (List.drop 0 (List.take (Int.toNat (if (10) < (((List.length x1) : Nat) : Int) then (10) else (((List.length x1) : Nat) : Int))) x1)))) * 1) ≤ 70368744177664) = true) (c12 : decide ((0 + (List.length (putG (List.take (List.length (samplesG x0)) (List.drop 0 (samplesG x0)))))) = (List.length (putG (List.take (List.length (samplesG x0)) (List.drop 0 (samplesG x0)))))) = true) (c13 : decide ((0 + ((0 + (List.length (putG (List.take (List.length (samplesG x0)) (List.drop 0 (samplesG x0)))))) + (List.length (List.drop 0 (List.take (Int.toNat (if (10) < (((List.length x1) : Nat) : Int) then (10) else (((List.length x1) : Nat) : Int))) x1))))) ≤ (List.length ((putG (List.take (List.length (samplesG x0)) (List.drop 0 (samplesG x0)))) ++ (List.drop 0 (List.take (Int.toNat (if (10) < (((List.length x1) : Nat) : Int) then (10) else (((List.length x1) : Nat) : Int))) x1))))) = true) (c14 : decide (List.length (List.take ((0 + (List.length (putG (List.take (List.length (samplesG x0)) (List.drop 0 (samplesG x0)))))) + (List.length (List.drop 0 (List.take (Int.toNat (if (10) < (((List.length x1) : Nat) : Int) then (10) else (((List.length x1) : Nat) : Int))) x1)))) (List.drop 0 ((putG (List.take (List.length (samplesG x0)) (List.drop 0 (samplesG x0)))) ++ (List.drop 0 (List.take (Int.toNat (if (10) < (((List.length x1) : Nat) : Int) then (10) else (((List.length x1) : Nat) : Int))) x1))))) ≤ 1000000) = true) (c15 : (decide (0 ≤ ((((0 + (List.length (putG (List.take (List.length (samplesG x0)) (List.drop 0 (samplesG x0)))))) + (List.length (List.drop 0 (List.take (Int.toNat (if (10) < (((List.length x1) : Nat) : Int) then (10) else (((List.length x1) : Nat) : Int))) x1)))) : Nat) : Int)) && decide (((((0 + (List.length (putG (List.take (List.length (samplesG x0)) (List.drop 0 (samplesG x0)))))) + (List.length (List.drop 0 (List.take (Int.toNat (if (10) < (((List.length x1) : Nat) : Int) then (10) else (((List.length x1) : Nat) : Int))) x1)))) : Nat) : Int) ≤ (((List.length (broomyG (List.take ((0 + (List.length (putG (List.take (List.length (samplesG x0)) (List.drop 0 (samplesG x0)))))) + (List.length (List.drop 0 (List.take (Int.toNat (if (10) < (((List.length x1) : Nat) : Int) then (10) else (((List.length x1) : Nat) : Int))) x1)))) (List.drop 0 ((putG (List.take (List.length (samplesG x0)) (List.drop 0 (samplesG x0)))) ++ (List.drop 0 (List.take (Int.toNat (if (10) < (((List.length x1) : Nat) : Int) then (10) else (((List.length x1) : Nat) : Int))) x1))))) (7))) : Nat) : Int))) = true) (c16 : bytesOK (List.drop 0 (List.take (Int.toNat ((((0 + (List.length (putG (List.take (List.length (samplesG x0)) (List.drop 0 (samplesG x0)))))) + (List.length (List.drop 0 (List.take (Int.toNat (if (10) < (((List.length x1) : Nat) : Int) then (10) else (((List.length x1) : Nat) : Int))) x1)))) : Nat) : Int)) (broomyG (List.take ((0 + (List.length (putG (List.take (List.length (samplesG x0)) (List.drop 0 (samplesG x0)))))) + (List.length (List.drop 0 (List.take (Int.toNat (if (10) < (((List.length x1) : Nat) : Int) then (10) else (((List.length x1) : Nat) : Int))) x1)))) (List.drop 0 ((putG (List.take (List.length (samplesG x0)) (List.drop 0 (samplesG x0)))) ++ (List.drop 0 (List.take (Int.toNat (if (10) < (((List.length x1) : Nat) : Int) then (10) else (((List.length x1) : Nat) : Int))) x1))))) (7)))) = true) (c18 : decide (List.length (broomyG (List.take ((0 + (List.length (putG (List.take (List.length (samplesG x0)) (List.drop 0 (samplesG x0)))))) + (List.length (List.drop 0 (List.take (Int.toNat (if (10) < (((List.length x1) : Nat) : Int) then (10) else (((List.length x1) : Nat) : Int))) x1)))) (List.drop 0 ((putG (List.take (List.length (samplesG x0)) (List.drop 0 (samplesG x0)))) ++ (List.drop 0 (List.take (Int.toNat (if (10) < (((List.length x1) : Nat) : Int) then (10) else (((List.length x1) : Nat) : Int))) x1))))) (7)) ≤ 1000000 ∧ List.length (List.take ((0 + (List.length (putG (List.take (List.length (samplesG x0)) (List.drop 0 (samplesG x0)))))) + (List.length (List.drop 0 (List.take (Int.toNat (if (10) < (((List.length x1) : Nat) : Int) then (10) else (((List.length x1) : Nat) : Int))) x1)))) (List.drop 0 ((putG (List.take (List.length (samplesG x0)) (List.drop 0 (samplesG x0)))) ++ (List.drop 0 (List.take (Int.toNat (if (10) < (((List.length x1) : Nat) : Int) then (10) else (((List.length x1) : Nat) : Int))) x1))))) ≤ 1000000) = true) (c19 : (bintactG (broomyG (List.take ((0 + (List.length (putG (List.take (List.length (samplesG x0)) (List.drop 0 (samplesG x0)))))) + (List.length (List.drop 0 (List.take (Int.toNat (if (10) < (((List.length x1) : Nat) : Int) then (10) else (((List.length x1) : Nat) : Int))) x1)))) (List.drop 0 ((putG (List.take (List.length (samplesG x0)) (List.drop 0 (samplesG x0)))) ++ (List.drop 0 (List.take (Int.toNat (if (10) < (((List.length x1) : Nat) : Int) then (10) else (((List.length x1) : Nat) : Int))) x1))))) (7)) (List.take ((0 + (List.length (putG (List.take (List.length (samplesG x0)) (List.drop 0 (samplesG x0)))))) + (List.length (List.drop 0 (List.take (Int.toNat (if (10) < (((List.length x1) : Nat) : Int) then (10) else (((List.length x1) : Nat) : Int))) x1)))) (List.drop 0 ((putG (List.take (List.length (samplesG x0)) (List.drop 0 (samplesG x0)))) ++ (List.drop 0 (List.take (Int.toNat (if (10) < (((List.length x1) : Nat) : Int) then (10) else (((List.length x1) : Nat) : Int))) x1))))) (7)) = true) (c20 : ((getG (List.drop 0 (List.take (Int.toNat ((((0 + (List.length (putG (List.take (List.length (samplesG x0)) (List.drop 0 (samplesG x0)))))) + (List.length (List.drop 0 (List.take (Int.toNat (if (10) < (((List.length x1) : Nat) : Int) then (10) else (((List.length x1) : Nat) : Int))) x1)))) : Nat) : Int)) (broomyG (List.take ((0 + (List.length (putG (List.take (List.length (samplesG x0)) (List.drop 0 (samplesG x0)))))) + (List.length (List.drop 0 (List.take (Int.toNat (if (10) < (((List.length x1) : Nat) : Int) then (10) else (((List.length x1) : Nat) : Int))) x1)))) (List.drop 0 ((putG (List.take (List.length (samplesG x0)) (List.drop 0 (samplesG x0)))) ++ (List.drop 0 (List.take (Int.toNat (if (10) < (((List.length x1) : Nat) : Int) then (10) else (((List.length x1) : Nat) : Int))) x1))))) (7))))).2 == (0)) = true) (c21 : decide (List.length (getG (List.drop 0 (List.take (Int.toNat ((((0 + (List.length (putG (List.take (List.length (samplesG x0)) (List.drop 0 (samplesG x0)))))) + (List.length (List.drop 0 (List.take (Int.toNat (if (10) < (((List.length x1) : Nat) : Int) then (10) else (((List.length x1) : Nat) : Int))) x1)))) : Nat) : Int)) (broomyG (List.take ((0 + (List.length (putG (List.take (List.length (samplesG x0)) (List.drop 0 (samplesG x0)))))) + (List.length (List.drop 0 (List.take (Int.toNat (if (10) < (((List.length x1) : Nat) : Int) then (10) else (((List.length x1) : Nat) : Int))) x1)))) (List.drop 0 ((putG (List.take (List.length (samplesG x0)) (List.drop 0 (samplesG x0)))) ++ (List.drop 0 (List.take (Int.toNat (if (10) < (((List.length x1) : Nat) : Int) then (10) else (((List.length x1) : Nat) : Int))) x1))))) (7))))).1 ≤ 1000000) = true) (c23 : decide (List.length (putG (getG (List.drop 0 (List.take (Int.toNat ((((0 + (List.length (putG (List.take (List.length (samplesG x0)) (List.drop 0 (samplesG x0)))))) + (List.length (List.drop 0 (List.take (Int.toNat (if (10) < (((List.length x1) : Nat) : Int) then (10) else (((List.length x1) : Nat) : Int))) x1)))) : Nat) : Int)) (broomyG (List.take ((0 + (List.length (putG (List.take (List.length (samplesG x0)) (List.drop 0 (samplesG x0)))))) + (List.length (List.drop 0 (List.take (Int.toNat (if (10) < (((List.length x1) : Nat) : Int) then (10) else (((List.length x1) : Nat) : Int))) x1)))) (List.drop 0 ((putG (List.take (List.length (samplesG x0)) (List.drop 0 (samplesG x0)))) ++ (List.drop 0 (List.take (Int.toNat (if (10) < (((List.length x1) : Nat) : Int) then (10) else (((List.length x1) : Nat) : Int))) x1))))) (7))))).1) < 4611686018427387904) = true) (c24 : ((show List (Int) from (putG (getG (List.drop 0 (List.take (Int.toNat ((((0 + (List.length (putG (List.take (List.length (samplesG x0)) (List.drop 0 (samplesG x0)))))) + (List.length (List.drop 0 (List.take (Int.toNat (if (10) < (((List.length x1) : Nat) : Int) then (10) else (((List.length x1) : Nat) : Int))) x1)))) : Nat) : Int)) (broomyG (List.take ((0 + (List.length (putG (List.take (List.length (samplesG x0)) (List.drop 0 (samplesG x0)))))) + (List.length (List.drop 0 (List.take (Int.toNat (if (10) < (((List.length x1) : Nat) : Int) then (10) else (((List.length x1) : Nat) : Int))) x1)))) (List.drop 0 ((putG (List.take (List.length (samplesG x0)) (List.drop 0 (samplesG x0)))) ++ (List.drop 0 (List.take (Int.toNat (if (10) < (((List.length x1) : Nat) : Int) then (10) else (((List.length x1) : Nat) : Int))) x1))))) (7))))).1)) == (List.take ((0 + (List.length (putG (List.take (List.length (samplesG x0)) (List.drop 0 (samplesG x0)))))) + (List.length (List.drop 0 (List.take (Int.toNat (if (10) < (((List.length x1) : Nat) : Int) then (10) else (((List.length x1) : Nat) : Int))) x1)))) (List.drop 0 ((putG (List.take (List.length (samplesG x0)) (List.drop 0 (samplesG x0)))) ++ (List.drop 0 (List.take (Int.toNat (if (10) < (((List.length x1) : Nat) : Int) then (10) else (((List.length x1) : Nat) : Int))) x1)))))) = true) : (evCall F S19 (m + 25) 5 [(.d (.sl (.int .i64) x0)), (.d (.sl (.int .u8) x1)), (.d (.int .i64 x2)), (.d (.int .u8 x3)), (.d (.int .i64 x4))] []).run = some (.d (.bool true), []) := by
  refine runT_ok (LS := (fun k => none)) (fn := fn5) (r := .d (.bool true)) (B' := []) (vis := []) (by kernel_rfl) rfl (by kernel_rfl) (M.run_of_path _ [true, true, true, true, true, true, false, false, false, true, true, true, true, true, true, true, true, true, true, false, true, true, true, true, true, true] _ _ (by kernel_rfl) (all_t rfl (all_t (show decide ((0 + (List.length (samplesG x0))) ≤ (List.length (samplesG x0))) = true from decide_eq_true (Nat.le_of_eq (Nat.zero_add _))) (all_t c2 (all_t c3 (all_t rfl (all_t c5 (all_f c6 (all_f c7 (all_f c8 (all_t c9 (all_t c10 (all_t c11 (all_t c12 (all_t c13 (all_t c14 (all_t c15 (all_t c16 (all_t c13 (all_t c18 (all_nt c19 (all_t c20 (all_t c21 (all_t c13 (all_t c23 (all_t c24 (all_t c24 all_nil))))))))))))))))))))))))))) ?_
  intro p hp; cases hp

set_option maxHeartbeats 20000000 in
theorem only_w5 (m : Nat) (x0 : List Int) (x1 : List Int) (x2 : Int) (x3 : Int) (x4 : Int) (c2 : decide (List.length (List.take (List.length (samplesG x0)) (List.drop 0 (samplesG x0))) ≤ 1000000) = true) (c3 : decide (((0 + (List.length (putG (List.take (List.length (samplesG x0)) (List.drop 0 (samplesG x0)))))) * 1) ≤ 70368744177664) = true) (c5 : ((decide (0 ≤ (if (IntKind.wrap .i64 ((((0 + (List.length (putG (List.take (List.length (samplesG x0)) (List.drop 0 (samplesG x0)))))) : Nat) : Int) - (1))) < (0) then (0) else (IntKind.wrap .i64 ((((0 + (List.length (putG (List.take (List.length (samplesG x0)) (List.drop 0 (samplesG x0)))))) : Nat) : Int) - (1))))) && decide ((if (IntKind.wrap .i64 ((((0 + (List.length (putG (List.take (List.length (samplesG x0)) (List.drop 0 (samplesG x0)))))) : Nat) : Int) - (1))) < (0) then (0) else (IntKind.wrap .i64 ((((0 + (List.length (putG (List.take (List.length (samplesG x0)) (List.drop 0 (samplesG x0)))))) : Nat) : Int) - (1)))) ≤ 2305843009213693951)) && decide (((if (IntKind.wrap .i64 ((((0 + (List.length (putG (List.take (List.length (samplesG x0)) (List.drop 0 (samplesG x0)))))) : Nat) : Int) - (1))) < (0) then (0) else (IntKind.wrap .i64 ((((0 + (List.length (putG (List.take (List.length (samplesG x0)) (List.drop 0 (samplesG x0)))))) : Nat) : Int) - (1)))) - (0)) ≤ 2305843009213693951)) = true) (c6 : ¬ ((((0 + (List.length (putG (List.take (List.length (samplesG x0)) (List.drop 0 (samplesG x0)))))) : Nat) : Int) == (0)) = true) (c7 : ¬ ((IntKind.wrap .i64 ((((BitVec.ofInt 64 x4 &&& BitVec.ofInt 64 (3)).toNat : Nat) : Int))) == (0)) = true) (c8 : ¬ ((IntKind.wrap .i64 ((((BitVec.ofInt 64 x4 &&& BitVec.ofInt 64 (3)).toNat : Nat) : Int))) == (1)) = true) (c9 : ((IntKind.wrap .i64 ((((BitVec.ofInt 64 x4 &&& BitVec.ofInt 64 (3)).toNat : Nat) : Int))) == (2)) = true) (c10 : (decide (0 ≤ (if (10) < (((List.length x1) : Nat) : Int) then (10) else (((List.length x1) : Nat) : Int))) && decide ((if (10) < (((List.length x1) : Nat) : Int) then (10) else (((List.length x1) : Nat) : Int)) ≤ (((List.length x1) : Nat) : Int))) = true) (c11 : decide ((((0 + (List.length (putG (List.take (List.length (samplesG x0)) (List.drop 0 (samplesG x0)))))) + (List.length (List.drop 0 (List.take (Int.toNat (if (10) < (((List.length x1) : Nat) : Int) then (10) else (((List.length x1) : Nat) : Int))) x1)))) * 1) ≤ 70368744177664) = true) (c12 : decide ((0 + (List.length (putG (List.take (List.length (samplesG x0)) (List.drop 0 (samplesG x0)))))) = (List.length (putG (List.take (List.length (samplesG x0)) (List.drop 0 (samplesG x0)))))) = true) (c13 : decide ((0 + ((0 + (List.length (putG (List.take (List.length (samplesG x0)) (List.drop 0 (samplesG x0)))))) + (List.length (List.drop 0 (List.take (Int.toNat (if (10) < (((List.length x1) : Nat) : Int) then (10) else (((List.length x1) : Nat) : Int))) x1))))) ≤ (List.length ((putG (List.take (List.length (samplesG x0)) (List.drop 0 (samplesG x0)))) ++ (List.drop 0 (List.take (Int.toNat (if (10) < (((List.length x1) : Nat) : Int) then (10) else (((List.length x1) : Nat) : Int))) x1))))) = true) (c14 : decide (List.length (List.take ((0 + (List.length (putG (List.take (List.length (samplesG x0)) (List.drop 0 (samplesG x0)))))) + (List.length (List.drop 0 (List.take (Int.toNat (if (10) < (((List.length x1) : Nat) : Int) then (10) else (((List.length x1) : Nat) : Int))) x1)))) (List.drop 0 ((putG (List.take (List.length (samplesG x0)) (List.drop 0 (samplesG x0)))) ++ (List.drop 0 (List.take (Int.toNat (if (10) < (((List.length x1) : Nat) : Int) then (10) else (((List.length x1) : Nat) : Int))) x1))))) ≤ 1000000) = true) (c15 : (decide (0 ≤ ((((0 + (List.length (putG (List.take (List.length (samplesG x0)) (List.drop 0 (samplesG x0)))))) + (List.length (List.drop 0 (List.take (Int.toNat (if (10) < (((List.length x1) : Nat) : Int) then (10) else (((List.length x1) : Nat) : Int))) x1)))) : Nat) : Int)) && decide (((((0 + (List.length (putG (List.take (List.length (samplesG x0)) (List.drop 0 (samplesG x0)))))) + (List.length (List.drop 0 (List.take (Int.toNat (if (10) < (((List.length x1) : Nat) : Int) then (10) else (((List.length x1) : Nat) : Int))) x1)))) : Nat) : Int) ≤ (((List.length (broomyG (List.take ((0 + (List.length (putG (List.take (List.length (samplesG x0)) (List.drop 0 (samplesG x0)))))) + (List.length (List.drop 0 (List.take (Int.toNat (if (10) < (((List.length x1) : Nat) : Int) then (10) else (((List.length x1) : Nat) : Int))) x1)))) (List.drop 0 ((putG (List.take (List.length (samplesG x0)) (List.drop 0 (samplesG x0)))) ++ (List.drop 0 (List.take (Int.toNat (if (10) < (((List.length x1) : Nat) : Int) then (10) else (((List.length x1) : Nat) : Int))) x1))))) (7))) : Nat) : Int))) = true) (c16 : bytesOK (List.drop 0 (List.take (Int.toNat ((((0 + (List.length (putG (List.take (List.length (samplesG x0)) (List.drop 0 (samplesG x0)))))) + (List.length (List.drop 0 (List.take (Int.toNat (if (10) < (((List.length x1) : Nat) : Int) then (10) else (((List.length x1) : Nat) : Int))) x1)))) : Nat) : Int)) (broomyG (List.take ((0 + (List.length (putG (List.take (List.length (samplesG x0)) (List.drop 0 (samplesG x0)))))) + (List.length (List.drop 0 (List.take (Int.toNat (if (10) < (((List.length x1) : Nat) : Int) then (10) else (((List.length x1) : Nat) : Int))) x1)))) (List.drop 0 ((putG (List.take (List.length (samplesG x0)) (List.drop 0 (samplesG x0)))) ++ (List.drop 0 (List.take (Int.toNat (if (10) < (((List.length x1) : Nat) : Int) then (10) else (((List.length x1) : Nat) : Int))) x1))))) (7)))) = true) (c18 : decide (List.length (broomyG (List.take ((0 + (List.length (putG (List.take (List.length (samplesG x0)) (List.drop 0 (samplesG x0)))))) + (List.length (List.drop 0 (List.take (Int.toNat (if (10) < (((List.length x1) : Nat) : Int) then (10) else (((List.length x1) : Nat) : Int))) x1)))) (List.drop 0 ((putG (List.take (List.length (samplesG x0)) (List.drop 0 (samplesG x0)))) ++ (List.drop 0 (List.take (Int.toNat (if (10) < (((List.length x1) : Nat) : Int) then (10) else (((List.length x1) : Nat) : Int))) x1))))) (7)) ≤ 1000000 ∧ List.length (List.take ((0 + (List.length (putG (List.take (List.length (samplesG x0)) (List.drop 0 (samplesG x0)))))) + (List.length (List.drop 0 (List.take (Int.toNat (if (10) < (((List.length x1) : Nat) : Int) then (10) else (((List.length x1) : Nat) : Int))) x1)))) (List.drop 0 ((putG (List.take (List.length (samplesG x0)) (List.drop 0 (samplesG x0)))) ++ (List.drop 0 (List.take (Int.toNat (if (10) < (((List.length x1) : Nat) : Int) then (10) else (((List.length x1) : Nat) : Int))) x1))))) ≤ 1000000) = true) (c19 : (bintactG (broomyG (List.take ((0 + (List.length (putG (List.take (List.length (samplesG x0)) (List.drop 0 (samplesG x0)))))) + (List.length (List.drop 0 (List.take (Int.toNat (if (10) < (((List.length x1) : Nat) : Int) then (10) else (((List.length x1) : Nat) : Int))) x1)))) (List.drop 0 ((putG (List.take (List.length (samplesG x0)) (List.drop 0 (samplesG x0)))) ++ (List.drop 0 (List.take (Int.toNat (if (10) < (((List.length x1) : Nat) : Int) then (10) else (((List.length x1) : Nat) : Int))) x1))))) (7)) (List.take ((0 + (List.length (putG (List.take (List.length (samplesG x0)) (List.drop 0 (samplesG x0)))))) + (List.length (List.drop 0 (List.take (Int.toNat (if (10) < (((List.length x1) : Nat) : Int) then (10) else (((List.length x1) : Nat) : Int))) x1)))) (List.drop 0 ((putG (List.take (List.length (samplesG x0)) (List.drop 0 (samplesG x0)))) ++ (List.drop 0 (List.take (Int.toNat (if (10) < (((List.length x1) : Nat) : Int) then (10) else (((List.length x1) : Nat) : Int))) x1))))) (7)) = true) (c20 : ¬ ((getG (List.drop 0 (List.take (Int.toNat ((((0 + (List.length (putG (List.take (List.length (samplesG x0)) (List.drop 0 (samplesG x0)))))) + (List.length (List.drop 0 (List.take (Int.toNat (if (10) < (((List.length x1) : Nat) : Int) then (10) else (((List.length x1) : Nat) : Int))) x1)))) : Nat) : Int)) (broomyG (List.take ((0 + (List.length (putG (List.take (List.length (samplesG x0)) (List.drop 0 (samplesG x0)))))) + (List.length (List.drop 0 (List.take (Int.toNat (if (10) < (((List.length x1) : Nat) : Int) then (10) else (((List.length x1) : Nat) : Int))) x1)))) (List.drop 0 ((putG (List.take (List.length (samplesG x0)) (List.drop 0 (samplesG x0)))) ++ (List.drop 0 (List.take (Int.toNat (if (10) < (((List.length x1) : Nat) : Int) then (10) else (((List.length x1) : Nat) : Int))) x1))))) (7))))).2 == (0)) = true) (c21 : ((getG (List.drop 0 (List.take (Int.toNat ((((0 + (List.length (putG (List.take (List.length (samplesG x0)) (List.drop 0 (samplesG x0)))))) + (List.length (List.drop 0 (List.take (Int.toNat (if (10) < (((List.length x1) : Nat) : Int) then (10) else (((List.length x1) : Nat) : Int))) x1)))) : Nat) : Int)) (broomyG (List.take ((0 + (List.length (putG (List.take (List.length (samplesG x0)) (List.drop 0 (samplesG x0)))))) + (List.length (List.drop 0 (List.take (Int.toNat (if (10) < (((List.length x1) : Nat) : Int) then (10) else (((List.length x1) : Nat) : Int))) x1)))) (List.drop 0 ((putG (List.take (List.length (samplesG x0)) (List.drop 0 (samplesG x0)))) ++ (List.drop 0 (List.take (Int.toNat (if (10) < (((List.length x1) : Nat) : Int) then (10) else (((List.length x1) : Nat) : Int))) x1))))) (7))))).2 == (1)) = true) (c25 : ((((List.length (getG (List.drop 0 (List.take (Int.toNat ((((0 + (List.length (putG (List.take (List.length (samplesG x0)) (List.drop 0 (samplesG x0)))))) + (List.length (List.drop 0 (List.take (Int.toNat (if (10) < (((List.length x1) : Nat) : Int) then (10) else (((List.length x1) : Nat) : Int))) x1)))) : Nat) : Int)) (broomyG (List.take ((0 + (List.length (putG (List.take (List.length (samplesG x0)) (List.drop 0 (samplesG x0)))))) + (List.length (List.drop 0 (List.take (Int.toNat (if (10) < (((List.length x1) : Nat) : Int) then (10) else (((List.length x1) : Nat) : Int))) x1)))) (List.drop 0 ((putG (List.take (List.length (samplesG x0)) (List.drop 0 (samplesG x0)))) ++ (List.drop 0 (List.take (Int.toNat (if (10) < (((List.length x1) : Nat) : Int) then (10) else (((List.length x1) : Nat) : Int))) x1))))) (7))))).1) : Nat) : Int) == (0)) = true) : (evCall F S19 (m + 25) 5 [(.d (.sl (.int .i64) x0)), (.d (.sl (.int .u8) x1)), (.d (.int .i64 x2)), (.d (.int .u8 x3)), (.d (.int .i64 x4))] []).run = some (.d (.bool true), []) := by
  refine runT_ok (LS := (fun k => none)) (fn := fn5) (r := .d (.bool true)) (B' := []) (vis := []) (by kernel_rfl) rfl (by kernel_rfl) (M.run_of_path _ [true, true, true, true, true, true, false, false, false, true, true, true, true, true, true, true, true, true, true, false, false, true, true, true, true, true, true] _ _ (by kernel_rfl) (all_t rfl (all_t (show decide ((0 + (List.length (samplesG x0))) ≤ (List.length (samplesG x0))) = true from decide_eq_true (Nat.le_of_eq (Nat.zero_add _))) (all_t c2 (all_t c3 (all_t rfl (all_t c5 (all_f c6 (all_f c7 (all_f c8 (all_t c9 (all_t c10 (all_t c11 (all_t c12 (all_t c13 (all_t c14 (all_t c15 (all_t c16 (all_t c13 (all_t c18 (all_nt c19 (all_f c20 (all_t c21 (all_t c21 (all_t c21 (all_t c21 (all_t c25 (all_t c25 all_nil)))))))))))))))))))))))))))) ?_
  intro p hp; cases hp

set_option maxHeartbeats 20000000 in
theorem only_w6 (m : Nat) (x0 : List Int) (x1 : List Int) (x2 : Int) (x3 : Int) (x4 : Int) (c2 : decide (List.length (List.take (List.length (samplesG x0)) (List.drop 0 (samplesG x0))) ≤ 1000000) = true) (c3 : decide (((0 + (List.length (putG (List.take (List.length (samplesG x0)) (List.drop 0 (samplesG x0)))))) * 1) ≤ 70368744177664) = true) (c5 : ((decide (0 ≤ (if (IntKind.wrap .i64 ((((0 + (List.length (putG (List.take (List.length (samplesG x0)) (List.drop 0 (samplesG x0)))))) : Nat) : Int) - (1))) < (0) then (0) else (IntKind.wrap .i64 ((((0 + (List.length (putG (List.take (List.length (samplesG x0)) (List.drop 0 (samplesG x0)))))) : Nat) : Int) - (1))))) && decide ((if (IntKind.wrap .i64 ((((0 + (List.length (putG (List.take (List.length (samplesG x0)) (List.drop 0 (samplesG x0)))))) : Nat) : Int) - (1))) < (0) then (0) else (IntKind.wrap .i64 ((((0 + (List.length (putG (List.take (List.length (samplesG x0)) (List.drop 0 (samplesG x0)))))) : Nat) : Int) - (1)))) ≤ 2305843009213693951)) && decide (((if (IntKind.wrap .i64 ((((0 + (List.length (putG (List.take (List.length (samplesG x0)) (List.drop 0 (samplesG x0)))))) : Nat) : Int) - (1))) < (0) then (0) else (IntKind.wrap .i64 ((((0 + (List.length (putG (List.take (List.length (samplesG x0)) (List.drop 0 (samplesG x0)))))) : Nat) : Int) - (1)))) - (0)) ≤ 2305843009213693951)) = true) (c6 : ¬ ((((0 + (List.length (putG (List.take (List.length (samplesG x0)) (List.drop 0 (samplesG x0)))))) : Nat) : Int) == (0)) = true) (c7 : ¬ ((IntKind.wrap .i64 ((((BitVec.ofInt 64 x4 &&& BitVec.ofInt 64 (3)).toNat : Nat) : Int))) == (0)) = true) (c8 : ¬ ((IntKind.wrap .i64 ((((BitVec.ofInt 64 x4 &&& BitVec.ofInt 64 (3)).toNat : Nat) : Int))) == (1)) = true) (c9 : ¬ ((IntKind.wrap .i64 ((((BitVec.ofInt 64 x4 &&& BitVec.ofInt 64 (3)).toNat : Nat) : Int))) == (2)) = true) (c10 : (decide (0 ≤ (if (40) < (((List.length x1) : Nat) : Int) then (40) else (((List.length x1) : Nat) : Int))) && decide ((if (40) < (((List.length x1) : Nat) : Int) then (40) else (((List.length x1) : Nat) : Int)) ≤ (((List.length x1) : Nat) : Int))) = true) (c11 : decide (((0 + (List.length (List.drop 0 (List.take (Int.toNat (if (40) < (((List.length x1) : Nat) : Int) then (40) else (((List.length x1) : Nat) : Int))) x1)))) * 1) ≤ 70368744177664) = true) (c13 : decide ((0 + (0 + (List.length (List.drop 0 (List.take (Int.toNat (if (40) < (((List.length x1) : Nat) : Int) then (40) else (((List.length x1) : Nat) : Int))) x1))))) ≤ (List.length (List.drop 0 (List.take (Int.toNat (if (40) < (((List.length x1) : Nat) : Int) then (40) else (((List.length x1) : Nat) : Int))) x1)))) = true) (c14 : decide (List.length (List.take (0 + (List.length (List.drop 0 (List.take (Int.toNat (if (40) < (((List.length x1) : Nat) : Int) then (40) else (((List.length x1) : Nat) : Int))) x1)))) (List.drop 0 (List.drop 0 (List.take (Int.toNat (if (40) < (((List.length x1) : Nat) : Int) then (40) else (((List.length x1) : Nat) : Int))) x1)))) ≤ 1000000) = true) (c15 : (decide (0 ≤ (((0 + (List.length (List.drop 0 (List.take (Int.toNat (if (40) < (((List.length x1) : Nat) : Int) then (40) else (((List.length x1) : Nat) : Int))) x1)))) : Nat) : Int)) && decide ((((0 + (List.length (List.drop 0 (List.take (Int.toNat (if (40) < (((List.length x1) : Nat) : Int) then (40) else (((List.length x1) : Nat) : Int))) x1)))) : Nat) : Int) ≤ (((List.length (broomyG (List.take (0 + (List.length (List.drop 0 (List.take (Int.toNat (if (40) < (((List.length x1) : Nat) : Int) then (40) else (((List.length x1) : Nat) : Int))) x1)))) (List.drop 0 (List.drop 0 (List.take (Int.toNat (if (40) < (((List.length x1) : Nat) : Int) then (40) else (((List.length x1) : Nat) : Int))) x1)))) (7))) : Nat) : Int))) = true) (c16 : bytesOK (List.drop 0 (List.take (Int.toNat (((0 + (List.length (List.drop 0 (List.take (Int.toNat (if (40) < (((List.length x1) : Nat) : Int) then (40) else (((List.length x1) : Nat) : Int))) x1)))) : Nat) : Int)) (broomyG (List.take (0 + (List.length (List.drop 0 (List.take (Int.toNat (if (40) < (((List.length x1) : Nat) : Int) then (40) else (((List.length x1) : Nat) : Int))) x1)))) (List.drop 0 (List.drop 0 (List.take (Int.toNat (if (40) < (((List.length x1) : Nat) : Int) then (40) else (((List.length x1) : Nat) : Int))) x1)))) (7)))) = true) (c18 : decide (List.length (broomyG (List.take (0 + (List.length (List.drop 0 (List.take (Int.toNat (if (40) < (((List.length x1) : Nat) : Int) then (40) else (((List.length x1) : Nat) : Int))) x1)))) (List.drop 0 (List.drop 0 (List.take (Int.toNat (if (40) < (((List.length x1) : Nat) : Int) then (40) else (((List.length x1) : Nat) : Int))) x1)))) (7)) ≤ 1000000 ∧ List.length (List.take (0 + (List.length (List.drop 0 (List.take (Int.toNat (if (40) < (((List.length x1) : Nat) : Int) then (40) else (((List.length x1) : Nat) : Int))) x1)))) (List.drop 0 (List.drop 0 (List.take (Int.toNat (if (40) < (((List.length x1) : Nat) : Int) then (40) else (((List.length x1) : Nat) : Int))) x1)))) ≤ 1000000) = true) (c19 : (bintactG (broomyG (List.take (0 + (List.length (List.drop 0 (List.take (Int.toNat (if (40) < (((List.length x1) : Nat) : Int) then (40) else (((List.length x1) : Nat) : Int))) x1)))) (List.drop 0 (List.drop 0 (List.take (Int.toNat (if (40) < (((List.length x1) : Nat) : Int) then (40) else (((List.length x1) : Nat) : Int))) x1)))) (7)) (List.take (0 + (List.length (List.drop 0 (List.take (Int.toNat (if (40) < (((List.length x1) : Nat) : Int) then (40) else (((List.length x1) : Nat) : Int))) x1)))) (List.drop 0 (List.drop 0 (List.take (Int.toNat (if (40) < (((List.length x1) : Nat) : Int) then (40) else (((List.length x1) : Nat) : Int))) x1)))) (7)) = true) (c20 : ((getG (List.drop 0 (List.take (Int.toNat (((0 + (List.length (List.drop 0 (List.take (Int.toNat (if (40) < (((List.length x1) : Nat) : Int) then (40) else (((List.length x1) : Nat) : Int))) x1)))) : Nat) : Int)) (broomyG (List.take (0 + (List.length (List.drop 0 (List.take (Int.toNat (if (40) < (((List.length x1) : Nat) : Int) then (40) else (((List.length x1) : Nat) : Int))) x1)))) (List.drop 0 (List.drop 0 (List.take (Int.toNat (if (40) < (((List.length x1) : Nat) : Int) then (40) else (((List.length x1) : Nat) : Int))) x1)))) (7))))).2 == (0)) = true) (c21 : decide (List.length (getG (List.drop 0 (List.take (Int.toNat (((0 + (List.length (List.drop 0 (List.take (Int.toNat (if (40) < (((List.length x1) : Nat) : Int) then (40) else (((List.length x1) : Nat) : Int))) x1)))) : Nat) : Int)) (broomyG (List.take (0 + (List.length (List.drop 0 (List.take (Int.toNat (if (40) < (((List.length x1) : Nat) : Int) then (40) else (((List.length x1) : Nat) : Int))) x1)))) (List.drop 0 (List.drop 0 (List.take (Int.toNat (if (40) < (((List.length x1) : Nat) : Int) then (40) else (((List.length x1) : Nat) : Int))) x1)))) (7))))).1 ≤ 1000000) = true) (c23 : decide (List.length (putG (getG (List.drop 0 (List.take (Int.toNat (((0 + (List.length (List.drop 0 (List.take (Int.toNat (if (40) < (((List.length x1) : Nat) : Int) then (40) else (((List.length x1) : Nat) : Int))) x1)))) : Nat) : Int)) (broomyG (List.take (0 + (List.length (List.drop 0 (List.take (Int.toNat (if (40) < (((List.length x1) : Nat) : Int) then (40) else (((List.length x1) : Nat) : Int))) x1)))) (List.drop 0 (List.drop 0 (List.take (Int.toNat (if (40) < (((List.length x1) : Nat) : Int) then (40) else (((List.length x1) : Nat) : Int))) x1)))) (7))))).1) < 4611686018427387904) = true) (c24 : ((show List (Int) from (putG (getG (List.drop 0 (List.take (Int.toNat (((0 + (List.length (List.drop 0 (List.take (Int.toNat (if (40) < (((List.length x1) : Nat) : Int) then (40) else (((List.length x1) : Nat) : Int))) x1)))) : Nat) : Int)) (broomyG (List.take (0 + (List.length (List.drop 0 (List.take (Int.toNat (if (40) < (((List.length x1) : Nat) : Int) then (40) else (((List.length x1) : Nat) : Int))) x1)))) (List.drop 0 (List.drop 0 (List.take (Int.toNat (if (40) < (((List.length x1) : Nat) : Int) then (40) else (((List.length x1) : Nat) : Int))) x1)))) (7))))).1)) == (List.take (0 + (List.length (List.drop 0 (List.take (Int.toNat (if (40) < (((List.length x1) : Nat) : Int) then (40) else (((List.length x1) : Nat) : Int))) x1)))) (List.drop 0 (List.drop 0 (List.take (Int.toNat (if (40) < (((List.length x1) : Nat) : Int) then (40) else (((List.length x1) : Nat) : Int))) x1))))) = true) : (evCall F S19 (m + 25) 5 [(.d (.sl (.int .i64) x0)), (.d (.sl (.int .u8) x1)), (.d (.int .i64 x2)), (.d (.int .u8 x3)), (.d (.int .i64 x4))] []).run = some (.d (.bool true), []) := by
  refine runT_ok (LS := (fun k => none)) (fn := fn5) (r := .d (.bool true)) (B' := []) (vis := []) (by kernel_rfl) rfl (by kernel_rfl) (M.run_of_path _ [true, true, true, true, true, true, false, false, false, false, true, true, true, true, true, true, true, true, true, false, true, true, true, true, true, true] _ _ (by kernel_rfl) (all_t rfl (all_t (show decide ((0 + (List.length (samplesG x0))) ≤ (List.length (samplesG x0))) = true from decide_eq_true (Nat.le_of_eq (Nat.zero_add _))) (all_t c2 (all_t c3 (all_t rfl (all_t c5 (all_f c6 (all_f c7 (all_f c8 (all_f c9 (all_t c10 (all_t c11 (all_t rfl (all_t c13 (all_t c14 (all_t c15 (all_t c16 (all_t c13 (all_t c18 (all_nt c19 (all_t c20 (all_t c21 (all_t c13 (all_t c23 (all_t c24 (all_t c24 all_nil))))))))))))))))))))))))))) ?_
  intro p hp; cases hp

set_option maxHeartbeats 20000000 in
theorem only_w7 (m : Nat) (x0 : List Int) (x1 : List Int) (x2 : Int) (x3 : Int) (x4 : Int) (c2 : decide (List.length (List.take (List.length (samplesG x0)) (List.drop 0 (samplesG x0))) ≤ 1000000) = true) (c3 : decide (((0 + (List.length (putG (List.take (List.length (samplesG x0)) (List.drop 0 (samplesG x0)))))) * 1) ≤ 70368744177664) = true) (c5 : ((decide (0 ≤ (if (IntKind.wrap .i64 ((((0 + (List.length (putG (List.take (List.length (samplesG x0)) (List.drop 0 (samplesG x0)))))) : Nat) : Int) - (1))) < (0) then (0) else (IntKind.wrap .i64 ((((0 + (List.length (putG (List.take (List.length (samplesG x0)) (List.drop 0 (samplesG x0)))))) : Nat) : Int) - (1))))) && decide ((if (IntKind.wrap .i64 ((((0 + (List.length (putG (List.take (List.length (samplesG x0)) (List.drop 0 (samplesG x0)))))) : Nat) : Int) - (1))) < (0) then (0) else (IntKind.wrap .i64 ((((0 + (List.length (putG (List.take (List.length (samplesG x0)) (List.drop 0 (samplesG x0)))))) : Nat) : Int) - (1)))) ≤ 2305843009213693951)) && decide (((if (IntKind.wrap .i64 ((((0 + (List.length (putG (List.take (List.length (samplesG x0)) (List.drop 0 (samplesG x0)))))) : Nat) : Int) - (1))) < (0) then (0) else (IntKind.wrap .i64 ((((0 + (List.length (putG (List.take (List.length (samplesG x0)) (List.drop 0 (samplesG x0)))))) : Nat) : Int) - (1)))) - (0)) ≤ 2305843009213693951)) = true) (c6 : ¬ ((((0 + (List.length (putG (List.take (List.length (samplesG x0)) (List.drop 0 (samplesG x0)))))) : Nat) : Int) == (0)) = true) (c7 : ¬ ((IntKind.wrap .i64 ((((BitVec.ofInt 64 x4 &&& BitVec.ofInt 64 (3)).toNat : Nat) : Int))) == (0)) = true) (c8 : ¬ ((IntKind.wrap .i64 ((((BitVec.ofInt 64 x4 &&& BitVec.ofInt 64 (3)).toNat : Nat) : Int))) == (1)) = true) (c9 : ¬ ((IntKind.wrap .i64 ((((BitVec.ofInt 64 x4 &&& BitVec.ofInt 64 (3)).toNat : Nat) : Int))) == (2)) = true) (c10 : (decide (0 ≤ (if (40) < (((List.length x1) : Nat) : Int) then (40) else (((List.length x1) : Nat) : Int))) && decide ((if (40) < (((List.length x1) : Nat) : Int) then (40) else (((List.length x1) : Nat) : Int)) ≤ (((List.length x1) : Nat) : Int))) = true) (c11 : decide (((0 + (List.length (List.drop 0 (List.take (Int.toNat (if (40) < (((List.length x1) : Nat) : Int) then (40) else (((List.length x1) : Nat) : Int))) x1)))) * 1) ≤ 70368744177664) = true) (c13 : decide ((0 + (0 + (List.length (List.drop 0 (List.take (Int.toNat (if (40) < (((List.length x1) : Nat) : Int) then (40) else (((List.length x1) : Nat) : Int))) x1))))) ≤ (List.length (List.drop 0 (List.take (Int.toNat (if (40) < (((List.length x1) : Nat) : Int) then (40) else (((List.length x1) : Nat) : Int))) x1)))) = true) (c14 : decide (List.length (List.take (0 + (List.length (List.drop 0 (List.take (Int.toNat (if (40) < (((List.length x1) : Nat) : Int) then (40) else (((List.length x1) : Nat) : Int))) x1)))) (List.drop 0 (List.drop 0 (List.take (Int.toNat (if (40) < (((List.length x1) : Nat) : Int) then (40) else (((List.length x1) : Nat) : Int))) x1)))) ≤ 1000000) = true) (c15 : (decide (0 ≤ (((0 + (List.length (List.drop 0 (List.take (Int.toNat (if (40) < (((List.length x1) : Nat) : Int) then (40) else (((List.length x1) : Nat) : Int))) x1)))) : Nat) : Int)) && decide ((((0 + (List.length (List.drop 0 (List.take (Int.toNat (if (40) < (((List.length x1) : Nat) : Int) then (40) else (((List.length x1) : Nat) : Int))) x1)))) : Nat) : Int) ≤ (((List.length (broomyG (List.take (0 + (List.length (List.drop 0 (List.take (Int.toNat (if (40) < (((List.length x1) : Nat) : Int) then (40) else (((List.length x1) : Nat) : Int))) x1)))) (List.drop 0 (List.drop 0 (List.take (Int.toNat (if (40) < (((List.length x1) : Nat) : Int) then (40) else (((List.length x1) : Nat) : Int))) x1)))) (7))) : Nat) : Int))) = true) (c16 : bytesOK (List.drop 0 (List.take (Int.toNat (((0 + (List.length (List.drop 0 (List.take (Int.toNat (if (40) < (((List.length x1) : Nat) : Int) then (40) else (((List.length x1) : Nat) : Int))) x1)))) : Nat) : Int)) (broomyG (List.take (0 + (List.length (List.drop 0 (List.take (Int.toNat (if (40) < (((List.length x1) : Nat) : Int) then (40) else (((List.length x1) : Nat) : Int))) x1)))) (List.drop 0 (List.drop 0 (List.take (Int.toNat (if (40) < (((List.length x1) : Nat) : Int) then (40) else (((List.length x1) : Nat) : Int))) x1)))) (7)))) = true) (c18 : decide (List.length (broomyG (List.take (0 + (List.length (List.drop 0 (List.take (Int.toNat (if (40) < (((List.length x1) : Nat) : Int) then (40) else (((List.length x1) : Nat) : Int))) x1)))) (List.drop 0 (List.drop 0 (List.take (Int.toNat (if (40) < (((List.length x1) : Nat) : Int) then (40) else (((List.length x1) : Nat) : Int))) x1)))) (7)) ≤ 1000000 ∧ List.length (List.take (0 + (List.length (List.drop 0 (List.take (Int.toNat (if (40) < (((List.length x1) : Nat) : Int) then (40) else (((List.length x1) : Nat) : Int))) x1)))) (List.drop 0 (List.drop 0 (List.take (Int.toNat (if (40) < (((List.length x1) : Nat) : Int) then (40) else (((List.length x1) : Nat) : Int))) x1)))) ≤ 1000000) = true) (c19 : (bintactG (broomyG (List.take (0 + (List.length (List.drop 0 (List.take (Int.toNat (if (40) < (((List.length x1) : Nat) : Int) then (40) else (((List.length x1) : Nat) : Int))) x1)))) (List.drop 0 (List.drop 0 (List.take (Int.toNat (if (40) < (((List.length x1) : Nat) : Int) then (40) else (((List.length x1) : Nat) : Int))) x1)))) (7)) (List.take (0 + (List.length (List.drop 0 (List.take (Int.toNat (if (40) < (((List.length x1) : Nat) : Int) then (40) else (((List.length x1) : Nat) : Int))) x1)))) (List.drop 0 (List.drop 0 (List.take (Int.toNat (if (40) < (((List.length x1) : Nat) : Int) then (40) else (((List.length x1) : Nat) : Int))) x1)))) (7)) = true) (c20 : ¬ ((getG (List.drop 0 (List.take (Int.toNat (((0 + (List.length (List.drop 0 (List.take (Int.toNat (if (40) < (((List.length x1) : Nat) : Int) then (40) else (((List.length x1) : Nat) : Int))) x1)))) : Nat) : Int)) (broomyG (List.take (0 + (List.length (List.drop 0 (List.take (Int.toNat (if (40) < (((List.length x1) : Nat) : Int) then (40) else (((List.length x1) : Nat) : Int))) x1)))) (List.drop 0 (List.drop 0 (List.take (Int.toNat (if (40) < (((List.length x1) : Nat) : Int) then (40) else (((List.length x1) : Nat) : Int))) x1)))) (7))))).2 == (0)) = true) (c21 : ((getG (List.drop 0 (List.take (Int.toNat (((0 + (List.length (List.drop 0 (List.take (Int.toNat (if (40) < (((List.length x1) : Nat) : Int) then (40) else (((List.length x1) : Nat) : Int))) x1)))) : Nat) : Int)) (broomyG (List.take (0 + (List.length (List.drop 0 (List.take (Int.toNat (if (40) < (((List.length x1) : Nat) : Int) then (40) else (((List.length x1) : Nat) : Int))) x1)))) (List.drop 0 (List.drop 0 (List.take (Int.toNat (if (40) < (((List.length x1) : Nat) : Int) then (40) else (((List.length x1) : Nat) : Int))) x1)))) (7))))).2 == (1)) = true) (c25 : ((((List.length (getG (List.drop 0 (List.take (Int.toNat (((0 + (List.length (List.drop 0 (List.take (Int.toNat (if (40) < (((List.length x1) : Nat) : Int) then (40) else (((List.length x1) : Nat) : Int))) x1)))) : Nat) : Int)) (broomyG (List.take (0 + (List.length (List.drop 0 (List.take (Int.toNat (if (40) < (((List.length x1) : Nat) : Int) then (40) else (((List.length x1) : Nat) : Int))) x1)))) (List.drop 0 (List.drop 0 (List.take (Int.toNat (if (40) < (((List.length x1) : Nat) : Int) then (40) else (((List.length x1) : Nat) : Int))) x1)))) (7))))).1) : Nat) : Int) == (0)) = true) : (evCall F S19 (m + 25) 5 [(.d (.sl (.int .i64) x0)), (.d (.sl (.int .u8) x1)), (.d (.int .i64 x2)), (.d (.int .u8 x3)), (.d (.int .i64 x4))] []).run = some (.d (.bool true), []) := by
  refine runT_ok (LS := (fun k => none)) (fn := fn5) (r := .d (.bool true)) (B' := []) (vis := []) (by kernel_rfl) rfl (by kernel_rfl) (M.run_of_path _ [true, true, true, true, true, true, false, false, false, false, true, true, true, true, true, true, true, true, true, false, false, true, true, true, true, true, true] _ _ (by kernel_rfl) (all_t rfl (all_t (show decide ((0 + (List.length (samplesG x0))) ≤ (List.length (samplesG x0))) = true from decide_eq_true (Nat.le_of_eq (Nat.zero_add _))) (all_t c2 (all_t c3 (all_t rfl (all_t c5 (all_f c6 (all_f c7 (all_f c8 (all_f c9 (all_t c10 (all_t c11 (all_t rfl (all_t c13 (all_t c14 (all_t c15 (all_t c16 (all_t c13 (all_t c18 (all_nt c19 (all_f c20 (all_t c21 (all_t c21 (all_t c21 (all_t c21 (all_t c25 (all_t c25 all_nil)))))))))))))))))))))))))))) ?_
  intro p hp; cases hp

set_option maxHeartbeats 20000000 in
theorem only_ok (m : Nat) (x0 : List Int) (x1 : List Int) (x2 : Int) (x3 : Int) (x4 : Int) (q : Unit) (h : only m x0 x1 x2 x3 x4 = some q) : (evCall F S19 (m + 25) 5 [(.d (.sl (.int .i64) x0)), (.d (.sl (.int .u8) x1)), (.d (.int .i64 x2)), (.d (.int .u8 x3)), (.d (.int .i64 x4))] []).run = some (.d (.bool true), []) := by
  unfold only at h
  refine ite_cases h (fun c2 h => ?_) (fun c2 h => ?_)
  · skip
    refine ite_cases h (fun c3 h => ?_) (fun c3 h => ?_)
    · skip
      refine ite_cases h (fun c5 h => ?_) (fun c5 h => ?_)
      · skip
        refine ite_cases h (fun c6 h => ?_) (fun c6 h => ?_)
        · skip
          cases h
        · skip
          refine ite_cases h (fun c7 h => ?_) (fun c7 h => ?_)
          · skip
            refine ite_cases h (fun c8 h => ?_) (fun c8 h => ?_)
            · skip
              refine ite_cases h (fun c9 h => ?_) (fun c9 h => ?_)
              · skip
                refine ite_cases h (fun c10 h => ?_) (fun c10 h => ?_)
                · skip
                  refine ite_cases h (fun c14 h => ?_) (fun c14 h => ?_)
                  · skip
                    refine ite_cases h (fun c15 h => ?_) (fun c15 h => ?_)
                    · skip
                      refine ite_cases h (fun c16 h => ?_) (fun c16 h => ?_)
                      · skip
                        refine ite_cases h (fun c17 h => ?_) (fun c17 h => ?_)
                        · skip
                          refine ite_cases h (fun c19 h => ?_) (fun c19 h => ?_)
                          · skip
                            refine ite_cases h (fun c20 h => ?_) (fun c20 h => ?_)
                            · skip
                              refine ite_cases h (fun c21 h => ?_) (fun c21 h => ?_)
                              · skip
                                refine ite_cases h (fun c22 h => ?_) (fun c22 h => ?_)
                                · skip
                                  refine ite_cases h (fun c24 h => ?_) (fun c24 h => ?_)
                                  · skip
                                    refine ite_cases h (fun c25 h => ?_) (fun c25 h => ?_)
                                    · skip
                                      cases h
                                      exact only_w0 m x0 x1 x2 x3 x4 c2 c3 c5 c6 c7 c8 c9 c10 c14 c15 c16 c17 c19 c20 c21 c22 c24 c25
                                    · skip
                                      cases h
                                  · skip
                                    cases h
                                · skip
                                  cases h
                              · skip
                                refine ite_cases h (fun c22 h => ?_) (fun c22 h => ?_)
                                · skip
                                  refine ite_cases h (fun c26 h => ?_) (fun c26 h => ?_)
                                  · skip
                                    cases h
                                    exact only_w1 m x0 x1 x2 x3 x4 c2 c3 c5 c6 c7 c8 c9 c10 c14 c15 c16 c17 c19 c20 c21 c22 c26
                                  · skip
                                    cases h
                                · skip
                                  cases h
                            · skip
                              cases h
                          · skip
                            cases h
                        · skip
                          cases h
                      · skip
                        cases h
                    · skip
                      cases h
                  · skip
                    cases h
                · skip
                  cases h
              · skip
                cases h
            · skip
              cases h
          · skip
            refine ite_cases h (fun c8 h => ?_) (fun c8 h => ?_)
            · skip
              refine ite_cases h (fun c9 h => ?_) (fun c9 h => ?_)
              · skip
                refine ite_cases h (fun c11 h => ?_) (fun c11 h => ?_)
                · skip
                  refine ite_cases h (fun c12 h => ?_) (fun c12 h => ?_)
                  · skip
                    refine ite_cases h (fun c13 h => ?_) (fun c13 h => ?_)
                    · skip
                      refine ite_cases h (fun c14 h => ?_) (fun c14 h => ?_)
                      · skip
                        refine ite_cases h (fun c16 h => ?_) (fun c16 h => ?_)
                        · skip
                          refine ite_cases h (fun c17 h => ?_) (fun c17 h => ?_)
                          · skip
                            refine ite_cases h (fun c18 h => ?_) (fun c18 h => ?_)
                            · skip
                              refine ite_cases h (fun c19 h => ?_) (fun c19 h => ?_)
                              · skip
                                refine ite_cases h (fun c21 h => ?_) (fun c21 h => ?_)
                                · skip
                                  refine ite_cases h (fun c22 h => ?_) (fun c22 h => ?_)
                                  · skip
                                    cases h
                                    exact only_w2 m x0 x1 x2 x3 x4 c2 c3 c5 c6 c7 c8 c9 c11 c12 c13 c14 c16 c17 c18 c19 c21 c22
                                  · skip
                                    cases h
                                · skip
                                  cases h
                              · skip
                                cases h
                            · skip
                              refine ite_cases h (fun c19 h => ?_) (fun c19 h => ?_)
                              · skip
                                refine ite_cases h (fun c23 h => ?_) (fun c23 h => ?_)
                                · skip
                                  cases h
                                  exact only_w3 m x0 x1 x2 x3 x4 c2 c3 c5 c6 c7 c8 c9 c11 c12 c13 c14 c16 c17 c18 c19 c23
                                · skip
                                  cases h
                              · skip
                                cases h
                          · skip
                            cases h
                        · skip
                          cases h
                      · skip
                        cases h
                    · skip
                      cases h
                  · skip
                    cases h
                · skip
                  cases h
              · skip
                cases h
            · skip
              refine ite_cases h (fun c9 h => ?_) (fun c9 h => ?_)
              · skip
                refine ite_cases h (fun c10 h => ?_) (fun c10 h => ?_)
                · skip
                  refine ite_cases h (fun c11 h => ?_) (fun c11 h => ?_)
                  · skip
                    refine ite_cases h (fun c12 h => ?_) (fun c12 h => ?_)
                    · skip
                      refine ite_cases h (fun c13 h => ?_) (fun c13 h => ?_)
                      · skip
                        refine ite_cases h (fun c14 h => ?_) (fun c14 h => ?_)
                        · skip
                          refine ite_cases h (fun c15 h => ?_) (fun c15 h => ?_)
                          · skip
                            refine ite_cases h (fun c16 h => ?_) (fun c16 h => ?_)
                            · skip
                              refine ite_cases h (fun c18 h => ?_) (fun c18 h => ?_)
                              · skip
                                refine ite_cases h (fun c19 h => ?_) (fun c19 h => ?_)
                                · skip
                                  refine ite_cases h (fun c20 h => ?_) (fun c20 h => ?_)
                                  · skip
                                    refine ite_cases h (fun c21 h => ?_) (fun c21 h => ?_)
                                    · skip
                                      refine ite_cases h (fun c23 h => ?_) (fun c23 h => ?_)
                                      · skip
                                        refine ite_cases h (fun c24 h => ?_) (fun c24 h => ?_)
                                        · skip
                                          cases h
                                          exact only_w4 m x0 x1 x2 x3 x4 c2 c3 c5 c6 c7 c8 c9 c10 c11 c12 c13 c14 c15 c16 c18 c19 c20 c21 c23 c24
                                        · skip
                                          cases h
                                      · skip
                                        cases h
                                    · skip
                                      cases h
                                  · skip
                                    refine ite_cases h (fun c21 h => ?_) (fun c21 h => ?_)
                                    · skip
                                      refine ite_cases h (fun c25 h => ?_) (fun c25 h => ?_)
                                      · skip
                                        cases h
                                        exact only_w5 m x0 x1 x2 x3 x4 c2 c3 c5 c6 c7 c8 c9 c10 c11 c12 c13 c14 c15 c16 c18 c19 c20 c21 c25
                                      · skip
                                        cases h
                                    · skip
                                      cases h
                                · skip
                                  cases h
                              · skip
                                cases h
                            · skip
                              cases h
                          · skip
                            cases h
                        · skip
                          cases h
                      · skip
                        cases h
                    · skip
                      cases h
                  · skip
                    cases h
                · skip
                  cases h
              · skip
                refine ite_cases h (fun c10 h => ?_) (fun c10 h => ?_)
                · skip
                  refine ite_cases h (fun c11 h => ?_) (fun c11 h => ?_)
                  · skip
                    refine ite_cases h (fun c13 h => ?_) (fun c13 h => ?_)
                    · skip
                      refine ite_cases h (fun c14 h => ?_) (fun c14 h => ?_)
                      · skip
                        refine ite_cases h (fun c15 h => ?_) (fun c15 h => ?_)
                        · skip
                          refine ite_cases h (fun c16 h => ?_) (fun c16 h => ?_)
                          · skip
                            refine ite_cases h (fun c18 h => ?_) (fun c18 h => ?_)
                            · skip
                              refine ite_cases h (fun c19 h => ?_) (fun c19 h => ?_)
                              · skip
                                refine ite_cases h (fun c20 h => ?_) (fun c20 h => ?_)
                                · skip
                                  refine ite_cases h (fun c21 h => ?_) (fun c21 h => ?_)
                                  · skip
                                    refine ite_cases h (fun c23 h => ?_) (fun c23 h => ?_)
                                    · skip
                                      refine ite_cases h (fun c24 h => ?_) (fun c24 h => ?_)
                                      · skip
                                        cases h
                                        exact only_w6 m x0 x1 x2 x3 x4 c2 c3 c5 c6 c7 c8 c9 c10 c11 c13 c14 c15 c16 c18 c19 c20 c21 c23 c24
                                      · skip
                                        cases h
                                    · skip
                                      cases h
                                  · skip
                                    cases h
                                · skip
                                  refine ite_cases h (fun c21 h => ?_) (fun c21 h => ?_)
                                  · skip
                                    refine ite_cases h (fun c25 h => ?_) (fun c25 h => ?_)
                                    · skip
                                      cases h
                                      exact only_w7 m x0 x1 x2 x3 x4 c2 c3 c5 c6 c7 c8 c9 c10 c11 c13 c14 c15 c16 c18 c19 c20 c21 c25
                                    · skip
                                      cases h
                                  · skip
                                    cases h
                              · skip
                                cases h
                            · skip
                              cases h
                          · skip
                            cases h
                        · skip
                          cases h
                      · skip
                        cases h
                    · skip
                      cases h
                  · skip
                    cases h
                · skip
                  cases h
      · skip
        cases h
    · skip
      cases h
  · skip
    cases h
theorem only_at (x0 : List Int) (x1 : List Int) (x2 : Int) (x3 : Int) (x4 : Int) (h : ∃ m q, only m x0 x1 x2 x3 x4 = some q) : ∃ g B', CallAt Try.prog 5 g ∧ (g [(.d (.sl (.int .i64) x0)), (.d (.sl (.int .u8) x1)), (.d (.int .i64 x2)), (.d (.int .u8 x3)), (.d (.int .i64 x4))] []).run = some (.d (.bool true), B') := by
  obtain ⟨m, q, h⟩ := h
  exact ⟨_, _, evCall_atH mixed kinds hds S19 S19_ok (m + 25) 5, only_ok m x0 x1 x2 x3 x4 q h⟩

end Go.Proofs.Ytghkbjflejgieaa.Dec
namespace Go.Proofs.Ytghkbjflejgieaa.Dec
open Go.Ev
set_option linter.unusedVariables false
set_option linter.unusedSimpArgs false
set_option maxRecDepth 100000
theorem get_cases (b : List Int) : (∃ l, getG b = (l, 0) ∧ putG l = b ∧ l.length ≤ 200) ∨ getG b = ([], 1) := by
  unfold getG
  by_cases h : (readG b).2 = true ∧ putG (readG b).1 = b
  · rw [if_pos h]; exact .inl ⟨_, rfl, h.2, readG_len b⟩
  · rw [if_neg h]; exact .inr rfl
theorem only_pure (x0 x1 : List Int) (x2 x3 x4 : Int) (h1 : ∀ x ∈ x1, 0 ≤ x ∧ x ≤ 255) : ∃ m q, only m x0 x1 x2 x3 x4 = some q := by
  refine ⟨100, (), ?_⟩
  obtain ⟨vX, lX, rX⟩ := samp_right x0
  have rX0 := samp_right0 x0
  unfold only
  skip
  generalize samplesG x0 = X at *
  have tX : List.take (List.length X) (List.drop 0 X) = X := by rw [List.drop_zero, List.take_length]
  have pX := put_pos rX0
  have bX := put_bytes X (by omega)
  have a1 : decide (List.length X ≤ 1000000) = true := decide_eq_true (by omega)
  simp only [tX, a1, ↓reduceIte]
  generalize putG X = P at *
  have a2 : decide (((List.length P) * 1) ≤ 70368744177664) = true := decide_eq_true (by omega)
  have w1 : IntKind.wrap .i64 ((((List.length P) : Nat) : Int) - (1)) = ((List.length P - 1 : Nat) : Int) := by rw [wrap_id (by omega) (by omega)]; omega
  have hMX : (if ((List.length P - 1 : Nat) : Int) < (0) then (0) else ((List.length P - 1 : Nat) : Int)) = ((List.length P - 1 : Nat) : Int) := if_neg (by omega)
  have a3 : ((decide (0 ≤ ((List.length P - 1 : Nat) : Int)) && decide (((List.length P - 1 : Nat) : Int) ≤ 2305843009213693951)) && decide ((((List.length P - 1 : Nat) : Int) - (0)) ≤ 2305843009213693951)) = true := by simp; omega
  have a4 : ((((List.length P) : Nat) : Int) == (0)) = false := by rw [beq_eq_false_iff_ne]; omega
  simp only [Nat.zero_add, Nat.sub_zero, w1, hMX, a2, a3, a4, ↓reduceIte, Bool.false_eq_true]
  obtain ⟨i, hi, hil⟩ : ∃ i : Nat, withinI x2 0 ((List.length P - 1 : Nat) : Int) = ((i : Nat) : Int) ∧ i < List.length P := by
    have : 0 ≤ withinI x2 0 ((List.length P - 1 : Nat) : Int) ∧ withinI x2 0 ((List.length P - 1 : Nat) : Int) ≤ ((List.length P - 1 : Nat) : Int) := by
      have p : ((List.length P - 1 : Nat) : Int) - 0 + 1 > 0 := by omega
      have q1 := Int.emod_nonneg x2 (Int.ne_of_gt p)
      have q2 := Int.emod_lt_of_pos x2 p
      unfold withinI
      generalize x2 % (((List.length P - 1 : Nat) : Int) - 0 + 1) = y at *
      omega
    exact ⟨(withinI x2 0 ((List.length P - 1 : Nat) : Int)).toNat, by omega, by omega⟩
  rw [hi]
  have i0 : decide ((0 : Int) ≤ ((i : Nat) : Int)) = true := decide_eq_true (by omega)
  have i1 : decide (((i : Nat) : Int) < (((List.length P) : Nat) : Int)) = true := decide_eq_true (by omega)
  have i2 : decide (i < List.length P) = true := decide_eq_true hil
  have i3 : (decide ((0 : Int) ≤ ((i : Nat) : Int)) && decide (((i : Nat) : Int) ≤ (((List.length P) : Nat) : Int))) = true := by simp; omega
  have i4 : decide (i ≤ List.length P) = true := decide_eq_true (by omega)
  simp only [Int.toNat_natCast, Nat.zero_add, Nat.sub_zero]
  generalize IntKind.wrap .i64 ((((BitVec.ofInt 64 x4 &&& BitVec.ofInt 64 (3)).toNat : Nat) : Int)) = how
  by_cases k0 : how = 0
  · have d0 : (how == (0)) = true := by simp [k0]
    have hy : 0 ≤ IntKind.wrap .u8 ((((BitVec.ofInt 8 (List.getD P i 0) ^^^ BitVec.ofInt 8 x3).toNat : Nat) : Int)) ∧ IntKind.wrap .u8 ((((BitVec.ofInt 8 (List.getD P i 0) ^^^ BitVec.ofInt 8 x3).toNat : Nat) : Int)) ≤ 255 := by
      rw [wrapB]; omega
    obtain ⟨y, hyd⟩ : ∃ y, IntKind.wrap .u8 ((((BitVec.ofInt 8 (List.getD P i 0) ^^^ BitVec.ofInt 8 x3).toNat : Nat) : Int)) = y := ⟨_, rfl⟩
    rw [hyd] at hy
    have hLEN : (List.set P i y).length = List.length P := List.length_set
    have hbb : ∀ x ∈ List.set P i y, 0 ≤ x ∧ x ≤ 255 := fun x hx => by
      rcases List.mem_or_eq_of_mem_set hx with h | h
      · exact bX x h
      · rw [h]; exact hy
    have tb : List.take (List.length P) (List.drop 0 (List.set P i y)) = List.set P i y := by rw [List.drop_zero, List.take_of_length_le (by omega)]
    have e1 : decide (List.length P ≤ List.length (List.set P i y)) = true := decide_eq_true (by omega)
    obtain ⟨b, hbd⟩ : ∃ b, List.set P i y = b := ⟨_, rfl⟩
    simp only [hyd, d0, i0, i1, i2, e1, tb, ↓reduceIte]
    rw [hbd] at hLEN hbb
    simp only [hbd]
    have hF : List.drop 0 (List.take (List.length P) (broomyG b (7))) = b := by
      rw [List.drop_zero]
      unfold broomyG
      rw [List.take_left' hLEN]
    have hFl : (broomyG b (7)).length = b.length + 80 := by unfold broomyG; rw [List.length_append, List.length_replicate]
    have t1 : decide (List.length b ≤ 1000000) = true := decide_eq_true (by omega)
    have t2 : (decide (0 ≤ (((List.length P) : Nat) : Int)) && decide ((((List.length P) : Nat) : Int) ≤ (((List.length (broomyG b (7))) : Nat) : Int))) = true := by rw [hFl]; simp; omega
    have t3 : bytesOK b = true := decide_eq_true ⟨by omega, hbb⟩
    have t4 : decide (List.length (broomyG b (7)) ≤ 1000000 ∧ List.length b ≤ 1000000) = true := decide_eq_true ⟨by omega, by omega⟩
    have t5 : bintactG (broomyG b (7)) b (7) = true := decide_eq_true rfl
    obtain ⟨full, hfull⟩ : ∃ f, broomyG b (7) = f := ⟨_, rfl⟩
    rw [hfull] at hF hFl t2 t4 t5
    rcases get_cases b with ⟨l, hg, hp, hl⟩ | hg
    · have t6 : decide (List.length l ≤ 1000000) = true := decide_eq_true (by omega)
      have t7 : decide (List.length b < 4611686018427387904) = true := decide_eq_true (by omega)
      simp only [Int.toNat_natCast, hfull, hF, t1, t2, t3, t4, t5, hg, hp, t6, t7, beq_self_eq_true, ↓reduceIte, Bool.false_eq_true]
    · have z0 : ((1 : Int) == (0)) = false := rfl
      have z1 : ((((List.length ([] : List (Int × Int))) : Nat) : Int) == (0)) = true := rfl
      simp only [Int.toNat_natCast, hfull, hF, t1, t2, t3, t4, t5, hg, z0, z1, beq_self_eq_true, ↓reduceIte, Bool.false_eq_true]
  · have d0 : (how == (0)) = false := by simpa using k0
    by_cases k1 : how = 1
    · have d1 : (how == (1)) = true := by simp [k1]
      have hLEN : (List.take i P).length = i := by rw [List.length_take]; omega
      have hbb : ∀ x ∈ List.take i P, 0 ≤ x ∧ x ≤ 255 := fun x hx => bX x (List.mem_of_mem_take hx)
      have tb : List.take i (List.drop 0 P) = List.take i P := by rw [List.drop_zero]
      simp only [d0, d1, i3, i4, tb, ↓reduceIte, Bool.false_eq_true]
      obtain ⟨b, hbd⟩ : ∃ b, List.take i P = b := ⟨_, rfl⟩
      rw [hbd] at hLEN hbb
      simp only [hbd]
      have hF : List.drop 0 (List.take (i) (broomyG b (7))) = b := by
        rw [List.drop_zero]
        unfold broomyG
        rw [List.take_left' hLEN]
      have hFl : (broomyG b (7)).length = b.length + 80 := by unfold broomyG; rw [List.length_append, List.length_replicate]
      have t1 : decide (List.length b ≤ 1000000) = true := decide_eq_true (by omega)
      have t2 : (decide (0 ≤ (((i) : Nat) : Int)) && decide ((((i) : Nat) : Int) ≤ (((List.length (broomyG b (7))) : Nat) : Int))) = true := by rw [hFl]; simp; omega
      have t3 : bytesOK b = true := decide_eq_true ⟨by omega, hbb⟩
      have t4 : decide (List.length (broomyG b (7)) ≤ 1000000 ∧ List.length b ≤ 1000000) = true := decide_eq_true ⟨by omega, by omega⟩
      have t5 : bintactG (broomyG b (7)) b (7) = true := decide_eq_true rfl
      obtain ⟨full, hfull⟩ : ∃ f, broomyG b (7) = f := ⟨_, rfl⟩
      rw [hfull] at hF hFl t2 t4 t5
      rcases get_cases b with ⟨l, hg, hp, hl⟩ | hg
      · have t6 : decide (List.length l ≤ 1000000) = true := decide_eq_true (by omega)
        have t7 : decide (List.length b < 4611686018427387904) = true := decide_eq_true (by omega)
        simp only [Int.toNat_natCast, hfull, hF, t1, t2, t3, t4, t5, hg, hp, t6, t7, beq_self_eq_true, ↓reduceIte, Bool.false_eq_true]
      · have z0 : ((1 : Int) == (0)) = false := rfl
        have z1 : ((((List.length ([] : List (Int × Int))) : Nat) : Int) == (0)) = true := rfl
        simp only [Int.toNat_natCast, hfull, hF, t1, t2, t3, t4, t5, hg, z0, z1, beq_self_eq_true, ↓reduceIte, Bool.false_eq_true]
    · have d1 : (how == (1)) = false := by simpa using k1
      by_cases k2 : how = 2
      · have d2 : (how == (2)) = true := by simp [k2]
        have c0 : (decide (0 ≤ (if (10) < (((List.length x1) : Nat) : Int) then (10) else (((List.length x1) : Nat) : Int))) && decide ((if (10) < (((List.length x1) : Nat) : Int) then (10) else (((List.length x1) : Nat) : Int)) ≤ (((List.length x1) : Nat) : Int))) = true := by
          split <;> simp <;> omega
        have hR : List.drop 0 (List.take (Int.toNat (if (10) < (((List.length x1) : Nat) : Int) then (10) else (((List.length x1) : Nat) : Int))) x1) = x1.take 10 := by
          rw [List.drop_zero]
          split
          · rfl
          · rw [Int.toNat_natCast, List.take_length, List.take_of_length_le (by omega)]
        have hRl : (x1.take 10).length ≤ 10 := by rw [List.length_take]; omega
        have hRb : ∀ x ∈ x1.take 10, 0 ≤ x ∧ x ≤ 255 := fun x hx => h1 x (List.mem_of_mem_take hx)
        simp only [d0, d1, d2, c0, hR, ↓reduceIte, Bool.false_eq_true]
        obtain ⟨R, hRd⟩ : ∃ R, x1.take 10 = R := ⟨_, rfl⟩
        rw [hRd] at hRl hRb
        simp only [hRd]
        have hLEN : (P ++ R).length = List.length P + List.length R := List.length_append
        have hbb : ∀ x ∈ P ++ R, 0 ≤ x ∧ x ≤ 255 := fun x hx => by
          rcases List.mem_append.1 hx with h | h
          · exact bX x h
          · exact hRb x h
        have tb : List.take (List.length P + List.length R) (List.drop 0 (P ++ R)) = P ++ R := by rw [List.drop_zero, List.take_of_length_le (by omega)]
        have e1 : decide (((List.length P + List.length R) * 1) ≤ 70368744177664) = true := decide_eq_true (by omega)
        have e2 : decide ((List.length P) = (List.length P)) = true := decide_eq_true rfl
        have e3 : decide (List.length P + List.length R ≤ List.length (P ++ R)) = true := decide_eq_true (by omega)
        simp only [e1, e2, e3, tb, decide_true, ↓reduceIte]
        obtain ⟨b, hbd⟩ : ∃ b, P ++ R = b := ⟨_, rfl⟩
        rw [hbd] at hLEN hbb
        simp only [hbd]
        have hF : List.drop 0 (List.take (List.length P + List.length R) (broomyG b (7))) = b := by
          rw [List.drop_zero]
          unfold broomyG
          rw [List.take_left' hLEN]
        have hFl : (broomyG b (7)).length = b.length + 80 := by unfold broomyG; rw [List.length_append, List.length_replicate]
        have t1 : decide (List.length b ≤ 1000000) = true := decide_eq_true (by omega)
        have t2 : (decide (0 ≤ (((List.length P + List.length R) : Nat) : Int)) && decide ((((List.length P + List.length R) : Nat) : Int) ≤ (((List.length (broomyG b (7))) : Nat) : Int))) = true := by rw [hFl]; simp; omega
        have t3 : bytesOK b = true := decide_eq_true ⟨by omega, hbb⟩
        have t4 : decide (List.length (broomyG b (7)) ≤ 1000000 ∧ List.length b ≤ 1000000) = true := decide_eq_true ⟨by omega, by omega⟩
        have t5 : bintactG (broomyG b (7)) b (7) = true := decide_eq_true rfl
        obtain ⟨full, hfull⟩ : ∃ f, broomyG b (7) = f := ⟨_, rfl⟩
        rw [hfull] at hF hFl t2 t4 t5
        rcases get_cases b with ⟨l, hg, hp, hl⟩ | hg
        · have t6 : decide (List.length l ≤ 1000000) = true := decide_eq_true (by omega)
          have t7 : decide (List.length b < 4611686018427387904) = true := decide_eq_true (by omega)
          simp only [decide_true, Int.toNat_natCast, hfull, hF, t1, t2, t3, t4, t5, hg, hp, t6, t7, beq_self_eq_true, ↓reduceIte, Bool.false_eq_true]
        · have z0 : ((1 : Int) == (0)) = false := rfl
          have z1 : ((((List.length ([] : List (Int × Int))) : Nat) : Int) == (0)) = true := rfl
          simp only [decide_true, Int.toNat_natCast, hfull, hF, t1, t2, t3, t4, t5, hg, z0, z1, beq_self_eq_true, ↓reduceIte, Bool.false_eq_true]
      · have d2 : (how == (2)) = false := by simpa using k2
        have c0 : (decide (0 ≤ (if (40) < (((List.length x1) : Nat) : Int) then (40) else (((List.length x1) : Nat) : Int))) && decide ((if (40) < (((List.length x1) : Nat) : Int) then (40) else (((List.length x1) : Nat) : Int)) ≤ (((List.length x1) : Nat) : Int))) = true := by
          split <;> simp <;> omega
        have hR : List.drop 0 (List.take (Int.toNat (if (40) < (((List.length x1) : Nat) : Int) then (40) else (((List.length x1) : Nat) : Int))) x1) = x1.take 40 := by
          rw [List.drop_zero]
          split
          · rfl
          · rw [Int.toNat_natCast, List.take_length, List.take_of_length_le (by omega)]
        have hRl : (x1.take 40).length ≤ 40 := by rw [List.length_take]; omega
        have hbb : ∀ x ∈ x1.take 40, 0 ≤ x ∧ x ≤ 255 := fun x hx => h1 x (List.mem_of_mem_take hx)
        simp only [d0, d1, d2, c0, hR, ↓reduceIte, Bool.false_eq_true]
        obtain ⟨b, hbd⟩ : ∃ b, x1.take 40 = b := ⟨_, rfl⟩
        rw [hbd] at hRl hbb
        simp only [hbd]
        have hLEN : b.length = List.length b := rfl
        have tb : List.take (List.length b) (List.drop 0 b) = b := by rw [List.drop_zero, List.take_length]
        have e1 : decide (((List.length b) * 1) ≤ 70368744177664) = true := decide_eq_true (by omega)
        have e3 : decide (List.length b ≤ List.length b) = true := decide_eq_true (Nat.le_refl _)
        simp only [e1, e3, tb, ↓reduceIte]
        have hF : List.drop 0 (List.take (List.length b) (broomyG b (7))) = b := by
          rw [List.drop_zero]
          unfold broomyG
          rw [List.take_left' hLEN]
        have hFl : (broomyG b (7)).length = b.length + 80 := by unfold broomyG; rw [List.length_append, List.length_replicate]
        have t1 : decide (List.length b ≤ 1000000) = true := decide_eq_true (by omega)
        have t2 : (decide (0 ≤ (((List.length b) : Nat) : Int)) && decide ((((List.length b) : Nat) : Int) ≤ (((List.length (broomyG b (7))) : Nat) : Int))) = true := by rw [hFl]; simp; omega
        have t3 : bytesOK b = true := decide_eq_true ⟨by omega, hbb⟩
        have t4 : decide (List.length (broomyG b (7)) ≤ 1000000 ∧ List.length b ≤ 1000000) = true := decide_eq_true ⟨by omega, by omega⟩
        have t5 : bintactG (broomyG b (7)) b (7) = true := decide_eq_true rfl
        obtain ⟨full, hfull⟩ : ∃ f, broomyG b (7) = f := ⟨_, rfl⟩
        rw [hfull] at hF hFl t2 t4 t5
        rcases get_cases b with ⟨l, hg, hp, hl⟩ | hg
        · have t6 : decide (List.length l ≤ 1000000) = true := decide_eq_true (by omega)
          have t7 : decide (List.length b < 4611686018427387904) = true := decide_eq_true (by omega)
          simp only [Int.toNat_natCast, hfull, hF, t1, t2, t3, t4, t5, hg, hp, t6, t7, beq_self_eq_true, ↓reduceIte, Bool.false_eq_true]
        · have z0 : ((1 : Int) == (0)) = false := rfl
          have z1 : ((((List.length ([] : List (Int × Int))) : Nat) : Int) == (0)) = true := rfl
          simp only [Int.toNat_natCast, hfull, hF, t1, t2, t3, t4, t5, hg, z0, z1, beq_self_eq_true, ↓reduceIte, Bool.false_eq_true]
theorem only_law (x0 x1 : List Int) (x2 x3 x4 : Int) (_ : Ty.ok (.sl (.int .i64)) x0) (ok1 : Ty.ok (.sl (.int .u8)) x1) (_ : Ty.ok (.int .i64) x2) (_ : Ty.ok (.int .u8) x3) (_ : Ty.ok (.int .i64) x4) : ∃ g B', CallAt Try.prog 5 g ∧ (g [argAV false (.sl (.int .i64)) x0, argAV false (.sl (.int .u8)) x1, argAV false (.int .i64) x2, argAV false (.int .u8) x3, argAV false (.int .i64) x4] []).run = some (.d (.bool true), B') := only_at x0 x1 x2 x3 x4 (only_pure x0 x1 x2 x3 x4 fun x hx => byte_of_ok (ok1.2 x hx))

end Go.Proofs.Ytghkbjflejgieaa.Dec
