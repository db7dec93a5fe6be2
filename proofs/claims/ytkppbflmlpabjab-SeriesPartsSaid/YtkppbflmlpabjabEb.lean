/- klaxonkeep.Samples. -/
import Derived.Test.YtkppbflmlpabjabEa
import Derived.KernelRfl
namespace Go.Proofs.Ytkppbflmlpabjab.Dec
open Go.Ev
set_option linter.unusedVariables false
set_option linter.unusedSimpArgs false
set_option maxRecDepth 100000
noncomputable def fn31 : AFn := (F 31).getD ⟨0, [], .bad, false, false, noHd⟩
noncomputable def body31 : AC := fn31.body
def l31_0 (m : Nat) : Nat → List Int → Int → Int → List (Int × Int) → Option (Nat × Int × Int × (List (Int × Int)))
  | 0, _, _, _, _ => none
  | n + 1, x0, s4, s5, b0 => if decide (s5 < (((List.length x0) : Nat) : Int)) = true then
      if decide (s5 < 20) = true then
        if decide (0 ≤ s5) = true then
          if decide ((((List.length b0) + 1) * 16) ≤ 70368744177664) = true then
            l31_0 m n x0 ((IntKind.wrap .i64 (s4 + (withinI (List.getD x0 (Int.toNat s5) 0) (1) (12))))) ((IntKind.wrap .i64 (s5 + (1)))) ((b0 ++ [((IntKind.wrap .i64 (s4 + (withinI (List.getD x0 (Int.toNat s5) 0) (1) (12)))), (withinI (IntKind.wrap .i64 (Int.tdiv (List.getD x0 (Int.toNat s5) 0) (12))) (-4) (9)))]))
          else
            none
        else
          none
      else
        some (0, s4, s5, b0)
    else
      some (1, s4, s5, b0)
def l31_0D : Nat × Int × Int × (List (Int × Int)) := (0, 0, 0, [])
@[reducible] def l31_0R (m n : Nat) (x0 : List Int) (s4 : Int) (s5 : Int) (b0 : List (Int × Int)) : Nat × Int × Int × (List (Int × Int)) := Option.getD (l31_0 m n x0 s4 s5 b0) l31_0D
def l31_0H (x0 : List Int) (s4 : Int) (s5 : Int) (b0 : List (Int × Int)) : Env := [(.d (.sl (.int .i64) x0)), .top, .top, (.sr 0 0 (List.length b0) 2 none), (.d (.int .i64 s4)), (.d (.int .i64 s5)), .top, .top, .top, .top, .top, .top, .top, .top, .top, .top, .top, .top, .top, .top, .top, .top, .top, .top, .top, .top, .top, .top, .top, .top, .top, .top, .top, .top, .top]
def l31_0B (x0 : List Int) (s4 : Int) (s5 : Int) (b0 : List (Int × Int)) : Boxes := [(.arr (.pair (.int .i64) (.int .i64)) b0 true)]
def l31_0E (x0 : List Int) (s4 : Int) (s5 : Int) (b0 : List (Int × Int)) : Nat → AEx × Env × Boxes
  | 0 => (.exit 0, [(.d (.sl (.int .i64) x0)), .top, .top, (.sr 0 0 (List.length b0) 2 none), (.d (.int .i64 s4)), (.d (.int .i64 s5)), (.d (.int .i64 s5)), (.d (.sl (.int .i64) x0)), (.d (.int .i64 (((List.length x0) : Nat) : Int))), (.d (.bool (decide (s5 < (((List.length x0) : Nat) : Int))))), (.d (.bool (decide (s5 < (((List.length x0) : Nat) : Int))))), (.d (.int .i64 s5)), (.d (.bool (decide (s5 < 20)))), (.d (.bool (decide (s5 < 20)))), .top, .top, .top, .top, .top, .top, .top, .top, .top, .top, .top, .top, .top, .top, .top, .top, .top, .top, .top, .top, .top], [(.arr (.pair (.int .i64) (.int .i64)) b0 true)])
  | _ => (.exit 0, [(.d (.sl (.int .i64) x0)), .top, .top, (.sr 0 0 (List.length b0) 2 none), (.d (.int .i64 s4)), (.d (.int .i64 s5)), (.d (.int .i64 s5)), (.d (.sl (.int .i64) x0)), (.d (.int .i64 (((List.length x0) : Nat) : Int))), (.d (.bool (decide (s5 < (((List.length x0) : Nat) : Int))))), (.d (.bool (decide (s5 < (((List.length x0) : Nat) : Int))))), (.tup []), (.tup []), (.d (.bool false)), .top, .top, .top, .top, .top, .top, .top, .top, .top, .top, .top, .top, .top, .top, .top, .top, .top, .top, .top, .top, .top], [(.arr (.pair (.int .i64) (.int .i64)) b0 true)])
noncomputable def lbl31_0 : AC := loopBody 57 body31

set_option maxHeartbeats 20000000 in
theorem l31_0_w0 (m n : Nat) (x0 : List Int) (s4 : Int) (s5 : Int) (b0 : List (Int × Int)) (r : AEx × Env × Boxes) (c0 : decide (s5 < (((List.length x0) : Nat) : Int)) = true) (c3 : decide (s5 < 20) = true) (c4 : decide (0 ≤ s5) = true) (c12 : decide ((((List.length b0) + 1) * 16) ≤ 70368744177664) = true) (ih : (turns (hds 31 57) 0 57 (evC byref (evCall F S2 (m + 24)) (m + 24) 0 (hds 31) lbl31_0) n (l31_0H x0 ((IntKind.wrap .i64 (s4 + (withinI (List.getD x0 (Int.toNat s5) 0) (1) (12))))) ((IntKind.wrap .i64 (s5 + (1)))) ((b0 ++ [((IntKind.wrap .i64 (s4 + (withinI (List.getD x0 (Int.toNat s5) 0) (1) (12)))), (withinI (IntKind.wrap .i64 (Int.tdiv (List.getD x0 (Int.toNat s5) 0) (12))) (-4) (9)))]))) (l31_0B x0 ((IntKind.wrap .i64 (s4 + (withinI (List.getD x0 (Int.toNat s5) 0) (1) (12))))) ((IntKind.wrap .i64 (s5 + (1)))) ((b0 ++ [((IntKind.wrap .i64 (s4 + (withinI (List.getD x0 (Int.toNat s5) 0) (1) (12)))), (withinI (IntKind.wrap .i64 (Int.tdiv (List.getD x0 (Int.toNat s5) 0) (12))) (-4) (9)))])))).run = some r) : (turns (hds 31 57) 0 57 (evC byref (evCall F S2 (m + 24)) (m + 24) 0 (hds 31) lbl31_0) (n + 1) (l31_0H x0 s4 s5 b0) (l31_0B x0 s4 s5 b0)).run = some r := by
  have ht : (turn (hds 31 57) 0 57 (evC byref (evCall F S2 (m + 24)) (m + 24) 0 (hds 31) lbl31_0) (l31_0H x0 s4 s5 b0) (l31_0B x0 s4 s5 b0)).run = some (.normal, [(.d (.sl (.int .i64) x0)), .top, .top, (.sr 0 0 ((List.length b0) + 1) 2 none), (.d (.int .i64 (IntKind.wrap .i64 (s4 + (withinI (List.getD x0 (Int.toNat s5) 0) (1) (12)))))), (.d (.int .i64 (IntKind.wrap .i64 (s5 + (1))))), .top, .top, .top, .top, .top, .top, .top, .top, .top, .top, .top, .top, .top, .top, .top, .top, .top, .top, .top, .top, .top, .top, .top, .top, .top, .top, .top, .top, .top], [(.arr (.pair (.int .i64) (.int .i64)) (b0 ++ [((IntKind.wrap .i64 (s4 + (withinI (List.getD x0 (Int.toNat s5) 0) (1) (12)))), (withinI (IntKind.wrap .i64 (Int.tdiv (List.getD x0 (Int.toNat s5) 0) (12))) (-4) (9)))]) true)]) := M.run_of_path _ [true, true, true, true, true, true, true, true, true, true, true, true, true, true] _ _ (by kernel_rfl) (all_t c0 (all_t c0 (all_t c0 (all_t c3 (all_t c4 (all_t c0 (all_t rfl (all_t c4 (all_t c0 (all_t rfl (all_t rfl (all_t rfl (all_t c12 (all_t (show decide ((List.length b0) = (List.length b0)) = true from decide_eq_true rfl) all_nil))))))))))))))
  refine turns_step ht (turns_eq ?_ ?_ ih)
  · unfold l31_0H
    simp
  · unfold l31_0B
    simp
set_option maxHeartbeats 20000000 in
theorem l31_0_w1 (m n : Nat) (x0 : List Int) (s4 : Int) (s5 : Int) (b0 : List (Int × Int)) (c0 : decide (s5 < (((List.length x0) : Nat) : Int)) = true) (c3 : ¬ decide (s5 < 20) = true) : (turns (hds 31 57) 0 57 (evC byref (evCall F S2 (m + 24)) (m + 24) 0 (hds 31) lbl31_0) (n + 1) (l31_0H x0 s4 s5 b0) (l31_0B x0 s4 s5 b0)).run = some (.exit 0, [(.d (.sl (.int .i64) x0)), .top, .top, (.sr 0 0 (List.length b0) 2 none), (.d (.int .i64 s4)), (.d (.int .i64 s5)), (.d (.int .i64 s5)), (.d (.sl (.int .i64) x0)), (.d (.int .i64 (((List.length x0) : Nat) : Int))), (.d (.bool (decide (s5 < (((List.length x0) : Nat) : Int))))), (.d (.bool (decide (s5 < (((List.length x0) : Nat) : Int))))), (.d (.int .i64 s5)), (.d (.bool (decide (s5 < 20)))), (.d (.bool (decide (s5 < 20)))), .top, .top, .top, .top, .top, .top, .top, .top, .top, .top, .top, .top, .top, .top, .top, .top, .top, .top, .top, .top, .top], [(.arr (.pair (.int .i64) (.int .i64)) b0 true)]) := by
  exact turns_last (by simp) (M.run_of_path _ [true, true, true, false] _ _ (by kernel_rfl) (all_t c0 (all_t c0 (all_t c0 (all_f c3 all_nil))))) 
set_option maxHeartbeats 20000000 in
theorem l31_0_w2 (m n : Nat) (x0 : List Int) (s4 : Int) (s5 : Int) (b0 : List (Int × Int)) (c0 : ¬ decide (s5 < (((List.length x0) : Nat) : Int)) = true) : (turns (hds 31 57) 0 57 (evC byref (evCall F S2 (m + 24)) (m + 24) 0 (hds 31) lbl31_0) (n + 1) (l31_0H x0 s4 s5 b0) (l31_0B x0 s4 s5 b0)).run = some (.exit 0, [(.d (.sl (.int .i64) x0)), .top, .top, (.sr 0 0 (List.length b0) 2 none), (.d (.int .i64 s4)), (.d (.int .i64 s5)), (.d (.int .i64 s5)), (.d (.sl (.int .i64) x0)), (.d (.int .i64 (((List.length x0) : Nat) : Int))), (.d (.bool (decide (s5 < (((List.length x0) : Nat) : Int))))), (.d (.bool (decide (s5 < (((List.length x0) : Nat) : Int))))), (.tup []), (.tup []), (.d (.bool false)), .top, .top, .top, .top, .top, .top, .top, .top, .top, .top, .top, .top, .top, .top, .top, .top, .top, .top, .top, .top, .top], [(.arr (.pair (.int .i64) (.int .i64)) b0 true)]) := by
  exact turns_last (by simp) (M.run_of_path _ [false, false, false, false] _ _ (by kernel_rfl) (all_f c0 (all_f c0 (all_f c0 (all_f Bool.false_ne_true all_nil))))) 

set_option maxHeartbeats 20000000 in
theorem l31_0_step (m n : Nat) (ih : ∀ (x0 : List Int) (s4 : Int) (s5 : Int) (b0 : List (Int × Int)) (q : Nat × Int × Int × (List (Int × Int))), l31_0 m n x0 s4 s5 b0 = some q → (turns (hds 31 57) 0 57 (evC byref (evCall F S2 (m + 24)) (m + 24) 0 (hds 31) lbl31_0) n (l31_0H x0 s4 s5 b0) (l31_0B x0 s4 s5 b0)).run = some (l31_0E (x0) (q.2.1) (q.2.2.1) (q.2.2.2) q.1)) (x0 : List Int) (s4 : Int) (s5 : Int) (b0 : List (Int × Int)) (q : Nat × Int × Int × (List (Int × Int))) (h : l31_0 m (n + 1) x0 s4 s5 b0 = some q) : (turns (hds 31 57) 0 57 (evC byref (evCall F S2 (m + 24)) (m + 24) 0 (hds 31) lbl31_0) (n + 1) (l31_0H x0 s4 s5 b0) (l31_0B x0 s4 s5 b0)).run = some (l31_0E (x0) (q.2.1) (q.2.2.1) (q.2.2.2) q.1) := by
  rw [l31_0] at h
  refine ite_cases h (fun c0 h => ?_) (fun c0 h => ?_)
  · skip
    refine ite_cases h (fun c3 h => ?_) (fun c3 h => ?_)
    · skip
      refine ite_cases h (fun c4 h => ?_) (fun c4 h => ?_)
      · skip
        refine ite_cases h (fun c12 h => ?_) (fun c12 h => ?_)
        · skip
          exact l31_0_w0 m n x0 s4 s5 b0 _ c0 c3 c4 c12 (ih _ _ _ _ q h)
        · skip
          cases h
      · skip
        cases h
    · skip
      cases h
      exact l31_0_w1 m n x0 s4 s5 b0 c0 c3
  · skip
    cases h
    exact l31_0_w2 m n x0 s4 s5 b0 c0
set_option maxHeartbeats 20000000 in
theorem l31_0_ok (m : Nat) : ∀ (n : Nat) (x0 : List Int) (s4 : Int) (s5 : Int) (b0 : List (Int × Int)) (q : Nat × Int × Int × (List (Int × Int))), l31_0 m n x0 s4 s5 b0 = some q → (turns (hds 31 57) 0 57 (evC byref (evCall F S2 (m + 24)) (m + 24) 0 (hds 31) lbl31_0) n (l31_0H x0 s4 s5 b0) (l31_0B x0 s4 s5 b0)).run = some (l31_0E (x0) (q.2.1) (q.2.2.1) (q.2.2.2) q.1)
  | 0, x0, s4, s5, b0, q, h => by cases h
  | n + 1, x0, s4, s5, b0, q, h => l31_0_step m n (l31_0_ok m n) x0 s4 s5 b0 q h

def p31 (m : Nat) (x0 : List Int) : Option ((List (Int × Int))) :=
  if (Option.isSome (l31_0 m (m + 24) x0 0 0 (([] : List (Int × Int))))) = true then
    if ((l31_0R m (m + 24) x0 0 0 (([] : List (Int × Int)))).1 == 0) = true then
      some ((List.take (List.length (l31_0R m (m + 24) x0 0 0 (([] : List (Int × Int)))).2.2.2) (List.drop 0 (l31_0R m (m + 24) x0 0 0 (([] : List (Int × Int)))).2.2.2)))
    else
      if ((l31_0R m (m + 24) x0 0 0 (([] : List (Int × Int)))).1 == 1) = true then
        some ((List.take (List.length (l31_0R m (m + 24) x0 0 0 (([] : List (Int × Int)))).2.2.2) (List.drop 0 (l31_0R m (m + 24) x0 0 0 (([] : List (Int × Int)))).2.2.2)))
      else
        none
  else
    none
set_option maxHeartbeats 20000000 in
theorem p31_ok (m : Nat) (x0 : List Int) (q : (List (Int × Int))) (h : p31 m x0 = some q) : ∃ r B1, (evCall F S2 (m + 25) 31 [(.d (.sl (.int .i64) x0))] []).run = some (r, B1) ∧ 0 ≤ B1.length ∧ wkR B1 [] r (.d (.sl (.pair (.int .i64) (.int .i64)) q)) ∧ wkBs B1 [] 0 [] := by
  unfold p31 at h
  refine ite_cases h (fun c0 h => ?_) (fun c0 h => ?_)
  · skip
    refine ite_cases h (fun c1 h => ?_) (fun c1 h => ?_)
    · skip
      cases h
      refine ⟨(.d (.sl (.pair (.int .i64) (.int .i64)) (List.take (List.length (l31_0R m (m + 24) x0 0 0 (([] : List (Int × Int)))).2.2.2) (List.drop 0 (l31_0R m (m + 24) x0 0 0 (([] : List (Int × Int)))).2.2.2)))), [], runT_ok (LS := (fun k => if k = 57 then some (l31_0E x0 ((l31_0R m (m + 24) x0 0 0 (([] : List (Int × Int)))).2.1) ((l31_0R m (m + 24) x0 0 0 (([] : List (Int × Int)))).2.2.1) ((l31_0R m (m + 24) x0 0 0 (([] : List (Int × Int)))).2.2.2) 0) else none)) (fn := fn31) (vis := [(57, l31_0H x0 0 0 (([] : List (Int × Int))), l31_0B x0 0 0 (([] : List (Int × Int))))]) (by kernel_rfl) rfl (by kernel_rfl) (M.run_of_path _ [true] _ _ (by kernel_rfl) (all_t (show decide ((0 + (List.length (l31_0R m (m + 24) x0 0 0 (([] : List (Int × Int)))).2.2.2)) ≤ (List.length (l31_0R m (m + 24) x0 0 0 (([] : List (Int × Int)))).2.2.2)) = true from decide_eq_true (Nat.le_of_eq (Nat.zero_add _))) all_nil)) ?_, by simp, (wkR.one (wkV.one (wk1.eq rfl))), trivial⟩
      intro p hp p2 hq
      rcases List.mem_cons.1 hp with rfl | hp
      · skip
        have h3 := l31_0_ok m (m + 24) x0 0 0 (([] : List (Int × Int))) _ (some_getD (d := l31_0D) c0)
        rw [eq_of_beq c1] at h3
        exact Eq.trans (Eq.mp (by kernel_rfl) h3) hq
      cases hp
    · skip
      refine ite_cases h (fun c2 h => ?_) (fun c2 h => ?_)
      · skip
        cases h
        refine ⟨(.d (.sl (.pair (.int .i64) (.int .i64)) (List.take (List.length (l31_0R m (m + 24) x0 0 0 (([] : List (Int × Int)))).2.2.2) (List.drop 0 (l31_0R m (m + 24) x0 0 0 (([] : List (Int × Int)))).2.2.2)))), [], runT_ok (LS := (fun k => if k = 57 then some (l31_0E x0 ((l31_0R m (m + 24) x0 0 0 (([] : List (Int × Int)))).2.1) ((l31_0R m (m + 24) x0 0 0 (([] : List (Int × Int)))).2.2.1) ((l31_0R m (m + 24) x0 0 0 (([] : List (Int × Int)))).2.2.2) 1) else none)) (fn := fn31) (vis := [(57, l31_0H x0 0 0 (([] : List (Int × Int))), l31_0B x0 0 0 (([] : List (Int × Int))))]) (by kernel_rfl) rfl (by kernel_rfl) (M.run_of_path _ [true] _ _ (by kernel_rfl) (all_t (show decide ((0 + (List.length (l31_0R m (m + 24) x0 0 0 (([] : List (Int × Int)))).2.2.2)) ≤ (List.length (l31_0R m (m + 24) x0 0 0 (([] : List (Int × Int)))).2.2.2)) = true from decide_eq_true (Nat.le_of_eq (Nat.zero_add _))) all_nil)) ?_, by simp, (wkR.one (wkV.one (wk1.eq rfl))), trivial⟩
        intro p hp p2 hq
        rcases List.mem_cons.1 hp with rfl | hp
        · skip
          have h3 := l31_0_ok m (m + 24) x0 0 0 (([] : List (Int × Int))) _ (some_getD (d := l31_0D) c0)
          rw [eq_of_beq c2] at h3
          exact Eq.trans (Eq.mp (by kernel_rfl) h3) hq
        cases hp
      · skip
        cases h
  · skip
    cases h

abbrev SL := List (Int × Int)
def sampGo (t : Int) : List Int → SL
  | [] => []
  | k :: ks => (t + withinI k 1 12, withinI (IntKind.wrap .i64 (Int.tdiv k 12)) (-4) 9) :: sampGo (t + withinI k 1 12) ks
/-- Samples of numbers. -/
def samplesG (l : List Int) : SL := sampGo 0 (l.take 20)
theorem within_1_12 (k : Int) : 1 ≤ withinI k 1 12 ∧ withinI k 1 12 ≤ 12 := by unfold withinI; omega
theorem samp_loop (m : Nat) (x0 : List Int) : ∀ (n i : Nat) (t : Int) (acc : SL), i ≤ x0.length → i ≤ 20 → 0 ≤ t → t ≤ 12 * (i : Nat) → acc.length = i → 20 - i < n →
    ∃ e t' i', l31_0 m n x0 t (i : Nat) acc = some (e, t', i', acc ++ sampGo t ((x0.take 20).drop i)) ∧ (e = 0 ∨ e = 1)
  | 0, i, t, acc, _, _, _, _, _, h => by omega
  | n + 1, i, t, acc, h1, h2, h3, h4, h5, h6 => by
    rw [l31_0]
    by_cases hi : i < x0.length
    · have e1 : decide (((i : Nat) : Int) < (((List.length x0) : Nat) : Int)) = true := decide_eq_true (by omega)
      by_cases hj : i < 20
      · have e2 : decide (((i : Nat) : Int) < 20) = true := decide_eq_true (by omega)
        have e3 : decide ((0 : Int) ≤ ((i : Nat) : Int)) = true := decide_eq_true (by omega)
        have e4 : decide ((((List.length acc) + 1) * 16) ≤ 70368744177664) = true := decide_eq_true (by omega)
        have e5 : decide ((List.length acc) = (List.length acc)) = true := decide_eq_true rfl
        have hw := within_1_12 (List.getD x0 i 0)
        have e6 : IntKind.wrap .i64 (t + withinI (List.getD x0 i 0) (1) (12)) = t + withinI (List.getD x0 i 0) (1) (12) := wrap_id (by omega) (by omega)
        have e7 : IntKind.wrap .i64 (((i : Nat) : Int) + (1)) = ((i + 1 : Nat) : Int) := by rw [wrap_id (by omega) (by omega)]; rfl
        simp only [e1, e2, e3, e4, e5, Int.toNat_natCast, e6, e7, ↓reduceIte]
        obtain ⟨e, t', i', hr, he⟩ := samp_loop m x0 n (i + 1) (t + withinI (List.getD x0 i 0) 1 12) (acc ++ [(t + withinI (List.getD x0 i 0) 1 12, withinI (IntKind.wrap .i64 (Int.tdiv (List.getD x0 i 0) 12)) (-4) 9)]) (by omega) (by omega) (by omega) (by omega) (by simp [h5]) (by omega)
        refine ⟨e, t', i', ?_, he⟩
        rw [hr]
        have hd : (x0.take 20).drop i = List.getD x0 i 0 :: (x0.take 20).drop (i + 1) := by
          rw [drop_getD (x0.take 20) i 0 (by rw [List.length_take]; omega)]
          congr 1
          rw [List.getD_eq_getElem?_getD, List.getD_eq_getElem?_getD, List.getElem?_take_of_lt hj]
        rw [hd]
        simp [sampGo]
      · have e2 : decide (((i : Nat) : Int) < 20) = false := decide_eq_false (by omega)
        simp only [e1, e2, ↓reduceIte, Bool.false_eq_true]
        refine ⟨0, t, (i : Nat), ?_, .inl rfl⟩
        have : i = 20 := by omega
        rw [List.drop_eq_nil_of_le (by rw [List.length_take]; omega)]
        simp [sampGo]
    · have e1 : decide (((i : Nat) : Int) < (((List.length x0) : Nat) : Int)) = false := decide_eq_false (by omega)
      simp only [e1, ↓reduceIte, Bool.false_eq_true]
      refine ⟨1, t, (i : Nat), ?_, .inr rfl⟩
      rw [List.drop_eq_nil_of_le (by rw [List.length_take]; omega)]
      simp [sampGo]
theorem samples31 (l : List Int) (_ : true = true) : ∃ m, p31 m l = some (samplesG l) := by
  refine ⟨0, ?_⟩
  obtain ⟨e, t', i', hr, he⟩ := samp_loop 0 l 24 0 0 [] (by omega) (by omega) (by omega) (by omega) rfl (by omega)
  simp only [Int.natCast_zero, List.drop_zero, List.nil_append] at hr
  unfold p31 l31_0R
  rw [hr]
  have h1 : decide (0 + List.length (sampGo 0 (l.take 20)) ≤ List.length (sampGo 0 (l.take 20))) = true := decide_eq_true (by omega)
  rcases he with rfl | rfl <;> simp [samplesG]
def s31 : List AV → Boxes → M (AV × Boxes) := normS [.val (.sl (.int .i64))] [] fun xs B => match xs, B with
  | [(.d (.sl (.int .i64) c1))], [] => .chk (true) (.ret ((.d (.sl (.pair (.int .i64) (.int .i64)) (samplesG c1))), []))
  | _, _ => .fail
theorem s31_at : CallAt Try.prog 31 s31 := by
  refine CallAt.norm (CallAt.weakE (g := fun n => evCall F S2 n 31) (fun n => evCall_atH mixed kinds hds S2 S2_ok n 31) fun xs B r' B' hr => ?_) _ _
  split at hr
  · rename_i c1
    obtain ⟨hp, hr⟩ := (M.run_chk _ _ _).1 hr
    simp only [M.run, Option.some.injEq, Prod.mk.injEq] at hr
    obtain ⟨rfl, rfl⟩ := hr
    obtain ⟨m, hm⟩ := samples31 c1 hp
    obtain ⟨r, B1, h1, h2, h3, h4⟩ := p31_ok m c1 _ hm
    exact ⟨m + 25, r, B1, h1, by simp, h2, h3, h4⟩
  · simp [M.run] at hr
noncomputable def S3 : FuncId → Option (List AV → Boxes → M (AV × Boxes)) := fun f => if f = 31 then some s31 else S2 f
set_option maxHeartbeats 20000000 in
theorem S3_ok : ∀ f s, S3 f = some s → CallAt Try.prog f s := by
  intro f s h
  unfold S3 at h
  split at h
  · rename_i e; subst e; cases h; exact s31_at
  · exact S2_ok f s h

end Go.Proofs.Ytkppbflmlpabjab.Dec
