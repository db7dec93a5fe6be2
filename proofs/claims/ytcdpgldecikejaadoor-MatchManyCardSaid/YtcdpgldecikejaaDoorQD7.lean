/- Same of matchers. MatchMany, as a plain function. MatchMany: its plain law. -/
import Derived.Test.YtcdpgldecikejaaDoorQD6
import Derived.KernelRfl
namespace Go.Proofs.YtcdpgldecikejaaDoor.Dec
open Go.Ev
set_option linter.unusedVariables false
set_option linter.unusedSimpArgs false
set_option maxRecDepth 100000
noncomputable def fn34 : AFn := (F 34).getD ⟨0, [], .bad, false, false, noHd⟩
noncomputable def body34 : AC := fn34.body
def l34_0 (m : Nat) : Nat → List ((List UInt8) × (List UInt8) × Int) → List ((List UInt8) × (List UInt8) × Int) → Int → Option (Nat × Int)
  | 0, _, _, _ => none
  | n + 1, x0, x1, s5 => if decide (s5 < (((List.length x0) : Nat) : Int)) = true then
      if decide (0 ≤ s5) = true then
        if decide (s5 < (((List.length x1) : Nat) : Int)) = true then
          if (((List.getD x0 (Int.toNat s5) (([] : List UInt8), (([] : List UInt8), 0))).1 == (List.getD x1 (Int.toNat s5) (([] : List UInt8), (([] : List UInt8), 0))).1) && (((List.getD x0 (Int.toNat s5) (([] : List UInt8), (([] : List UInt8), 0))).2.1 == (List.getD x1 (Int.toNat s5) (([] : List UInt8), (([] : List UInt8), 0))).2.1) && (((List.getD x0 (Int.toNat s5) (([] : List UInt8), (([] : List UInt8), 0))).2.2 == (List.getD x1 (Int.toNat s5) (([] : List UInt8), (([] : List UInt8), 0))).2.2) && true))) = true then
            l34_0 m n x0 x1 ((IntKind.wrap .i64 (s5 + (1))))
          else
            some (0, s5)
        else
          none
      else
        none
    else
      some (1, s5)
def l34_0D : Nat × Int := (0, 0)
@[reducible] def l34_0R (m n : Nat) (x0 : List ((List UInt8) × (List UInt8) × Int)) (x1 : List ((List UInt8) × (List UInt8) × Int)) (s5 : Int) : Nat × Int := Option.getD (l34_0 m n x0 x1 s5) l34_0D
def l34_0H (x0 : List ((List UInt8) × (List UInt8) × Int)) (x1 : List ((List UInt8) × (List UInt8) × Int)) (s5 : Int) : Env := [(.d (.sl (.pair .str (.pair .str (.int .i64))) x0)), (.d (.sl (.pair .str (.pair .str (.int .i64))) x1)), .top, .top, .top, (.d (.int .i64 s5)), .top, .top, .top, .top, .top, .top, .top, .top, .top, .top, .top, .top, .top, .top, .top, .top, .top, .top, .top, .top]
def l34_0B (x0 : List ((List UInt8) × (List UInt8) × Int)) (x1 : List ((List UInt8) × (List UInt8) × Int)) (s5 : Int) : Boxes := []
def l34_0E (x0 : List ((List UInt8) × (List UInt8) × Int)) (x1 : List ((List UInt8) × (List UInt8) × Int)) (s5 : Int) : Nat → AEx × Env × Boxes
  | 0 => (.ret, [(.d (.sl (.pair .str (.pair .str (.int .i64))) x0)), (.d (.sl (.pair .str (.pair .str (.int .i64))) x1)), .top, .top, (.d (.bool false)), (.d (.int .i64 s5)), .top, .top, .top, .top, .top, (.d (.int .i64 s5)), (.d (.sl (.pair .str (.pair .str (.int .i64))) x0)), (.d (.int .i64 (((List.length x0) : Nat) : Int))), (.d (.bool (decide (s5 < (((List.length x0) : Nat) : Int))))), .top, .top, (.d (.sl (.pair .str (.pair .str (.int .i64))) x0)), (.d (.int .i64 s5)), (.cptr [(.str (List.getD x0 (Int.toNat s5) (([] : List UInt8), (([] : List UInt8), 0))).1), (.str (List.getD x0 (Int.toNat s5) (([] : List UInt8), (([] : List UInt8), 0))).2.1), (.int .i64 (List.getD x0 (Int.toNat s5) (([] : List UInt8), (([] : List UInt8), 0))).2.2)] 0), (.agg [(.d (.str (List.getD x0 (Int.toNat s5) (([] : List UInt8), (([] : List UInt8), 0))).1)), (.d (.str (List.getD x0 (Int.toNat s5) (([] : List UInt8), (([] : List UInt8), 0))).2.1)), (.d (.int .i64 (List.getD x0 (Int.toNat s5) (([] : List UInt8), (([] : List UInt8), 0))).2.2))]), (.d (.sl (.pair .str (.pair .str (.int .i64))) x1)), (.d (.int .i64 s5)), (.cptr [(.str (List.getD x1 (Int.toNat s5) (([] : List UInt8), (([] : List UInt8), 0))).1), (.str (List.getD x1 (Int.toNat s5) (([] : List UInt8), (([] : List UInt8), 0))).2.1), (.int .i64 (List.getD x1 (Int.toNat s5) (([] : List UInt8), (([] : List UInt8), 0))).2.2)] 0), (.agg [(.d (.str (List.getD x1 (Int.toNat s5) (([] : List UInt8), (([] : List UInt8), 0))).1)), (.d (.str (List.getD x1 (Int.toNat s5) (([] : List UInt8), (([] : List UInt8), 0))).2.1)), (.d (.int .i64 (List.getD x1 (Int.toNat s5) (([] : List UInt8), (([] : List UInt8), 0))).2.2))]), (.d (.bool (!(((List.getD x0 (Int.toNat s5) (([] : List UInt8), (([] : List UInt8), 0))).1 == (List.getD x1 (Int.toNat s5) (([] : List UInt8), (([] : List UInt8), 0))).1) && (((List.getD x0 (Int.toNat s5) (([] : List UInt8), (([] : List UInt8), 0))).2.1 == (List.getD x1 (Int.toNat s5) (([] : List UInt8), (([] : List UInt8), 0))).2.1) && (((List.getD x0 (Int.toNat s5) (([] : List UInt8), (([] : List UInt8), 0))).2.2 == (List.getD x1 (Int.toNat s5) (([] : List UInt8), (([] : List UInt8), 0))).2.2) && true))))))], [.dead, .dead, .dead, .dead, .dead, .dead, .dead, .dead, .dead, .dead, .dead, .dead, .dead, .dead, .dead, .dead, .dead, .dead, .dead, .dead, .dead, .dead, .dead, .dead, .dead, .dead, .dead, .dead, .dead, .dead, .dead, .dead, .dead, .dead, .dead, .dead])
  | _ => (.exit 0, [(.d (.sl (.pair .str (.pair .str (.int .i64))) x0)), (.d (.sl (.pair .str (.pair .str (.int .i64))) x1)), .top, .top, .top, (.d (.int .i64 s5)), .top, .top, .top, .top, .top, (.d (.int .i64 s5)), (.d (.sl (.pair .str (.pair .str (.int .i64))) x0)), (.d (.int .i64 (((List.length x0) : Nat) : Int))), (.d (.bool (decide (s5 < (((List.length x0) : Nat) : Int))))), .top, .top, .top, .top, .top, .top, .top, .top, .top, .top, .top], [])
noncomputable def lbl34_0 : AC := loopBody 35 body34

set_option maxHeartbeats 20000000 in
theorem l34_0_w0 (m n : Nat) (x0 : List ((List UInt8) × (List UInt8) × Int)) (x1 : List ((List UInt8) × (List UInt8) × Int)) (s5 : Int) (r : AEx × Env × Boxes) (c0 : decide (s5 < (((List.length x0) : Nat) : Int)) = true) (c1 : decide (0 ≤ s5) = true) (c4 : decide (s5 < (((List.length x1) : Nat) : Int)) = true) (c5 : (((List.getD x0 (Int.toNat s5) (([] : List UInt8), (([] : List UInt8), 0))).1 == (List.getD x1 (Int.toNat s5) (([] : List UInt8), (([] : List UInt8), 0))).1) && (((List.getD x0 (Int.toNat s5) (([] : List UInt8), (([] : List UInt8), 0))).2.1 == (List.getD x1 (Int.toNat s5) (([] : List UInt8), (([] : List UInt8), 0))).2.1) && (((List.getD x0 (Int.toNat s5) (([] : List UInt8), (([] : List UInt8), 0))).2.2 == (List.getD x1 (Int.toNat s5) (([] : List UInt8), (([] : List UInt8), 0))).2.2) && true))) = true) (ih : (turns (hds 34 35) 0 35 (evC byref (evCall F S19 (m + 24)) (m + 24) 0 (hds 34) lbl34_0) n (l34_0H x0 x1 ((IntKind.wrap .i64 (s5 + (1))))) (l34_0B x0 x1 ((IntKind.wrap .i64 (s5 + (1)))))).run = some r) : (turns (hds 34 35) 0 35 (evC byref (evCall F S19 (m + 24)) (m + 24) 0 (hds 34) lbl34_0) (n + 1) (l34_0H x0 x1 s5) (l34_0B x0 x1 s5)).run = some r := by
  exact turns_step (M.run_of_path _ [true, true, true, true, true, false] _ _ (by kernel_rfl) (all_t c0 (all_t c1 (all_t c0 (all_t c1 (all_t c4 (all_nt c5 all_nil))))))) ih
set_option maxHeartbeats 20000000 in
theorem l34_0_w1 (m n : Nat) (x0 : List ((List UInt8) × (List UInt8) × Int)) (x1 : List ((List UInt8) × (List UInt8) × Int)) (s5 : Int) (c0 : decide (s5 < (((List.length x0) : Nat) : Int)) = true) (c1 : decide (0 ≤ s5) = true) (c4 : decide (s5 < (((List.length x1) : Nat) : Int)) = true) (c5 : ¬ (((List.getD x0 (Int.toNat s5) (([] : List UInt8), (([] : List UInt8), 0))).1 == (List.getD x1 (Int.toNat s5) (([] : List UInt8), (([] : List UInt8), 0))).1) && (((List.getD x0 (Int.toNat s5) (([] : List UInt8), (([] : List UInt8), 0))).2.1 == (List.getD x1 (Int.toNat s5) (([] : List UInt8), (([] : List UInt8), 0))).2.1) && (((List.getD x0 (Int.toNat s5) (([] : List UInt8), (([] : List UInt8), 0))).2.2 == (List.getD x1 (Int.toNat s5) (([] : List UInt8), (([] : List UInt8), 0))).2.2) && true))) = true) : (turns (hds 34 35) 0 35 (evC byref (evCall F S19 (m + 24)) (m + 24) 0 (hds 34) lbl34_0) (n + 1) (l34_0H x0 x1 s5) (l34_0B x0 x1 s5)).run = some (.ret, [(.d (.sl (.pair .str (.pair .str (.int .i64))) x0)), (.d (.sl (.pair .str (.pair .str (.int .i64))) x1)), .top, .top, (.d (.bool false)), (.d (.int .i64 s5)), .top, .top, .top, .top, .top, (.d (.int .i64 s5)), (.d (.sl (.pair .str (.pair .str (.int .i64))) x0)), (.d (.int .i64 (((List.length x0) : Nat) : Int))), (.d (.bool (decide (s5 < (((List.length x0) : Nat) : Int))))), .top, .top, (.d (.sl (.pair .str (.pair .str (.int .i64))) x0)), (.d (.int .i64 s5)), (.cptr [(.str (List.getD x0 (Int.toNat s5) (([] : List UInt8), (([] : List UInt8), 0))).1), (.str (List.getD x0 (Int.toNat s5) (([] : List UInt8), (([] : List UInt8), 0))).2.1), (.int .i64 (List.getD x0 (Int.toNat s5) (([] : List UInt8), (([] : List UInt8), 0))).2.2)] 0), (.agg [(.d (.str (List.getD x0 (Int.toNat s5) (([] : List UInt8), (([] : List UInt8), 0))).1)), (.d (.str (List.getD x0 (Int.toNat s5) (([] : List UInt8), (([] : List UInt8), 0))).2.1)), (.d (.int .i64 (List.getD x0 (Int.toNat s5) (([] : List UInt8), (([] : List UInt8), 0))).2.2))]), (.d (.sl (.pair .str (.pair .str (.int .i64))) x1)), (.d (.int .i64 s5)), (.cptr [(.str (List.getD x1 (Int.toNat s5) (([] : List UInt8), (([] : List UInt8), 0))).1), (.str (List.getD x1 (Int.toNat s5) (([] : List UInt8), (([] : List UInt8), 0))).2.1), (.int .i64 (List.getD x1 (Int.toNat s5) (([] : List UInt8), (([] : List UInt8), 0))).2.2)] 0), (.agg [(.d (.str (List.getD x1 (Int.toNat s5) (([] : List UInt8), (([] : List UInt8), 0))).1)), (.d (.str (List.getD x1 (Int.toNat s5) (([] : List UInt8), (([] : List UInt8), 0))).2.1)), (.d (.int .i64 (List.getD x1 (Int.toNat s5) (([] : List UInt8), (([] : List UInt8), 0))).2.2))]), (.d (.bool (!(((List.getD x0 (Int.toNat s5) (([] : List UInt8), (([] : List UInt8), 0))).1 == (List.getD x1 (Int.toNat s5) (([] : List UInt8), (([] : List UInt8), 0))).1) && (((List.getD x0 (Int.toNat s5) (([] : List UInt8), (([] : List UInt8), 0))).2.1 == (List.getD x1 (Int.toNat s5) (([] : List UInt8), (([] : List UInt8), 0))).2.1) && (((List.getD x0 (Int.toNat s5) (([] : List UInt8), (([] : List UInt8), 0))).2.2 == (List.getD x1 (Int.toNat s5) (([] : List UInt8), (([] : List UInt8), 0))).2.2) && true))))))], [.dead, .dead, .dead, .dead, .dead, .dead, .dead, .dead, .dead, .dead, .dead, .dead, .dead, .dead, .dead, .dead, .dead, .dead, .dead, .dead, .dead, .dead, .dead, .dead, .dead, .dead, .dead, .dead, .dead, .dead, .dead, .dead, .dead, .dead, .dead, .dead]) := by
  exact turns_last (by simp) (M.run_of_path _ [true, true, true, true, true, true] _ _ (by kernel_rfl) (all_t c0 (all_t c1 (all_t c0 (all_t c1 (all_t c4 (all_nf c5 all_nil))))))) 
set_option maxHeartbeats 20000000 in
theorem l34_0_w2 (m n : Nat) (x0 : List ((List UInt8) × (List UInt8) × Int)) (x1 : List ((List UInt8) × (List UInt8) × Int)) (s5 : Int) (c0 : ¬ decide (s5 < (((List.length x0) : Nat) : Int)) = true) : (turns (hds 34 35) 0 35 (evC byref (evCall F S19 (m + 24)) (m + 24) 0 (hds 34) lbl34_0) (n + 1) (l34_0H x0 x1 s5) (l34_0B x0 x1 s5)).run = some (.exit 0, [(.d (.sl (.pair .str (.pair .str (.int .i64))) x0)), (.d (.sl (.pair .str (.pair .str (.int .i64))) x1)), .top, .top, .top, (.d (.int .i64 s5)), .top, .top, .top, .top, .top, (.d (.int .i64 s5)), (.d (.sl (.pair .str (.pair .str (.int .i64))) x0)), (.d (.int .i64 (((List.length x0) : Nat) : Int))), (.d (.bool (decide (s5 < (((List.length x0) : Nat) : Int))))), .top, .top, .top, .top, .top, .top, .top, .top, .top, .top, .top], []) := by
  exact turns_last (by simp) (M.run_of_path _ [false] _ _ (by kernel_rfl) (all_f c0 all_nil)) 

set_option maxHeartbeats 20000000 in
theorem l34_0_step (m n : Nat) (ih : ∀ (x0 : List ((List UInt8) × (List UInt8) × Int)) (x1 : List ((List UInt8) × (List UInt8) × Int)) (s5 : Int) (q : Nat × Int), l34_0 m n x0 x1 s5 = some q → (turns (hds 34 35) 0 35 (evC byref (evCall F S19 (m + 24)) (m + 24) 0 (hds 34) lbl34_0) n (l34_0H x0 x1 s5) (l34_0B x0 x1 s5)).run = some (l34_0E (x0) (x1) (q.2) q.1)) (x0 : List ((List UInt8) × (List UInt8) × Int)) (x1 : List ((List UInt8) × (List UInt8) × Int)) (s5 : Int) (q : Nat × Int) (h : l34_0 m (n + 1) x0 x1 s5 = some q) : (turns (hds 34 35) 0 35 (evC byref (evCall F S19 (m + 24)) (m + 24) 0 (hds 34) lbl34_0) (n + 1) (l34_0H x0 x1 s5) (l34_0B x0 x1 s5)).run = some (l34_0E (x0) (x1) (q.2) q.1) := by
  rw [l34_0] at h
  refine ite_cases h (fun c0 h => ?_) (fun c0 h => ?_)
  · skip
    refine ite_cases h (fun c1 h => ?_) (fun c1 h => ?_)
    · skip
      refine ite_cases h (fun c4 h => ?_) (fun c4 h => ?_)
      · skip
        refine ite_cases h (fun c5 h => ?_) (fun c5 h => ?_)
        · skip
          exact l34_0_w0 m n x0 x1 s5 _ c0 c1 c4 c5 (ih _ _ _ q h)
        · skip
          cases h
          exact l34_0_w1 m n x0 x1 s5 c0 c1 c4 c5
      · skip
        cases h
    · skip
      cases h
  · skip
    cases h
    exact l34_0_w2 m n x0 x1 s5 c0
set_option maxHeartbeats 20000000 in
theorem l34_0_ok (m : Nat) : ∀ (n : Nat) (x0 : List ((List UInt8) × (List UInt8) × Int)) (x1 : List ((List UInt8) × (List UInt8) × Int)) (s5 : Int) (q : Nat × Int), l34_0 m n x0 x1 s5 = some q → (turns (hds 34 35) 0 35 (evC byref (evCall F S19 (m + 24)) (m + 24) 0 (hds 34) lbl34_0) n (l34_0H x0 x1 s5) (l34_0B x0 x1 s5)).run = some (l34_0E (x0) (x1) (q.2) q.1)
  | 0, x0, x1, s5, q, h => by cases h
  | n + 1, x0, x1, s5, q, h => l34_0_step m n (l34_0_ok m n) x0 x1 s5 q h

def p34 (m : Nat) (x0 : List ((List UInt8) × (List UInt8) × Int)) (x1 : List ((List UInt8) × (List UInt8) × Int)) : Option (Bool) :=
  if ((((List.length x0) : Nat) : Int) != (((List.length x1) : Nat) : Int)) = true then
    some (false)
  else
    if (Option.isSome (l34_0 m (m + 24) x0 x1 0)) = true then
      if ((l34_0R m (m + 24) x0 x1 0).1 == 0) = true then
        some (false)
      else
        if ((l34_0R m (m + 24) x0 x1 0).1 == 1) = true then
          some (true)
        else
          none
    else
      none
set_option maxHeartbeats 20000000 in
theorem p34_ok (m : Nat) (x0 : List ((List UInt8) × (List UInt8) × Int)) (x1 : List ((List UInt8) × (List UInt8) × Int)) (q : Bool) (h : p34 m x0 x1 = some q) : ∃ r B1, (evCall F S19 (m + 25) 34 [(.d (.sl (.pair .str (.pair .str (.int .i64))) x0)), (.d (.sl (.pair .str (.pair .str (.int .i64))) x1))] []).run = some (r, B1) ∧ 0 ≤ B1.length ∧ wkR B1 [] r (.d (.bool (q))) ∧ wkBs B1 [] 0 [] := by
  unfold p34 at h
  refine ite_cases h (fun c0 h => ?_) (fun c0 h => ?_)
  · skip
    cases h
    refine ⟨(.d (.bool false)), [], runT_ok (LS := (fun k => none)) (fn := fn34) (vis := []) (by kernel_rfl) rfl (by kernel_rfl) (M.run_of_path _ [true] _ _ (by kernel_rfl) (all_t c0 all_nil)) ?_, by simp, (wkR.one (wkV.one (wk1.eq rfl))), trivial⟩
    intro p hp; cases hp
  · skip
    refine ite_cases h (fun c1 h => ?_) (fun c1 h => ?_)
    · skip
      refine ite_cases h (fun c2 h => ?_) (fun c2 h => ?_)
      · skip
        cases h
        refine ⟨(.d (.bool false)), [], runT_ok (LS := (fun k => if k = 35 then some (l34_0E x0 x1 ((l34_0R m (m + 24) x0 x1 0).2) 0) else none)) (fn := fn34) (vis := [(35, l34_0H x0 x1 0, l34_0B x0 x1 0)]) (by kernel_rfl) rfl (by kernel_rfl) (M.run_of_path _ [false] _ _ (by kernel_rfl) (all_f c0 all_nil)) ?_, by simp, (wkR.one (wkV.one (wk1.eq rfl))), trivial⟩
        intro p hp p2 hq
        rcases List.mem_cons.1 hp with rfl | hp
        · skip
          have h3 := l34_0_ok m (m + 24) x0 x1 0 _ (some_getD (d := l34_0D) c1)
          rw [eq_of_beq c2] at h3
          exact Eq.trans (Eq.mp (by kernel_rfl) h3) hq
        cases hp
      · skip
        refine ite_cases h (fun c3 h => ?_) (fun c3 h => ?_)
        · skip
          cases h
          refine ⟨(.d (.bool true)), [], runT_ok (LS := (fun k => if k = 35 then some (l34_0E x0 x1 ((l34_0R m (m + 24) x0 x1 0).2) 1) else none)) (fn := fn34) (vis := [(35, l34_0H x0 x1 0, l34_0B x0 x1 0)]) (by kernel_rfl) rfl (by kernel_rfl) (M.run_of_path _ [false] _ _ (by kernel_rfl) (all_f c0 all_nil)) ?_, by simp, (wkR.one (wkV.one (wk1.eq rfl))), trivial⟩
          intro p hp p2 hq
          rcases List.mem_cons.1 hp with rfl | hp
          · skip
            have h3 := l34_0_ok m (m + 24) x0 x1 0 _ (some_getD (d := l34_0D) c1)
            rw [eq_of_beq c3] at h3
            exact Eq.trans (Eq.mp (by kernel_rfl) h3) hq
          cases hp
        · skip
          cases h
    · skip
      cases h

theorem eq34_loop (m : Nat) (a b : List ((List UInt8) × (List UInt8) × Int)) (hl : a.length = b.length) (hb : a.length < 4611686018427387904) : ∀ n k, k ≤ a.length → a.length - k < n → ∃ j, l34_0 m n a b (k : Nat) = some (if a.drop k == b.drop k then 1 else 0, j)
  | 0, k, _, h => by omega
  | n + 1, k, hk, hn => by
    rw [l34_0]
    by_cases h : k < a.length
    · have hs : ∀ u v : (List UInt8) × (List UInt8) × Int, ((u.1 == v.1) && ((u.2.1 == v.2.1) && ((u.2.2 == v.2.2) && true))) = (u == v) := fun u v => by rw [Bool.and_true]; rfl
      have e1 : decide (((k : Nat) : Int) < ((a.length : Nat) : Int)) = true := decide_eq_true (by omega)
      have e2 : decide ((0 : Int) ≤ ((k : Nat) : Int)) = true := decide_eq_true (by omega)
      have e3 : decide (((k : Nat) : Int) < ((b.length : Nat) : Int)) = true := decide_eq_true (by omega)
      simp only [e1, e2, e3, if_true, Int.toNat_natCast,hs]
      rw [drop_getD a k (([] : List UInt8), (([] : List UInt8), 0)) h, drop_getD b k (([] : List UInt8), (([] : List UInt8), 0)) (by omega)]
      have ew : IntKind.wrap .i64 (((k : Nat) : Int) + (1)) = ((k + 1 : Nat) : Int) := by rw [wrap_id (by omega) (by omega)]; rfl
      rw [ew]
      obtain ⟨j, hj⟩ := eq34_loop m a b hl hb n (k + 1) (by omega) (by omega)
      have hc : ((a.getD k (([] : List UInt8), (([] : List UInt8), 0))) :: a.drop (k + 1) == (b.getD k (([] : List UInt8), (([] : List UInt8), 0))) :: b.drop (k + 1)) = (((a.getD k (([] : List UInt8), (([] : List UInt8), 0))) == (b.getD k (([] : List UInt8), (([] : List UInt8), 0)))) && (a.drop (k + 1) == b.drop (k + 1))) := rfl
      rw [hc]
      rcases Bool.eq_false_or_eq_true ((a.getD k (([] : List UInt8), (([] : List UInt8), 0))) == (b.getD k (([] : List UInt8), (([] : List UInt8), 0)))) with he | he
      · exact ⟨j, by simp only [he, hj]; simp⟩
      · exact ⟨(k : Nat), by simp only [he]; simp⟩
    · have e1 : decide (((k : Nat) : Int) < ((a.length : Nat) : Int)) = false := decide_eq_false (by omega)
      refine ⟨(k : Nat), ?_⟩
      simp only [e1, Bool.false_eq_true, if_false]
      rw [List.drop_eq_nil_of_le (by omega), List.drop_eq_nil_of_le (by omega)]
      rfl
theorem eq34 (a b : List ((List UInt8) × (List UInt8) × Int)) (h : decide (List.length a < 4611686018427387904) = true) : ∃ m, p34 m a b = some (a == b) := by
  have hb := of_decide_eq_true h
  refine ⟨a.length, ?_⟩
  unfold p34 l34_0R
  by_cases hl : a.length = b.length
  · have e0 : ((((List.length a) : Nat) : Int) != (((List.length b) : Nat) : Int)) = false := by simp [hl]
    obtain ⟨j, hj⟩ := eq34_loop a.length a b hl hb (a.length + 24) 0 (by omega) (by omega)
    simp only [Int.natCast_zero, List.drop_zero] at hj
    rw [e0]
    simp only [Bool.false_eq_true, if_false]
    rw [hj]
    cases hab : a == b <;> simp [hab]
  · have e0 : ((((List.length a) : Nat) : Int) != (((List.length b) : Nat) : Int)) = true := by simp; omega
    rw [e0]
    have : (a == b) = false := by
      rw [beq_eq_false_iff_ne]
      intro e; rw [e] at hl; exact hl rfl
    simp [this]
def s34 : List AV → Boxes → M (AV × Boxes) := normS [.val (.sl (.pair .str (.pair .str (.int .i64)))), .val (.sl (.pair .str (.pair .str (.int .i64))))] [] fun xs B => match xs, B with
  | [(.d (.sl (.pair .str (.pair .str (.int .i64))) c1)), (.d (.sl (.pair .str (.pair .str (.int .i64))) c2))], [] => .chk (decide (List.length c1 < 4611686018427387904)) (.ret ((.d (.bool ((show List ((List UInt8) × (List UInt8) × Int) from c1) == c2))), []))
  | _, _ => .fail
theorem s34_at : CallAt Tryd.prog 34 s34 := by
  refine CallAt.norm (CallAt.weakE (g := fun n => evCall F S19 n 34) (fun n => evCall_atH mixed kinds hds S19 S19_ok n 34) fun xs B r' B' hr => ?_) _ _
  split at hr
  · rename_i c1 c2
    obtain ⟨hp, hr⟩ := (M.run_chk _ _ _).1 hr
    simp only [M.run, Option.some.injEq, Prod.mk.injEq] at hr
    obtain ⟨rfl, rfl⟩ := hr
    obtain ⟨m, hm⟩ := eq34 c1 c2 hp
    obtain ⟨r, B1, h1, h2, h3, h4⟩ := p34_ok m c1 c2 _ hm
    exact ⟨m + 25, r, B1, h1, by simp, h2, h3, h4⟩
  · simp [M.run] at hr
noncomputable def S20 : FuncId → Option (List AV → Boxes → M (AV × Boxes)) := fun f => if f = 34 then some s34 else S19 f
set_option maxHeartbeats 20000000 in
theorem S20_ok : ∀ f s, S20 f = some s → CallAt Tryd.prog f s := by
  intro f s h
  unfold S20 at h
  split at h
  · rename_i e; subst e; cases h; exact s34_at
  · exact S19_ok f s h

end Go.Proofs.YtcdpgldecikejaaDoor.Dec
namespace Go.Proofs.YtcdpgldecikejaaDoor.Dec
open Go.Ev
set_option linter.unusedVariables false
set_option linter.unusedSimpArgs false
set_option maxRecDepth 100000
noncomputable def fn8 : AFn := (F 8).getD ⟨0, [], .bad, false, false, noHd⟩
noncomputable def body8 : AC := fn8.body
def l8_0 (m : Nat) : Nat → List ((List UInt8) × (List UInt8)) → List ((List UInt8) × (List UInt8)) → Bool → Int → Int → List ((List UInt8) × (List UInt8) × Int) → Option (Nat × Bool × Int)
  | 0, _, _, _, _, _, _ => none
  | n + 1, s11, s15, s16, s80, s81, b0 => if decide (s81 < s80) = true then
      if decide (0 ≤ s81) = true then
        if decide (s81 < (((List.length b0) : Nat) : Int)) = true then
          if decide ((0 + (Int.toNat s81)) < (List.length b0)) = true then
            if s16 = true then
              l8_0 m n s11 s15 true s80 ((IntKind.wrap .i64 (s81 + (1)))) b0
            else
              l8_0 m n s11 s15 (((List.getD b0 (0 + (Int.toNat s81)) (([] : List UInt8), (([] : List UInt8), 0))).1 == ([111, 116, 104, 101, 114] : List UInt8))) s80 ((IntKind.wrap .i64 (s81 + (1)))) b0
          else
            none
        else
          none
      else
        none
    else
      some (0, s16, s81)
def l8_0D : Nat × Bool × Int := (0, false, 0)
@[reducible] def l8_0R (m n : Nat) (s11 : List ((List UInt8) × (List UInt8))) (s15 : List ((List UInt8) × (List UInt8))) (s16 : Bool) (s80 : Int) (s81 : Int) (b0 : List ((List UInt8) × (List UInt8) × Int)) : Nat × Bool × Int := Option.getD (l8_0 m n s11 s15 s16 s80 s81 b0) l8_0D
def l8_0H (s11 : List ((List UInt8) × (List UInt8))) (s15 : List ((List UInt8) × (List UInt8))) (s16 : Bool) (s80 : Int) (s81 : Int) (b0 : List ((List UInt8) × (List UInt8) × Int)) : Env := [.top, .top, .top, .top, .top, .top, .top, .top, .top, .top, .top, (.d (.sl (.pair .str .str) s11)), (.sr 0 0 (List.length b0) 3 none), .top, .top, (.d (.sl (.pair .str .str) s15)), (.d (.bool (s16))), .top, .top, .top, .top, .top, .top, .top, .top, .top, .top, .top, .top, .top, .top, .top, .top, .top, .top, .top, .top, .top, .top, .top, .top, .top, .top, .top, .top, .top, .top, .top, .top, .top, .top, .top, .top, .top, .top, .top, .top, .top, .top, .top, .top, .top, .top, .top, .top, .top, .top, .top, .top, .top, .top, .top, .top, .top, .top, .top, .top, .top, .top, (.sr 0 0 (List.length b0) 3 none), (.d (.int .i64 s80)), (.d (.int .i64 s81)), .top, .top, .top, .top, .top, .top, .top, .top, .top, .top, .top, .top, .top, .top, .top, .top, .top, .top, .top, .top, .top, .top, .top]
def l8_0B (s11 : List ((List UInt8) × (List UInt8))) (s15 : List ((List UInt8) × (List UInt8))) (s16 : Bool) (s80 : Int) (s81 : Int) (b0 : List ((List UInt8) × (List UInt8) × Int)) : Boxes := [(.arr (.pair .str (.pair .str (.int .i64))) b0 true)]
def l8_0E (s11 : List ((List UInt8) × (List UInt8))) (s15 : List ((List UInt8) × (List UInt8))) (s16 : Bool) (s80 : Int) (s81 : Int) (b0 : List ((List UInt8) × (List UInt8) × Int)) : Nat → AEx × Env × Boxes
  | _ => (.exit 0, [.top, .top, .top, .top, .top, .top, .top, .top, .top, .top, .top, (.d (.sl (.pair .str .str) s11)), (.sr 0 0 (List.length b0) 3 none), .top, .top, (.d (.sl (.pair .str .str) s15)), (.d (.bool (s16))), .top, .top, .top, .top, .top, .top, .top, .top, .top, .top, .top, .top, .top, .top, .top, .top, .top, .top, .top, .top, .top, .top, .top, .top, .top, .top, .top, .top, .top, .top, .top, .top, .top, .top, .top, .top, .top, .top, .top, .top, .top, .top, .top, .top, .top, .top, .top, .top, .top, .top, .top, .top, .top, .top, .top, .top, .top, .top, .top, .top, .top, .top, (.sr 0 0 (List.length b0) 3 none), (.d (.int .i64 s80)), (.d (.int .i64 s81)), (.d (.bool (decide (s81 < s80)))), .top, .top, .top, .top, .top, .top, .top, .top, .top, .top, .top, .top, .top, .top, .top, .top, .top, .top, .top, .top, .top, .top], [(.arr (.pair .str (.pair .str (.int .i64))) b0 true)])
noncomputable def lbl8_0 : AC := loopBody 4231240368651202111576064 body8

set_option maxHeartbeats 20000000 in
theorem l8_0_w0 (m n : Nat) (s11 : List ((List UInt8) × (List UInt8))) (s15 : List ((List UInt8) × (List UInt8))) (s16 : Bool) (s80 : Int) (s81 : Int) (b0 : List ((List UInt8) × (List UInt8) × Int)) (r : AEx × Env × Boxes) (c0 : decide (s81 < s80) = true) (c1 : decide (0 ≤ s81) = true) (c2 : decide (s81 < (((List.length b0) : Nat) : Int)) = true) (c3 : decide ((0 + (Int.toNat s81)) < (List.length b0)) = true) (c4 : s16 = true) (ih : (turns (hds 8 4231240368651202111576064) 0 4231240368651202111576064 (evC byref (evCall F S20 (m + 24)) (m + 24) 0 (hds 8) lbl8_0) n (l8_0H s11 s15 true s80 ((IntKind.wrap .i64 (s81 + (1)))) b0) (l8_0B s11 s15 true s80 ((IntKind.wrap .i64 (s81 + (1)))) b0)).run = some r) : (turns (hds 8 4231240368651202111576064) 0 4231240368651202111576064 (evC byref (evCall F S20 (m + 24)) (m + 24) 0 (hds 8) lbl8_0) (n + 1) (l8_0H s11 s15 s16 s80 s81 b0) (l8_0B s11 s15 s16 s80 s81 b0)).run = some r := by
  exact turns_step (M.run_of_path _ [true, true, true, true, true, true, true, true] _ _ (by kernel_rfl) (all_t c0 (all_t c1 (all_t c2 (all_t c3 (all_t c4 (all_t c4 (all_t c4 (all_t c4 all_nil))))))))) ih
set_option maxHeartbeats 20000000 in
theorem l8_0_w1 (m n : Nat) (s11 : List ((List UInt8) × (List UInt8))) (s15 : List ((List UInt8) × (List UInt8))) (s16 : Bool) (s80 : Int) (s81 : Int) (b0 : List ((List UInt8) × (List UInt8) × Int)) (r : AEx × Env × Boxes) (c0 : decide (s81 < s80) = true) (c1 : decide (0 ≤ s81) = true) (c2 : decide (s81 < (((List.length b0) : Nat) : Int)) = true) (c3 : decide ((0 + (Int.toNat s81)) < (List.length b0)) = true) (c4 : ¬ s16 = true) (ih : (turns (hds 8 4231240368651202111576064) 0 4231240368651202111576064 (evC byref (evCall F S20 (m + 24)) (m + 24) 0 (hds 8) lbl8_0) n (l8_0H s11 s15 (((List.getD b0 (0 + (Int.toNat s81)) (([] : List UInt8), (([] : List UInt8), 0))).1 == ([111, 116, 104, 101, 114] : List UInt8))) s80 ((IntKind.wrap .i64 (s81 + (1)))) b0) (l8_0B s11 s15 (((List.getD b0 (0 + (Int.toNat s81)) (([] : List UInt8), (([] : List UInt8), 0))).1 == ([111, 116, 104, 101, 114] : List UInt8))) s80 ((IntKind.wrap .i64 (s81 + (1)))) b0)).run = some r) : (turns (hds 8 4231240368651202111576064) 0 4231240368651202111576064 (evC byref (evCall F S20 (m + 24)) (m + 24) 0 (hds 8) lbl8_0) (n + 1) (l8_0H s11 s15 s16 s80 s81 b0) (l8_0B s11 s15 s16 s80 s81 b0)).run = some r := by
  exact turns_step (M.run_of_path _ [true, true, true, true, false, false, false, false] _ _ (by kernel_rfl) (all_t c0 (all_t c1 (all_t c2 (all_t c3 (all_f c4 (all_f c4 (all_f c4 (all_f c4 all_nil))))))))) ih
set_option maxHeartbeats 20000000 in
theorem l8_0_w2 (m n : Nat) (s11 : List ((List UInt8) × (List UInt8))) (s15 : List ((List UInt8) × (List UInt8))) (s16 : Bool) (s80 : Int) (s81 : Int) (b0 : List ((List UInt8) × (List UInt8) × Int)) (c0 : ¬ decide (s81 < s80) = true) : (turns (hds 8 4231240368651202111576064) 0 4231240368651202111576064 (evC byref (evCall F S20 (m + 24)) (m + 24) 0 (hds 8) lbl8_0) (n + 1) (l8_0H s11 s15 s16 s80 s81 b0) (l8_0B s11 s15 s16 s80 s81 b0)).run = some (.exit 0, [.top, .top, .top, .top, .top, .top, .top, .top, .top, .top, .top, (.d (.sl (.pair .str .str) s11)), (.sr 0 0 (List.length b0) 3 none), .top, .top, (.d (.sl (.pair .str .str) s15)), (.d (.bool (s16))), .top, .top, .top, .top, .top, .top, .top, .top, .top, .top, .top, .top, .top, .top, .top, .top, .top, .top, .top, .top, .top, .top, .top, .top, .top, .top, .top, .top, .top, .top, .top, .top, .top, .top, .top, .top, .top, .top, .top, .top, .top, .top, .top, .top, .top, .top, .top, .top, .top, .top, .top, .top, .top, .top, .top, .top, .top, .top, .top, .top, .top, .top, (.sr 0 0 (List.length b0) 3 none), (.d (.int .i64 s80)), (.d (.int .i64 s81)), (.d (.bool (decide (s81 < s80)))), .top, .top, .top, .top, .top, .top, .top, .top, .top, .top, .top, .top, .top, .top, .top, .top, .top, .top, .top, .top, .top, .top], [(.arr (.pair .str (.pair .str (.int .i64))) b0 true)]) := by
  exact turns_last (by simp) (M.run_of_path _ [false] _ _ (by kernel_rfl) (all_f c0 all_nil)) 

set_option maxHeartbeats 20000000 in
theorem l8_0_step (m n : Nat) (ih : ∀ (s11 : List ((List UInt8) × (List UInt8))) (s15 : List ((List UInt8) × (List UInt8))) (s16 : Bool) (s80 : Int) (s81 : Int) (b0 : List ((List UInt8) × (List UInt8) × Int)) (q : Nat × Bool × Int), l8_0 m n s11 s15 s16 s80 s81 b0 = some q → (turns (hds 8 4231240368651202111576064) 0 4231240368651202111576064 (evC byref (evCall F S20 (m + 24)) (m + 24) 0 (hds 8) lbl8_0) n (l8_0H s11 s15 s16 s80 s81 b0) (l8_0B s11 s15 s16 s80 s81 b0)).run = some (l8_0E (s11) (s15) (q.2.1) (s80) (q.2.2) (b0) q.1)) (s11 : List ((List UInt8) × (List UInt8))) (s15 : List ((List UInt8) × (List UInt8))) (s16 : Bool) (s80 : Int) (s81 : Int) (b0 : List ((List UInt8) × (List UInt8) × Int)) (q : Nat × Bool × Int) (h : l8_0 m (n + 1) s11 s15 s16 s80 s81 b0 = some q) : (turns (hds 8 4231240368651202111576064) 0 4231240368651202111576064 (evC byref (evCall F S20 (m + 24)) (m + 24) 0 (hds 8) lbl8_0) (n + 1) (l8_0H s11 s15 s16 s80 s81 b0) (l8_0B s11 s15 s16 s80 s81 b0)).run = some (l8_0E (s11) (s15) (q.2.1) (s80) (q.2.2) (b0) q.1) := by
  rw [l8_0] at h
  refine ite_cases h (fun c0 h => ?_) (fun c0 h => ?_)
  · skip
    refine ite_cases h (fun c1 h => ?_) (fun c1 h => ?_)
    · skip
      refine ite_cases h (fun c2 h => ?_) (fun c2 h => ?_)
      · skip
        refine ite_cases h (fun c3 h => ?_) (fun c3 h => ?_)
        · skip
          refine ite_cases h (fun c4 h => ?_) (fun c4 h => ?_)
          · skip
            exact l8_0_w0 m n s11 s15 s16 s80 s81 b0 _ c0 c1 c2 c3 c4 (ih _ _ _ _ _ _ q h)
          · skip
            exact l8_0_w1 m n s11 s15 s16 s80 s81 b0 _ c0 c1 c2 c3 c4 (ih _ _ _ _ _ _ q h)
        · skip
          cases h
      · skip
        cases h
    · skip
      cases h
  · skip
    cases h
    exact l8_0_w2 m n s11 s15 s16 s80 s81 b0 c0
set_option maxHeartbeats 20000000 in
theorem l8_0_ok (m : Nat) : ∀ (n : Nat) (s11 : List ((List UInt8) × (List UInt8))) (s15 : List ((List UInt8) × (List UInt8))) (s16 : Bool) (s80 : Int) (s81 : Int) (b0 : List ((List UInt8) × (List UInt8) × Int)) (q : Nat × Bool × Int), l8_0 m n s11 s15 s16 s80 s81 b0 = some q → (turns (hds 8 4231240368651202111576064) 0 4231240368651202111576064 (evC byref (evCall F S20 (m + 24)) (m + 24) 0 (hds 8) lbl8_0) n (l8_0H s11 s15 s16 s80 s81 b0) (l8_0B s11 s15 s16 s80 s81 b0)).run = some (l8_0E (s11) (s15) (q.2.1) (s80) (q.2.2) (b0) q.1)
  | 0, s11, s15, s16, s80, s81, b0, q, h => by cases h
  | n + 1, s11, s15, s16, s80, s81, b0, q, h => l8_0_step m n (l8_0_ok m n) s11 s15 s16 s80 s81 b0 q h

@[reducible] def mmany_k1 (x1 : List ((List UInt8) × (List UInt8) × Int)) := (List.drop 0 (List.take (Int.toNat (if (5) < (((List.length x1) : Nat) : Int) then (5) else (((List.length x1) : Nat) : Int))) x1))
@[reducible] def mmany_k2 (x0 : (List Int) × (List Int)) (x4 : Int) := (withG (setG x0) ([111, 116, 104, 101, 114] : List UInt8) (List.getD [([120] : List UInt8), ([121] : List UInt8), ([120, 121] : List UInt8), ([49] : List UInt8), ([34] : List UInt8), ([92] : List UInt8), ([123, 125] : List UInt8), ([122, 32, 122] : List UInt8)] (Int.toNat (withinI x4 (0) (5))) ([] : List UInt8)))
@[reducible] def mmany_k3 (x2 : List ((List UInt8) × (List UInt8) × Int)) := (List.drop 0 (List.take (Int.toNat (if (5) < (((List.length x2) : Nat) : Int) then (5) else (((List.length x2) : Nat) : Int))) x2))
@[reducible] def mmany_k4 (x1 : List ((List UInt8) × (List UInt8) × Int)) (x3 : Int) := (withinI x3 (0) (((0 + (List.length (mmany_k1 x1))) : Nat) : Int))
@[reducible] def mmany_k5 (x0 : (List Int) × (List Int)) (x1 : List ((List UInt8) × (List UInt8) × Int)) (x4 : Int) (m : Nat) := (l8_0R m (m + 24) ((setG x0)) ((mmany_k2 x0 x4)) false ((((0 + (List.length (mmany_k1 x1))) : Nat) : Int)) 0 ((mmany_k1 x1)))
@[reducible] def mmany_k6 (x1 : List ((List UInt8) × (List UInt8) × Int)) := (List.take (0 + (List.length (mmany_k1 x1))) (List.drop 0 (mmany_k1 x1)))
@[reducible] def mmany_k7 (x1 : List ((List UInt8) × (List UInt8) × Int)) := (List.take (List.length ((mmany_k1 x1))) (List.drop 0 ((mmany_k1 x1))))
@[reducible] def mmany_k8 (x0 : (List Int) × (List Int)) (x1 : List ((List UInt8) × (List UInt8) × Int)) (x4 : Int) (m : Nat) := (l8_0 m (m + 24) ((setG x0)) ((mmany_k2 x0 x4)) false ((((0 + (List.length (mmany_k1 x1))) : Nat) : Int)) 0 ((mmany_k1 x1)))
@[reducible] def mmany_k9 (x2 : List ((List UInt8) × (List UInt8) × Int)) := (List.take (0 + (List.length (mmany_k3 x2))) (List.drop 0 (mmany_k3 x2)))
@[reducible] def mmany_k10 (x1 : List ((List UInt8) × (List UInt8) × Int)) := (if (5) < (((List.length x1) : Nat) : Int) then (5) else (((List.length x1) : Nat) : Int))
@[reducible] def mmany_k11 (x2 : List ((List UInt8) × (List UInt8) × Int)) := (if (5) < (((List.length x2) : Nat) : Int) then (5) else (((List.length x2) : Nat) : Int))
@[reducible] def mmany_k12 (x0 : (List Int) × (List Int)) (x1 : List ((List UInt8) × (List UInt8) × Int)) (x4 : Int) (m : Nat) := (l8_0E (((setG x0))) (((mmany_k2 x0 x4))) ((mmany_k5 x0 x1 x4 m).2.1) (((((0 + (List.length (mmany_k1 x1))) : Nat) : Int))) ((mmany_k5 x0 x1 x4 m).2.2) (((mmany_k1 x1))) 0)
@[reducible] def mmany_k13 (x1 : List ((List UInt8) × (List UInt8) × Int)) (x3 : Int) := (List.take ((Int.toNat (mmany_k4 x1 x3)) - 0) (List.drop 0 (mmany_k1 x1)))
@[reducible] def mmany_k14 (x1 : List ((List UInt8) × (List UInt8) × Int)) (x3 : Int) := (List.take ((0 + (List.length (mmany_k1 x1))) - (Int.toNat (mmany_k4 x1 x3))) (List.drop (0 + (Int.toNat (mmany_k4 x1 x3))) (mmany_k1 x1)))
@[reducible] def mmany_k15 (x0 : (List Int) × (List Int)) (x1 : List ((List UInt8) × (List UInt8) × Int)) (x4 : Int) := (List.length ((mmany_k2 x0 x4)) ≤ 1000000 ∧ List.length (mmany_k7 x1) ≤ 1000000)
@[reducible] def mmany_k16 (x0 : (List Int) × (List Int)) (x1 : List ((List UInt8) × (List UInt8) × Int)) (x4 : Int) := ((allG ((mmany_k2 x0 x4)) (mmany_k7 x1)) == (allG ((setG x0)) (mmany_k7 x1)))
@[reducible] def mmany_k17 (x0 : (List Int) × (List Int)) (x1 : List ((List UInt8) × (List UInt8) × Int)) := (List.length ((setG x0)) ≤ 1000000 ∧ List.length (mmany_k7 x1) ≤ 1000000)
@[reducible] def mmany_k18 (x1 : List ((List UInt8) × (List UInt8) × Int)) (x2 : List ((List UInt8) × (List UInt8) × Int)) := (((printG (mmany_k6 x1)) == (printG (mmany_k9 x2))) == ((show List ((List UInt8) × (List UInt8) × Int) from (mmany_k6 x1)) == (mmany_k9 x2)))
@[reducible] def mmany_k19 (x0 : (List Int) × (List Int)) (x1 : List ((List UInt8) × (List UInt8) × Int)) (x3 : Int) := (List.length (setG x0) ≤ 1000000 ∧ List.length (mmany_k13 x1 x3) ≤ 1000000)
@[reducible] def mmany_k20 (x0 : (List Int) × (List Int)) (x1 : List ((List UInt8) × (List UInt8) × Int)) := (List.length (setG x0) ≤ 1000000 ∧ List.length (mmany_k6 x1) ≤ 1000000)
@[reducible] def mmany_k21 (x1 : List ((List UInt8) × (List UInt8) × Int)) := (List.length ((mmany_k1 x1)))
@[reducible] def mmany_k22 (x0 : (List Int) × (List Int)) := (List.length (setG x0) ≤ 1000000)
@[reducible] def mmany_k23 (x0 : (List Int) × (List Int)) := (List.length (setG x0) ≤ 1000000 ∧ List.length ([] : List ((List UInt8) × (List UInt8) × Int)) ≤ 1000000)
@[reducible] def mmany_k24 (x0 : (List Int) × (List Int)) (x1 : List ((List UInt8) × (List UInt8) × Int)) := ((allG (setG x0) (mmany_k6 x1)) == (allG (setG x0) ([] : List ((List UInt8) × (List UInt8) × Int))))
@[reducible] def mmany_k25 (x0 : (List Int) × (List Int)) (x1 : List ((List UInt8) × (List UInt8) × Int)) (x3 : Int) := (List.length (setG x0) ≤ 1000000 ∧ List.length (mmany_k14 x1 x3) ≤ 1000000)
@[reducible] def mmany_k26 (x0 : (List Int) × (List Int)) (x1 : List ((List UInt8) × (List UInt8) × Int)) (x3 : Int) := ((allG (setG x0) (mmany_k6 x1)) == (allG (setG x0) (mmany_k14 x1 x3)))
@[reducible] def mmany_k27 (x0 : (List Int) × (List Int)) (x1 : List ((List UInt8) × (List UInt8) × Int)) (x3 : Int) := (allG (setG x0) (mmany_k13 x1 x3))
@[reducible] def mmany_k28 (x1 : List ((List UInt8) × (List UInt8) × Int)) := (List.length (mmany_k6 x1) < 4611686018427387904)
@[reducible] def mmany_k29 (x1 : List ((List UInt8) × (List UInt8) × Int)) := (((List.length x1) : Nat) : Int)
@[reducible] def mmany_k30 (x2 : List ((List UInt8) × (List UInt8) × Int)) := (((List.length x2) : Nat) : Int)
@[reducible] def mmany_k31 (x0 : (List Int) × (List Int)) (x1 : List ((List UInt8) × (List UInt8) × Int)) := ((allG (setG x0) (mmany_k6 x1)) == false)
def mmany (m : Nat) (x0 : (List Int) × (List Int)) (x1 : List ((List UInt8) × (List UInt8) × Int)) (x2 : List ((List UInt8) × (List UInt8) × Int)) (x3 : Int) (x4 : Int) : Option Unit :=
  if (decide (0 ≤ (mmany_k10 x1)) && decide ((mmany_k10 x1) ≤ (mmany_k29 x1))) = true then
    if decide (((0 + (List.length (mmany_k1 x1))) * 40) ≤ 70368744177664) = true then
      if (decide (0 ≤ (mmany_k11 x2)) && decide ((mmany_k11 x2) ≤ (mmany_k30 x2))) = true then
        if decide (((0 + (List.length (mmany_k3 x2))) * 40) ≤ 70368744177664) = true then
          if ((decide (0 ≤ (((0 + (List.length (mmany_k1 x1))) : Nat) : Int)) && decide ((((0 + (List.length (mmany_k1 x1))) : Nat) : Int) ≤ 2305843009213693951)) && decide (((((0 + (List.length (mmany_k1 x1))) : Nat) : Int) - (0)) ≤ 2305843009213693951)) = true then
            if decide ((0 + (0 + (List.length (mmany_k1 x1)))) ≤ (List.length (mmany_k1 x1))) = true then
              if decide (mmany_k20 x0 x1) = true then
                if (decide (0 ≤ (mmany_k4 x1 x3)) && decide ((mmany_k4 x1 x3) ≤ (((0 + (List.length (mmany_k1 x1))) : Nat) : Int))) = true then
                  if decide ((0 + ((Int.toNat (mmany_k4 x1 x3)) - 0)) ≤ (List.length (mmany_k1 x1))) = true then
                    if decide (mmany_k19 x0 x1 x3) = true then
                      if (mmany_k27 x0 x1 x3) = true then
                        if (decide ((Int.toNat (mmany_k4 x1 x3)) < (0 + (List.length (mmany_k1 x1)))) || decide ((Int.toNat (mmany_k4 x1 x3)) = 0)) = true then
                          if decide (((0 + (Int.toNat (mmany_k4 x1 x3))) + ((0 + (List.length (mmany_k1 x1))) - (Int.toNat (mmany_k4 x1 x3)))) ≤ (List.length (mmany_k1 x1))) = true then
                            if decide (mmany_k25 x0 x1 x3) = true then
                              if (mmany_k26 x0 x1 x3) = true then
                                if rightPre (mmany_k6 x1) = true then
                                  if (rightG (mmany_k6 x1)) = true then
                                    if decide ((0 + (0 + (List.length (mmany_k3 x2)))) ≤ (List.length (mmany_k3 x2))) = true then
                                      if rightPre (mmany_k9 x2) = true then
                                        if (rightG (mmany_k9 x2)) = true then
                                          if decide (mmany_k28 x1) = true then
                                            if (mmany_k18 x1 x2) = true then
                                              if decide (0 ≤ (withinI x4 (0) (5))) = true then
                                                if decide ((withinI x4 (0) (5)) < 8) = true then
                                                  if decide (mmany_k22 x0) = true then
                                                    if (Option.isSome (mmany_k8 x0 x1 x4 m)) = true then
                                                      if (mmany_k5 x0 x1 x4 m).2.1 = true then
                                                        some ()
                                                      else
                                                        if decide (mmany_k15 x0 x1 x4) = true then
                                                          if decide (mmany_k17 x0 x1) = true then
                                                            if (mmany_k16 x0 x1 x4) = true then
                                                              some ()
                                                            else
                                                              none
                                                          else
                                                            none
                                                        else
                                                          none
                                                    else
                                                      none
                                                  else
                                                    none
                                                else
                                                  none
                                              else
                                                none
                                            else
                                              none
                                          else
                                            none
                                        else
                                          if decide (0 ≤ (withinI x4 (0) (5))) = true then
                                            if decide ((withinI x4 (0) (5)) < 8) = true then
                                              if decide (mmany_k22 x0) = true then
                                                if (Option.isSome (mmany_k8 x0 x1 x4 m)) = true then
                                                  if (mmany_k5 x0 x1 x4 m).2.1 = true then
                                                    some ()
                                                  else
                                                    if decide (mmany_k15 x0 x1 x4) = true then
                                                      if decide (mmany_k17 x0 x1) = true then
                                                        if (mmany_k16 x0 x1 x4) = true then
                                                          some ()
                                                        else
                                                          none
                                                      else
                                                        none
                                                    else
                                                      none
                                                else
                                                  none
                                              else
                                                none
                                            else
                                              none
                                          else
                                            none
                                      else
                                        none
                                    else
                                      none
                                  else
                                    if decide (0 ≤ (withinI x4 (0) (5))) = true then
                                      if decide ((withinI x4 (0) (5)) < 8) = true then
                                        if decide (mmany_k22 x0) = true then
                                          if (Option.isSome (mmany_k8 x0 x1 x4 m)) = true then
                                            if (mmany_k5 x0 x1 x4 m).2.1 = true then
                                              some ()
                                            else
                                              if decide (mmany_k15 x0 x1 x4) = true then
                                                if decide (mmany_k17 x0 x1) = true then
                                                  if (mmany_k16 x0 x1 x4) = true then
                                                    some ()
                                                  else
                                                    none
                                                else
                                                  none
                                              else
                                                none
                                          else
                                            none
                                        else
                                          none
                                      else
                                        none
                                    else
                                      none
                                else
                                  none
                              else
                                none
                            else
                              none
                          else
                            none
                        else
                          if decide (mmany_k23 x0) = true then
                            if (mmany_k24 x0 x1) = true then
                              if rightPre (mmany_k6 x1) = true then
                                if (rightG (mmany_k6 x1)) = true then
                                  if decide ((0 + (0 + (List.length (mmany_k3 x2)))) ≤ (List.length (mmany_k3 x2))) = true then
                                    if rightPre (mmany_k9 x2) = true then
                                      if (rightG (mmany_k9 x2)) = true then
                                        if decide (mmany_k28 x1) = true then
                                          if (mmany_k18 x1 x2) = true then
                                            if decide (0 ≤ (withinI x4 (0) (5))) = true then
                                              if decide ((withinI x4 (0) (5)) < 8) = true then
                                                if decide (mmany_k22 x0) = true then
                                                  if (Option.isSome (mmany_k8 x0 x1 x4 m)) = true then
                                                    if (mmany_k5 x0 x1 x4 m).2.1 = true then
                                                      some ()
                                                    else
                                                      if decide (mmany_k15 x0 x1 x4) = true then
                                                        if decide (mmany_k17 x0 x1) = true then
                                                          if (mmany_k16 x0 x1 x4) = true then
                                                            some ()
                                                          else
                                                            none
                                                        else
                                                          none
                                                      else
                                                        none
                                                  else
                                                    none
                                                else
                                                  none
                                              else
                                                none
                                            else
                                              none
                                          else
                                            none
                                        else
                                          none
                                      else
                                        if decide (0 ≤ (withinI x4 (0) (5))) = true then
                                          if decide ((withinI x4 (0) (5)) < 8) = true then
                                            if decide (mmany_k22 x0) = true then
                                              if (Option.isSome (mmany_k8 x0 x1 x4 m)) = true then
                                                if (mmany_k5 x0 x1 x4 m).2.1 = true then
                                                  some ()
                                                else
                                                  if decide (mmany_k15 x0 x1 x4) = true then
                                                    if decide (mmany_k17 x0 x1) = true then
                                                      if (mmany_k16 x0 x1 x4) = true then
                                                        some ()
                                                      else
                                                        none
                                                    else
                                                      none
                                                  else
                                                    none
                                              else
                                                none
                                            else
                                              none
                                          else
                                            none
                                        else
                                          none
                                    else
                                      none
                                  else
                                    none
                                else
                                  if decide (0 ≤ (withinI x4 (0) (5))) = true then
                                    if decide ((withinI x4 (0) (5)) < 8) = true then
                                      if decide (mmany_k22 x0) = true then
                                        if (Option.isSome (mmany_k8 x0 x1 x4 m)) = true then
                                          if (mmany_k5 x0 x1 x4 m).2.1 = true then
                                            some ()
                                          else
                                            if decide (mmany_k15 x0 x1 x4) = true then
                                              if decide (mmany_k17 x0 x1) = true then
                                                if (mmany_k16 x0 x1 x4) = true then
                                                  some ()
                                                else
                                                  none
                                              else
                                                none
                                            else
                                              none
                                        else
                                          none
                                      else
                                        none
                                    else
                                      none
                                  else
                                    none
                              else
                                none
                            else
                              none
                          else
                            none
                      else
                        if (mmany_k31 x0 x1) = true then
                          if rightPre (mmany_k6 x1) = true then
                            if (rightG (mmany_k6 x1)) = true then
                              if decide ((0 + (0 + (List.length (mmany_k3 x2)))) ≤ (List.length (mmany_k3 x2))) = true then
                                if rightPre (mmany_k9 x2) = true then
                                  if (rightG (mmany_k9 x2)) = true then
                                    if decide (mmany_k28 x1) = true then
                                      if (mmany_k18 x1 x2) = true then
                                        if decide (0 ≤ (withinI x4 (0) (5))) = true then
                                          if decide ((withinI x4 (0) (5)) < 8) = true then
                                            if decide (mmany_k22 x0) = true then
                                              if (Option.isSome (mmany_k8 x0 x1 x4 m)) = true then
                                                if (mmany_k5 x0 x1 x4 m).2.1 = true then
                                                  some ()
                                                else
                                                  if decide (mmany_k15 x0 x1 x4) = true then
                                                    if decide (mmany_k17 x0 x1) = true then
                                                      if (mmany_k16 x0 x1 x4) = true then
                                                        some ()
                                                      else
                                                        none
                                                    else
                                                      none
                                                  else
                                                    none
                                              else
                                                none
                                            else
                                              none
                                          else
                                            none
                                        else
                                          none
                                      else
                                        none
                                    else
                                      none
                                  else
                                    if decide (0 ≤ (withinI x4 (0) (5))) = true then
                                      if decide ((withinI x4 (0) (5)) < 8) = true then
                                        if decide (mmany_k22 x0) = true then
                                          if (Option.isSome (mmany_k8 x0 x1 x4 m)) = true then
                                            if (mmany_k5 x0 x1 x4 m).2.1 = true then
                                              some ()
                                            else
                                              if decide (mmany_k15 x0 x1 x4) = true then
                                                if decide (mmany_k17 x0 x1) = true then
                                                  if (mmany_k16 x0 x1 x4) = true then
                                                    some ()
                                                  else
                                                    none
                                                else
                                                  none
                                              else
                                                none
                                          else
                                            none
                                        else
                                          none
                                      else
                                        none
                                    else
                                      none
                                else
                                  none
                              else
                                none
                            else
                              if decide (0 ≤ (withinI x4 (0) (5))) = true then
                                if decide ((withinI x4 (0) (5)) < 8) = true then
                                  if decide (mmany_k22 x0) = true then
                                    if (Option.isSome (mmany_k8 x0 x1 x4 m)) = true then
                                      if (mmany_k5 x0 x1 x4 m).2.1 = true then
                                        some ()
                                      else
                                        if decide (mmany_k15 x0 x1 x4) = true then
                                          if decide (mmany_k17 x0 x1) = true then
                                            if (mmany_k16 x0 x1 x4) = true then
                                              some ()
                                            else
                                              none
                                          else
                                            none
                                        else
                                          none
                                    else
                                      none
                                  else
                                    none
                                else
                                  none
                              else
                                none
                          else
                            none
                        else
                          none
                    else
                      none
                  else
                    none
                else
                  none
              else
                none
            else
              none
          else
            none
        else
          none
      else
        none
    else
      none
  else
    none

set_option maxHeartbeats 20000000 in
theorem mmany_w0 (m : Nat) (x0 : (List Int) × (List Int)) (x1 : List ((List UInt8) × (List UInt8) × Int)) (x2 : List ((List UInt8) × (List UInt8) × Int)) (x3 : Int) (x4 : Int) (c1 : (decide (0 ≤ (mmany_k10 x1)) && decide ((mmany_k10 x1) ≤ (mmany_k29 x1))) = true) (c2 : decide (((0 + (List.length (mmany_k1 x1))) * 40) ≤ 70368744177664) = true) (c4 : (decide (0 ≤ (mmany_k11 x2)) && decide ((mmany_k11 x2) ≤ (mmany_k30 x2))) = true) (c5 : decide (((0 + (List.length (mmany_k3 x2))) * 40) ≤ 70368744177664) = true) (c7 : ((decide (0 ≤ (((0 + (List.length (mmany_k1 x1))) : Nat) : Int)) && decide ((((0 + (List.length (mmany_k1 x1))) : Nat) : Int) ≤ 2305843009213693951)) && decide (((((0 + (List.length (mmany_k1 x1))) : Nat) : Int) - (0)) ≤ 2305843009213693951)) = true) (c8 : decide ((0 + (0 + (List.length (mmany_k1 x1)))) ≤ (List.length (mmany_k1 x1))) = true) (c9 : decide (mmany_k20 x0 x1) = true) (c10 : (decide (0 ≤ (mmany_k4 x1 x3)) && decide ((mmany_k4 x1 x3) ≤ (((0 + (List.length (mmany_k1 x1))) : Nat) : Int))) = true) (c12 : decide ((0 + ((Int.toNat (mmany_k4 x1 x3)) - 0)) ≤ (List.length (mmany_k1 x1))) = true) (c13 : decide (mmany_k19 x0 x1 x3) = true) (c14 : (mmany_k27 x0 x1 x3) = true) (c19 : (decide ((Int.toNat (mmany_k4 x1 x3)) < (0 + (List.length (mmany_k1 x1)))) || decide ((Int.toNat (mmany_k4 x1 x3)) = 0)) = true) (c21 : decide (((0 + (Int.toNat (mmany_k4 x1 x3))) + ((0 + (List.length (mmany_k1 x1))) - (Int.toNat (mmany_k4 x1 x3)))) ≤ (List.length (mmany_k1 x1))) = true) (c22 : decide (mmany_k25 x0 x1 x3) = true) (c24 : (mmany_k26 x0 x1 x3) = true) (c26 : rightPre (mmany_k6 x1) = true) (c27 : (rightG (mmany_k6 x1)) = true) (c29 : decide ((0 + (0 + (List.length (mmany_k3 x2)))) ≤ (List.length (mmany_k3 x2))) = true) (c30 : rightPre (mmany_k9 x2) = true) (c32 : (rightG (mmany_k9 x2)) = true) (c46 : decide (mmany_k28 x1) = true) (c49 : (mmany_k18 x1 x2) = true) (c52 : decide (0 ≤ (withinI x4 (0) (5))) = true) (c53 : decide ((withinI x4 (0) (5)) < 8) = true) (c54 : decide (mmany_k22 x0) = true) (c55 : (Option.isSome (mmany_k8 x0 x1 x4 m)) = true) (c56 : (mmany_k5 x0 x1 x4 m).2.1 = true) : (evCall F S20 (m + 25) 8 [(.agg [(.d (.sl (.int .i64) x0.1)), (.d (.sl (.int .i64) x0.2))]), (.d (.sl (.pair .str (.pair .str (.int .i64))) x1)), (.d (.sl (.pair .str (.pair .str (.int .i64))) x2)), (.d (.int .i64 x3)), (.d (.int .i64 x4))] []).run = some (.d (.bool true), []) := by
  refine runT_ok (LS := (fun k => if k = 4231240368651202111576064 then some (mmany_k12 x0 x1 x4 m) else none)) (fn := fn8) (r := .d (.bool true)) (B' := []) (vis := [(4231240368651202111576064, [.top, .top, .top, .top, .top, .top, .top, .top, .top, .top, .top, (.d (.sl (.pair .str .str) (setG x0))), (.sr 0 0 (0 + (List.length (mmany_k1 x1))) 3 none), .top, .top, (.d (.sl (.pair .str .str) (mmany_k2 x0 x4))), (.d (.bool false)), .top, .top, .top, .top, .top, .top, .top, .top, .top, .top, .top, .top, .top, .top, .top, .top, .top, .top, .top, .top, .top, .top, .top, .top, .top, .top, .top, .top, .top, .top, .top, .top, .top, .top, .top, .top, .top, .top, .top, .top, .top, .top, .top, .top, .top, .top, .top, .top, .top, .top, .top, .top, .top, .top, .top, .top, .top, .top, .top, .top, .top, .top, (.sr 0 0 (0 + (List.length (mmany_k1 x1))) 3 none), (.d (.int .i64 (((0 + (List.length (mmany_k1 x1))) : Nat) : Int))), (.d (.int .i64 (0))), .top, .top, .top, .top, .top, .top, .top, .top, .top, .top, .top, .top, .top, .top, .top, .top, .top, .top, .top, .top, .top, .top, .top], [(.arr (.pair .str (.pair .str (.int .i64))) (mmany_k1 x1) true)])]) (by kernel_rfl) rfl (by kernel_rfl) (M.run_of_path _ [true, true, true, true, true, true, true, true, true, true, true, true, true, true, true, true, true, true, true, true, true, true, true, true, false, true, true, true, true, true, true, true, true, true, true, true, true, true, true, true, true, true, true, true, true, true, true, true, true, false, true, true, true, true, true, true, true, true, true, true, true, true, true, true, true] _ _ (by kernel_rfl) (all_t rfl (all_t c1 (all_t c2 (all_t rfl (all_t c4 (all_t c5 (all_t rfl (all_t c7 (all_t c8 (all_t c9 (all_t c10 (all_t (show (decide (0 < (0 + (List.length (mmany_k1 x1)))) || true) = true from Bool.or_true _) (all_t c12 (all_t c13 (all_t c14 (all_t c14 (all_t c14 (all_t c14 (all_t c10 (all_t c19 (all_t c14 (all_t c21 (all_t c22 (all_t c14 (all_nt c24 (all_t c8 (all_t c26 (all_t c27 (all_t c27 (all_t c29 (all_t c30 (all_t c27 (all_t c32 (all_t c32 (all_t c8 (all_t c26 (all_t c32 (all_t c32 (all_t c29 (all_t c30 (all_t c32 (all_t c32 (all_t c32 (all_t c32 (all_t c8 (all_t c29 (all_t c46 (all_t c32 (all_t c32 (all_nt c49 (all_t rfl (all_t rfl (all_t c52 (all_t c53 (all_t c54 (all_t c56 (all_t c56 (all_t c56 (all_t c56 (all_t c56 (all_t c56 (all_t c56 (all_t c56 (all_t rfl (all_t rfl all_nil)))))))))))))))))))))))))))))))))))))))))))))))))))))))))))))))))) ?_
  intro p hp p2 hq
  rcases List.mem_cons.1 hp with rfl | hp
  · skip
    have h3 := l8_0_ok m (m + 24) ((setG x0)) ((mmany_k2 x0 x4)) false ((((0 + (List.length (mmany_k1 x1))) : Nat) : Int)) 0 ((mmany_k1 x1)) _ (some_getD (d := l8_0D) c55)
    have h3 := turns_eq (e := [.top, .top, .top, .top, .top, .top, .top, .top, .top, .top, .top, (.d (.sl (.pair .str .str) (setG x0))), (.sr 0 0 (0 + (List.length (mmany_k1 x1))) 3 none), .top, .top, (.d (.sl (.pair .str .str) (mmany_k2 x0 x4))), (.d (.bool false)), .top, .top, .top, .top, .top, .top, .top, .top, .top, .top, .top, .top, .top, .top, .top, .top, .top, .top, .top, .top, .top, .top, .top, .top, .top, .top, .top, .top, .top, .top, .top, .top, .top, .top, .top, .top, .top, .top, .top, .top, .top, .top, .top, .top, .top, .top, .top, .top, .top, .top, .top, .top, .top, .top, .top, .top, .top, .top, .top, .top, .top, .top, (.sr 0 0 (0 + (List.length (mmany_k1 x1))) 3 none), (.d (.int .i64 (((0 + (List.length (mmany_k1 x1))) : Nat) : Int))), (.d (.int .i64 (0))), .top, .top, .top, .top, .top, .top, .top, .top, .top, .top, .top, .top, .top, .top, .top, .top, .top, .top, .top, .top, .top, .top, .top]) (B := [(.arr (.pair .str (.pair .str (.int .i64))) (mmany_k1 x1) true)]) (by unfold l8_0H; (try rw [show (0 + (List.length (mmany_k1 x1))) = (List.length (mmany_k1 x1)) from by simp])) rfl h3
    exact Eq.trans (Eq.mp (by kernel_rfl) h3) hq
  cases hp

set_option maxHeartbeats 20000000 in
theorem mmany_w1 (m : Nat) (x0 : (List Int) × (List Int)) (x1 : List ((List UInt8) × (List UInt8) × Int)) (x2 : List ((List UInt8) × (List UInt8) × Int)) (x3 : Int) (x4 : Int) (c1 : (decide (0 ≤ (mmany_k10 x1)) && decide ((mmany_k10 x1) ≤ (mmany_k29 x1))) = true) (c2 : decide (((0 + (List.length (mmany_k1 x1))) * 40) ≤ 70368744177664) = true) (c4 : (decide (0 ≤ (mmany_k11 x2)) && decide ((mmany_k11 x2) ≤ (mmany_k30 x2))) = true) (c5 : decide (((0 + (List.length (mmany_k3 x2))) * 40) ≤ 70368744177664) = true) (c7 : ((decide (0 ≤ (((0 + (List.length (mmany_k1 x1))) : Nat) : Int)) && decide ((((0 + (List.length (mmany_k1 x1))) : Nat) : Int) ≤ 2305843009213693951)) && decide (((((0 + (List.length (mmany_k1 x1))) : Nat) : Int) - (0)) ≤ 2305843009213693951)) = true) (c8 : decide ((0 + (0 + (List.length (mmany_k1 x1)))) ≤ (List.length (mmany_k1 x1))) = true) (c9 : decide (mmany_k20 x0 x1) = true) (c10 : (decide (0 ≤ (mmany_k4 x1 x3)) && decide ((mmany_k4 x1 x3) ≤ (((0 + (List.length (mmany_k1 x1))) : Nat) : Int))) = true) (c12 : decide ((0 + ((Int.toNat (mmany_k4 x1 x3)) - 0)) ≤ (List.length (mmany_k1 x1))) = true) (c13 : decide (mmany_k19 x0 x1 x3) = true) (c14 : (mmany_k27 x0 x1 x3) = true) (c19 : (decide ((Int.toNat (mmany_k4 x1 x3)) < (0 + (List.length (mmany_k1 x1)))) || decide ((Int.toNat (mmany_k4 x1 x3)) = 0)) = true) (c21 : decide (((0 + (Int.toNat (mmany_k4 x1 x3))) + ((0 + (List.length (mmany_k1 x1))) - (Int.toNat (mmany_k4 x1 x3)))) ≤ (List.length (mmany_k1 x1))) = true) (c22 : decide (mmany_k25 x0 x1 x3) = true) (c24 : (mmany_k26 x0 x1 x3) = true) (c26 : rightPre (mmany_k6 x1) = true) (c27 : (rightG (mmany_k6 x1)) = true) (c29 : decide ((0 + (0 + (List.length (mmany_k3 x2)))) ≤ (List.length (mmany_k3 x2))) = true) (c30 : rightPre (mmany_k9 x2) = true) (c32 : (rightG (mmany_k9 x2)) = true) (c46 : decide (mmany_k28 x1) = true) (c49 : (mmany_k18 x1 x2) = true) (c52 : decide (0 ≤ (withinI x4 (0) (5))) = true) (c53 : decide ((withinI x4 (0) (5)) < 8) = true) (c54 : decide (mmany_k22 x0) = true) (c55 : (Option.isSome (mmany_k8 x0 x1 x4 m)) = true) (c56 : ¬ (mmany_k5 x0 x1 x4 m).2.1 = true) (c60 : decide (mmany_k15 x0 x1 x4) = true) (c65 : decide (mmany_k17 x0 x1) = true) (c68 : (mmany_k16 x0 x1 x4) = true) : (evCall F S20 (m + 25) 8 [(.agg [(.d (.sl (.int .i64) x0.1)), (.d (.sl (.int .i64) x0.2))]), (.d (.sl (.pair .str (.pair .str (.int .i64))) x1)), (.d (.sl (.pair .str (.pair .str (.int .i64))) x2)), (.d (.int .i64 x3)), (.d (.int .i64 x4))] []).run = some (.d (.bool true), []) := by
  refine runT_ok (LS := (fun k => if k = 4231240368651202111576064 then some (mmany_k12 x0 x1 x4 m) else none)) (fn := fn8) (r := .d (.bool true)) (B' := []) (vis := [(4231240368651202111576064, [.top, .top, .top, .top, .top, .top, .top, .top, .top, .top, .top, (.d (.sl (.pair .str .str) (setG x0))), (.sr 0 0 (0 + (List.length (mmany_k1 x1))) 3 none), .top, .top, (.d (.sl (.pair .str .str) (mmany_k2 x0 x4))), (.d (.bool false)), .top, .top, .top, .top, .top, .top, .top, .top, .top, .top, .top, .top, .top, .top, .top, .top, .top, .top, .top, .top, .top, .top, .top, .top, .top, .top, .top, .top, .top, .top, .top, .top, .top, .top, .top, .top, .top, .top, .top, .top, .top, .top, .top, .top, .top, .top, .top, .top, .top, .top, .top, .top, .top, .top, .top, .top, .top, .top, .top, .top, .top, .top, (.sr 0 0 (0 + (List.length (mmany_k1 x1))) 3 none), (.d (.int .i64 (((0 + (List.length (mmany_k1 x1))) : Nat) : Int))), (.d (.int .i64 (0))), .top, .top, .top, .top, .top, .top, .top, .top, .top, .top, .top, .top, .top, .top, .top, .top, .top, .top, .top, .top, .top, .top, .top], [(.arr (.pair .str (.pair .str (.int .i64))) (mmany_k1 x1) true)])]) (by kernel_rfl) rfl (by kernel_rfl) (M.run_of_path _ [true, true, true, true, true, true, true, true, true, true, true, true, true, true, true, true, true, true, true, true, true, true, true, true, false, true, true, true, true, true, true, true, true, true, true, true, true, true, true, true, true, true, true, true, true, true, true, true, true, false, true, true, true, true, true, false, false, false, true, true, false, false, false, true, true, false, false, true, true] _ _ (by kernel_rfl) (all_t rfl (all_t c1 (all_t c2 (all_t rfl (all_t c4 (all_t c5 (all_t rfl (all_t c7 (all_t c8 (all_t c9 (all_t c10 (all_t (show (decide (0 < (0 + (List.length (mmany_k1 x1)))) || true) = true from Bool.or_true _) (all_t c12 (all_t c13 (all_t c14 (all_t c14 (all_t c14 (all_t c14 (all_t c10 (all_t c19 (all_t c14 (all_t c21 (all_t c22 (all_t c14 (all_nt c24 (all_t c8 (all_t c26 (all_t c27 (all_t c27 (all_t c29 (all_t c30 (all_t c27 (all_t c32 (all_t c32 (all_t c8 (all_t c26 (all_t c32 (all_t c32 (all_t c29 (all_t c30 (all_t c32 (all_t c32 (all_t c32 (all_t c32 (all_t c8 (all_t c29 (all_t c46 (all_t c32 (all_t c32 (all_nt c49 (all_t rfl (all_t rfl (all_t c52 (all_t c53 (all_t c54 (all_f c56 (all_f c56 (all_f c56 (all_t (show decide ((0 + (mmany_k21 x1)) ≤ (mmany_k21 x1)) = true from decide_eq_true (Nat.le_of_eq (Nat.zero_add _))) (all_t c60 (all_f c56 (all_f c56 (all_f c56 (all_t (show decide ((0 + (mmany_k21 x1)) ≤ (mmany_k21 x1)) = true from decide_eq_true (Nat.le_of_eq (Nat.zero_add _))) (all_t c65 (all_f c56 (all_f c56 (all_t c68 (all_t c68 all_nil)))))))))))))))))))))))))))))))))))))))))))))))))))))))))))))))))))))) ?_
  intro p hp p2 hq
  rcases List.mem_cons.1 hp with rfl | hp
  · skip
    have h3 := l8_0_ok m (m + 24) ((setG x0)) ((mmany_k2 x0 x4)) false ((((0 + (List.length (mmany_k1 x1))) : Nat) : Int)) 0 ((mmany_k1 x1)) _ (some_getD (d := l8_0D) c55)
    have h3 := turns_eq (e := [.top, .top, .top, .top, .top, .top, .top, .top, .top, .top, .top, (.d (.sl (.pair .str .str) (setG x0))), (.sr 0 0 (0 + (List.length (mmany_k1 x1))) 3 none), .top, .top, (.d (.sl (.pair .str .str) (mmany_k2 x0 x4))), (.d (.bool false)), .top, .top, .top, .top, .top, .top, .top, .top, .top, .top, .top, .top, .top, .top, .top, .top, .top, .top, .top, .top, .top, .top, .top, .top, .top, .top, .top, .top, .top, .top, .top, .top, .top, .top, .top, .top, .top, .top, .top, .top, .top, .top, .top, .top, .top, .top, .top, .top, .top, .top, .top, .top, .top, .top, .top, .top, .top, .top, .top, .top, .top, .top, (.sr 0 0 (0 + (List.length (mmany_k1 x1))) 3 none), (.d (.int .i64 (((0 + (List.length (mmany_k1 x1))) : Nat) : Int))), (.d (.int .i64 (0))), .top, .top, .top, .top, .top, .top, .top, .top, .top, .top, .top, .top, .top, .top, .top, .top, .top, .top, .top, .top, .top, .top, .top]) (B := [(.arr (.pair .str (.pair .str (.int .i64))) (mmany_k1 x1) true)]) (by unfold l8_0H; (try rw [show (0 + (List.length (mmany_k1 x1))) = (List.length (mmany_k1 x1)) from by simp])) rfl h3
    exact Eq.trans (Eq.mp (by kernel_rfl) h3) hq
  cases hp

set_option maxHeartbeats 20000000 in
theorem mmany_w2 (m : Nat) (x0 : (List Int) × (List Int)) (x1 : List ((List UInt8) × (List UInt8) × Int)) (x2 : List ((List UInt8) × (List UInt8) × Int)) (x3 : Int) (x4 : Int) (c1 : (decide (0 ≤ (mmany_k10 x1)) && decide ((mmany_k10 x1) ≤ (mmany_k29 x1))) = true) (c2 : decide (((0 + (List.length (mmany_k1 x1))) * 40) ≤ 70368744177664) = true) (c4 : (decide (0 ≤ (mmany_k11 x2)) && decide ((mmany_k11 x2) ≤ (mmany_k30 x2))) = true) (c5 : decide (((0 + (List.length (mmany_k3 x2))) * 40) ≤ 70368744177664) = true) (c7 : ((decide (0 ≤ (((0 + (List.length (mmany_k1 x1))) : Nat) : Int)) && decide ((((0 + (List.length (mmany_k1 x1))) : Nat) : Int) ≤ 2305843009213693951)) && decide (((((0 + (List.length (mmany_k1 x1))) : Nat) : Int) - (0)) ≤ 2305843009213693951)) = true) (c8 : decide ((0 + (0 + (List.length (mmany_k1 x1)))) ≤ (List.length (mmany_k1 x1))) = true) (c9 : decide (mmany_k20 x0 x1) = true) (c10 : (decide (0 ≤ (mmany_k4 x1 x3)) && decide ((mmany_k4 x1 x3) ≤ (((0 + (List.length (mmany_k1 x1))) : Nat) : Int))) = true) (c12 : decide ((0 + ((Int.toNat (mmany_k4 x1 x3)) - 0)) ≤ (List.length (mmany_k1 x1))) = true) (c13 : decide (mmany_k19 x0 x1 x3) = true) (c14 : (mmany_k27 x0 x1 x3) = true) (c19 : (decide ((Int.toNat (mmany_k4 x1 x3)) < (0 + (List.length (mmany_k1 x1)))) || decide ((Int.toNat (mmany_k4 x1 x3)) = 0)) = true) (c21 : decide (((0 + (Int.toNat (mmany_k4 x1 x3))) + ((0 + (List.length (mmany_k1 x1))) - (Int.toNat (mmany_k4 x1 x3)))) ≤ (List.length (mmany_k1 x1))) = true) (c22 : decide (mmany_k25 x0 x1 x3) = true) (c24 : (mmany_k26 x0 x1 x3) = true) (c26 : rightPre (mmany_k6 x1) = true) (c27 : (rightG (mmany_k6 x1)) = true) (c29 : decide ((0 + (0 + (List.length (mmany_k3 x2)))) ≤ (List.length (mmany_k3 x2))) = true) (c30 : rightPre (mmany_k9 x2) = true) (c32 : ¬ (rightG (mmany_k9 x2)) = true) (c45 : decide (0 ≤ (withinI x4 (0) (5))) = true) (c46 : decide ((withinI x4 (0) (5)) < 8) = true) (c47 : decide (mmany_k22 x0) = true) (c48 : (Option.isSome (mmany_k8 x0 x1 x4 m)) = true) (c49 : (mmany_k5 x0 x1 x4 m).2.1 = true) : (evCall F S20 (m + 25) 8 [(.agg [(.d (.sl (.int .i64) x0.1)), (.d (.sl (.int .i64) x0.2))]), (.d (.sl (.pair .str (.pair .str (.int .i64))) x1)), (.d (.sl (.pair .str (.pair .str (.int .i64))) x2)), (.d (.int .i64 x3)), (.d (.int .i64 x4))] []).run = some (.d (.bool true), []) := by
  refine runT_ok (LS := (fun k => if k = 4231240368651202111576064 then some (mmany_k12 x0 x1 x4 m) else none)) (fn := fn8) (r := .d (.bool true)) (B' := []) (vis := [(4231240368651202111576064, [.top, .top, .top, .top, .top, .top, .top, .top, .top, .top, .top, (.d (.sl (.pair .str .str) (setG x0))), (.sr 0 0 (0 + (List.length (mmany_k1 x1))) 3 none), .top, .top, (.d (.sl (.pair .str .str) (mmany_k2 x0 x4))), (.d (.bool false)), .top, .top, .top, .top, .top, .top, .top, .top, .top, .top, .top, .top, .top, .top, .top, .top, .top, .top, .top, .top, .top, .top, .top, .top, .top, .top, .top, .top, .top, .top, .top, .top, .top, .top, .top, .top, .top, .top, .top, .top, .top, .top, .top, .top, .top, .top, .top, .top, .top, .top, .top, .top, .top, .top, .top, .top, .top, .top, .top, .top, .top, .top, (.sr 0 0 (0 + (List.length (mmany_k1 x1))) 3 none), (.d (.int .i64 (((0 + (List.length (mmany_k1 x1))) : Nat) : Int))), (.d (.int .i64 (0))), .top, .top, .top, .top, .top, .top, .top, .top, .top, .top, .top, .top, .top, .top, .top, .top, .top, .top, .top, .top, .top, .top, .top], [(.arr (.pair .str (.pair .str (.int .i64))) (mmany_k1 x1) true)])]) (by kernel_rfl) rfl (by kernel_rfl) (M.run_of_path _ [true, true, true, true, true, true, true, true, true, true, true, true, true, true, true, true, true, true, true, true, true, true, true, true, false, true, true, true, true, true, true, true, false, false, false, false, false, false, false, false, false, false, false, true, true, true, true, true, true, true, true, true, true, true, true, true, true, true] _ _ (by kernel_rfl) (all_t rfl (all_t c1 (all_t c2 (all_t rfl (all_t c4 (all_t c5 (all_t rfl (all_t c7 (all_t c8 (all_t c9 (all_t c10 (all_t (show (decide (0 < (0 + (List.length (mmany_k1 x1)))) || true) = true from Bool.or_true _) (all_t c12 (all_t c13 (all_t c14 (all_t c14 (all_t c14 (all_t c14 (all_t c10 (all_t c19 (all_t c14 (all_t c21 (all_t c22 (all_t c14 (all_nt c24 (all_t c8 (all_t c26 (all_t c27 (all_t c27 (all_t c29 (all_t c30 (all_t c27 (all_f c32 (all_f c32 (all_f c32 (all_f c32 (all_f c32 (all_f c32 (all_f c32 (all_f c32 (all_f c32 (all_f c32 (all_f Bool.false_ne_true (all_t rfl (all_t rfl (all_t c45 (all_t c46 (all_t c47 (all_t c49 (all_t c49 (all_t c49 (all_t c49 (all_t c49 (all_t c49 (all_t c49 (all_t c49 (all_t rfl (all_t rfl all_nil))))))))))))))))))))))))))))))))))))))))))))))))))))))))))) ?_
  intro p hp p2 hq
  rcases List.mem_cons.1 hp with rfl | hp
  · skip
    have h3 := l8_0_ok m (m + 24) ((setG x0)) ((mmany_k2 x0 x4)) false ((((0 + (List.length (mmany_k1 x1))) : Nat) : Int)) 0 ((mmany_k1 x1)) _ (some_getD (d := l8_0D) c48)
    have h3 := turns_eq (e := [.top, .top, .top, .top, .top, .top, .top, .top, .top, .top, .top, (.d (.sl (.pair .str .str) (setG x0))), (.sr 0 0 (0 + (List.length (mmany_k1 x1))) 3 none), .top, .top, (.d (.sl (.pair .str .str) (mmany_k2 x0 x4))), (.d (.bool false)), .top, .top, .top, .top, .top, .top, .top, .top, .top, .top, .top, .top, .top, .top, .top, .top, .top, .top, .top, .top, .top, .top, .top, .top, .top, .top, .top, .top, .top, .top, .top, .top, .top, .top, .top, .top, .top, .top, .top, .top, .top, .top, .top, .top, .top, .top, .top, .top, .top, .top, .top, .top, .top, .top, .top, .top, .top, .top, .top, .top, .top, .top, (.sr 0 0 (0 + (List.length (mmany_k1 x1))) 3 none), (.d (.int .i64 (((0 + (List.length (mmany_k1 x1))) : Nat) : Int))), (.d (.int .i64 (0))), .top, .top, .top, .top, .top, .top, .top, .top, .top, .top, .top, .top, .top, .top, .top, .top, .top, .top, .top, .top, .top, .top, .top]) (B := [(.arr (.pair .str (.pair .str (.int .i64))) (mmany_k1 x1) true)]) (by unfold l8_0H; (try rw [show (0 + (List.length (mmany_k1 x1))) = (List.length (mmany_k1 x1)) from by simp])) rfl h3
    exact Eq.trans (Eq.mp (by kernel_rfl) h3) hq
  cases hp

set_option maxHeartbeats 20000000 in
theorem mmany_w3 (m : Nat) (x0 : (List Int) × (List Int)) (x1 : List ((List UInt8) × (List UInt8) × Int)) (x2 : List ((List UInt8) × (List UInt8) × Int)) (x3 : Int) (x4 : Int) (c1 : (decide (0 ≤ (mmany_k10 x1)) && decide ((mmany_k10 x1) ≤ (mmany_k29 x1))) = true) (c2 : decide (((0 + (List.length (mmany_k1 x1))) * 40) ≤ 70368744177664) = true) (c4 : (decide (0 ≤ (mmany_k11 x2)) && decide ((mmany_k11 x2) ≤ (mmany_k30 x2))) = true) (c5 : decide (((0 + (List.length (mmany_k3 x2))) * 40) ≤ 70368744177664) = true) (c7 : ((decide (0 ≤ (((0 + (List.length (mmany_k1 x1))) : Nat) : Int)) && decide ((((0 + (List.length (mmany_k1 x1))) : Nat) : Int) ≤ 2305843009213693951)) && decide (((((0 + (List.length (mmany_k1 x1))) : Nat) : Int) - (0)) ≤ 2305843009213693951)) = true) (c8 : decide ((0 + (0 + (List.length (mmany_k1 x1)))) ≤ (List.length (mmany_k1 x1))) = true) (c9 : decide (mmany_k20 x0 x1) = true) (c10 : (decide (0 ≤ (mmany_k4 x1 x3)) && decide ((mmany_k4 x1 x3) ≤ (((0 + (List.length (mmany_k1 x1))) : Nat) : Int))) = true) (c12 : decide ((0 + ((Int.toNat (mmany_k4 x1 x3)) - 0)) ≤ (List.length (mmany_k1 x1))) = true) (c13 : decide (mmany_k19 x0 x1 x3) = true) (c14 : (mmany_k27 x0 x1 x3) = true) (c19 : (decide ((Int.toNat (mmany_k4 x1 x3)) < (0 + (List.length (mmany_k1 x1)))) || decide ((Int.toNat (mmany_k4 x1 x3)) = 0)) = true) (c21 : decide (((0 + (Int.toNat (mmany_k4 x1 x3))) + ((0 + (List.length (mmany_k1 x1))) - (Int.toNat (mmany_k4 x1 x3)))) ≤ (List.length (mmany_k1 x1))) = true) (c22 : decide (mmany_k25 x0 x1 x3) = true) (c24 : (mmany_k26 x0 x1 x3) = true) (c26 : rightPre (mmany_k6 x1) = true) (c27 : (rightG (mmany_k6 x1)) = true) (c29 : decide ((0 + (0 + (List.length (mmany_k3 x2)))) ≤ (List.length (mmany_k3 x2))) = true) (c30 : rightPre (mmany_k9 x2) = true) (c32 : ¬ (rightG (mmany_k9 x2)) = true) (c45 : decide (0 ≤ (withinI x4 (0) (5))) = true) (c46 : decide ((withinI x4 (0) (5)) < 8) = true) (c47 : decide (mmany_k22 x0) = true) (c48 : (Option.isSome (mmany_k8 x0 x1 x4 m)) = true) (c49 : ¬ (mmany_k5 x0 x1 x4 m).2.1 = true) (c53 : decide (mmany_k15 x0 x1 x4) = true) (c58 : decide (mmany_k17 x0 x1) = true) (c61 : (mmany_k16 x0 x1 x4) = true) : (evCall F S20 (m + 25) 8 [(.agg [(.d (.sl (.int .i64) x0.1)), (.d (.sl (.int .i64) x0.2))]), (.d (.sl (.pair .str (.pair .str (.int .i64))) x1)), (.d (.sl (.pair .str (.pair .str (.int .i64))) x2)), (.d (.int .i64 x3)), (.d (.int .i64 x4))] []).run = some (.d (.bool true), []) := by
  refine runT_ok (LS := (fun k => if k = 4231240368651202111576064 then some (mmany_k12 x0 x1 x4 m) else none)) (fn := fn8) (r := .d (.bool true)) (B' := []) (vis := [(4231240368651202111576064, [.top, .top, .top, .top, .top, .top, .top, .top, .top, .top, .top, (.d (.sl (.pair .str .str) (setG x0))), (.sr 0 0 (0 + (List.length (mmany_k1 x1))) 3 none), .top, .top, (.d (.sl (.pair .str .str) (mmany_k2 x0 x4))), (.d (.bool false)), .top, .top, .top, .top, .top, .top, .top, .top, .top, .top, .top, .top, .top, .top, .top, .top, .top, .top, .top, .top, .top, .top, .top, .top, .top, .top, .top, .top, .top, .top, .top, .top, .top, .top, .top, .top, .top, .top, .top, .top, .top, .top, .top, .top, .top, .top, .top, .top, .top, .top, .top, .top, .top, .top, .top, .top, .top, .top, .top, .top, .top, .top, (.sr 0 0 (0 + (List.length (mmany_k1 x1))) 3 none), (.d (.int .i64 (((0 + (List.length (mmany_k1 x1))) : Nat) : Int))), (.d (.int .i64 (0))), .top, .top, .top, .top, .top, .top, .top, .top, .top, .top, .top, .top, .top, .top, .top, .top, .top, .top, .top, .top, .top, .top, .top], [(.arr (.pair .str (.pair .str (.int .i64))) (mmany_k1 x1) true)])]) (by kernel_rfl) rfl (by kernel_rfl) (M.run_of_path _ [true, true, true, true, true, true, true, true, true, true, true, true, true, true, true, true, true, true, true, true, true, true, true, true, false, true, true, true, true, true, true, true, false, false, false, false, false, false, false, false, false, false, false, true, true, true, true, true, false, false, false, true, true, false, false, false, true, true, false, false, true, true] _ _ (by kernel_rfl) (all_t rfl (all_t c1 (all_t c2 (all_t rfl (all_t c4 (all_t c5 (all_t rfl (all_t c7 (all_t c8 (all_t c9 (all_t c10 (all_t (show (decide (0 < (0 + (List.length (mmany_k1 x1)))) || true) = true from Bool.or_true _) (all_t c12 (all_t c13 (all_t c14 (all_t c14 (all_t c14 (all_t c14 (all_t c10 (all_t c19 (all_t c14 (all_t c21 (all_t c22 (all_t c14 (all_nt c24 (all_t c8 (all_t c26 (all_t c27 (all_t c27 (all_t c29 (all_t c30 (all_t c27 (all_f c32 (all_f c32 (all_f c32 (all_f c32 (all_f c32 (all_f c32 (all_f c32 (all_f c32 (all_f c32 (all_f c32 (all_f Bool.false_ne_true (all_t rfl (all_t rfl (all_t c45 (all_t c46 (all_t c47 (all_f c49 (all_f c49 (all_f c49 (all_t (show decide ((0 + (mmany_k21 x1)) ≤ (mmany_k21 x1)) = true from decide_eq_true (Nat.le_of_eq (Nat.zero_add _))) (all_t c53 (all_f c49 (all_f c49 (all_f c49 (all_t (show decide ((0 + (mmany_k21 x1)) ≤ (mmany_k21 x1)) = true from decide_eq_true (Nat.le_of_eq (Nat.zero_add _))) (all_t c58 (all_f c49 (all_f c49 (all_t c61 (all_t c61 all_nil))))))))))))))))))))))))))))))))))))))))))))))))))))))))))))))) ?_
  intro p hp p2 hq
  rcases List.mem_cons.1 hp with rfl | hp
  · skip
    have h3 := l8_0_ok m (m + 24) ((setG x0)) ((mmany_k2 x0 x4)) false ((((0 + (List.length (mmany_k1 x1))) : Nat) : Int)) 0 ((mmany_k1 x1)) _ (some_getD (d := l8_0D) c48)
    have h3 := turns_eq (e := [.top, .top, .top, .top, .top, .top, .top, .top, .top, .top, .top, (.d (.sl (.pair .str .str) (setG x0))), (.sr 0 0 (0 + (List.length (mmany_k1 x1))) 3 none), .top, .top, (.d (.sl (.pair .str .str) (mmany_k2 x0 x4))), (.d (.bool false)), .top, .top, .top, .top, .top, .top, .top, .top, .top, .top, .top, .top, .top, .top, .top, .top, .top, .top, .top, .top, .top, .top, .top, .top, .top, .top, .top, .top, .top, .top, .top, .top, .top, .top, .top, .top, .top, .top, .top, .top, .top, .top, .top, .top, .top, .top, .top, .top, .top, .top, .top, .top, .top, .top, .top, .top, .top, .top, .top, .top, .top, .top, (.sr 0 0 (0 + (List.length (mmany_k1 x1))) 3 none), (.d (.int .i64 (((0 + (List.length (mmany_k1 x1))) : Nat) : Int))), (.d (.int .i64 (0))), .top, .top, .top, .top, .top, .top, .top, .top, .top, .top, .top, .top, .top, .top, .top, .top, .top, .top, .top, .top, .top, .top, .top]) (B := [(.arr (.pair .str (.pair .str (.int .i64))) (mmany_k1 x1) true)]) (by unfold l8_0H; (try rw [show (0 + (List.length (mmany_k1 x1))) = (List.length (mmany_k1 x1)) from by simp])) rfl h3
    exact Eq.trans (Eq.mp (by kernel_rfl) h3) hq
  cases hp

set_option maxHeartbeats 20000000 in
theorem mmany_w4 (m : Nat) (x0 : (List Int) × (List Int)) (x1 : List ((List UInt8) × (List UInt8) × Int)) (x2 : List ((List UInt8) × (List UInt8) × Int)) (x3 : Int) (x4 : Int) (c1 : (decide (0 ≤ (mmany_k10 x1)) && decide ((mmany_k10 x1) ≤ (mmany_k29 x1))) = true) (c2 : decide (((0 + (List.length (mmany_k1 x1))) * 40) ≤ 70368744177664) = true) (c4 : (decide (0 ≤ (mmany_k11 x2)) && decide ((mmany_k11 x2) ≤ (mmany_k30 x2))) = true) (c5 : decide (((0 + (List.length (mmany_k3 x2))) * 40) ≤ 70368744177664) = true) (c7 : ((decide (0 ≤ (((0 + (List.length (mmany_k1 x1))) : Nat) : Int)) && decide ((((0 + (List.length (mmany_k1 x1))) : Nat) : Int) ≤ 2305843009213693951)) && decide (((((0 + (List.length (mmany_k1 x1))) : Nat) : Int) - (0)) ≤ 2305843009213693951)) = true) (c8 : decide ((0 + (0 + (List.length (mmany_k1 x1)))) ≤ (List.length (mmany_k1 x1))) = true) (c9 : decide (mmany_k20 x0 x1) = true) (c10 : (decide (0 ≤ (mmany_k4 x1 x3)) && decide ((mmany_k4 x1 x3) ≤ (((0 + (List.length (mmany_k1 x1))) : Nat) : Int))) = true) (c12 : decide ((0 + ((Int.toNat (mmany_k4 x1 x3)) - 0)) ≤ (List.length (mmany_k1 x1))) = true) (c13 : decide (mmany_k19 x0 x1 x3) = true) (c14 : (mmany_k27 x0 x1 x3) = true) (c19 : (decide ((Int.toNat (mmany_k4 x1 x3)) < (0 + (List.length (mmany_k1 x1)))) || decide ((Int.toNat (mmany_k4 x1 x3)) = 0)) = true) (c21 : decide (((0 + (Int.toNat (mmany_k4 x1 x3))) + ((0 + (List.length (mmany_k1 x1))) - (Int.toNat (mmany_k4 x1 x3)))) ≤ (List.length (mmany_k1 x1))) = true) (c22 : decide (mmany_k25 x0 x1 x3) = true) (c24 : (mmany_k26 x0 x1 x3) = true) (c26 : rightPre (mmany_k6 x1) = true) (c27 : ¬ (rightG (mmany_k6 x1)) = true) (c43 : decide (0 ≤ (withinI x4 (0) (5))) = true) (c44 : decide ((withinI x4 (0) (5)) < 8) = true) (c45 : decide (mmany_k22 x0) = true) (c46 : (Option.isSome (mmany_k8 x0 x1 x4 m)) = true) (c47 : (mmany_k5 x0 x1 x4 m).2.1 = true) : (evCall F S20 (m + 25) 8 [(.agg [(.d (.sl (.int .i64) x0.1)), (.d (.sl (.int .i64) x0.2))]), (.d (.sl (.pair .str (.pair .str (.int .i64))) x1)), (.d (.sl (.pair .str (.pair .str (.int .i64))) x2)), (.d (.int .i64 x3)), (.d (.int .i64 x4))] []).run = some (.d (.bool true), []) := by
  refine runT_ok (LS := (fun k => if k = 4231240368651202111576064 then some (mmany_k12 x0 x1 x4 m) else none)) (fn := fn8) (r := .d (.bool true)) (B' := []) (vis := [(4231240368651202111576064, [.top, .top, .top, .top, .top, .top, .top, .top, .top, .top, .top, (.d (.sl (.pair .str .str) (setG x0))), (.sr 0 0 (0 + (List.length (mmany_k1 x1))) 3 none), .top, .top, (.d (.sl (.pair .str .str) (mmany_k2 x0 x4))), (.d (.bool false)), .top, .top, .top, .top, .top, .top, .top, .top, .top, .top, .top, .top, .top, .top, .top, .top, .top, .top, .top, .top, .top, .top, .top, .top, .top, .top, .top, .top, .top, .top, .top, .top, .top, .top, .top, .top, .top, .top, .top, .top, .top, .top, .top, .top, .top, .top, .top, .top, .top, .top, .top, .top, .top, .top, .top, .top, .top, .top, .top, .top, .top, .top, (.sr 0 0 (0 + (List.length (mmany_k1 x1))) 3 none), (.d (.int .i64 (((0 + (List.length (mmany_k1 x1))) : Nat) : Int))), (.d (.int .i64 (0))), .top, .top, .top, .top, .top, .top, .top, .top, .top, .top, .top, .top, .top, .top, .top, .top, .top, .top, .top, .top, .top, .top, .top], [(.arr (.pair .str (.pair .str (.int .i64))) (mmany_k1 x1) true)])]) (by kernel_rfl) rfl (by kernel_rfl) (M.run_of_path _ [true, true, true, true, true, true, true, true, true, true, true, true, true, true, true, true, true, true, true, true, true, true, true, true, false, true, true, false, false, false, false, false, false, false, false, false, false, false, false, false, false, true, true, true, true, true, true, true, true, true, true, true, true, true, true, true] _ _ (by kernel_rfl) (all_t rfl (all_t c1 (all_t c2 (all_t rfl (all_t c4 (all_t c5 (all_t rfl (all_t c7 (all_t c8 (all_t c9 (all_t c10 (all_t (show (decide (0 < (0 + (List.length (mmany_k1 x1)))) || true) = true from Bool.or_true _) (all_t c12 (all_t c13 (all_t c14 (all_t c14 (all_t c14 (all_t c14 (all_t c10 (all_t c19 (all_t c14 (all_t c21 (all_t c22 (all_t c14 (all_nt c24 (all_t c8 (all_t c26 (all_f c27 (all_f c27 (all_f c27 (all_f Bool.false_ne_true (all_f Bool.false_ne_true (all_f Bool.false_ne_true (all_f Bool.false_ne_true (all_f Bool.false_ne_true (all_f Bool.false_ne_true (all_f Bool.false_ne_true (all_f Bool.false_ne_true (all_f Bool.false_ne_true (all_f Bool.false_ne_true (all_f Bool.false_ne_true (all_t rfl (all_t rfl (all_t c43 (all_t c44 (all_t c45 (all_t c47 (all_t c47 (all_t c47 (all_t c47 (all_t c47 (all_t c47 (all_t c47 (all_t c47 (all_t rfl (all_t rfl all_nil))))))))))))))))))))))))))))))))))))))))))))))))))))))))) ?_
  intro p hp p2 hq
  rcases List.mem_cons.1 hp with rfl | hp
  · skip
    have h3 := l8_0_ok m (m + 24) ((setG x0)) ((mmany_k2 x0 x4)) false ((((0 + (List.length (mmany_k1 x1))) : Nat) : Int)) 0 ((mmany_k1 x1)) _ (some_getD (d := l8_0D) c46)
    have h3 := turns_eq (e := [.top, .top, .top, .top, .top, .top, .top, .top, .top, .top, .top, (.d (.sl (.pair .str .str) (setG x0))), (.sr 0 0 (0 + (List.length (mmany_k1 x1))) 3 none), .top, .top, (.d (.sl (.pair .str .str) (mmany_k2 x0 x4))), (.d (.bool false)), .top, .top, .top, .top, .top, .top, .top, .top, .top, .top, .top, .top, .top, .top, .top, .top, .top, .top, .top, .top, .top, .top, .top, .top, .top, .top, .top, .top, .top, .top, .top, .top, .top, .top, .top, .top, .top, .top, .top, .top, .top, .top, .top, .top, .top, .top, .top, .top, .top, .top, .top, .top, .top, .top, .top, .top, .top, .top, .top, .top, .top, .top, (.sr 0 0 (0 + (List.length (mmany_k1 x1))) 3 none), (.d (.int .i64 (((0 + (List.length (mmany_k1 x1))) : Nat) : Int))), (.d (.int .i64 (0))), .top, .top, .top, .top, .top, .top, .top, .top, .top, .top, .top, .top, .top, .top, .top, .top, .top, .top, .top, .top, .top, .top, .top]) (B := [(.arr (.pair .str (.pair .str (.int .i64))) (mmany_k1 x1) true)]) (by unfold l8_0H; (try rw [show (0 + (List.length (mmany_k1 x1))) = (List.length (mmany_k1 x1)) from by simp])) rfl h3
    exact Eq.trans (Eq.mp (by kernel_rfl) h3) hq
  cases hp

set_option maxHeartbeats 20000000 in
theorem mmany_w5 (m : Nat) (x0 : (List Int) × (List Int)) (x1 : List ((List UInt8) × (List UInt8) × Int)) (x2 : List ((List UInt8) × (List UInt8) × Int)) (x3 : Int) (x4 : Int) (c1 : (decide (0 ≤ (mmany_k10 x1)) && decide ((mmany_k10 x1) ≤ (mmany_k29 x1))) = true) (c2 : decide (((0 + (List.length (mmany_k1 x1))) * 40) ≤ 70368744177664) = true) (c4 : (decide (0 ≤ (mmany_k11 x2)) && decide ((mmany_k11 x2) ≤ (mmany_k30 x2))) = true) (c5 : decide (((0 + (List.length (mmany_k3 x2))) * 40) ≤ 70368744177664) = true) (c7 : ((decide (0 ≤ (((0 + (List.length (mmany_k1 x1))) : Nat) : Int)) && decide ((((0 + (List.length (mmany_k1 x1))) : Nat) : Int) ≤ 2305843009213693951)) && decide (((((0 + (List.length (mmany_k1 x1))) : Nat) : Int) - (0)) ≤ 2305843009213693951)) = true) (c8 : decide ((0 + (0 + (List.length (mmany_k1 x1)))) ≤ (List.length (mmany_k1 x1))) = true) (c9 : decide (mmany_k20 x0 x1) = true) (c10 : (decide (0 ≤ (mmany_k4 x1 x3)) && decide ((mmany_k4 x1 x3) ≤ (((0 + (List.length (mmany_k1 x1))) : Nat) : Int))) = true) (c12 : decide ((0 + ((Int.toNat (mmany_k4 x1 x3)) - 0)) ≤ (List.length (mmany_k1 x1))) = true) (c13 : decide (mmany_k19 x0 x1 x3) = true) (c14 : (mmany_k27 x0 x1 x3) = true) (c19 : (decide ((Int.toNat (mmany_k4 x1 x3)) < (0 + (List.length (mmany_k1 x1)))) || decide ((Int.toNat (mmany_k4 x1 x3)) = 0)) = true) (c21 : decide (((0 + (Int.toNat (mmany_k4 x1 x3))) + ((0 + (List.length (mmany_k1 x1))) - (Int.toNat (mmany_k4 x1 x3)))) ≤ (List.length (mmany_k1 x1))) = true) (c22 : decide (mmany_k25 x0 x1 x3) = true) (c24 : (mmany_k26 x0 x1 x3) = true) (c26 : rightPre (mmany_k6 x1) = true) (c27 : ¬ (rightG (mmany_k6 x1)) = true) (c43 : decide (0 ≤ (withinI x4 (0) (5))) = true) (c44 : decide ((withinI x4 (0) (5)) < 8) = true) (c45 : decide (mmany_k22 x0) = true) (c46 : (Option.isSome (mmany_k8 x0 x1 x4 m)) = true) (c47 : ¬ (mmany_k5 x0 x1 x4 m).2.1 = true) (c51 : decide (mmany_k15 x0 x1 x4) = true) (c56 : decide (mmany_k17 x0 x1) = true) (c59 : (mmany_k16 x0 x1 x4) = true) : (evCall F S20 (m + 25) 8 [(.agg [(.d (.sl (.int .i64) x0.1)), (.d (.sl (.int .i64) x0.2))]), (.d (.sl (.pair .str (.pair .str (.int .i64))) x1)), (.d (.sl (.pair .str (.pair .str (.int .i64))) x2)), (.d (.int .i64 x3)), (.d (.int .i64 x4))] []).run = some (.d (.bool true), []) := by
  refine runT_ok (LS := (fun k => if k = 4231240368651202111576064 then some (mmany_k12 x0 x1 x4 m) else none)) (fn := fn8) (r := .d (.bool true)) (B' := []) (vis := [(4231240368651202111576064, [.top, .top, .top, .top, .top, .top, .top, .top, .top, .top, .top, (.d (.sl (.pair .str .str) (setG x0))), (.sr 0 0 (0 + (List.length (mmany_k1 x1))) 3 none), .top, .top, (.d (.sl (.pair .str .str) (mmany_k2 x0 x4))), (.d (.bool false)), .top, .top, .top, .top, .top, .top, .top, .top, .top, .top, .top, .top, .top, .top, .top, .top, .top, .top, .top, .top, .top, .top, .top, .top, .top, .top, .top, .top, .top, .top, .top, .top, .top, .top, .top, .top, .top, .top, .top, .top, .top, .top, .top, .top, .top, .top, .top, .top, .top, .top, .top, .top, .top, .top, .top, .top, .top, .top, .top, .top, .top, .top, (.sr 0 0 (0 + (List.length (mmany_k1 x1))) 3 none), (.d (.int .i64 (((0 + (List.length (mmany_k1 x1))) : Nat) : Int))), (.d (.int .i64 (0))), .top, .top, .top, .top, .top, .top, .top, .top, .top, .top, .top, .top, .top, .top, .top, .top, .top, .top, .top, .top, .top, .top, .top], [(.arr (.pair .str (.pair .str (.int .i64))) (mmany_k1 x1) true)])]) (by kernel_rfl) rfl (by kernel_rfl) (M.run_of_path _ [true, true, true, true, true, true, true, true, true, true, true, true, true, true, true, true, true, true, true, true, true, true, true, true, false, true, true, false, false, false, false, false, false, false, false, false, false, false, false, false, false, true, true, true, true, true, false, false, false, true, true, false, false, false, true, true, false, false, true, true] _ _ (by kernel_rfl) (all_t rfl (all_t c1 (all_t c2 (all_t rfl (all_t c4 (all_t c5 (all_t rfl (all_t c7 (all_t c8 (all_t c9 (all_t c10 (all_t (show (decide (0 < (0 + (List.length (mmany_k1 x1)))) || true) = true from Bool.or_true _) (all_t c12 (all_t c13 (all_t c14 (all_t c14 (all_t c14 (all_t c14 (all_t c10 (all_t c19 (all_t c14 (all_t c21 (all_t c22 (all_t c14 (all_nt c24 (all_t c8 (all_t c26 (all_f c27 (all_f c27 (all_f c27 (all_f Bool.false_ne_true (all_f Bool.false_ne_true (all_f Bool.false_ne_true (all_f Bool.false_ne_true (all_f Bool.false_ne_true (all_f Bool.false_ne_true (all_f Bool.false_ne_true (all_f Bool.false_ne_true (all_f Bool.false_ne_true (all_f Bool.false_ne_true (all_f Bool.false_ne_true (all_t rfl (all_t rfl (all_t c43 (all_t c44 (all_t c45 (all_f c47 (all_f c47 (all_f c47 (all_t (show decide ((0 + (mmany_k21 x1)) ≤ (mmany_k21 x1)) = true from decide_eq_true (Nat.le_of_eq (Nat.zero_add _))) (all_t c51 (all_f c47 (all_f c47 (all_f c47 (all_t (show decide ((0 + (mmany_k21 x1)) ≤ (mmany_k21 x1)) = true from decide_eq_true (Nat.le_of_eq (Nat.zero_add _))) (all_t c56 (all_f c47 (all_f c47 (all_t c59 (all_t c59 all_nil))))))))))))))))))))))))))))))))))))))))))))))))))))))))))))) ?_
  intro p hp p2 hq
  rcases List.mem_cons.1 hp with rfl | hp
  · skip
    have h3 := l8_0_ok m (m + 24) ((setG x0)) ((mmany_k2 x0 x4)) false ((((0 + (List.length (mmany_k1 x1))) : Nat) : Int)) 0 ((mmany_k1 x1)) _ (some_getD (d := l8_0D) c46)
    have h3 := turns_eq (e := [.top, .top, .top, .top, .top, .top, .top, .top, .top, .top, .top, (.d (.sl (.pair .str .str) (setG x0))), (.sr 0 0 (0 + (List.length (mmany_k1 x1))) 3 none), .top, .top, (.d (.sl (.pair .str .str) (mmany_k2 x0 x4))), (.d (.bool false)), .top, .top, .top, .top, .top, .top, .top, .top, .top, .top, .top, .top, .top, .top, .top, .top, .top, .top, .top, .top, .top, .top, .top, .top, .top, .top, .top, .top, .top, .top, .top, .top, .top, .top, .top, .top, .top, .top, .top, .top, .top, .top, .top, .top, .top, .top, .top, .top, .top, .top, .top, .top, .top, .top, .top, .top, .top, .top, .top, .top, .top, .top, (.sr 0 0 (0 + (List.length (mmany_k1 x1))) 3 none), (.d (.int .i64 (((0 + (List.length (mmany_k1 x1))) : Nat) : Int))), (.d (.int .i64 (0))), .top, .top, .top, .top, .top, .top, .top, .top, .top, .top, .top, .top, .top, .top, .top, .top, .top, .top, .top, .top, .top, .top, .top]) (B := [(.arr (.pair .str (.pair .str (.int .i64))) (mmany_k1 x1) true)]) (by unfold l8_0H; (try rw [show (0 + (List.length (mmany_k1 x1))) = (List.length (mmany_k1 x1)) from by simp])) rfl h3
    exact Eq.trans (Eq.mp (by kernel_rfl) h3) hq
  cases hp

set_option maxHeartbeats 20000000 in
theorem mmany_w6 (m : Nat) (x0 : (List Int) × (List Int)) (x1 : List ((List UInt8) × (List UInt8) × Int)) (x2 : List ((List UInt8) × (List UInt8) × Int)) (x3 : Int) (x4 : Int) (c1 : (decide (0 ≤ (mmany_k10 x1)) && decide ((mmany_k10 x1) ≤ (mmany_k29 x1))) = true) (c2 : decide (((0 + (List.length (mmany_k1 x1))) * 40) ≤ 70368744177664) = true) (c4 : (decide (0 ≤ (mmany_k11 x2)) && decide ((mmany_k11 x2) ≤ (mmany_k30 x2))) = true) (c5 : decide (((0 + (List.length (mmany_k3 x2))) * 40) ≤ 70368744177664) = true) (c7 : ((decide (0 ≤ (((0 + (List.length (mmany_k1 x1))) : Nat) : Int)) && decide ((((0 + (List.length (mmany_k1 x1))) : Nat) : Int) ≤ 2305843009213693951)) && decide (((((0 + (List.length (mmany_k1 x1))) : Nat) : Int) - (0)) ≤ 2305843009213693951)) = true) (c8 : decide ((0 + (0 + (List.length (mmany_k1 x1)))) ≤ (List.length (mmany_k1 x1))) = true) (c9 : decide (mmany_k20 x0 x1) = true) (c10 : (decide (0 ≤ (mmany_k4 x1 x3)) && decide ((mmany_k4 x1 x3) ≤ (((0 + (List.length (mmany_k1 x1))) : Nat) : Int))) = true) (c12 : decide ((0 + ((Int.toNat (mmany_k4 x1 x3)) - 0)) ≤ (List.length (mmany_k1 x1))) = true) (c13 : decide (mmany_k19 x0 x1 x3) = true) (c14 : (mmany_k27 x0 x1 x3) = true) (c19 : ¬ (decide ((Int.toNat (mmany_k4 x1 x3)) < (0 + (List.length (mmany_k1 x1)))) || decide ((Int.toNat (mmany_k4 x1 x3)) = 0)) = true) (c21 : decide (mmany_k23 x0) = true) (c23 : (mmany_k24 x0 x1) = true) (c25 : rightPre (mmany_k6 x1) = true) (c26 : (rightG (mmany_k6 x1)) = true) (c28 : decide ((0 + (0 + (List.length (mmany_k3 x2)))) ≤ (List.length (mmany_k3 x2))) = true) (c29 : rightPre (mmany_k9 x2) = true) (c31 : (rightG (mmany_k9 x2)) = true) (c45 : decide (mmany_k28 x1) = true) (c48 : (mmany_k18 x1 x2) = true) (c51 : decide (0 ≤ (withinI x4 (0) (5))) = true) (c52 : decide ((withinI x4 (0) (5)) < 8) = true) (c53 : decide (mmany_k22 x0) = true) (c54 : (Option.isSome (mmany_k8 x0 x1 x4 m)) = true) (c55 : (mmany_k5 x0 x1 x4 m).2.1 = true) : (evCall F S20 (m + 25) 8 [(.agg [(.d (.sl (.int .i64) x0.1)), (.d (.sl (.int .i64) x0.2))]), (.d (.sl (.pair .str (.pair .str (.int .i64))) x1)), (.d (.sl (.pair .str (.pair .str (.int .i64))) x2)), (.d (.int .i64 x3)), (.d (.int .i64 x4))] []).run = some (.d (.bool true), []) := by
  refine runT_ok (LS := (fun k => if k = 4231240368651202111576064 then some (mmany_k12 x0 x1 x4 m) else none)) (fn := fn8) (r := .d (.bool true)) (B' := []) (vis := [(4231240368651202111576064, [.top, .top, .top, .top, .top, .top, .top, .top, .top, .top, .top, (.d (.sl (.pair .str .str) (setG x0))), (.sr 0 0 (0 + (List.length (mmany_k1 x1))) 3 none), .top, .top, (.d (.sl (.pair .str .str) (mmany_k2 x0 x4))), (.d (.bool false)), .top, .top, .top, .top, .top, .top, .top, .top, .top, .top, .top, .top, .top, .top, .top, .top, .top, .top, .top, .top, .top, .top, .top, .top, .top, .top, .top, .top, .top, .top, .top, .top, .top, .top, .top, .top, .top, .top, .top, .top, .top, .top, .top, .top, .top, .top, .top, .top, .top, .top, .top, .top, .top, .top, .top, .top, .top, .top, .top, .top, .top, .top, (.sr 0 0 (0 + (List.length (mmany_k1 x1))) 3 none), (.d (.int .i64 (((0 + (List.length (mmany_k1 x1))) : Nat) : Int))), (.d (.int .i64 (0))), .top, .top, .top, .top, .top, .top, .top, .top, .top, .top, .top, .top, .top, .top, .top, .top, .top, .top, .top, .top, .top, .top, .top], [(.arr (.pair .str (.pair .str (.int .i64))) (mmany_k1 x1) true)])]) (by kernel_rfl) rfl (by kernel_rfl) (M.run_of_path _ [true, true, true, true, true, true, true, true, true, true, true, true, true, true, true, true, true, true, true, false, true, true, true, false, true, true, true, true, true, true, true, true, true, true, true, true, true, true, true, true, true, true, true, true, true, true, true, true, false, true, true, true, true, true, true, true, true, true, true, true, true, true, true, true] _ _ (by kernel_rfl) (all_t rfl (all_t c1 (all_t c2 (all_t rfl (all_t c4 (all_t c5 (all_t rfl (all_t c7 (all_t c8 (all_t c9 (all_t c10 (all_t (show (decide (0 < (0 + (List.length (mmany_k1 x1)))) || true) = true from Bool.or_true _) (all_t c12 (all_t c13 (all_t c14 (all_t c14 (all_t c14 (all_t c14 (all_t c10 (all_f c19 (all_t c14 (all_t c21 (all_t c14 (all_nt c23 (all_t c8 (all_t c25 (all_t c26 (all_t c26 (all_t c28 (all_t c29 (all_t c26 (all_t c31 (all_t c31 (all_t c8 (all_t c25 (all_t c31 (all_t c31 (all_t c28 (all_t c29 (all_t c31 (all_t c31 (all_t c31 (all_t c31 (all_t c8 (all_t c28 (all_t c45 (all_t c31 (all_t c31 (all_nt c48 (all_t rfl (all_t rfl (all_t c51 (all_t c52 (all_t c53 (all_t c55 (all_t c55 (all_t c55 (all_t c55 (all_t c55 (all_t c55 (all_t c55 (all_t c55 (all_t rfl (all_t rfl all_nil))))))))))))))))))))))))))))))))))))))))))))))))))))))))))))))))) ?_
  intro p hp p2 hq
  rcases List.mem_cons.1 hp with rfl | hp
  · skip
    have h3 := l8_0_ok m (m + 24) ((setG x0)) ((mmany_k2 x0 x4)) false ((((0 + (List.length (mmany_k1 x1))) : Nat) : Int)) 0 ((mmany_k1 x1)) _ (some_getD (d := l8_0D) c54)
    have h3 := turns_eq (e := [.top, .top, .top, .top, .top, .top, .top, .top, .top, .top, .top, (.d (.sl (.pair .str .str) (setG x0))), (.sr 0 0 (0 + (List.length (mmany_k1 x1))) 3 none), .top, .top, (.d (.sl (.pair .str .str) (mmany_k2 x0 x4))), (.d (.bool false)), .top, .top, .top, .top, .top, .top, .top, .top, .top, .top, .top, .top, .top, .top, .top, .top, .top, .top, .top, .top, .top, .top, .top, .top, .top, .top, .top, .top, .top, .top, .top, .top, .top, .top, .top, .top, .top, .top, .top, .top, .top, .top, .top, .top, .top, .top, .top, .top, .top, .top, .top, .top, .top, .top, .top, .top, .top, .top, .top, .top, .top, .top, (.sr 0 0 (0 + (List.length (mmany_k1 x1))) 3 none), (.d (.int .i64 (((0 + (List.length (mmany_k1 x1))) : Nat) : Int))), (.d (.int .i64 (0))), .top, .top, .top, .top, .top, .top, .top, .top, .top, .top, .top, .top, .top, .top, .top, .top, .top, .top, .top, .top, .top, .top, .top]) (B := [(.arr (.pair .str (.pair .str (.int .i64))) (mmany_k1 x1) true)]) (by unfold l8_0H; (try rw [show (0 + (List.length (mmany_k1 x1))) = (List.length (mmany_k1 x1)) from by simp])) rfl h3
    exact Eq.trans (Eq.mp (by kernel_rfl) h3) hq
  cases hp

set_option maxHeartbeats 20000000 in
theorem mmany_w7 (m : Nat) (x0 : (List Int) × (List Int)) (x1 : List ((List UInt8) × (List UInt8) × Int)) (x2 : List ((List UInt8) × (List UInt8) × Int)) (x3 : Int) (x4 : Int) (c1 : (decide (0 ≤ (mmany_k10 x1)) && decide ((mmany_k10 x1) ≤ (mmany_k29 x1))) = true) (c2 : decide (((0 + (List.length (mmany_k1 x1))) * 40) ≤ 70368744177664) = true) (c4 : (decide (0 ≤ (mmany_k11 x2)) && decide ((mmany_k11 x2) ≤ (mmany_k30 x2))) = true) (c5 : decide (((0 + (List.length (mmany_k3 x2))) * 40) ≤ 70368744177664) = true) (c7 : ((decide (0 ≤ (((0 + (List.length (mmany_k1 x1))) : Nat) : Int)) && decide ((((0 + (List.length (mmany_k1 x1))) : Nat) : Int) ≤ 2305843009213693951)) && decide (((((0 + (List.length (mmany_k1 x1))) : Nat) : Int) - (0)) ≤ 2305843009213693951)) = true) (c8 : decide ((0 + (0 + (List.length (mmany_k1 x1)))) ≤ (List.length (mmany_k1 x1))) = true) (c9 : decide (mmany_k20 x0 x1) = true) (c10 : (decide (0 ≤ (mmany_k4 x1 x3)) && decide ((mmany_k4 x1 x3) ≤ (((0 + (List.length (mmany_k1 x1))) : Nat) : Int))) = true) (c12 : decide ((0 + ((Int.toNat (mmany_k4 x1 x3)) - 0)) ≤ (List.length (mmany_k1 x1))) = true) (c13 : decide (mmany_k19 x0 x1 x3) = true) (c14 : (mmany_k27 x0 x1 x3) = true) (c19 : ¬ (decide ((Int.toNat (mmany_k4 x1 x3)) < (0 + (List.length (mmany_k1 x1)))) || decide ((Int.toNat (mmany_k4 x1 x3)) = 0)) = true) (c21 : decide (mmany_k23 x0) = true) (c23 : (mmany_k24 x0 x1) = true) (c25 : rightPre (mmany_k6 x1) = true) (c26 : (rightG (mmany_k6 x1)) = true) (c28 : decide ((0 + (0 + (List.length (mmany_k3 x2)))) ≤ (List.length (mmany_k3 x2))) = true) (c29 : rightPre (mmany_k9 x2) = true) (c31 : (rightG (mmany_k9 x2)) = true) (c45 : decide (mmany_k28 x1) = true) (c48 : (mmany_k18 x1 x2) = true) (c51 : decide (0 ≤ (withinI x4 (0) (5))) = true) (c52 : decide ((withinI x4 (0) (5)) < 8) = true) (c53 : decide (mmany_k22 x0) = true) (c54 : (Option.isSome (mmany_k8 x0 x1 x4 m)) = true) (c55 : ¬ (mmany_k5 x0 x1 x4 m).2.1 = true) (c59 : decide (mmany_k15 x0 x1 x4) = true) (c64 : decide (mmany_k17 x0 x1) = true) (c67 : (mmany_k16 x0 x1 x4) = true) : (evCall F S20 (m + 25) 8 [(.agg [(.d (.sl (.int .i64) x0.1)), (.d (.sl (.int .i64) x0.2))]), (.d (.sl (.pair .str (.pair .str (.int .i64))) x1)), (.d (.sl (.pair .str (.pair .str (.int .i64))) x2)), (.d (.int .i64 x3)), (.d (.int .i64 x4))] []).run = some (.d (.bool true), []) := by
  refine runT_ok (LS := (fun k => if k = 4231240368651202111576064 then some (mmany_k12 x0 x1 x4 m) else none)) (fn := fn8) (r := .d (.bool true)) (B' := []) (vis := [(4231240368651202111576064, [.top, .top, .top, .top, .top, .top, .top, .top, .top, .top, .top, (.d (.sl (.pair .str .str) (setG x0))), (.sr 0 0 (0 + (List.length (mmany_k1 x1))) 3 none), .top, .top, (.d (.sl (.pair .str .str) (mmany_k2 x0 x4))), (.d (.bool false)), .top, .top, .top, .top, .top, .top, .top, .top, .top, .top, .top, .top, .top, .top, .top, .top, .top, .top, .top, .top, .top, .top, .top, .top, .top, .top, .top, .top, .top, .top, .top, .top, .top, .top, .top, .top, .top, .top, .top, .top, .top, .top, .top, .top, .top, .top, .top, .top, .top, .top, .top, .top, .top, .top, .top, .top, .top, .top, .top, .top, .top, .top, (.sr 0 0 (0 + (List.length (mmany_k1 x1))) 3 none), (.d (.int .i64 (((0 + (List.length (mmany_k1 x1))) : Nat) : Int))), (.d (.int .i64 (0))), .top, .top, .top, .top, .top, .top, .top, .top, .top, .top, .top, .top, .top, .top, .top, .top, .top, .top, .top, .top, .top, .top, .top], [(.arr (.pair .str (.pair .str (.int .i64))) (mmany_k1 x1) true)])]) (by kernel_rfl) rfl (by kernel_rfl) (M.run_of_path _ [true, true, true, true, true, true, true, true, true, true, true, true, true, true, true, true, true, true, true, false, true, true, true, false, true, true, true, true, true, true, true, true, true, true, true, true, true, true, true, true, true, true, true, true, true, true, true, true, false, true, true, true, true, true, false, false, false, true, true, false, false, false, true, true, false, false, true, true] _ _ (by kernel_rfl) (all_t rfl (all_t c1 (all_t c2 (all_t rfl (all_t c4 (all_t c5 (all_t rfl (all_t c7 (all_t c8 (all_t c9 (all_t c10 (all_t (show (decide (0 < (0 + (List.length (mmany_k1 x1)))) || true) = true from Bool.or_true _) (all_t c12 (all_t c13 (all_t c14 (all_t c14 (all_t c14 (all_t c14 (all_t c10 (all_f c19 (all_t c14 (all_t c21 (all_t c14 (all_nt c23 (all_t c8 (all_t c25 (all_t c26 (all_t c26 (all_t c28 (all_t c29 (all_t c26 (all_t c31 (all_t c31 (all_t c8 (all_t c25 (all_t c31 (all_t c31 (all_t c28 (all_t c29 (all_t c31 (all_t c31 (all_t c31 (all_t c31 (all_t c8 (all_t c28 (all_t c45 (all_t c31 (all_t c31 (all_nt c48 (all_t rfl (all_t rfl (all_t c51 (all_t c52 (all_t c53 (all_f c55 (all_f c55 (all_f c55 (all_t (show decide ((0 + (mmany_k21 x1)) ≤ (mmany_k21 x1)) = true from decide_eq_true (Nat.le_of_eq (Nat.zero_add _))) (all_t c59 (all_f c55 (all_f c55 (all_f c55 (all_t (show decide ((0 + (mmany_k21 x1)) ≤ (mmany_k21 x1)) = true from decide_eq_true (Nat.le_of_eq (Nat.zero_add _))) (all_t c64 (all_f c55 (all_f c55 (all_t c67 (all_t c67 all_nil))))))))))))))))))))))))))))))))))))))))))))))))))))))))))))))))))))) ?_
  intro p hp p2 hq
  rcases List.mem_cons.1 hp with rfl | hp
  · skip
    have h3 := l8_0_ok m (m + 24) ((setG x0)) ((mmany_k2 x0 x4)) false ((((0 + (List.length (mmany_k1 x1))) : Nat) : Int)) 0 ((mmany_k1 x1)) _ (some_getD (d := l8_0D) c54)
    have h3 := turns_eq (e := [.top, .top, .top, .top, .top, .top, .top, .top, .top, .top, .top, (.d (.sl (.pair .str .str) (setG x0))), (.sr 0 0 (0 + (List.length (mmany_k1 x1))) 3 none), .top, .top, (.d (.sl (.pair .str .str) (mmany_k2 x0 x4))), (.d (.bool false)), .top, .top, .top, .top, .top, .top, .top, .top, .top, .top, .top, .top, .top, .top, .top, .top, .top, .top, .top, .top, .top, .top, .top, .top, .top, .top, .top, .top, .top, .top, .top, .top, .top, .top, .top, .top, .top, .top, .top, .top, .top, .top, .top, .top, .top, .top, .top, .top, .top, .top, .top, .top, .top, .top, .top, .top, .top, .top, .top, .top, .top, .top, (.sr 0 0 (0 + (List.length (mmany_k1 x1))) 3 none), (.d (.int .i64 (((0 + (List.length (mmany_k1 x1))) : Nat) : Int))), (.d (.int .i64 (0))), .top, .top, .top, .top, .top, .top, .top, .top, .top, .top, .top, .top, .top, .top, .top, .top, .top, .top, .top, .top, .top, .top, .top]) (B := [(.arr (.pair .str (.pair .str (.int .i64))) (mmany_k1 x1) true)]) (by unfold l8_0H; (try rw [show (0 + (List.length (mmany_k1 x1))) = (List.length (mmany_k1 x1)) from by simp])) rfl h3
    exact Eq.trans (Eq.mp (by kernel_rfl) h3) hq
  cases hp

set_option maxHeartbeats 20000000 in
theorem mmany_w8 (m : Nat) (x0 : (List Int) × (List Int)) (x1 : List ((List UInt8) × (List UInt8) × Int)) (x2 : List ((List UInt8) × (List UInt8) × Int)) (x3 : Int) (x4 : Int) (c1 : (decide (0 ≤ (mmany_k10 x1)) && decide ((mmany_k10 x1) ≤ (mmany_k29 x1))) = true) (c2 : decide (((0 + (List.length (mmany_k1 x1))) * 40) ≤ 70368744177664) = true) (c4 : (decide (0 ≤ (mmany_k11 x2)) && decide ((mmany_k11 x2) ≤ (mmany_k30 x2))) = true) (c5 : decide (((0 + (List.length (mmany_k3 x2))) * 40) ≤ 70368744177664) = true) (c7 : ((decide (0 ≤ (((0 + (List.length (mmany_k1 x1))) : Nat) : Int)) && decide ((((0 + (List.length (mmany_k1 x1))) : Nat) : Int) ≤ 2305843009213693951)) && decide (((((0 + (List.length (mmany_k1 x1))) : Nat) : Int) - (0)) ≤ 2305843009213693951)) = true) (c8 : decide ((0 + (0 + (List.length (mmany_k1 x1)))) ≤ (List.length (mmany_k1 x1))) = true) (c9 : decide (mmany_k20 x0 x1) = true) (c10 : (decide (0 ≤ (mmany_k4 x1 x3)) && decide ((mmany_k4 x1 x3) ≤ (((0 + (List.length (mmany_k1 x1))) : Nat) : Int))) = true) (c12 : decide ((0 + ((Int.toNat (mmany_k4 x1 x3)) - 0)) ≤ (List.length (mmany_k1 x1))) = true) (c13 : decide (mmany_k19 x0 x1 x3) = true) (c14 : (mmany_k27 x0 x1 x3) = true) (c19 : ¬ (decide ((Int.toNat (mmany_k4 x1 x3)) < (0 + (List.length (mmany_k1 x1)))) || decide ((Int.toNat (mmany_k4 x1 x3)) = 0)) = true) (c21 : decide (mmany_k23 x0) = true) (c23 : (mmany_k24 x0 x1) = true) (c25 : rightPre (mmany_k6 x1) = true) (c26 : (rightG (mmany_k6 x1)) = true) (c28 : decide ((0 + (0 + (List.length (mmany_k3 x2)))) ≤ (List.length (mmany_k3 x2))) = true) (c29 : rightPre (mmany_k9 x2) = true) (c31 : ¬ (rightG (mmany_k9 x2)) = true) (c44 : decide (0 ≤ (withinI x4 (0) (5))) = true) (c45 : decide ((withinI x4 (0) (5)) < 8) = true) (c46 : decide (mmany_k22 x0) = true) (c47 : (Option.isSome (mmany_k8 x0 x1 x4 m)) = true) (c48 : (mmany_k5 x0 x1 x4 m).2.1 = true) : (evCall F S20 (m + 25) 8 [(.agg [(.d (.sl (.int .i64) x0.1)), (.d (.sl (.int .i64) x0.2))]), (.d (.sl (.pair .str (.pair .str (.int .i64))) x1)), (.d (.sl (.pair .str (.pair .str (.int .i64))) x2)), (.d (.int .i64 x3)), (.d (.int .i64 x4))] []).run = some (.d (.bool true), []) := by
  refine runT_ok (LS := (fun k => if k = 4231240368651202111576064 then some (mmany_k12 x0 x1 x4 m) else none)) (fn := fn8) (r := .d (.bool true)) (B' := []) (vis := [(4231240368651202111576064, [.top, .top, .top, .top, .top, .top, .top, .top, .top, .top, .top, (.d (.sl (.pair .str .str) (setG x0))), (.sr 0 0 (0 + (List.length (mmany_k1 x1))) 3 none), .top, .top, (.d (.sl (.pair .str .str) (mmany_k2 x0 x4))), (.d (.bool false)), .top, .top, .top, .top, .top, .top, .top, .top, .top, .top, .top, .top, .top, .top, .top, .top, .top, .top, .top, .top, .top, .top, .top, .top, .top, .top, .top, .top, .top, .top, .top, .top, .top, .top, .top, .top, .top, .top, .top, .top, .top, .top, .top, .top, .top, .top, .top, .top, .top, .top, .top, .top, .top, .top, .top, .top, .top, .top, .top, .top, .top, .top, (.sr 0 0 (0 + (List.length (mmany_k1 x1))) 3 none), (.d (.int .i64 (((0 + (List.length (mmany_k1 x1))) : Nat) : Int))), (.d (.int .i64 (0))), .top, .top, .top, .top, .top, .top, .top, .top, .top, .top, .top, .top, .top, .top, .top, .top, .top, .top, .top, .top, .top, .top, .top], [(.arr (.pair .str (.pair .str (.int .i64))) (mmany_k1 x1) true)])]) (by kernel_rfl) rfl (by kernel_rfl) (M.run_of_path _ [true, true, true, true, true, true, true, true, true, true, true, true, true, true, true, true, true, true, true, false, true, true, true, false, true, true, true, true, true, true, true, false, false, false, false, false, false, false, false, false, false, false, true, true, true, true, true, true, true, true, true, true, true, true, true, true, true] _ _ (by kernel_rfl) (all_t rfl (all_t c1 (all_t c2 (all_t rfl (all_t c4 (all_t c5 (all_t rfl (all_t c7 (all_t c8 (all_t c9 (all_t c10 (all_t (show (decide (0 < (0 + (List.length (mmany_k1 x1)))) || true) = true from Bool.or_true _) (all_t c12 (all_t c13 (all_t c14 (all_t c14 (all_t c14 (all_t c14 (all_t c10 (all_f c19 (all_t c14 (all_t c21 (all_t c14 (all_nt c23 (all_t c8 (all_t c25 (all_t c26 (all_t c26 (all_t c28 (all_t c29 (all_t c26 (all_f c31 (all_f c31 (all_f c31 (all_f c31 (all_f c31 (all_f c31 (all_f c31 (all_f c31 (all_f c31 (all_f c31 (all_f Bool.false_ne_true (all_t rfl (all_t rfl (all_t c44 (all_t c45 (all_t c46 (all_t c48 (all_t c48 (all_t c48 (all_t c48 (all_t c48 (all_t c48 (all_t c48 (all_t c48 (all_t rfl (all_t rfl all_nil)))))))))))))))))))))))))))))))))))))))))))))))))))))))))) ?_
  intro p hp p2 hq
  rcases List.mem_cons.1 hp with rfl | hp
  · skip
    have h3 := l8_0_ok m (m + 24) ((setG x0)) ((mmany_k2 x0 x4)) false ((((0 + (List.length (mmany_k1 x1))) : Nat) : Int)) 0 ((mmany_k1 x1)) _ (some_getD (d := l8_0D) c47)
    have h3 := turns_eq (e := [.top, .top, .top, .top, .top, .top, .top, .top, .top, .top, .top, (.d (.sl (.pair .str .str) (setG x0))), (.sr 0 0 (0 + (List.length (mmany_k1 x1))) 3 none), .top, .top, (.d (.sl (.pair .str .str) (mmany_k2 x0 x4))), (.d (.bool false)), .top, .top, .top, .top, .top, .top, .top, .top, .top, .top, .top, .top, .top, .top, .top, .top, .top, .top, .top, .top, .top, .top, .top, .top, .top, .top, .top, .top, .top, .top, .top, .top, .top, .top, .top, .top, .top, .top, .top, .top, .top, .top, .top, .top, .top, .top, .top, .top, .top, .top, .top, .top, .top, .top, .top, .top, .top, .top, .top, .top, .top, .top, (.sr 0 0 (0 + (List.length (mmany_k1 x1))) 3 none), (.d (.int .i64 (((0 + (List.length (mmany_k1 x1))) : Nat) : Int))), (.d (.int .i64 (0))), .top, .top, .top, .top, .top, .top, .top, .top, .top, .top, .top, .top, .top, .top, .top, .top, .top, .top, .top, .top, .top, .top, .top]) (B := [(.arr (.pair .str (.pair .str (.int .i64))) (mmany_k1 x1) true)]) (by unfold l8_0H; (try rw [show (0 + (List.length (mmany_k1 x1))) = (List.length (mmany_k1 x1)) from by simp])) rfl h3
    exact Eq.trans (Eq.mp (by kernel_rfl) h3) hq
  cases hp

set_option maxHeartbeats 20000000 in
theorem mmany_w9 (m : Nat) (x0 : (List Int) × (List Int)) (x1 : List ((List UInt8) × (List UInt8) × Int)) (x2 : List ((List UInt8) × (List UInt8) × Int)) (x3 : Int) (x4 : Int) (c1 : (decide (0 ≤ (mmany_k10 x1)) && decide ((mmany_k10 x1) ≤ (mmany_k29 x1))) = true) (c2 : decide (((0 + (List.length (mmany_k1 x1))) * 40) ≤ 70368744177664) = true) (c4 : (decide (0 ≤ (mmany_k11 x2)) && decide ((mmany_k11 x2) ≤ (mmany_k30 x2))) = true) (c5 : decide (((0 + (List.length (mmany_k3 x2))) * 40) ≤ 70368744177664) = true) (c7 : ((decide (0 ≤ (((0 + (List.length (mmany_k1 x1))) : Nat) : Int)) && decide ((((0 + (List.length (mmany_k1 x1))) : Nat) : Int) ≤ 2305843009213693951)) && decide (((((0 + (List.length (mmany_k1 x1))) : Nat) : Int) - (0)) ≤ 2305843009213693951)) = true) (c8 : decide ((0 + (0 + (List.length (mmany_k1 x1)))) ≤ (List.length (mmany_k1 x1))) = true) (c9 : decide (mmany_k20 x0 x1) = true) (c10 : (decide (0 ≤ (mmany_k4 x1 x3)) && decide ((mmany_k4 x1 x3) ≤ (((0 + (List.length (mmany_k1 x1))) : Nat) : Int))) = true) (c12 : decide ((0 + ((Int.toNat (mmany_k4 x1 x3)) - 0)) ≤ (List.length (mmany_k1 x1))) = true) (c13 : decide (mmany_k19 x0 x1 x3) = true) (c14 : (mmany_k27 x0 x1 x3) = true) (c19 : ¬ (decide ((Int.toNat (mmany_k4 x1 x3)) < (0 + (List.length (mmany_k1 x1)))) || decide ((Int.toNat (mmany_k4 x1 x3)) = 0)) = true) (c21 : decide (mmany_k23 x0) = true) (c23 : (mmany_k24 x0 x1) = true) (c25 : rightPre (mmany_k6 x1) = true) (c26 : (rightG (mmany_k6 x1)) = true) (c28 : decide ((0 + (0 + (List.length (mmany_k3 x2)))) ≤ (List.length (mmany_k3 x2))) = true) (c29 : rightPre (mmany_k9 x2) = true) (c31 : ¬ (rightG (mmany_k9 x2)) = true) (c44 : decide (0 ≤ (withinI x4 (0) (5))) = true) (c45 : decide ((withinI x4 (0) (5)) < 8) = true) (c46 : decide (mmany_k22 x0) = true) (c47 : (Option.isSome (mmany_k8 x0 x1 x4 m)) = true) (c48 : ¬ (mmany_k5 x0 x1 x4 m).2.1 = true) (c52 : decide (mmany_k15 x0 x1 x4) = true) (c57 : decide (mmany_k17 x0 x1) = true) (c60 : (mmany_k16 x0 x1 x4) = true) : (evCall F S20 (m + 25) 8 [(.agg [(.d (.sl (.int .i64) x0.1)), (.d (.sl (.int .i64) x0.2))]), (.d (.sl (.pair .str (.pair .str (.int .i64))) x1)), (.d (.sl (.pair .str (.pair .str (.int .i64))) x2)), (.d (.int .i64 x3)), (.d (.int .i64 x4))] []).run = some (.d (.bool true), []) := by
  refine runT_ok (LS := (fun k => if k = 4231240368651202111576064 then some (mmany_k12 x0 x1 x4 m) else none)) (fn := fn8) (r := .d (.bool true)) (B' := []) (vis := [(4231240368651202111576064, [.top, .top, .top, .top, .top, .top, .top, .top, .top, .top, .top, (.d (.sl (.pair .str .str) (setG x0))), (.sr 0 0 (0 + (List.length (mmany_k1 x1))) 3 none), .top, .top, (.d (.sl (.pair .str .str) (mmany_k2 x0 x4))), (.d (.bool false)), .top, .top, .top, .top, .top, .top, .top, .top, .top, .top, .top, .top, .top, .top, .top, .top, .top, .top, .top, .top, .top, .top, .top, .top, .top, .top, .top, .top, .top, .top, .top, .top, .top, .top, .top, .top, .top, .top, .top, .top, .top, .top, .top, .top, .top, .top, .top, .top, .top, .top, .top, .top, .top, .top, .top, .top, .top, .top, .top, .top, .top, .top, (.sr 0 0 (0 + (List.length (mmany_k1 x1))) 3 none), (.d (.int .i64 (((0 + (List.length (mmany_k1 x1))) : Nat) : Int))), (.d (.int .i64 (0))), .top, .top, .top, .top, .top, .top, .top, .top, .top, .top, .top, .top, .top, .top, .top, .top, .top, .top, .top, .top, .top, .top, .top], [(.arr (.pair .str (.pair .str (.int .i64))) (mmany_k1 x1) true)])]) (by kernel_rfl) rfl (by kernel_rfl) (M.run_of_path _ [true, true, true, true, true, true, true, true, true, true, true, true, true, true, true, true, true, true, true, false, true, true, true, false, true, true, true, true, true, true, true, false, false, false, false, false, false, false, false, false, false, false, true, true, true, true, true, false, false, false, true, true, false, false, false, true, true, false, false, true, true] _ _ (by kernel_rfl) (all_t rfl (all_t c1 (all_t c2 (all_t rfl (all_t c4 (all_t c5 (all_t rfl (all_t c7 (all_t c8 (all_t c9 (all_t c10 (all_t (show (decide (0 < (0 + (List.length (mmany_k1 x1)))) || true) = true from Bool.or_true _) (all_t c12 (all_t c13 (all_t c14 (all_t c14 (all_t c14 (all_t c14 (all_t c10 (all_f c19 (all_t c14 (all_t c21 (all_t c14 (all_nt c23 (all_t c8 (all_t c25 (all_t c26 (all_t c26 (all_t c28 (all_t c29 (all_t c26 (all_f c31 (all_f c31 (all_f c31 (all_f c31 (all_f c31 (all_f c31 (all_f c31 (all_f c31 (all_f c31 (all_f c31 (all_f Bool.false_ne_true (all_t rfl (all_t rfl (all_t c44 (all_t c45 (all_t c46 (all_f c48 (all_f c48 (all_f c48 (all_t (show decide ((0 + (mmany_k21 x1)) ≤ (mmany_k21 x1)) = true from decide_eq_true (Nat.le_of_eq (Nat.zero_add _))) (all_t c52 (all_f c48 (all_f c48 (all_f c48 (all_t (show decide ((0 + (mmany_k21 x1)) ≤ (mmany_k21 x1)) = true from decide_eq_true (Nat.le_of_eq (Nat.zero_add _))) (all_t c57 (all_f c48 (all_f c48 (all_t c60 (all_t c60 all_nil)))))))))))))))))))))))))))))))))))))))))))))))))))))))))))))) ?_
  intro p hp p2 hq
  rcases List.mem_cons.1 hp with rfl | hp
  · skip
    have h3 := l8_0_ok m (m + 24) ((setG x0)) ((mmany_k2 x0 x4)) false ((((0 + (List.length (mmany_k1 x1))) : Nat) : Int)) 0 ((mmany_k1 x1)) _ (some_getD (d := l8_0D) c47)
    have h3 := turns_eq (e := [.top, .top, .top, .top, .top, .top, .top, .top, .top, .top, .top, (.d (.sl (.pair .str .str) (setG x0))), (.sr 0 0 (0 + (List.length (mmany_k1 x1))) 3 none), .top, .top, (.d (.sl (.pair .str .str) (mmany_k2 x0 x4))), (.d (.bool false)), .top, .top, .top, .top, .top, .top, .top, .top, .top, .top, .top, .top, .top, .top, .top, .top, .top, .top, .top, .top, .top, .top, .top, .top, .top, .top, .top, .top, .top, .top, .top, .top, .top, .top, .top, .top, .top, .top, .top, .top, .top, .top, .top, .top, .top, .top, .top, .top, .top, .top, .top, .top, .top, .top, .top, .top, .top, .top, .top, .top, .top, .top, (.sr 0 0 (0 + (List.length (mmany_k1 x1))) 3 none), (.d (.int .i64 (((0 + (List.length (mmany_k1 x1))) : Nat) : Int))), (.d (.int .i64 (0))), .top, .top, .top, .top, .top, .top, .top, .top, .top, .top, .top, .top, .top, .top, .top, .top, .top, .top, .top, .top, .top, .top, .top]) (B := [(.arr (.pair .str (.pair .str (.int .i64))) (mmany_k1 x1) true)]) (by unfold l8_0H; (try rw [show (0 + (List.length (mmany_k1 x1))) = (List.length (mmany_k1 x1)) from by simp])) rfl h3
    exact Eq.trans (Eq.mp (by kernel_rfl) h3) hq
  cases hp

set_option maxHeartbeats 20000000 in
theorem mmany_w10 (m : Nat) (x0 : (List Int) × (List Int)) (x1 : List ((List UInt8) × (List UInt8) × Int)) (x2 : List ((List UInt8) × (List UInt8) × Int)) (x3 : Int) (x4 : Int) (c1 : (decide (0 ≤ (mmany_k10 x1)) && decide ((mmany_k10 x1) ≤ (mmany_k29 x1))) = true) (c2 : decide (((0 + (List.length (mmany_k1 x1))) * 40) ≤ 70368744177664) = true) (c4 : (decide (0 ≤ (mmany_k11 x2)) && decide ((mmany_k11 x2) ≤ (mmany_k30 x2))) = true) (c5 : decide (((0 + (List.length (mmany_k3 x2))) * 40) ≤ 70368744177664) = true) (c7 : ((decide (0 ≤ (((0 + (List.length (mmany_k1 x1))) : Nat) : Int)) && decide ((((0 + (List.length (mmany_k1 x1))) : Nat) : Int) ≤ 2305843009213693951)) && decide (((((0 + (List.length (mmany_k1 x1))) : Nat) : Int) - (0)) ≤ 2305843009213693951)) = true) (c8 : decide ((0 + (0 + (List.length (mmany_k1 x1)))) ≤ (List.length (mmany_k1 x1))) = true) (c9 : decide (mmany_k20 x0 x1) = true) (c10 : (decide (0 ≤ (mmany_k4 x1 x3)) && decide ((mmany_k4 x1 x3) ≤ (((0 + (List.length (mmany_k1 x1))) : Nat) : Int))) = true) (c12 : decide ((0 + ((Int.toNat (mmany_k4 x1 x3)) - 0)) ≤ (List.length (mmany_k1 x1))) = true) (c13 : decide (mmany_k19 x0 x1 x3) = true) (c14 : (mmany_k27 x0 x1 x3) = true) (c19 : ¬ (decide ((Int.toNat (mmany_k4 x1 x3)) < (0 + (List.length (mmany_k1 x1)))) || decide ((Int.toNat (mmany_k4 x1 x3)) = 0)) = true) (c21 : decide (mmany_k23 x0) = true) (c23 : (mmany_k24 x0 x1) = true) (c25 : rightPre (mmany_k6 x1) = true) (c26 : ¬ (rightG (mmany_k6 x1)) = true) (c42 : decide (0 ≤ (withinI x4 (0) (5))) = true) (c43 : decide ((withinI x4 (0) (5)) < 8) = true) (c44 : decide (mmany_k22 x0) = true) (c45 : (Option.isSome (mmany_k8 x0 x1 x4 m)) = true) (c46 : (mmany_k5 x0 x1 x4 m).2.1 = true) : (evCall F S20 (m + 25) 8 [(.agg [(.d (.sl (.int .i64) x0.1)), (.d (.sl (.int .i64) x0.2))]), (.d (.sl (.pair .str (.pair .str (.int .i64))) x1)), (.d (.sl (.pair .str (.pair .str (.int .i64))) x2)), (.d (.int .i64 x3)), (.d (.int .i64 x4))] []).run = some (.d (.bool true), []) := by
  refine runT_ok (LS := (fun k => if k = 4231240368651202111576064 then some (mmany_k12 x0 x1 x4 m) else none)) (fn := fn8) (r := .d (.bool true)) (B' := []) (vis := [(4231240368651202111576064, [.top, .top, .top, .top, .top, .top, .top, .top, .top, .top, .top, (.d (.sl (.pair .str .str) (setG x0))), (.sr 0 0 (0 + (List.length (mmany_k1 x1))) 3 none), .top, .top, (.d (.sl (.pair .str .str) (mmany_k2 x0 x4))), (.d (.bool false)), .top, .top, .top, .top, .top, .top, .top, .top, .top, .top, .top, .top, .top, .top, .top, .top, .top, .top, .top, .top, .top, .top, .top, .top, .top, .top, .top, .top, .top, .top, .top, .top, .top, .top, .top, .top, .top, .top, .top, .top, .top, .top, .top, .top, .top, .top, .top, .top, .top, .top, .top, .top, .top, .top, .top, .top, .top, .top, .top, .top, .top, .top, (.sr 0 0 (0 + (List.length (mmany_k1 x1))) 3 none), (.d (.int .i64 (((0 + (List.length (mmany_k1 x1))) : Nat) : Int))), (.d (.int .i64 (0))), .top, .top, .top, .top, .top, .top, .top, .top, .top, .top, .top, .top, .top, .top, .top, .top, .top, .top, .top, .top, .top, .top, .top], [(.arr (.pair .str (.pair .str (.int .i64))) (mmany_k1 x1) true)])]) (by kernel_rfl) rfl (by kernel_rfl) (M.run_of_path _ [true, true, true, true, true, true, true, true, true, true, true, true, true, true, true, true, true, true, true, false, true, true, true, false, true, true, false, false, false, false, false, false, false, false, false, false, false, false, false, false, true, true, true, true, true, true, true, true, true, true, true, true, true, true, true] _ _ (by kernel_rfl) (all_t rfl (all_t c1 (all_t c2 (all_t rfl (all_t c4 (all_t c5 (all_t rfl (all_t c7 (all_t c8 (all_t c9 (all_t c10 (all_t (show (decide (0 < (0 + (List.length (mmany_k1 x1)))) || true) = true from Bool.or_true _) (all_t c12 (all_t c13 (all_t c14 (all_t c14 (all_t c14 (all_t c14 (all_t c10 (all_f c19 (all_t c14 (all_t c21 (all_t c14 (all_nt c23 (all_t c8 (all_t c25 (all_f c26 (all_f c26 (all_f c26 (all_f Bool.false_ne_true (all_f Bool.false_ne_true (all_f Bool.false_ne_true (all_f Bool.false_ne_true (all_f Bool.false_ne_true (all_f Bool.false_ne_true (all_f Bool.false_ne_true (all_f Bool.false_ne_true (all_f Bool.false_ne_true (all_f Bool.false_ne_true (all_f Bool.false_ne_true (all_t rfl (all_t rfl (all_t c42 (all_t c43 (all_t c44 (all_t c46 (all_t c46 (all_t c46 (all_t c46 (all_t c46 (all_t c46 (all_t c46 (all_t c46 (all_t rfl (all_t rfl all_nil)))))))))))))))))))))))))))))))))))))))))))))))))))))))) ?_
  intro p hp p2 hq
  rcases List.mem_cons.1 hp with rfl | hp
  · skip
    have h3 := l8_0_ok m (m + 24) ((setG x0)) ((mmany_k2 x0 x4)) false ((((0 + (List.length (mmany_k1 x1))) : Nat) : Int)) 0 ((mmany_k1 x1)) _ (some_getD (d := l8_0D) c45)
    have h3 := turns_eq (e := [.top, .top, .top, .top, .top, .top, .top, .top, .top, .top, .top, (.d (.sl (.pair .str .str) (setG x0))), (.sr 0 0 (0 + (List.length (mmany_k1 x1))) 3 none), .top, .top, (.d (.sl (.pair .str .str) (mmany_k2 x0 x4))), (.d (.bool false)), .top, .top, .top, .top, .top, .top, .top, .top, .top, .top, .top, .top, .top, .top, .top, .top, .top, .top, .top, .top, .top, .top, .top, .top, .top, .top, .top, .top, .top, .top, .top, .top, .top, .top, .top, .top, .top, .top, .top, .top, .top, .top, .top, .top, .top, .top, .top, .top, .top, .top, .top, .top, .top, .top, .top, .top, .top, .top, .top, .top, .top, .top, (.sr 0 0 (0 + (List.length (mmany_k1 x1))) 3 none), (.d (.int .i64 (((0 + (List.length (mmany_k1 x1))) : Nat) : Int))), (.d (.int .i64 (0))), .top, .top, .top, .top, .top, .top, .top, .top, .top, .top, .top, .top, .top, .top, .top, .top, .top, .top, .top, .top, .top, .top, .top]) (B := [(.arr (.pair .str (.pair .str (.int .i64))) (mmany_k1 x1) true)]) (by unfold l8_0H; (try rw [show (0 + (List.length (mmany_k1 x1))) = (List.length (mmany_k1 x1)) from by simp])) rfl h3
    exact Eq.trans (Eq.mp (by kernel_rfl) h3) hq
  cases hp

set_option maxHeartbeats 20000000 in
theorem mmany_w11 (m : Nat) (x0 : (List Int) × (List Int)) (x1 : List ((List UInt8) × (List UInt8) × Int)) (x2 : List ((List UInt8) × (List UInt8) × Int)) (x3 : Int) (x4 : Int) (c1 : (decide (0 ≤ (mmany_k10 x1)) && decide ((mmany_k10 x1) ≤ (mmany_k29 x1))) = true) (c2 : decide (((0 + (List.length (mmany_k1 x1))) * 40) ≤ 70368744177664) = true) (c4 : (decide (0 ≤ (mmany_k11 x2)) && decide ((mmany_k11 x2) ≤ (mmany_k30 x2))) = true) (c5 : decide (((0 + (List.length (mmany_k3 x2))) * 40) ≤ 70368744177664) = true) (c7 : ((decide (0 ≤ (((0 + (List.length (mmany_k1 x1))) : Nat) : Int)) && decide ((((0 + (List.length (mmany_k1 x1))) : Nat) : Int) ≤ 2305843009213693951)) && decide (((((0 + (List.length (mmany_k1 x1))) : Nat) : Int) - (0)) ≤ 2305843009213693951)) = true) (c8 : decide ((0 + (0 + (List.length (mmany_k1 x1)))) ≤ (List.length (mmany_k1 x1))) = true) (c9 : decide (mmany_k20 x0 x1) = true) (c10 : (decide (0 ≤ (mmany_k4 x1 x3)) && decide ((mmany_k4 x1 x3) ≤ (((0 + (List.length (mmany_k1 x1))) : Nat) : Int))) = true) (c12 : decide ((0 + ((Int.toNat (mmany_k4 x1 x3)) - 0)) ≤ (List.length (mmany_k1 x1))) = true) (c13 : decide (mmany_k19 x0 x1 x3) = true) (c14 : (mmany_k27 x0 x1 x3) = true) (c19 : ¬ (decide ((Int.toNat (mmany_k4 x1 x3)) < (0 + (List.length (mmany_k1 x1)))) || decide ((Int.toNat (mmany_k4 x1 x3)) = 0)) = true) (c21 : decide (mmany_k23 x0) = true) (c23 : (mmany_k24 x0 x1) = true) (c25 : rightPre (mmany_k6 x1) = true) (c26 : ¬ (rightG (mmany_k6 x1)) = true) (c42 : decide (0 ≤ (withinI x4 (0) (5))) = true) (c43 : decide ((withinI x4 (0) (5)) < 8) = true) (c44 : decide (mmany_k22 x0) = true) (c45 : (Option.isSome (mmany_k8 x0 x1 x4 m)) = true) (c46 : ¬ (mmany_k5 x0 x1 x4 m).2.1 = true) (c50 : decide (mmany_k15 x0 x1 x4) = true) (c55 : decide (mmany_k17 x0 x1) = true) (c58 : (mmany_k16 x0 x1 x4) = true) : (evCall F S20 (m + 25) 8 [(.agg [(.d (.sl (.int .i64) x0.1)), (.d (.sl (.int .i64) x0.2))]), (.d (.sl (.pair .str (.pair .str (.int .i64))) x1)), (.d (.sl (.pair .str (.pair .str (.int .i64))) x2)), (.d (.int .i64 x3)), (.d (.int .i64 x4))] []).run = some (.d (.bool true), []) := by
  refine runT_ok (LS := (fun k => if k = 4231240368651202111576064 then some (mmany_k12 x0 x1 x4 m) else none)) (fn := fn8) (r := .d (.bool true)) (B' := []) (vis := [(4231240368651202111576064, [.top, .top, .top, .top, .top, .top, .top, .top, .top, .top, .top, (.d (.sl (.pair .str .str) (setG x0))), (.sr 0 0 (0 + (List.length (mmany_k1 x1))) 3 none), .top, .top, (.d (.sl (.pair .str .str) (mmany_k2 x0 x4))), (.d (.bool false)), .top, .top, .top, .top, .top, .top, .top, .top, .top, .top, .top, .top, .top, .top, .top, .top, .top, .top, .top, .top, .top, .top, .top, .top, .top, .top, .top, .top, .top, .top, .top, .top, .top, .top, .top, .top, .top, .top, .top, .top, .top, .top, .top, .top, .top, .top, .top, .top, .top, .top, .top, .top, .top, .top, .top, .top, .top, .top, .top, .top, .top, .top, (.sr 0 0 (0 + (List.length (mmany_k1 x1))) 3 none), (.d (.int .i64 (((0 + (List.length (mmany_k1 x1))) : Nat) : Int))), (.d (.int .i64 (0))), .top, .top, .top, .top, .top, .top, .top, .top, .top, .top, .top, .top, .top, .top, .top, .top, .top, .top, .top, .top, .top, .top, .top], [(.arr (.pair .str (.pair .str (.int .i64))) (mmany_k1 x1) true)])]) (by kernel_rfl) rfl (by kernel_rfl) (M.run_of_path _ [true, true, true, true, true, true, true, true, true, true, true, true, true, true, true, true, true, true, true, false, true, true, true, false, true, true, false, false, false, false, false, false, false, false, false, false, false, false, false, false, true, true, true, true, true, false, false, false, true, true, false, false, false, true, true, false, false, true, true] _ _ (by kernel_rfl) (all_t rfl (all_t c1 (all_t c2 (all_t rfl (all_t c4 (all_t c5 (all_t rfl (all_t c7 (all_t c8 (all_t c9 (all_t c10 (all_t (show (decide (0 < (0 + (List.length (mmany_k1 x1)))) || true) = true from Bool.or_true _) (all_t c12 (all_t c13 (all_t c14 (all_t c14 (all_t c14 (all_t c14 (all_t c10 (all_f c19 (all_t c14 (all_t c21 (all_t c14 (all_nt c23 (all_t c8 (all_t c25 (all_f c26 (all_f c26 (all_f c26 (all_f Bool.false_ne_true (all_f Bool.false_ne_true (all_f Bool.false_ne_true (all_f Bool.false_ne_true (all_f Bool.false_ne_true (all_f Bool.false_ne_true (all_f Bool.false_ne_true (all_f Bool.false_ne_true (all_f Bool.false_ne_true (all_f Bool.false_ne_true (all_f Bool.false_ne_true (all_t rfl (all_t rfl (all_t c42 (all_t c43 (all_t c44 (all_f c46 (all_f c46 (all_f c46 (all_t (show decide ((0 + (mmany_k21 x1)) ≤ (mmany_k21 x1)) = true from decide_eq_true (Nat.le_of_eq (Nat.zero_add _))) (all_t c50 (all_f c46 (all_f c46 (all_f c46 (all_t (show decide ((0 + (mmany_k21 x1)) ≤ (mmany_k21 x1)) = true from decide_eq_true (Nat.le_of_eq (Nat.zero_add _))) (all_t c55 (all_f c46 (all_f c46 (all_t c58 (all_t c58 all_nil)))))))))))))))))))))))))))))))))))))))))))))))))))))))))))) ?_
  intro p hp p2 hq
  rcases List.mem_cons.1 hp with rfl | hp
  · skip
    have h3 := l8_0_ok m (m + 24) ((setG x0)) ((mmany_k2 x0 x4)) false ((((0 + (List.length (mmany_k1 x1))) : Nat) : Int)) 0 ((mmany_k1 x1)) _ (some_getD (d := l8_0D) c45)
    have h3 := turns_eq (e := [.top, .top, .top, .top, .top, .top, .top, .top, .top, .top, .top, (.d (.sl (.pair .str .str) (setG x0))), (.sr 0 0 (0 + (List.length (mmany_k1 x1))) 3 none), .top, .top, (.d (.sl (.pair .str .str) (mmany_k2 x0 x4))), (.d (.bool false)), .top, .top, .top, .top, .top, .top, .top, .top, .top, .top, .top, .top, .top, .top, .top, .top, .top, .top, .top, .top, .top, .top, .top, .top, .top, .top, .top, .top, .top, .top, .top, .top, .top, .top, .top, .top, .top, .top, .top, .top, .top, .top, .top, .top, .top, .top, .top, .top, .top, .top, .top, .top, .top, .top, .top, .top, .top, .top, .top, .top, .top, .top, (.sr 0 0 (0 + (List.length (mmany_k1 x1))) 3 none), (.d (.int .i64 (((0 + (List.length (mmany_k1 x1))) : Nat) : Int))), (.d (.int .i64 (0))), .top, .top, .top, .top, .top, .top, .top, .top, .top, .top, .top, .top, .top, .top, .top, .top, .top, .top, .top, .top, .top, .top, .top]) (B := [(.arr (.pair .str (.pair .str (.int .i64))) (mmany_k1 x1) true)]) (by unfold l8_0H; (try rw [show (0 + (List.length (mmany_k1 x1))) = (List.length (mmany_k1 x1)) from by simp])) rfl h3
    exact Eq.trans (Eq.mp (by kernel_rfl) h3) hq
  cases hp

set_option maxHeartbeats 20000000 in
theorem mmany_w12 (m : Nat) (x0 : (List Int) × (List Int)) (x1 : List ((List UInt8) × (List UInt8) × Int)) (x2 : List ((List UInt8) × (List UInt8) × Int)) (x3 : Int) (x4 : Int) (c1 : (decide (0 ≤ (mmany_k10 x1)) && decide ((mmany_k10 x1) ≤ (mmany_k29 x1))) = true) (c2 : decide (((0 + (List.length (mmany_k1 x1))) * 40) ≤ 70368744177664) = true) (c4 : (decide (0 ≤ (mmany_k11 x2)) && decide ((mmany_k11 x2) ≤ (mmany_k30 x2))) = true) (c5 : decide (((0 + (List.length (mmany_k3 x2))) * 40) ≤ 70368744177664) = true) (c7 : ((decide (0 ≤ (((0 + (List.length (mmany_k1 x1))) : Nat) : Int)) && decide ((((0 + (List.length (mmany_k1 x1))) : Nat) : Int) ≤ 2305843009213693951)) && decide (((((0 + (List.length (mmany_k1 x1))) : Nat) : Int) - (0)) ≤ 2305843009213693951)) = true) (c8 : decide ((0 + (0 + (List.length (mmany_k1 x1)))) ≤ (List.length (mmany_k1 x1))) = true) (c9 : decide (mmany_k20 x0 x1) = true) (c10 : (decide (0 ≤ (mmany_k4 x1 x3)) && decide ((mmany_k4 x1 x3) ≤ (((0 + (List.length (mmany_k1 x1))) : Nat) : Int))) = true) (c12 : decide ((0 + ((Int.toNat (mmany_k4 x1 x3)) - 0)) ≤ (List.length (mmany_k1 x1))) = true) (c13 : decide (mmany_k19 x0 x1 x3) = true) (c14 : ¬ (mmany_k27 x0 x1 x3) = true) (c20 : (mmany_k31 x0 x1) = true) (c22 : rightPre (mmany_k6 x1) = true) (c23 : (rightG (mmany_k6 x1)) = true) (c25 : decide ((0 + (0 + (List.length (mmany_k3 x2)))) ≤ (List.length (mmany_k3 x2))) = true) (c26 : rightPre (mmany_k9 x2) = true) (c28 : (rightG (mmany_k9 x2)) = true) (c42 : decide (mmany_k28 x1) = true) (c45 : (mmany_k18 x1 x2) = true) (c48 : decide (0 ≤ (withinI x4 (0) (5))) = true) (c49 : decide ((withinI x4 (0) (5)) < 8) = true) (c50 : decide (mmany_k22 x0) = true) (c51 : (Option.isSome (mmany_k8 x0 x1 x4 m)) = true) (c52 : (mmany_k5 x0 x1 x4 m).2.1 = true) : (evCall F S20 (m + 25) 8 [(.agg [(.d (.sl (.int .i64) x0.1)), (.d (.sl (.int .i64) x0.2))]), (.d (.sl (.pair .str (.pair .str (.int .i64))) x1)), (.d (.sl (.pair .str (.pair .str (.int .i64))) x2)), (.d (.int .i64 x3)), (.d (.int .i64 x4))] []).run = some (.d (.bool true), []) := by
  refine runT_ok (LS := (fun k => if k = 4231240368651202111576064 then some (mmany_k12 x0 x1 x4 m) else none)) (fn := fn8) (r := .d (.bool true)) (B' := []) (vis := [(4231240368651202111576064, [.top, .top, .top, .top, .top, .top, .top, .top, .top, .top, .top, (.d (.sl (.pair .str .str) (setG x0))), (.sr 0 0 (0 + (List.length (mmany_k1 x1))) 3 none), .top, .top, (.d (.sl (.pair .str .str) (mmany_k2 x0 x4))), (.d (.bool false)), .top, .top, .top, .top, .top, .top, .top, .top, .top, .top, .top, .top, .top, .top, .top, .top, .top, .top, .top, .top, .top, .top, .top, .top, .top, .top, .top, .top, .top, .top, .top, .top, .top, .top, .top, .top, .top, .top, .top, .top, .top, .top, .top, .top, .top, .top, .top, .top, .top, .top, .top, .top, .top, .top, .top, .top, .top, .top, .top, .top, .top, .top, (.sr 0 0 (0 + (List.length (mmany_k1 x1))) 3 none), (.d (.int .i64 (((0 + (List.length (mmany_k1 x1))) : Nat) : Int))), (.d (.int .i64 (0))), .top, .top, .top, .top, .top, .top, .top, .top, .top, .top, .top, .top, .top, .top, .top, .top, .top, .top, .top, .top, .top, .top, .top], [(.arr (.pair .str (.pair .str (.int .i64))) (mmany_k1 x1) true)])]) (by kernel_rfl) rfl (by kernel_rfl) (M.run_of_path _ [true, true, true, true, true, true, true, true, true, true, true, true, true, true, false, false, false, false, false, false, false, true, true, true, true, true, true, true, true, true, true, true, true, true, true, true, true, true, true, true, true, true, true, true, true, false, true, true, true, true, true, true, true, true, true, true, true, true, true, true, true] _ _ (by kernel_rfl) (all_t rfl (all_t c1 (all_t c2 (all_t rfl (all_t c4 (all_t c5 (all_t rfl (all_t c7 (all_t c8 (all_t c9 (all_t c10 (all_t (show (decide (0 < (0 + (List.length (mmany_k1 x1)))) || true) = true from Bool.or_true _) (all_t c12 (all_t c13 (all_f c14 (all_f c14 (all_f c14 (all_f c14 (all_f c14 (all_f c14 (all_nt c20 (all_t c8 (all_t c22 (all_t c23 (all_t c23 (all_t c25 (all_t c26 (all_t c23 (all_t c28 (all_t c28 (all_t c8 (all_t c22 (all_t c28 (all_t c28 (all_t c25 (all_t c26 (all_t c28 (all_t c28 (all_t c28 (all_t c28 (all_t c8 (all_t c25 (all_t c42 (all_t c28 (all_t c28 (all_nt c45 (all_t rfl (all_t rfl (all_t c48 (all_t c49 (all_t c50 (all_t c52 (all_t c52 (all_t c52 (all_t c52 (all_t c52 (all_t c52 (all_t c52 (all_t c52 (all_t rfl (all_t rfl all_nil)))))))))))))))))))))))))))))))))))))))))))))))))))))))))))))) ?_
  intro p hp p2 hq
  rcases List.mem_cons.1 hp with rfl | hp
  · skip
    have h3 := l8_0_ok m (m + 24) ((setG x0)) ((mmany_k2 x0 x4)) false ((((0 + (List.length (mmany_k1 x1))) : Nat) : Int)) 0 ((mmany_k1 x1)) _ (some_getD (d := l8_0D) c51)
    have h3 := turns_eq (e := [.top, .top, .top, .top, .top, .top, .top, .top, .top, .top, .top, (.d (.sl (.pair .str .str) (setG x0))), (.sr 0 0 (0 + (List.length (mmany_k1 x1))) 3 none), .top, .top, (.d (.sl (.pair .str .str) (mmany_k2 x0 x4))), (.d (.bool false)), .top, .top, .top, .top, .top, .top, .top, .top, .top, .top, .top, .top, .top, .top, .top, .top, .top, .top, .top, .top, .top, .top, .top, .top, .top, .top, .top, .top, .top, .top, .top, .top, .top, .top, .top, .top, .top, .top, .top, .top, .top, .top, .top, .top, .top, .top, .top, .top, .top, .top, .top, .top, .top, .top, .top, .top, .top, .top, .top, .top, .top, .top, (.sr 0 0 (0 + (List.length (mmany_k1 x1))) 3 none), (.d (.int .i64 (((0 + (List.length (mmany_k1 x1))) : Nat) : Int))), (.d (.int .i64 (0))), .top, .top, .top, .top, .top, .top, .top, .top, .top, .top, .top, .top, .top, .top, .top, .top, .top, .top, .top, .top, .top, .top, .top]) (B := [(.arr (.pair .str (.pair .str (.int .i64))) (mmany_k1 x1) true)]) (by unfold l8_0H; (try rw [show (0 + (List.length (mmany_k1 x1))) = (List.length (mmany_k1 x1)) from by simp])) rfl h3
    exact Eq.trans (Eq.mp (by kernel_rfl) h3) hq
  cases hp

set_option maxHeartbeats 20000000 in
theorem mmany_w13 (m : Nat) (x0 : (List Int) × (List Int)) (x1 : List ((List UInt8) × (List UInt8) × Int)) (x2 : List ((List UInt8) × (List UInt8) × Int)) (x3 : Int) (x4 : Int) (c1 : (decide (0 ≤ (mmany_k10 x1)) && decide ((mmany_k10 x1) ≤ (mmany_k29 x1))) = true) (c2 : decide (((0 + (List.length (mmany_k1 x1))) * 40) ≤ 70368744177664) = true) (c4 : (decide (0 ≤ (mmany_k11 x2)) && decide ((mmany_k11 x2) ≤ (mmany_k30 x2))) = true) (c5 : decide (((0 + (List.length (mmany_k3 x2))) * 40) ≤ 70368744177664) = true) (c7 : ((decide (0 ≤ (((0 + (List.length (mmany_k1 x1))) : Nat) : Int)) && decide ((((0 + (List.length (mmany_k1 x1))) : Nat) : Int) ≤ 2305843009213693951)) && decide (((((0 + (List.length (mmany_k1 x1))) : Nat) : Int) - (0)) ≤ 2305843009213693951)) = true) (c8 : decide ((0 + (0 + (List.length (mmany_k1 x1)))) ≤ (List.length (mmany_k1 x1))) = true) (c9 : decide (mmany_k20 x0 x1) = true) (c10 : (decide (0 ≤ (mmany_k4 x1 x3)) && decide ((mmany_k4 x1 x3) ≤ (((0 + (List.length (mmany_k1 x1))) : Nat) : Int))) = true) (c12 : decide ((0 + ((Int.toNat (mmany_k4 x1 x3)) - 0)) ≤ (List.length (mmany_k1 x1))) = true) (c13 : decide (mmany_k19 x0 x1 x3) = true) (c14 : ¬ (mmany_k27 x0 x1 x3) = true) (c20 : (mmany_k31 x0 x1) = true) (c22 : rightPre (mmany_k6 x1) = true) (c23 : (rightG (mmany_k6 x1)) = true) (c25 : decide ((0 + (0 + (List.length (mmany_k3 x2)))) ≤ (List.length (mmany_k3 x2))) = true) (c26 : rightPre (mmany_k9 x2) = true) (c28 : (rightG (mmany_k9 x2)) = true) (c42 : decide (mmany_k28 x1) = true) (c45 : (mmany_k18 x1 x2) = true) (c48 : decide (0 ≤ (withinI x4 (0) (5))) = true) (c49 : decide ((withinI x4 (0) (5)) < 8) = true) (c50 : decide (mmany_k22 x0) = true) (c51 : (Option.isSome (mmany_k8 x0 x1 x4 m)) = true) (c52 : ¬ (mmany_k5 x0 x1 x4 m).2.1 = true) (c56 : decide (mmany_k15 x0 x1 x4) = true) (c61 : decide (mmany_k17 x0 x1) = true) (c64 : (mmany_k16 x0 x1 x4) = true) : (evCall F S20 (m + 25) 8 [(.agg [(.d (.sl (.int .i64) x0.1)), (.d (.sl (.int .i64) x0.2))]), (.d (.sl (.pair .str (.pair .str (.int .i64))) x1)), (.d (.sl (.pair .str (.pair .str (.int .i64))) x2)), (.d (.int .i64 x3)), (.d (.int .i64 x4))] []).run = some (.d (.bool true), []) := by
  refine runT_ok (LS := (fun k => if k = 4231240368651202111576064 then some (mmany_k12 x0 x1 x4 m) else none)) (fn := fn8) (r := .d (.bool true)) (B' := []) (vis := [(4231240368651202111576064, [.top, .top, .top, .top, .top, .top, .top, .top, .top, .top, .top, (.d (.sl (.pair .str .str) (setG x0))), (.sr 0 0 (0 + (List.length (mmany_k1 x1))) 3 none), .top, .top, (.d (.sl (.pair .str .str) (mmany_k2 x0 x4))), (.d (.bool false)), .top, .top, .top, .top, .top, .top, .top, .top, .top, .top, .top, .top, .top, .top, .top, .top, .top, .top, .top, .top, .top, .top, .top, .top, .top, .top, .top, .top, .top, .top, .top, .top, .top, .top, .top, .top, .top, .top, .top, .top, .top, .top, .top, .top, .top, .top, .top, .top, .top, .top, .top, .top, .top, .top, .top, .top, .top, .top, .top, .top, .top, .top, (.sr 0 0 (0 + (List.length (mmany_k1 x1))) 3 none), (.d (.int .i64 (((0 + (List.length (mmany_k1 x1))) : Nat) : Int))), (.d (.int .i64 (0))), .top, .top, .top, .top, .top, .top, .top, .top, .top, .top, .top, .top, .top, .top, .top, .top, .top, .top, .top, .top, .top, .top, .top], [(.arr (.pair .str (.pair .str (.int .i64))) (mmany_k1 x1) true)])]) (by kernel_rfl) rfl (by kernel_rfl) (M.run_of_path _ [true, true, true, true, true, true, true, true, true, true, true, true, true, true, false, false, false, false, false, false, false, true, true, true, true, true, true, true, true, true, true, true, true, true, true, true, true, true, true, true, true, true, true, true, true, false, true, true, true, true, true, false, false, false, true, true, false, false, false, true, true, false, false, true, true] _ _ (by kernel_rfl) (all_t rfl (all_t c1 (all_t c2 (all_t rfl (all_t c4 (all_t c5 (all_t rfl (all_t c7 (all_t c8 (all_t c9 (all_t c10 (all_t (show (decide (0 < (0 + (List.length (mmany_k1 x1)))) || true) = true from Bool.or_true _) (all_t c12 (all_t c13 (all_f c14 (all_f c14 (all_f c14 (all_f c14 (all_f c14 (all_f c14 (all_nt c20 (all_t c8 (all_t c22 (all_t c23 (all_t c23 (all_t c25 (all_t c26 (all_t c23 (all_t c28 (all_t c28 (all_t c8 (all_t c22 (all_t c28 (all_t c28 (all_t c25 (all_t c26 (all_t c28 (all_t c28 (all_t c28 (all_t c28 (all_t c8 (all_t c25 (all_t c42 (all_t c28 (all_t c28 (all_nt c45 (all_t rfl (all_t rfl (all_t c48 (all_t c49 (all_t c50 (all_f c52 (all_f c52 (all_f c52 (all_t (show decide ((0 + (mmany_k21 x1)) ≤ (mmany_k21 x1)) = true from decide_eq_true (Nat.le_of_eq (Nat.zero_add _))) (all_t c56 (all_f c52 (all_f c52 (all_f c52 (all_t (show decide ((0 + (mmany_k21 x1)) ≤ (mmany_k21 x1)) = true from decide_eq_true (Nat.le_of_eq (Nat.zero_add _))) (all_t c61 (all_f c52 (all_f c52 (all_t c64 (all_t c64 all_nil)))))))))))))))))))))))))))))))))))))))))))))))))))))))))))))))))) ?_
  intro p hp p2 hq
  rcases List.mem_cons.1 hp with rfl | hp
  · skip
    have h3 := l8_0_ok m (m + 24) ((setG x0)) ((mmany_k2 x0 x4)) false ((((0 + (List.length (mmany_k1 x1))) : Nat) : Int)) 0 ((mmany_k1 x1)) _ (some_getD (d := l8_0D) c51)
    have h3 := turns_eq (e := [.top, .top, .top, .top, .top, .top, .top, .top, .top, .top, .top, (.d (.sl (.pair .str .str) (setG x0))), (.sr 0 0 (0 + (List.length (mmany_k1 x1))) 3 none), .top, .top, (.d (.sl (.pair .str .str) (mmany_k2 x0 x4))), (.d (.bool false)), .top, .top, .top, .top, .top, .top, .top, .top, .top, .top, .top, .top, .top, .top, .top, .top, .top, .top, .top, .top, .top, .top, .top, .top, .top, .top, .top, .top, .top, .top, .top, .top, .top, .top, .top, .top, .top, .top, .top, .top, .top, .top, .top, .top, .top, .top, .top, .top, .top, .top, .top, .top, .top, .top, .top, .top, .top, .top, .top, .top, .top, .top, (.sr 0 0 (0 + (List.length (mmany_k1 x1))) 3 none), (.d (.int .i64 (((0 + (List.length (mmany_k1 x1))) : Nat) : Int))), (.d (.int .i64 (0))), .top, .top, .top, .top, .top, .top, .top, .top, .top, .top, .top, .top, .top, .top, .top, .top, .top, .top, .top, .top, .top, .top, .top]) (B := [(.arr (.pair .str (.pair .str (.int .i64))) (mmany_k1 x1) true)]) (by unfold l8_0H; (try rw [show (0 + (List.length (mmany_k1 x1))) = (List.length (mmany_k1 x1)) from by simp])) rfl h3
    exact Eq.trans (Eq.mp (by kernel_rfl) h3) hq
  cases hp

set_option maxHeartbeats 20000000 in
theorem mmany_w14 (m : Nat) (x0 : (List Int) × (List Int)) (x1 : List ((List UInt8) × (List UInt8) × Int)) (x2 : List ((List UInt8) × (List UInt8) × Int)) (x3 : Int) (x4 : Int) (c1 : (decide (0 ≤ (mmany_k10 x1)) && decide ((mmany_k10 x1) ≤ (mmany_k29 x1))) = true) (c2 : decide (((0 + (List.length (mmany_k1 x1))) * 40) ≤ 70368744177664) = true) (c4 : (decide (0 ≤ (mmany_k11 x2)) && decide ((mmany_k11 x2) ≤ (mmany_k30 x2))) = true) (c5 : decide (((0 + (List.length (mmany_k3 x2))) * 40) ≤ 70368744177664) = true) (c7 : ((decide (0 ≤ (((0 + (List.length (mmany_k1 x1))) : Nat) : Int)) && decide ((((0 + (List.length (mmany_k1 x1))) : Nat) : Int) ≤ 2305843009213693951)) && decide (((((0 + (List.length (mmany_k1 x1))) : Nat) : Int) - (0)) ≤ 2305843009213693951)) = true) (c8 : decide ((0 + (0 + (List.length (mmany_k1 x1)))) ≤ (List.length (mmany_k1 x1))) = true) (c9 : decide (mmany_k20 x0 x1) = true) (c10 : (decide (0 ≤ (mmany_k4 x1 x3)) && decide ((mmany_k4 x1 x3) ≤ (((0 + (List.length (mmany_k1 x1))) : Nat) : Int))) = true) (c12 : decide ((0 + ((Int.toNat (mmany_k4 x1 x3)) - 0)) ≤ (List.length (mmany_k1 x1))) = true) (c13 : decide (mmany_k19 x0 x1 x3) = true) (c14 : ¬ (mmany_k27 x0 x1 x3) = true) (c20 : (mmany_k31 x0 x1) = true) (c22 : rightPre (mmany_k6 x1) = true) (c23 : (rightG (mmany_k6 x1)) = true) (c25 : decide ((0 + (0 + (List.length (mmany_k3 x2)))) ≤ (List.length (mmany_k3 x2))) = true) (c26 : rightPre (mmany_k9 x2) = true) (c28 : ¬ (rightG (mmany_k9 x2)) = true) (c41 : decide (0 ≤ (withinI x4 (0) (5))) = true) (c42 : decide ((withinI x4 (0) (5)) < 8) = true) (c43 : decide (mmany_k22 x0) = true) (c44 : (Option.isSome (mmany_k8 x0 x1 x4 m)) = true) (c45 : (mmany_k5 x0 x1 x4 m).2.1 = true) : (evCall F S20 (m + 25) 8 [(.agg [(.d (.sl (.int .i64) x0.1)), (.d (.sl (.int .i64) x0.2))]), (.d (.sl (.pair .str (.pair .str (.int .i64))) x1)), (.d (.sl (.pair .str (.pair .str (.int .i64))) x2)), (.d (.int .i64 x3)), (.d (.int .i64 x4))] []).run = some (.d (.bool true), []) := by
  refine runT_ok (LS := (fun k => if k = 4231240368651202111576064 then some (mmany_k12 x0 x1 x4 m) else none)) (fn := fn8) (r := .d (.bool true)) (B' := []) (vis := [(4231240368651202111576064, [.top, .top, .top, .top, .top, .top, .top, .top, .top, .top, .top, (.d (.sl (.pair .str .str) (setG x0))), (.sr 0 0 (0 + (List.length (mmany_k1 x1))) 3 none), .top, .top, (.d (.sl (.pair .str .str) (mmany_k2 x0 x4))), (.d (.bool false)), .top, .top, .top, .top, .top, .top, .top, .top, .top, .top, .top, .top, .top, .top, .top, .top, .top, .top, .top, .top, .top, .top, .top, .top, .top, .top, .top, .top, .top, .top, .top, .top, .top, .top, .top, .top, .top, .top, .top, .top, .top, .top, .top, .top, .top, .top, .top, .top, .top, .top, .top, .top, .top, .top, .top, .top, .top, .top, .top, .top, .top, .top, (.sr 0 0 (0 + (List.length (mmany_k1 x1))) 3 none), (.d (.int .i64 (((0 + (List.length (mmany_k1 x1))) : Nat) : Int))), (.d (.int .i64 (0))), .top, .top, .top, .top, .top, .top, .top, .top, .top, .top, .top, .top, .top, .top, .top, .top, .top, .top, .top, .top, .top, .top, .top], [(.arr (.pair .str (.pair .str (.int .i64))) (mmany_k1 x1) true)])]) (by kernel_rfl) rfl (by kernel_rfl) (M.run_of_path _ [true, true, true, true, true, true, true, true, true, true, true, true, true, true, false, false, false, false, false, false, false, true, true, true, true, true, true, true, false, false, false, false, false, false, false, false, false, false, false, true, true, true, true, true, true, true, true, true, true, true, true, true, true, true] _ _ (by kernel_rfl) (all_t rfl (all_t c1 (all_t c2 (all_t rfl (all_t c4 (all_t c5 (all_t rfl (all_t c7 (all_t c8 (all_t c9 (all_t c10 (all_t (show (decide (0 < (0 + (List.length (mmany_k1 x1)))) || true) = true from Bool.or_true _) (all_t c12 (all_t c13 (all_f c14 (all_f c14 (all_f c14 (all_f c14 (all_f c14 (all_f c14 (all_nt c20 (all_t c8 (all_t c22 (all_t c23 (all_t c23 (all_t c25 (all_t c26 (all_t c23 (all_f c28 (all_f c28 (all_f c28 (all_f c28 (all_f c28 (all_f c28 (all_f c28 (all_f c28 (all_f c28 (all_f c28 (all_f Bool.false_ne_true (all_t rfl (all_t rfl (all_t c41 (all_t c42 (all_t c43 (all_t c45 (all_t c45 (all_t c45 (all_t c45 (all_t c45 (all_t c45 (all_t c45 (all_t c45 (all_t rfl (all_t rfl all_nil))))))))))))))))))))))))))))))))))))))))))))))))))))))) ?_
  intro p hp p2 hq
  rcases List.mem_cons.1 hp with rfl | hp
  · skip
    have h3 := l8_0_ok m (m + 24) ((setG x0)) ((mmany_k2 x0 x4)) false ((((0 + (List.length (mmany_k1 x1))) : Nat) : Int)) 0 ((mmany_k1 x1)) _ (some_getD (d := l8_0D) c44)
    have h3 := turns_eq (e := [.top, .top, .top, .top, .top, .top, .top, .top, .top, .top, .top, (.d (.sl (.pair .str .str) (setG x0))), (.sr 0 0 (0 + (List.length (mmany_k1 x1))) 3 none), .top, .top, (.d (.sl (.pair .str .str) (mmany_k2 x0 x4))), (.d (.bool false)), .top, .top, .top, .top, .top, .top, .top, .top, .top, .top, .top, .top, .top, .top, .top, .top, .top, .top, .top, .top, .top, .top, .top, .top, .top, .top, .top, .top, .top, .top, .top, .top, .top, .top, .top, .top, .top, .top, .top, .top, .top, .top, .top, .top, .top, .top, .top, .top, .top, .top, .top, .top, .top, .top, .top, .top, .top, .top, .top, .top, .top, .top, (.sr 0 0 (0 + (List.length (mmany_k1 x1))) 3 none), (.d (.int .i64 (((0 + (List.length (mmany_k1 x1))) : Nat) : Int))), (.d (.int .i64 (0))), .top, .top, .top, .top, .top, .top, .top, .top, .top, .top, .top, .top, .top, .top, .top, .top, .top, .top, .top, .top, .top, .top, .top]) (B := [(.arr (.pair .str (.pair .str (.int .i64))) (mmany_k1 x1) true)]) (by unfold l8_0H; (try rw [show (0 + (List.length (mmany_k1 x1))) = (List.length (mmany_k1 x1)) from by simp])) rfl h3
    exact Eq.trans (Eq.mp (by kernel_rfl) h3) hq
  cases hp

set_option maxHeartbeats 20000000 in
theorem mmany_w15 (m : Nat) (x0 : (List Int) × (List Int)) (x1 : List ((List UInt8) × (List UInt8) × Int)) (x2 : List ((List UInt8) × (List UInt8) × Int)) (x3 : Int) (x4 : Int) (c1 : (decide (0 ≤ (mmany_k10 x1)) && decide ((mmany_k10 x1) ≤ (mmany_k29 x1))) = true) (c2 : decide (((0 + (List.length (mmany_k1 x1))) * 40) ≤ 70368744177664) = true) (c4 : (decide (0 ≤ (mmany_k11 x2)) && decide ((mmany_k11 x2) ≤ (mmany_k30 x2))) = true) (c5 : decide (((0 + (List.length (mmany_k3 x2))) * 40) ≤ 70368744177664) = true) (c7 : ((decide (0 ≤ (((0 + (List.length (mmany_k1 x1))) : Nat) : Int)) && decide ((((0 + (List.length (mmany_k1 x1))) : Nat) : Int) ≤ 2305843009213693951)) && decide (((((0 + (List.length (mmany_k1 x1))) : Nat) : Int) - (0)) ≤ 2305843009213693951)) = true) (c8 : decide ((0 + (0 + (List.length (mmany_k1 x1)))) ≤ (List.length (mmany_k1 x1))) = true) (c9 : decide (mmany_k20 x0 x1) = true) (c10 : (decide (0 ≤ (mmany_k4 x1 x3)) && decide ((mmany_k4 x1 x3) ≤ (((0 + (List.length (mmany_k1 x1))) : Nat) : Int))) = true) (c12 : decide ((0 + ((Int.toNat (mmany_k4 x1 x3)) - 0)) ≤ (List.length (mmany_k1 x1))) = true) (c13 : decide (mmany_k19 x0 x1 x3) = true) (c14 : ¬ (mmany_k27 x0 x1 x3) = true) (c20 : (mmany_k31 x0 x1) = true) (c22 : rightPre (mmany_k6 x1) = true) (c23 : (rightG (mmany_k6 x1)) = true) (c25 : decide ((0 + (0 + (List.length (mmany_k3 x2)))) ≤ (List.length (mmany_k3 x2))) = true) (c26 : rightPre (mmany_k9 x2) = true) (c28 : ¬ (rightG (mmany_k9 x2)) = true) (c41 : decide (0 ≤ (withinI x4 (0) (5))) = true) (c42 : decide ((withinI x4 (0) (5)) < 8) = true) (c43 : decide (mmany_k22 x0) = true) (c44 : (Option.isSome (mmany_k8 x0 x1 x4 m)) = true) (c45 : ¬ (mmany_k5 x0 x1 x4 m).2.1 = true) (c49 : decide (mmany_k15 x0 x1 x4) = true) (c54 : decide (mmany_k17 x0 x1) = true) (c57 : (mmany_k16 x0 x1 x4) = true) : (evCall F S20 (m + 25) 8 [(.agg [(.d (.sl (.int .i64) x0.1)), (.d (.sl (.int .i64) x0.2))]), (.d (.sl (.pair .str (.pair .str (.int .i64))) x1)), (.d (.sl (.pair .str (.pair .str (.int .i64))) x2)), (.d (.int .i64 x3)), (.d (.int .i64 x4))] []).run = some (.d (.bool true), []) := by
  refine runT_ok (LS := (fun k => if k = 4231240368651202111576064 then some (mmany_k12 x0 x1 x4 m) else none)) (fn := fn8) (r := .d (.bool true)) (B' := []) (vis := [(4231240368651202111576064, [.top, .top, .top, .top, .top, .top, .top, .top, .top, .top, .top, (.d (.sl (.pair .str .str) (setG x0))), (.sr 0 0 (0 + (List.length (mmany_k1 x1))) 3 none), .top, .top, (.d (.sl (.pair .str .str) (mmany_k2 x0 x4))), (.d (.bool false)), .top, .top, .top, .top, .top, .top, .top, .top, .top, .top, .top, .top, .top, .top, .top, .top, .top, .top, .top, .top, .top, .top, .top, .top, .top, .top, .top, .top, .top, .top, .top, .top, .top, .top, .top, .top, .top, .top, .top, .top, .top, .top, .top, .top, .top, .top, .top, .top, .top, .top, .top, .top, .top, .top, .top, .top, .top, .top, .top, .top, .top, .top, (.sr 0 0 (0 + (List.length (mmany_k1 x1))) 3 none), (.d (.int .i64 (((0 + (List.length (mmany_k1 x1))) : Nat) : Int))), (.d (.int .i64 (0))), .top, .top, .top, .top, .top, .top, .top, .top, .top, .top, .top, .top, .top, .top, .top, .top, .top, .top, .top, .top, .top, .top, .top], [(.arr (.pair .str (.pair .str (.int .i64))) (mmany_k1 x1) true)])]) (by kernel_rfl) rfl (by kernel_rfl) (M.run_of_path _ [true, true, true, true, true, true, true, true, true, true, true, true, true, true, false, false, false, false, false, false, false, true, true, true, true, true, true, true, false, false, false, false, false, false, false, false, false, false, false, true, true, true, true, true, false, false, false, true, true, false, false, false, true, true, false, false, true, true] _ _ (by kernel_rfl) (all_t rfl (all_t c1 (all_t c2 (all_t rfl (all_t c4 (all_t c5 (all_t rfl (all_t c7 (all_t c8 (all_t c9 (all_t c10 (all_t (show (decide (0 < (0 + (List.length (mmany_k1 x1)))) || true) = true from Bool.or_true _) (all_t c12 (all_t c13 (all_f c14 (all_f c14 (all_f c14 (all_f c14 (all_f c14 (all_f c14 (all_nt c20 (all_t c8 (all_t c22 (all_t c23 (all_t c23 (all_t c25 (all_t c26 (all_t c23 (all_f c28 (all_f c28 (all_f c28 (all_f c28 (all_f c28 (all_f c28 (all_f c28 (all_f c28 (all_f c28 (all_f c28 (all_f Bool.false_ne_true (all_t rfl (all_t rfl (all_t c41 (all_t c42 (all_t c43 (all_f c45 (all_f c45 (all_f c45 (all_t (show decide ((0 + (mmany_k21 x1)) ≤ (mmany_k21 x1)) = true from decide_eq_true (Nat.le_of_eq (Nat.zero_add _))) (all_t c49 (all_f c45 (all_f c45 (all_f c45 (all_t (show decide ((0 + (mmany_k21 x1)) ≤ (mmany_k21 x1)) = true from decide_eq_true (Nat.le_of_eq (Nat.zero_add _))) (all_t c54 (all_f c45 (all_f c45 (all_t c57 (all_t c57 all_nil))))))))))))))))))))))))))))))))))))))))))))))))))))))))))) ?_
  intro p hp p2 hq
  rcases List.mem_cons.1 hp with rfl | hp
  · skip
    have h3 := l8_0_ok m (m + 24) ((setG x0)) ((mmany_k2 x0 x4)) false ((((0 + (List.length (mmany_k1 x1))) : Nat) : Int)) 0 ((mmany_k1 x1)) _ (some_getD (d := l8_0D) c44)
    have h3 := turns_eq (e := [.top, .top, .top, .top, .top, .top, .top, .top, .top, .top, .top, (.d (.sl (.pair .str .str) (setG x0))), (.sr 0 0 (0 + (List.length (mmany_k1 x1))) 3 none), .top, .top, (.d (.sl (.pair .str .str) (mmany_k2 x0 x4))), (.d (.bool false)), .top, .top, .top, .top, .top, .top, .top, .top, .top, .top, .top, .top, .top, .top, .top, .top, .top, .top, .top, .top, .top, .top, .top, .top, .top, .top, .top, .top, .top, .top, .top, .top, .top, .top, .top, .top, .top, .top, .top, .top, .top, .top, .top, .top, .top, .top, .top, .top, .top, .top, .top, .top, .top, .top, .top, .top, .top, .top, .top, .top, .top, .top, (.sr 0 0 (0 + (List.length (mmany_k1 x1))) 3 none), (.d (.int .i64 (((0 + (List.length (mmany_k1 x1))) : Nat) : Int))), (.d (.int .i64 (0))), .top, .top, .top, .top, .top, .top, .top, .top, .top, .top, .top, .top, .top, .top, .top, .top, .top, .top, .top, .top, .top, .top, .top]) (B := [(.arr (.pair .str (.pair .str (.int .i64))) (mmany_k1 x1) true)]) (by unfold l8_0H; (try rw [show (0 + (List.length (mmany_k1 x1))) = (List.length (mmany_k1 x1)) from by simp])) rfl h3
    exact Eq.trans (Eq.mp (by kernel_rfl) h3) hq
  cases hp

set_option maxHeartbeats 20000000 in
theorem mmany_w16 (m : Nat) (x0 : (List Int) × (List Int)) (x1 : List ((List UInt8) × (List UInt8) × Int)) (x2 : List ((List UInt8) × (List UInt8) × Int)) (x3 : Int) (x4 : Int) (c1 : (decide (0 ≤ (mmany_k10 x1)) && decide ((mmany_k10 x1) ≤ (mmany_k29 x1))) = true) (c2 : decide (((0 + (List.length (mmany_k1 x1))) * 40) ≤ 70368744177664) = true) (c4 : (decide (0 ≤ (mmany_k11 x2)) && decide ((mmany_k11 x2) ≤ (mmany_k30 x2))) = true) (c5 : decide (((0 + (List.length (mmany_k3 x2))) * 40) ≤ 70368744177664) = true) (c7 : ((decide (0 ≤ (((0 + (List.length (mmany_k1 x1))) : Nat) : Int)) && decide ((((0 + (List.length (mmany_k1 x1))) : Nat) : Int) ≤ 2305843009213693951)) && decide (((((0 + (List.length (mmany_k1 x1))) : Nat) : Int) - (0)) ≤ 2305843009213693951)) = true) (c8 : decide ((0 + (0 + (List.length (mmany_k1 x1)))) ≤ (List.length (mmany_k1 x1))) = true) (c9 : decide (mmany_k20 x0 x1) = true) (c10 : (decide (0 ≤ (mmany_k4 x1 x3)) && decide ((mmany_k4 x1 x3) ≤ (((0 + (List.length (mmany_k1 x1))) : Nat) : Int))) = true) (c12 : decide ((0 + ((Int.toNat (mmany_k4 x1 x3)) - 0)) ≤ (List.length (mmany_k1 x1))) = true) (c13 : decide (mmany_k19 x0 x1 x3) = true) (c14 : ¬ (mmany_k27 x0 x1 x3) = true) (c20 : (mmany_k31 x0 x1) = true) (c22 : rightPre (mmany_k6 x1) = true) (c23 : ¬ (rightG (mmany_k6 x1)) = true) (c39 : decide (0 ≤ (withinI x4 (0) (5))) = true) (c40 : decide ((withinI x4 (0) (5)) < 8) = true) (c41 : decide (mmany_k22 x0) = true) (c42 : (Option.isSome (mmany_k8 x0 x1 x4 m)) = true) (c43 : (mmany_k5 x0 x1 x4 m).2.1 = true) : (evCall F S20 (m + 25) 8 [(.agg [(.d (.sl (.int .i64) x0.1)), (.d (.sl (.int .i64) x0.2))]), (.d (.sl (.pair .str (.pair .str (.int .i64))) x1)), (.d (.sl (.pair .str (.pair .str (.int .i64))) x2)), (.d (.int .i64 x3)), (.d (.int .i64 x4))] []).run = some (.d (.bool true), []) := by
  refine runT_ok (LS := (fun k => if k = 4231240368651202111576064 then some (mmany_k12 x0 x1 x4 m) else none)) (fn := fn8) (r := .d (.bool true)) (B' := []) (vis := [(4231240368651202111576064, [.top, .top, .top, .top, .top, .top, .top, .top, .top, .top, .top, (.d (.sl (.pair .str .str) (setG x0))), (.sr 0 0 (0 + (List.length (mmany_k1 x1))) 3 none), .top, .top, (.d (.sl (.pair .str .str) (mmany_k2 x0 x4))), (.d (.bool false)), .top, .top, .top, .top, .top, .top, .top, .top, .top, .top, .top, .top, .top, .top, .top, .top, .top, .top, .top, .top, .top, .top, .top, .top, .top, .top, .top, .top, .top, .top, .top, .top, .top, .top, .top, .top, .top, .top, .top, .top, .top, .top, .top, .top, .top, .top, .top, .top, .top, .top, .top, .top, .top, .top, .top, .top, .top, .top, .top, .top, .top, .top, (.sr 0 0 (0 + (List.length (mmany_k1 x1))) 3 none), (.d (.int .i64 (((0 + (List.length (mmany_k1 x1))) : Nat) : Int))), (.d (.int .i64 (0))), .top, .top, .top, .top, .top, .top, .top, .top, .top, .top, .top, .top, .top, .top, .top, .top, .top, .top, .top, .top, .top, .top, .top], [(.arr (.pair .str (.pair .str (.int .i64))) (mmany_k1 x1) true)])]) (by kernel_rfl) rfl (by kernel_rfl) (M.run_of_path _ [true, true, true, true, true, true, true, true, true, true, true, true, true, true, false, false, false, false, false, false, false, true, true, false, false, false, false, false, false, false, false, false, false, false, false, false, false, true, true, true, true, true, true, true, true, true, true, true, true, true, true, true] _ _ (by kernel_rfl) (all_t rfl (all_t c1 (all_t c2 (all_t rfl (all_t c4 (all_t c5 (all_t rfl (all_t c7 (all_t c8 (all_t c9 (all_t c10 (all_t (show (decide (0 < (0 + (List.length (mmany_k1 x1)))) || true) = true from Bool.or_true _) (all_t c12 (all_t c13 (all_f c14 (all_f c14 (all_f c14 (all_f c14 (all_f c14 (all_f c14 (all_nt c20 (all_t c8 (all_t c22 (all_f c23 (all_f c23 (all_f c23 (all_f Bool.false_ne_true (all_f Bool.false_ne_true (all_f Bool.false_ne_true (all_f Bool.false_ne_true (all_f Bool.false_ne_true (all_f Bool.false_ne_true (all_f Bool.false_ne_true (all_f Bool.false_ne_true (all_f Bool.false_ne_true (all_f Bool.false_ne_true (all_f Bool.false_ne_true (all_t rfl (all_t rfl (all_t c39 (all_t c40 (all_t c41 (all_t c43 (all_t c43 (all_t c43 (all_t c43 (all_t c43 (all_t c43 (all_t c43 (all_t c43 (all_t rfl (all_t rfl all_nil))))))))))))))))))))))))))))))))))))))))))))))))))))) ?_
  intro p hp p2 hq
  rcases List.mem_cons.1 hp with rfl | hp
  · skip
    have h3 := l8_0_ok m (m + 24) ((setG x0)) ((mmany_k2 x0 x4)) false ((((0 + (List.length (mmany_k1 x1))) : Nat) : Int)) 0 ((mmany_k1 x1)) _ (some_getD (d := l8_0D) c42)
    have h3 := turns_eq (e := [.top, .top, .top, .top, .top, .top, .top, .top, .top, .top, .top, (.d (.sl (.pair .str .str) (setG x0))), (.sr 0 0 (0 + (List.length (mmany_k1 x1))) 3 none), .top, .top, (.d (.sl (.pair .str .str) (mmany_k2 x0 x4))), (.d (.bool false)), .top, .top, .top, .top, .top, .top, .top, .top, .top, .top, .top, .top, .top, .top, .top, .top, .top, .top, .top, .top, .top, .top, .top, .top, .top, .top, .top, .top, .top, .top, .top, .top, .top, .top, .top, .top, .top, .top, .top, .top, .top, .top, .top, .top, .top, .top, .top, .top, .top, .top, .top, .top, .top, .top, .top, .top, .top, .top, .top, .top, .top, .top, (.sr 0 0 (0 + (List.length (mmany_k1 x1))) 3 none), (.d (.int .i64 (((0 + (List.length (mmany_k1 x1))) : Nat) : Int))), (.d (.int .i64 (0))), .top, .top, .top, .top, .top, .top, .top, .top, .top, .top, .top, .top, .top, .top, .top, .top, .top, .top, .top, .top, .top, .top, .top]) (B := [(.arr (.pair .str (.pair .str (.int .i64))) (mmany_k1 x1) true)]) (by unfold l8_0H; (try rw [show (0 + (List.length (mmany_k1 x1))) = (List.length (mmany_k1 x1)) from by simp])) rfl h3
    exact Eq.trans (Eq.mp (by kernel_rfl) h3) hq
  cases hp

set_option maxHeartbeats 20000000 in
theorem mmany_w17 (m : Nat) (x0 : (List Int) × (List Int)) (x1 : List ((List UInt8) × (List UInt8) × Int)) (x2 : List ((List UInt8) × (List UInt8) × Int)) (x3 : Int) (x4 : Int) (c1 : (decide (0 ≤ (mmany_k10 x1)) && decide ((mmany_k10 x1) ≤ (mmany_k29 x1))) = true) (c2 : decide (((0 + (List.length (mmany_k1 x1))) * 40) ≤ 70368744177664) = true) (c4 : (decide (0 ≤ (mmany_k11 x2)) && decide ((mmany_k11 x2) ≤ (mmany_k30 x2))) = true) (c5 : decide (((0 + (List.length (mmany_k3 x2))) * 40) ≤ 70368744177664) = true) (c7 : ((decide (0 ≤ (((0 + (List.length (mmany_k1 x1))) : Nat) : Int)) && decide ((((0 + (List.length (mmany_k1 x1))) : Nat) : Int) ≤ 2305843009213693951)) && decide (((((0 + (List.length (mmany_k1 x1))) : Nat) : Int) - (0)) ≤ 2305843009213693951)) = true) (c8 : decide ((0 + (0 + (List.length (mmany_k1 x1)))) ≤ (List.length (mmany_k1 x1))) = true) (c9 : decide (mmany_k20 x0 x1) = true) (c10 : (decide (0 ≤ (mmany_k4 x1 x3)) && decide ((mmany_k4 x1 x3) ≤ (((0 + (List.length (mmany_k1 x1))) : Nat) : Int))) = true) (c12 : decide ((0 + ((Int.toNat (mmany_k4 x1 x3)) - 0)) ≤ (List.length (mmany_k1 x1))) = true) (c13 : decide (mmany_k19 x0 x1 x3) = true) (c14 : ¬ (mmany_k27 x0 x1 x3) = true) (c20 : (mmany_k31 x0 x1) = true) (c22 : rightPre (mmany_k6 x1) = true) (c23 : ¬ (rightG (mmany_k6 x1)) = true) (c39 : decide (0 ≤ (withinI x4 (0) (5))) = true) (c40 : decide ((withinI x4 (0) (5)) < 8) = true) (c41 : decide (mmany_k22 x0) = true) (c42 : (Option.isSome (mmany_k8 x0 x1 x4 m)) = true) (c43 : ¬ (mmany_k5 x0 x1 x4 m).2.1 = true) (c47 : decide (mmany_k15 x0 x1 x4) = true) (c52 : decide (mmany_k17 x0 x1) = true) (c55 : (mmany_k16 x0 x1 x4) = true) : (evCall F S20 (m + 25) 8 [(.agg [(.d (.sl (.int .i64) x0.1)), (.d (.sl (.int .i64) x0.2))]), (.d (.sl (.pair .str (.pair .str (.int .i64))) x1)), (.d (.sl (.pair .str (.pair .str (.int .i64))) x2)), (.d (.int .i64 x3)), (.d (.int .i64 x4))] []).run = some (.d (.bool true), []) := by
  refine runT_ok (LS := (fun k => if k = 4231240368651202111576064 then some (mmany_k12 x0 x1 x4 m) else none)) (fn := fn8) (r := .d (.bool true)) (B' := []) (vis := [(4231240368651202111576064, [.top, .top, .top, .top, .top, .top, .top, .top, .top, .top, .top, (.d (.sl (.pair .str .str) (setG x0))), (.sr 0 0 (0 + (List.length (mmany_k1 x1))) 3 none), .top, .top, (.d (.sl (.pair .str .str) (mmany_k2 x0 x4))), (.d (.bool false)), .top, .top, .top, .top, .top, .top, .top, .top, .top, .top, .top, .top, .top, .top, .top, .top, .top, .top, .top, .top, .top, .top, .top, .top, .top, .top, .top, .top, .top, .top, .top, .top, .top, .top, .top, .top, .top, .top, .top, .top, .top, .top, .top, .top, .top, .top, .top, .top, .top, .top, .top, .top, .top, .top, .top, .top, .top, .top, .top, .top, .top, .top, (.sr 0 0 (0 + (List.length (mmany_k1 x1))) 3 none), (.d (.int .i64 (((0 + (List.length (mmany_k1 x1))) : Nat) : Int))), (.d (.int .i64 (0))), .top, .top, .top, .top, .top, .top, .top, .top, .top, .top, .top, .top, .top, .top, .top, .top, .top, .top, .top, .top, .top, .top, .top], [(.arr (.pair .str (.pair .str (.int .i64))) (mmany_k1 x1) true)])]) (by kernel_rfl) rfl (by kernel_rfl) (M.run_of_path _ [true, true, true, true, true, true, true, true, true, true, true, true, true, true, false, false, false, false, false, false, false, true, true, false, false, false, false, false, false, false, false, false, false, false, false, false, false, true, true, true, true, true, false, false, false, true, true, false, false, false, true, true, false, false, true, true] _ _ (by kernel_rfl) (all_t rfl (all_t c1 (all_t c2 (all_t rfl (all_t c4 (all_t c5 (all_t rfl (all_t c7 (all_t c8 (all_t c9 (all_t c10 (all_t (show (decide (0 < (0 + (List.length (mmany_k1 x1)))) || true) = true from Bool.or_true _) (all_t c12 (all_t c13 (all_f c14 (all_f c14 (all_f c14 (all_f c14 (all_f c14 (all_f c14 (all_nt c20 (all_t c8 (all_t c22 (all_f c23 (all_f c23 (all_f c23 (all_f Bool.false_ne_true (all_f Bool.false_ne_true (all_f Bool.false_ne_true (all_f Bool.false_ne_true (all_f Bool.false_ne_true (all_f Bool.false_ne_true (all_f Bool.false_ne_true (all_f Bool.false_ne_true (all_f Bool.false_ne_true (all_f Bool.false_ne_true (all_f Bool.false_ne_true (all_t rfl (all_t rfl (all_t c39 (all_t c40 (all_t c41 (all_f c43 (all_f c43 (all_f c43 (all_t (show decide ((0 + (mmany_k21 x1)) ≤ (mmany_k21 x1)) = true from decide_eq_true (Nat.le_of_eq (Nat.zero_add _))) (all_t c47 (all_f c43 (all_f c43 (all_f c43 (all_t (show decide ((0 + (mmany_k21 x1)) ≤ (mmany_k21 x1)) = true from decide_eq_true (Nat.le_of_eq (Nat.zero_add _))) (all_t c52 (all_f c43 (all_f c43 (all_t c55 (all_t c55 all_nil))))))))))))))))))))))))))))))))))))))))))))))))))))))))) ?_
  intro p hp p2 hq
  rcases List.mem_cons.1 hp with rfl | hp
  · skip
    have h3 := l8_0_ok m (m + 24) ((setG x0)) ((mmany_k2 x0 x4)) false ((((0 + (List.length (mmany_k1 x1))) : Nat) : Int)) 0 ((mmany_k1 x1)) _ (some_getD (d := l8_0D) c42)
    have h3 := turns_eq (e := [.top, .top, .top, .top, .top, .top, .top, .top, .top, .top, .top, (.d (.sl (.pair .str .str) (setG x0))), (.sr 0 0 (0 + (List.length (mmany_k1 x1))) 3 none), .top, .top, (.d (.sl (.pair .str .str) (mmany_k2 x0 x4))), (.d (.bool false)), .top, .top, .top, .top, .top, .top, .top, .top, .top, .top, .top, .top, .top, .top, .top, .top, .top, .top, .top, .top, .top, .top, .top, .top, .top, .top, .top, .top, .top, .top, .top, .top, .top, .top, .top, .top, .top, .top, .top, .top, .top, .top, .top, .top, .top, .top, .top, .top, .top, .top, .top, .top, .top, .top, .top, .top, .top, .top, .top, .top, .top, .top, (.sr 0 0 (0 + (List.length (mmany_k1 x1))) 3 none), (.d (.int .i64 (((0 + (List.length (mmany_k1 x1))) : Nat) : Int))), (.d (.int .i64 (0))), .top, .top, .top, .top, .top, .top, .top, .top, .top, .top, .top, .top, .top, .top, .top, .top, .top, .top, .top, .top, .top, .top, .top]) (B := [(.arr (.pair .str (.pair .str (.int .i64))) (mmany_k1 x1) true)]) (by unfold l8_0H; (try rw [show (0 + (List.length (mmany_k1 x1))) = (List.length (mmany_k1 x1)) from by simp])) rfl h3
    exact Eq.trans (Eq.mp (by kernel_rfl) h3) hq
  cases hp

set_option maxHeartbeats 20000000 in
theorem mmany_ok (m : Nat) (x0 : (List Int) × (List Int)) (x1 : List ((List UInt8) × (List UInt8) × Int)) (x2 : List ((List UInt8) × (List UInt8) × Int)) (x3 : Int) (x4 : Int) (q : Unit) (h : mmany m x0 x1 x2 x3 x4 = some q) : (evCall F S20 (m + 25) 8 [(.agg [(.d (.sl (.int .i64) x0.1)), (.d (.sl (.int .i64) x0.2))]), (.d (.sl (.pair .str (.pair .str (.int .i64))) x1)), (.d (.sl (.pair .str (.pair .str (.int .i64))) x2)), (.d (.int .i64 x3)), (.d (.int .i64 x4))] []).run = some (.d (.bool true), []) := by
  unfold mmany at h
  refine ite_cases h (fun c1 h => ?_) (fun c1 h => ?_)
  · skip
    refine ite_cases h (fun c2 h => ?_) (fun c2 h => ?_)
    · skip
      refine ite_cases h (fun c4 h => ?_) (fun c4 h => ?_)
      · skip
        refine ite_cases h (fun c5 h => ?_) (fun c5 h => ?_)
        · skip
          refine ite_cases h (fun c7 h => ?_) (fun c7 h => ?_)
          · skip
            refine ite_cases h (fun c8 h => ?_) (fun c8 h => ?_)
            · skip
              refine ite_cases h (fun c9 h => ?_) (fun c9 h => ?_)
              · skip
                refine ite_cases h (fun c10 h => ?_) (fun c10 h => ?_)
                · skip
                  refine ite_cases h (fun c12 h => ?_) (fun c12 h => ?_)
                  · skip
                    refine ite_cases h (fun c13 h => ?_) (fun c13 h => ?_)
                    · skip
                      refine ite_cases h (fun c14 h => ?_) (fun c14 h => ?_)
                      · skip
                        refine ite_cases h (fun c19 h => ?_) (fun c19 h => ?_)
                        · skip
                          refine ite_cases h (fun c21 h => ?_) (fun c21 h => ?_)
                          · skip
                            refine ite_cases h (fun c22 h => ?_) (fun c22 h => ?_)
                            · skip
                              refine ite_cases h (fun c24 h => ?_) (fun c24 h => ?_)
                              · skip
                                refine ite_cases h (fun c26 h => ?_) (fun c26 h => ?_)
                                · skip
                                  refine ite_cases h (fun c27 h => ?_) (fun c27 h => ?_)
                                  · skip
                                    refine ite_cases h (fun c29 h => ?_) (fun c29 h => ?_)
                                    · skip
                                      refine ite_cases h (fun c30 h => ?_) (fun c30 h => ?_)
                                      · skip
                                        refine ite_cases h (fun c32 h => ?_) (fun c32 h => ?_)
                                        · skip
                                          refine ite_cases h (fun c46 h => ?_) (fun c46 h => ?_)
                                          · skip
                                            refine ite_cases h (fun c49 h => ?_) (fun c49 h => ?_)
                                            · skip
                                              refine ite_cases h (fun c52 h => ?_) (fun c52 h => ?_)
                                              · skip
                                                refine ite_cases h (fun c53 h => ?_) (fun c53 h => ?_)
                                                · skip
                                                  refine ite_cases h (fun c54 h => ?_) (fun c54 h => ?_)
                                                  · skip
                                                    refine ite_cases h (fun c55 h => ?_) (fun c55 h => ?_)
                                                    · skip
                                                      refine ite_cases h (fun c56 h => ?_) (fun c56 h => ?_)
                                                      · skip
                                                        cases h
                                                        exact mmany_w0 m x0 x1 x2 x3 x4 c1 c2 c4 c5 c7 c8 c9 c10 c12 c13 c14 c19 c21 c22 c24 c26 c27 c29 c30 c32 c46 c49 c52 c53 c54 c55 c56
                                                      · skip
                                                        refine ite_cases h (fun c60 h => ?_) (fun c60 h => ?_)
                                                        · skip
                                                          refine ite_cases h (fun c65 h => ?_) (fun c65 h => ?_)
                                                          · skip
                                                            refine ite_cases h (fun c68 h => ?_) (fun c68 h => ?_)
                                                            · skip
                                                              cases h
                                                              exact mmany_w1 m x0 x1 x2 x3 x4 c1 c2 c4 c5 c7 c8 c9 c10 c12 c13 c14 c19 c21 c22 c24 c26 c27 c29 c30 c32 c46 c49 c52 c53 c54 c55 c56 c60 c65 c68
                                                            · skip
                                                              cases h
                                                          · skip
                                                            cases h
                                                        · skip
                                                          cases h
                                                    · skip
                                                      cases h
                                                  · skip
                                                    cases h
                                                · skip
                                                  cases h
                                              · skip
                                                cases h
                                            · skip
                                              cases h
                                          · skip
                                            cases h
                                        · skip
                                          refine ite_cases h (fun c45 h => ?_) (fun c45 h => ?_)
                                          · skip
                                            refine ite_cases h (fun c46 h => ?_) (fun c46 h => ?_)
                                            · skip
                                              refine ite_cases h (fun c47 h => ?_) (fun c47 h => ?_)
                                              · skip
                                                refine ite_cases h (fun c48 h => ?_) (fun c48 h => ?_)
                                                · skip
                                                  refine ite_cases h (fun c49 h => ?_) (fun c49 h => ?_)
                                                  · skip
                                                    cases h
                                                    exact mmany_w2 m x0 x1 x2 x3 x4 c1 c2 c4 c5 c7 c8 c9 c10 c12 c13 c14 c19 c21 c22 c24 c26 c27 c29 c30 c32 c45 c46 c47 c48 c49
                                                  · skip
                                                    refine ite_cases h (fun c53 h => ?_) (fun c53 h => ?_)
                                                    · skip
                                                      refine ite_cases h (fun c58 h => ?_) (fun c58 h => ?_)
                                                      · skip
                                                        refine ite_cases h (fun c61 h => ?_) (fun c61 h => ?_)
                                                        · skip
                                                          cases h
                                                          exact mmany_w3 m x0 x1 x2 x3 x4 c1 c2 c4 c5 c7 c8 c9 c10 c12 c13 c14 c19 c21 c22 c24 c26 c27 c29 c30 c32 c45 c46 c47 c48 c49 c53 c58 c61
                                                        · skip
                                                          cases h
                                                      · skip
                                                        cases h
                                                    · skip
                                                      cases h
                                                · skip
                                                  cases h
                                              · skip
                                                cases h
                                            · skip
                                              cases h
                                          · skip
                                            cases h
                                      · skip
                                        cases h
                                    · skip
                                      cases h
                                  · skip
                                    refine ite_cases h (fun c43 h => ?_) (fun c43 h => ?_)
                                    · skip
                                      refine ite_cases h (fun c44 h => ?_) (fun c44 h => ?_)
                                      · skip
                                        refine ite_cases h (fun c45 h => ?_) (fun c45 h => ?_)
                                        · skip
                                          refine ite_cases h (fun c46 h => ?_) (fun c46 h => ?_)
                                          · skip
                                            refine ite_cases h (fun c47 h => ?_) (fun c47 h => ?_)
                                            · skip
                                              cases h
                                              exact mmany_w4 m x0 x1 x2 x3 x4 c1 c2 c4 c5 c7 c8 c9 c10 c12 c13 c14 c19 c21 c22 c24 c26 c27 c43 c44 c45 c46 c47
                                            · skip
                                              refine ite_cases h (fun c51 h => ?_) (fun c51 h => ?_)
                                              · skip
                                                refine ite_cases h (fun c56 h => ?_) (fun c56 h => ?_)
                                                · skip
                                                  refine ite_cases h (fun c59 h => ?_) (fun c59 h => ?_)
                                                  · skip
                                                    cases h
                                                    exact mmany_w5 m x0 x1 x2 x3 x4 c1 c2 c4 c5 c7 c8 c9 c10 c12 c13 c14 c19 c21 c22 c24 c26 c27 c43 c44 c45 c46 c47 c51 c56 c59
                                                  · skip
                                                    cases h
                                                · skip
                                                  cases h
                                              · skip
                                                cases h
                                          · skip
                                            cases h
                                        · skip
                                          cases h
                                      · skip
                                        cases h
                                    · skip
                                      cases h
                                · skip
                                  cases h
                              · skip
                                cases h
                            · skip
                              cases h
                          · skip
                            cases h
                        · skip
                          refine ite_cases h (fun c21 h => ?_) (fun c21 h => ?_)
                          · skip
                            refine ite_cases h (fun c23 h => ?_) (fun c23 h => ?_)
                            · skip
                              refine ite_cases h (fun c25 h => ?_) (fun c25 h => ?_)
                              · skip
                                refine ite_cases h (fun c26 h => ?_) (fun c26 h => ?_)
                                · skip
                                  refine ite_cases h (fun c28 h => ?_) (fun c28 h => ?_)
                                  · skip
                                    refine ite_cases h (fun c29 h => ?_) (fun c29 h => ?_)
                                    · skip
                                      refine ite_cases h (fun c31 h => ?_) (fun c31 h => ?_)
                                      · skip
                                        refine ite_cases h (fun c45 h => ?_) (fun c45 h => ?_)
                                        · skip
                                          refine ite_cases h (fun c48 h => ?_) (fun c48 h => ?_)
                                          · skip
                                            refine ite_cases h (fun c51 h => ?_) (fun c51 h => ?_)
                                            · skip
                                              refine ite_cases h (fun c52 h => ?_) (fun c52 h => ?_)
                                              · skip
                                                refine ite_cases h (fun c53 h => ?_) (fun c53 h => ?_)
                                                · skip
                                                  refine ite_cases h (fun c54 h => ?_) (fun c54 h => ?_)
                                                  · skip
                                                    refine ite_cases h (fun c55 h => ?_) (fun c55 h => ?_)
                                                    · skip
                                                      cases h
                                                      exact mmany_w6 m x0 x1 x2 x3 x4 c1 c2 c4 c5 c7 c8 c9 c10 c12 c13 c14 c19 c21 c23 c25 c26 c28 c29 c31 c45 c48 c51 c52 c53 c54 c55
                                                    · skip
                                                      refine ite_cases h (fun c59 h => ?_) (fun c59 h => ?_)
                                                      · skip
                                                        refine ite_cases h (fun c64 h => ?_) (fun c64 h => ?_)
                                                        · skip
                                                          refine ite_cases h (fun c67 h => ?_) (fun c67 h => ?_)
                                                          · skip
                                                            cases h
                                                            exact mmany_w7 m x0 x1 x2 x3 x4 c1 c2 c4 c5 c7 c8 c9 c10 c12 c13 c14 c19 c21 c23 c25 c26 c28 c29 c31 c45 c48 c51 c52 c53 c54 c55 c59 c64 c67
                                                          · skip
                                                            cases h
                                                        · skip
                                                          cases h
                                                      · skip
                                                        cases h
                                                  · skip
                                                    cases h
                                                · skip
                                                  cases h
                                              · skip
                                                cases h
                                            · skip
                                              cases h
                                          · skip
                                            cases h
                                        · skip
                                          cases h
                                      · skip
                                        refine ite_cases h (fun c44 h => ?_) (fun c44 h => ?_)
                                        · skip
                                          refine ite_cases h (fun c45 h => ?_) (fun c45 h => ?_)
                                          · skip
                                            refine ite_cases h (fun c46 h => ?_) (fun c46 h => ?_)
                                            · skip
                                              refine ite_cases h (fun c47 h => ?_) (fun c47 h => ?_)
                                              · skip
                                                refine ite_cases h (fun c48 h => ?_) (fun c48 h => ?_)
                                                · skip
                                                  cases h
                                                  exact mmany_w8 m x0 x1 x2 x3 x4 c1 c2 c4 c5 c7 c8 c9 c10 c12 c13 c14 c19 c21 c23 c25 c26 c28 c29 c31 c44 c45 c46 c47 c48
                                                · skip
                                                  refine ite_cases h (fun c52 h => ?_) (fun c52 h => ?_)
                                                  · skip
                                                    refine ite_cases h (fun c57 h => ?_) (fun c57 h => ?_)
                                                    · skip
                                                      refine ite_cases h (fun c60 h => ?_) (fun c60 h => ?_)
                                                      · skip
                                                        cases h
                                                        exact mmany_w9 m x0 x1 x2 x3 x4 c1 c2 c4 c5 c7 c8 c9 c10 c12 c13 c14 c19 c21 c23 c25 c26 c28 c29 c31 c44 c45 c46 c47 c48 c52 c57 c60
                                                      · skip
                                                        cases h
                                                    · skip
                                                      cases h
                                                  · skip
                                                    cases h
                                              · skip
                                                cases h
                                            · skip
                                              cases h
                                          · skip
                                            cases h
                                        · skip
                                          cases h
                                    · skip
                                      cases h
                                  · skip
                                    cases h
                                · skip
                                  refine ite_cases h (fun c42 h => ?_) (fun c42 h => ?_)
                                  · skip
                                    refine ite_cases h (fun c43 h => ?_) (fun c43 h => ?_)
                                    · skip
                                      refine ite_cases h (fun c44 h => ?_) (fun c44 h => ?_)
                                      · skip
                                        refine ite_cases h (fun c45 h => ?_) (fun c45 h => ?_)
                                        · skip
                                          refine ite_cases h (fun c46 h => ?_) (fun c46 h => ?_)
                                          · skip
                                            cases h
                                            exact mmany_w10 m x0 x1 x2 x3 x4 c1 c2 c4 c5 c7 c8 c9 c10 c12 c13 c14 c19 c21 c23 c25 c26 c42 c43 c44 c45 c46
                                          · skip
                                            refine ite_cases h (fun c50 h => ?_) (fun c50 h => ?_)
                                            · skip
                                              refine ite_cases h (fun c55 h => ?_) (fun c55 h => ?_)
                                              · skip
                                                refine ite_cases h (fun c58 h => ?_) (fun c58 h => ?_)
                                                · skip
                                                  cases h
                                                  exact mmany_w11 m x0 x1 x2 x3 x4 c1 c2 c4 c5 c7 c8 c9 c10 c12 c13 c14 c19 c21 c23 c25 c26 c42 c43 c44 c45 c46 c50 c55 c58
                                                · skip
                                                  cases h
                                              · skip
                                                cases h
                                            · skip
                                              cases h
                                        · skip
                                          cases h
                                      · skip
                                        cases h
                                    · skip
                                      cases h
                                  · skip
                                    cases h
                              · skip
                                cases h
                            · skip
                              cases h
                          · skip
                            cases h
                      · skip
                        refine ite_cases h (fun c20 h => ?_) (fun c20 h => ?_)
                        · skip
                          refine ite_cases h (fun c22 h => ?_) (fun c22 h => ?_)
                          · skip
                            refine ite_cases h (fun c23 h => ?_) (fun c23 h => ?_)
                            · skip
                              refine ite_cases h (fun c25 h => ?_) (fun c25 h => ?_)
                              · skip
                                refine ite_cases h (fun c26 h => ?_) (fun c26 h => ?_)
                                · skip
                                  refine ite_cases h (fun c28 h => ?_) (fun c28 h => ?_)
                                  · skip
                                    refine ite_cases h (fun c42 h => ?_) (fun c42 h => ?_)
                                    · skip
                                      refine ite_cases h (fun c45 h => ?_) (fun c45 h => ?_)
                                      · skip
                                        refine ite_cases h (fun c48 h => ?_) (fun c48 h => ?_)
                                        · skip
                                          refine ite_cases h (fun c49 h => ?_) (fun c49 h => ?_)
                                          · skip
                                            refine ite_cases h (fun c50 h => ?_) (fun c50 h => ?_)
                                            · skip
                                              refine ite_cases h (fun c51 h => ?_) (fun c51 h => ?_)
                                              · skip
                                                refine ite_cases h (fun c52 h => ?_) (fun c52 h => ?_)
                                                · skip
                                                  cases h
                                                  exact mmany_w12 m x0 x1 x2 x3 x4 c1 c2 c4 c5 c7 c8 c9 c10 c12 c13 c14 c20 c22 c23 c25 c26 c28 c42 c45 c48 c49 c50 c51 c52
                                                · skip
                                                  refine ite_cases h (fun c56 h => ?_) (fun c56 h => ?_)
                                                  · skip
                                                    refine ite_cases h (fun c61 h => ?_) (fun c61 h => ?_)
                                                    · skip
                                                      refine ite_cases h (fun c64 h => ?_) (fun c64 h => ?_)
                                                      · skip
                                                        cases h
                                                        exact mmany_w13 m x0 x1 x2 x3 x4 c1 c2 c4 c5 c7 c8 c9 c10 c12 c13 c14 c20 c22 c23 c25 c26 c28 c42 c45 c48 c49 c50 c51 c52 c56 c61 c64
                                                      · skip
                                                        cases h
                                                    · skip
                                                      cases h
                                                  · skip
                                                    cases h
                                              · skip
                                                cases h
                                            · skip
                                              cases h
                                          · skip
                                            cases h
                                        · skip
                                          cases h
                                      · skip
                                        cases h
                                    · skip
                                      cases h
                                  · skip
                                    refine ite_cases h (fun c41 h => ?_) (fun c41 h => ?_)
                                    · skip
                                      refine ite_cases h (fun c42 h => ?_) (fun c42 h => ?_)
                                      · skip
                                        refine ite_cases h (fun c43 h => ?_) (fun c43 h => ?_)
                                        · skip
                                          refine ite_cases h (fun c44 h => ?_) (fun c44 h => ?_)
                                          · skip
                                            refine ite_cases h (fun c45 h => ?_) (fun c45 h => ?_)
                                            · skip
                                              cases h
                                              exact mmany_w14 m x0 x1 x2 x3 x4 c1 c2 c4 c5 c7 c8 c9 c10 c12 c13 c14 c20 c22 c23 c25 c26 c28 c41 c42 c43 c44 c45
                                            · skip
                                              refine ite_cases h (fun c49 h => ?_) (fun c49 h => ?_)
                                              · skip
                                                refine ite_cases h (fun c54 h => ?_) (fun c54 h => ?_)
                                                · skip
                                                  refine ite_cases h (fun c57 h => ?_) (fun c57 h => ?_)
                                                  · skip
                                                    cases h
                                                    exact mmany_w15 m x0 x1 x2 x3 x4 c1 c2 c4 c5 c7 c8 c9 c10 c12 c13 c14 c20 c22 c23 c25 c26 c28 c41 c42 c43 c44 c45 c49 c54 c57
                                                  · skip
                                                    cases h
                                                · skip
                                                  cases h
                                              · skip
                                                cases h
                                          · skip
                                            cases h
                                        · skip
                                          cases h
                                      · skip
                                        cases h
                                    · skip
                                      cases h
                                · skip
                                  cases h
                              · skip
                                cases h
                            · skip
                              refine ite_cases h (fun c39 h => ?_) (fun c39 h => ?_)
                              · skip
                                refine ite_cases h (fun c40 h => ?_) (fun c40 h => ?_)
                                · skip
                                  refine ite_cases h (fun c41 h => ?_) (fun c41 h => ?_)
                                  · skip
                                    refine ite_cases h (fun c42 h => ?_) (fun c42 h => ?_)
                                    · skip
                                      refine ite_cases h (fun c43 h => ?_) (fun c43 h => ?_)
                                      · skip
                                        cases h
                                        exact mmany_w16 m x0 x1 x2 x3 x4 c1 c2 c4 c5 c7 c8 c9 c10 c12 c13 c14 c20 c22 c23 c39 c40 c41 c42 c43
                                      · skip
                                        refine ite_cases h (fun c47 h => ?_) (fun c47 h => ?_)
                                        · skip
                                          refine ite_cases h (fun c52 h => ?_) (fun c52 h => ?_)
                                          · skip
                                            refine ite_cases h (fun c55 h => ?_) (fun c55 h => ?_)
                                            · skip
                                              cases h
                                              exact mmany_w17 m x0 x1 x2 x3 x4 c1 c2 c4 c5 c7 c8 c9 c10 c12 c13 c14 c20 c22 c23 c39 c40 c41 c42 c43 c47 c52 c55
                                            · skip
                                              cases h
                                          · skip
                                            cases h
                                        · skip
                                          cases h
                                    · skip
                                      cases h
                                  · skip
                                    cases h
                                · skip
                                  cases h
                              · skip
                                cases h
                          · skip
                            cases h
                        · skip
                          cases h
                    · skip
                      cases h
                  · skip
                    cases h
                · skip
                  cases h
              · skip
                cases h
            · skip
              cases h
          · skip
            cases h
        · skip
          cases h
      · skip
        cases h
    · skip
      cases h
  · skip
    cases h
theorem mmany_at (x0 : (List Int) × (List Int)) (x1 : List ((List UInt8) × (List UInt8) × Int)) (x2 : List ((List UInt8) × (List UInt8) × Int)) (x3 : Int) (x4 : Int) (h : ∃ m q, mmany m x0 x1 x2 x3 x4 = some q) : ∃ g B', CallAt Tryd.prog 8 g ∧ (g [(.agg [(.d (.sl (.int .i64) x0.1)), (.d (.sl (.int .i64) x0.2))]), (.d (.sl (.pair .str (.pair .str (.int .i64))) x1)), (.d (.sl (.pair .str (.pair .str (.int .i64))) x2)), (.d (.int .i64 x3)), (.d (.int .i64 x4))] []).run = some (.d (.bool true), B') := by
  obtain ⟨m, q, h⟩ := h
  exact ⟨_, _, evCall_atH mixed kinds hds S20 S20_ok (m + 25) 8, mmany_ok m x0 x1 x2 x3 x4 q h⟩

end Go.Proofs.YtcdpgldecikejaaDoor.Dec
namespace Go.Proofs.YtcdpgldecikejaaDoor.Dec
open Go.Ev
set_option linter.unusedVariables false
set_option linter.unusedSimpArgs false
set_option maxRecDepth 100000
theorem item_pf (x y : MT) (r r' : List UInt8) (hx : okM x = true) (hy : okM y = true) (h : itemG x ++ r = itemG y ++ r') : x = y ∧ r = r' := by
  obtain ⟨n, v, k⟩ := x
  obtain ⟨n', v', k'⟩ := y
  unfold okM at hx hy
  simp only [Bool.and_eq_true, decide_eq_true_eq] at hx hy
  obtain ⟨⟨⟨w, _⟩, a1⟩, a2⟩ := hx
  obtain ⟨⟨⟨w', _⟩, b1⟩, b2⟩ := hy
  have cs : ∀ k : Int, 1 ≤ k → k ≤ 4 → k = 1 ∨ k = 2 ∨ k = 3 ∨ k = 4 := by intro k h1 h2; omega
  have s1 : signB 1 = [61] := rfl
  have s2 : signB 2 = [33, 61] := rfl
  have s3 : signB 3 = [94, 61] := rfl
  have s4 : signB 4 = [33, 94] := rfl
  unfold itemG at h
  rcases cs k a1 a2 with rfl | rfl | rfl | rfl <;> rcases cs k' b1 b2 with rfl | rfl | rfl | rfl <;>
    (simp only [s1, s2, s3, s4, List.append_assoc, List.cons_append, List.nil_append] at h
     obtain ⟨e1, e2⟩ := name_inj _ _ (word_inner w).1 (word_inner w').1 (by decide) (by decide) h
     first
       | exact absurd (List.cons.inj e2).1 (by decide)
       | exact absurd (List.cons.inj (List.cons.inj e2).2).1 (by decide)
       | (obtain ⟨e3, e4⟩ := quote_inj (List.cons.inj e2).2
          exact ⟨by rw [e1, e3], e4⟩)
       | (obtain ⟨e3, e4⟩ := quote_inj (List.cons.inj (List.cons.inj e2).2).2
          exact ⟨by rw [e1, e3], e4⟩))
theorem okM_word {x : MT} (hx : okM x = true) : wordG x.1 = true := by
  unfold okM at hx
  simp only [Bool.and_eq_true] at hx
  exact hx.1.1.1
theorem item_hd (x : MT) (hx : okM x = true) : ∃ a t, itemG x = a :: t ∧ innerB a = true := by
  obtain ⟨a, t, e, ha⟩ := (word_inner (okM_word hx)).2
  exact ⟨a, _, by unfold itemG; rw [e]; rfl, ha⟩
theorem mprint_eq {l : List MT} (h : rightG l = true) : printG l = 123 :: tailJ itemG l [] := by
  unfold printG tailJ; rw [if_pos h]; rfl
theorem right_oks {l : List MT} (h : rightG l = true) : ∀ x ∈ l, okM x = true := by
  unfold rightG at h
  rw [Bool.and_eq_true] at h
  exact fun x hx => List.all_eq_true.1 h.1 x hx
/-- Two right rows have one text just if they are the same. -/
theorem mprint_inj {x y : List MT} (hx : rightG x = true) (hy : rightG y = true) (h : printG x = printG y) : x = y := by
  rw [mprint_eq hx, mprint_eq hy] at h
  exact (join_inj itemG (fun x => okM x = true) item_pf item_hd x y [] [] (right_oks hx) (right_oks hy) (List.cons.inj h).2).1
theorem get_drop {n k : List UInt8} (h : k ≠ n) : ∀ l : LB, getG (dropG l [n]) k = getG l k
  | [] => rfl
  | x :: l => by
    have ih := get_drop h l
    unfold dropG at *
    rw [List.filter_cons]
    by_cases hx : x.1 = n
    · rw [if_neg (by rw [hx]; simp), ih, getG, if_neg (by rw [beq_iff_eq, hx]; exact fun e => h e.symm)]
    · rw [if_pos (by simp [hx]), getG, getG, ih]
theorem get_ins {x : (List UInt8) × (List UInt8)} {k : List UInt8} (h : k ≠ x.1) : ∀ l : LB, getG (insAt l x) k = getG l k
  | [] => by
    show (if (x.1 == k) = true then x.2 else getG [] k) = getG [] k
    rw [if_neg (by rw [beq_iff_eq]; exact fun e => h e.symm)]
  | y :: l => by
    rw [insAt]
    split
    · rw [getG, getG, get_ins h l]
    · rw [getG, if_neg (by rw [beq_iff_eq]; exact fun e => h e.symm)]
theorem get_with {l : LB} {n k v : List UInt8} (h : k ≠ n) : getG (withG l n v) k = getG l k := by
  unfold withG
  split
  · exact get_drop h l
  · rw [get_ins (x := (n, v)) h, get_drop h]
theorem all_with {l : LB} {n v : List UInt8} : ∀ ms : List MT, (ms.any fun x => x.1 == n) = false → allG (withG l n v) ms = allG l ms
  | [], _ => rfl
  | x :: ms, h => by
    rw [List.any_cons, Bool.or_eq_false_iff] at h
    have hx : x.1 ≠ n := fun e => by rw [e, beq_self_eq_true] at h; cases h.1
    have ih := all_with ms h.2 (l := l) (v := v)
    unfold allG at *
    rw [List.all_cons, List.all_cons, ih]
    unfold holdsG
    rw [get_with hx]
theorem of_loop (m : Nat) (s11 s15 : LB) (own : List MT) (hb : own.length ≤ 1000) : ∀ (n k : Nat) (acc : Bool), k ≤ own.length → own.length - k < n → ∃ j, l8_0 m n s11 s15 acc ((own.length : Nat) : Int) ((k : Nat) : Int) own = some (0, (acc || (own.drop k).any fun x => x.1 == ([111, 116, 104, 101, 114] : List UInt8)), j)
  | 0, k, _, _, h => by omega
  | n + 1, k, acc, h1, h2 => by
    rw [l8_0]
    by_cases hk : k < own.length
    · have e1 : decide (((k : Nat) : Int) < (((List.length own) : Nat) : Int)) = true := decide_eq_true (by omega)
      have e2 : decide ((0 : Int) ≤ ((k : Nat) : Int)) = true := decide_eq_true (by omega)
      have e3 : decide (0 + k < List.length own) = true := decide_eq_true (by omega)
      have e7 : IntKind.wrap .i64 (((k : Nat) : Int) + (1)) = ((k + 1 : Nat) : Int) := by rw [wrap_id (by omega) (by omega)]; rfl
      have go := fun acc => of_loop m s11 s15 own hb n (k + 1) acc (by omega) (by omega)
      rw [drop_getD own k (([] : List UInt8), (([] : List UInt8), 0)) hk, List.any_cons]
      simp only [show Int.toNat ((k : Nat) : Int) = k from rfl, e1, e2, e3, e7, ↓reduceIte]
      rw [Nat.zero_add]
      cases acc with
      | true =>
        obtain ⟨j, hj⟩ := go true
        exact ⟨j, by rw [if_pos rfl, hj, Bool.true_or, Bool.true_or]⟩
      | false =>
        obtain ⟨j, hj⟩ := go ((List.getD own k (([] : List UInt8), (([] : List UInt8), 0))).1 == ([111, 116, 104, 101, 114] : List UInt8))
        exact ⟨j, by rw [if_neg (by decide), hj, Bool.false_or]⟩
    · have e1 : decide (((k : Nat) : Int) < (((List.length own) : Nat) : Int)) = false := decide_eq_false (by omega)
      rw [e1, if_neg (by simp), List.drop_eq_nil_of_le (by omega), List.any_nil, Bool.or_false]
      exact ⟨_, rfl⟩
theorem allG_app (l : LB) (a b : List MT) : allG l (a ++ b) = (allG l a && allG l b) := List.all_append
theorem ins_len (x : (List UInt8) × (List UInt8)) : ∀ l : LB, (insAt l x).length = l.length + 1
  | [] => rfl
  | y :: l => by
    rw [insAt]
    split
    · rw [List.length_cons, ins_len x l, List.length_cons]
    · rfl
theorem with_len (l : LB) (n v : List UInt8) : (withG l n v).length ≤ l.length + 1 := by
  have : (dropG l [n]).length ≤ l.length := by unfold dropG; exact List.length_filter_le ..
  unfold withG
  split
  · omega
  · rw [ins_len]; omega
theorem mmany_pure (x0 : List Int × List Int) (x1 x2 : List MT) (x3 x4 : Int) (h1 : ∀ x ∈ x1, x.1.length ≤ 9223372036854775807) (h2 : ∀ x ∈ x2, x.1.length ≤ 9223372036854775807) : ∃ m q, mmany m x0 x1 x2 x3 x4 = some q := by
  refine ⟨100, (), ?_⟩
  unfold mmany
  try delta mmany_k31
  try delta mmany_k30
  try delta mmany_k29
  try delta mmany_k28
  try delta mmany_k27
  try delta mmany_k26
  try delta mmany_k25
  try delta mmany_k24
  try delta mmany_k23
  try delta mmany_k22
  try delta mmany_k21
  try delta mmany_k20
  try delta mmany_k19
  try delta mmany_k18
  try delta mmany_k17
  try delta mmany_k16
  try delta mmany_k15
  try delta mmany_k14
  try delta mmany_k13
  try delta mmany_k12
  try delta mmany_k11
  try delta mmany_k10
  try delta mmany_k9
  try delta mmany_k8
  try delta mmany_k7
  try delta mmany_k6
  try delta mmany_k5
  try delta mmany_k4
  try delta mmany_k3
  try delta mmany_k2
  try delta mmany_k1
  have c2 : ∀ x : List MT, (decide (0 ≤ (if (5) < (((List.length x) : Nat) : Int) then (5) else (((List.length x) : Nat) : Int))) && decide ((if (5) < (((List.length x) : Nat) : Int) then (5) else (((List.length x) : Nat) : Int)) ≤ (((List.length x) : Nat) : Int))) = true := by
    intro x
    split <;> simp <;> omega
  have hO : ∀ x : List MT, List.drop 0 (List.take (Int.toNat (if (5) < (((List.length x) : Nat) : Int) then (5) else (((List.length x) : Nat) : Int))) x) = x.take 5 := by
    intro x
    rw [List.drop_zero]
    split
    · rfl
    · rw [Int.toNat_natCast, List.take_length, List.take_of_length_le (by omega)]
  have hOl : ∀ x : List MT, (x.take 5).length ≤ 5 := fun x => by rw [List.length_take]; omega
  have q1 : ∀ x ∈ x1.take 5, x.1.length ≤ 9223372036854775807 := fun x h => h1 x (List.mem_of_mem_take h)
  have q2 : ∀ x ∈ x2.take 5, x.1.length ≤ 9223372036854775807 := fun x h => h2 x (List.mem_of_mem_take h)
  have lo := hOl x1
  have lp := hOl x2
  obtain ⟨h0, h1', h2', v0, v1, v2, hl, b0, b1, b2⟩ := setG_of x0
  have ll := set4_len h0 h1' h2' false v0 v1 v2 [120]
  rw [← hl] at ll
  obtain ⟨l, hL⟩ : ∃ l, setG x0 = l := ⟨_, rfl⟩
  rw [hL] at ll
  simp only [hO, c2, hL, Nat.zero_add, List.drop_zero, List.take_length]
  generalize x1.take 5 = own at *
  generalize x2.take 5 = oth at *
  obtain ⟨c, hc, hcl⟩ : ∃ c : Nat, withinI x3 0 ((own.length : Nat) : Int) = ((c : Nat) : Int) ∧ c ≤ own.length := by
    have : 0 ≤ withinI x3 0 ((own.length : Nat) : Int) ∧ withinI x3 0 ((own.length : Nat) : Int) ≤ ((own.length : Nat) : Int) := by
      have p : ((own.length : Nat) : Int) - 0 + 1 > 0 := by omega
      have q1 := Int.emod_nonneg x3 (Int.ne_of_gt p)
      have q2 := Int.emod_lt_of_pos x3 p
      unfold withinI
      generalize x3 % (((own.length : Nat) : Int) - 0 + 1) = y at *
      omega
    exact ⟨(withinI x3 0 ((own.length : Nat) : Int)).toNat, by omega, by omega⟩
  have iv : 0 ≤ withinI x4 (0) (5) ∧ withinI x4 (0) (5) < 8 := by unfold withinI; omega
  have i1 : decide (0 ≤ withinI x4 (0) (5)) = true := decide_eq_true iv.1
  have i2 : decide (withinI x4 (0) (5) < 8) = true := decide_eq_true iv.2
  obtain ⟨v, hv⟩ : ∃ v, List.getD [([120] : List UInt8), ([121] : List UInt8), ([120, 121] : List UInt8), ([49] : List UInt8), ([34] : List UInt8), ([92] : List UInt8), ([123, 125] : List UInt8), ([122, 32, 122] : List UInt8)] (Int.toNat (withinI x4 (0) (5))) ([] : List UInt8) = v := ⟨_, rfl⟩
  have d1 : ∀ o : List MT, o.length ≤ 5 → decide ((List.length o * 40) ≤ 70368744177664) = true := fun o h => decide_eq_true (by omega)
  have d1a := d1 own lo
  have d1b := d1 oth lp
  have d2 : ((decide (0 ≤ (((List.length own) : Nat) : Int)) && decide ((((List.length own) : Nat) : Int) ≤ 2305843009213693951)) && decide (((((List.length own) : Nat) : Int) - (0)) ≤ 2305843009213693951)) = true := by simp; omega
  have d3 : (decide (0 ≤ ((c : Nat) : Int)) && decide (((c : Nat) : Int) ≤ (((List.length own) : Nat) : Int))) = true := by simp; omega
  have d5 : decide (List.length l ≤ 1000000 ∧ List.length own ≤ 1000000) = true := decide_eq_true ⟨by omega, by omega⟩
  have lT : (own.take c).length = c := by rw [List.length_take]; omega
  have lD : (own.drop c).length = own.length - c := by rw [List.length_drop]
  have td : List.take (List.length own - c) (List.drop c own) = own.drop c := by rw [List.take_of_length_le (by rw [List.length_drop]; omega)]
  have d6 : decide (List.length l ≤ 1000000 ∧ List.length (own.take c) ≤ 1000000) = true := decide_eq_true ⟨by omega, by omega⟩
  have d7 : decide (List.length l ≤ 1000000 ∧ List.length (own.drop c) ≤ 1000000) = true := decide_eq_true ⟨by omega, by omega⟩
  have d8 : decide (List.length l ≤ 1000000 ∧ List.length ([] : List MT) ≤ 1000000) = true := decide_eq_true ⟨by omega, by simp⟩
  have d9 : decide (List.length l ≤ 1000000) = true := decide_eq_true (by omega)
  have d10 : decide (List.length own < 4611686018427387904) = true := decide_eq_true (by omega)
  have e1 : decide (c + (List.length own - c) ≤ List.length own) = true := decide_eq_true (by omega)
  have e3 : decide (c ≤ List.length own) = true := decide_eq_true hcl
  have r1 : rightPre own = true := decide_eq_true ⟨by omega, q1⟩
  have r2 : rightPre oth = true := decide_eq_true ⟨by omega, q2⟩
  have wl := with_len l ([111, 116, 104, 101, 114] : List UInt8) v
  have aw := all_with (l := l) (n := [111, 116, 104, 101, 114]) (v := v) own
  obtain ⟨w, hw⟩ : ∃ w, withG l ([111, 116, 104, 101, 114] : List UInt8) v = w := ⟨_, rfl⟩
  rw [hw] at wl aw
  obtain ⟨j, hj⟩ := of_loop 100 l w own (by omega) (100 + 24) 0 false (by omega) (by omega)
  rw [Int.natCast_zero, List.drop_zero, Bool.false_or] at hj
  have d11 : decide (List.length w ≤ 1000000 ∧ List.length own ≤ 1000000) = true := decide_eq_true ⟨by omega, by omega⟩
  have pr : rightG own = true → rightG oth = true → ((printG own == printG oth) == (own == oth)) = true := by
    intro a b
    rw [beq_iff_eq, Bool.eq_iff_iff, beq_iff_eq, beq_iff_eq]
    exact ⟨fun h => mprint_inj a b h, fun h => by rw [h]⟩
  have sp : allG l own = (allG l (own.take c) && allG l (own.drop c)) := by rw [← allG_app, List.take_append_drop]
  have nl : allG l ([] : List MT) = true := rfl
  simp only [hc, hv, hw, show ∀ n : Nat, Int.toNat ((n : Nat) : Int) = n from fun _ => rfl, Nat.sub_zero, Nat.le_refl, d1a, d1b, d2, d3, d5, d6, d7, d8, d9, d10, d11, e1, e3, r1, r2, i1, i2, td, nl, l8_0R, hj, decide_true, Option.isSome_some, Option.getD_some, ↓reduceIte]
  generalize ((printG own == printG oth) == (own == oth)) = p at *
  generalize (own.any fun x => x.1 == ([111, 116, 104, 101, 114] : List UInt8)) = o at *
  have T2 : c = own.length → allG l (own.drop c) = true := fun h => by rw [List.drop_eq_nil_of_le (by omega)]; rfl
  have T3 : c = own.length → allG l (own.take c) = allG l own := fun h => by rw [h, List.take_length]
  by_cases hcc : c < own.length ∨ c = 0
  · have k : (decide (c < List.length own) || decide (c = 0)) = true := by simpa using hcc
    simp only [k, sp, ↓reduceIte]
    rw [sp] at aw
    generalize allG l (own.take c) = a1 at *
    generalize allG l (own.drop c) = a2 at *
    generalize allG w own = a3 at *
    generalize rightG own = g1 at *
    generalize rightG oth = g2 at *
    cases a1 <;> cases a2 <;> cases g1 <;> cases g2 <;> cases o <;> simp [pr, aw]
  · have k : (decide (c < List.length own) || decide (c = 0)) = false := by simpa using hcc
    have T2 := T2 (by omega)
    rw [T3 (by omega)] at sp
    rw [T2, Bool.and_true] at sp
    simp only [k, T3 (by omega), ↓reduceIte, Bool.false_eq_true]
    clear T3
    generalize allG l own = a1 at *
    generalize allG w own = a3 at *
    generalize rightG own = g1 at *
    generalize rightG oth = g2 at *
    cases a1 <;> cases g1 <;> cases g2 <;> cases o <;> simp [pr, aw]
theorem mmany_law (x0 : List Int × List Int) (x1 x2 : List MT) (x3 x4 : Int) (_ : Ty.ok (.pair (.sl (.int .i64)) (.sl (.int .i64))) x0) (ok1 : Ty.ok (.sl (.pair .str (.pair .str (.int .i64)))) x1) (ok2 : Ty.ok (.sl (.pair .str (.pair .str (.int .i64)))) x2) (_ : Ty.ok (.int .i64) x3) (_ : Ty.ok (.int .i64) x4) : ∃ g B', CallAt Tryd.prog 8 g ∧ (g [argAV true (.pair (.sl (.int .i64)) (.sl (.int .i64))) x0, argAV false (.sl (.pair .str (.pair .str (.int .i64)))) x1, argAV false (.sl (.pair .str (.pair .str (.int .i64)))) x2, argAV false (.int .i64) x3, argAV false (.int .i64) x4] []).run = some (.d (.bool true), B') := mmany_at x0 x1 x2 x3 x4 (mmany_pure x0 x1 x2 x3 x4 (fun x hx => (ok1.2 x hx).1) (fun x hx => (ok2.2 x hx).1))

end Go.Proofs.YtcdpgldecikejaaDoor.Dec
