/- (*Series).At. -/
import Derived.Test.YtkppbflmlpabjabEb
import Derived.KernelRfl
namespace Go.Proofs.Ytkppbflmlpabjab.Dec
open Go.Ev
set_option linter.unusedVariables false
set_option linter.unusedSimpArgs false
set_option maxRecDepth 100000
noncomputable def fn46 : AFn := (F 46).getD ⟨0, [], .bad, false, false, noHd⟩
noncomputable def body46 : AC := fn46.body
def l46_0 (m : Nat) : Nat → List (Int × Int) → Int → Int → Option (Nat × Int)
  | 0, _, _, _ => none
  | n + 1, x0, x1, s5 => if decide (s5 < (((List.length x0) : Nat) : Int)) = true then
      if decide (0 ≤ s5) = true then
        if decide ((List.getD x0 (Int.toNat s5) (0, 0)).1 ≤ x1) = true then
          l46_0 m n x0 x1 ((IntKind.wrap .i64 (s5 + (1))))
        else
          some (0, s5)
      else
        none
    else
      some (1, s5)
def l46_0D : Nat × Int := (0, 0)
@[reducible] def l46_0R (m n : Nat) (x0 : List (Int × Int)) (x1 : Int) (s5 : Int) : Nat × Int := Option.getD (l46_0 m n x0 x1 s5) l46_0D
def l46_0H (x0 : List (Int × Int)) (x1 : Int) (s5 : Int) : Env := [(.ptr 0 0), (.d (.int .i64 x1)), .top, .top, .top, (.d (.int .i64 s5)), .top, .top, .top, .top, .top, .top, .top, .top, .top, .top, .top, .top, .top, .top, .top, .top, .top, .top, .top, .top, .top, .top]
def l46_0B (x0 : List (Int × Int)) (x1 : Int) (s5 : Int) : Boxes := [(.cells [(.d (.sl (.pair (.int .i64) (.int .i64)) x0))])]
def l46_0E (x0 : List (Int × Int)) (x1 : Int) (s5 : Int) : Nat → AEx × Env × Boxes
  | 0 => (.exit 0, [(.ptr 0 0), (.d (.int .i64 x1)), .top, .top, .top, (.d (.int .i64 s5)), (.d (.int .i64 s5)), (.ptr 0 0), (.ptr 0 0), (.ptr 0 0), (.d (.sl (.pair (.int .i64) (.int .i64)) x0)), (.d (.int .i64 (((List.length x0) : Nat) : Int))), (.d (.bool (decide (s5 < (((List.length x0) : Nat) : Int))))), (.d (.bool (decide (s5 < (((List.length x0) : Nat) : Int))))), (.ptr 0 0), (.ptr 0 0), (.ptr 0 0), (.d (.sl (.pair (.int .i64) (.int .i64)) x0)), (.d (.int .i64 s5)), (.cptr [(.int .i64 (List.getD x0 (Int.toNat s5) (0, 0)).1), (.int .i64 (List.getD x0 (Int.toNat s5) (0, 0)).2)] 0), (.cptr [(.int .i64 (List.getD x0 (Int.toNat s5) (0, 0)).1), (.int .i64 (List.getD x0 (Int.toNat s5) (0, 0)).2)] 0), (.d (.int .i64 (List.getD x0 (Int.toNat s5) (0, 0)).1)), (.d (.int .i64 x1)), (.d (.bool (decide ((List.getD x0 (Int.toNat s5) (0, 0)).1 ≤ x1)))), (.d (.bool (decide ((List.getD x0 (Int.toNat s5) (0, 0)).1 ≤ x1)))), .top, .top, .top], [(.cells [(.d (.sl (.pair (.int .i64) (.int .i64)) x0))])])
  | _ => (.exit 0, [(.ptr 0 0), (.d (.int .i64 x1)), .top, .top, .top, (.d (.int .i64 s5)), (.d (.int .i64 s5)), (.ptr 0 0), (.ptr 0 0), (.ptr 0 0), (.d (.sl (.pair (.int .i64) (.int .i64)) x0)), (.d (.int .i64 (((List.length x0) : Nat) : Int))), (.d (.bool (decide (s5 < (((List.length x0) : Nat) : Int))))), (.d (.bool (decide (s5 < (((List.length x0) : Nat) : Int))))), (.tup []), (.tup []), (.tup []), (.tup []), (.tup []), (.tup []), (.tup []), (.tup []), (.tup []), (.tup []), (.d (.bool false)), .top, .top, .top], [(.cells [(.d (.sl (.pair (.int .i64) (.int .i64)) x0))])])
noncomputable def lbl46_0 : AC := loopBody 35 body46

set_option maxHeartbeats 20000000 in
theorem l46_0_w0 (m n : Nat) (x0 : List (Int × Int)) (x1 : Int) (s5 : Int) (r : AEx × Env × Boxes) (c0 : decide (s5 < (((List.length x0) : Nat) : Int)) = true) (c6 : decide (0 ≤ s5) = true) (c13 : decide ((List.getD x0 (Int.toNat s5) (0, 0)).1 ≤ x1) = true) (ih : (turns (hds 46 35) 1 35 (evC byref (evCall F S3 (m + 24)) (m + 24) 1 (hds 46) lbl46_0) n (l46_0H x0 x1 ((IntKind.wrap .i64 (s5 + (1))))) (l46_0B x0 x1 ((IntKind.wrap .i64 (s5 + (1)))))).run = some r) : (turns (hds 46 35) 1 35 (evC byref (evCall F S3 (m + 24)) (m + 24) 1 (hds 46) lbl46_0) (n + 1) (l46_0H x0 x1 s5) (l46_0B x0 x1 s5)).run = some r := by
  exact turns_step (M.run_of_path _ [true, true, true, true, true, true, true, true, true, true, true, true, true, true] _ _ (by kernel_rfl) (all_t c0 (all_t c0 (all_t c0 (all_t c0 (all_t c0 (all_t c0 (all_t c6 (all_t c0 (all_t c0 (all_t c0 (all_t c0 (all_t c0 (all_t c0 (all_t c13 all_nil))))))))))))))) ih
set_option maxHeartbeats 20000000 in
theorem l46_0_w1 (m n : Nat) (x0 : List (Int × Int)) (x1 : Int) (s5 : Int) (c0 : decide (s5 < (((List.length x0) : Nat) : Int)) = true) (c6 : decide (0 ≤ s5) = true) (c13 : ¬ decide ((List.getD x0 (Int.toNat s5) (0, 0)).1 ≤ x1) = true) : (turns (hds 46 35) 1 35 (evC byref (evCall F S3 (m + 24)) (m + 24) 1 (hds 46) lbl46_0) (n + 1) (l46_0H x0 x1 s5) (l46_0B x0 x1 s5)).run = some (.exit 0, [(.ptr 0 0), (.d (.int .i64 x1)), .top, .top, .top, (.d (.int .i64 s5)), (.d (.int .i64 s5)), (.ptr 0 0), (.ptr 0 0), (.ptr 0 0), (.d (.sl (.pair (.int .i64) (.int .i64)) x0)), (.d (.int .i64 (((List.length x0) : Nat) : Int))), (.d (.bool (decide (s5 < (((List.length x0) : Nat) : Int))))), (.d (.bool (decide (s5 < (((List.length x0) : Nat) : Int))))), (.ptr 0 0), (.ptr 0 0), (.ptr 0 0), (.d (.sl (.pair (.int .i64) (.int .i64)) x0)), (.d (.int .i64 s5)), (.cptr [(.int .i64 (List.getD x0 (Int.toNat s5) (0, 0)).1), (.int .i64 (List.getD x0 (Int.toNat s5) (0, 0)).2)] 0), (.cptr [(.int .i64 (List.getD x0 (Int.toNat s5) (0, 0)).1), (.int .i64 (List.getD x0 (Int.toNat s5) (0, 0)).2)] 0), (.d (.int .i64 (List.getD x0 (Int.toNat s5) (0, 0)).1)), (.d (.int .i64 x1)), (.d (.bool (decide ((List.getD x0 (Int.toNat s5) (0, 0)).1 ≤ x1)))), (.d (.bool (decide ((List.getD x0 (Int.toNat s5) (0, 0)).1 ≤ x1)))), .top, .top, .top], [(.cells [(.d (.sl (.pair (.int .i64) (.int .i64)) x0))])]) := by
  exact turns_last (by simp) (M.run_of_path _ [true, true, true, true, true, true, true, true, true, true, true, true, true, false] _ _ (by kernel_rfl) (all_t c0 (all_t c0 (all_t c0 (all_t c0 (all_t c0 (all_t c0 (all_t c6 (all_t c0 (all_t c0 (all_t c0 (all_t c0 (all_t c0 (all_t c0 (all_f c13 all_nil))))))))))))))) 
set_option maxHeartbeats 20000000 in
theorem l46_0_w2 (m n : Nat) (x0 : List (Int × Int)) (x1 : Int) (s5 : Int) (c0 : ¬ decide (s5 < (((List.length x0) : Nat) : Int)) = true) : (turns (hds 46 35) 1 35 (evC byref (evCall F S3 (m + 24)) (m + 24) 1 (hds 46) lbl46_0) (n + 1) (l46_0H x0 x1 s5) (l46_0B x0 x1 s5)).run = some (.exit 0, [(.ptr 0 0), (.d (.int .i64 x1)), .top, .top, .top, (.d (.int .i64 s5)), (.d (.int .i64 s5)), (.ptr 0 0), (.ptr 0 0), (.ptr 0 0), (.d (.sl (.pair (.int .i64) (.int .i64)) x0)), (.d (.int .i64 (((List.length x0) : Nat) : Int))), (.d (.bool (decide (s5 < (((List.length x0) : Nat) : Int))))), (.d (.bool (decide (s5 < (((List.length x0) : Nat) : Int))))), (.tup []), (.tup []), (.tup []), (.tup []), (.tup []), (.tup []), (.tup []), (.tup []), (.tup []), (.tup []), (.d (.bool false)), .top, .top, .top], [(.cells [(.d (.sl (.pair (.int .i64) (.int .i64)) x0))])]) := by
  exact turns_last (by simp) (M.run_of_path _ [false, false, false, false, false, false, false, false, false, false, false, false] _ _ (by kernel_rfl) (all_f c0 (all_f c0 (all_f c0 (all_f c0 (all_f c0 (all_f c0 (all_f c0 (all_f c0 (all_f c0 (all_f c0 (all_f c0 (all_f Bool.false_ne_true all_nil))))))))))))) 

set_option maxHeartbeats 20000000 in
theorem l46_0_step (m n : Nat) (ih : ∀ (x0 : List (Int × Int)) (x1 : Int) (s5 : Int) (q : Nat × Int), l46_0 m n x0 x1 s5 = some q → (turns (hds 46 35) 1 35 (evC byref (evCall F S3 (m + 24)) (m + 24) 1 (hds 46) lbl46_0) n (l46_0H x0 x1 s5) (l46_0B x0 x1 s5)).run = some (l46_0E (x0) (x1) (q.2) q.1)) (x0 : List (Int × Int)) (x1 : Int) (s5 : Int) (q : Nat × Int) (h : l46_0 m (n + 1) x0 x1 s5 = some q) : (turns (hds 46 35) 1 35 (evC byref (evCall F S3 (m + 24)) (m + 24) 1 (hds 46) lbl46_0) (n + 1) (l46_0H x0 x1 s5) (l46_0B x0 x1 s5)).run = some (l46_0E (x0) (x1) (q.2) q.1) := by
  rw [l46_0] at h
  refine ite_cases h (fun c0 h => ?_) (fun c0 h => ?_)
  · skip
    refine ite_cases h (fun c6 h => ?_) (fun c6 h => ?_)
    · skip
      refine ite_cases h (fun c13 h => ?_) (fun c13 h => ?_)
      · skip
        exact l46_0_w0 m n x0 x1 s5 _ c0 c6 c13 (ih _ _ _ q h)
      · skip
        cases h
        exact l46_0_w1 m n x0 x1 s5 c0 c6 c13
    · skip
      cases h
  · skip
    cases h
    exact l46_0_w2 m n x0 x1 s5 c0
set_option maxHeartbeats 20000000 in
theorem l46_0_ok (m : Nat) : ∀ (n : Nat) (x0 : List (Int × Int)) (x1 : Int) (s5 : Int) (q : Nat × Int), l46_0 m n x0 x1 s5 = some q → (turns (hds 46 35) 1 35 (evC byref (evCall F S3 (m + 24)) (m + 24) 1 (hds 46) lbl46_0) n (l46_0H x0 x1 s5) (l46_0B x0 x1 s5)).run = some (l46_0E (x0) (x1) (q.2) q.1)
  | 0, x0, x1, s5, q, h => by cases h
  | n + 1, x0, x1, s5, q, h => l46_0_step m n (l46_0_ok m n) x0 x1 s5 q h

def p46 (m : Nat) (x0 : List (Int × Int)) (x1 : Int) : Option (Int × (List (Int × Int))) :=
  if (Option.isSome (l46_0 m (m + 24) x0 x1 0)) = true then
    if ((l46_0R m (m + 24) x0 x1 0).1 == 0) = true then
      some ((l46_0R m (m + 24) x0 x1 0).2, x0)
    else
      if ((l46_0R m (m + 24) x0 x1 0).1 == 1) = true then
        some ((l46_0R m (m + 24) x0 x1 0).2, x0)
      else
        none
  else
    none
set_option maxHeartbeats 20000000 in
theorem p46_ok (m : Nat) (x0 : List (Int × Int)) (x1 : Int) (q : Int × (List (Int × Int))) (h : p46 m x0 x1 = some q) : ∃ r B1, (evCall F S3 (m + 25) 46 [(.ptr 0 0), (.d (.int .i64 x1))] [(.cells [(.d (.sl (.pair (.int .i64) (.int .i64)) x0))])]).run = some (r, B1) ∧ 1 ≤ B1.length ∧ wkR B1 [(.cells [(.d (.sl (.pair (.int .i64) (.int .i64)) q.2))])] r (.d (.int .i64 q.1)) ∧ wkBs B1 [(.cells [(.d (.sl (.pair (.int .i64) (.int .i64)) q.2))])] 0 [(.cells [(.d (.sl (.pair (.int .i64) (.int .i64)) q.2))])] := by
  unfold p46 at h
  refine ite_cases h (fun c0 h => ?_) (fun c0 h => ?_)
  · skip
    refine ite_cases h (fun c1 h => ?_) (fun c1 h => ?_)
    · skip
      cases h
      refine ⟨(.d (.int .i64 (l46_0R m (m + 24) x0 x1 0).2)), [(.cells [(.d (.sl (.pair (.int .i64) (.int .i64)) x0))])], runT_ok (LS := (fun k => if k = 35 then some (l46_0E x0 x1 ((l46_0R m (m + 24) x0 x1 0).2) 0) else none)) (fn := fn46) (vis := [(35, l46_0H x0 x1 0, l46_0B x0 x1 0)]) (by kernel_rfl) rfl (by kernel_rfl) (M.run_of_path _ [] _ _ (by kernel_rfl) all_nil) ?_, by simp, (wkR.one (wkV.one (wk1.eq rfl))), ⟨wkBox.cells (wkL.cons (wk1.eq rfl) wkL.nil), trivial⟩⟩
      intro p hp p2 hq
      rcases List.mem_cons.1 hp with rfl | hp
      · skip
        have h3 := l46_0_ok m (m + 24) x0 x1 0 _ (some_getD (d := l46_0D) c0)
        rw [eq_of_beq c1] at h3
        exact Eq.trans (Eq.mp (by kernel_rfl) h3) hq
      cases hp
    · skip
      refine ite_cases h (fun c2 h => ?_) (fun c2 h => ?_)
      · skip
        cases h
        refine ⟨(.d (.int .i64 (l46_0R m (m + 24) x0 x1 0).2)), [(.cells [(.d (.sl (.pair (.int .i64) (.int .i64)) x0))])], runT_ok (LS := (fun k => if k = 35 then some (l46_0E x0 x1 ((l46_0R m (m + 24) x0 x1 0).2) 1) else none)) (fn := fn46) (vis := [(35, l46_0H x0 x1 0, l46_0B x0 x1 0)]) (by kernel_rfl) rfl (by kernel_rfl) (M.run_of_path _ [] _ _ (by kernel_rfl) all_nil) ?_, by simp, (wkR.one (wkV.one (wk1.eq rfl))), ⟨wkBox.cells (wkL.cons (wk1.eq rfl) wkL.nil), trivial⟩⟩
        intro p hp p2 hq
        rcases List.mem_cons.1 hp with rfl | hp
        · skip
          have h3 := l46_0_ok m (m + 24) x0 x1 0 _ (some_getD (d := l46_0D) c0)
          rw [eq_of_beq c2] at h3
          exact Eq.trans (Eq.mp (by kernel_rfl) h3) hq
        cases hp
      · skip
        cases h
  · skip
    cases h

/-- How many samples have a time at most t. -/
def uptoG (l : SL) (t : Int) : Nat := (l.takeWhile fun x => decide (x.1 ≤ t)).length
theorem upto_le (l : SL) (t : Int) : uptoG l t ≤ l.length := (List.takeWhile_sublist _).length_le
theorem upto_cons (a : Int × Int) (r : SL) (t : Int) : uptoG (a :: r) t = if a.1 ≤ t then uptoG r t + 1 else 0 := by
  unfold uptoG
  by_cases h : a.1 ≤ t
  · rw [List.takeWhile_cons_of_pos (by simpa using h), if_pos h]; rfl
  · rw [List.takeWhile_cons_of_neg (by simpa using h), if_neg h]; rfl
theorem upto_loop (m : Nat) (l : SL) (t : Int) (hb : l.length < 4611686018427387904) : ∀ (n k : Nat), k ≤ l.length → l.length - k < n → ∃ e, l46_0 m n l t (k : Nat) = some (e, ((k + uptoG (l.drop k) t : Nat) : Int)) ∧ (e = 0 ∨ e = 1)
  | 0, k, _, h => by omega
  | n + 1, k, h1, h2 => by
    rw [l46_0]
    by_cases hk : k < l.length
    · have e1 : decide (((k : Nat) : Int) < (((List.length l) : Nat) : Int)) = true := decide_eq_true (by omega)
      have e2 : decide ((0 : Int) ≤ ((k : Nat) : Int)) = true := decide_eq_true (by omega)
      have e7 : IntKind.wrap .i64 (((k : Nat) : Int) + (1)) = ((k + 1 : Nat) : Int) := by rw [wrap_id (by omega) (by omega)]; rfl
      simp only [e1, e2, Int.toNat_natCast, e7, ↓reduceIte]
      rw [drop_getD l k (0, 0) hk]
      by_cases hc : (l.getD k (0, 0)).1 ≤ t
      · obtain ⟨e, hr, he⟩ := upto_loop m l t hb n (k + 1) (by omega) (by omega)
        refine ⟨e, ?_, he⟩
        rw [if_pos (decide_eq_true hc), hr]
        have : uptoG (l.getD k (0, 0) :: l.drop (k + 1)) t = uptoG (l.drop (k + 1)) t + 1 := by rw [upto_cons, if_pos hc]
        rw [this, show k + 1 + uptoG (l.drop (k + 1)) t = k + (uptoG (l.drop (k + 1)) t + 1) by omega]
      · refine ⟨0, ?_, .inl rfl⟩
        rw [if_neg (by simpa using hc)]
        have : uptoG (l.getD k (0, 0) :: l.drop (k + 1)) t = 0 := by rw [upto_cons, if_neg hc]
        rw [this]
        rfl
    · have e1 : decide (((k : Nat) : Int) < (((List.length l) : Nat) : Int)) = false := decide_eq_false (by omega)
      simp only [e1, ↓reduceIte, Bool.false_eq_true]
      refine ⟨1, ?_, .inr rfl⟩
      rw [List.drop_eq_nil_of_le (by omega)]
      rfl
theorem upto46 (l : SL) (t : Int) (h : decide (l.length < 4611686018427387904) = true) : ∃ m, p46 m l t = some (((uptoG l t : Nat) : Int), l) := by
  refine ⟨l.length, ?_⟩
  obtain ⟨e, hr, he⟩ := upto_loop l.length l t (of_decide_eq_true h) (l.length + 24) 0 (by omega) (by omega)
  simp only [Int.natCast_zero, List.drop_zero, Nat.zero_add] at hr
  unfold p46 l46_0R
  rw [hr]
  rcases he with rfl | rfl <;> simp
def s46 : List AV → Boxes → M (AV × Boxes) := normS [.ptr, .val (.int .i64)] [(.sl (.pair (.int .i64) (.int .i64)))] fun xs B => match xs, B with
  | [(.ptr 0 0), (.d (.int .i64 c2))], [(.cells [(.d (.sl (.pair (.int .i64) (.int .i64)) c1))])] => .chk (decide (List.length c1 < 4611686018427387904)) (.ret ((.d (.int .i64 ((uptoG c1 c2 : Nat) : Int))), [(.cells [(.d (.sl (.pair (.int .i64) (.int .i64)) c1))])]))
  | _, _ => .fail
theorem s46_at : CallAt Try.prog 46 s46 := by
  refine CallAt.norm (CallAt.weakE (g := fun n => evCall F S3 n 46) (fun n => evCall_atH mixed kinds hds S3 S3_ok n 46) fun xs B r' B' hr => ?_) _ _
  split at hr
  · rename_i c2 c1
    obtain ⟨hp, hr⟩ := (M.run_chk _ _ _).1 hr
    simp only [M.run, Option.some.injEq, Prod.mk.injEq] at hr
    obtain ⟨rfl, rfl⟩ := hr
    obtain ⟨m, hm⟩ := upto46 c1 c2 hp
    obtain ⟨r, B1, h1, h2, h3, h4⟩ := p46_ok m c1 c2 _ hm
    exact ⟨m + 25, r, B1, h1, by simp, h2, h3, h4⟩
  · simp [M.run] at hr
noncomputable def S4 : FuncId → Option (List AV → Boxes → M (AV × Boxes)) := fun f => if f = 46 then some s46 else S3 f
set_option maxHeartbeats 20000000 in
theorem S4_ok : ∀ f s, S4 f = some s → CallAt Try.prog f s := by
  intro f s h
  unfold S4 at h
  split at h
  · rename_i e; subst e; cases h; exact s46_at
  · exact S3_ok f s h

noncomputable def fn28 : AFn := (F 28).getD ⟨0, [], .bad, false, false, noHd⟩
noncomputable def body28 : AC := fn28.body
def p28 (m : Nat) (x0 : List (Int × Int)) (x1 : Int) (x2 : Int) : Option (Int × Bool × (List (Int × Int))) :=
  if decide (List.length x0 < 4611686018427387904) = true then
    if (((uptoG x0 x1 : Nat) : Int) == (0)) = true then
      some ((0), false, x0)
    else
      if decide (0 ≤ (IntKind.wrap .i64 (((uptoG x0 x1 : Nat) : Int) - (1)))) = true then
        if decide ((IntKind.wrap .i64 (((uptoG x0 x1 : Nat) : Int) - (1))) < (((List.length x0) : Nat) : Int)) = true then
          if decide ((List.getD x0 (Int.toNat (IntKind.wrap .i64 (((uptoG x0 x1 : Nat) : Int) - (1)))) (0, 0)).1 ≤ (IntKind.wrap .i64 (x1 - x2))) = true then
            some ((0), false, x0)
          else
            some ((List.getD x0 (Int.toNat (IntKind.wrap .i64 (((uptoG x0 x1 : Nat) : Int) - (1)))) (0, 0)).2, true, x0)
        else
          none
      else
        none
  else
    none
set_option maxHeartbeats 20000000 in
theorem p28_ok (m : Nat) (x0 : List (Int × Int)) (x1 : Int) (x2 : Int) (q : Int × Bool × (List (Int × Int))) (h : p28 m x0 x1 x2 = some q) : ∃ r B1, (evCall F S4 (m + 25) 28 [(.ptr 0 0), (.d (.int .i64 x1)), (.d (.int .i64 x2))] [(.cells [(.d (.sl (.pair (.int .i64) (.int .i64)) x0))])]).run = some (r, B1) ∧ 1 ≤ B1.length ∧ wkR B1 [(.cells [(.d (.sl (.pair (.int .i64) (.int .i64)) q.2.2))])] r (.tup [(.d (.int .i64 q.1)), (.d (.bool (q.2.1)))]) ∧ wkBs B1 [(.cells [(.d (.sl (.pair (.int .i64) (.int .i64)) q.2.2))])] 0 [(.cells [(.d (.sl (.pair (.int .i64) (.int .i64)) q.2.2))])] := by
  unfold p28 at h
  refine ite_cases h (fun c0 h => ?_) (fun c0 h => ?_)
  · skip
    refine ite_cases h (fun c1 h => ?_) (fun c1 h => ?_)
    · skip
      cases h
      refine ⟨(.tup [(.d (.int .i64 (0))), (.d (.bool false))]), [(.cells [(.d (.sl (.pair (.int .i64) (.int .i64)) x0))])], runT_ok (LS := (fun k => none)) (fn := fn28) (vis := []) (by kernel_rfl) rfl (by kernel_rfl) (M.run_of_path _ [true, true, true, true, true, true, true, true, true, true, true, true, true, true, true, true] _ _ (by kernel_rfl) (all_t c0 (all_t c1 (all_t c1 (all_t c1 (all_t c1 (all_t c1 (all_t c1 (all_t c1 (all_t c1 (all_t c1 (all_t c1 (all_t c1 (all_t c1 (all_t c1 (all_t c1 (all_t rfl all_nil))))))))))))))))) ?_, by simp, (wkR.tup (wkVs.cons (wkV.one (wk1.eq rfl)) (wkVs.cons (wkV.one (wk1.eq rfl)) wkVs.nil))), ⟨wkBox.cells (wkL.cons (wk1.eq rfl) wkL.nil), trivial⟩⟩
      intro p hp; cases hp
    · skip
      refine ite_cases h (fun c8 h => ?_) (fun c8 h => ?_)
      · skip
        refine ite_cases h (fun c9 h => ?_) (fun c9 h => ?_)
        · skip
          refine ite_cases h (fun c17 h => ?_) (fun c17 h => ?_)
          · skip
            cases h
            refine ⟨(.tup [(.d (.int .i64 (0))), (.d (.bool false))]), [(.cells [(.d (.sl (.pair (.int .i64) (.int .i64)) x0))])], runT_ok (LS := (fun k => none)) (fn := fn28) (vis := []) (by kernel_rfl) rfl (by kernel_rfl) (M.run_of_path _ [true, false, false, false, false, false, false, false, true, true, false, false, false, false, false, false, false, true] _ _ (by kernel_rfl) (all_t c0 (all_f c1 (all_f c1 (all_f c1 (all_f c1 (all_f c1 (all_f c1 (all_f c1 (all_t c8 (all_t c9 (all_f c1 (all_f c1 (all_f c1 (all_f c1 (all_f c1 (all_f c1 (all_f c1 (all_t c17 all_nil))))))))))))))))))) ?_, by simp, (wkR.tup (wkVs.cons (wkV.one (wk1.eq rfl)) (wkVs.cons (wkV.one (wk1.eq rfl)) wkVs.nil))), ⟨wkBox.cells (wkL.cons (wk1.eq rfl) wkL.nil), trivial⟩⟩
            intro p hp; cases hp
          · skip
            cases h
            refine ⟨(.tup [(.d (.int .i64 (List.getD x0 (Int.toNat (IntKind.wrap .i64 (((uptoG x0 x1 : Nat) : Int) - (1)))) (0, 0)).2)), (.d (.bool true))]), [(.cells [(.d (.sl (.pair (.int .i64) (.int .i64)) x0))])], runT_ok (LS := (fun k => none)) (fn := fn28) (vis := []) (by kernel_rfl) rfl (by kernel_rfl) (M.run_of_path _ [true, false, false, false, false, false, false, false, true, true, false, false, false, false, false, false, false, false, true, true] _ _ (by kernel_rfl) (all_t c0 (all_f c1 (all_f c1 (all_f c1 (all_f c1 (all_f c1 (all_f c1 (all_f c1 (all_t c8 (all_t c9 (all_f c1 (all_f c1 (all_f c1 (all_f c1 (all_f c1 (all_f c1 (all_f c1 (all_f c17 (all_t c8 (all_t c9 all_nil))))))))))))))))))))) ?_, by simp, (wkR.tup (wkVs.cons (wkV.one (wk1.eq rfl)) (wkVs.cons (wkV.one (wk1.eq rfl)) wkVs.nil))), ⟨wkBox.cells (wkL.cons (wk1.eq rfl) wkL.nil), trivial⟩⟩
            intro p hp; cases hp
        · skip
          cases h
      · skip
        cases h
  · skip
    cases h

/-- What is seen at a time, looking so far back. -/
def atB (l : SL) (t look : Int) : Bool := !decide (uptoG l t = 0) && !decide ((l.getD (uptoG l t - 1) (0, 0)).1 ≤ t - look)
def atV (l : SL) (t look : Int) : Int := if atB l t look then (l.getD (uptoG l t - 1) (0, 0)).2 else 0
def atPre (l : SL) (t look : Int) : Bool := decide (l.length < 4611686018427387904 ∧ -1152921504606846976 ≤ t ∧ t ≤ 1152921504606846976 ∧ -1152921504606846976 ≤ look ∧ look ≤ 1152921504606846976)
theorem at28 (l : SL) (t look : Int) (h : atPre l t look = true) : ∃ m, p28 m l t look = some (atV l t look, atB l t look, l) := by
  have h := of_decide_eq_true h
  refine ⟨0, ?_⟩
  have hle := upto_le l t
  unfold p28 atV atB
  generalize uptoG l t = k at hle
  have ew : IntKind.wrap .i64 (t - look) = t - look := wrap_id (by omega) (by omega)
  have e9 : decide (List.length l < 4611686018427387904) = true := decide_eq_true h.1
  by_cases hk : k = 0
  · subst hk
    have e0 : (((0 : Nat) : Int) == (0)) = true := rfl
    simp only [e9, e0, ↓reduceIte]
    simp
  · have e0 : (((k : Nat) : Int) == (0)) = false := by simp; omega
    have e1 : IntKind.wrap .i64 (((k : Nat) : Int) - (1)) = ((k - 1 : Nat) : Int) := by rw [wrap_id (by omega) (by omega)]; omega
    have e2 : decide ((0 : Int) ≤ ((k - 1 : Nat) : Int)) = true := decide_eq_true (by omega)
    have e3 : decide (((k - 1 : Nat) : Int) < (((List.length l) : Nat) : Int)) = true := decide_eq_true (by omega)
    have e4 : decide (k = 0) = false := decide_eq_false hk
    simp only [e9, e0, e1, e2, e3, e4, ew, Int.toNat_natCast, ↓reduceIte, Bool.false_eq_true]
    by_cases hc : (l.getD (k - 1) (0, 0)).1 ≤ t - look
    · have e5 : decide ((l.getD (k - 1) (0, 0)).1 ≤ t - look) = true := decide_eq_true hc
      simp only [e5]
      rfl
    · have e5 : decide ((l.getD (k - 1) (0, 0)).1 ≤ t - look) = false := decide_eq_false hc
      simp only [e5]
      rfl
def s28 : List AV → Boxes → M (AV × Boxes) := normS [.ptr, .val (.int .i64), .val (.int .i64)] [(.sl (.pair (.int .i64) (.int .i64)))] fun xs B => match xs, B with
  | [(.ptr 0 0), (.d (.int .i64 c2)), (.d (.int .i64 c3))], [(.cells [(.d (.sl (.pair (.int .i64) (.int .i64)) c1))])] => .chk (atPre c1 c2 c3) (.ret ((.tup [(.d (.int .i64 (atV c1 c2 c3))), (.d (.bool (atB c1 c2 c3)))]), [(.cells [(.d (.sl (.pair (.int .i64) (.int .i64)) c1))])]))
  | _, _ => .fail
theorem s28_at : CallAt Try.prog 28 s28 := by
  refine CallAt.norm (CallAt.weakE (g := fun n => evCall F S4 n 28) (fun n => evCall_atH mixed kinds hds S4 S4_ok n 28) fun xs B r' B' hr => ?_) _ _
  split at hr
  · rename_i c2 c3 c1
    obtain ⟨hp, hr⟩ := (M.run_chk _ _ _).1 hr
    simp only [M.run, Option.some.injEq, Prod.mk.injEq] at hr
    obtain ⟨rfl, rfl⟩ := hr
    obtain ⟨m, hm⟩ := at28 c1 c2 c3 hp
    obtain ⟨r, B1, h1, h2, h3, h4⟩ := p28_ok m c1 c2 c3 _ hm
    exact ⟨m + 25, r, B1, h1, by simp, h2, h3, h4⟩
  · simp [M.run] at hr
noncomputable def S5 : FuncId → Option (List AV → Boxes → M (AV × Boxes)) := fun f => if f = 28 then some s28 else S4 f
set_option maxHeartbeats 20000000 in
theorem S5_ok : ∀ f s, S5 f = some s → CallAt Try.prog f s := by
  intro f s h
  unfold S5 at h
  split at h
  · rename_i e; subst e; cases h; exact s28_at
  · exact S4_ok f s h

end Go.Proofs.Ytkppbflmlpabjab.Dec
