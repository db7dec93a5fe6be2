/- klaxonbook.Same of samples. -/
import Derived.Test.YtkppbflmlpabjabFa
import Derived.KernelRfl
namespace Go.Proofs.Ytkppbflmlpabjab.Dec
open Go.Ev
set_option linter.unusedVariables false
set_option linter.unusedSimpArgs false
set_option maxRecDepth 100000
noncomputable def fn33 : AFn := (F 33).getD ⟨0, [], .bad, false, false, noHd⟩
noncomputable def body33 : AC := fn33.body
def l33_0 (m : Nat) : Nat → List (Int × Int) → List (Int × Int) → Int → Option (Nat × Int)
  | 0, _, _, _ => none
  | n + 1, x0, x1, s5 => if decide (s5 < (((List.length x0) : Nat) : Int)) = true then
      if decide (0 ≤ s5) = true then
        if decide (s5 < (((List.length x1) : Nat) : Int)) = true then
          if (((List.getD x0 (Int.toNat s5) (0, 0)).1 == (List.getD x1 (Int.toNat s5) (0, 0)).1) && (((List.getD x0 (Int.toNat s5) (0, 0)).2 == (List.getD x1 (Int.toNat s5) (0, 0)).2) && true)) = true then
            l33_0 m n x0 x1 ((IntKind.wrap .i64 (s5 + (1))))
          else
            some (0, s5)
        else
          none
      else
        none
    else
      some (1, s5)
def l33_0D : Nat × Int := (0, 0)
@[reducible] def l33_0R (m n : Nat) (x0 : List (Int × Int)) (x1 : List (Int × Int)) (s5 : Int) : Nat × Int := Option.getD (l33_0 m n x0 x1 s5) l33_0D
def l33_0H (x0 : List (Int × Int)) (x1 : List (Int × Int)) (s5 : Int) : Env := [(.d (.sl (.pair (.int .i64) (.int .i64)) x0)), (.d (.sl (.pair (.int .i64) (.int .i64)) x1)), .top, .top, .top, (.d (.int .i64 s5)), .top, .top, .top, .top, .top, .top, .top, .top, .top, .top, .top, .top, .top, .top, .top, .top, .top, .top, .top, .top]
def l33_0B (x0 : List (Int × Int)) (x1 : List (Int × Int)) (s5 : Int) : Boxes := []
def l33_0E (x0 : List (Int × Int)) (x1 : List (Int × Int)) (s5 : Int) : Nat → AEx × Env × Boxes
  | 0 => (.ret, [(.d (.sl (.pair (.int .i64) (.int .i64)) x0)), (.d (.sl (.pair (.int .i64) (.int .i64)) x1)), .top, .top, (.d (.bool false)), (.d (.int .i64 s5)), .top, .top, .top, .top, .top, (.d (.int .i64 s5)), (.d (.sl (.pair (.int .i64) (.int .i64)) x0)), (.d (.int .i64 (((List.length x0) : Nat) : Int))), (.d (.bool (decide (s5 < (((List.length x0) : Nat) : Int))))), .top, .top, (.d (.sl (.pair (.int .i64) (.int .i64)) x0)), (.d (.int .i64 s5)), (.cptr [(.int .i64 (List.getD x0 (Int.toNat s5) (0, 0)).1), (.int .i64 (List.getD x0 (Int.toNat s5) (0, 0)).2)] 0), (.agg [(.d (.int .i64 (List.getD x0 (Int.toNat s5) (0, 0)).1)), (.d (.int .i64 (List.getD x0 (Int.toNat s5) (0, 0)).2))]), (.d (.sl (.pair (.int .i64) (.int .i64)) x1)), (.d (.int .i64 s5)), (.cptr [(.int .i64 (List.getD x1 (Int.toNat s5) (0, 0)).1), (.int .i64 (List.getD x1 (Int.toNat s5) (0, 0)).2)] 0), (.agg [(.d (.int .i64 (List.getD x1 (Int.toNat s5) (0, 0)).1)), (.d (.int .i64 (List.getD x1 (Int.toNat s5) (0, 0)).2))]), (.d (.bool (!(((List.getD x0 (Int.toNat s5) (0, 0)).1 == (List.getD x1 (Int.toNat s5) (0, 0)).1) && (((List.getD x0 (Int.toNat s5) (0, 0)).2 == (List.getD x1 (Int.toNat s5) (0, 0)).2) && true)))))], [.dead, .dead, .dead, .dead, .dead, .dead, .dead, .dead, .dead, .dead, .dead, .dead, .dead, .dead, .dead, .dead, .dead, .dead, .dead, .dead, .dead, .dead, .dead, .dead, .dead, .dead, .dead, .dead, .dead, .dead, .dead, .dead, .dead, .dead, .dead, .dead])
  | _ => (.exit 0, [(.d (.sl (.pair (.int .i64) (.int .i64)) x0)), (.d (.sl (.pair (.int .i64) (.int .i64)) x1)), .top, .top, .top, (.d (.int .i64 s5)), .top, .top, .top, .top, .top, (.d (.int .i64 s5)), (.d (.sl (.pair (.int .i64) (.int .i64)) x0)), (.d (.int .i64 (((List.length x0) : Nat) : Int))), (.d (.bool (decide (s5 < (((List.length x0) : Nat) : Int))))), .top, .top, .top, .top, .top, .top, .top, .top, .top, .top, .top], [])
noncomputable def lbl33_0 : AC := loopBody 35 body33

set_option maxHeartbeats 20000000 in
theorem l33_0_w0 (m n : Nat) (x0 : List (Int × Int)) (x1 : List (Int × Int)) (s5 : Int) (r : AEx × Env × Boxes) (c0 : decide (s5 < (((List.length x0) : Nat) : Int)) = true) (c1 : decide (0 ≤ s5) = true) (c4 : decide (s5 < (((List.length x1) : Nat) : Int)) = true) (c5 : (((List.getD x0 (Int.toNat s5) (0, 0)).1 == (List.getD x1 (Int.toNat s5) (0, 0)).1) && (((List.getD x0 (Int.toNat s5) (0, 0)).2 == (List.getD x1 (Int.toNat s5) (0, 0)).2) && true)) = true) (ih : (turns (hds 33 35) 0 35 (evC byref (evCall F S10 (m + 24)) (m + 24) 0 (hds 33) lbl33_0) n (l33_0H x0 x1 ((IntKind.wrap .i64 (s5 + (1))))) (l33_0B x0 x1 ((IntKind.wrap .i64 (s5 + (1)))))).run = some r) : (turns (hds 33 35) 0 35 (evC byref (evCall F S10 (m + 24)) (m + 24) 0 (hds 33) lbl33_0) (n + 1) (l33_0H x0 x1 s5) (l33_0B x0 x1 s5)).run = some r := by
  exact turns_step (M.run_of_path _ [true, true, true, true, true, false] _ _ (by kernel_rfl) (all_t c0 (all_t c1 (all_t c0 (all_t c1 (all_t c4 (all_nt c5 all_nil))))))) ih
set_option maxHeartbeats 20000000 in
theorem l33_0_w1 (m n : Nat) (x0 : List (Int × Int)) (x1 : List (Int × Int)) (s5 : Int) (c0 : decide (s5 < (((List.length x0) : Nat) : Int)) = true) (c1 : decide (0 ≤ s5) = true) (c4 : decide (s5 < (((List.length x1) : Nat) : Int)) = true) (c5 : ¬ (((List.getD x0 (Int.toNat s5) (0, 0)).1 == (List.getD x1 (Int.toNat s5) (0, 0)).1) && (((List.getD x0 (Int.toNat s5) (0, 0)).2 == (List.getD x1 (Int.toNat s5) (0, 0)).2) && true)) = true) : (turns (hds 33 35) 0 35 (evC byref (evCall F S10 (m + 24)) (m + 24) 0 (hds 33) lbl33_0) (n + 1) (l33_0H x0 x1 s5) (l33_0B x0 x1 s5)).run = some (.ret, [(.d (.sl (.pair (.int .i64) (.int .i64)) x0)), (.d (.sl (.pair (.int .i64) (.int .i64)) x1)), .top, .top, (.d (.bool false)), (.d (.int .i64 s5)), .top, .top, .top, .top, .top, (.d (.int .i64 s5)), (.d (.sl (.pair (.int .i64) (.int .i64)) x0)), (.d (.int .i64 (((List.length x0) : Nat) : Int))), (.d (.bool (decide (s5 < (((List.length x0) : Nat) : Int))))), .top, .top, (.d (.sl (.pair (.int .i64) (.int .i64)) x0)), (.d (.int .i64 s5)), (.cptr [(.int .i64 (List.getD x0 (Int.toNat s5) (0, 0)).1), (.int .i64 (List.getD x0 (Int.toNat s5) (0, 0)).2)] 0), (.agg [(.d (.int .i64 (List.getD x0 (Int.toNat s5) (0, 0)).1)), (.d (.int .i64 (List.getD x0 (Int.toNat s5) (0, 0)).2))]), (.d (.sl (.pair (.int .i64) (.int .i64)) x1)), (.d (.int .i64 s5)), (.cptr [(.int .i64 (List.getD x1 (Int.toNat s5) (0, 0)).1), (.int .i64 (List.getD x1 (Int.toNat s5) (0, 0)).2)] 0), (.agg [(.d (.int .i64 (List.getD x1 (Int.toNat s5) (0, 0)).1)), (.d (.int .i64 (List.getD x1 (Int.toNat s5) (0, 0)).2))]), (.d (.bool (!(((List.getD x0 (Int.toNat s5) (0, 0)).1 == (List.getD x1 (Int.toNat s5) (0, 0)).1) && (((List.getD x0 (Int.toNat s5) (0, 0)).2 == (List.getD x1 (Int.toNat s5) (0, 0)).2) && true)))))], [.dead, .dead, .dead, .dead, .dead, .dead, .dead, .dead, .dead, .dead, .dead, .dead, .dead, .dead, .dead, .dead, .dead, .dead, .dead, .dead, .dead, .dead, .dead, .dead, .dead, .dead, .dead, .dead, .dead, .dead, .dead, .dead, .dead, .dead, .dead, .dead]) := by
  exact turns_last (by simp) (M.run_of_path _ [true, true, true, true, true, true] _ _ (by kernel_rfl) (all_t c0 (all_t c1 (all_t c0 (all_t c1 (all_t c4 (all_nf c5 all_nil))))))) 
set_option maxHeartbeats 20000000 in
theorem l33_0_w2 (m n : Nat) (x0 : List (Int × Int)) (x1 : List (Int × Int)) (s5 : Int) (c0 : ¬ decide (s5 < (((List.length x0) : Nat) : Int)) = true) : (turns (hds 33 35) 0 35 (evC byref (evCall F S10 (m + 24)) (m + 24) 0 (hds 33) lbl33_0) (n + 1) (l33_0H x0 x1 s5) (l33_0B x0 x1 s5)).run = some (.exit 0, [(.d (.sl (.pair (.int .i64) (.int .i64)) x0)), (.d (.sl (.pair (.int .i64) (.int .i64)) x1)), .top, .top, .top, (.d (.int .i64 s5)), .top, .top, .top, .top, .top, (.d (.int .i64 s5)), (.d (.sl (.pair (.int .i64) (.int .i64)) x0)), (.d (.int .i64 (((List.length x0) : Nat) : Int))), (.d (.bool (decide (s5 < (((List.length x0) : Nat) : Int))))), .top, .top, .top, .top, .top, .top, .top, .top, .top, .top, .top], []) := by
  exact turns_last (by simp) (M.run_of_path _ [false] _ _ (by kernel_rfl) (all_f c0 all_nil)) 

set_option maxHeartbeats 20000000 in
theorem l33_0_step (m n : Nat) (ih : ∀ (x0 : List (Int × Int)) (x1 : List (Int × Int)) (s5 : Int) (q : Nat × Int), l33_0 m n x0 x1 s5 = some q → (turns (hds 33 35) 0 35 (evC byref (evCall F S10 (m + 24)) (m + 24) 0 (hds 33) lbl33_0) n (l33_0H x0 x1 s5) (l33_0B x0 x1 s5)).run = some (l33_0E (x0) (x1) (q.2) q.1)) (x0 : List (Int × Int)) (x1 : List (Int × Int)) (s5 : Int) (q : Nat × Int) (h : l33_0 m (n + 1) x0 x1 s5 = some q) : (turns (hds 33 35) 0 35 (evC byref (evCall F S10 (m + 24)) (m + 24) 0 (hds 33) lbl33_0) (n + 1) (l33_0H x0 x1 s5) (l33_0B x0 x1 s5)).run = some (l33_0E (x0) (x1) (q.2) q.1) := by
  rw [l33_0] at h
  refine ite_cases h (fun c0 h => ?_) (fun c0 h => ?_)
  · skip
    refine ite_cases h (fun c1 h => ?_) (fun c1 h => ?_)
    · skip
      refine ite_cases h (fun c4 h => ?_) (fun c4 h => ?_)
      · skip
        refine ite_cases h (fun c5 h => ?_) (fun c5 h => ?_)
        · skip
          exact l33_0_w0 m n x0 x1 s5 _ c0 c1 c4 c5 (ih _ _ _ q h)
        · skip
          cases h
          exact l33_0_w1 m n x0 x1 s5 c0 c1 c4 c5
      · skip
        cases h
    · skip
      cases h
  · skip
    cases h
    exact l33_0_w2 m n x0 x1 s5 c0
set_option maxHeartbeats 20000000 in
theorem l33_0_ok (m : Nat) : ∀ (n : Nat) (x0 : List (Int × Int)) (x1 : List (Int × Int)) (s5 : Int) (q : Nat × Int), l33_0 m n x0 x1 s5 = some q → (turns (hds 33 35) 0 35 (evC byref (evCall F S10 (m + 24)) (m + 24) 0 (hds 33) lbl33_0) n (l33_0H x0 x1 s5) (l33_0B x0 x1 s5)).run = some (l33_0E (x0) (x1) (q.2) q.1)
  | 0, x0, x1, s5, q, h => by cases h
  | n + 1, x0, x1, s5, q, h => l33_0_step m n (l33_0_ok m n) x0 x1 s5 q h

def p33 (m : Nat) (x0 : List (Int × Int)) (x1 : List (Int × Int)) : Option (Bool) :=
  if ((((List.length x0) : Nat) : Int) != (((List.length x1) : Nat) : Int)) = true then
    some (false)
  else
    if (Option.isSome (l33_0 m (m + 24) x0 x1 0)) = true then
      if ((l33_0R m (m + 24) x0 x1 0).1 == 0) = true then
        some (false)
      else
        if ((l33_0R m (m + 24) x0 x1 0).1 == 1) = true then
          some (true)
        else
          none
    else
      none
set_option maxHeartbeats 20000000 in
theorem p33_ok (m : Nat) (x0 : List (Int × Int)) (x1 : List (Int × Int)) (q : Bool) (h : p33 m x0 x1 = some q) : ∃ r B1, (evCall F S10 (m + 25) 33 [(.d (.sl (.pair (.int .i64) (.int .i64)) x0)), (.d (.sl (.pair (.int .i64) (.int .i64)) x1))] []).run = some (r, B1) ∧ 0 ≤ B1.length ∧ wkR B1 [] r (.d (.bool (q))) ∧ wkBs B1 [] 0 [] := by
  unfold p33 at h
  refine ite_cases h (fun c0 h => ?_) (fun c0 h => ?_)
  · skip
    cases h
    refine ⟨(.d (.bool false)), [], runT_ok (LS := (fun k => none)) (fn := fn33) (vis := []) (by kernel_rfl) rfl (by kernel_rfl) (M.run_of_path _ [true] _ _ (by kernel_rfl) (all_t c0 all_nil)) ?_, by simp, (wkR.one (wkV.one (wk1.eq rfl))), trivial⟩
    intro p hp; cases hp
  · skip
    refine ite_cases h (fun c1 h => ?_) (fun c1 h => ?_)
    · skip
      refine ite_cases h (fun c2 h => ?_) (fun c2 h => ?_)
      · skip
        cases h
        refine ⟨(.d (.bool false)), [], runT_ok (LS := (fun k => if k = 35 then some (l33_0E x0 x1 ((l33_0R m (m + 24) x0 x1 0).2) 0) else none)) (fn := fn33) (vis := [(35, l33_0H x0 x1 0, l33_0B x0 x1 0)]) (by kernel_rfl) rfl (by kernel_rfl) (M.run_of_path _ [false] _ _ (by kernel_rfl) (all_f c0 all_nil)) ?_, by simp, (wkR.one (wkV.one (wk1.eq rfl))), trivial⟩
        intro p hp p2 hq
        rcases List.mem_cons.1 hp with rfl | hp
        · skip
          have h3 := l33_0_ok m (m + 24) x0 x1 0 _ (some_getD (d := l33_0D) c1)
          rw [eq_of_beq c2] at h3
          exact Eq.trans (Eq.mp (by kernel_rfl) h3) hq
        cases hp
      · skip
        refine ite_cases h (fun c3 h => ?_) (fun c3 h => ?_)
        · skip
          cases h
          refine ⟨(.d (.bool true)), [], runT_ok (LS := (fun k => if k = 35 then some (l33_0E x0 x1 ((l33_0R m (m + 24) x0 x1 0).2) 1) else none)) (fn := fn33) (vis := [(35, l33_0H x0 x1 0, l33_0B x0 x1 0)]) (by kernel_rfl) rfl (by kernel_rfl) (M.run_of_path _ [false] _ _ (by kernel_rfl) (all_f c0 all_nil)) ?_, by simp, (wkR.one (wkV.one (wk1.eq rfl))), trivial⟩
          intro p hp p2 hq
          rcases List.mem_cons.1 hp with rfl | hp
          · skip
            have h3 := l33_0_ok m (m + 24) x0 x1 0 _ (some_getD (d := l33_0D) c1)
            rw [eq_of_beq c3] at h3
            exact Eq.trans (Eq.mp (by kernel_rfl) h3) hq
          cases hp
        · skip
          cases h
    · skip
      cases h

theorem eq33_loop (m : Nat) (a b : List (Int × Int)) (hl : a.length = b.length) (hb : a.length < 4611686018427387904) : ∀ n k, k ≤ a.length → a.length - k < n → ∃ j, l33_0 m n a b (k : Nat) = some (if a.drop k == b.drop k then 1 else 0, j)
  | 0, k, _, h => by omega
  | n + 1, k, hk, hn => by
    rw [l33_0]
    by_cases h : k < a.length
    · have hs : ∀ u v : Int × Int, ((u.1 == v.1) && ((u.2 == v.2) && true)) = (u == v) := fun u v => by rw [Bool.and_true]; rfl
      have e1 : decide (((k : Nat) : Int) < ((a.length : Nat) : Int)) = true := decide_eq_true (by omega)
      have e2 : decide ((0 : Int) ≤ ((k : Nat) : Int)) = true := decide_eq_true (by omega)
      have e3 : decide (((k : Nat) : Int) < ((b.length : Nat) : Int)) = true := decide_eq_true (by omega)
      simp only [e1, e2, e3, if_true, Int.toNat_natCast,hs]
      rw [drop_getD a k (0, 0) h, drop_getD b k (0, 0) (by omega)]
      have ew : IntKind.wrap .i64 (((k : Nat) : Int) + (1)) = ((k + 1 : Nat) : Int) := by rw [wrap_id (by omega) (by omega)]; rfl
      rw [ew]
      obtain ⟨j, hj⟩ := eq33_loop m a b hl hb n (k + 1) (by omega) (by omega)
      have hc : ((a.getD k (0, 0)) :: a.drop (k + 1) == (b.getD k (0, 0)) :: b.drop (k + 1)) = (((a.getD k (0, 0)) == (b.getD k (0, 0))) && (a.drop (k + 1) == b.drop (k + 1))) := rfl
      rw [hc]
      rcases Bool.eq_false_or_eq_true ((a.getD k (0, 0)) == (b.getD k (0, 0))) with he | he
      · exact ⟨j, by simp only [he, hj]; simp⟩
      · exact ⟨(k : Nat), by simp only [he]; simp⟩
    · have e1 : decide (((k : Nat) : Int) < ((a.length : Nat) : Int)) = false := decide_eq_false (by omega)
      refine ⟨(k : Nat), ?_⟩
      simp only [e1, Bool.false_eq_true, if_false]
      rw [List.drop_eq_nil_of_le (by omega), List.drop_eq_nil_of_le (by omega)]
      rfl
theorem eq33 (a b : List (Int × Int)) (h : decide (List.length a < 4611686018427387904) = true) : ∃ m, p33 m a b = some (a == b) := by
  have hb := of_decide_eq_true h
  refine ⟨a.length, ?_⟩
  unfold p33 l33_0R
  by_cases hl : a.length = b.length
  · have e0 : ((((List.length a) : Nat) : Int) != (((List.length b) : Nat) : Int)) = false := by simp [hl]
    obtain ⟨j, hj⟩ := eq33_loop a.length a b hl hb (a.length + 24) 0 (by omega) (by omega)
    simp only [Int.natCast_zero, List.drop_zero] at hj
    rw [e0]
    simp only [Bool.false_eq_true, if_false]
    rw [hj]
    cases hab : a == b <;> simp [hab]
  · have e0 : ((((List.length a) : Nat) : Int) != (((List.length b) : Nat) : Int)) = true := by simp; omega
    rw [e0]
    have : (a == b) = false := by
      rw [beq_eq_false_iff_ne]
      intro e; rw [e] at hl; exact hl rfl
    simp [this]
def s33 : List AV → Boxes → M (AV × Boxes) := normS [.val (.sl (.pair (.int .i64) (.int .i64))), .val (.sl (.pair (.int .i64) (.int .i64)))] [] fun xs B => match xs, B with
  | [(.d (.sl (.pair (.int .i64) (.int .i64)) c1)), (.d (.sl (.pair (.int .i64) (.int .i64)) c2))], [] => .chk (decide (List.length c1 < 4611686018427387904)) (.ret ((.d (.bool ((show List (Int × Int) from c1) == c2))), []))
  | _, _ => .fail
theorem s33_at : CallAt Try.prog 33 s33 := by
  refine CallAt.norm (CallAt.weakE (g := fun n => evCall F S10 n 33) (fun n => evCall_atH mixed kinds hds S10 S10_ok n 33) fun xs B r' B' hr => ?_) _ _
  split at hr
  · rename_i c1 c2
    obtain ⟨hp, hr⟩ := (M.run_chk _ _ _).1 hr
    simp only [M.run, Option.some.injEq, Prod.mk.injEq] at hr
    obtain ⟨rfl, rfl⟩ := hr
    obtain ⟨m, hm⟩ := eq33 c1 c2 hp
    obtain ⟨r, B1, h1, h2, h3, h4⟩ := p33_ok m c1 c2 _ hm
    exact ⟨m + 25, r, B1, h1, by simp, h2, h3, h4⟩
  · simp [M.run] at hr
noncomputable def S11 : FuncId → Option (List AV → Boxes → M (AV × Boxes)) := fun f => if f = 33 then some s33 else S10 f
set_option maxHeartbeats 20000000 in
theorem S11_ok : ∀ f s, S11 f = some s → CallAt Try.prog f s := by
  intro f s h
  unfold S11 at h
  split at h
  · rename_i e; subst e; cases h; exact s33_at
  · exact S10_ok f s h

end Go.Proofs.Ytkppbflmlpabjab.Dec
