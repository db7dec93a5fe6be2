/- Silenced, equal. Inhibited. Heard; MuteRuns, reckoned. MuteOrder, as a plain function. MuteOrder: its plain law. -/
import Derived.Test.YtahdcmicifokgaaDoorQA5
import Derived.KernelRfl
namespace Go.Proofs.YtahdcmicifokgaaDoor.Dec
open Go.Ev
set_option linter.unusedVariables false
set_option linter.unusedSimpArgs false
set_option maxRecDepth 100000
set_option maxHeartbeats 20000000
noncomputable def fn34 : AFn := (F 34).getD ⟨0, [], .bad, false, false, noHd⟩
noncomputable def body34 : AC := fn34.body
def l34_0 (m : Nat) : Nat → Q5 → Int → Q2 → Int → Int → Option (Nat × Int)
  | 0, _, _, _, _, _ => none
  | n + 1, x0, x1, x2, s10, s11 => if decide (s11 < s10) = true then
      if decide (0 ≤ s11) = true then
      if decide (s11 < (((List.length x2) : Nat) : Int)) = true then
      if decide ((List.getD x2 (Int.toNat s11) (([] : Q4), (0, 0))).2.1 ≤ x1) = true then
        if decide (x1 < (List.getD x2 (Int.toNat s11) (([] : Q4), (0, 0))).2.2) = true then
          if decide (List.length x0 ≤ 1000000 ∧ List.length (List.getD x2 (Int.toNat s11) (([] : Q4), (0, 0))).1 ≤ 9223372036854775807) = true then
          if (allG x0 (List.getD x2 (Int.toNat s11) (([] : Q4), (0, 0))).1) = true then
            some (0, s11)
          else
            l34_0 m n x0 x1 x2 s10 ((IntKind.wrap .i64 (s11 + (1))))
          else none
        else
          l34_0 m n x0 x1 x2 s10 ((IntKind.wrap .i64 (s11 + (1))))
      else
        l34_0 m n x0 x1 x2 s10 ((IntKind.wrap .i64 (s11 + (1))))
      else none
      else none
    else
      some (1, s11)
def l34_0D : Nat × Int := (0, 0)
@[reducible] def l34_0R (m n : Nat) (x0 : Q5) (x1 : Int) (x2 : Q2) (s10 : Int) (s11 : Int) : Nat × Int := Option.getD (l34_0 m n x0 x1 x2 s10 s11) l34_0D
def l34_0H (x0 : Q5) (x1 : Int) (x2 : Q2) (s10 : Int) (s11 : Int) : Env := ((.d (.sl (.pair .str .str) x0)) :: (.d (.int .i64 x1)) :: .top :: .top :: .top :: .top :: .top :: .top :: .top :: (.d (.sl (.pair (.sl (.pair .str (.pair .str (.int .i64)))) (.pair (.int .i64) (.int .i64))) x2)) :: (.d (.int .i64 s10)) :: (.d (.int .i64 s11)) :: tp20 [])
def l34_0B (x0 : Q5) (x1 : Int) (x2 : Q2) (s10 : Int) (s11 : Int) : Boxes := []
def l34_0E (x0 : Q5) (x1 : Int) (x2 : Q2) (s10 : Int) (s11 : Int) : Nat → AEx × Env × Boxes
  | 0 => (.ret, [(.d (.sl (.pair .str .str) x0)), (.d (.int .i64 x1)), .top, .top, .top, .top, (.d (.bool true)), .top, (.ptr 0 0), (.d (.sl (.pair (.sl (.pair .str (.pair .str (.int .i64)))) (.pair (.int .i64) (.int .i64))) x2)), (.d (.int .i64 s10)), (.d (.int .i64 s11)), (.d (.bool (decide (s11 < s10)))), (.cptr [(.sl (.pair .str (.pair .str (.int .i64))) (List.getD x2 (Int.toNat s11) (([] : Q4), (0, 0))).1), (.int .i64 (List.getD x2 (Int.toNat s11) (([] : Q4), (0, 0))).2.1), (.int .i64 (List.getD x2 (Int.toNat s11) (([] : Q4), (0, 0))).2.2)] 0), (.agg [(.d (.sl (.pair .str (.pair .str (.int .i64))) (List.getD x2 (Int.toNat s11) (([] : Q4), (0, 0))).1)), (.d (.int .i64 (List.getD x2 (Int.toNat s11) (([] : Q4), (0, 0))).2.1)), (.d (.int .i64 (List.getD x2 (Int.toNat s11) (([] : Q4), (0, 0))).2.2))]), (.ptr 0 1), (.d (.int .i64 (List.getD x2 (Int.toNat s11) (([] : Q4), (0, 0))).2.1)), (.d (.int .i64 x1)), (.d (.bool (decide ((List.getD x2 (Int.toNat s11) (([] : Q4), (0, 0))).2.1 ≤ x1)))), (.d (.bool (decide ((List.getD x2 (Int.toNat s11) (([] : Q4), (0, 0))).2.1 ≤ x1)))), (.d (.int .i64 x1)), (.ptr 0 2), (.d (.int .i64 (List.getD x2 (Int.toNat s11) (([] : Q4), (0, 0))).2.2)), (.d (.bool (decide (x1 < (List.getD x2 (Int.toNat s11) (([] : Q4), (0, 0))).2.2)))), (.d (.bool (decide (x1 < (List.getD x2 (Int.toNat s11) (([] : Q4), (0, 0))).2.2)))), (.d (.bool (decide (x1 < (List.getD x2 (Int.toNat s11) (([] : Q4), (0, 0))).2.2)))), (.d (.sl (.pair .str .str) x0)), (.ptr 0 0), (.d (.sl (.pair .str (.pair .str (.int .i64))) (List.getD x2 (Int.toNat s11) (([] : Q4), (0, 0))).1)), (.d (.bool (allG x0 (List.getD x2 (Int.toNat s11) (([] : Q4), (0, 0))).1))), (.d (.bool (allG x0 (List.getD x2 (Int.toNat s11) (([] : Q4), (0, 0))).1))), .top], [(.cells [(.d (.sl (.pair .str (.pair .str (.int .i64))) (List.getD x2 (Int.toNat s11) (([] : Q4), (0, 0))).1)), (.d (.int .i64 (List.getD x2 (Int.toNat s11) (([] : Q4), (0, 0))).2.1)), (.d (.int .i64 (List.getD x2 (Int.toNat s11) (([] : Q4), (0, 0))).2.2))])])
  | _ => (.exit 0, ((.d (.sl (.pair .str .str) x0)) :: (.d (.int .i64 x1)) :: .top :: .top :: .top :: .top :: .top :: .top :: .top :: (.d (.sl (.pair (.sl (.pair .str (.pair .str (.int .i64)))) (.pair (.int .i64) (.int .i64))) x2)) :: (.d (.int .i64 s10)) :: (.d (.int .i64 s11)) :: (.d (.bool (decide (s11 < s10)))) :: tp19 []), [])
noncomputable def lbl34_0 : AC := loopBody 3587 body34
@[reducible] noncomputable def cb7 (m : Nat) := (evC byref (evCall F S15 (m + 24)) (m + 24) 0 (hds 34) lbl34_0)


theorem l34_0_step (m n : Nat) (ih : ∀ (x0 : Q5) (x1 : Int) (x2 : Q2) (s10 : Int) (s11 : Int) (q : Nat × Int), l34_0 m n x0 x1 x2 s10 s11 = some q → (turns (hds 34 3587) 0 3587 (cb7 m) n (l34_0H x0 x1 x2 s10 s11) (l34_0B x0 x1 x2 s10 s11)).run = some (l34_0E (x0) (x1) (x2) (s10) (q.2) q.1)) (x0 : Q5) (x1 : Int) (x2 : Q2) (s10 : Int) (s11 : Int) (q : Nat × Int) (h : l34_0 m (n + 1) x0 x1 x2 s10 s11 = some q) : (turns (hds 34 3587) 0 3587 (cb7 m) (n + 1) (l34_0H x0 x1 x2 s10 s11) (l34_0B x0 x1 x2 s10 s11)).run = some (l34_0E (x0) (x1) (x2) (s10) (q.2) q.1) := by
  rw [l34_0] at h
  refine ite_cases h (fun c0 h => ?_) (fun c0 h => ?_)
  · skip
    obtain ⟨c1, h⟩ := iY h
    obtain ⟨c2, h⟩ := iY h
    refine ite_cases h (fun c3 h => ?_) (fun c3 h => ?_)
    · skip
      refine ite_cases h (fun c8 h => ?_) (fun c8 h => ?_)
      · skip
        obtain ⟨c12, h⟩ := iY h
        refine ite_cases h (fun c14 h => ?_) (fun c14 h => ?_)
        · skip
          cases h
          refine turns_last (by simp) ?_
          exact M.run_of_path _ [tT, tT, tT, tT, tT, tT, tT, tT, tT, tT, tT, tT, tT, tT, tT] _ _ (by kernel_rfl) (all_t c0 (all_t c1 (all_t c2 (all_t c3 (all_t c3 (all_t c3 (all_t c3 (all_t c3 (all_t c8 (all_t c8 (all_t c8 (all_t c8 (all_t c12 (all_t c8 (all_t c14 all_nil)))))))))))))))
        · skip
          have ih := ih _ _ _ _ _ q h
          refine turns_step ?_ ih
          exact M.run_of_path _ [tT, tT, tT, tT, tT, tT, tT, tT, tT, tT, tT, tT, tT, tT, fF] _ _ (by kernel_rfl) (all_t c0 (all_t c1 (all_t c2 (all_t c3 (all_t c3 (all_t c3 (all_t c3 (all_t c3 (all_t c8 (all_t c8 (all_t c8 (all_t c8 (all_t c12 (all_t c8 (all_f c14 all_nil)))))))))))))))
      · skip
        have ih := ih _ _ _ _ _ q h
        refine turns_step ?_ ih
        exact M.run_of_path _ [tT, tT, tT, tT, tT, tT, tT, tT, fF, fF, fF, fF, fF, fF] _ _ (by kernel_rfl) (all_t c0 (all_t c1 (all_t c2 (all_t c3 (all_t c3 (all_t c3 (all_t c3 (all_t c3 (all_f c8 (all_f c8 (all_f c8 (all_f c8 (all_f c8 (all_f Bool.false_ne_true all_nil))))))))))))))
    · skip
      have ih := ih _ _ _ _ _ q h
      refine turns_step ?_ ih
      exact M.run_of_path _ [tT, tT, tT, fF, fF, fF, fF, fF, fF, fF, fF, fF, fF, fF] _ _ (by kernel_rfl) (all_t c0 (all_t c1 (all_t c2 (all_f c3 (all_f c3 (all_f c3 (all_f c3 (all_f c3 (all_f Bool.false_ne_true (all_f Bool.false_ne_true (all_f Bool.false_ne_true (all_f Bool.false_ne_true (all_f Bool.false_ne_true (all_f Bool.false_ne_true all_nil))))))))))))))
  · skip
    cases h
    refine turns_last (by simp) ?_
    exact M.run_of_path _ [fF] _ _ (by kernel_rfl) (all_f c0 all_nil)
theorem l34_0_ok (m : Nat) : ∀ (n : Nat) (x0 : Q5) (x1 : Int) (x2 : Q2) (s10 : Int) (s11 : Int) (q : Nat × Int), l34_0 m n x0 x1 x2 s10 s11 = some q → (turns (hds 34 3587) 0 3587 (cb7 m) n (l34_0H x0 x1 x2 s10 s11) (l34_0B x0 x1 x2 s10 s11)).run = some (l34_0E (x0) (x1) (x2) (s10) (q.2) q.1)
  | 0, x0, x1, x2, s10, s11, q, h => by cases h
  | n + 1, x0, x1, x2, s10, s11, q, h => l34_0_step m n (l34_0_ok m n) x0 x1 x2 s10 s11 q h

def p34 (m : Nat) (x0 : Q5) (x1 : Int) (x2 : Q2) : Option (Bool) :=
  if (Option.isSome (l34_0 m (m + 24) x0 x1 x2 ((((List.length x2) : Nat) : Int)) 0)) = true then
  if ((l34_0R m (m + 24) x0 x1 x2 ((((List.length x2) : Nat) : Int)) 0).1 == 0) = true then
    some (true)
  else
    if ((l34_0R m (m + 24) x0 x1 x2 ((((List.length x2) : Nat) : Int)) 0).1 == 1) = true then
    some (false)
    else none
  else none
theorem p34_ok (m : Nat) (x0 : Q5) (x1 : Int) (x2 : Q2) (q : Bool) (h : p34 m x0 x1 x2 = some q) : ∃ r B1, (evCall F S15 (m + 25) 34 [(.d (.sl (.pair .str .str) x0)), (.d (.int .i64 x1)), (.d (.sl (.pair (.sl (.pair .str (.pair .str (.int .i64)))) (.pair (.int .i64) (.int .i64))) x2))] []).run = some (r, B1) ∧ 0 ≤ B1.length ∧ wkR B1 [] r (.d (.bool (q))) ∧ wkBs B1 [] 0 [] := by
  unfold p34 at h
  obtain ⟨c0, h⟩ := iY h
  refine ite_cases h (fun c1 h => ?_) (fun c1 h => ?_)
  · skip
    cases h
    refine ⟨(.d (.bool true)), [], runT_ok (LS := (fun k => if k = 3587 then some (l34_0E x0 x1 x2 (((((List.length x2) : Nat) : Int))) ((l34_0R m (m + 24) x0 x1 x2 ((((List.length x2) : Nat) : Int)) 0).2) 0) else none)) (fn := fn34) (vis := [(3587, l34_0H x0 x1 x2 ((((List.length x2) : Nat) : Int)) 0, l34_0B x0 x1 x2 ((((List.length x2) : Nat) : Int)) 0)]) (by kernel_rfl) rfl (by kernel_rfl) (M.run_of_path _ [] _ _ (by kernel_rfl) all_nil) ?_, by simp, (wkR.one (wkV.one (wk1.eq rfl))), trivial⟩
    intro p hp p2 hq
    rcases List.mem_cons.1 hp with rfl | hp
    · skip
      have h3 := l34_0_ok m (m + 24) x0 x1 x2 ((((List.length x2) : Nat) : Int)) 0 _ (some_getD (d := l34_0D) c0)
      rw [eq_of_beq c1] at h3
      exact Eq.trans (Eq.mp (by kernel_rfl) h3) hq
    cases hp
  · skip
    obtain ⟨c2, h⟩ := iY h
    cases h
    refine ⟨(.d (.bool false)), [], runT_ok (LS := (fun k => if k = 3587 then some (l34_0E x0 x1 x2 (((((List.length x2) : Nat) : Int))) ((l34_0R m (m + 24) x0 x1 x2 ((((List.length x2) : Nat) : Int)) 0).2) 1) else none)) (fn := fn34) (vis := [(3587, l34_0H x0 x1 x2 ((((List.length x2) : Nat) : Int)) 0, l34_0B x0 x1 x2 ((((List.length x2) : Nat) : Int)) 0)]) (by kernel_rfl) rfl (by kernel_rfl) (M.run_of_path _ [] _ _ (by kernel_rfl) all_nil) ?_, by simp, (wkR.one (wkV.one (wk1.eq rfl))), trivial⟩
    intro p hp p2 hq
    rcases List.mem_cons.1 hp with rfl | hp
    · skip
      have h3 := l34_0_ok m (m + 24) x0 x1 x2 ((((List.length x2) : Nat) : Int)) 0 _ (some_getD (d := l34_0D) c0)
      rw [eq_of_beq c2] at h3
      exact Eq.trans (Eq.mp (by kernel_rfl) h3) hq
    cases hp

abbrev SS := List ((List MT) × Int × Int)
abbrev HS := List ((List MT) × (List MT) × (Q7))
def silOne (l : LB) (t : Int) (s : (List MT) × Int × Int) : Bool := decide (s.2.1 ≤ t) && (decide (t < s.2.2) && allG l s.1)
def silG (l : LB) (t : Int) (ss : SS) : Bool := ss.any (silOne l t)
def silPre (l : LB) (ss : SS) : Bool := decide (l.length ≤ 1000000 ∧ ss.length ≤ 1000000 ∧ ∀ s ∈ ss, s.1.length ≤ 9223372036854775807)
theorem sil_loop (m : Nat) (l : LB) (t : Int) (ss : SS) (h1 : l.length ≤ 1000000) (h2 : ss.length ≤ 1000000) (h3 : ∀ s ∈ ss, s.1.length ≤ 9223372036854775807) : ∀ (n k : Nat), k ≤ ss.length → ss.length - k < n → ∃ e j, l34_0 m n l t ss (ss.length : Nat) (k : Nat) = some (e, j) ∧ ((e = 0 ∧ silG l t (ss.drop k) = true) ∨ (e = 1 ∧ silG l t (ss.drop k) = false))
  | 0, k, _, h => by omega
  | n + 1, k, g1, g2 => by
    rw [l34_0]
    by_cases hk : k < ss.length
    · have e1 : decide (((k : Nat) : Int) < (((List.length ss) : Nat) : Int)) = true := decide_eq_true (by omega)
      have e2 : decide ((0 : Int) ≤ ((k : Nat) : Int)) = true := decide_eq_true (by omega)
      have e7 : IntKind.wrap .i64 (((k : Nat) : Int) + (1)) = ((k + 1 : Nat) : Int) := by rw [wrap_id (by omega) (by omega)]; rfl
      have hq := h3 _ (getD_mem ss k (([] : List MT), (0, 0)) hk)
      have go := sil_loop m l t ss h1 h2 h3 n (k + 1) (by omega) (by omega)
      rw [drop_getD ss k (([] : List MT), (0, 0)) hk]
      simp only [show Int.toNat ((k : Nat) : Int) = k from rfl, e1, e2, e7, ↓reduceIte]
      generalize ss.getD k (([] : List MT), (0, 0)) = q at *
      have hc : silG l t (q :: ss.drop (k + 1)) = (silOne l t q || silG l t (ss.drop (k + 1))) := rfl
      have hs : silOne l t q = (decide (q.2.1 ≤ t) && (decide (t < q.2.2) && allG l q.1)) := rfl
      have e3 : decide (List.length l ≤ 1000000 ∧ List.length q.1 ≤ 9223372036854775807) = true := decide_eq_true ⟨h1, hq⟩
      rw [hc, hs]
      simp only [e3, ↓reduceIte]
      cases c1 : decide (q.2.1 ≤ t) with
      | false => simp only [Bool.false_and, Bool.false_or, ↓reduceIte, Bool.false_eq_true]; exact go
      | true =>
        cases c2 : decide (t < q.2.2) with
        | false => simp only [Bool.false_and, Bool.and_false, Bool.false_or, ↓reduceIte, Bool.false_eq_true]; exact go
        | true =>
          cases c3 : allG l q.1 with
          | false => simp only [Bool.and_false, Bool.false_or, ↓reduceIte, Bool.false_eq_true]; exact go
          | true =>
            simp only [Bool.and_self, Bool.true_or, ↓reduceIte]
            exact ⟨0, _, rfl, .inl ⟨rfl, by first | rfl | trivial⟩⟩
    · have e1 : decide (((k : Nat) : Int) < (((List.length ss) : Nat) : Int)) = false := decide_eq_false (by omega)
      rw [e1, if_neg (by simp), List.drop_eq_nil_of_le (by omega)]
      exact ⟨1, _, rfl, .inr ⟨rfl, by first | rfl | trivial⟩⟩
theorem sil12 (l : LB) (t : Int) (ss : SS) (h : silPre l ss = true) : ∃ m, p34 m l t ss = some (silG l t ss) := by
  have ⟨h1, h2, h3⟩ := of_decide_eq_true h
  refine ⟨ss.length, ?_⟩
  obtain ⟨e, j, hr, hc⟩ := sil_loop ss.length l t ss h1 h2 h3 (ss.length + 24) 0 (by omega) (by omega)
  simp only [Int.natCast_zero, List.drop_zero] at hr hc
  unfold p34
  simp only [l34_0R, hr, Option.isSome_some, Option.getD_some, ↓reduceIte]
  rcases hc with ⟨rfl, hc⟩ | ⟨rfl, hc⟩ <;> rw [hc] <;> rfl
def s34 : List AV → Boxes → M (AV × Boxes) := normS [.val (.sl (.pair .str .str)), .val (.int .i64), .val (.sl (.pair (.sl (.pair .str (.pair .str (.int .i64)))) (.pair (.int .i64) (.int .i64))))] [] fun xs B => match xs, B with
  | [(.d (.sl (.pair .str .str) c1)), (.d (.int .i64 c2)), (.d (.sl (.pair (.sl (.pair .str (.pair .str (.int .i64)))) (.pair (.int .i64) (.int .i64))) c3))], [] => .chk (silPre c1 c3) (.ret ((.d (.bool (silG c1 c2 c3))), []))
  | _, _ => .fail
theorem s34_at : CallAt Tryd.prog 34 s34 := by
  refine CallAt.norm (CallAt.weakE (g := fun n => evCall F S15 n 34) (fun n => evCall_atH mixed kinds hds S15 S15_ok n 34) fun xs B r' B' hr => ?_) _ _
  split at hr
  · rename_i c1 c2 c3
    obtain ⟨hp, hr⟩ := (M.run_chk _ _ _).1 hr
    simp only [M.run, Option.some.injEq, Prod.mk.injEq] at hr
    obtain ⟨rfl, rfl⟩ := hr
    obtain ⟨m, hm⟩ := sil12 c1 c2 c3 hp
    obtain ⟨r, B1, h1, h2, h3, h4⟩ := p34_ok m c1 c2 c3 _ hm
    exact ⟨m + 25, r, B1, h1, by simp, h2, h3, h4⟩
  · simp [M.run] at hr
noncomputable def S16 : FuncId → Option (List AV → Boxes → M (AV × Boxes)) := fun f => if f = 34 then some s34 else S15 f
theorem S16_ok : ∀ f s, S16 f = some s → CallAt Tryd.prog f s := by
  intro f s h
  unfold S16 at h
  split at h
  · rename_i e; subst e; cases h; exact s34_at
  · exact S15_ok f s h

noncomputable def fn59 : AFn := (F 59).getD ⟨0, [], .bad, false, false, noHd⟩
noncomputable def body59 : AC := fn59.body
def l59_0 (m : Nat) : Nat → Q5 → Q5 → Q7 → Int → Int → Option (Nat × Int)
  | 0, _, _, _, _, _ => none
  | n + 1, x0, x1, x2, s10, s11 => if decide (s11 < s10) = true then
      if decide (0 ≤ s11) = true then
      if decide (s11 < (((List.length x2) : Nat) : Int)) = true then
      if decide (List.length x0 ≤ 1000000) = true then
      if decide (List.length x1 ≤ 1000000) = true then
      if ((getG x0 (List.getD x2 (Int.toNat s11) ([] : Q8))) == (getG x1 (List.getD x2 (Int.toNat s11) ([] : Q8)))) = true then
        l59_0 m n x0 x1 x2 s10 ((IntKind.wrap .i64 (s11 + (1))))
      else
        some (0, s11)
      else none
      else none
      else none
      else none
    else
      some (1, s11)
def l59_0D : Nat × Int := (0, 0)
@[reducible] def l59_0R (m n : Nat) (x0 : Q5) (x1 : Q5) (x2 : Q7) (s10 : Int) (s11 : Int) : Nat × Int := Option.getD (l59_0 m n x0 x1 x2 s10 s11) l59_0D
def l59_0H (x0 : Q5) (x1 : Q5) (x2 : Q7) (s10 : Int) (s11 : Int) : Env := ((.d (.sl (.pair .str .str) x0)) :: (.d (.sl (.pair .str .str) x1)) :: .top :: .top :: .top :: .top :: .top :: .top :: .top :: (.d (.sl .str x2)) :: (.d (.int .i64 s10)) :: (.d (.int .i64 s11)) :: tp11 [])
def l59_0B (x0 : Q5) (x1 : Q5) (x2 : Q7) (s10 : Int) (s11 : Int) : Boxes := []
def l59_0E (x0 : Q5) (x1 : Q5) (x2 : Q7) (s10 : Int) (s11 : Int) : Nat → AEx × Env × Boxes
  | 0 => (.ret, [(.d (.sl (.pair .str .str) x0)), (.d (.sl (.pair .str .str) x1)), .top, .top, .top, .top, (.d (.bool false)), .top, (.d (.str (List.getD x2 (Int.toNat s11) ([] : Q8)))), (.d (.sl .str x2)), (.d (.int .i64 s10)), (.d (.int .i64 s11)), (.d (.bool (decide (s11 < s10)))), (.cptr [(.str (List.getD x2 (Int.toNat s11) ([] : Q8)))] 0), (.d (.str (List.getD x2 (Int.toNat s11) ([] : Q8)))), (.d (.sl (.pair .str .str) x0)), (.d (.str (List.getD x2 (Int.toNat s11) ([] : Q8)))), (.d (.str (getG x0 (List.getD x2 (Int.toNat s11) ([] : Q8))))), (.d (.sl (.pair .str .str) x1)), (.d (.str (List.getD x2 (Int.toNat s11) ([] : Q8)))), (.d (.str (getG x1 (List.getD x2 (Int.toNat s11) ([] : Q8))))), (.d (.bool (!((getG x0 (List.getD x2 (Int.toNat s11) ([] : Q8))) == (getG x1 (List.getD x2 (Int.toNat s11) ([] : Q8))))))), .top], [])
  | _ => (.exit 0, ((.d (.sl (.pair .str .str) x0)) :: (.d (.sl (.pair .str .str) x1)) :: .top :: .top :: .top :: .top :: .top :: .top :: .top :: (.d (.sl .str x2)) :: (.d (.int .i64 s10)) :: (.d (.int .i64 s11)) :: (.d (.bool (decide (s11 < s10)))) :: tp10 []), [])
noncomputable def lbl59_0 : AC := loopBody 3587 body59
@[reducible] noncomputable def cb8 (m : Nat) := (evC byref (evCall F S16 (m + 24)) (m + 24) 0 (hds 59) lbl59_0)


theorem l59_0_step (m n : Nat) (ih : ∀ (x0 : Q5) (x1 : Q5) (x2 : Q7) (s10 : Int) (s11 : Int) (q : Nat × Int), l59_0 m n x0 x1 x2 s10 s11 = some q → (turns (hds 59 3587) 0 3587 (cb8 m) n (l59_0H x0 x1 x2 s10 s11) (l59_0B x0 x1 x2 s10 s11)).run = some (l59_0E (x0) (x1) (x2) (s10) (q.2) q.1)) (x0 : Q5) (x1 : Q5) (x2 : Q7) (s10 : Int) (s11 : Int) (q : Nat × Int) (h : l59_0 m (n + 1) x0 x1 x2 s10 s11 = some q) : (turns (hds 59 3587) 0 3587 (cb8 m) (n + 1) (l59_0H x0 x1 x2 s10 s11) (l59_0B x0 x1 x2 s10 s11)).run = some (l59_0E (x0) (x1) (x2) (s10) (q.2) q.1) := by
  rw [l59_0] at h
  refine ite_cases h (fun c0 h => ?_) (fun c0 h => ?_)
  · skip
    obtain ⟨c1, h⟩ := iY h
    obtain ⟨c2, h⟩ := iY h
    obtain ⟨c3, h⟩ := iY h
    obtain ⟨c4, h⟩ := iY h
    refine ite_cases h (fun c5 h => ?_) (fun c5 h => ?_)
    · skip
      have ih := ih _ _ _ _ _ q h
      refine turns_step ?_ ih
      exact M.run_of_path _ [tT, tT, tT, tT, tT, fF] _ _ (by kernel_rfl) (all_t c0 (all_t c1 (all_t c2 (all_t c3 (all_t c4 (all_nt c5 all_nil))))))
    · skip
      cases h
      refine turns_last (by simp) ?_
      exact M.run_of_path _ [tT, tT, tT, tT, tT, tT] _ _ (by kernel_rfl) (all_t c0 (all_t c1 (all_t c2 (all_t c3 (all_t c4 (all_nf c5 all_nil))))))
  · skip
    cases h
    refine turns_last (by simp) ?_
    exact M.run_of_path _ [fF] _ _ (by kernel_rfl) (all_f c0 all_nil)
theorem l59_0_ok (m : Nat) : ∀ (n : Nat) (x0 : Q5) (x1 : Q5) (x2 : Q7) (s10 : Int) (s11 : Int) (q : Nat × Int), l59_0 m n x0 x1 x2 s10 s11 = some q → (turns (hds 59 3587) 0 3587 (cb8 m) n (l59_0H x0 x1 x2 s10 s11) (l59_0B x0 x1 x2 s10 s11)).run = some (l59_0E (x0) (x1) (x2) (s10) (q.2) q.1)
  | 0, x0, x1, x2, s10, s11, q, h => by cases h
  | n + 1, x0, x1, x2, s10, s11, q, h => l59_0_step m n (l59_0_ok m n) x0 x1 x2 s10 s11 q h

def p59 (m : Nat) (x0 : Q5) (x1 : Q5) (x2 : Q7) : Option (Bool) :=
  if (Option.isSome (l59_0 m (m + 24) x0 x1 x2 ((((List.length x2) : Nat) : Int)) 0)) = true then
  if ((l59_0R m (m + 24) x0 x1 x2 ((((List.length x2) : Nat) : Int)) 0).1 == 0) = true then
    some (false)
  else
    if ((l59_0R m (m + 24) x0 x1 x2 ((((List.length x2) : Nat) : Int)) 0).1 == 1) = true then
    some (true)
    else none
  else none
theorem p59_ok (m : Nat) (x0 : Q5) (x1 : Q5) (x2 : Q7) (q : Bool) (h : p59 m x0 x1 x2 = some q) : ∃ r B1, (evCall F S16 (m + 25) 59 [(.d (.sl (.pair .str .str) x0)), (.d (.sl (.pair .str .str) x1)), (.d (.sl .str x2))] []).run = some (r, B1) ∧ 0 ≤ B1.length ∧ wkR B1 [] r (.d (.bool (q))) ∧ wkBs B1 [] 0 [] := by
  unfold p59 at h
  obtain ⟨c0, h⟩ := iY h
  refine ite_cases h (fun c1 h => ?_) (fun c1 h => ?_)
  · skip
    cases h
    refine ⟨(.d (.bool false)), [], runT_ok (LS := (fun k => if k = 3587 then some (l59_0E x0 x1 x2 (((((List.length x2) : Nat) : Int))) ((l59_0R m (m + 24) x0 x1 x2 ((((List.length x2) : Nat) : Int)) 0).2) 0) else none)) (fn := fn59) (vis := [(3587, l59_0H x0 x1 x2 ((((List.length x2) : Nat) : Int)) 0, l59_0B x0 x1 x2 ((((List.length x2) : Nat) : Int)) 0)]) (by kernel_rfl) rfl (by kernel_rfl) (M.run_of_path _ [] _ _ (by kernel_rfl) all_nil) ?_, by simp, (wkR.one (wkV.one (wk1.eq rfl))), trivial⟩
    intro p hp p2 hq
    rcases List.mem_cons.1 hp with rfl | hp
    · skip
      have h3 := l59_0_ok m (m + 24) x0 x1 x2 ((((List.length x2) : Nat) : Int)) 0 _ (some_getD (d := l59_0D) c0)
      rw [eq_of_beq c1] at h3
      exact Eq.trans (Eq.mp (by kernel_rfl) h3) hq
    cases hp
  · skip
    obtain ⟨c2, h⟩ := iY h
    cases h
    refine ⟨(.d (.bool true)), [], runT_ok (LS := (fun k => if k = 3587 then some (l59_0E x0 x1 x2 (((((List.length x2) : Nat) : Int))) ((l59_0R m (m + 24) x0 x1 x2 ((((List.length x2) : Nat) : Int)) 0).2) 1) else none)) (fn := fn59) (vis := [(3587, l59_0H x0 x1 x2 ((((List.length x2) : Nat) : Int)) 0, l59_0B x0 x1 x2 ((((List.length x2) : Nat) : Int)) 0)]) (by kernel_rfl) rfl (by kernel_rfl) (M.run_of_path _ [] _ _ (by kernel_rfl) all_nil) ?_, by simp, (wkR.one (wkV.one (wk1.eq rfl))), trivial⟩
    intro p hp p2 hq
    rcases List.mem_cons.1 hp with rfl | hp
    · skip
      have h3 := l59_0_ok m (m + 24) x0 x1 x2 ((((List.length x2) : Nat) : Int)) 0 _ (some_getD (d := l59_0D) c0)
      rw [eq_of_beq c2] at h3
      exact Eq.trans (Eq.mp (by kernel_rfl) h3) hq
    cases hp

def equG (a b : LB) (ns : Q7) : Bool := ns.all fun n => getG a n == getG b n
def equPre (a b : LB) (ns : Q7) : Bool := decide (a.length ≤ 1000000 ∧ b.length ≤ 1000000 ∧ ns.length ≤ 9223372036854775807)
theorem equ_loop (m : Nat) (a b : LB) (ns : Q7) (h1 : a.length ≤ 1000000) (h2 : b.length ≤ 1000000) (h3 : ns.length ≤ 9223372036854775807) : ∀ (n k : Nat), k ≤ ns.length → ns.length - k < n → ∃ e j, l59_0 m n a b ns (ns.length : Nat) (k : Nat) = some (e, j) ∧ ((e = 1 ∧ equG a b (ns.drop k) = true) ∨ (e = 0 ∧ equG a b (ns.drop k) = false))
  | 0, k, _, h => by omega
  | n + 1, k, g1, g2 => by
    rw [l59_0]
    by_cases hk : k < ns.length
    · have e1 : decide (((k : Nat) : Int) < (((List.length ns) : Nat) : Int)) = true := decide_eq_true (by omega)
      have e2 : decide ((0 : Int) ≤ ((k : Nat) : Int)) = true := decide_eq_true (by omega)
      have e7 : IntKind.wrap .i64 (((k : Nat) : Int) + (1)) = ((k + 1 : Nat) : Int) := by rw [wrap_id (by omega) (by omega)]; rfl
      have e3 : decide (List.length a ≤ 1000000) = true := decide_eq_true h1
      have e4 : decide (List.length b ≤ 1000000) = true := decide_eq_true h2
      have go := equ_loop m a b ns h1 h2 h3 n (k + 1) (by omega) (by omega)
      rw [drop_getD ns k ([] : Q8) hk]
      simp only [show Int.toNat ((k : Nat) : Int) = k from rfl, e1, e2, e3, e4, e7, ↓reduceIte]
      generalize ns.getD k ([] : Q8) = q at *
      have hc : equG a b (q :: ns.drop (k + 1)) = ((getG a q == getG b q) && equG a b (ns.drop (k + 1))) := rfl
      rw [hc]
      cases c1 : (getG a q == getG b q) with
      | true => simp only [Bool.true_and, ↓reduceIte]; exact go
      | false =>
        simp only [Bool.false_and, ↓reduceIte, Bool.false_eq_true]
        exact ⟨0, _, rfl, .inr ⟨rfl, by first | rfl | trivial⟩⟩
    · have e1 : decide (((k : Nat) : Int) < (((List.length ns) : Nat) : Int)) = false := decide_eq_false (by omega)
      rw [e1, if_neg (by simp), List.drop_eq_nil_of_le (by omega)]
      exact ⟨1, _, rfl, .inl ⟨rfl, by first | rfl | trivial⟩⟩
theorem equ32 (a b : LB) (ns : Q7) (h : equPre a b ns = true) : ∃ m, p59 m a b ns = some (equG a b ns) := by
  have ⟨h1, h2, h3⟩ := of_decide_eq_true h
  refine ⟨ns.length, ?_⟩
  obtain ⟨e, j, hr, hc⟩ := equ_loop ns.length a b ns h1 h2 h3 (ns.length + 24) 0 (by omega) (by omega)
  simp only [Int.natCast_zero, List.drop_zero] at hr hc
  unfold p59
  simp only [l59_0R, hr, Option.isSome_some, Option.getD_some, ↓reduceIte]
  rcases hc with ⟨rfl, hc⟩ | ⟨rfl, hc⟩ <;> rw [hc] <;> rfl
def s59 : List AV → Boxes → M (AV × Boxes) := normS [.val (.sl (.pair .str .str)), .val (.sl (.pair .str .str)), .val (.sl .str)] [] fun xs B => match xs, B with
  | [(.d (.sl (.pair .str .str) c1)), (.d (.sl (.pair .str .str) c2)), (.d (.sl .str c3))], [] => .chk (equPre c1 c2 c3) (.ret ((.d (.bool (equG c1 c2 c3))), []))
  | _, _ => .fail
theorem s59_at : CallAt Tryd.prog 59 s59 := by
  refine CallAt.norm (CallAt.weakE (g := fun n => evCall F S16 n 59) (fun n => evCall_atH mixed kinds hds S16 S16_ok n 59) fun xs B r' B' hr => ?_) _ _
  split at hr
  · rename_i c1 c2 c3
    obtain ⟨hp, hr⟩ := (M.run_chk _ _ _).1 hr
    simp only [M.run, Option.some.injEq, Prod.mk.injEq] at hr
    obtain ⟨rfl, rfl⟩ := hr
    obtain ⟨m, hm⟩ := equ32 c1 c2 c3 hp
    obtain ⟨r, B1, h1, h2, h3, h4⟩ := p59_ok m c1 c2 c3 _ hm
    exact ⟨m + 25, r, B1, h1, by simp, h2, h3, h4⟩
  · simp [M.run] at hr
noncomputable def S17 : FuncId → Option (List AV → Boxes → M (AV × Boxes)) := fun f => if f = 59 then some s59 else S16 f
theorem S17_ok : ∀ f s, S17 f = some s → CallAt Tryd.prog f s := by
  intro f s h
  unfold S17 at h
  split at h
  · rename_i e; subst e; cases h; exact s59_at
  · exact S16_ok f s h

end Go.Proofs.YtahdcmicifokgaaDoor.Dec
namespace Go.Proofs.YtahdcmicifokgaaDoor.Dec
open Go.Ev
set_option linter.unusedVariables false
set_option linter.unusedSimpArgs false
set_option maxRecDepth 100000
set_option maxHeartbeats 20000000
noncomputable def fn35 : AFn := (F 35).getD ⟨0, [], .bad, false, false, noHd⟩
noncomputable def body35 : AC := fn35.body
def l35_1 (m : Nat) : Nat → Q3 → Q0 → Q5 → Int → Int → Int → Int → Q1 → Option (Nat × Int)
  | 0, _, _, _, _, _, _, _, _ => none
  | n + 1, x0, x2, s7, s25, s26, s36', s37', b0' => if decide (s37' < s36') = true then
      if decide (0 ≤ s37') = true then
      if decide (s37' < (((List.length x0) : Nat) : Int)) = true then
      if decide (List.length (List.getD x0 (Int.toNat s37') ([] : Q5)) < 4611686018427387904) = true then
      if ((show Q5 from (List.getD x0 (Int.toNat s37') ([] : Q5))) == s7) = true then
        l35_1 m n x0 x2 s7 s25 s26 s36' ((IntKind.wrap .i64 (s37' + (1)))) b0'
      else
        if decide (List.length (List.getD x0 (Int.toNat s37') ([] : Q5)) ≤ 1000000 ∧ List.length b0'.1 ≤ 9223372036854775807) = true then
        if (allG (List.getD x0 (Int.toNat s37') ([] : Q5)) b0'.1) = true then
          if equPre (List.getD x0 (Int.toNat s37') ([] : Q5)) s7 b0'.2.2 = true then
          if (equG (List.getD x0 (Int.toNat s37') ([] : Q5)) s7 b0'.2.2) = true then
            some (0, s37')
          else
            l35_1 m n x0 x2 s7 s25 s26 s36' ((IntKind.wrap .i64 (s37' + (1)))) b0'
          else none
        else
          l35_1 m n x0 x2 s7 s25 s26 s36' ((IntKind.wrap .i64 (s37' + (1)))) b0'
        else none
      else none
      else none
      else none
    else
      some (1, s37')
def l35_1D : Nat × Int := (0, 0)
@[reducible] def l35_1R (m n : Nat) (x0 : Q3) (x2 : Q0) (s7 : Q5) (s25 : Int) (s26 : Int) (s36' : Int) (s37' : Int) (b0' : Q1) : Nat × Int := Option.getD (l35_1 m n x0 x2 s7 s25 s26 s36' s37' b0') l35_1D
def l35_1H (x0 : Q3) (x2 : Q0) (s7 : Q5) (s25 : Int) (s26 : Int) (s36' : Int) (s37' : Int) (b0' : Q1) : Env := ((.d (.sl (.sl (.pair .str .str)) x0)) :: .top :: .top :: .top :: .top :: .top :: .top :: (.d (.sl (.pair .str .str) s7)) :: .top :: (.ptr 0 0) :: tp14 ((.d (.sl (.pair (.sl (.pair .str (.pair .str (.int .i64)))) (.pair (.sl (.pair .str (.pair .str (.int .i64)))) (.sl .str))) x2)) :: (.d (.int .i64 s25)) :: (.d (.int .i64 s26)) :: tp8 ((.d (.sl (.sl (.pair .str .str)) x0)) :: (.d (.int .i64 s36')) :: (.d (.int .i64 s37')) :: tp22 [])))
def l35_1B (x0 : Q3) (x2 : Q0) (s7 : Q5) (s25 : Int) (s26 : Int) (s36' : Int) (s37' : Int) (b0' : Q1) : Boxes := [(.cells [(.d (.sl (.pair .str (.pair .str (.int .i64))) b0'.1)), (.d (.sl (.pair .str (.pair .str (.int .i64))) b0'.2.1)), (.d (.sl .str b0'.2.2))])]
def l35_1E (x0 : Q3) (x2 : Q0) (s7 : Q5) (s25 : Int) (s26 : Int) (s36' : Int) (s37' : Int) (b0' : Q1) : Nat → AEx × Env × Boxes
  | 0 => (.ret, ((.d (.sl (.sl (.pair .str .str)) x0)) :: .top :: .top :: .top :: .top :: .top :: (.d (.bool true)) :: (.d (.sl (.pair .str .str) s7)) :: .top :: (.ptr 0 0) :: .top :: (.d (.sl (.pair .str .str) (List.getD x0 (Int.toNat s37') ([] : Q5)))) :: tp12 ((.d (.sl (.pair (.sl (.pair .str (.pair .str (.int .i64)))) (.pair (.sl (.pair .str (.pair .str (.int .i64)))) (.sl .str))) x2)) :: (.d (.int .i64 s25)) :: (.d (.int .i64 s26)) :: tp8 ((.d (.sl (.sl (.pair .str .str)) x0)) :: (.d (.int .i64 s36')) :: (.d (.int .i64 s37')) :: (.d (.bool (decide (s37' < s36')))) :: (.cptr [(.sl (.pair .str .str) (List.getD x0 (Int.toNat s37') ([] : Q5)))] 0) :: (.d (.sl (.pair .str .str) (List.getD x0 (Int.toNat s37') ([] : Q5)))) :: (.d (.sl (.pair .str .str) (List.getD x0 (Int.toNat s37') ([] : Q5)))) :: (.d (.sl (.pair .str .str) s7)) :: (.d (.bool ((show Q5 from (List.getD x0 (Int.toNat s37') ([] : Q5))) == s7))) :: (.d (.bool (!((show Q5 from (List.getD x0 (Int.toNat s37') ([] : Q5))) == s7)))) :: (.d (.bool (!((show Q5 from (List.getD x0 (Int.toNat s37') ([] : Q5))) == s7)))) :: (.d (.sl (.pair .str .str) (List.getD x0 (Int.toNat s37') ([] : Q5)))) :: (.ptr 0 0) :: (.d (.sl (.pair .str (.pair .str (.int .i64))) b0'.1)) :: (.d (.bool (allG (List.getD x0 (Int.toNat s37') ([] : Q5)) b0'.1))) :: (.d (.bool (allG (List.getD x0 (Int.toNat s37') ([] : Q5)) b0'.1))) :: (.d (.bool (allG (List.getD x0 (Int.toNat s37') ([] : Q5)) b0'.1))) :: (.d (.sl (.pair .str .str) (List.getD x0 (Int.toNat s37') ([] : Q5)))) :: (.d (.sl (.pair .str .str) s7)) :: (.ptr 0 2) :: (.d (.sl .str b0'.2.2)) :: (.d (.bool (equG (List.getD x0 (Int.toNat s37') ([] : Q5)) s7 b0'.2.2))) :: (.d (.bool (equG (List.getD x0 (Int.toNat s37') ([] : Q5)) s7 b0'.2.2))) :: .top :: .top :: []))), [(.cells [(.d (.sl (.pair .str (.pair .str (.int .i64))) b0'.1)), (.d (.sl (.pair .str (.pair .str (.int .i64))) b0'.2.1)), (.d (.sl .str b0'.2.2))])])
  | _ => (.exit 2, ((.d (.sl (.sl (.pair .str .str)) x0)) :: .top :: .top :: .top :: .top :: .top :: .top :: (.d (.sl (.pair .str .str) s7)) :: .top :: (.ptr 0 0) :: tp14 ((.d (.sl (.pair (.sl (.pair .str (.pair .str (.int .i64)))) (.pair (.sl (.pair .str (.pair .str (.int .i64)))) (.sl .str))) x2)) :: (.d (.int .i64 s25)) :: (.d (.int .i64 s26)) :: tp8 ((.d (.sl (.sl (.pair .str .str)) x0)) :: (.d (.int .i64 s36')) :: (.d (.int .i64 s37')) :: (.d (.bool (decide (s37' < s36')))) :: tp21 []))), [(.cells [(.d (.sl (.pair .str (.pair .str (.int .i64))) b0'.1)), (.d (.sl (.pair .str (.pair .str (.int .i64))) b0'.2.1)), (.d (.sl .str b0'.2.2))])])
noncomputable def lbl35_1 : AC := loopBody 240635609729 body35
@[reducible] noncomputable def cb9 (m : Nat) := (evC byref (evCall F S17 (m + 24)) (m + 24) 0 (hds 35) lbl35_1)


theorem l35_1_step (m n : Nat) (ih : ∀ (x0 : Q3) (x2 : Q0) (s7 : Q5) (s25 : Int) (s26 : Int) (s36' : Int) (s37' : Int) (b0' : Q1) (q : Nat × Int), l35_1 m n x0 x2 s7 s25 s26 s36' s37' b0' = some q → (turns (hds 35 240635609729) 0 240635609729 (cb9 m) n (l35_1H x0 x2 s7 s25 s26 s36' s37' b0') (l35_1B x0 x2 s7 s25 s26 s36' s37' b0')).run = some (l35_1E (x0) (x2) (s7) (s25) (s26) (s36') (q.2) (b0') q.1)) (x0 : Q3) (x2 : Q0) (s7 : Q5) (s25 : Int) (s26 : Int) (s36' : Int) (s37' : Int) (b0' : Q1) (q : Nat × Int) (h : l35_1 m (n + 1) x0 x2 s7 s25 s26 s36' s37' b0' = some q) : (turns (hds 35 240635609729) 0 240635609729 (cb9 m) (n + 1) (l35_1H x0 x2 s7 s25 s26 s36' s37' b0') (l35_1B x0 x2 s7 s25 s26 s36' s37' b0')).run = some (l35_1E (x0) (x2) (s7) (s25) (s26) (s36') (q.2) (b0') q.1) := by
  rw [l35_1] at h
  refine ite_cases h (fun c0 h => ?_) (fun c0 h => ?_)
  · skip
    obtain ⟨c1, h⟩ := iY h
    obtain ⟨c2, h⟩ := iY h
    obtain ⟨c3, h⟩ := iY h
    refine ite_cases h (fun c4 h => ?_) (fun c4 h => ?_)
    · skip
      have ih := ih _ _ _ _ _ _ _ _ q h
      refine turns_step ?_ ih
      exact M.run_of_path _ [tT, tT, tT, tT, fF, fF, fF, fF, fF, fF, fF, fF, fF, fF, fF, fF] _ _ (by kernel_rfl) (all_t c0 (all_t c1 (all_t c2 (all_t c3 (all_nt c4 (all_nt c4 (all_nt c4 (all_nt c4 (all_nt c4 (all_f Bool.false_ne_true (all_f Bool.false_ne_true (all_f Bool.false_ne_true (all_f Bool.false_ne_true (all_f Bool.false_ne_true (all_f Bool.false_ne_true (all_f Bool.false_ne_true all_nil))))))))))))))))
    · skip
      obtain ⟨c8, h⟩ := iY h
      refine ite_cases h (fun c10 h => ?_) (fun c10 h => ?_)
      · skip
        obtain ⟨c15, h⟩ := iY h
        refine ite_cases h (fun c17 h => ?_) (fun c17 h => ?_)
        · skip
          cases h
          refine turns_last (by simp) ?_
          exact M.run_of_path _ [tT, tT, tT, tT, tT, tT, tT, tT, tT, tT, tT, tT, tT, tT, tT, tT, tT, tT] _ _ (by kernel_rfl) (all_t c0 (all_t c1 (all_t c2 (all_t c3 (all_nf c4 (all_nf c4 (all_nf c4 (all_nf c4 (all_t c8 (all_nf c4 (all_t c10 (all_t c10 (all_t c10 (all_t c10 (all_t c10 (all_t c15 (all_t c10 (all_t c17 all_nil))))))))))))))))))
        · skip
          have ih := ih _ _ _ _ _ _ _ _ q h
          refine turns_step ?_ ih
          exact M.run_of_path _ [tT, tT, tT, tT, tT, tT, tT, tT, tT, tT, tT, tT, tT, tT, tT, tT, tT, fF] _ _ (by kernel_rfl) (all_t c0 (all_t c1 (all_t c2 (all_t c3 (all_nf c4 (all_nf c4 (all_nf c4 (all_nf c4 (all_t c8 (all_nf c4 (all_t c10 (all_t c10 (all_t c10 (all_t c10 (all_t c10 (all_t c15 (all_t c10 (all_f c17 all_nil))))))))))))))))))
      · skip
        have ih := ih _ _ _ _ _ _ _ _ q h
        refine turns_step ?_ ih
        exact M.run_of_path _ [tT, tT, tT, tT, tT, tT, tT, tT, tT, tT, fF, fF, fF, fF, fF, fF, fF] _ _ (by kernel_rfl) (all_t c0 (all_t c1 (all_t c2 (all_t c3 (all_nf c4 (all_nf c4 (all_nf c4 (all_nf c4 (all_t c8 (all_nf c4 (all_f c10 (all_f c10 (all_f c10 (all_f c10 (all_f c10 (all_f c10 (all_f Bool.false_ne_true all_nil)))))))))))))))))
  · skip
    cases h
    refine turns_last (by simp) ?_
    exact M.run_of_path _ [fF] _ _ (by kernel_rfl) (all_f c0 all_nil)
theorem l35_1_ok (m : Nat) : ∀ (n : Nat) (x0 : Q3) (x2 : Q0) (s7 : Q5) (s25 : Int) (s26 : Int) (s36' : Int) (s37' : Int) (b0' : Q1) (q : Nat × Int), l35_1 m n x0 x2 s7 s25 s26 s36' s37' b0' = some q → (turns (hds 35 240635609729) 0 240635609729 (cb9 m) n (l35_1H x0 x2 s7 s25 s26 s36' s37' b0') (l35_1B x0 x2 s7 s25 s26 s36' s37' b0')).run = some (l35_1E (x0) (x2) (s7) (s25) (s26) (s36') (q.2) (b0') q.1)
  | 0, x0, x2, s7, s25, s26, s36', s37', b0', q, h => by cases h
  | n + 1, x0, x2, s7, s25, s26, s36', s37', b0', q, h => l35_1_step m n (l35_1_ok m n) x0 x2 s7 s25 s26 s36' s37' b0' q h

def l35_0 (m : Nat) : Nat → Q3 → Q0 → Q5 → Int → Int → Option (Nat × Int)
  | 0, _, _, _, _, _ => none
  | n + 1, x0, x2, s7, s25, s26 => if decide (s26 < s25) = true then
      if decide (0 ≤ s26) = true then
      if decide (s26 < (((List.length x2) : Nat) : Int)) = true then
      if decide (List.length s7 ≤ 1000000 ∧ List.length (List.getD x2 (Int.toNat s26) (([] : Q4), (([] : Q4), ([] : Q7)))).2.1 ≤ 9223372036854775807) = true then
      if (allG s7 (List.getD x2 (Int.toNat s26) (([] : Q4), (([] : Q4), ([] : Q7)))).2.1) = true then
        if (Option.isSome (l35_1 m (m + 24) x0 x2 s7 s25 s26 ((((List.length x0) : Nat) : Int)) 0 ((List.getD x2 (Int.toNat s26) (([] : Q4), (([] : Q4), ([] : Q7))))))) = true then
        if ((l35_1R m (m + 24) x0 x2 s7 s25 s26 ((((List.length x0) : Nat) : Int)) 0 ((List.getD x2 (Int.toNat s26) (([] : Q4), (([] : Q4), ([] : Q7)))))).1 == 0) = true then
          some (0, s26)
        else
          if ((l35_1R m (m + 24) x0 x2 s7 s25 s26 ((((List.length x0) : Nat) : Int)) 0 ((List.getD x2 (Int.toNat s26) (([] : Q4), (([] : Q4), ([] : Q7)))))).1 == 1) = true then
          l35_0 m n x0 x2 s7 s25 ((IntKind.wrap .i64 (s26 + (1))))
          else none
        else none
      else
        l35_0 m n x0 x2 s7 s25 ((IntKind.wrap .i64 (s26 + (1))))
      else none
      else none
      else none
    else
      some (1, s26)
def l35_0D : Nat × Int := (0, 0)
@[reducible] def l35_0R (m n : Nat) (x0 : Q3) (x2 : Q0) (s7 : Q5) (s25 : Int) (s26 : Int) : Nat × Int := Option.getD (l35_0 m n x0 x2 s7 s25 s26) l35_0D
def l35_0H (x0 : Q3) (x2 : Q0) (s7 : Q5) (s25 : Int) (s26 : Int) : Env := ((.d (.sl (.sl (.pair .str .str)) x0)) :: .top :: .top :: .top :: .top :: .top :: .top :: (.d (.sl (.pair .str .str) s7)) :: tp16 ((.d (.sl (.pair (.sl (.pair .str (.pair .str (.int .i64)))) (.pair (.sl (.pair .str (.pair .str (.int .i64)))) (.sl .str))) x2)) :: (.d (.int .i64 s25)) :: (.d (.int .i64 s26)) :: tp33 []))
def l35_0B (x0 : Q3) (x2 : Q0) (s7 : Q5) (s25 : Int) (s26 : Int) : Boxes := []
def l35_0E (m : Nat) (x0 : Q3) (x2 : Q0) (s7 : Q5) (s25 : Int) (s26 : Int) : Nat → AEx × Env × Boxes
  | 0 => (.ret, ((.d (.sl (.sl (.pair .str .str)) x0)) :: .top :: .top :: .top :: .top :: .top :: (.d (.bool true)) :: (.d (.sl (.pair .str .str) s7)) :: .top :: (.ptr 0 0) :: .top :: (.d (.sl (.pair .str .str) (List.getD x0 (Int.toNat (l35_1R m (m + 24) x0 x2 s7 s25 s26 ((((List.length x0) : Nat) : Int)) 0 ((List.getD x2 (Int.toNat s26) (([] : Q4), (([] : Q4), ([] : Q7)))))).2) ([] : Q5)))) :: tp12 ((.d (.sl (.pair (.sl (.pair .str (.pair .str (.int .i64)))) (.pair (.sl (.pair .str (.pair .str (.int .i64)))) (.sl .str))) x2)) :: (.d (.int .i64 s25)) :: (.d (.int .i64 s26)) :: tp8 ((.d (.sl (.sl (.pair .str .str)) x0)) :: (.d (.int .i64 ((((List.length x0) : Nat) : Int)))) :: (.d (.int .i64 (l35_1R m (m + 24) x0 x2 s7 s25 s26 ((((List.length x0) : Nat) : Int)) 0 ((List.getD x2 (Int.toNat s26) (([] : Q4), (([] : Q4), ([] : Q7)))))).2)) :: (.d (.bool (decide ((l35_1R m (m + 24) x0 x2 s7 s25 s26 ((((List.length x0) : Nat) : Int)) 0 ((List.getD x2 (Int.toNat s26) (([] : Q4), (([] : Q4), ([] : Q7)))))).2 < ((((List.length x0) : Nat) : Int)))))) :: (.cptr [(.sl (.pair .str .str) (List.getD x0 (Int.toNat (l35_1R m (m + 24) x0 x2 s7 s25 s26 ((((List.length x0) : Nat) : Int)) 0 ((List.getD x2 (Int.toNat s26) (([] : Q4), (([] : Q4), ([] : Q7)))))).2) ([] : Q5)))] 0) :: (.d (.sl (.pair .str .str) (List.getD x0 (Int.toNat (l35_1R m (m + 24) x0 x2 s7 s25 s26 ((((List.length x0) : Nat) : Int)) 0 ((List.getD x2 (Int.toNat s26) (([] : Q4), (([] : Q4), ([] : Q7)))))).2) ([] : Q5)))) :: (.d (.sl (.pair .str .str) (List.getD x0 (Int.toNat (l35_1R m (m + 24) x0 x2 s7 s25 s26 ((((List.length x0) : Nat) : Int)) 0 ((List.getD x2 (Int.toNat s26) (([] : Q4), (([] : Q4), ([] : Q7)))))).2) ([] : Q5)))) :: (.d (.sl (.pair .str .str) s7)) :: (.d (.bool ((show Q5 from (List.getD x0 (Int.toNat (l35_1R m (m + 24) x0 x2 s7 s25 s26 ((((List.length x0) : Nat) : Int)) 0 ((List.getD x2 (Int.toNat s26) (([] : Q4), (([] : Q4), ([] : Q7)))))).2) ([] : Q5))) == s7))) :: (.d (.bool (!((show Q5 from (List.getD x0 (Int.toNat (l35_1R m (m + 24) x0 x2 s7 s25 s26 ((((List.length x0) : Nat) : Int)) 0 ((List.getD x2 (Int.toNat s26) (([] : Q4), (([] : Q4), ([] : Q7)))))).2) ([] : Q5))) == s7)))) :: (.d (.bool (!((show Q5 from (List.getD x0 (Int.toNat (l35_1R m (m + 24) x0 x2 s7 s25 s26 ((((List.length x0) : Nat) : Int)) 0 ((List.getD x2 (Int.toNat s26) (([] : Q4), (([] : Q4), ([] : Q7)))))).2) ([] : Q5))) == s7)))) :: (.d (.sl (.pair .str .str) (List.getD x0 (Int.toNat (l35_1R m (m + 24) x0 x2 s7 s25 s26 ((((List.length x0) : Nat) : Int)) 0 ((List.getD x2 (Int.toNat s26) (([] : Q4), (([] : Q4), ([] : Q7)))))).2) ([] : Q5)))) :: (.ptr 0 0) :: (.d (.sl (.pair .str (.pair .str (.int .i64))) ((List.getD x2 (Int.toNat s26) (([] : Q4), (([] : Q4), ([] : Q7))))).1)) :: (.d (.bool (allG (List.getD x0 (Int.toNat (l35_1R m (m + 24) x0 x2 s7 s25 s26 ((((List.length x0) : Nat) : Int)) 0 ((List.getD x2 (Int.toNat s26) (([] : Q4), (([] : Q4), ([] : Q7)))))).2) ([] : Q5)) ((List.getD x2 (Int.toNat s26) (([] : Q4), (([] : Q4), ([] : Q7))))).1))) :: (.d (.bool (allG (List.getD x0 (Int.toNat (l35_1R m (m + 24) x0 x2 s7 s25 s26 ((((List.length x0) : Nat) : Int)) 0 ((List.getD x2 (Int.toNat s26) (([] : Q4), (([] : Q4), ([] : Q7)))))).2) ([] : Q5)) ((List.getD x2 (Int.toNat s26) (([] : Q4), (([] : Q4), ([] : Q7))))).1))) :: (.d (.bool (allG (List.getD x0 (Int.toNat (l35_1R m (m + 24) x0 x2 s7 s25 s26 ((((List.length x0) : Nat) : Int)) 0 ((List.getD x2 (Int.toNat s26) (([] : Q4), (([] : Q4), ([] : Q7)))))).2) ([] : Q5)) ((List.getD x2 (Int.toNat s26) (([] : Q4), (([] : Q4), ([] : Q7))))).1))) :: (.d (.sl (.pair .str .str) (List.getD x0 (Int.toNat (l35_1R m (m + 24) x0 x2 s7 s25 s26 ((((List.length x0) : Nat) : Int)) 0 ((List.getD x2 (Int.toNat s26) (([] : Q4), (([] : Q4), ([] : Q7)))))).2) ([] : Q5)))) :: (.d (.sl (.pair .str .str) s7)) :: (.ptr 0 2) :: (.d (.sl .str ((List.getD x2 (Int.toNat s26) (([] : Q4), (([] : Q4), ([] : Q7))))).2.2)) :: (.d (.bool (equG (List.getD x0 (Int.toNat (l35_1R m (m + 24) x0 x2 s7 s25 s26 ((((List.length x0) : Nat) : Int)) 0 ((List.getD x2 (Int.toNat s26) (([] : Q4), (([] : Q4), ([] : Q7)))))).2) ([] : Q5)) s7 ((List.getD x2 (Int.toNat s26) (([] : Q4), (([] : Q4), ([] : Q7))))).2.2))) :: (.d (.bool (equG (List.getD x0 (Int.toNat (l35_1R m (m + 24) x0 x2 s7 s25 s26 ((((List.length x0) : Nat) : Int)) 0 ((List.getD x2 (Int.toNat s26) (([] : Q4), (([] : Q4), ([] : Q7)))))).2) ([] : Q5)) s7 ((List.getD x2 (Int.toNat s26) (([] : Q4), (([] : Q4), ([] : Q7))))).2.2))) :: .top :: .top :: []))), [(.cells [(.d (.sl (.pair .str (.pair .str (.int .i64))) ((List.getD x2 (Int.toNat s26) (([] : Q4), (([] : Q4), ([] : Q7))))).1)), (.d (.sl (.pair .str (.pair .str (.int .i64))) ((List.getD x2 (Int.toNat s26) (([] : Q4), (([] : Q4), ([] : Q7))))).2.1)), (.d (.sl .str ((List.getD x2 (Int.toNat s26) (([] : Q4), (([] : Q4), ([] : Q7))))).2.2))])])
  | _ => (.exit 0, ((.d (.sl (.sl (.pair .str .str)) x0)) :: .top :: .top :: .top :: .top :: .top :: .top :: (.d (.sl (.pair .str .str) s7)) :: tp16 ((.d (.sl (.pair (.sl (.pair .str (.pair .str (.int .i64)))) (.pair (.sl (.pair .str (.pair .str (.int .i64)))) (.sl .str))) x2)) :: (.d (.int .i64 s25)) :: (.d (.int .i64 s26)) :: (.d (.bool (decide (s26 < s25)))) :: tp32 [])), [])
noncomputable def lbl35_0 : AC := loopBody 117440641 body35
@[reducible] noncomputable def cb10 (m : Nat) := (evC byref (evCall F S17 (m + 24)) (m + 24) 0 (hds 35) lbl35_0)


theorem l35_0_step (m n : Nat) (ih : ∀ (x0 : Q3) (x2 : Q0) (s7 : Q5) (s25 : Int) (s26 : Int) (q : Nat × Int), l35_0 m n x0 x2 s7 s25 s26 = some q → (turns (hds 35 117440641) 0 117440641 (cb10 m) n (l35_0H x0 x2 s7 s25 s26) (l35_0B x0 x2 s7 s25 s26)).run = some (l35_0E m (x0) (x2) (s7) (s25) (q.2) q.1)) (x0 : Q3) (x2 : Q0) (s7 : Q5) (s25 : Int) (s26 : Int) (q : Nat × Int) (h : l35_0 m (n + 1) x0 x2 s7 s25 s26 = some q) : (turns (hds 35 117440641) 0 117440641 (cb10 m) (n + 1) (l35_0H x0 x2 s7 s25 s26) (l35_0B x0 x2 s7 s25 s26)).run = some (l35_0E m (x0) (x2) (s7) (s25) (q.2) q.1) := by
  rw [l35_0] at h
  refine ite_cases h (fun c0 h => ?_) (fun c0 h => ?_)
  · skip
    obtain ⟨c1, h⟩ := iY h
    obtain ⟨c2, h⟩ := iY h
    obtain ⟨c3, h⟩ := iY h
    refine ite_cases h (fun c4 h => ?_) (fun c4 h => ?_)
    · skip
      obtain ⟨c5, h⟩ := iY h
      refine ite_cases h (fun c6 h => ?_) (fun c6 h => ?_)
      · skip
        cases h
        refine turns_last (by simp) ?_
        refine turnT_ok (LS := (fun k => if k = 240635609729 then some (l35_1E x0 x2 s7 s25 s26 (((((List.length x0) : Nat) : Int))) ((l35_1R m (m + 24) x0 x2 s7 s25 s26 ((((List.length x0) : Nat) : Int)) 0 ((List.getD x2 (Int.toNat s26) (([] : Q4), (([] : Q4), ([] : Q7)))))).2) (((List.getD x2 (Int.toNat s26) (([] : Q4), (([] : Q4), ([] : Q7)))))) 0) else none)) (vis := [(240635609729, l35_1H x0 x2 s7 s25 s26 ((((List.length x0) : Nat) : Int)) 0 ((List.getD x2 (Int.toNat s26) (([] : Q4), (([] : Q4), ([] : Q7))))), l35_1B x0 x2 s7 s25 s26 ((((List.length x0) : Nat) : Int)) 0 ((List.getD x2 (Int.toNat s26) (([] : Q4), (([] : Q4), ([] : Q7))))))]) (by kernel_rfl) (M.run_of_path _ [tT, tT, tT, tT, fF] _ _ (by kernel_rfl) (all_t c0 (all_t c1 (all_t c2 (all_t c3 (all_nt c4 all_nil)))))) ?_
        intro p hp p2 hq
        rcases List.mem_cons.1 hp with rfl | hp
        · skip
          have h3 := l35_1_ok m (m + 24) x0 x2 s7 s25 s26 ((((List.length x0) : Nat) : Int)) 0 ((List.getD x2 (Int.toNat s26) (([] : Q4), (([] : Q4), ([] : Q7))))) _ (some_getD (d := l35_1D) c5)
          rw [eq_of_beq c6] at h3
          exact Eq.trans (Eq.mp (by kernel_rfl) h3) hq
        cases hp
      · skip
        obtain ⟨c7, h⟩ := iY h
        have ih := ih _ _ _ _ _ q h
        refine turns_step ?_ ih
        refine turnT_ok (LS := (fun k => if k = 240635609729 then some (l35_1E x0 x2 s7 s25 s26 (((((List.length x0) : Nat) : Int))) ((l35_1R m (m + 24) x0 x2 s7 s25 s26 ((((List.length x0) : Nat) : Int)) 0 ((List.getD x2 (Int.toNat s26) (([] : Q4), (([] : Q4), ([] : Q7)))))).2) (((List.getD x2 (Int.toNat s26) (([] : Q4), (([] : Q4), ([] : Q7)))))) 1) else none)) (vis := [(240635609729, l35_1H x0 x2 s7 s25 s26 ((((List.length x0) : Nat) : Int)) 0 ((List.getD x2 (Int.toNat s26) (([] : Q4), (([] : Q4), ([] : Q7))))), l35_1B x0 x2 s7 s25 s26 ((((List.length x0) : Nat) : Int)) 0 ((List.getD x2 (Int.toNat s26) (([] : Q4), (([] : Q4), ([] : Q7))))))]) (by kernel_rfl) (M.run_of_path _ [tT, tT, tT, tT, fF] _ _ (by kernel_rfl) (all_t c0 (all_t c1 (all_t c2 (all_t c3 (all_nt c4 all_nil)))))) ?_
        intro p hp p2 hq
        rcases List.mem_cons.1 hp with rfl | hp
        · skip
          have h3 := l35_1_ok m (m + 24) x0 x2 s7 s25 s26 ((((List.length x0) : Nat) : Int)) 0 ((List.getD x2 (Int.toNat s26) (([] : Q4), (([] : Q4), ([] : Q7))))) _ (some_getD (d := l35_1D) c5)
          rw [eq_of_beq c7] at h3
          exact Eq.trans (Eq.mp (by kernel_rfl) h3) hq
        cases hp
    · skip
      have ih := ih _ _ _ _ _ q h
      refine turns_step ?_ ih
      exact M.run_of_path _ [tT, tT, tT, tT, tT] _ _ (by kernel_rfl) (all_t c0 (all_t c1 (all_t c2 (all_t c3 (all_nf c4 all_nil)))))
  · skip
    cases h
    refine turns_last (by simp) ?_
    exact M.run_of_path _ [fF] _ _ (by kernel_rfl) (all_f c0 all_nil)
theorem l35_0_ok (m : Nat) : ∀ (n : Nat) (x0 : Q3) (x2 : Q0) (s7 : Q5) (s25 : Int) (s26 : Int) (q : Nat × Int), l35_0 m n x0 x2 s7 s25 s26 = some q → (turns (hds 35 117440641) 0 117440641 (cb10 m) n (l35_0H x0 x2 s7 s25 s26) (l35_0B x0 x2 s7 s25 s26)).run = some (l35_0E m (x0) (x2) (s7) (s25) (q.2) q.1)
  | 0, x0, x2, s7, s25, s26, q, h => by cases h
  | n + 1, x0, x2, s7, s25, s26, q, h => l35_0_step m n (l35_0_ok m n) x0 x2 s7 s25 s26 q h

def p35 (m : Nat) (x0 : Q3) (x1 : Int) (x2 : Q0) : Option (Bool) :=
  if decide (x1 < 0) = true then
    some (false)
  else
    if decide (x1 ≥ (((List.length x0) : Nat) : Int)) = true then
      some (false)
    else
      if decide (0 ≤ x1) = true then
      if decide (x1 < (((List.length x0) : Nat) : Int)) = true then
      if (Option.isSome (l35_0 m (m + 24) x0 x2 ((List.getD x0 (Int.toNat x1) ([] : Q5))) ((((List.length x2) : Nat) : Int)) 0)) = true then
      if ((l35_0R m (m + 24) x0 x2 ((List.getD x0 (Int.toNat x1) ([] : Q5))) ((((List.length x2) : Nat) : Int)) 0).1 == 0) = true then
        some (true)
      else
        if ((l35_0R m (m + 24) x0 x2 ((List.getD x0 (Int.toNat x1) ([] : Q5))) ((((List.length x2) : Nat) : Int)) 0).1 == 1) = true then
        some (false)
        else none
      else none
      else none
      else none
theorem p35_ok (m : Nat) (x0 : Q3) (x1 : Int) (x2 : Q0) (q : Bool) (h : p35 m x0 x1 x2 = some q) : ∃ r B1, (evCall F S17 (m + 25) 35 [(.d (.sl (.sl (.pair .str .str)) x0)), (.d (.int .i64 x1)), (.d (.sl (.pair (.sl (.pair .str (.pair .str (.int .i64)))) (.pair (.sl (.pair .str (.pair .str (.int .i64)))) (.sl .str))) x2))] []).run = some (r, B1) ∧ 0 ≤ B1.length ∧ wkR B1 [] r (.d (.bool (q))) ∧ wkBs B1 [] 0 [] := by
  unfold p35 at h
  refine ite_cases h (fun c0 h => ?_) (fun c0 h => ?_)
  · skip
    cases h
    refine ⟨(.d (.bool false)), [], runT_ok (LS := (fun k => none)) (fn := fn35) (vis := []) (by kernel_rfl) rfl (by kernel_rfl) (M.run_of_path _ [tT, tT, tT, tT, tT, tT] _ _ (by kernel_rfl) (all_t c0 (all_t c0 (all_t c0 (all_t c0 (all_t c0 (all_t rfl all_nil))))))) ?_, by simp, (wkR.one (wkV.one (wk1.eq rfl))), trivial⟩
    intro p hp; cases hp
  · skip
    refine ite_cases h (fun c5 h => ?_) (fun c5 h => ?_)
    · skip
      cases h
      refine ⟨(.d (.bool false)), [], runT_ok (LS := (fun k => none)) (fn := fn35) (vis := []) (by kernel_rfl) rfl (by kernel_rfl) (M.run_of_path _ [fF, fF, fF, fF, fF, tT] _ _ (by kernel_rfl) (all_f c0 (all_f c0 (all_f c0 (all_f c0 (all_f c0 (all_t c5 all_nil))))))) ?_, by simp, (wkR.one (wkV.one (wk1.eq rfl))), trivial⟩
      intro p hp; cases hp
    · skip
      obtain ⟨c6, h⟩ := iY h
      obtain ⟨c7, h⟩ := iY h
      obtain ⟨c8, h⟩ := iY h
      refine ite_cases h (fun c9 h => ?_) (fun c9 h => ?_)
      · skip
        cases h
        refine ⟨(.d (.bool true)), [], runT_ok (LS := (fun k => if k = 117440641 then some (l35_0E m x0 x2 (((List.getD x0 (Int.toNat x1) ([] : Q5)))) (((((List.length x2) : Nat) : Int))) ((l35_0R m (m + 24) x0 x2 ((List.getD x0 (Int.toNat x1) ([] : Q5))) ((((List.length x2) : Nat) : Int)) 0).2) 0) else none)) (fn := fn35) (vis := [(117440641, l35_0H x0 x2 ((List.getD x0 (Int.toNat x1) ([] : Q5))) ((((List.length x2) : Nat) : Int)) 0, l35_0B x0 x2 ((List.getD x0 (Int.toNat x1) ([] : Q5))) ((((List.length x2) : Nat) : Int)) 0)]) (by kernel_rfl) rfl (by kernel_rfl) (M.run_of_path _ [fF, fF, fF, fF, fF, fF, tT, tT] _ _ (by kernel_rfl) (all_f c0 (all_f c0 (all_f c0 (all_f c0 (all_f c0 (all_f c5 (all_t c6 (all_t c7 all_nil))))))))) ?_, by simp, (wkR.one (wkV.one (wk1.eq rfl))), trivial⟩
        intro p hp p2 hq
        rcases List.mem_cons.1 hp with rfl | hp
        · skip
          have h3 := l35_0_ok m (m + 24) x0 x2 ((List.getD x0 (Int.toNat x1) ([] : Q5))) ((((List.length x2) : Nat) : Int)) 0 _ (some_getD (d := l35_0D) c8)
          rw [eq_of_beq c9] at h3
          exact Eq.trans (Eq.mp (by kernel_rfl) h3) hq
        cases hp
      · skip
        obtain ⟨c10, h⟩ := iY h
        cases h
        refine ⟨(.d (.bool false)), [], runT_ok (LS := (fun k => if k = 117440641 then some (l35_0E m x0 x2 (((List.getD x0 (Int.toNat x1) ([] : Q5)))) (((((List.length x2) : Nat) : Int))) ((l35_0R m (m + 24) x0 x2 ((List.getD x0 (Int.toNat x1) ([] : Q5))) ((((List.length x2) : Nat) : Int)) 0).2) 1) else none)) (fn := fn35) (vis := [(117440641, l35_0H x0 x2 ((List.getD x0 (Int.toNat x1) ([] : Q5))) ((((List.length x2) : Nat) : Int)) 0, l35_0B x0 x2 ((List.getD x0 (Int.toNat x1) ([] : Q5))) ((((List.length x2) : Nat) : Int)) 0)]) (by kernel_rfl) rfl (by kernel_rfl) (M.run_of_path _ [fF, fF, fF, fF, fF, fF, tT, tT] _ _ (by kernel_rfl) (all_f c0 (all_f c0 (all_f c0 (all_f c0 (all_f c0 (all_f c5 (all_t c6 (all_t c7 all_nil))))))))) ?_, by simp, (wkR.one (wkV.one (wk1.eq rfl))), trivial⟩
        intro p hp p2 hq
        rcases List.mem_cons.1 hp with rfl | hp
        · skip
          have h3 := l35_0_ok m (m + 24) x0 x2 ((List.getD x0 (Int.toNat x1) ([] : Q5))) ((((List.length x2) : Nat) : Int)) 0 _ (some_getD (d := l35_0D) c8)
          rw [eq_of_beq c10] at h3
          exact Eq.trans (Eq.mp (by kernel_rfl) h3) hq
        cases hp

def hitG (own : LB) (h : (List MT) × (List MT) × (Q7)) (o : LB) : Bool := !(o == own) && (allG o h.1 && equG o own h.2.2)
def inhBy (all : List LB) (own : LB) (h : (List MT) × (List MT) × (Q7)) : Bool := allG own h.2.1 && all.any (hitG own h)
def inhG (all : List LB) (i : Int) (hs : HS) : Bool := if i < 0 then false else if i ≥ ((all.length : Nat) : Int) then false else hs.any (inhBy all (all.getD i.toNat []))
def inhPre (all : List LB) (hs : HS) : Bool := decide (all.length ≤ 1000000 ∧ (∀ x ∈ all, x.length ≤ 1000000) ∧ hs.length ≤ 1000000 ∧ ∀ h ∈ hs, h.1.length ≤ 9223372036854775807 ∧ h.2.1.length ≤ 9223372036854775807 ∧ h.2.2.length ≤ 9223372036854775807)
theorem inh1_loop (m : Nat) (all : List LB) (hs : HS) (own : LB) (s25 s26 : Int) (h : (List MT) × (List MT) × (Q7)) (h1 : all.length ≤ 1000000) (h2 : ∀ x ∈ all, x.length ≤ 1000000) (h3 : own.length ≤ 1000000) (h4 : h.1.length ≤ 9223372036854775807 ∧ h.2.1.length ≤ 9223372036854775807 ∧ h.2.2.length ≤ 9223372036854775807) : ∀ (n k : Nat), k ≤ all.length → all.length - k < n → ∃ e j, l35_1 m n all hs own s25 s26 (all.length : Nat) (k : Nat) h = some (e, j) ∧ ((e = 0 ∧ (all.drop k).any (hitG own h) = true) ∨ (e = 1 ∧ (all.drop k).any (hitG own h) = false))
  | 0, k, _, h => by omega
  | n + 1, k, g1, g2 => by
    rw [l35_1]
    by_cases hk : k < all.length
    · have e1 : decide (((k : Nat) : Int) < (((List.length all) : Nat) : Int)) = true := decide_eq_true (by omega)
      have e2 : decide ((0 : Int) ≤ ((k : Nat) : Int)) = true := decide_eq_true (by omega)
      have e7 : IntKind.wrap .i64 (((k : Nat) : Int) + (1)) = ((k + 1 : Nat) : Int) := by rw [wrap_id (by omega) (by omega)]; rfl
      have hq := h2 _ (getD_mem all k ([] : LB) hk)
      have go := inh1_loop m all hs own s25 s26 h h1 h2 h3 h4 n (k + 1) (by omega) (by omega)
      rw [drop_getD all k ([] : LB) hk]
      simp only [show Int.toNat ((k : Nat) : Int) = k from rfl, e1, e2, e7, ↓reduceIte]
      generalize all.getD k ([] : LB) = o at *
      have e3 : decide (List.length o < 4611686018427387904) = true := decide_eq_true (by omega)
      have e4 : decide (List.length o ≤ 1000000 ∧ List.length h.1 ≤ 9223372036854775807) = true := decide_eq_true ⟨hq, h4.1⟩
      have e5 : equPre o own h.2.2 = true := decide_eq_true ⟨hq, h3, h4.2.2⟩
      have hc : (o :: all.drop (k + 1)).any (hitG own h) = ((!(o == own) && (allG o h.1 && equG o own h.2.2)) || (all.drop (k + 1)).any (hitG own h)) := rfl
      rw [hc]
      simp only [e3, e4, e5, ↓reduceIte]
      cases c1 : (o == own) with
      | true => simp only [Bool.not_true, Bool.false_and, Bool.false_or, ↓reduceIte]; exact go
      | false =>
        cases c2 : allG o h.1 with
        | false => simp only [Bool.false_and, Bool.and_false, Bool.false_or, ↓reduceIte, Bool.false_eq_true]; exact go
        | true =>
          cases c3 : equG o own h.2.2 with
          | false => simp only [Bool.and_false, Bool.false_or, ↓reduceIte, Bool.false_eq_true]; exact go
          | true =>
            simp only [Bool.not_false, Bool.and_self, Bool.true_or, ↓reduceIte, Bool.false_eq_true]
            exact ⟨0, _, rfl, .inl ⟨rfl, by first | rfl | trivial⟩⟩
    · have e1 : decide (((k : Nat) : Int) < (((List.length all) : Nat) : Int)) = false := decide_eq_false (by omega)
      rw [e1, if_neg (by simp), List.drop_eq_nil_of_le (by omega)]
      exact ⟨1, _, rfl, .inr ⟨rfl, by first | rfl | trivial⟩⟩
theorem inh0_loop (m : Nat) (all : List LB) (hs : HS) (own : LB) (hm : all.length ≤ m) (h1 : all.length ≤ 1000000) (h2 : ∀ x ∈ all, x.length ≤ 1000000) (h3 : own.length ≤ 1000000) (h5 : hs.length ≤ 1000000) (h4 : ∀ h ∈ hs, h.1.length ≤ 9223372036854775807 ∧ h.2.1.length ≤ 9223372036854775807 ∧ h.2.2.length ≤ 9223372036854775807) : ∀ (n k : Nat), k ≤ hs.length → hs.length - k < n → ∃ e j, l35_0 m n all hs own (hs.length : Nat) (k : Nat) = some (e, j) ∧ ((e = 0 ∧ (hs.drop k).any (inhBy all own) = true) ∨ (e = 1 ∧ (hs.drop k).any (inhBy all own) = false))
  | 0, k, _, h => by omega
  | n + 1, k, g1, g2 => by
    rw [l35_0]
    by_cases hk : k < hs.length
    · have e1 : decide (((k : Nat) : Int) < (((List.length hs) : Nat) : Int)) = true := decide_eq_true (by omega)
      have e2 : decide ((0 : Int) ≤ ((k : Nat) : Int)) = true := decide_eq_true (by omega)
      have e7 : IntKind.wrap .i64 (((k : Nat) : Int) + (1)) = ((k + 1 : Nat) : Int) := by rw [wrap_id (by omega) (by omega)]; rfl
      have hq := h4 _ (getD_mem hs k (([] : List MT), (([] : List MT), ([] : Q7))) hk)
      have go := inh0_loop m all hs own hm h1 h2 h3 h5 h4 n (k + 1) (by omega) (by omega)
      rw [drop_getD hs k (([] : List MT), (([] : List MT), ([] : Q7))) hk]
      simp only [show Int.toNat ((k : Nat) : Int) = k from rfl, e1, e2, e7, ↓reduceIte]
      generalize hs.getD k (([] : List MT), (([] : List MT), ([] : Q7))) = q at *
      have e3 : decide (List.length own ≤ 1000000 ∧ List.length q.2.1 ≤ 9223372036854775807) = true := decide_eq_true ⟨h3, hq.2.1⟩
      have hc : (q :: hs.drop (k + 1)).any (inhBy all own) = ((allG own q.2.1 && all.any (hitG own q)) || (hs.drop (k + 1)).any (inhBy all own)) := rfl
      rw [hc]
      simp only [e3, ↓reduceIte]
      cases c1 : allG own q.2.1 with
      | false => simp only [Bool.false_and, Bool.false_or, ↓reduceIte, Bool.false_eq_true]; exact go
      | true =>
        obtain ⟨e, j, hr, hd⟩ := inh1_loop m all hs own (hs.length : Nat) (k : Nat) q h1 h2 h3 hq (m + 24) 0 (by omega) (by omega)
        rw [Int.natCast_zero, List.drop_zero] at *
        simp only [l35_1R, hr, Option.isSome_some, Option.getD_some, Bool.true_and, ↓reduceIte]
        rcases hd with ⟨rfl, hd⟩ | ⟨rfl, hd⟩
        · have z0 : ((0 : Nat) == 0) = true := rfl
          rw [hd]
          simp only [z0, Bool.true_or, ↓reduceIte]
          exact ⟨0, _, rfl, .inl ⟨rfl, by first | rfl | trivial⟩⟩
        · have z0 : ((1 : Nat) == 0) = false := rfl
          have z1 : ((1 : Nat) == 1) = true := rfl
          rw [hd]
          simp only [z0, z1, Bool.false_or, ↓reduceIte, Bool.false_eq_true]
          exact go
    · have e1 : decide (((k : Nat) : Int) < (((List.length hs) : Nat) : Int)) = false := decide_eq_false (by omega)
      rw [e1, if_neg (by simp), List.drop_eq_nil_of_le (by omega)]
      exact ⟨1, _, rfl, .inr ⟨rfl, by first | rfl | trivial⟩⟩
theorem inh11 (all : List LB) (i : Int) (hs : HS) (h : inhPre all hs = true) : ∃ m, p35 m all i hs = some (inhG all i hs) := by
  have ⟨h1, h2, h3, h4⟩ := of_decide_eq_true h
  refine ⟨all.length + hs.length, ?_⟩
  unfold p35 inhG
  by_cases c1 : i < 0
  · rw [if_pos (decide_eq_true c1), if_pos c1]
  · rw [if_neg (by simpa using c1), if_neg c1]
    by_cases c2 : i ≥ ((all.length : Nat) : Int)
    · rw [if_pos (decide_eq_true c2), if_pos c2]
    · have e1 : decide (0 ≤ i) = true := decide_eq_true (by omega)
      have e2 : decide (i < (((List.length all) : Nat) : Int)) = true := decide_eq_true (by omega)
      rw [if_neg (by simpa using c2), if_neg c2, if_pos e1, if_pos e2]
      have hown := h2 _ (getD_mem all i.toNat ([] : LB) (by omega))
      obtain ⟨e, j, hr, hc⟩ := inh0_loop (all.length + hs.length) all hs (all.getD i.toNat ([] : LB)) (by omega) h1 h2 hown h3 h4 (all.length + hs.length + 24) 0 (by omega) (by omega)
      simp only [Int.natCast_zero, List.drop_zero] at hr hc
      simp only [l35_0R, hr, Option.isSome_some, Option.getD_some, ↓reduceIte]
      rcases hc with ⟨rfl, hc⟩ | ⟨rfl, hc⟩ <;> rw [hc] <;> rfl
def s35 : List AV → Boxes → M (AV × Boxes) := normS [.val (.sl (.sl (.pair .str .str))), .val (.int .i64), .val (.sl (.pair (.sl (.pair .str (.pair .str (.int .i64)))) (.pair (.sl (.pair .str (.pair .str (.int .i64)))) (.sl .str))))] [] fun xs B => match xs, B with
  | [(.d (.sl (.sl (.pair .str .str)) c1)), (.d (.int .i64 c2)), (.d (.sl (.pair (.sl (.pair .str (.pair .str (.int .i64)))) (.pair (.sl (.pair .str (.pair .str (.int .i64)))) (.sl .str))) c3))], [] => .chk (inhPre c1 c3) (.ret ((.d (.bool (inhG c1 c2 c3))), []))
  | _, _ => .fail
theorem s35_at : CallAt Tryd.prog 35 s35 := by
  refine CallAt.norm (CallAt.weakE (g := fun n => evCall F S17 n 35) (fun n => evCall_atH mixed kinds hds S17 S17_ok n 35) fun xs B r' B' hr => ?_) _ _
  split at hr
  · rename_i c1 c2 c3
    obtain ⟨hp, hr⟩ := (M.run_chk _ _ _).1 hr
    simp only [M.run, Option.some.injEq, Prod.mk.injEq] at hr
    obtain ⟨rfl, rfl⟩ := hr
    obtain ⟨m, hm⟩ := inh11 c1 c2 c3 hp
    obtain ⟨r, B1, h1, h2, h3, h4⟩ := p35_ok m c1 c2 c3 _ hm
    exact ⟨m + 25, r, B1, h1, by simp, h2, h3, h4⟩
  · simp [M.run] at hr
noncomputable def S18 : FuncId → Option (List AV → Boxes → M (AV × Boxes)) := fun f => if f = 35 then some s35 else S17 f
theorem S18_ok : ∀ f s, S18 f = some s → CallAt Tryd.prog f s := by
  intro f s h
  unfold S18 at h
  split at h
  · rename_i e; subst e; cases h; exact s35_at
  · exact S17_ok f s h

end Go.Proofs.YtahdcmicifokgaaDoor.Dec
namespace Go.Proofs.YtahdcmicifokgaaDoor.Dec
open Go.Ev
set_option linter.unusedVariables false
set_option linter.unusedSimpArgs false
set_option maxRecDepth 100000
set_option maxHeartbeats 20000000
noncomputable def fn11 : AFn := (F 11).getD ⟨0, [], .bad, false, false, noHd⟩
noncomputable def body11 : AC := fn11.body
def l11_0 (m : Nat) : Nat → Q3 → Int → Q2 → Q0 → Int → Int → Q3 → Option (Nat × Int × (Q3))
  | 0, _, _, _, _, _, _, _ => none
  | n + 1, x0, x1, x2, x3, s13, s14, b0 => if decide (s14 < s13) = true then
      if decide (0 ≤ s14) = true then
      if decide (s14 < (((List.length x0) : Nat) : Int)) = true then
      if silPre (List.getD x0 (Int.toNat s14) ([] : Q5)) x2 = true then
      if (silG (List.getD x0 (Int.toNat s14) ([] : Q5)) x1 x2) = true then
        l11_0 m n x0 x1 x2 x3 s13 ((IntKind.wrap .i64 (s14 + (1)))) b0
      else
        if inhPre x0 x3 = true then
        if (inhG x0 s14 x3) = true then
          l11_0 m n x0 x1 x2 x3 s13 ((IntKind.wrap .i64 (s14 + (1)))) b0
        else
          if decide ((List.length (List.getD x0 (Int.toNat s14) ([] : Q5)) * 32) ≤ 70368744177664) = true then
          if decide ((((List.length b0) + 1) * 24) ≤ 70368744177664) = true then
          l11_0 m n x0 x1 x2 x3 s13 ((IntKind.wrap .i64 (s14 + (1)))) ((b0 ++ [(List.getD x0 (Int.toNat s14) ([] : Q5))]))
          else none
          else none
        else none
      else none
      else none
      else none
    else
      some (0, s14, b0)
def l11_0D : Nat × Int × (Q3) := (0, 0, [])
@[reducible] def l11_0R (m n : Nat) (x0 : Q3) (x1 : Int) (x2 : Q2) (x3 : Q0) (s13 : Int) (s14 : Int) (b0 : Q3) : Nat × Int × (Q3) := Option.getD (l11_0 m n x0 x1 x2 x3 s13 s14 b0) l11_0D
def l11_0H (x0 : Q3) (x1 : Int) (x2 : Q2) (x3 : Q0) (s13 : Int) (s14 : Int) (b0 : Q3) : Env := ((.d (.sl (.sl (.pair .str .str)) x0)) :: (.d (.int .i64 x1)) :: (.d (.sl (.pair (.sl (.pair .str (.pair .str (.int .i64)))) (.pair (.int .i64) (.int .i64))) x2)) :: (.d (.sl (.pair (.sl (.pair .str (.pair .str (.int .i64)))) (.pair (.sl (.pair .str (.pair .str (.int .i64)))) (.sl .str))) x3)) :: .top :: .top :: .top :: .top :: .top :: (.sr 0 0 (List.length b0) 1 none) :: .top :: .top :: (.d (.sl (.sl (.pair .str .str)) x0)) :: (.d (.int .i64 s13)) :: (.d (.int .i64 s14)) :: tp23 [])
def l11_0B (x0 : Q3) (x1 : Int) (x2 : Q2) (x3 : Q0) (s13 : Int) (s14 : Int) (b0 : Q3) : Boxes := [(.arr (.sl (.pair .str .str)) b0 true)]
def l11_0E (x0 : Q3) (x1 : Int) (x2 : Q2) (x3 : Q0) (s13 : Int) (s14 : Int) (b0 : Q3) : Nat → AEx × Env × Boxes
  | _ => (.exit 0, ((.d (.sl (.sl (.pair .str .str)) x0)) :: (.d (.int .i64 x1)) :: (.d (.sl (.pair (.sl (.pair .str (.pair .str (.int .i64)))) (.pair (.int .i64) (.int .i64))) x2)) :: (.d (.sl (.pair (.sl (.pair .str (.pair .str (.int .i64)))) (.pair (.sl (.pair .str (.pair .str (.int .i64)))) (.sl .str))) x3)) :: .top :: .top :: .top :: .top :: .top :: (.sr 0 0 (List.length b0) 1 none) :: .top :: .top :: (.d (.sl (.sl (.pair .str .str)) x0)) :: (.d (.int .i64 s13)) :: (.d (.int .i64 s14)) :: (.d (.bool (decide (s14 < s13)))) :: tp22 []), [(.arr (.sl (.pair .str .str)) b0 true)])
noncomputable def lbl11_0 : AC := loopBody 29199 body11
@[reducible] noncomputable def cb11 (m : Nat) := (evC byref (evCall F S18 (m + 24)) (m + 24) 0 (hds 11) lbl11_0)


theorem l11_0_step (m n : Nat) (ih : ∀ (x0 : Q3) (x1 : Int) (x2 : Q2) (x3 : Q0) (s13 : Int) (s14 : Int) (b0 : Q3) (q : Nat × Int × (Q3)), l11_0 m n x0 x1 x2 x3 s13 s14 b0 = some q → (turns (hds 11 29199) 0 29199 (cb11 m) n (l11_0H x0 x1 x2 x3 s13 s14 b0) (l11_0B x0 x1 x2 x3 s13 s14 b0)).run = some (l11_0E (x0) (x1) (x2) (x3) (s13) (q.2.1) (q.2.2) q.1)) (x0 : Q3) (x1 : Int) (x2 : Q2) (x3 : Q0) (s13 : Int) (s14 : Int) (b0 : Q3) (q : Nat × Int × (Q3)) (h : l11_0 m (n + 1) x0 x1 x2 x3 s13 s14 b0 = some q) : (turns (hds 11 29199) 0 29199 (cb11 m) (n + 1) (l11_0H x0 x1 x2 x3 s13 s14 b0) (l11_0B x0 x1 x2 x3 s13 s14 b0)).run = some (l11_0E (x0) (x1) (x2) (x3) (s13) (q.2.1) (q.2.2) q.1) := by
  rw [l11_0] at h
  refine ite_cases h (fun c0 h => ?_) (fun c0 h => ?_)
  · skip
    obtain ⟨c1, h⟩ := iY h
    obtain ⟨c2, h⟩ := iY h
    obtain ⟨c3, h⟩ := iY h
    refine ite_cases h (fun c4 h => ?_) (fun c4 h => ?_)
    · skip
      have ih := ih _ _ _ _ _ _ _ q h
      refine turns_step ?_ ih
      exact M.run_of_path _ [tT, tT, tT, tT, fF, fF, fF, fF, fF, fF, fF] _ _ (by kernel_rfl) (all_t c0 (all_t c1 (all_t c2 (all_t c3 (all_nt c4 (all_nt c4 (all_nt c4 (all_nt c4 (all_nt c4 (all_nt c4 (all_f Bool.false_ne_true all_nil)))))))))))
    · skip
      obtain ⟨c8, h⟩ := iY h
      refine ite_cases h (fun c11 h => ?_) (fun c11 h => ?_)
      · skip
        have ih := ih _ _ _ _ _ _ _ q h
        refine turns_step ?_ ih
        exact M.run_of_path _ [tT, tT, tT, tT, tT, tT, tT, tT, tT, tT, tT, fF] _ _ (by kernel_rfl) (all_t c0 (all_t c1 (all_t c2 (all_t c3 (all_nf c4 (all_nf c4 (all_nf c4 (all_nf c4 (all_t c8 (all_nf c4 (all_nf c4 (all_nt c11 all_nil))))))))))))
      · skip
        obtain ⟨c12, h⟩ := iY h
        obtain ⟨c14, h⟩ := iY h
        have ih := ih _ _ _ _ _ _ _ q h
        have ht : (turn (hds 11 29199) 0 29199 (cb11 m) (l11_0H x0 x1 x2 x3 s13 s14 b0) (l11_0B x0 x1 x2 x3 s13 s14 b0)).run = some (.normal, ((.d (.sl (.sl (.pair .str .str)) x0)) :: (.d (.int .i64 x1)) :: (.d (.sl (.pair (.sl (.pair .str (.pair .str (.int .i64)))) (.pair (.int .i64) (.int .i64))) x2)) :: (.d (.sl (.pair (.sl (.pair .str (.pair .str (.int .i64)))) (.pair (.sl (.pair .str (.pair .str (.int .i64)))) (.sl .str))) x3)) :: .top :: .top :: .top :: .top :: .top :: (.sr 0 0 ((List.length b0) + 1) 1 none) :: .top :: .top :: (.d (.sl (.sl (.pair .str .str)) x0)) :: (.d (.int .i64 s13)) :: (.d (.int .i64 (IntKind.wrap .i64 (s14 + (1))))) :: tp23 []), [(.arr (.sl (.pair .str .str)) (b0 ++ [(List.getD x0 (Int.toNat s14) ([] : Q5))]) true)]) := M.run_of_path _ [tT, tT, tT, tT, tT, tT, tT, tT, tT, tT, tT, tT, tT, tT, tT, tT] _ _ (by kernel_rfl) (all_t c0 (all_t c1 (all_t c2 (all_t c3 (all_nf c4 (all_nf c4 (all_nf c4 (all_nf c4 (all_t c8 (all_nf c4 (all_nf c4 (all_nf c11 (all_t c12 (all_t rfl (all_t c14 (all_t (show decide ((List.length b0) = (List.length b0)) = true from decide_eq_true rfl) all_nil))))))))))))))))
        refine turns_step ht (turns_eq ?_ ?_ ih)
        · unfold l11_0H
          first | (simp; done) | (simp [Nat.add_assoc]; done) | (simp; omega)
        · unfold l11_0B
          simp
  · skip
    cases h
    refine turns_last (by simp) ?_
    exact M.run_of_path _ [fF] _ _ (by kernel_rfl) (all_f c0 all_nil)
theorem l11_0_ok (m : Nat) : ∀ (n : Nat) (x0 : Q3) (x1 : Int) (x2 : Q2) (x3 : Q0) (s13 : Int) (s14 : Int) (b0 : Q3) (q : Nat × Int × (Q3)), l11_0 m n x0 x1 x2 x3 s13 s14 b0 = some q → (turns (hds 11 29199) 0 29199 (cb11 m) n (l11_0H x0 x1 x2 x3 s13 s14 b0) (l11_0B x0 x1 x2 x3 s13 s14 b0)).run = some (l11_0E (x0) (x1) (x2) (x3) (s13) (q.2.1) (q.2.2) q.1)
  | 0, x0, x1, x2, x3, s13, s14, b0, q, h => by cases h
  | n + 1, x0, x1, x2, x3, s13, s14, b0, q, h => l11_0_step m n (l11_0_ok m n) x0 x1 x2 x3 s13 s14 b0 q h

def p11 (m : Nat) (x0 : Q3) (x1 : Int) (x2 : Q2) (x3 : Q0) : Option ((Q3)) :=
  if (Option.isSome (l11_0 m (m + 24) x0 x1 x2 x3 ((((List.length x0) : Nat) : Int)) 0 (([] : Q3)))) = true then
  some ((List.take (List.length (l11_0R m (m + 24) x0 x1 x2 x3 ((((List.length x0) : Nat) : Int)) 0 (([] : Q3))).2.2) (List.drop 0 (l11_0R m (m + 24) x0 x1 x2 x3 ((((List.length x0) : Nat) : Int)) 0 (([] : Q3))).2.2)))
  else none
theorem p11_ok (m : Nat) (x0 : Q3) (x1 : Int) (x2 : Q2) (x3 : Q0) (q : (Q3)) (h : p11 m x0 x1 x2 x3 = some q) : ∃ r B1, (evCall F S18 (m + 25) 11 [(.d (.sl (.sl (.pair .str .str)) x0)), (.d (.int .i64 x1)), (.d (.sl (.pair (.sl (.pair .str (.pair .str (.int .i64)))) (.pair (.int .i64) (.int .i64))) x2)), (.d (.sl (.pair (.sl (.pair .str (.pair .str (.int .i64)))) (.pair (.sl (.pair .str (.pair .str (.int .i64)))) (.sl .str))) x3))] []).run = some (r, B1) ∧ 0 ≤ B1.length ∧ wkR B1 [] r (.d (.sl (.sl (.pair .str .str)) q)) ∧ wkBs B1 [] 0 [] := by
  unfold p11 at h
  obtain ⟨c0, h⟩ := iY h
  cases h
  refine ⟨(.d (.sl (.sl (.pair .str .str)) (List.take (List.length (l11_0R m (m + 24) x0 x1 x2 x3 ((((List.length x0) : Nat) : Int)) 0 (([] : Q3))).2.2) (List.drop 0 (l11_0R m (m + 24) x0 x1 x2 x3 ((((List.length x0) : Nat) : Int)) 0 (([] : Q3))).2.2)))), [], runT_ok (LS := (fun k => if k = 29199 then some (l11_0E x0 x1 x2 x3 (((((List.length x0) : Nat) : Int))) ((l11_0R m (m + 24) x0 x1 x2 x3 ((((List.length x0) : Nat) : Int)) 0 (([] : Q3))).2.1) ((l11_0R m (m + 24) x0 x1 x2 x3 ((((List.length x0) : Nat) : Int)) 0 (([] : Q3))).2.2) 0) else none)) (fn := fn11) (vis := [(29199, l11_0H x0 x1 x2 x3 ((((List.length x0) : Nat) : Int)) 0 (([] : Q3)), l11_0B x0 x1 x2 x3 ((((List.length x0) : Nat) : Int)) 0 (([] : Q3)))]) (by kernel_rfl) rfl (by kernel_rfl) (M.run_of_path _ [tT] _ _ (by kernel_rfl) (all_t (show decide ((0 + (List.length (l11_0R m (m + 24) x0 x1 x2 x3 ((((List.length x0) : Nat) : Int)) 0 (([] : Q3))).2.2)) ≤ (List.length (l11_0R m (m + 24) x0 x1 x2 x3 ((((List.length x0) : Nat) : Int)) 0 (([] : Q3))).2.2)) = true from decide_eq_true (Nat.le_of_eq (Nat.zero_add _))) all_nil)) ?_, by simp, (wkR.one (wkV.one (wk1.eq rfl))), trivial⟩
  intro p hp p2 hq
  rcases List.mem_cons.1 hp with rfl | hp
  · skip
    have h3 := l11_0_ok m (m + 24) x0 x1 x2 x3 ((((List.length x0) : Nat) : Int)) 0 (([] : Q3)) _ (some_getD (d := l11_0D) c0)
    exact Eq.trans (Eq.mp (by kernel_rfl) h3) hq
  cases hp

def quietG (all : List LB) (t : Int) (ss : SS) (hs : HS) (x : LB) : Bool := !silG x t ss && !hs.any (inhBy all x)
def heardG (all : List LB) (t : Int) (ss : SS) (hs : HS) : List LB := all.filter (quietG all t ss hs)
def heardPre (all : List LB) (ss : SS) (hs : HS) : Bool := decide (ss.length ≤ 1000000 ∧ ∀ s ∈ ss, s.1.length ≤ 9223372036854775807) && inhPre all hs
theorem heard_loop (m : Nat) (all : List LB) (t : Int) (ss : SS) (hs : HS) (h1 : ss.length ≤ 1000000) (h2 : ∀ s ∈ ss, s.1.length ≤ 9223372036854775807) (h3 : inhPre all hs = true) : ∀ (n k : Nat) (b : List LB), k ≤ all.length → all.length - k < n → b.length ≤ k → ∃ j, l11_0 m n all t ss hs (all.length : Nat) (k : Nat) b = some (0, j, b ++ (all.drop k).filter (quietG all t ss hs))
  | 0, k, b, _, h, _ => by omega
  | n + 1, k, b, g1, g2, g3 => by
    rw [l11_0]
    have ⟨a1, a2, _, _⟩ := of_decide_eq_true h3
    by_cases hk : k < all.length
    · have e1 : decide (((k : Nat) : Int) < (((List.length all) : Nat) : Int)) = true := decide_eq_true (by omega)
      have e2 : decide ((0 : Int) ≤ ((k : Nat) : Int)) = true := decide_eq_true (by omega)
      have e7 : IntKind.wrap .i64 (((k : Nat) : Int) + (1)) = ((k + 1 : Nat) : Int) := by rw [wrap_id (by omega) (by omega)]; rfl
      have hq := a2 _ (getD_mem all k ([] : LB) hk)
      have hi : inhG all ((k : Nat) : Int) hs = hs.any (inhBy all (all.getD k [])) := by
        unfold inhG
        rw [if_neg (by omega), if_neg (by omega)]; rfl
      have go := fun b' => heard_loop m all t ss hs h1 h2 h3 n (k + 1) b' (by omega) (by omega)
      rw [drop_getD all k ([] : LB) hk]
      simp only [show Int.toNat ((k : Nat) : Int) = k from rfl, e1, e2, e7, hi, h3, ↓reduceIte]
      generalize all.getD k ([] : LB) = o at *
      have e3 : silPre o ss = true := decide_eq_true ⟨hq, h1, h2⟩
      have e4 : decide ((List.length o * 32) ≤ 70368744177664) = true := decide_eq_true (by omega)
      have e5 : decide ((((List.length b) + 1) * 24) ≤ 70368744177664) = true := decide_eq_true (by omega)
      rw [List.filter_cons]
      have hqu : quietG all t ss hs o = (!silG o t ss && !hs.any (inhBy all o)) := rfl
      rw [hqu]
      simp only [e3, e4, e5, ↓reduceIte]
      cases c1 : silG o t ss with
      | true => simp only [Bool.not_true, Bool.false_and, ↓reduceIte, Bool.false_eq_true]; exact go b (by omega)
      | false =>
        cases c2 : hs.any (inhBy all o) with
        | true => simp only [Bool.not_true, Bool.and_false, ↓reduceIte, Bool.false_eq_true]; exact go b (by omega)
        | false =>
          simp only [Bool.not_false, Bool.and_self, ↓reduceIte, Bool.false_eq_true]
          obtain ⟨j, hj⟩ := go (b ++ [o]) (by simp; omega)
          exact ⟨j, by rw [hj]; simp⟩
    · have e1 : decide (((k : Nat) : Int) < (((List.length all) : Nat) : Int)) = false := decide_eq_false (by omega)
      rw [e1, if_neg (by simp), List.drop_eq_nil_of_le (by omega)]
      exact ⟨((k : Nat) : Int), by simp⟩
theorem heard13 (all : List LB) (t : Int) (ss : SS) (hs : HS) (h : heardPre all ss hs = true) : ∃ m, p11 m all t ss hs = some (heardG all t ss hs) := by
  unfold heardPre at h
  rw [Bool.and_eq_true] at h
  have ⟨h1, h2⟩ := of_decide_eq_true h.1
  refine ⟨all.length, ?_⟩
  obtain ⟨j, hr⟩ := heard_loop all.length all t ss hs h1 h2 h.2 (all.length + 24) 0 [] (by omega) (by omega) (by simp)
  simp only [Int.natCast_zero, List.drop_zero, List.nil_append] at hr
  unfold p11
  simp only [l11_0R, hr, Option.isSome_some, Option.getD_some, ↓reduceIte]
  rw [List.drop_zero, List.take_length]
  rfl
def s11 : List AV → Boxes → M (AV × Boxes) := normS [.val (.sl (.sl (.pair .str .str))), .val (.int .i64), .val (.sl (.pair (.sl (.pair .str (.pair .str (.int .i64)))) (.pair (.int .i64) (.int .i64)))), .val (.sl (.pair (.sl (.pair .str (.pair .str (.int .i64)))) (.pair (.sl (.pair .str (.pair .str (.int .i64)))) (.sl .str))))] [] fun xs B => match xs, B with
  | [(.d (.sl (.sl (.pair .str .str)) c1)), (.d (.int .i64 c2)), (.d (.sl (.pair (.sl (.pair .str (.pair .str (.int .i64)))) (.pair (.int .i64) (.int .i64))) c3)), (.d (.sl (.pair (.sl (.pair .str (.pair .str (.int .i64)))) (.pair (.sl (.pair .str (.pair .str (.int .i64)))) (.sl .str))) c4))], [] => .chk (heardPre c1 c3 c4) (.ret ((.d (.sl (.sl (.pair .str .str)) (heardG c1 c2 c3 c4))), []))
  | _, _ => .fail
theorem s11_at : CallAt Tryd.prog 11 s11 := by
  refine CallAt.norm (CallAt.weakE (g := fun n => evCall F S18 n 11) (fun n => evCall_atH mixed kinds hds S18 S18_ok n 11) fun xs B r' B' hr => ?_) _ _
  split at hr
  · rename_i c1 c2 c3 c4
    obtain ⟨hp, hr⟩ := (M.run_chk _ _ _).1 hr
    simp only [M.run, Option.some.injEq, Prod.mk.injEq] at hr
    obtain ⟨rfl, rfl⟩ := hr
    obtain ⟨m, hm⟩ := heard13 c1 c2 c3 c4 hp
    obtain ⟨r, B1, h1, h2, h3, h4⟩ := p11_ok m c1 c2 c3 c4 _ hm
    exact ⟨m + 25, r, B1, h1, by simp, h2, h3, h4⟩
  · simp [M.run] at hr
noncomputable def S19 : FuncId → Option (List AV → Boxes → M (AV × Boxes)) := fun f => if f = 11 then some s11 else S18 f
theorem S19_ok : ∀ f s, S19 f = some s → CallAt Tryd.prog f s := by
  intro f s h
  unfold S19 at h
  split at h
  · rename_i e; subst e; cases h; exact s11_at
  · exact S18_ok f s h

def trueG : List D → M AV
  | [] => .ret (.d (.bool true))
  | _ => .fail
theorem runs13 : Known Tryd.prog 13 [] (.d (.bool true)) := known Go.Proofs.YtahdcmicifokgaaDoor.Ev.mixed (kinds := Go.Proofs.YtahdcmicifokgaaDoor.Ev.kinds) (n := 300) Go.Proofs.YtahdcmicifokgaaDoor.Ev.S_ok (by kernel_rfl)
theorem true13 : CallAt Tryd.prog 13 (plainV trueG) := by
  refine plainV_at fun ds r hr => ?_
  unfold trueG at hr
  split at hr
  · simp only [M.run, Option.some.injEq] at hr
    subst hr
    exact runs13
  · simp [M.run] at hr

noncomputable def S20 : FuncId → Option (List AV → Boxes → M (AV × Boxes)) := fun f => if f = 13 then some (plainV trueG) else S19 f
theorem S20_ok : ∀ f s, S20 f = some s → CallAt Tryd.prog f s := by
  intro f s h
  unfold S20 at h
  split at h
  · rename_i e; subst e; cases h; exact true13
  · exact S19_ok f s h

end Go.Proofs.YtahdcmicifokgaaDoor.Dec
namespace Go.Proofs.YtahdcmicifokgaaDoor.Dec
open Go.Ev
set_option linter.unusedVariables false
set_option linter.unusedSimpArgs false
set_option maxRecDepth 100000
set_option maxHeartbeats 20000000
noncomputable def fn3 : AFn := (F 3).getD ⟨0, [], .bad, false, false, noHd⟩
noncomputable def body3 : AC := fn3.body
def l3_0 (m : Nat) : Nat → Q6 → Q0 → Int → Int → Int → Q3 → Q7 → Option (Nat × Int × (Q3) × (Q7))
  | 0, _, _, _, _, _, _, _ => none
  | n + 1, x0, x1, x2, x3, s11, b0, b1 => if decide (s11 < (((List.length x0) : Nat) : Int)) = true then
      if decide (s11 < 6) = true then
        if decide (0 ≤ s11) = true then
        if lrightPre (setG (List.getD x0 (Int.toNat s11) (([] : List Int), ([] : List Int)))) = true then
        if (hasKey .str b1 (lprintG (setG (List.getD x0 (Int.toNat s11) (([] : List Int), ([] : List Int)))))) = true then
          l3_0 m n x0 x1 x2 x3 ((IntKind.wrap .i64 (s11 + (1)))) b0 b1
        else
          if decide ((((List.length b0) + 1) * 24) ≤ 70368744177664) = true then
          l3_0 m n x0 x1 x2 x3 ((IntKind.wrap .i64 (s11 + (1)))) ((b0 ++ [(setG (List.getD x0 (Int.toNat s11) (([] : List Int), ([] : List Int))))])) ((addKey .str b1 (lprintG (setG (List.getD x0 (Int.toNat s11) (([] : List Int), ([] : List Int)))))))
          else none
        else none
        else none
      else
        some (0, s11, b0, b1)
    else
      some (1, s11, b0, b1)
def l3_0D : Nat × Int × (Q3) × (Q7) := (0, 0, [], [])
@[reducible] def l3_0R (m n : Nat) (x0 : Q6) (x1 : Q0) (x2 : Int) (x3 : Int) (s11 : Int) (b0 : Q3) (b1 : Q7) : Nat × Int × (Q3) × (Q7) := Option.getD (l3_0 m n x0 x1 x2 x3 s11 b0 b1) l3_0D
def l3_0H (x0 : Q6) (x1 : Q0) (x2 : Int) (x3 : Int) (s11 : Int) (b0 : Q3) (b1 : Q7) : Env := ((.d (.sl (.pair (.sl (.int .i64)) (.sl (.int .i64))) x0)) :: (.d (.sl (.pair (.sl (.pair .str (.pair .str (.int .i64)))) (.pair (.sl (.pair .str (.pair .str (.int .i64)))) (.sl .str))) x1)) :: (.d (.int .i64 x2)) :: (.d (.int .i64 x3)) :: .top :: .top :: .top :: .top :: .top :: (.sr 0 0 (List.length b0) 1 none) :: (.mp 1) :: (.d (.int .i64 s11)) :: tp136 [])
def l3_0B (x0 : Q6) (x1 : Q0) (x2 : Int) (x3 : Int) (s11 : Int) (b0 : Q3) (b1 : Q7) : Boxes := [(.arr (.sl (.pair .str .str)) b0 true), (.keys .str b1)]
def l3_0E (x0 : Q6) (x1 : Q0) (x2 : Int) (x3 : Int) (s11 : Int) (b0 : Q3) (b1 : Q7) : Nat → AEx × Env × Boxes
  | 0 => (.exit 0, ((.d (.sl (.pair (.sl (.int .i64)) (.sl (.int .i64))) x0)) :: (.d (.sl (.pair (.sl (.pair .str (.pair .str (.int .i64)))) (.pair (.sl (.pair .str (.pair .str (.int .i64)))) (.sl .str))) x1)) :: (.d (.int .i64 x2)) :: (.d (.int .i64 x3)) :: .top :: .top :: .top :: .top :: .top :: (.sr 0 0 (List.length b0) 1 none) :: (.mp 1) :: (.d (.int .i64 s11)) :: tp15 ((.d (.int .i64 s11)) :: (.d (.sl (.pair (.sl (.int .i64)) (.sl (.int .i64))) x0)) :: (.d (.int .i64 (((List.length x0) : Nat) : Int))) :: (.d (.bool (decide (s11 < (((List.length x0) : Nat) : Int))))) :: (.d (.bool (decide (s11 < (((List.length x0) : Nat) : Int))))) :: (.d (.int .i64 s11)) :: (.d (.bool (decide (s11 < 6)))) :: (.d (.bool (decide (s11 < 6)))) :: tp113 [])), [(.arr (.sl (.pair .str .str)) b0 true), (.keys .str b1)])
  | _ => (.exit 0, ((.d (.sl (.pair (.sl (.int .i64)) (.sl (.int .i64))) x0)) :: (.d (.sl (.pair (.sl (.pair .str (.pair .str (.int .i64)))) (.pair (.sl (.pair .str (.pair .str (.int .i64)))) (.sl .str))) x1)) :: (.d (.int .i64 x2)) :: (.d (.int .i64 x3)) :: .top :: .top :: .top :: .top :: .top :: (.sr 0 0 (List.length b0) 1 none) :: (.mp 1) :: (.d (.int .i64 s11)) :: tp15 ((.d (.int .i64 s11)) :: (.d (.sl (.pair (.sl (.int .i64)) (.sl (.int .i64))) x0)) :: (.d (.int .i64 (((List.length x0) : Nat) : Int))) :: (.d (.bool (decide (s11 < (((List.length x0) : Nat) : Int))))) :: (.d (.bool (decide (s11 < (((List.length x0) : Nat) : Int))))) :: (.tup []) :: (.tup []) :: (.d (.bool false)) :: tp113 [])), [(.arr (.sl (.pair .str .str)) b0 true), (.keys .str b1)])
noncomputable def lbl3_0 : AC := loopBody 3599 body3
@[reducible] noncomputable def cb12 (m : Nat) := (evC byref (evCall F S20 (m + 24)) (m + 24) 0 (hds 3) lbl3_0)


theorem l3_0_step (m n : Nat) (ih : ∀ (x0 : Q6) (x1 : Q0) (x2 : Int) (x3 : Int) (s11 : Int) (b0 : Q3) (b1 : Q7) (q : Nat × Int × (Q3) × (Q7)), l3_0 m n x0 x1 x2 x3 s11 b0 b1 = some q → (turns (hds 3 3599) 0 3599 (cb12 m) n (l3_0H x0 x1 x2 x3 s11 b0 b1) (l3_0B x0 x1 x2 x3 s11 b0 b1)).run = some (l3_0E (x0) (x1) (x2) (x3) (q.2.1) (q.2.2.1) (q.2.2.2) q.1)) (x0 : Q6) (x1 : Q0) (x2 : Int) (x3 : Int) (s11 : Int) (b0 : Q3) (b1 : Q7) (q : Nat × Int × (Q3) × (Q7)) (h : l3_0 m (n + 1) x0 x1 x2 x3 s11 b0 b1 = some q) : (turns (hds 3 3599) 0 3599 (cb12 m) (n + 1) (l3_0H x0 x1 x2 x3 s11 b0 b1) (l3_0B x0 x1 x2 x3 s11 b0 b1)).run = some (l3_0E (x0) (x1) (x2) (x3) (q.2.1) (q.2.2.1) (q.2.2.2) q.1) := by
  rw [l3_0] at h
  refine ite_cases h (fun c0 h => ?_) (fun c0 h => ?_)
  · skip
    refine ite_cases h (fun c3 h => ?_) (fun c3 h => ?_)
    · skip
      obtain ⟨c4, h⟩ := iY h
      obtain ⟨c7, h⟩ := iY h
      refine ite_cases h (fun c8 h => ?_) (fun c8 h => ?_)
      · skip
        have ih := ih _ _ _ _ _ _ _ q h
        refine turns_step ?_ ih
        exact M.run_of_path _ [tT, tT, tT, tT, tT, tT, tT, tT, fF] _ _ (by kernel_rfl) (all_t c0 (all_t c0 (all_t c0 (all_t c3 (all_t c4 (all_t c0 (all_t rfl (all_t c7 (all_nt c8 all_nil)))))))))
      · skip
        obtain ⟨c11, h⟩ := iY h
        have ih := ih _ _ _ _ _ _ _ q h
        have ht : (turn (hds 3 3599) 0 3599 (cb12 m) (l3_0H x0 x1 x2 x3 s11 b0 b1) (l3_0B x0 x1 x2 x3 s11 b0 b1)).run = some (.normal, ((.d (.sl (.pair (.sl (.int .i64)) (.sl (.int .i64))) x0)) :: (.d (.sl (.pair (.sl (.pair .str (.pair .str (.int .i64)))) (.pair (.sl (.pair .str (.pair .str (.int .i64)))) (.sl .str))) x1)) :: (.d (.int .i64 x2)) :: (.d (.int .i64 x3)) :: .top :: .top :: .top :: .top :: .top :: (.sr 0 0 ((List.length b0) + 1) 1 none) :: (.mp 1) :: (.d (.int .i64 (IntKind.wrap .i64 (s11 + (1))))) :: tp136 []), [(.arr (.sl (.pair .str .str)) (b0 ++ [(setG (List.getD x0 (Int.toNat s11) (([] : List Int), ([] : List Int))))]) true), (.keys .str (addKey .str b1 (lprintG (setG (List.getD x0 (Int.toNat s11) (([] : List Int), ([] : List Int)))))))]) := M.run_of_path _ [tT, tT, tT, tT, tT, tT, tT, tT, tT, tT, tT, tT, tT] _ _ (by kernel_rfl) (all_t c0 (all_t c0 (all_t c0 (all_t c3 (all_t c4 (all_t c0 (all_t rfl (all_t c7 (all_nf c8 (all_t c7 (all_t rfl (all_t c11 (all_t (show decide ((List.length b0) = (List.length b0)) = true from decide_eq_true rfl) all_nil)))))))))))))
        refine turns_step ht (turns_eq ?_ ?_ ih)
        · unfold l3_0H
          first | (simp; done) | (simp [Nat.add_assoc]; done) | (simp; omega)
        · unfold l3_0B
          simp
    · skip
      cases h
      refine turns_last (by simp) ?_
      exact M.run_of_path _ [tT, tT, tT, fF] _ _ (by kernel_rfl) (all_t c0 (all_t c0 (all_t c0 (all_f c3 all_nil))))
  · skip
    cases h
    refine turns_last (by simp) ?_
    exact M.run_of_path _ [fF, fF, fF, fF] _ _ (by kernel_rfl) (all_f c0 (all_f c0 (all_f c0 (all_f Bool.false_ne_true all_nil))))
theorem l3_0_ok (m : Nat) : ∀ (n : Nat) (x0 : Q6) (x1 : Q0) (x2 : Int) (x3 : Int) (s11 : Int) (b0 : Q3) (b1 : Q7) (q : Nat × Int × (Q3) × (Q7)), l3_0 m n x0 x1 x2 x3 s11 b0 b1 = some q → (turns (hds 3 3599) 0 3599 (cb12 m) n (l3_0H x0 x1 x2 x3 s11 b0 b1) (l3_0B x0 x1 x2 x3 s11 b0 b1)).run = some (l3_0E (x0) (x1) (x2) (x3) (q.2.1) (q.2.2.1) (q.2.2.2) q.1)
  | 0, x0, x1, x2, x3, s11, b0, b1, q, h => by cases h
  | n + 1, x0, x1, x2, x3, s11, b0, b1, q, h => l3_0_step m n (l3_0_ok m n) x0 x1 x2 x3 s11 b0 b1 q h

def l3_1 (m : Nat) : Nat → Int → Q0 → Q3 → Int → Int → Q3 → Q7 → Option (Nat × Int × (Q7))
  | 0, _, _, _, _, _, _, _ => none
  | n + 1, x2, s13, s76, s77, s78, b0, b1 => if decide (s78 < s77) = true then
      if decide (0 ≤ s78) = true then
      if decide (s78 < (((List.length s76) : Nat) : Int)) = true then
      if lrightPre (List.getD s76 (Int.toNat s78) ([] : Q5)) = true then
      l3_1 m n x2 s13 s76 s77 ((IntKind.wrap .i64 (s78 + (1)))) b0 ((addKey .str b1 (lprintG (List.getD s76 (Int.toNat s78) ([] : Q5)))))
      else none
      else none
      else none
    else
      some (0, s78, b1)
def l3_1D : Nat × Int × (Q7) := (0, 0, [])
@[reducible] def l3_1R (m n : Nat) (x2 : Int) (s13 : Q0) (s76 : Q3) (s77 : Int) (s78 : Int) (b0 : Q3) (b1 : Q7) : Nat × Int × (Q7) := Option.getD (l3_1 m n x2 s13 s76 s77 s78 b0 b1) l3_1D
def l3_1H (x2 : Int) (s13 : Q0) (s76 : Q3) (s77 : Int) (s78 : Int) (b0 : Q3) (b1 : Q7) : Env := (.top :: .top :: (.d (.int .i64 x2)) :: tp10 ((.d (.sl (.pair (.sl (.pair .str (.pair .str (.int .i64)))) (.pair (.sl (.pair .str (.pair .str (.int .i64)))) (.sl .str))) s13)) :: .top :: (.sr 0 0 (List.length b0) 1 none) :: (.mp 1) :: tp59 ((.d (.sl (.sl (.pair .str .str)) s76)) :: (.d (.int .i64 s77)) :: (.d (.int .i64 s78)) :: tp69 [])))
def l3_1B (x2 : Int) (s13 : Q0) (s76 : Q3) (s77 : Int) (s78 : Int) (b0 : Q3) (b1 : Q7) : Boxes := [(.arr (.sl (.pair .str .str)) b0 true), (.keys .str b1)]
def l3_1E (x2 : Int) (s13 : Q0) (s76 : Q3) (s77 : Int) (s78 : Int) (b0 : Q3) (b1 : Q7) : Nat → AEx × Env × Boxes
  | _ => (.exit 2, (.top :: .top :: (.d (.int .i64 x2)) :: tp10 ((.d (.sl (.pair (.sl (.pair .str (.pair .str (.int .i64)))) (.pair (.sl (.pair .str (.pair .str (.int .i64)))) (.sl .str))) s13)) :: .top :: (.sr 0 0 (List.length b0) 1 none) :: (.mp 1) :: tp59 ((.d (.sl (.sl (.pair .str .str)) s76)) :: (.d (.int .i64 s77)) :: (.d (.int .i64 s78)) :: (.d (.bool (decide (s78 < s77)))) :: tp68 []))), [(.arr (.sl (.pair .str .str)) b0 true), (.keys .str b1)])
noncomputable def lbl3_1 : AC := loopBody 528905046081400264040452 body3
@[reducible] noncomputable def cb13 (m : Nat) := (evC byref (evCall F S20 (m + 24)) (m + 24) 0 (hds 3) lbl3_1)


theorem l3_1_step (m n : Nat) (ih : ∀ (x2 : Int) (s13 : Q0) (s76 : Q3) (s77 : Int) (s78 : Int) (b0 : Q3) (b1 : Q7) (q : Nat × Int × (Q7)), l3_1 m n x2 s13 s76 s77 s78 b0 b1 = some q → (turns (hds 3 528905046081400264040452) 0 528905046081400264040452 (cb13 m) n (l3_1H x2 s13 s76 s77 s78 b0 b1) (l3_1B x2 s13 s76 s77 s78 b0 b1)).run = some (l3_1E (x2) (s13) (s76) (s77) (q.2.1) (b0) (q.2.2) q.1)) (x2 : Int) (s13 : Q0) (s76 : Q3) (s77 : Int) (s78 : Int) (b0 : Q3) (b1 : Q7) (q : Nat × Int × (Q7)) (h : l3_1 m (n + 1) x2 s13 s76 s77 s78 b0 b1 = some q) : (turns (hds 3 528905046081400264040452) 0 528905046081400264040452 (cb13 m) (n + 1) (l3_1H x2 s13 s76 s77 s78 b0 b1) (l3_1B x2 s13 s76 s77 s78 b0 b1)).run = some (l3_1E (x2) (s13) (s76) (s77) (q.2.1) (b0) (q.2.2) q.1) := by
  rw [l3_1] at h
  refine ite_cases h (fun c0 h => ?_) (fun c0 h => ?_)
  · skip
    obtain ⟨c1, h⟩ := iY h
    obtain ⟨c2, h⟩ := iY h
    obtain ⟨c3, h⟩ := iY h
    have ih := ih _ _ _ _ _ _ _ q h
    refine turns_step ?_ ih
    exact M.run_of_path _ [tT, tT, tT, tT] _ _ (by kernel_rfl) (all_t c0 (all_t c1 (all_t c2 (all_t c3 all_nil))))
  · skip
    cases h
    refine turns_last (by simp) ?_
    exact M.run_of_path _ [fF] _ _ (by kernel_rfl) (all_f c0 all_nil)
theorem l3_1_ok (m : Nat) : ∀ (n : Nat) (x2 : Int) (s13 : Q0) (s76 : Q3) (s77 : Int) (s78 : Int) (b0 : Q3) (b1 : Q7) (q : Nat × Int × (Q7)), l3_1 m n x2 s13 s76 s77 s78 b0 b1 = some q → (turns (hds 3 528905046081400264040452) 0 528905046081400264040452 (cb13 m) n (l3_1H x2 s13 s76 s77 s78 b0 b1) (l3_1B x2 s13 s76 s77 s78 b0 b1)).run = some (l3_1E (x2) (s13) (s76) (s77) (q.2.1) (b0) (q.2.2) q.1)
  | 0, x2, s13, s76, s77, s78, b0, b1, q, h => by cases h
  | n + 1, x2, s13, s76, s77, s78, b0, b1, q, h => l3_1_step m n (l3_1_ok m n) x2 s13 s76 s77 s78 b0 b1 q h

def l3_2 (m : Nat) : Nat → Q3 → Int → Int → Q7 → Option (Nat × Int)
  | 0, _, _, _, _ => none
  | n + 1, s95, s96, s97, b0 => if decide (s97 < s96) = true then
      if decide (0 ≤ s97) = true then
      if decide (s97 < (((List.length s95) : Nat) : Int)) = true then
      if lrightPre (List.getD s95 (Int.toNat s97) ([] : Q5)) = true then
      if (hasKey .str b0 (lprintG (List.getD s95 (Int.toNat s97) ([] : Q5)))) = true then
      l3_2 m n s95 s96 ((IntKind.wrap .i64 (s97 + (1)))) b0
      else none
      else none
      else none
      else none
    else
      some (0, s97)
def l3_2D : Nat × Int := (0, 0)
@[reducible] def l3_2R (m n : Nat) (s95 : Q3) (s96 : Int) (s97 : Int) (b0 : Q7) : Nat × Int := Option.getD (l3_2 m n s95 s96 s97 b0) l3_2D
def l3_2H (s95 : Q3) (s96 : Int) (s97 : Int) (b0 : Q7) : Env := (tp16 ((.mp 0) :: tp78 ((.d (.sl (.sl (.pair .str .str)) s95)) :: (.d (.int .i64 s96)) :: (.d (.int .i64 s97)) :: tp50 [])))
def l3_2B (s95 : Q3) (s96 : Int) (s97 : Int) (b0 : Q7) : Boxes := [(.keys .str b0)]
def l3_2E (s95 : Q3) (s96 : Int) (s97 : Int) (b0 : Q7) : Nat → AEx × Env × Boxes
  | _ => (.exit 4, (tp16 ((.mp 0) :: tp78 ((.d (.sl (.sl (.pair .str .str)) s95)) :: (.d (.int .i64 s96)) :: (.d (.int .i64 s97)) :: (.d (.bool (decide (s97 < s96)))) :: tp49 []))), [(.keys .str b0)])
noncomputable def lbl3_2 : AC := loopBody 277298568799925181577403891712 body3
@[reducible] noncomputable def cb14 (m : Nat) := (evC byref (evCall F S20 (m + 24)) (m + 24) 0 (hds 3) lbl3_2)


theorem l3_2_step (m n : Nat) (ih : ∀ (s95 : Q3) (s96 : Int) (s97 : Int) (b0 : Q7) (q : Nat × Int), l3_2 m n s95 s96 s97 b0 = some q → (turns (hds 3 277298568799925181577403891712) 0 277298568799925181577403891712 (cb14 m) n (l3_2H s95 s96 s97 b0) (l3_2B s95 s96 s97 b0)).run = some (l3_2E (s95) (s96) (q.2) (b0) q.1)) (s95 : Q3) (s96 : Int) (s97 : Int) (b0 : Q7) (q : Nat × Int) (h : l3_2 m (n + 1) s95 s96 s97 b0 = some q) : (turns (hds 3 277298568799925181577403891712) 0 277298568799925181577403891712 (cb14 m) (n + 1) (l3_2H s95 s96 s97 b0) (l3_2B s95 s96 s97 b0)).run = some (l3_2E (s95) (s96) (q.2) (b0) q.1) := by
  rw [l3_2] at h
  refine ite_cases h (fun c0 h => ?_) (fun c0 h => ?_)
  · skip
    obtain ⟨c1, h⟩ := iY h
    obtain ⟨c2, h⟩ := iY h
    obtain ⟨c3, h⟩ := iY h
    obtain ⟨c4, h⟩ := iY h
    have ih := ih _ _ _ _ q h
    refine turns_step ?_ ih
    exact M.run_of_path _ [tT, tT, tT, tT, fF] _ _ (by kernel_rfl) (all_t c0 (all_t c1 (all_t c2 (all_t c3 (all_nt c4 all_nil)))))
  · skip
    cases h
    refine turns_last (by simp) ?_
    exact M.run_of_path _ [fF] _ _ (by kernel_rfl) (all_f c0 all_nil)
theorem l3_2_ok (m : Nat) : ∀ (n : Nat) (s95 : Q3) (s96 : Int) (s97 : Int) (b0 : Q7) (q : Nat × Int), l3_2 m n s95 s96 s97 b0 = some q → (turns (hds 3 277298568799925181577403891712) 0 277298568799925181577403891712 (cb14 m) n (l3_2H s95 s96 s97 b0) (l3_2B s95 s96 s97 b0)).run = some (l3_2E (s95) (s96) (q.2) (b0) q.1)
  | 0, s95, s96, s97, b0, q, h => by cases h
  | n + 1, s95, s96, s97, b0, q, h => l3_2_step m n (l3_2_ok m n) s95 s96 s97 b0 q h

@[reducible] def mo_k1 (x0 : Q6) (x1 : Q0) (x2 : Int) (x3 : Int) (m : Nat) := (l3_0R m (m + 24) x0 x1 x2 x3 0 (([] : Q3)) (([] : Q7)))
@[reducible] def mo_k2 (x0 : Q6) (x1 : Q0) (x2 : Int) (x3 : Int) (m : Nat) := ((List.take ((List.length (mo_k1 x0 x1 x2 x3 m).2.2.1) - (Int.toNat (withinI x3 (0) (((List.length (mo_k1 x0 x1 x2 x3 m).2.2.1) : Nat) : Int)))) (List.drop (0 + (Int.toNat (withinI x3 (0) (((List.length (mo_k1 x0 x1 x2 x3 m).2.2.1) : Nat) : Int)))) (mo_k1 x0 x1 x2 x3 m).2.2.1)) ++ (List.take ((Int.toNat (withinI x3 (0) (((List.length (mo_k1 x0 x1 x2 x3 m).2.2.1) : Nat) : Int))) - 0) (List.drop 0 (mo_k1 x0 x1 x2 x3 m).2.2.1)))
@[reducible] def mo_k3 (x0 : Q6) (x1 : Q0) (x2 : Int) (x3 : Int) (m : Nat) := (heardG (List.take (List.length (mo_k1 x0 x1 x2 x3 m).2.2.1) (List.drop 0 (mo_k1 x0 x1 x2 x3 m).2.2.1)) x2 ([] : Q2) (List.drop 0 (List.take (Int.toNat (if (4) < (((List.length x1) : Nat) : Int) then (4) else (((List.length x1) : Nat) : Int))) x1)))
@[reducible] def mo_k4 (x0 : Q6) (x1 : Q0) (x2 : Int) (x3 : Int) (m : Nat) := (List.take ((Int.toNat (withinI x3 (0) (((List.length (mo_k1 x0 x1 x2 x3 m).2.2.1) : Nat) : Int))) - 0) (List.drop 0 (mo_k1 x0 x1 x2 x3 m).2.2.1))
@[reducible] def mo_k5 (x1 : Q0) := (List.drop 0 (List.take (Int.toNat (if (4) < (((List.length x1) : Nat) : Int) then (4) else (((List.length x1) : Nat) : Int))) x1))
@[reducible] def mo_k6 (x0 : Q6) (x1 : Q0) (x2 : Int) (x3 : Int) (m : Nat) := (heardG (List.take (List.length ((mo_k2 x0 x1 x2 x3 m))) (List.drop 0 ((mo_k2 x0 x1 x2 x3 m)))) x2 ([] : Q2) ((mo_k5 x1)))
@[reducible] def mo_k7 (x0 : Q6) (x1 : Q0) (x2 : Int) (x3 : Int) (m : Nat) := (heardG (List.take (List.length ((mo_k4 x0 x1 x2 x3 m))) (List.drop 0 ((mo_k4 x0 x1 x2 x3 m)))) x2 ([] : Q2) ((mo_k5 x1)))
@[reducible] def mo_k8 (x0 : Q6) (x1 : Q0) (x2 : Int) (x3 : Int) (m : Nat) := (List.length (List.take ((List.length (mo_k1 x0 x1 x2 x3 m).2.2.1) - (Int.toNat (withinI x3 (0) (((List.length (mo_k1 x0 x1 x2 x3 m).2.2.1) : Nat) : Int)))) (List.drop (0 + (Int.toNat (withinI x3 (0) (((List.length (mo_k1 x0 x1 x2 x3 m).2.2.1) : Nat) : Int)))) (mo_k1 x0 x1 x2 x3 m).2.2.1)))
@[reducible] def mo_k9 (x0 : Q6) (x1 : Q0) (x2 : Int) (x3 : Int) (m : Nat) := (l3_1R m (m + 24) x2 ((mo_k5 x1)) ((mo_k3 x0 x1 x2 x3 m)) ((((List.length (mo_k3 x0 x1 x2 x3 m)) : Nat) : Int)) 0 ((mo_k2 x0 x1 x2 x3 m)) (([] : Q7)))
@[reducible] def mo_k10 (x0 : Q6) (x1 : Q0) (x2 : Int) (x3 : Int) (m : Nat) := (l3_1R m (m + 24) x2 ((mo_k5 x1)) ((mo_k3 x0 x1 x2 x3 m)) ((((List.length (mo_k3 x0 x1 x2 x3 m)) : Nat) : Int)) 0 ((mo_k4 x0 x1 x2 x3 m)) (([] : Q7)))
@[reducible] def mo_k11 (x0 : Q6) (x1 : Q0) (x2 : Int) (x3 : Int) (m : Nat) := (List.length (mo_k1 x0 x1 x2 x3 m).2.2.1)
@[reducible] def mo_k12  := ((((List.length (heardG [[(([97] : Q8), ([120] : Q8))], [(([98] : Q8), ([49] : Q8))]] (5) [([(([97] : Q8), (([120] : Q8), (1)))], ((0), (9)))] [([(([97] : Q8), (([120] : Q8), (1)))], ([(([98] : Q8), (([49] : Q8), (1)))], ([] : Q7)))])) : Nat) : Int) == (0))
@[reducible] def mo_k13  := ((((List.length (heardG [[(([97] : Q8), ([120] : Q8))], [(([98] : Q8), ([49] : Q8))]] (9) [([(([97] : Q8), (([120] : Q8), (1)))], ((0), (9)))] [([(([97] : Q8), (([120] : Q8), (1)))], ([(([98] : Q8), (([49] : Q8), (1)))], ([] : Q7)))])) : Nat) : Int) == (1))
@[reducible] def mo_k14  := ((((List.length (heardG [[(([98] : Q8), ([49] : Q8))]] (5) [([(([97] : Q8), (([120] : Q8), (1)))], ((0), (9)))] [([(([97] : Q8), (([120] : Q8), (1)))], ([(([98] : Q8), (([49] : Q8), (1)))], ([] : Q7)))])) : Nat) : Int) == (1))
@[reducible] def mo_k15 (x0 : Q6) (x1 : Q0) (x2 : Int) (x3 : Int) (m : Nat) := (((List.length (mo_k3 x0 x1 x2 x3 m)) : Nat) : Int)
@[reducible] def mo_k16 (x0 : Q6) (x1 : Q0) (x2 : Int) (x3 : Int) (m : Nat) := (withinI x3 (0) (((mo_k11 x0 x1 x2 x3 m) : Nat) : Int))
@[reducible] def mo_k17 (x0 : Q6) (x1 : Q0) (x2 : Int) (x3 : Int) (m : Nat) := (((List.length (mo_k6 x0 x1 x2 x3 m)) : Nat) : Int)
@[reducible] def mo_k18 (x0 : Q6) (x1 : Q0) (x2 : Int) (x3 : Int) (m : Nat) := (((List.length (mo_k7 x0 x1 x2 x3 m)) : Nat) : Int)
@[reducible] def mo_k19 (x0 : Q6) (x1 : Q0) (x2 : Int) (x3 : Int) (m : Nat) := (List.length (mo_k4 x0 x1 x2 x3 m))
@[reducible] def mo_k20 (x1 : Q0) := (if (4) < (((List.length x1) : Nat) : Int) then (4) else (((List.length x1) : Nat) : Int))
@[reducible] def mo_k21 (x0 : Q6) (x1 : Q0) (x2 : Int) (x3 : Int) (m : Nat) := (List.take (mo_k11 x0 x1 x2 x3 m) (List.drop 0 (mo_k1 x0 x1 x2 x3 m).2.2.1))
@[reducible] def mo_k22 (x0 : Q6) (x1 : Q0) (x2 : Int) (x3 : Int) (m : Nat) := (List.length ((mo_k2 x0 x1 x2 x3 m)))
@[reducible] def mo_k23 (x0 : Q6) (x1 : Q0) (x2 : Int) (x3 : Int) (m : Nat) := (List.length ((mo_k4 x0 x1 x2 x3 m)))
def mo (m : Nat) (x0 : Q6) (x1 : Q0) (x2 : Int) (x3 : Int) : Option Unit :=
  if (Option.isSome (l3_0 m (m + 24) x0 x1 x2 x3 0 (([] : Q3)) (([] : Q7)))) = true then
  if ((mo_k1 x0 x1 x2 x3 m).1 == 0) = true then
    if (decide (0 ≤ (mo_k20 x1)) && decide ((mo_k20 x1) ≤ (((List.length x1) : Nat) : Int))) = true then
    if ((decide (0 ≤ (((mo_k11 x0 x1 x2 x3 m) : Nat) : Int)) && decide ((((mo_k11 x0 x1 x2 x3 m) : Nat) : Int) ≤ 2305843009213693951)) && decide (((((mo_k11 x0 x1 x2 x3 m) : Nat) : Int) - (0)) ≤ 2305843009213693951)) = true then
    if (decide (0 ≤ (mo_k16 x0 x1 x2 x3 m)) && decide ((mo_k16 x0 x1 x2 x3 m) ≤ (((mo_k11 x0 x1 x2 x3 m) : Nat) : Int))) = true then
    if (decide ((Int.toNat (mo_k16 x0 x1 x2 x3 m)) < (mo_k11 x0 x1 x2 x3 m)) || decide ((Int.toNat (mo_k16 x0 x1 x2 x3 m)) = 0)) = true then
      if decide (((0 + (Int.toNat (mo_k16 x0 x1 x2 x3 m))) + ((mo_k11 x0 x1 x2 x3 m) - (Int.toNat (mo_k16 x0 x1 x2 x3 m)))) ≤ (mo_k11 x0 x1 x2 x3 m)) = true then
      if decide (((0 + (mo_k8 x0 x1 x2 x3 m)) * 24) ≤ 70368744177664) = true then
      if decide ((0 + ((Int.toNat (mo_k16 x0 x1 x2 x3 m)) - 0)) ≤ (mo_k11 x0 x1 x2 x3 m)) = true then
      if decide ((((0 + (mo_k8 x0 x1 x2 x3 m)) + (mo_k19 x0 x1 x2 x3 m)) * 24) ≤ 70368744177664) = true then
      if decide ((0 + (mo_k8 x0 x1 x2 x3 m)) = (mo_k8 x0 x1 x2 x3 m)) = true then
      if heardPre (mo_k21 x0 x1 x2 x3 m) ([] : Q2) (mo_k5 x1) = true then
      if (Option.isSome (l3_1 m (m + 24) x2 ((mo_k5 x1)) ((mo_k3 x0 x1 x2 x3 m)) ((mo_k15 x0 x1 x2 x3 m)) 0 ((mo_k2 x0 x1 x2 x3 m)) (([] : Q7)))) = true then
      if heardPre (List.take (mo_k22 x0 x1 x2 x3 m) (List.drop 0 ((mo_k2 x0 x1 x2 x3 m)))) ([] : Q2) ((mo_k5 x1)) = true then
      if ((mo_k17 x0 x1 x2 x3 m) != (((List.length (mo_k9 x0 x1 x2 x3 m).2.2) : Nat) : Int)) = true then
        none
      else
        if (Option.isSome (l3_2 m (m + 24) ((mo_k6 x0 x1 x2 x3 m)) ((mo_k17 x0 x1 x2 x3 m)) 0 ((mo_k9 x0 x1 x2 x3 m).2.2))) = true then
        if heardPre [[(([97] : Q8), ([120] : Q8))], [(([98] : Q8), ([49] : Q8))]] [([(([97] : Q8), (([120] : Q8), (1)))], ((0), (9)))] [([(([97] : Q8), (([120] : Q8), (1)))], ([(([98] : Q8), (([49] : Q8), (1)))], ([] : Q7)))] = true then
        if mo_k12 = true then
        if heardPre [[(([98] : Q8), ([49] : Q8))]] [([(([97] : Q8), (([120] : Q8), (1)))], ((0), (9)))] [([(([97] : Q8), (([120] : Q8), (1)))], ([(([98] : Q8), (([49] : Q8), (1)))], ([] : Q7)))] = true then
        if mo_k14 = true then
        if mo_k13 = true then
        some ()
        else none
        else none
        else none
        else none
        else none
        else none
      else none
      else none
      else none
      else none
      else none
      else none
      else none
      else none
    else
      if decide ((0 + ((Int.toNat (mo_k16 x0 x1 x2 x3 m)) - 0)) ≤ (mo_k11 x0 x1 x2 x3 m)) = true then
      if decide (((0 + (mo_k19 x0 x1 x2 x3 m)) * 24) ≤ 70368744177664) = true then
      if heardPre (mo_k21 x0 x1 x2 x3 m) ([] : Q2) (mo_k5 x1) = true then
      if (Option.isSome (l3_1 m (m + 24) x2 ((mo_k5 x1)) ((mo_k3 x0 x1 x2 x3 m)) ((mo_k15 x0 x1 x2 x3 m)) 0 ((mo_k4 x0 x1 x2 x3 m)) (([] : Q7)))) = true then
      if heardPre (List.take (mo_k23 x0 x1 x2 x3 m) (List.drop 0 ((mo_k4 x0 x1 x2 x3 m)))) ([] : Q2) ((mo_k5 x1)) = true then
      if ((mo_k18 x0 x1 x2 x3 m) != (((List.length (mo_k10 x0 x1 x2 x3 m).2.2) : Nat) : Int)) = true then
        none
      else
        if (Option.isSome (l3_2 m (m + 24) ((mo_k7 x0 x1 x2 x3 m)) ((mo_k18 x0 x1 x2 x3 m)) 0 ((mo_k10 x0 x1 x2 x3 m).2.2))) = true then
        if heardPre [[(([97] : Q8), ([120] : Q8))], [(([98] : Q8), ([49] : Q8))]] [([(([97] : Q8), (([120] : Q8), (1)))], ((0), (9)))] [([(([97] : Q8), (([120] : Q8), (1)))], ([(([98] : Q8), (([49] : Q8), (1)))], ([] : Q7)))] = true then
        if mo_k12 = true then
        if heardPre [[(([98] : Q8), ([49] : Q8))]] [([(([97] : Q8), (([120] : Q8), (1)))], ((0), (9)))] [([(([97] : Q8), (([120] : Q8), (1)))], ([(([98] : Q8), (([49] : Q8), (1)))], ([] : Q7)))] = true then
        if mo_k14 = true then
        if mo_k13 = true then
        some ()
        else none
        else none
        else none
        else none
        else none
        else none
      else none
      else none
      else none
      else none
      else none
    else none
    else none
    else none
  else
    if ((mo_k1 x0 x1 x2 x3 m).1 == 1) = true then
    if (decide (0 ≤ (mo_k20 x1)) && decide ((mo_k20 x1) ≤ (((List.length x1) : Nat) : Int))) = true then
    if ((decide (0 ≤ (((mo_k11 x0 x1 x2 x3 m) : Nat) : Int)) && decide ((((mo_k11 x0 x1 x2 x3 m) : Nat) : Int) ≤ 2305843009213693951)) && decide (((((mo_k11 x0 x1 x2 x3 m) : Nat) : Int) - (0)) ≤ 2305843009213693951)) = true then
    if (decide (0 ≤ (mo_k16 x0 x1 x2 x3 m)) && decide ((mo_k16 x0 x1 x2 x3 m) ≤ (((mo_k11 x0 x1 x2 x3 m) : Nat) : Int))) = true then
    if (decide ((Int.toNat (mo_k16 x0 x1 x2 x3 m)) < (mo_k11 x0 x1 x2 x3 m)) || decide ((Int.toNat (mo_k16 x0 x1 x2 x3 m)) = 0)) = true then
      if decide (((0 + (Int.toNat (mo_k16 x0 x1 x2 x3 m))) + ((mo_k11 x0 x1 x2 x3 m) - (Int.toNat (mo_k16 x0 x1 x2 x3 m)))) ≤ (mo_k11 x0 x1 x2 x3 m)) = true then
      if decide (((0 + (mo_k8 x0 x1 x2 x3 m)) * 24) ≤ 70368744177664) = true then
      if decide ((0 + ((Int.toNat (mo_k16 x0 x1 x2 x3 m)) - 0)) ≤ (mo_k11 x0 x1 x2 x3 m)) = true then
      if decide ((((0 + (mo_k8 x0 x1 x2 x3 m)) + (mo_k19 x0 x1 x2 x3 m)) * 24) ≤ 70368744177664) = true then
      if decide ((0 + (mo_k8 x0 x1 x2 x3 m)) = (mo_k8 x0 x1 x2 x3 m)) = true then
      if heardPre (mo_k21 x0 x1 x2 x3 m) ([] : Q2) (mo_k5 x1) = true then
      if (Option.isSome (l3_1 m (m + 24) x2 ((mo_k5 x1)) ((mo_k3 x0 x1 x2 x3 m)) ((mo_k15 x0 x1 x2 x3 m)) 0 ((mo_k2 x0 x1 x2 x3 m)) (([] : Q7)))) = true then
      if heardPre (List.take (mo_k22 x0 x1 x2 x3 m) (List.drop 0 ((mo_k2 x0 x1 x2 x3 m)))) ([] : Q2) ((mo_k5 x1)) = true then
      if ((mo_k17 x0 x1 x2 x3 m) != (((List.length (mo_k9 x0 x1 x2 x3 m).2.2) : Nat) : Int)) = true then
        none
      else
        if (Option.isSome (l3_2 m (m + 24) ((mo_k6 x0 x1 x2 x3 m)) ((mo_k17 x0 x1 x2 x3 m)) 0 ((mo_k9 x0 x1 x2 x3 m).2.2))) = true then
        if heardPre [[(([97] : Q8), ([120] : Q8))], [(([98] : Q8), ([49] : Q8))]] [([(([97] : Q8), (([120] : Q8), (1)))], ((0), (9)))] [([(([97] : Q8), (([120] : Q8), (1)))], ([(([98] : Q8), (([49] : Q8), (1)))], ([] : Q7)))] = true then
        if mo_k12 = true then
        if heardPre [[(([98] : Q8), ([49] : Q8))]] [([(([97] : Q8), (([120] : Q8), (1)))], ((0), (9)))] [([(([97] : Q8), (([120] : Q8), (1)))], ([(([98] : Q8), (([49] : Q8), (1)))], ([] : Q7)))] = true then
        if mo_k14 = true then
        if mo_k13 = true then
        some ()
        else none
        else none
        else none
        else none
        else none
        else none
      else none
      else none
      else none
      else none
      else none
      else none
      else none
      else none
    else
      if decide ((0 + ((Int.toNat (mo_k16 x0 x1 x2 x3 m)) - 0)) ≤ (mo_k11 x0 x1 x2 x3 m)) = true then
      if decide (((0 + (mo_k19 x0 x1 x2 x3 m)) * 24) ≤ 70368744177664) = true then
      if heardPre (mo_k21 x0 x1 x2 x3 m) ([] : Q2) (mo_k5 x1) = true then
      if (Option.isSome (l3_1 m (m + 24) x2 ((mo_k5 x1)) ((mo_k3 x0 x1 x2 x3 m)) ((mo_k15 x0 x1 x2 x3 m)) 0 ((mo_k4 x0 x1 x2 x3 m)) (([] : Q7)))) = true then
      if heardPre (List.take (mo_k23 x0 x1 x2 x3 m) (List.drop 0 ((mo_k4 x0 x1 x2 x3 m)))) ([] : Q2) ((mo_k5 x1)) = true then
      if ((mo_k18 x0 x1 x2 x3 m) != (((List.length (mo_k10 x0 x1 x2 x3 m).2.2) : Nat) : Int)) = true then
        none
      else
        if (Option.isSome (l3_2 m (m + 24) ((mo_k7 x0 x1 x2 x3 m)) ((mo_k18 x0 x1 x2 x3 m)) 0 ((mo_k10 x0 x1 x2 x3 m).2.2))) = true then
        if heardPre [[(([97] : Q8), ([120] : Q8))], [(([98] : Q8), ([49] : Q8))]] [([(([97] : Q8), (([120] : Q8), (1)))], ((0), (9)))] [([(([97] : Q8), (([120] : Q8), (1)))], ([(([98] : Q8), (([49] : Q8), (1)))], ([] : Q7)))] = true then
        if mo_k12 = true then
        if heardPre [[(([98] : Q8), ([49] : Q8))]] [([(([97] : Q8), (([120] : Q8), (1)))], ((0), (9)))] [([(([97] : Q8), (([120] : Q8), (1)))], ([(([98] : Q8), (([49] : Q8), (1)))], ([] : Q7)))] = true then
        if mo_k14 = true then
        if mo_k13 = true then
        some ()
        else none
        else none
        else none
        else none
        else none
        else none
      else none
      else none
      else none
      else none
      else none
    else none
    else none
    else none
    else none
  else none

theorem mo_ok (m : Nat) (x0 : Q6) (x1 : Q0) (x2 : Int) (x3 : Int) (q : Unit) (h : mo m x0 x1 x2 x3 = some q) : (evCall F S20 (m + 25) 3 [(.d (.sl (.pair (.sl (.int .i64)) (.sl (.int .i64))) x0)), (.d (.sl (.pair (.sl (.pair .str (.pair .str (.int .i64)))) (.pair (.sl (.pair .str (.pair .str (.int .i64)))) (.sl .str))) x1)), (.d (.int .i64 x2)), (.d (.int .i64 x3))] []).run = some (.d (.bool true), []) := by
  unfold mo at h
  obtain ⟨c0, h⟩ := iY h
  refine ite_cases h (fun c1 h => ?_) (fun c1 h => ?_)
  · skip
    obtain ⟨c2, h⟩ := iY h
    obtain ⟨c3, h⟩ := iY h
    obtain ⟨c4, h⟩ := iY h
    refine ite_cases h (fun c5 h => ?_) (fun c5 h => ?_)
    · skip
      obtain ⟨c6, h⟩ := iY h
      obtain ⟨c7, h⟩ := iY h
      obtain ⟨c11, h⟩ := iY h
      obtain ⟨c12, h⟩ := iY h
      obtain ⟨c13, h⟩ := iY h
      obtain ⟨c15, h⟩ := iY h
      obtain ⟨c16, h⟩ := iY h
      obtain ⟨c18, h⟩ := iY h
      refine ite_cases h (fun _ h => by cases h) (fun c19 h => ?_)
      obtain ⟨c20, h⟩ := iY h
      obtain ⟨c29, h⟩ := iY h
      obtain ⟨c30, h⟩ := iY h
      obtain ⟨c39, h⟩ := iY h
      obtain ⟨c43, h⟩ := iY h
      obtain ⟨c58, h⟩ := iY h
      cases h
      refine runT_ok (LS := (fun k => if k = 3599 then some (l3_0E x0 x1 x2 x3 ((mo_k1 x0 x1 x2 x3 m).2.1) ((mo_k1 x0 x1 x2 x3 m).2.2.1) ((mo_k1 x0 x1 x2 x3 m).2.2.2) 0) else if k = 528905046081400264040452 then some (l3_1E x2 (((mo_k5 x1))) (((mo_k3 x0 x1 x2 x3 m))) (((mo_k15 x0 x1 x2 x3 m))) ((mo_k9 x0 x1 x2 x3 m).2.1) (((mo_k2 x0 x1 x2 x3 m))) ((mo_k9 x0 x1 x2 x3 m).2.2) 0) else if k = 277298568799925181577403891712 then some (l3_2E (((mo_k6 x0 x1 x2 x3 m))) (((mo_k17 x0 x1 x2 x3 m))) ((l3_2R m (m + 24) ((mo_k6 x0 x1 x2 x3 m)) ((mo_k17 x0 x1 x2 x3 m)) 0 ((mo_k9 x0 x1 x2 x3 m).2.2)).2) (((mo_k9 x0 x1 x2 x3 m).2.2)) 0) else none)) (fn := fn3) (r := .d (.bool true)) (B' := []) (vis := [(3599, l3_0H x0 x1 x2 x3 0 (([] : Q3)) (([] : Q7)), l3_0B x0 x1 x2 x3 0 (([] : Q3)) (([] : Q7))), (528905046081400264040452, (.top :: .top :: (.d (.int .i64 x2)) :: tp10 ((.d (.sl (.pair (.sl (.pair .str (.pair .str (.int .i64)))) (.pair (.sl (.pair .str (.pair .str (.int .i64)))) (.sl .str))) (mo_k5 x1))) :: .top :: (.sr 0 0 ((0 + (mo_k8 x0 x1 x2 x3 m)) + (mo_k19 x0 x1 x2 x3 m)) 1 none) :: (.mp 1) :: tp59 ((.d (.sl (.sl (.pair .str .str)) (mo_k3 x0 x1 x2 x3 m))) :: (.d (.int .i64 (mo_k15 x0 x1 x2 x3 m))) :: (.d (.int .i64 (0))) :: tp69 []))), [(.arr (.sl (.pair .str .str)) (mo_k2 x0 x1 x2 x3 m) true), (.keys .str ([] : Q7))]), (277298568799925181577403891712, l3_2H ((mo_k6 x0 x1 x2 x3 m)) ((mo_k17 x0 x1 x2 x3 m)) 0 ((mo_k9 x0 x1 x2 x3 m).2.2), l3_2B ((mo_k6 x0 x1 x2 x3 m)) ((mo_k17 x0 x1 x2 x3 m)) 0 ((mo_k9 x0 x1 x2 x3 m).2.2))]) (by kernel_rfl) rfl (by kernel_rfl) (M.run_of_path _ [tT, tT, tT, tT, tT, tT, tT, tT, tT, tT, tT, tT, tT, tT, tT, tT, fF, tT, tT, tT, tT, tT, tT, tT, tT, tT, tT, tT, tT, tT, tT, tT, tT, tT, tT, tT, tT, tT, tT, tT, tT, tT, tT, tT, tT, tT, tT, tT, tT, tT, tT, tT, tT, tT, tT, tT] _ _ (by kernel_rfl) (all_t c2 (all_t c3 (all_t c4 (all_t c5 (all_t c6 (all_t c7 (all_t rfl (all_t c4 (all_t (show (decide (0 < (mo_k11 x0 x1 x2 x3 m)) || true) = true from Bool.or_true _) (all_t c11 (all_t c12 (all_t c13 (all_t (show decide ((0 + (mo_k11 x0 x1 x2 x3 m)) ≤ (mo_k11 x0 x1 x2 x3 m)) = true from decide_eq_true (Nat.le_of_eq (Nat.zero_add _))) (all_t c15 (all_t (show decide ((0 + (mo_k22 x0 x1 x2 x3 m)) ≤ (mo_k22 x0 x1 x2 x3 m)) = true from decide_eq_true (Nat.le_of_eq (Nat.zero_add _))) (all_t c18 (all_f c19 (all_t rfl (all_t rfl (all_t rfl (all_t rfl (all_t rfl (all_t rfl (all_t rfl (all_t rfl (all_t c29 (all_t c30 (all_t c30 (all_t rfl (all_t c30 (all_t c30 (all_t c30 (all_t rfl (all_t rfl (all_t rfl (all_t c39 (all_t c30 (all_t c30 (all_t c30 (all_t c43 (all_t c43 (all_t c43 (all_t rfl (all_t rfl (all_t c43 (all_t c43 (all_t c43 (all_t rfl (all_t rfl (all_t rfl (all_t c29 (all_t c43 (all_t c43 (all_t c43 (all_t c58 (all_t c58 all_nil))))))))))))))))))))))))))))))))))))))))))))))))))))))))) ?_
      intro p hp p2 hq
      rcases List.mem_cons.1 hp with rfl | hp
      · skip
        have h3 := l3_0_ok m (m + 24) x0 x1 x2 x3 0 (([] : Q3)) (([] : Q7)) _ (some_getD (d := l3_0D) c0)
        rw [eq_of_beq c1] at h3
        exact Eq.trans (Eq.mp (by kernel_rfl) h3) hq
      rcases List.mem_cons.1 hp with rfl | hp
      · skip
        have h3 := l3_1_ok m (m + 24) x2 ((mo_k5 x1)) ((mo_k3 x0 x1 x2 x3 m)) ((mo_k15 x0 x1 x2 x3 m)) 0 ((mo_k2 x0 x1 x2 x3 m)) (([] : Q7)) _ (some_getD (d := l3_1D) c16)
        have h3 := turns_eq (e := (.top :: .top :: (.d (.int .i64 x2)) :: tp10 ((.d (.sl (.pair (.sl (.pair .str (.pair .str (.int .i64)))) (.pair (.sl (.pair .str (.pair .str (.int .i64)))) (.sl .str))) (mo_k5 x1))) :: .top :: (.sr 0 0 ((0 + (mo_k8 x0 x1 x2 x3 m)) + (mo_k19 x0 x1 x2 x3 m)) 1 none) :: (.mp 1) :: tp59 ((.d (.sl (.sl (.pair .str .str)) (mo_k3 x0 x1 x2 x3 m))) :: (.d (.int .i64 (mo_k15 x0 x1 x2 x3 m))) :: (.d (.int .i64 (0))) :: tp69 [])))) (B := [(.arr (.sl (.pair .str .str)) (mo_k2 x0 x1 x2 x3 m) true), (.keys .str ([] : Q7))]) (by unfold l3_1H; (try rw [show (List.length (mo_k2 x0 x1 x2 x3 m)) = ((0 + (mo_k8 x0 x1 x2 x3 m)) + (mo_k19 x0 x1 x2 x3 m)) from by simp]); (try simp only [Nat.zero_add, List.length_nil])) rfl h3
        exact Eq.trans (Eq.mp (by kernel_rfl) h3) hq
      rcases List.mem_cons.1 hp with rfl | hp
      · skip
        have h3 := l3_2_ok m (m + 24) ((mo_k6 x0 x1 x2 x3 m)) ((mo_k17 x0 x1 x2 x3 m)) 0 ((mo_k9 x0 x1 x2 x3 m).2.2) _ (some_getD (d := l3_2D) c20)
        exact Eq.trans (Eq.mp (by kernel_rfl) h3) hq
      cases hp
    · skip
      obtain ⟨c10, h⟩ := iY h
      obtain ⟨c11, h⟩ := iY h
      obtain ⟨c14, h⟩ := iY h
      obtain ⟨c15, h⟩ := iY h
      obtain ⟨c17, h⟩ := iY h
      refine ite_cases h (fun _ h => by cases h) (fun c18 h => ?_)
      obtain ⟨c19, h⟩ := iY h
      obtain ⟨c28, h⟩ := iY h
      obtain ⟨c29, h⟩ := iY h
      obtain ⟨c38, h⟩ := iY h
      obtain ⟨c42, h⟩ := iY h
      obtain ⟨c57, h⟩ := iY h
      cases h
      refine runT_ok (LS := (fun k => if k = 3599 then some (l3_0E x0 x1 x2 x3 ((mo_k1 x0 x1 x2 x3 m).2.1) ((mo_k1 x0 x1 x2 x3 m).2.2.1) ((mo_k1 x0 x1 x2 x3 m).2.2.2) 0) else if k = 528905046081400264040452 then some (l3_1E x2 (((mo_k5 x1))) (((mo_k3 x0 x1 x2 x3 m))) (((mo_k15 x0 x1 x2 x3 m))) ((mo_k10 x0 x1 x2 x3 m).2.1) (((mo_k4 x0 x1 x2 x3 m))) ((mo_k10 x0 x1 x2 x3 m).2.2) 0) else if k = 277298568799925181577403891712 then some (l3_2E (((mo_k7 x0 x1 x2 x3 m))) (((mo_k18 x0 x1 x2 x3 m))) ((l3_2R m (m + 24) ((mo_k7 x0 x1 x2 x3 m)) ((mo_k18 x0 x1 x2 x3 m)) 0 ((mo_k10 x0 x1 x2 x3 m).2.2)).2) (((mo_k10 x0 x1 x2 x3 m).2.2)) 0) else none)) (fn := fn3) (r := .d (.bool true)) (B' := []) (vis := [(3599, l3_0H x0 x1 x2 x3 0 (([] : Q3)) (([] : Q7)), l3_0B x0 x1 x2 x3 0 (([] : Q3)) (([] : Q7))), (528905046081400264040452, (.top :: .top :: (.d (.int .i64 x2)) :: tp10 ((.d (.sl (.pair (.sl (.pair .str (.pair .str (.int .i64)))) (.pair (.sl (.pair .str (.pair .str (.int .i64)))) (.sl .str))) (mo_k5 x1))) :: .top :: (.sr 0 0 (0 + (mo_k19 x0 x1 x2 x3 m)) 1 none) :: (.mp 1) :: tp59 ((.d (.sl (.sl (.pair .str .str)) (mo_k3 x0 x1 x2 x3 m))) :: (.d (.int .i64 (mo_k15 x0 x1 x2 x3 m))) :: (.d (.int .i64 (0))) :: tp69 []))), [(.arr (.sl (.pair .str .str)) (mo_k4 x0 x1 x2 x3 m) true), (.keys .str ([] : Q7))]), (277298568799925181577403891712, l3_2H ((mo_k7 x0 x1 x2 x3 m)) ((mo_k18 x0 x1 x2 x3 m)) 0 ((mo_k10 x0 x1 x2 x3 m).2.2), l3_2B ((mo_k7 x0 x1 x2 x3 m)) ((mo_k18 x0 x1 x2 x3 m)) 0 ((mo_k10 x0 x1 x2 x3 m).2.2))]) (by kernel_rfl) rfl (by kernel_rfl) (M.run_of_path _ [tT, tT, tT, fF, tT, tT, tT, tT, tT, tT, tT, tT, tT, tT, tT, fF, tT, tT, tT, tT, tT, tT, tT, tT, tT, tT, tT, tT, tT, tT, tT, tT, tT, tT, tT, tT, tT, tT, tT, tT, tT, tT, tT, tT, tT, tT, tT, tT, tT, tT, tT, tT, tT, tT, tT] _ _ (by kernel_rfl) (all_t c2 (all_t c3 (all_t c4 (all_f c5 (all_t rfl (all_t rfl (all_t c4 (all_t (show (decide (0 < (mo_k11 x0 x1 x2 x3 m)) || true) = true from Bool.or_true _) (all_t c10 (all_t c11 (all_t rfl (all_t (show decide ((0 + (mo_k11 x0 x1 x2 x3 m)) ≤ (mo_k11 x0 x1 x2 x3 m)) = true from decide_eq_true (Nat.le_of_eq (Nat.zero_add _))) (all_t c14 (all_t (show decide ((0 + (mo_k23 x0 x1 x2 x3 m)) ≤ (mo_k23 x0 x1 x2 x3 m)) = true from decide_eq_true (Nat.le_of_eq (Nat.zero_add _))) (all_t c17 (all_f c18 (all_t rfl (all_t rfl (all_t rfl (all_t rfl (all_t rfl (all_t rfl (all_t rfl (all_t rfl (all_t c28 (all_t c29 (all_t c29 (all_t rfl (all_t c29 (all_t c29 (all_t c29 (all_t rfl (all_t rfl (all_t rfl (all_t c38 (all_t c29 (all_t c29 (all_t c29 (all_t c42 (all_t c42 (all_t c42 (all_t rfl (all_t rfl (all_t c42 (all_t c42 (all_t c42 (all_t rfl (all_t rfl (all_t rfl (all_t c28 (all_t c42 (all_t c42 (all_t c42 (all_t c57 (all_t c57 all_nil)))))))))))))))))))))))))))))))))))))))))))))))))))))))) ?_
      intro p hp p2 hq
      rcases List.mem_cons.1 hp with rfl | hp
      · skip
        have h3 := l3_0_ok m (m + 24) x0 x1 x2 x3 0 (([] : Q3)) (([] : Q7)) _ (some_getD (d := l3_0D) c0)
        rw [eq_of_beq c1] at h3
        exact Eq.trans (Eq.mp (by kernel_rfl) h3) hq
      rcases List.mem_cons.1 hp with rfl | hp
      · skip
        have h3 := l3_1_ok m (m + 24) x2 ((mo_k5 x1)) ((mo_k3 x0 x1 x2 x3 m)) ((mo_k15 x0 x1 x2 x3 m)) 0 ((mo_k4 x0 x1 x2 x3 m)) (([] : Q7)) _ (some_getD (d := l3_1D) c15)
        have h3 := turns_eq (e := (.top :: .top :: (.d (.int .i64 x2)) :: tp10 ((.d (.sl (.pair (.sl (.pair .str (.pair .str (.int .i64)))) (.pair (.sl (.pair .str (.pair .str (.int .i64)))) (.sl .str))) (mo_k5 x1))) :: .top :: (.sr 0 0 (0 + (mo_k19 x0 x1 x2 x3 m)) 1 none) :: (.mp 1) :: tp59 ((.d (.sl (.sl (.pair .str .str)) (mo_k3 x0 x1 x2 x3 m))) :: (.d (.int .i64 (mo_k15 x0 x1 x2 x3 m))) :: (.d (.int .i64 (0))) :: tp69 [])))) (B := [(.arr (.sl (.pair .str .str)) (mo_k4 x0 x1 x2 x3 m) true), (.keys .str ([] : Q7))]) (by unfold l3_1H; (try rw [show (0 + (mo_k19 x0 x1 x2 x3 m)) = (mo_k19 x0 x1 x2 x3 m) from by simp]); (try simp only [Nat.zero_add, List.length_nil])) rfl h3
        exact Eq.trans (Eq.mp (by kernel_rfl) h3) hq
      rcases List.mem_cons.1 hp with rfl | hp
      · skip
        have h3 := l3_2_ok m (m + 24) ((mo_k7 x0 x1 x2 x3 m)) ((mo_k18 x0 x1 x2 x3 m)) 0 ((mo_k10 x0 x1 x2 x3 m).2.2) _ (some_getD (d := l3_2D) c19)
        exact Eq.trans (Eq.mp (by kernel_rfl) h3) hq
      cases hp
  · skip
    obtain ⟨c2, h⟩ := iY h
    obtain ⟨c3, h⟩ := iY h
    obtain ⟨c4, h⟩ := iY h
    obtain ⟨c5, h⟩ := iY h
    refine ite_cases h (fun c6 h => ?_) (fun c6 h => ?_)
    · skip
      obtain ⟨c7, h⟩ := iY h
      obtain ⟨c8, h⟩ := iY h
      obtain ⟨c12, h⟩ := iY h
      obtain ⟨c13, h⟩ := iY h
      obtain ⟨c14, h⟩ := iY h
      obtain ⟨c16, h⟩ := iY h
      obtain ⟨c17, h⟩ := iY h
      obtain ⟨c19, h⟩ := iY h
      refine ite_cases h (fun _ h => by cases h) (fun c20 h => ?_)
      obtain ⟨c21, h⟩ := iY h
      obtain ⟨c30, h⟩ := iY h
      obtain ⟨c31, h⟩ := iY h
      obtain ⟨c40, h⟩ := iY h
      obtain ⟨c44, h⟩ := iY h
      obtain ⟨c59, h⟩ := iY h
      cases h
      refine runT_ok (LS := (fun k => if k = 3599 then some (l3_0E x0 x1 x2 x3 ((mo_k1 x0 x1 x2 x3 m).2.1) ((mo_k1 x0 x1 x2 x3 m).2.2.1) ((mo_k1 x0 x1 x2 x3 m).2.2.2) 1) else if k = 528905046081400264040452 then some (l3_1E x2 (((mo_k5 x1))) (((mo_k3 x0 x1 x2 x3 m))) (((mo_k15 x0 x1 x2 x3 m))) ((mo_k9 x0 x1 x2 x3 m).2.1) (((mo_k2 x0 x1 x2 x3 m))) ((mo_k9 x0 x1 x2 x3 m).2.2) 0) else if k = 277298568799925181577403891712 then some (l3_2E (((mo_k6 x0 x1 x2 x3 m))) (((mo_k17 x0 x1 x2 x3 m))) ((l3_2R m (m + 24) ((mo_k6 x0 x1 x2 x3 m)) ((mo_k17 x0 x1 x2 x3 m)) 0 ((mo_k9 x0 x1 x2 x3 m).2.2)).2) (((mo_k9 x0 x1 x2 x3 m).2.2)) 0) else none)) (fn := fn3) (r := .d (.bool true)) (B' := []) (vis := [(3599, l3_0H x0 x1 x2 x3 0 (([] : Q3)) (([] : Q7)), l3_0B x0 x1 x2 x3 0 (([] : Q3)) (([] : Q7))), (528905046081400264040452, (.top :: .top :: (.d (.int .i64 x2)) :: tp10 ((.d (.sl (.pair (.sl (.pair .str (.pair .str (.int .i64)))) (.pair (.sl (.pair .str (.pair .str (.int .i64)))) (.sl .str))) (mo_k5 x1))) :: .top :: (.sr 0 0 ((0 + (mo_k8 x0 x1 x2 x3 m)) + (mo_k19 x0 x1 x2 x3 m)) 1 none) :: (.mp 1) :: tp59 ((.d (.sl (.sl (.pair .str .str)) (mo_k3 x0 x1 x2 x3 m))) :: (.d (.int .i64 (mo_k15 x0 x1 x2 x3 m))) :: (.d (.int .i64 (0))) :: tp69 []))), [(.arr (.sl (.pair .str .str)) (mo_k2 x0 x1 x2 x3 m) true), (.keys .str ([] : Q7))]), (277298568799925181577403891712, l3_2H ((mo_k6 x0 x1 x2 x3 m)) ((mo_k17 x0 x1 x2 x3 m)) 0 ((mo_k9 x0 x1 x2 x3 m).2.2), l3_2B ((mo_k6 x0 x1 x2 x3 m)) ((mo_k17 x0 x1 x2 x3 m)) 0 ((mo_k9 x0 x1 x2 x3 m).2.2))]) (by kernel_rfl) rfl (by kernel_rfl) (M.run_of_path _ [tT, tT, tT, tT, tT, tT, tT, tT, tT, tT, tT, tT, tT, tT, tT, tT, fF, tT, tT, tT, tT, tT, tT, tT, tT, tT, tT, tT, tT, tT, tT, tT, tT, tT, tT, tT, tT, tT, tT, tT, tT, tT, tT, tT, tT, tT, tT, tT, tT, tT, tT, tT, tT, tT, tT, tT] _ _ (by kernel_rfl) (all_t c3 (all_t c4 (all_t c5 (all_t c6 (all_t c7 (all_t c8 (all_t rfl (all_t c5 (all_t (show (decide (0 < (mo_k11 x0 x1 x2 x3 m)) || true) = true from Bool.or_true _) (all_t c12 (all_t c13 (all_t c14 (all_t (show decide ((0 + (mo_k11 x0 x1 x2 x3 m)) ≤ (mo_k11 x0 x1 x2 x3 m)) = true from decide_eq_true (Nat.le_of_eq (Nat.zero_add _))) (all_t c16 (all_t (show decide ((0 + (mo_k22 x0 x1 x2 x3 m)) ≤ (mo_k22 x0 x1 x2 x3 m)) = true from decide_eq_true (Nat.le_of_eq (Nat.zero_add _))) (all_t c19 (all_f c20 (all_t rfl (all_t rfl (all_t rfl (all_t rfl (all_t rfl (all_t rfl (all_t rfl (all_t rfl (all_t c30 (all_t c31 (all_t c31 (all_t rfl (all_t c31 (all_t c31 (all_t c31 (all_t rfl (all_t rfl (all_t rfl (all_t c40 (all_t c31 (all_t c31 (all_t c31 (all_t c44 (all_t c44 (all_t c44 (all_t rfl (all_t rfl (all_t c44 (all_t c44 (all_t c44 (all_t rfl (all_t rfl (all_t rfl (all_t c30 (all_t c44 (all_t c44 (all_t c44 (all_t c59 (all_t c59 all_nil))))))))))))))))))))))))))))))))))))))))))))))))))))))))) ?_
      intro p hp p2 hq
      rcases List.mem_cons.1 hp with rfl | hp
      · skip
        have h3 := l3_0_ok m (m + 24) x0 x1 x2 x3 0 (([] : Q3)) (([] : Q7)) _ (some_getD (d := l3_0D) c0)
        rw [eq_of_beq c2] at h3
        exact Eq.trans (Eq.mp (by kernel_rfl) h3) hq
      rcases List.mem_cons.1 hp with rfl | hp
      · skip
        have h3 := l3_1_ok m (m + 24) x2 ((mo_k5 x1)) ((mo_k3 x0 x1 x2 x3 m)) ((mo_k15 x0 x1 x2 x3 m)) 0 ((mo_k2 x0 x1 x2 x3 m)) (([] : Q7)) _ (some_getD (d := l3_1D) c17)
        have h3 := turns_eq (e := (.top :: .top :: (.d (.int .i64 x2)) :: tp10 ((.d (.sl (.pair (.sl (.pair .str (.pair .str (.int .i64)))) (.pair (.sl (.pair .str (.pair .str (.int .i64)))) (.sl .str))) (mo_k5 x1))) :: .top :: (.sr 0 0 ((0 + (mo_k8 x0 x1 x2 x3 m)) + (mo_k19 x0 x1 x2 x3 m)) 1 none) :: (.mp 1) :: tp59 ((.d (.sl (.sl (.pair .str .str)) (mo_k3 x0 x1 x2 x3 m))) :: (.d (.int .i64 (mo_k15 x0 x1 x2 x3 m))) :: (.d (.int .i64 (0))) :: tp69 [])))) (B := [(.arr (.sl (.pair .str .str)) (mo_k2 x0 x1 x2 x3 m) true), (.keys .str ([] : Q7))]) (by unfold l3_1H; (try rw [show (List.length (mo_k2 x0 x1 x2 x3 m)) = ((0 + (mo_k8 x0 x1 x2 x3 m)) + (mo_k19 x0 x1 x2 x3 m)) from by simp]); (try simp only [Nat.zero_add, List.length_nil])) rfl h3
        exact Eq.trans (Eq.mp (by kernel_rfl) h3) hq
      rcases List.mem_cons.1 hp with rfl | hp
      · skip
        have h3 := l3_2_ok m (m + 24) ((mo_k6 x0 x1 x2 x3 m)) ((mo_k17 x0 x1 x2 x3 m)) 0 ((mo_k9 x0 x1 x2 x3 m).2.2) _ (some_getD (d := l3_2D) c21)
        exact Eq.trans (Eq.mp (by kernel_rfl) h3) hq
      cases hp
    · skip
      obtain ⟨c11, h⟩ := iY h
      obtain ⟨c12, h⟩ := iY h
      obtain ⟨c15, h⟩ := iY h
      obtain ⟨c16, h⟩ := iY h
      obtain ⟨c18, h⟩ := iY h
      refine ite_cases h (fun _ h => by cases h) (fun c19 h => ?_)
      obtain ⟨c20, h⟩ := iY h
      obtain ⟨c29, h⟩ := iY h
      obtain ⟨c30, h⟩ := iY h
      obtain ⟨c39, h⟩ := iY h
      obtain ⟨c43, h⟩ := iY h
      obtain ⟨c58, h⟩ := iY h
      cases h
      refine runT_ok (LS := (fun k => if k = 3599 then some (l3_0E x0 x1 x2 x3 ((mo_k1 x0 x1 x2 x3 m).2.1) ((mo_k1 x0 x1 x2 x3 m).2.2.1) ((mo_k1 x0 x1 x2 x3 m).2.2.2) 1) else if k = 528905046081400264040452 then some (l3_1E x2 (((mo_k5 x1))) (((mo_k3 x0 x1 x2 x3 m))) (((mo_k15 x0 x1 x2 x3 m))) ((mo_k10 x0 x1 x2 x3 m).2.1) (((mo_k4 x0 x1 x2 x3 m))) ((mo_k10 x0 x1 x2 x3 m).2.2) 0) else if k = 277298568799925181577403891712 then some (l3_2E (((mo_k7 x0 x1 x2 x3 m))) (((mo_k18 x0 x1 x2 x3 m))) ((l3_2R m (m + 24) ((mo_k7 x0 x1 x2 x3 m)) ((mo_k18 x0 x1 x2 x3 m)) 0 ((mo_k10 x0 x1 x2 x3 m).2.2)).2) (((mo_k10 x0 x1 x2 x3 m).2.2)) 0) else none)) (fn := fn3) (r := .d (.bool true)) (B' := []) (vis := [(3599, l3_0H x0 x1 x2 x3 0 (([] : Q3)) (([] : Q7)), l3_0B x0 x1 x2 x3 0 (([] : Q3)) (([] : Q7))), (528905046081400264040452, (.top :: .top :: (.d (.int .i64 x2)) :: tp10 ((.d (.sl (.pair (.sl (.pair .str (.pair .str (.int .i64)))) (.pair (.sl (.pair .str (.pair .str (.int .i64)))) (.sl .str))) (mo_k5 x1))) :: .top :: (.sr 0 0 (0 + (mo_k19 x0 x1 x2 x3 m)) 1 none) :: (.mp 1) :: tp59 ((.d (.sl (.sl (.pair .str .str)) (mo_k3 x0 x1 x2 x3 m))) :: (.d (.int .i64 (mo_k15 x0 x1 x2 x3 m))) :: (.d (.int .i64 (0))) :: tp69 []))), [(.arr (.sl (.pair .str .str)) (mo_k4 x0 x1 x2 x3 m) true), (.keys .str ([] : Q7))]), (277298568799925181577403891712, l3_2H ((mo_k7 x0 x1 x2 x3 m)) ((mo_k18 x0 x1 x2 x3 m)) 0 ((mo_k10 x0 x1 x2 x3 m).2.2), l3_2B ((mo_k7 x0 x1 x2 x3 m)) ((mo_k18 x0 x1 x2 x3 m)) 0 ((mo_k10 x0 x1 x2 x3 m).2.2))]) (by kernel_rfl) rfl (by kernel_rfl) (M.run_of_path _ [tT, tT, tT, fF, tT, tT, tT, tT, tT, tT, tT, tT, tT, tT, tT, fF, tT, tT, tT, tT, tT, tT, tT, tT, tT, tT, tT, tT, tT, tT, tT, tT, tT, tT, tT, tT, tT, tT, tT, tT, tT, tT, tT, tT, tT, tT, tT, tT, tT, tT, tT, tT, tT, tT, tT] _ _ (by kernel_rfl) (all_t c3 (all_t c4 (all_t c5 (all_f c6 (all_t rfl (all_t rfl (all_t c5 (all_t (show (decide (0 < (mo_k11 x0 x1 x2 x3 m)) || true) = true from Bool.or_true _) (all_t c11 (all_t c12 (all_t rfl (all_t (show decide ((0 + (mo_k11 x0 x1 x2 x3 m)) ≤ (mo_k11 x0 x1 x2 x3 m)) = true from decide_eq_true (Nat.le_of_eq (Nat.zero_add _))) (all_t c15 (all_t (show decide ((0 + (mo_k23 x0 x1 x2 x3 m)) ≤ (mo_k23 x0 x1 x2 x3 m)) = true from decide_eq_true (Nat.le_of_eq (Nat.zero_add _))) (all_t c18 (all_f c19 (all_t rfl (all_t rfl (all_t rfl (all_t rfl (all_t rfl (all_t rfl (all_t rfl (all_t rfl (all_t c29 (all_t c30 (all_t c30 (all_t rfl (all_t c30 (all_t c30 (all_t c30 (all_t rfl (all_t rfl (all_t rfl (all_t c39 (all_t c30 (all_t c30 (all_t c30 (all_t c43 (all_t c43 (all_t c43 (all_t rfl (all_t rfl (all_t c43 (all_t c43 (all_t c43 (all_t rfl (all_t rfl (all_t rfl (all_t c29 (all_t c43 (all_t c43 (all_t c43 (all_t c58 (all_t c58 all_nil)))))))))))))))))))))))))))))))))))))))))))))))))))))))) ?_
      intro p hp p2 hq
      rcases List.mem_cons.1 hp with rfl | hp
      · skip
        have h3 := l3_0_ok m (m + 24) x0 x1 x2 x3 0 (([] : Q3)) (([] : Q7)) _ (some_getD (d := l3_0D) c0)
        rw [eq_of_beq c2] at h3
        exact Eq.trans (Eq.mp (by kernel_rfl) h3) hq
      rcases List.mem_cons.1 hp with rfl | hp
      · skip
        have h3 := l3_1_ok m (m + 24) x2 ((mo_k5 x1)) ((mo_k3 x0 x1 x2 x3 m)) ((mo_k15 x0 x1 x2 x3 m)) 0 ((mo_k4 x0 x1 x2 x3 m)) (([] : Q7)) _ (some_getD (d := l3_1D) c16)
        have h3 := turns_eq (e := (.top :: .top :: (.d (.int .i64 x2)) :: tp10 ((.d (.sl (.pair (.sl (.pair .str (.pair .str (.int .i64)))) (.pair (.sl (.pair .str (.pair .str (.int .i64)))) (.sl .str))) (mo_k5 x1))) :: .top :: (.sr 0 0 (0 + (mo_k19 x0 x1 x2 x3 m)) 1 none) :: (.mp 1) :: tp59 ((.d (.sl (.sl (.pair .str .str)) (mo_k3 x0 x1 x2 x3 m))) :: (.d (.int .i64 (mo_k15 x0 x1 x2 x3 m))) :: (.d (.int .i64 (0))) :: tp69 [])))) (B := [(.arr (.sl (.pair .str .str)) (mo_k4 x0 x1 x2 x3 m) true), (.keys .str ([] : Q7))]) (by unfold l3_1H; (try rw [show (0 + (mo_k19 x0 x1 x2 x3 m)) = (mo_k19 x0 x1 x2 x3 m) from by simp]); (try simp only [Nat.zero_add, List.length_nil])) rfl h3
        exact Eq.trans (Eq.mp (by kernel_rfl) h3) hq
      rcases List.mem_cons.1 hp with rfl | hp
      · skip
        have h3 := l3_2_ok m (m + 24) ((mo_k7 x0 x1 x2 x3 m)) ((mo_k18 x0 x1 x2 x3 m)) 0 ((mo_k10 x0 x1 x2 x3 m).2.2) _ (some_getD (d := l3_2D) c20)
        exact Eq.trans (Eq.mp (by kernel_rfl) h3) hq
      cases hp
theorem mo_at (x0 : Q6) (x1 : Q0) (x2 : Int) (x3 : Int) (h : ∃ m q, mo m x0 x1 x2 x3 = some q) : ∃ g B', CallAt Tryd.prog 3 g ∧ (g [(.d (.sl (.pair (.sl (.int .i64)) (.sl (.int .i64))) x0)), (.d (.sl (.pair (.sl (.pair .str (.pair .str (.int .i64)))) (.pair (.sl (.pair .str (.pair .str (.int .i64)))) (.sl .str))) x1)), (.d (.int .i64 x2)), (.d (.int .i64 x3))] []).run = some (.d (.bool true), B') := by
  obtain ⟨m, q, h⟩ := h
  exact ⟨_, _, evCall_atH mixed kinds hds S20 S20_ok (m + 25) 3, mo_ok m x0 x1 x2 x3 q h⟩

end Go.Proofs.YtahdcmicifokgaaDoor.Dec
namespace Go.Proofs.YtahdcmicifokgaaDoor.Dec
open Go.Ev
set_option linter.unusedVariables false
set_option linter.unusedSimpArgs false
set_option maxRecDepth 100000
set_option maxHeartbeats 20000000
theorem hasKeyS_cons (x : Q8) (l : Q7) (t : Q8) : hasKey .str (x :: l) t = ((t == x) || hasKey .str l t) := rfl
theorem hasKeyS_iff : ∀ (l : Q7) (t : Q8), hasKey .str l t = true ↔ t ∈ l
  | [], t => by
    constructor
    · intro h; exact absurd h (by simp [hasKey])
    · intro h; simp at h
  | x :: l, t => by rw [hasKeyS_cons, Bool.or_eq_true, beq_iff_eq, hasKeyS_iff l t, List.mem_cons]
theorem addKeyS_new {l : Q7} {t : Q8} (h : ¬ t ∈ l) : addKey .str l t = l ++ [t] := by
  unfold addKey
  rw [if_neg (fun q => h ((hasKeyS_iff l t).1 q))]
def GoodS (s : LB) : Prop := s.length ≤ 3 ∧ lrightPre s = true
theorem setG_good (k : List Int × List Int) : GoodS (setG k) := by
  unfold setG GoodS lrightPre
  generalize bit1 k.1 0 0 = a
  generalize bit1 k.1 1 1 = b
  generalize bit1 k.1 2 2 = c
  generalize valG k.2 0 = u
  generalize valG k.2 1 = v
  generalize valG k.2 2 = w
  cases a <;> cases b <;> cases c <;> refine ⟨by simp, decide_eq_true ⟨by simp, ?_⟩⟩ <;> intro x hx <;> simp at hx <;> (try rcases hx with rfl | rfl | rfl) <;> (try rcases hx with rfl | rfl) <;> (try subst hx) <;> simp
abbrev Apart (b : List LB) : Prop := b.Pairwise fun s t => lprintG s ≠ lprintG t
theorem moput_loop (m : Nat) (x0 : Q6) (x1 : HS) (x2 x3 : Int) : ∀ (n i : Nat) (b : List LB), i ≤ 6 → i ≤ x0.length → 6 - i < n → b.length ≤ i → (∀ s ∈ b, GoodS s) → Apart b →
    ∃ e j b', l3_0 m n x0 x1 x2 x3 (i : Nat) b (b.map lprintG) = some (e, j, b', b'.map lprintG) ∧ (e = 0 ∨ e = 1) ∧ b'.length ≤ 6 ∧ (∀ s ∈ b', GoodS s) ∧ Apart b'
  | 0, i, b, _, _, h, _, _, _ => by omega
  | n + 1, i, b, h1, h2, h3, h4, h5, h6 => by
    rw [l3_0]
    by_cases hi : i < x0.length
    · have e1 : decide (((i : Nat) : Int) < (((List.length x0) : Nat) : Int)) = true := decide_eq_true (by omega)
      by_cases hj : i < 6
      · have e2 : decide (((i : Nat) : Int) < 6) = true := decide_eq_true (by omega)
        have e3 : decide ((0 : Int) ≤ ((i : Nat) : Int)) = true := decide_eq_true (by omega)
        have e7 : IntKind.wrap .i64 (((i : Nat) : Int) + (1)) = ((i + 1 : Nat) : Int) := by rw [wrap_id (by omega) (by omega)]; rfl
        have e4 : decide ((((List.length b) + 1) * 24) ≤ 70368744177664) = true := decide_eq_true (by omega)
        rw [Int.toNat_natCast, e7, if_pos e1, if_pos e2, if_pos e3, if_pos e4]
        have hg := setG_good (x0.getD i (([] : List Int), ([] : List Int)))
        generalize setG (x0.getD i (([] : List Int), ([] : List Int))) = s at hg
        rw [if_pos hg.2]
        by_cases hk : lprintG s ∈ b.map lprintG
        · rw [if_pos ((hasKeyS_iff _ _).2 hk)]
          exact moput_loop m x0 x1 x2 x3 n (i + 1) b (by omega) (by omega) (by omega) (by omega) h5 h6
        · rw [if_neg (fun q => hk ((hasKeyS_iff _ _).1 q)), addKeyS_new hk]
          have := moput_loop m x0 x1 x2 x3 n (i + 1) (b ++ [s]) (by omega) (by omega) (by omega) (by simp; omega) (fun t ht => by
            rcases List.mem_append.1 ht with ht | ht
            · exact h5 t ht
            · rw [List.mem_singleton.1 ht]; exact hg) (List.pairwise_append.2 ⟨h6, List.pairwise_singleton _ _, fun t ht u hu => by
              rw [List.mem_singleton.1 hu]
              intro q
              exact hk (q ▸ List.mem_map_of_mem ht)⟩)
          rw [List.map_append, List.map_cons, List.map_nil] at this
          exact this
      · have e2 : decide (((i : Nat) : Int) < 6) = false := decide_eq_false (by omega)
        rw [if_pos e1, e2, if_neg (by simp)]
        exact ⟨0, _, b, rfl, .inl rfl, by omega, h5, h6⟩
    · have e1 : decide (((i : Nat) : Int) < (((List.length x0) : Nat) : Int)) = false := decide_eq_false (by omega)
      rw [e1, if_neg (by simp)]
      exact ⟨1, _, b, rfl, .inr rfl, by omega, h5, h6⟩
theorem mokeys_loop (m : Nat) (x2 : Int) (hs : HS) (B0 H : List LB) (h1 : H.length ≤ 6) (h2 : ∀ s ∈ H, GoodS s) (h3 : Apart H) : ∀ (n k : Nat), k ≤ H.length → H.length - k < n →
    ∃ j, l3_1 m n x2 hs H ((H.length : Nat) : Int) (k : Nat) B0 ((H.take k).map lprintG) = some (0, j, H.map lprintG)
  | 0, k, _, h => by omega
  | n + 1, k, g1, g2 => by
    rw [l3_1]
    by_cases hk : k < H.length
    · have e1 : decide (((k : Nat) : Int) < (((List.length H) : Nat) : Int)) = true := decide_eq_true (by omega)
      have e3 : decide ((0 : Int) ≤ ((k : Nat) : Int)) = true := decide_eq_true (by omega)
      have e7 : IntKind.wrap .i64 (((k : Nat) : Int) + (1)) = ((k + 1 : Nat) : Int) := by rw [wrap_id (by omega) (by omega)]; rfl
      have hg := h2 _ (getD_mem H k ([] : LB) hk)
      rw [Int.toNat_natCast, e7, if_pos e1, if_pos e3, if_pos e1, if_pos hg.2]
      have hn : ¬ lprintG (H.getD k ([] : LB)) ∈ (H.take k).map lprintG := by
        intro q
        obtain ⟨s, q1, q2⟩ := List.mem_map.1 q
        obtain ⟨i, q3, q4⟩ := List.getElem_of_mem q1
        have hlt : i < k := by rw [List.length_take] at q3; omega
        have := List.pairwise_iff_getElem.1 h3 i k (by omega) hk hlt
        rw [List.getElem_take] at q4
        rw [q4, q2] at this
        exact this (by rw [List.getD_eq_getElem?_getD, List.getElem?_eq_getElem hk]; rfl)
      rw [addKeyS_new hn]
      have := mokeys_loop m x2 hs B0 H h1 h2 h3 n (k + 1) (by omega) (by omega)
      rw [take_succ_getD H k ([] : LB) hk, List.map_append, List.map_cons, List.map_nil] at this
      exact this
    · have e1 : decide (((k : Nat) : Int) < (((List.length H) : Nat) : Int)) = false := decide_eq_false (by omega)
      rw [e1, if_neg (by simp), List.take_of_length_le (by omega)]
      exact ⟨_, rfl⟩
theorem moask_loop (m : Nat) (L : List LB) (ks : Q7) (h1 : L.length ≤ 6) (h2 : ∀ s ∈ L, GoodS s ∧ lprintG s ∈ ks) : ∀ (n k : Nat), k ≤ L.length → L.length - k < n →
    ∃ j, l3_2 m n L ((L.length : Nat) : Int) (k : Nat) ks = some (0, j)
  | 0, k, _, h => by omega
  | n + 1, k, g1, g2 => by
    rw [l3_2]
    by_cases hk : k < L.length
    · have e1 : decide (((k : Nat) : Int) < (((List.length L) : Nat) : Int)) = true := decide_eq_true (by omega)
      have e3 : decide ((0 : Int) ≤ ((k : Nat) : Int)) = true := decide_eq_true (by omega)
      have e7 : IntKind.wrap .i64 (((k : Nat) : Int) + (1)) = ((k + 1 : Nat) : Int) := by rw [wrap_id (by omega) (by omega)]; rfl
      have hg := h2 _ (getD_mem L k ([] : LB) hk)
      rw [Int.toNat_natCast, e7, if_pos e1, if_pos e3, if_pos e1, if_pos hg.1.2, if_pos ((hasKeyS_iff _ _).2 hg.2)]
      exact moask_loop m L ks h1 h2 n (k + 1) (by omega) (by omega)
    · have e1 : decide (((k : Nat) : Int) < (((List.length L) : Nat) : Int)) = false := decide_eq_false (by omega)
      rw [e1, if_neg (by simp)]
      exact ⟨_, rfl⟩
theorem any_turn {α : Type} (p : α → Bool) (a b : List α) : (b ++ a).any p = (a ++ b).any p := by rw [List.any_append, List.any_append, Bool.or_comm]
theorem quiet_turn (a b : List LB) (t : Int) (ss : SS) (hs : HS) : quietG (b ++ a) t ss hs = quietG (a ++ b) t ss hs := by
  funext x
  unfold quietG
  congr 2
  congr 1
  funext h
  unfold inhBy
  rw [any_turn]
theorem mo_in (x lo hi : Int) (h : lo ≤ hi) : lo ≤ withinI x lo hi ∧ withinI x lo hi ≤ hi := by
  have h1 := Int.emod_nonneg x (show hi - lo + 1 ≠ 0 by omega)
  have h2 := Int.emod_lt_of_pos x (show 0 < hi - lo + 1 by omega)
  unfold withinI
  omega
theorem mo_pre {A : List LB} {hs : HS} (h1 : A.length ≤ 6) (h2 : ∀ s ∈ A, GoodS s) (h3 : hs.length ≤ 4) (h4 : ∀ h ∈ hs, h.1.length ≤ 9223372036854775807 ∧ h.2.1.length ≤ 9223372036854775807 ∧ h.2.2.length ≤ 9223372036854775807) : heardPre A [] hs = true := by
  unfold heardPre inhPre
  rw [Bool.and_eq_true]
  exact ⟨decide_eq_true ⟨by simp, fun s h => by simp at h⟩, decide_eq_true ⟨by omega, fun s h => by have := (h2 s h).1; omega, by omega, h4⟩⟩
theorem mo_pure (x0 : Q6) (x1 : HS) (x2 x3 : Int) (hok : ∀ h ∈ x1, h.1.length ≤ 9223372036854775807 ∧ h.2.1.length ≤ 9223372036854775807 ∧ h.2.2.length ≤ 9223372036854775807) : ∃ m q, mo m x0 x1 x2 x3 = some q := by
  obtain ⟨e, j, A, r1, re, a1, a2, a3⟩ := moput_loop 100 x0 x1 x2 x3 (100 + 24) 0 [] (by omega) (by omega) (by omega) (by simp) (fun s h => by simp at h) List.Pairwise.nil
  have K1 : mo_k1 x0 x1 x2 x3 100 = (e, j, A, A.map lprintG) := by
    show Option.getD _ _ = _
    rw [show l3_0 100 (100 + 24) x0 x1 x2 x3 0 ([] : List LB) ([] : Q7) = _ from r1]; rfl
  obtain ⟨p, hp, hp4, hpl⟩ : ∃ p : Nat, mo_k20 x1 = (p : Int) ∧ p ≤ 4 ∧ p ≤ x1.length := by
    unfold mo_k20
    split
    · exact ⟨4, rfl, by omega, by omega⟩
    · exact ⟨x1.length, rfl, by omega, by omega⟩
  have K5 : mo_k5 x1 = x1.take p := by
    have : mo_k5 x1 = List.drop 0 (List.take (Int.toNat (mo_k20 x1)) x1) := rfl
    rw [this, hp, Int.toNat_natCast, List.drop_zero]
  generalize hH : x1.take p = hs at K5
  have hs4 : hs.length ≤ 4 := by rw [← hH, List.length_take]; omega
  have hsok : ∀ h ∈ hs, h.1.length ≤ 9223372036854775807 ∧ h.2.1.length ≤ 9223372036854775807 ∧ h.2.2.length ≤ 9223372036854775807 := fun h hh => hok h (List.mem_of_mem_take (hH ▸ hh))
  have K11 : mo_k11 x0 x1 x2 x3 100 = A.length := by unfold mo_k11; rw [K1]
  have hw := mo_in x3 0 ((A.length : Nat) : Int) (by omega)
  obtain ⟨c, hc, hcl⟩ : ∃ c : Nat, withinI x3 0 ((A.length : Nat) : Int) = (c : Int) ∧ c ≤ A.length := ⟨(withinI x3 0 ((A.length : Nat) : Int)).toNat, by omega, by omega⟩
  have K16 : mo_k16 x0 x1 x2 x3 100 = (c : Int) := by unfold mo_k16; rw [K11]; exact hc
  have K21 : mo_k21 x0 x1 x2 x3 100 = A := by unfold mo_k21; rw [K11, K1, List.drop_zero, List.take_length]
  have K4 : mo_k4 x0 x1 x2 x3 100 = A.take c := by
    unfold mo_k4
    rw [K1]
    show List.take (Int.toNat (withinI x3 0 ((A.length : Nat) : Int)) - 0) (List.drop 0 A) = _
    rw [hc, Int.toNat_natCast, List.drop_zero, Nat.sub_zero]
  have K8 : mo_k8 x0 x1 x2 x3 100 = A.length - c := by
    unfold mo_k8
    rw [K1]
    show (List.take (A.length - Int.toNat (withinI x3 0 ((A.length : Nat) : Int))) (List.drop (0 + Int.toNat (withinI x3 0 ((A.length : Nat) : Int))) A)).length = _
    rw [hc, Int.toNat_natCast, List.length_take, List.length_drop]
    omega
  have K2 : mo_k2 x0 x1 x2 x3 100 = A.drop c ++ A.take c := by
    unfold mo_k2
    rw [K1]
    show List.take (A.length - Int.toNat (withinI x3 0 ((A.length : Nat) : Int))) (List.drop (0 + Int.toNat (withinI x3 0 ((A.length : Nat) : Int))) A) ++ List.take (Int.toNat (withinI x3 0 ((A.length : Nat) : Int)) - 0) (List.drop 0 A) = _
    rw [hc, Int.toNat_natCast, List.drop_zero, Nat.sub_zero, Nat.zero_add, List.take_of_length_le (by rw [List.length_drop]; omega)]
  have K19 : mo_k19 x0 x1 x2 x3 100 = c := by unfold mo_k19; rw [K4, List.length_take]; omega
  have K3 : mo_k3 x0 x1 x2 x3 100 = heardG A x2 [] hs := by
    have : mo_k3 x0 x1 x2 x3 100 = heardG (mo_k21 x0 x1 x2 x3 100) x2 [] (mo_k5 x1) := rfl
    rw [this, K21, K5]
  generalize hT : A.drop c ++ A.take c = T at K2
  have tl : T.length = A.length := by rw [← hT, List.length_append, List.length_drop, List.length_take]; omega
  have tm : ∀ s ∈ T, s ∈ A := fun s h => by
    rw [← hT] at h
    rcases List.mem_append.1 h with h | h
    · exact List.mem_of_mem_drop h
    · exact List.mem_of_mem_take h
  have tq : quietG T x2 [] hs = quietG A x2 [] hs := by
    rw [← hT, quiet_turn, List.take_append_drop]
  have tlen : (heardG T x2 [] hs).length = (heardG A x2 [] hs).length := by
    unfold heardG
    rw [tq, ← hT, List.filter_append, List.length_append]
    have ha : ∀ q : LB → Bool, (A.filter q).length = ((A.drop c).filter q).length + ((A.take c).filter q).length := fun q => by
      conv => lhs; rw [← List.take_append_drop c A]
      rw [List.filter_append, List.length_append]
      omega
    exact (ha _).symm
  have hsub : (heardG A x2 [] hs).Sublist A := List.filter_sublist
  have hl : (heardG A x2 [] hs).length ≤ 6 := Nat.le_trans hsub.length_le a1
  have hg : ∀ s ∈ heardG A x2 [] hs, GoodS s := fun s h => a2 s (hsub.subset h)
  have hap : Apart (heardG A x2 [] hs) := a3.sublist hsub
  have K22 : mo_k22 x0 x1 x2 x3 100 = T.length := by unfold mo_k22; rw [K2]
  have K23 : mo_k23 x0 x1 x2 x3 100 = c := by unfold mo_k23; rw [K4, List.length_take]; omega
  have K15 : mo_k15 x0 x1 x2 x3 100 = (((heardG A x2 [] hs).length : Nat) : Int) := by unfold mo_k15; rw [K3]
  have K6 : mo_k6 x0 x1 x2 x3 100 = heardG T x2 [] hs := by unfold mo_k6; rw [K2, K5, List.drop_zero, List.take_length]
  have K7 : c = A.length → mo_k7 x0 x1 x2 x3 100 = heardG T x2 [] hs := fun q => by
    unfold mo_k7
    rw [K4, K5, List.drop_zero, List.take_length]
    rw [← hT, q, List.drop_length, List.nil_append]
  have K17 : mo_k17 x0 x1 x2 x3 100 = (((heardG A x2 [] hs).length : Nat) : Int) := by unfold mo_k17; rw [K6, tlen]
  have K18 : c = A.length → mo_k18 x0 x1 x2 x3 100 = (((heardG A x2 [] hs).length : Nat) : Int) := fun q => by unfold mo_k18; rw [K7 q, tlen]
  have lk := fun B0 => mokeys_loop 100 x2 hs B0 (heardG A x2 [] hs) hl hg hap (100 + 24) 0 (by omega) (by omega)
  have K9 : ∃ j, mo_k9 x0 x1 x2 x3 100 = (0, j, (heardG A x2 [] hs).map lprintG) := by
    obtain ⟨j, q⟩ := lk T
    refine ⟨j, ?_⟩
    unfold mo_k9 l3_1R
    rw [K2, K3, K5, show l3_1 100 (100 + 24) x2 hs (heardG A x2 [] hs) (((heardG A x2 [] hs).length : Nat) : Int) 0 T ([] : Q7) = _ from q]
    rfl
  have K10 : ∃ j, mo_k10 x0 x1 x2 x3 100 = (0, j, (heardG A x2 [] hs).map lprintG) := by
    obtain ⟨j, q⟩ := lk (A.take c)
    refine ⟨j, ?_⟩
    unfold mo_k10 l3_1R
    rw [K4, K3, K5, show l3_1 100 (100 + 24) x2 hs (heardG A x2 [] hs) (((heardG A x2 [] hs).length : Nat) : Int) 0 (A.take c) ([] : Q7) = _ from q]
    rfl
  obtain ⟨j9, K9⟩ := K9
  obtain ⟨j10, K10⟩ := K10
  obtain ⟨jt, lt⟩ := lk T
  obtain ⟨jc, lc⟩ := lk (A.take c)
  obtain ⟨ja, la⟩ := moask_loop 100 (heardG T x2 [] hs) ((heardG A x2 [] hs).map lprintG) (by omega) (fun s h => by
    unfold heardG at h
    rw [tq] at h
    have := List.mem_filter.1 h
    have hm : s ∈ heardG A x2 [] hs := List.mem_filter.2 ⟨tm s this.1, this.2⟩
    exact ⟨hg s hm, List.mem_map_of_mem hm⟩) (100 + 24) 0 (by omega) (by omega)
  rw [tlen] at la
  have d1 : (decide (0 ≤ ((p : Nat) : Int)) && decide (((p : Nat) : Int) ≤ (((List.length x1) : Nat) : Int))) = true := by rw [decide_eq_true (by omega), decide_eq_true (by omega)]; rfl
  have d2 : ((decide (0 ≤ ((A.length : Nat) : Int)) && decide (((A.length : Nat) : Int) ≤ 2305843009213693951)) && decide ((((A.length : Nat) : Int) - (0)) ≤ 2305843009213693951)) = true := by rw [decide_eq_true (by omega), decide_eq_true (by omega), decide_eq_true (by omega)]; rfl
  have d3 : (decide (0 ≤ ((c : Nat) : Int)) && decide (((c : Nat) : Int) ≤ ((A.length : Nat) : Int))) = true := by rw [decide_eq_true (by omega), decide_eq_true (by omega)]; rfl
  have d5 : decide (((0 + c) + (A.length - c)) ≤ A.length) = true := decide_eq_true (by omega)
  have d6 : decide (((0 + (A.length - c)) * 24) ≤ 70368744177664) = true := decide_eq_true (by omega)
  have d7 : decide ((0 + (c - 0)) ≤ A.length) = true := decide_eq_true (by omega)
  have d8 : decide ((((0 + (A.length - c)) + c) * 24) ≤ 70368744177664) = true := decide_eq_true (by omega)
  have d9 : decide ((0 + (A.length - c)) = (A.length - c)) = true := decide_eq_true (by omega)
  have d10 : decide (((0 + c) * 24) ≤ 70368744177664) = true := decide_eq_true (by omega)
  have p1 : heardPre A [] hs = true := mo_pre a1 a2 hs4 hsok
  have p2 : heardPre T [] hs = true := mo_pre (by omega) (fun s h => a2 s (tm s h)) hs4 hsok
  have q1 : mo_k12 = true := by decide +kernel
  have q2 : mo_k13 = true := by decide +kernel
  have q3 : mo_k14 = true := by decide +kernel
  have w1 : heardPre [[(([97] : Q8), ([120] : Q8))], [(([98] : Q8), ([49] : Q8))]] [([(([97] : Q8), (([120] : Q8), ((1 : Int))))], ((0), (9)))] [([(([97] : Q8), (([120] : Q8), (1)))], ([(([98] : Q8), (([49] : Q8), (1)))], ([] : Q7)))] = true := by decide +kernel
  have w2 : heardPre [[(([98] : Q8), ([49] : Q8))]] [([(([97] : Q8), (([120] : Q8), ((1 : Int))))], ((0), (9)))] [([(([97] : Q8), (([120] : Q8), (1)))], ([(([98] : Q8), (([49] : Q8), (1)))], ([] : Q7)))] = true := by decide +kernel
  refine ⟨100, (), ?_⟩
  unfold mo
  rw [show l3_0 100 (100 + 24) x0 x1 x2 x3 0 ([] : List LB) ([] : Q7) = _ from r1]
  simp only [K1, K2, K3, K4, K5, K6, K8, K9, K10, hp, K11, K15, K16, K17, K19, K21, K22, K23, q1, q2, q3, Int.toNat_natCast, d1, d2, d3, d5, d6, d7, d8, d9, d10, p1, w1, w2, ↓reduceIte, Option.isSome_some, List.drop_zero, List.take_length, List.length_map, p2, bne_self_eq_false, Bool.false_eq_true]
  have Z1 : l3_1 100 (100 + 24) x2 hs (heardG A x2 [] hs) (((heardG A x2 [] hs).length : Nat) : Int) 0 T ([] : Q7) = _ := lt
  have Z2 : l3_1 100 (100 + 24) x2 hs (heardG A x2 [] hs) (((heardG A x2 [] hs).length : Nat) : Int) 0 (A.take c) ([] : Q7) = _ := lc
  have Z3 : l3_2 100 (100 + 24) (heardG T x2 [] hs) (((heardG A x2 [] hs).length : Nat) : Int) 0 ((heardG A x2 [] hs).map lprintG) = _ := la
  by_cases hb : c < A.length ∨ c = 0
  · have d4 : (decide (c < A.length) || decide (c = 0)) = true := by
      rw [Bool.or_eq_true]
      rcases hb with h | h
      · exact .inl (decide_eq_true h)
      · exact .inr (decide_eq_true h)
    simp only [d4, ↓reduceIte, Z1, Z3, Option.isSome_some]
    rcases re with rfl | rfl <;> simp
  · have hca : c = A.length := by omega
    have d4 : (decide (c < A.length) || decide (c = 0)) = false := by
      rw [decide_eq_false (by omega), decide_eq_false (by omega)]; rfl
    have ht : A.take c = T := by rw [← hT, hca, List.drop_length, List.nil_append]
    simp only [d4, ↓reduceIte, Z2, Z3, Option.isSome_some, Bool.false_eq_true, K7 hca, K18 hca, bne_self_eq_false, List.take_take, Nat.min_self, ht ▸ p2]
    rcases re with rfl | rfl <;> simp
theorem mo_law (x0 : Q6) (x1 : HS) (x2 x3 : Int) (_ : Ty.ok (.sl (.pair (.sl (.int .i64)) (.sl (.int .i64)))) x0) (ok1 : Ty.ok (.sl (.pair (.sl (.pair .str (.pair .str (.int .i64)))) (.pair (.sl (.pair .str (.pair .str (.int .i64)))) (.sl .str)))) x1) (_ : Ty.ok (.int .i64) x2) (_ : Ty.ok (.int .i64) x3) : ∃ g B', CallAt Tryd.prog 3 g ∧ (g [argAV false (.sl (.pair (.sl (.int .i64)) (.sl (.int .i64)))) x0, argAV false (.sl (.pair (.sl (.pair .str (.pair .str (.int .i64)))) (.pair (.sl (.pair .str (.pair .str (.int .i64)))) (.sl .str)))) x1, argAV false (.int .i64) x2, argAV false (.int .i64) x3] []).run = some (.d (.bool true), B') := mo_at x0 x1 x2 x3 (mo_pure x0 x1 x2 x3 (fun h hh => ⟨(ok1.2 h hh).1.1, (ok1.2 h hh).2.1.1, (ok1.2 h hh).2.2.1⟩))

end Go.Proofs.YtahdcmicifokgaaDoor.Dec
