/- mute.Right. The document's own Muted. MuteTells, as a plain function. -/
import Derived.Test.YtghkbjflejgieaaDoorQU6
import Derived.KernelRfl
namespace Go.Proofs.YtghkbjflejgieaaDoor.Dec
open Go.Ev
set_option linter.unusedVariables false
set_option linter.unusedSimpArgs false
set_option maxRecDepth 100000
set_option maxHeartbeats 20000000
noncomputable def fn50 : AFn := (F 50).getD ⟨0, [], .bad, false, false, noHd⟩
noncomputable def body50 : AC := fn50.body
def l50_0 (m : Nat) : Nat → Q7 → Int → Int → Option (Nat × Int)
  | 0, _, _, _ => none
  | n + 1, x0, s7, s8 => if decide (s8 < s7) = true then
      if decide (0 ≤ s8) = true then
      if decide (s8 < (((List.length x0) : Nat) : Int)) = true then
      if decide (List.length (List.getD x0 (Int.toNat s8) ([] : Q8)) ≤ 9223372036854775807) = true then
      if (wordG (List.getD x0 (Int.toNat s8) ([] : Q8))) = true then
        l50_0 m n x0 s7 ((IntKind.wrap .i64 (s8 + (1))))
      else
        some (0, s8)
      else none
      else none
      else none
    else
      some (1, s8)
def l50_0D : Nat × Int := (0, 0)
@[reducible] def l50_0R (m n : Nat) (x0 : Q7) (s7 : Int) (s8 : Int) : Nat × Int := Option.getD (l50_0 m n x0 s7 s8) l50_0D
def l50_0H (x0 : Q7) (s7 : Int) (s8 : Int) : Env := ((.d (.sl .str x0)) :: (.fn 35 []) :: .top :: .top :: .top :: .top :: .top :: (.d (.int .i64 s7)) :: (.d (.int .i64 s8)) :: tp10 [])
def l50_0B (x0 : Q7) (s7 : Int) (s8 : Int) : Boxes := []
def l50_0E (x0 : Q7) (s7 : Int) (s8 : Int) : Nat → AEx × Env × Boxes
  | 0 => (.ret, [(.d (.sl .str x0)), (.fn 35 []), .top, .top, (.d (.int .i64 s8)), (.d (.int .i64 s8)), .top, (.d (.int .i64 s7)), (.d (.int .i64 s8)), (.d (.bool (decide (s8 < s7)))), (.d (.int .i64 s8)), (.fn 35 []), (.d (.sl .str x0)), (.d (.int .i64 s8)), (.cptr [(.str (List.getD x0 (Int.toNat s8) ([] : Q8)))] 0), (.d (.str (List.getD x0 (Int.toNat s8) ([] : Q8)))), (.d (.bool (!(wordG (List.getD x0 (Int.toNat s8) ([] : Q8)))))), (.d (.int .i64 s8)), .top], [])
  | _ => (.exit 0, ((.d (.sl .str x0)) :: (.fn 35 []) :: .top :: .top :: .top :: .top :: .top :: (.d (.int .i64 s7)) :: (.d (.int .i64 s8)) :: (.d (.bool (decide (s8 < s7)))) :: tp9 []), [])
noncomputable def lbl50_0 : AC := loopBody 387 body50
@[reducible] noncomputable def cb17 (m : Nat) := (evC byref (evCall F S24 (m + 24)) (m + 24) 0 (hds 50) lbl50_0)


theorem l50_0_step (m n : Nat) (ih : ∀ (x0 : Q7) (s7 : Int) (s8 : Int) (q : Nat × Int), l50_0 m n x0 s7 s8 = some q → (turns (hds 50 387) 0 387 (cb17 m) n (l50_0H x0 s7 s8) (l50_0B x0 s7 s8)).run = some (l50_0E (x0) (s7) (q.2) q.1)) (x0 : Q7) (s7 : Int) (s8 : Int) (q : Nat × Int) (h : l50_0 m (n + 1) x0 s7 s8 = some q) : (turns (hds 50 387) 0 387 (cb17 m) (n + 1) (l50_0H x0 s7 s8) (l50_0B x0 s7 s8)).run = some (l50_0E (x0) (s7) (q.2) q.1) := by
  rw [l50_0] at h
  refine ite_cases h (fun c0 h => ?_) (fun c0 h => ?_)
  · skip
    obtain ⟨c1, h⟩ := iY h
    obtain ⟨c2, h⟩ := iY h
    obtain ⟨c3, h⟩ := iY h
    refine ite_cases h (fun c4 h => ?_) (fun c4 h => ?_)
    · skip
      have ih := ih _ _ _ q h
      refine turns_step ?_ ih
      exact M.run_of_path _ [tT, tT, tT, tT, fF] _ _ (by kernel_rfl) (all_t c0 (all_t c1 (all_t c2 (all_t c3 (all_nt c4 all_nil)))))
    · skip
      cases h
      refine turns_last (by simp) ?_
      exact M.run_of_path _ [tT, tT, tT, tT, tT] _ _ (by kernel_rfl) (all_t c0 (all_t c1 (all_t c2 (all_t c3 (all_nf c4 all_nil)))))
  · skip
    cases h
    refine turns_last (by simp) ?_
    exact M.run_of_path _ [fF] _ _ (by kernel_rfl) (all_f c0 all_nil)
theorem l50_0_ok (m : Nat) : ∀ (n : Nat) (x0 : Q7) (s7 : Int) (s8 : Int) (q : Nat × Int), l50_0 m n x0 s7 s8 = some q → (turns (hds 50 387) 0 387 (cb17 m) n (l50_0H x0 s7 s8) (l50_0B x0 s7 s8)).run = some (l50_0E (x0) (s7) (q.2) q.1)
  | 0, x0, s7, s8, q, h => by cases h
  | n + 1, x0, s7, s8, q, h => l50_0_step m n (l50_0_ok m n) x0 s7 s8 q h

def p50 (m : Nat) (x0 : Q7) : Option (Int) :=
  if (Option.isSome (l50_0 m (m + 24) x0 ((((List.length x0) : Nat) : Int)) 0)) = true then
  if ((l50_0R m (m + 24) x0 ((((List.length x0) : Nat) : Int)) 0).1 == 0) = true then
    some ((l50_0R m (m + 24) x0 ((((List.length x0) : Nat) : Int)) 0).2)
  else
    if ((l50_0R m (m + 24) x0 ((((List.length x0) : Nat) : Int)) 0).1 == 1) = true then
    some ((-1))
    else none
  else none
theorem p50_ok (m : Nat) (x0 : Q7) (q : Int) (h : p50 m x0 = some q) : ∃ r B1, (evCall F S24 (m + 25) 50 [(.d (.sl .str x0)), (.fn 35 [])] []).run = some (r, B1) ∧ 0 ≤ B1.length ∧ wkR B1 [] r (.d (.int .i64 q)) ∧ wkBs B1 [] 0 [] := by
  unfold p50 at h
  obtain ⟨c0, h⟩ := iY h
  refine ite_cases h (fun c1 h => ?_) (fun c1 h => ?_)
  · skip
    cases h
    refine ⟨(.d (.int .i64 (l50_0R m (m + 24) x0 ((((List.length x0) : Nat) : Int)) 0).2)), [], runT_ok (LS := (fun k => if k = 387 then some (l50_0E x0 (((((List.length x0) : Nat) : Int))) ((l50_0R m (m + 24) x0 ((((List.length x0) : Nat) : Int)) 0).2) 0) else none)) (fn := fn50) (vis := [(387, l50_0H x0 ((((List.length x0) : Nat) : Int)) 0, l50_0B x0 ((((List.length x0) : Nat) : Int)) 0)]) (by kernel_rfl) rfl (by kernel_rfl) (M.run_of_path _ [] _ _ (by kernel_rfl) all_nil) ?_, by simp, (wkR.one (wkV.one (wk1.eq rfl))), trivial⟩
    intro p hp p2 hq
    rcases List.mem_cons.1 hp with rfl | hp
    · skip
      have h3 := l50_0_ok m (m + 24) x0 ((((List.length x0) : Nat) : Int)) 0 _ (some_getD (d := l50_0D) c0)
      rw [eq_of_beq c1] at h3
      exact Eq.trans (Eq.mp (by kernel_rfl) h3) hq
    cases hp
  · skip
    obtain ⟨c2, h⟩ := iY h
    cases h
    refine ⟨(.d (.int .i64 (-1))), [], runT_ok (LS := (fun k => if k = 387 then some (l50_0E x0 (((((List.length x0) : Nat) : Int))) ((l50_0R m (m + 24) x0 ((((List.length x0) : Nat) : Int)) 0).2) 1) else none)) (fn := fn50) (vis := [(387, l50_0H x0 ((((List.length x0) : Nat) : Int)) 0, l50_0B x0 ((((List.length x0) : Nat) : Int)) 0)]) (by kernel_rfl) rfl (by kernel_rfl) (M.run_of_path _ [] _ _ (by kernel_rfl) all_nil) ?_, by simp, (wkR.one (wkV.one (wk1.eq rfl))), trivial⟩
    intro p hp p2 hq
    rcases List.mem_cons.1 hp with rfl | hp
    · skip
      have h3 := l50_0_ok m (m + 24) x0 ((((List.length x0) : Nat) : Int)) 0 _ (some_getD (d := l50_0D) c0)
      rw [eq_of_beq c2] at h3
      exact Eq.trans (Eq.mp (by kernel_rfl) h3) hq
    cases hp

def badFrom : Q7 → Nat → Int
  | [], _ => -1
  | x :: l, k => if wordG x = true then badFrom l (k + 1) else ((k : Nat) : Int)
def badG (ns : Q7) : Int := badFrom ns 0
def badPre (ns : Q7) : Bool := decide (ns.length ≤ 1000000 ∧ ∀ x ∈ ns, x.length ≤ 9223372036854775807)
theorem bad_loop (m : Nat) (ns : Q7) (h1 : ns.length ≤ 1000000) (h2 : ∀ x ∈ ns, x.length ≤ 9223372036854775807) : ∀ (n k : Nat), k ≤ ns.length → ns.length - k < n → ∃ e j, l50_0 m n ns (ns.length : Nat) (k : Nat) = some (e, j) ∧ ((e = 0 ∧ j = badFrom (ns.drop k) k) ∨ (e = 1 ∧ badFrom (ns.drop k) k = -1))
  | 0, k, _, h => by omega
  | n + 1, k, g1, g2 => by
    rw [l50_0]
    by_cases hk : k < ns.length
    · have e1 : decide (((k : Nat) : Int) < (((List.length ns) : Nat) : Int)) = true := decide_eq_true (by omega)
      have e2 : decide ((0 : Int) ≤ ((k : Nat) : Int)) = true := decide_eq_true (by omega)
      have e7 : IntKind.wrap .i64 (((k : Nat) : Int) + (1)) = ((k + 1 : Nat) : Int) := by rw [wrap_id (by omega) (by omega)]; rfl
      have e3 : decide (List.length (ns.getD k ([] : Q8)) ≤ 9223372036854775807) = true := decide_eq_true (h2 _ (getD_mem ns k ([] : Q8) hk))
      have go := bad_loop m ns h1 h2 n (k + 1) (by omega) (by omega)
      rw [drop_getD ns k ([] : Q8) hk, badFrom, show Int.toNat ((k : Nat) : Int) = k from rfl, e7, if_pos e2, if_pos e1, if_pos e1, if_pos e3]
      cases wordG (ns.getD k ([] : Q8)) with
      | true => rw [if_pos rfl, if_pos rfl]; exact go
      | false => rw [if_neg (by decide), if_neg (by decide)]; exact ⟨0, _, rfl, .inl ⟨rfl, rfl⟩⟩
    · have e1 : decide (((k : Nat) : Int) < (((List.length ns) : Nat) : Int)) = false := decide_eq_false (by omega)
      rw [e1, if_neg (by decide), List.drop_eq_nil_of_le (by omega)]
      exact ⟨1, _, rfl, .inr ⟨rfl, rfl⟩⟩
theorem bad50 (ns : Q7) (h : badPre ns = true) : ∃ m, p50 m ns = some (badG ns) := by
  have ⟨h1, h2⟩ := of_decide_eq_true h
  refine ⟨ns.length, ?_⟩
  obtain ⟨e, j, hr, hc⟩ := bad_loop ns.length ns h1 h2 (ns.length + 24) 0 (by omega) (by omega)
  simp only [Int.natCast_zero, List.drop_zero] at hr hc
  unfold p50 badG
  simp only [l50_0R, hr, Option.isSome_some, Option.getD_some, ↓reduceIte]
  rcases hc with ⟨rfl, hc⟩ | ⟨rfl, hc⟩ <;> rw [hc] <;> rfl
theorem bad_all : ∀ (ns : Q7) (k : Nat), decide (badFrom ns k ≥ 0) = !ns.all wordG
  | [], k => rfl
  | x :: ns, k => by
    rw [badFrom, List.all_cons]
    cases wordG x with
    | true => rw [if_pos rfl, Bool.true_and]; exact bad_all ns (k + 1)
    | false => rw [if_neg (by decide), Bool.false_and]; exact decide_eq_true (by omega)
def s50 : List AV → Boxes → M (AV × Boxes) := normS [.val (.sl .str), .ptr] [] fun xs B => match xs, B with
  | [(.d (.sl .str c1)), (.fn 35 [])], [] => .chk (badPre c1) (.ret ((.d (.int .i64 (badG c1))), []))
  | _, _ => .fail
theorem s50_at : CallAt Tryd.prog 50 s50 := by
  refine CallAt.norm (CallAt.weakE (g := fun n => evCall F S24 n 50) (fun n => evCall_atH mixed kinds hds S24 S24_ok n 50) fun xs B r' B' hr => ?_) _ _
  split at hr
  · rename_i c1
    obtain ⟨hp, hr⟩ := (M.run_chk _ _ _).1 hr
    simp only [M.run, Option.some.injEq, Prod.mk.injEq] at hr
    obtain ⟨rfl, rfl⟩ := hr
    obtain ⟨m, hm⟩ := bad50 c1 hp
    obtain ⟨r, B1, h1, h2, h3, h4⟩ := p50_ok m c1 _ hm
    exact ⟨m + 25, r, B1, h1, by simp, h2, h3, h4⟩
  · simp [M.run] at hr
noncomputable def S25 : FuncId → Option (List AV → Boxes → M (AV × Boxes)) := fun f => if f = 50 then some s50 else S24 f
theorem S25_ok : ∀ f s, S25 f = some s → CallAt Tryd.prog f s := by
  intro f s h
  unfold S25 at h
  split at h
  · rename_i e; subst e; cases h; exact s50_at
  · exact S24_ok f s h

noncomputable def fn14 : AFn := (F 14).getD ⟨0, [], .bad, false, false, noHd⟩
noncomputable def body14 : AC := fn14.body
def l14_0 (m : Nat) : Nat → Q2 → Q0 → Int → Int → Option (Nat × Int)
  | 0, _, _, _, _ => none
  | n + 1, x0, x1, s10, s11 => if decide (s11 < s10) = true then
      if decide (0 ≤ s11) = true then
      if decide (s11 < (((List.length x0) : Nat) : Int)) = true then
      if rightPre (List.getD x0 (Int.toNat s11) (([] : Q4), (0, 0))).1 = true then
      if (rightG (List.getD x0 (Int.toNat s11) (([] : Q4), (0, 0))).1) = true then
        if decide ((List.getD x0 (Int.toNat s11) (([] : Q4), (0, 0))).2.1 > (List.getD x0 (Int.toNat s11) (([] : Q4), (0, 0))).2.2) = true then
          some (1, s11)
        else
          l14_0 m n x0 x1 s10 ((IntKind.wrap .i64 (s11 + (1))))
      else
        some (0, s11)
      else none
      else none
      else none
    else
      some (2, s11)
def l14_0D : Nat × Int := (0, 0)
@[reducible] def l14_0R (m n : Nat) (x0 : Q2) (x1 : Q0) (s10 : Int) (s11 : Int) : Nat × Int := Option.getD (l14_0 m n x0 x1 s10 s11) l14_0D
def l14_0H (x0 : Q2) (x1 : Q0) (s10 : Int) (s11 : Int) : Env := (.top :: (.d (.sl (.pair (.sl (.pair .str (.pair .str (.int .i64)))) (.pair (.sl (.pair .str (.pair .str (.int .i64)))) (.sl .str))) x1)) :: .top :: .top :: .top :: .top :: .top :: .top :: .top :: (.d (.sl (.pair (.sl (.pair .str (.pair .str (.int .i64)))) (.pair (.int .i64) (.int .i64))) x0)) :: (.d (.int .i64 s10)) :: (.d (.int .i64 s11)) :: tp43 [])
def l14_0B (x0 : Q2) (x1 : Q0) (s10 : Int) (s11 : Int) : Boxes := []
def l14_0E (x0 : Q2) (x1 : Q0) (s10 : Int) (s11 : Int) : Nat → AEx × Env × Boxes
  | 0 => (.ret, (.top :: (.d (.sl (.pair (.sl (.pair .str (.pair .str (.int .i64)))) (.pair (.sl (.pair .str (.pair .str (.int .i64)))) (.sl .str))) x1)) :: .top :: .top :: (.d (.bool false)) :: .top :: (.ptr 0 0) :: .top :: .top :: (.d (.sl (.pair (.sl (.pair .str (.pair .str (.int .i64)))) (.pair (.int .i64) (.int .i64))) x0)) :: (.d (.int .i64 s10)) :: (.d (.int .i64 s11)) :: (.d (.bool (decide (s11 < s10)))) :: (.cptr [(.sl (.pair .str (.pair .str (.int .i64))) (List.getD x0 (Int.toNat s11) (([] : Q4), (0, 0))).1), (.int .i64 (List.getD x0 (Int.toNat s11) (([] : Q4), (0, 0))).2.1), (.int .i64 (List.getD x0 (Int.toNat s11) (([] : Q4), (0, 0))).2.2)] 0) :: (.agg [(.d (.sl (.pair .str (.pair .str (.int .i64))) (List.getD x0 (Int.toNat s11) (([] : Q4), (0, 0))).1)), (.d (.int .i64 (List.getD x0 (Int.toNat s11) (([] : Q4), (0, 0))).2.1)), (.d (.int .i64 (List.getD x0 (Int.toNat s11) (([] : Q4), (0, 0))).2.2))]) :: (.ptr 0 0) :: (.d (.sl (.pair .str (.pair .str (.int .i64))) (List.getD x0 (Int.toNat s11) (([] : Q4), (0, 0))).1)) :: (.d (.bool (rightG (List.getD x0 (Int.toNat s11) (([] : Q4), (0, 0))).1))) :: (.d (.bool (!(rightG (List.getD x0 (Int.toNat s11) (([] : Q4), (0, 0))).1)))) :: (.d (.bool (!(rightG (List.getD x0 (Int.toNat s11) (([] : Q4), (0, 0))).1)))) :: (.tup []) :: (.tup []) :: (.tup []) :: (.tup []) :: (.tup []) :: (.d (.bool true)) :: tp29 []), [(.cells [(.d (.sl (.pair .str (.pair .str (.int .i64))) (List.getD x0 (Int.toNat s11) (([] : Q4), (0, 0))).1)), (.d (.int .i64 (List.getD x0 (Int.toNat s11) (([] : Q4), (0, 0))).2.1)), (.d (.int .i64 (List.getD x0 (Int.toNat s11) (([] : Q4), (0, 0))).2.2))])])
  | 1 => (.ret, (.top :: (.d (.sl (.pair (.sl (.pair .str (.pair .str (.int .i64)))) (.pair (.sl (.pair .str (.pair .str (.int .i64)))) (.sl .str))) x1)) :: .top :: .top :: (.d (.bool false)) :: .top :: (.ptr 0 0) :: .top :: .top :: (.d (.sl (.pair (.sl (.pair .str (.pair .str (.int .i64)))) (.pair (.int .i64) (.int .i64))) x0)) :: (.d (.int .i64 s10)) :: (.d (.int .i64 s11)) :: (.d (.bool (decide (s11 < s10)))) :: (.cptr [(.sl (.pair .str (.pair .str (.int .i64))) (List.getD x0 (Int.toNat s11) (([] : Q4), (0, 0))).1), (.int .i64 (List.getD x0 (Int.toNat s11) (([] : Q4), (0, 0))).2.1), (.int .i64 (List.getD x0 (Int.toNat s11) (([] : Q4), (0, 0))).2.2)] 0) :: (.agg [(.d (.sl (.pair .str (.pair .str (.int .i64))) (List.getD x0 (Int.toNat s11) (([] : Q4), (0, 0))).1)), (.d (.int .i64 (List.getD x0 (Int.toNat s11) (([] : Q4), (0, 0))).2.1)), (.d (.int .i64 (List.getD x0 (Int.toNat s11) (([] : Q4), (0, 0))).2.2))]) :: (.ptr 0 0) :: (.d (.sl (.pair .str (.pair .str (.int .i64))) (List.getD x0 (Int.toNat s11) (([] : Q4), (0, 0))).1)) :: (.d (.bool (rightG (List.getD x0 (Int.toNat s11) (([] : Q4), (0, 0))).1))) :: (.d (.bool (!(rightG (List.getD x0 (Int.toNat s11) (([] : Q4), (0, 0))).1)))) :: (.d (.bool (!(rightG (List.getD x0 (Int.toNat s11) (([] : Q4), (0, 0))).1)))) :: (.ptr 0 1) :: (.d (.int .i64 (List.getD x0 (Int.toNat s11) (([] : Q4), (0, 0))).2.1)) :: (.ptr 0 2) :: (.d (.int .i64 (List.getD x0 (Int.toNat s11) (([] : Q4), (0, 0))).2.2)) :: (.d (.bool (decide ((List.getD x0 (Int.toNat s11) (([] : Q4), (0, 0))).2.1 > (List.getD x0 (Int.toNat s11) (([] : Q4), (0, 0))).2.2)))) :: (.d (.bool (decide ((List.getD x0 (Int.toNat s11) (([] : Q4), (0, 0))).2.1 > (List.getD x0 (Int.toNat s11) (([] : Q4), (0, 0))).2.2)))) :: tp29 []), [(.cells [(.d (.sl (.pair .str (.pair .str (.int .i64))) (List.getD x0 (Int.toNat s11) (([] : Q4), (0, 0))).1)), (.d (.int .i64 (List.getD x0 (Int.toNat s11) (([] : Q4), (0, 0))).2.1)), (.d (.int .i64 (List.getD x0 (Int.toNat s11) (([] : Q4), (0, 0))).2.2))])])
  | _ => (.exit 0, (.top :: (.d (.sl (.pair (.sl (.pair .str (.pair .str (.int .i64)))) (.pair (.sl (.pair .str (.pair .str (.int .i64)))) (.sl .str))) x1)) :: .top :: .top :: .top :: .top :: .top :: .top :: .top :: (.d (.sl (.pair (.sl (.pair .str (.pair .str (.int .i64)))) (.pair (.int .i64) (.int .i64))) x0)) :: (.d (.int .i64 s10)) :: (.d (.int .i64 s11)) :: (.d (.bool (decide (s11 < s10)))) :: tp42 []), [])
noncomputable def lbl14_0 : AC := loopBody 3586 body14
@[reducible] noncomputable def cb18 (m : Nat) := (evC byref (evCall F S25 (m + 24)) (m + 24) 0 (hds 14) lbl14_0)


theorem l14_0_step (m n : Nat) (ih : ∀ (x0 : Q2) (x1 : Q0) (s10 : Int) (s11 : Int) (q : Nat × Int), l14_0 m n x0 x1 s10 s11 = some q → (turns (hds 14 3586) 0 3586 (cb18 m) n (l14_0H x0 x1 s10 s11) (l14_0B x0 x1 s10 s11)).run = some (l14_0E (x0) (x1) (s10) (q.2) q.1)) (x0 : Q2) (x1 : Q0) (s10 : Int) (s11 : Int) (q : Nat × Int) (h : l14_0 m (n + 1) x0 x1 s10 s11 = some q) : (turns (hds 14 3586) 0 3586 (cb18 m) (n + 1) (l14_0H x0 x1 s10 s11) (l14_0B x0 x1 s10 s11)).run = some (l14_0E (x0) (x1) (s10) (q.2) q.1) := by
  rw [l14_0] at h
  refine ite_cases h (fun c0 h => ?_) (fun c0 h => ?_)
  · skip
    obtain ⟨c1, h⟩ := iY h
    obtain ⟨c2, h⟩ := iY h
    obtain ⟨c3, h⟩ := iY h
    refine ite_cases h (fun c4 h => ?_) (fun c4 h => ?_)
    · skip
      refine ite_cases h (fun c10 h => ?_) (fun c10 h => ?_)
      · skip
        cases h
        refine turns_last (by simp) ?_
        exact M.run_of_path _ [tT, tT, tT, tT, fF, fF, fF, fF, fF, fF, tT] _ _ (by kernel_rfl) (all_t c0 (all_t c1 (all_t c2 (all_t c3 (all_nt c4 (all_nt c4 (all_nt c4 (all_nt c4 (all_nt c4 (all_nt c4 (all_t c10 all_nil)))))))))))
      · skip
        have ih := ih _ _ _ _ q h
        refine turns_step ?_ ih
        exact M.run_of_path _ [tT, tT, tT, tT, fF, fF, fF, fF, fF, fF, fF] _ _ (by kernel_rfl) (all_t c0 (all_t c1 (all_t c2 (all_t c3 (all_nt c4 (all_nt c4 (all_nt c4 (all_nt c4 (all_nt c4 (all_nt c4 (all_f c10 all_nil)))))))))))
    · skip
      cases h
      refine turns_last (by simp) ?_
      exact M.run_of_path _ [tT, tT, tT, tT, tT, tT, tT, tT, tT, tT, tT] _ _ (by kernel_rfl) (all_t c0 (all_t c1 (all_t c2 (all_t c3 (all_nf c4 (all_nf c4 (all_nf c4 (all_nf c4 (all_nf c4 (all_nf c4 (all_t rfl all_nil)))))))))))
  · skip
    cases h
    refine turns_last (by simp) ?_
    exact M.run_of_path _ [fF] _ _ (by kernel_rfl) (all_f c0 all_nil)
theorem l14_0_ok (m : Nat) : ∀ (n : Nat) (x0 : Q2) (x1 : Q0) (s10 : Int) (s11 : Int) (q : Nat × Int), l14_0 m n x0 x1 s10 s11 = some q → (turns (hds 14 3586) 0 3586 (cb18 m) n (l14_0H x0 x1 s10 s11) (l14_0B x0 x1 s10 s11)).run = some (l14_0E (x0) (x1) (s10) (q.2) q.1)
  | 0, x0, x1, s10, s11, q, h => by cases h
  | n + 1, x0, x1, s10, s11, q, h => l14_0_step m n (l14_0_ok m n) x0 x1 s10 s11 q h

def l14_1 (m : Nat) : Nat → Q0 → Int → Int → Option (Nat × Int)
  | 0, _, _, _ => none
  | n + 1, x1, s28, s29 => if decide (s29 < s28) = true then
      if decide (0 ≤ s29) = true then
      if decide (s29 < (((List.length x1) : Nat) : Int)) = true then
      if rightPre (List.getD x1 (Int.toNat s29) (([] : Q4), (([] : Q4), ([] : Q7)))).1 = true then
      if (rightG (List.getD x1 (Int.toNat s29) (([] : Q4), (([] : Q4), ([] : Q7)))).1) = true then
        if rightPre (List.getD x1 (Int.toNat s29) (([] : Q4), (([] : Q4), ([] : Q7)))).2.1 = true then
        if (rightG (List.getD x1 (Int.toNat s29) (([] : Q4), (([] : Q4), ([] : Q7)))).2.1) = true then
          if decide ((((List.length (List.getD x1 (Int.toNat s29) (([] : Q4), (([] : Q4), ([] : Q7)))).2.2) : Nat) : Int) > 6) = true then
            some (2, s29)
          else
            if badPre (List.getD x1 (Int.toNat s29) (([] : Q4), (([] : Q4), ([] : Q7)))).2.2 = true then
            if decide ((badG (List.getD x1 (Int.toNat s29) (([] : Q4), (([] : Q4), ([] : Q7)))).2.2) ≥ 0) = true then
              some (3, s29)
            else
              l14_1 m n x1 s28 ((IntKind.wrap .i64 (s29 + (1))))
            else none
        else
          some (1, s29)
        else none
      else
        some (0, s29)
      else none
      else none
      else none
    else
      some (4, s29)
def l14_1D : Nat × Int := (0, 0)
@[reducible] def l14_1R (m n : Nat) (x1 : Q0) (s28 : Int) (s29 : Int) : Nat × Int := Option.getD (l14_1 m n x1 s28 s29) l14_1D
def l14_1H (x1 : Q0) (s28 : Int) (s29 : Int) : Env := (tp27 ((.d (.sl (.pair (.sl (.pair .str (.pair .str (.int .i64)))) (.pair (.sl (.pair .str (.pair .str (.int .i64)))) (.sl .str))) x1)) :: (.d (.int .i64 s28)) :: (.d (.int .i64 s29)) :: tp25 []))
def l14_1B (x1 : Q0) (s28 : Int) (s29 : Int) : Boxes := []
def l14_1E (x1 : Q0) (s28 : Int) (s29 : Int) : Nat → AEx × Env × Boxes
  | 0 => (.ret, (.top :: .top :: .top :: .top :: (.d (.bool false)) :: .top :: .top :: .top :: (.ptr 0 0) :: tp18 ((.d (.sl (.pair (.sl (.pair .str (.pair .str (.int .i64)))) (.pair (.sl (.pair .str (.pair .str (.int .i64)))) (.sl .str))) x1)) :: (.d (.int .i64 s28)) :: (.d (.int .i64 s29)) :: (.d (.bool (decide (s29 < s28)))) :: (.cptr [(.sl (.pair .str (.pair .str (.int .i64))) (List.getD x1 (Int.toNat s29) (([] : Q4), (([] : Q4), ([] : Q7)))).1), (.sl (.pair .str (.pair .str (.int .i64))) (List.getD x1 (Int.toNat s29) (([] : Q4), (([] : Q4), ([] : Q7)))).2.1), (.sl .str (List.getD x1 (Int.toNat s29) (([] : Q4), (([] : Q4), ([] : Q7)))).2.2)] 0) :: (.agg [(.d (.sl (.pair .str (.pair .str (.int .i64))) (List.getD x1 (Int.toNat s29) (([] : Q4), (([] : Q4), ([] : Q7)))).1)), (.d (.sl (.pair .str (.pair .str (.int .i64))) (List.getD x1 (Int.toNat s29) (([] : Q4), (([] : Q4), ([] : Q7)))).2.1)), (.d (.sl .str (List.getD x1 (Int.toNat s29) (([] : Q4), (([] : Q4), ([] : Q7)))).2.2))]) :: (.ptr 0 0) :: (.d (.sl (.pair .str (.pair .str (.int .i64))) (List.getD x1 (Int.toNat s29) (([] : Q4), (([] : Q4), ([] : Q7)))).1)) :: (.d (.bool (rightG (List.getD x1 (Int.toNat s29) (([] : Q4), (([] : Q4), ([] : Q7)))).1))) :: (.d (.bool (!(rightG (List.getD x1 (Int.toNat s29) (([] : Q4), (([] : Q4), ([] : Q7)))).1)))) :: (.d (.bool (!(rightG (List.getD x1 (Int.toNat s29) (([] : Q4), (([] : Q4), ([] : Q7)))).1)))) :: (.tup []) :: (.tup []) :: (.tup []) :: (.tup []) :: (.d (.bool true)) :: (.d (.bool true)) :: (.tup []) :: (.tup []) :: (.tup []) :: (.tup []) :: (.d (.bool true)) :: (.d (.bool true)) :: (.tup []) :: (.tup []) :: (.tup []) :: (.d (.bool true)) :: .top :: [])), [(.cells [(.d (.sl (.pair .str (.pair .str (.int .i64))) (List.getD x1 (Int.toNat s29) (([] : Q4), (([] : Q4), ([] : Q7)))).1)), (.d (.sl (.pair .str (.pair .str (.int .i64))) (List.getD x1 (Int.toNat s29) (([] : Q4), (([] : Q4), ([] : Q7)))).2.1)), (.d (.sl .str (List.getD x1 (Int.toNat s29) (([] : Q4), (([] : Q4), ([] : Q7)))).2.2))])])
  | 1 => (.ret, (.top :: .top :: .top :: .top :: (.d (.bool false)) :: .top :: .top :: .top :: (.ptr 0 0) :: tp18 ((.d (.sl (.pair (.sl (.pair .str (.pair .str (.int .i64)))) (.pair (.sl (.pair .str (.pair .str (.int .i64)))) (.sl .str))) x1)) :: (.d (.int .i64 s28)) :: (.d (.int .i64 s29)) :: (.d (.bool (decide (s29 < s28)))) :: (.cptr [(.sl (.pair .str (.pair .str (.int .i64))) (List.getD x1 (Int.toNat s29) (([] : Q4), (([] : Q4), ([] : Q7)))).1), (.sl (.pair .str (.pair .str (.int .i64))) (List.getD x1 (Int.toNat s29) (([] : Q4), (([] : Q4), ([] : Q7)))).2.1), (.sl .str (List.getD x1 (Int.toNat s29) (([] : Q4), (([] : Q4), ([] : Q7)))).2.2)] 0) :: (.agg [(.d (.sl (.pair .str (.pair .str (.int .i64))) (List.getD x1 (Int.toNat s29) (([] : Q4), (([] : Q4), ([] : Q7)))).1)), (.d (.sl (.pair .str (.pair .str (.int .i64))) (List.getD x1 (Int.toNat s29) (([] : Q4), (([] : Q4), ([] : Q7)))).2.1)), (.d (.sl .str (List.getD x1 (Int.toNat s29) (([] : Q4), (([] : Q4), ([] : Q7)))).2.2))]) :: (.ptr 0 0) :: (.d (.sl (.pair .str (.pair .str (.int .i64))) (List.getD x1 (Int.toNat s29) (([] : Q4), (([] : Q4), ([] : Q7)))).1)) :: (.d (.bool (rightG (List.getD x1 (Int.toNat s29) (([] : Q4), (([] : Q4), ([] : Q7)))).1))) :: (.d (.bool (!(rightG (List.getD x1 (Int.toNat s29) (([] : Q4), (([] : Q4), ([] : Q7)))).1)))) :: (.d (.bool (!(rightG (List.getD x1 (Int.toNat s29) (([] : Q4), (([] : Q4), ([] : Q7)))).1)))) :: (.ptr 0 1) :: (.d (.sl (.pair .str (.pair .str (.int .i64))) (List.getD x1 (Int.toNat s29) (([] : Q4), (([] : Q4), ([] : Q7)))).2.1)) :: (.d (.bool (rightG (List.getD x1 (Int.toNat s29) (([] : Q4), (([] : Q4), ([] : Q7)))).2.1))) :: (.d (.bool (!(rightG (List.getD x1 (Int.toNat s29) (([] : Q4), (([] : Q4), ([] : Q7)))).2.1)))) :: (.d (.bool (!(rightG (List.getD x1 (Int.toNat s29) (([] : Q4), (([] : Q4), ([] : Q7)))).2.1)))) :: (.d (.bool (!(rightG (List.getD x1 (Int.toNat s29) (([] : Q4), (([] : Q4), ([] : Q7)))).2.1)))) :: (.tup []) :: (.tup []) :: (.tup []) :: (.tup []) :: (.d (.bool true)) :: (.d (.bool true)) :: (.tup []) :: (.tup []) :: (.tup []) :: (.d (.bool true)) :: .top :: [])), [(.cells [(.d (.sl (.pair .str (.pair .str (.int .i64))) (List.getD x1 (Int.toNat s29) (([] : Q4), (([] : Q4), ([] : Q7)))).1)), (.d (.sl (.pair .str (.pair .str (.int .i64))) (List.getD x1 (Int.toNat s29) (([] : Q4), (([] : Q4), ([] : Q7)))).2.1)), (.d (.sl .str (List.getD x1 (Int.toNat s29) (([] : Q4), (([] : Q4), ([] : Q7)))).2.2))])])
  | 2 => (.ret, (.top :: .top :: .top :: .top :: (.d (.bool false)) :: .top :: .top :: .top :: (.ptr 0 0) :: tp18 ((.d (.sl (.pair (.sl (.pair .str (.pair .str (.int .i64)))) (.pair (.sl (.pair .str (.pair .str (.int .i64)))) (.sl .str))) x1)) :: (.d (.int .i64 s28)) :: (.d (.int .i64 s29)) :: (.d (.bool (decide (s29 < s28)))) :: (.cptr [(.sl (.pair .str (.pair .str (.int .i64))) (List.getD x1 (Int.toNat s29) (([] : Q4), (([] : Q4), ([] : Q7)))).1), (.sl (.pair .str (.pair .str (.int .i64))) (List.getD x1 (Int.toNat s29) (([] : Q4), (([] : Q4), ([] : Q7)))).2.1), (.sl .str (List.getD x1 (Int.toNat s29) (([] : Q4), (([] : Q4), ([] : Q7)))).2.2)] 0) :: (.agg [(.d (.sl (.pair .str (.pair .str (.int .i64))) (List.getD x1 (Int.toNat s29) (([] : Q4), (([] : Q4), ([] : Q7)))).1)), (.d (.sl (.pair .str (.pair .str (.int .i64))) (List.getD x1 (Int.toNat s29) (([] : Q4), (([] : Q4), ([] : Q7)))).2.1)), (.d (.sl .str (List.getD x1 (Int.toNat s29) (([] : Q4), (([] : Q4), ([] : Q7)))).2.2))]) :: (.ptr 0 0) :: (.d (.sl (.pair .str (.pair .str (.int .i64))) (List.getD x1 (Int.toNat s29) (([] : Q4), (([] : Q4), ([] : Q7)))).1)) :: (.d (.bool (rightG (List.getD x1 (Int.toNat s29) (([] : Q4), (([] : Q4), ([] : Q7)))).1))) :: (.d (.bool (!(rightG (List.getD x1 (Int.toNat s29) (([] : Q4), (([] : Q4), ([] : Q7)))).1)))) :: (.d (.bool (!(rightG (List.getD x1 (Int.toNat s29) (([] : Q4), (([] : Q4), ([] : Q7)))).1)))) :: (.ptr 0 1) :: (.d (.sl (.pair .str (.pair .str (.int .i64))) (List.getD x1 (Int.toNat s29) (([] : Q4), (([] : Q4), ([] : Q7)))).2.1)) :: (.d (.bool (rightG (List.getD x1 (Int.toNat s29) (([] : Q4), (([] : Q4), ([] : Q7)))).2.1))) :: (.d (.bool (!(rightG (List.getD x1 (Int.toNat s29) (([] : Q4), (([] : Q4), ([] : Q7)))).2.1)))) :: (.d (.bool (!(rightG (List.getD x1 (Int.toNat s29) (([] : Q4), (([] : Q4), ([] : Q7)))).2.1)))) :: (.d (.bool (!(rightG (List.getD x1 (Int.toNat s29) (([] : Q4), (([] : Q4), ([] : Q7)))).2.1)))) :: (.ptr 0 2) :: (.d (.sl .str (List.getD x1 (Int.toNat s29) (([] : Q4), (([] : Q4), ([] : Q7)))).2.2)) :: (.d (.int .i64 (((List.length (List.getD x1 (Int.toNat s29) (([] : Q4), (([] : Q4), ([] : Q7)))).2.2) : Nat) : Int))) :: (.d (.bool (decide ((((List.length (List.getD x1 (Int.toNat s29) (([] : Q4), (([] : Q4), ([] : Q7)))).2.2) : Nat) : Int) > 6)))) :: (.d (.bool (decide ((((List.length (List.getD x1 (Int.toNat s29) (([] : Q4), (([] : Q4), ([] : Q7)))).2.2) : Nat) : Int) > 6)))) :: (.d (.bool (decide ((((List.length (List.getD x1 (Int.toNat s29) (([] : Q4), (([] : Q4), ([] : Q7)))).2.2) : Nat) : Int) > 6)))) :: (.tup []) :: (.tup []) :: (.tup []) :: (.d (.bool true)) :: .top :: [])), [(.cells [(.d (.sl (.pair .str (.pair .str (.int .i64))) (List.getD x1 (Int.toNat s29) (([] : Q4), (([] : Q4), ([] : Q7)))).1)), (.d (.sl (.pair .str (.pair .str (.int .i64))) (List.getD x1 (Int.toNat s29) (([] : Q4), (([] : Q4), ([] : Q7)))).2.1)), (.d (.sl .str (List.getD x1 (Int.toNat s29) (([] : Q4), (([] : Q4), ([] : Q7)))).2.2))])])
  | 3 => (.ret, (.top :: .top :: .top :: .top :: (.d (.bool false)) :: .top :: .top :: .top :: (.ptr 0 0) :: tp18 ((.d (.sl (.pair (.sl (.pair .str (.pair .str (.int .i64)))) (.pair (.sl (.pair .str (.pair .str (.int .i64)))) (.sl .str))) x1)) :: (.d (.int .i64 s28)) :: (.d (.int .i64 s29)) :: (.d (.bool (decide (s29 < s28)))) :: (.cptr [(.sl (.pair .str (.pair .str (.int .i64))) (List.getD x1 (Int.toNat s29) (([] : Q4), (([] : Q4), ([] : Q7)))).1), (.sl (.pair .str (.pair .str (.int .i64))) (List.getD x1 (Int.toNat s29) (([] : Q4), (([] : Q4), ([] : Q7)))).2.1), (.sl .str (List.getD x1 (Int.toNat s29) (([] : Q4), (([] : Q4), ([] : Q7)))).2.2)] 0) :: (.agg [(.d (.sl (.pair .str (.pair .str (.int .i64))) (List.getD x1 (Int.toNat s29) (([] : Q4), (([] : Q4), ([] : Q7)))).1)), (.d (.sl (.pair .str (.pair .str (.int .i64))) (List.getD x1 (Int.toNat s29) (([] : Q4), (([] : Q4), ([] : Q7)))).2.1)), (.d (.sl .str (List.getD x1 (Int.toNat s29) (([] : Q4), (([] : Q4), ([] : Q7)))).2.2))]) :: (.ptr 0 0) :: (.d (.sl (.pair .str (.pair .str (.int .i64))) (List.getD x1 (Int.toNat s29) (([] : Q4), (([] : Q4), ([] : Q7)))).1)) :: (.d (.bool (rightG (List.getD x1 (Int.toNat s29) (([] : Q4), (([] : Q4), ([] : Q7)))).1))) :: (.d (.bool (!(rightG (List.getD x1 (Int.toNat s29) (([] : Q4), (([] : Q4), ([] : Q7)))).1)))) :: (.d (.bool (!(rightG (List.getD x1 (Int.toNat s29) (([] : Q4), (([] : Q4), ([] : Q7)))).1)))) :: (.ptr 0 1) :: (.d (.sl (.pair .str (.pair .str (.int .i64))) (List.getD x1 (Int.toNat s29) (([] : Q4), (([] : Q4), ([] : Q7)))).2.1)) :: (.d (.bool (rightG (List.getD x1 (Int.toNat s29) (([] : Q4), (([] : Q4), ([] : Q7)))).2.1))) :: (.d (.bool (!(rightG (List.getD x1 (Int.toNat s29) (([] : Q4), (([] : Q4), ([] : Q7)))).2.1)))) :: (.d (.bool (!(rightG (List.getD x1 (Int.toNat s29) (([] : Q4), (([] : Q4), ([] : Q7)))).2.1)))) :: (.d (.bool (!(rightG (List.getD x1 (Int.toNat s29) (([] : Q4), (([] : Q4), ([] : Q7)))).2.1)))) :: (.ptr 0 2) :: (.d (.sl .str (List.getD x1 (Int.toNat s29) (([] : Q4), (([] : Q4), ([] : Q7)))).2.2)) :: (.d (.int .i64 (((List.length (List.getD x1 (Int.toNat s29) (([] : Q4), (([] : Q4), ([] : Q7)))).2.2) : Nat) : Int))) :: (.d (.bool (decide ((((List.length (List.getD x1 (Int.toNat s29) (([] : Q4), (([] : Q4), ([] : Q7)))).2.2) : Nat) : Int) > 6)))) :: (.d (.bool (decide ((((List.length (List.getD x1 (Int.toNat s29) (([] : Q4), (([] : Q4), ([] : Q7)))).2.2) : Nat) : Int) > 6)))) :: (.d (.bool (decide ((((List.length (List.getD x1 (Int.toNat s29) (([] : Q4), (([] : Q4), ([] : Q7)))).2.2) : Nat) : Int) > 6)))) :: (.ptr 0 2) :: (.d (.sl .str (List.getD x1 (Int.toNat s29) (([] : Q4), (([] : Q4), ([] : Q7)))).2.2)) :: (.d (.bool (decide ((badG (List.getD x1 (Int.toNat s29) (([] : Q4), (([] : Q4), ([] : Q7)))).2.2) ≥ 0)))) :: (.d (.bool (decide ((badG (List.getD x1 (Int.toNat s29) (([] : Q4), (([] : Q4), ([] : Q7)))).2.2) ≥ 0)))) :: .top :: [])), [(.cells [(.d (.sl (.pair .str (.pair .str (.int .i64))) (List.getD x1 (Int.toNat s29) (([] : Q4), (([] : Q4), ([] : Q7)))).1)), (.d (.sl (.pair .str (.pair .str (.int .i64))) (List.getD x1 (Int.toNat s29) (([] : Q4), (([] : Q4), ([] : Q7)))).2.1)), (.d (.sl .str (List.getD x1 (Int.toNat s29) (([] : Q4), (([] : Q4), ([] : Q7)))).2.2))])])
  | _ => (.exit 2, (tp27 ((.d (.sl (.pair (.sl (.pair .str (.pair .str (.int .i64)))) (.pair (.sl (.pair .str (.pair .str (.int .i64)))) (.sl .str))) x1)) :: (.d (.int .i64 s28)) :: (.d (.int .i64 s29)) :: (.d (.bool (decide (s29 < s28)))) :: tp24 [])), [])
noncomputable def lbl14_1 : AC := loopBody 939524096 body14
@[reducible] noncomputable def cb19 (m : Nat) := (evC byref (evCall F S25 (m + 24)) (m + 24) 0 (hds 14) lbl14_1)


theorem l14_1_step (m n : Nat) (ih : ∀ (x1 : Q0) (s28 : Int) (s29 : Int) (q : Nat × Int), l14_1 m n x1 s28 s29 = some q → (turns (hds 14 939524096) 0 939524096 (cb19 m) n (l14_1H x1 s28 s29) (l14_1B x1 s28 s29)).run = some (l14_1E (x1) (s28) (q.2) q.1)) (x1 : Q0) (s28 : Int) (s29 : Int) (q : Nat × Int) (h : l14_1 m (n + 1) x1 s28 s29 = some q) : (turns (hds 14 939524096) 0 939524096 (cb19 m) (n + 1) (l14_1H x1 s28 s29) (l14_1B x1 s28 s29)).run = some (l14_1E (x1) (s28) (q.2) q.1) := by
  rw [l14_1] at h
  refine ite_cases h (fun c0 h => ?_) (fun c0 h => ?_)
  · skip
    obtain ⟨c1, h⟩ := iY h
    obtain ⟨c2, h⟩ := iY h
    obtain ⟨c3, h⟩ := iY h
    refine ite_cases h (fun c4 h => ?_) (fun c4 h => ?_)
    · skip
      obtain ⟨c7, h⟩ := iY h
      refine ite_cases h (fun c10 h => ?_) (fun c10 h => ?_)
      · skip
        refine ite_cases h (fun c15 h => ?_) (fun c15 h => ?_)
        · skip
          cases h
          refine turns_last (by simp) ?_
          exact M.run_of_path _ [tT, tT, tT, tT, fF, fF, fF, tT, fF, fF, fF, fF, fF, fF, fF, tT, tT, tT, tT, tT] _ _ (by kernel_rfl) (all_t c0 (all_t c1 (all_t c2 (all_t c3 (all_nt c4 (all_nt c4 (all_nt c4 (all_t c7 (all_nt c4 (all_nt c4 (all_nt c10 (all_nt c10 (all_nt c10 (all_nt c10 (all_nt c10 (all_t c15 (all_t c15 (all_t c15 (all_t c15 (all_t rfl all_nil))))))))))))))))))))
        · skip
          obtain ⟨c18, h⟩ := iY h
          refine ite_cases h (fun c20 h => ?_) (fun c20 h => ?_)
          · skip
            cases h
            refine turns_last (by simp) ?_
            exact M.run_of_path _ [tT, tT, tT, tT, fF, fF, fF, tT, fF, fF, fF, fF, fF, fF, fF, fF, fF, fF, tT, fF, tT] _ _ (by kernel_rfl) (all_t c0 (all_t c1 (all_t c2 (all_t c3 (all_nt c4 (all_nt c4 (all_nt c4 (all_t c7 (all_nt c4 (all_nt c4 (all_nt c10 (all_nt c10 (all_nt c10 (all_nt c10 (all_nt c10 (all_f c15 (all_f c15 (all_f c15 (all_t c18 (all_f c15 (all_t c20 all_nil)))))))))))))))))))))
          · skip
            have ih := ih _ _ _ q h
            refine turns_step ?_ ih
            exact M.run_of_path _ [tT, tT, tT, tT, fF, fF, fF, tT, fF, fF, fF, fF, fF, fF, fF, fF, fF, fF, tT, fF, fF] _ _ (by kernel_rfl) (all_t c0 (all_t c1 (all_t c2 (all_t c3 (all_nt c4 (all_nt c4 (all_nt c4 (all_t c7 (all_nt c4 (all_nt c4 (all_nt c10 (all_nt c10 (all_nt c10 (all_nt c10 (all_nt c10 (all_f c15 (all_f c15 (all_f c15 (all_t c18 (all_f c15 (all_f c20 all_nil)))))))))))))))))))))
      · skip
        cases h
        refine turns_last (by simp) ?_
        exact M.run_of_path _ [tT, tT, tT, tT, fF, fF, fF, tT, fF, fF, tT, tT, tT, tT, tT, tT, tT, tT, tT, tT] _ _ (by kernel_rfl) (all_t c0 (all_t c1 (all_t c2 (all_t c3 (all_nt c4 (all_nt c4 (all_nt c4 (all_t c7 (all_nt c4 (all_nt c4 (all_nf c10 (all_nf c10 (all_nf c10 (all_nf c10 (all_nf c10 (all_t rfl (all_t rfl (all_t rfl (all_t rfl (all_t rfl all_nil))))))))))))))))))))
    · skip
      cases h
      refine turns_last (by simp) ?_
      exact M.run_of_path _ [tT, tT, tT, tT, tT, tT, tT, tT, tT, tT, tT, tT, tT, tT, tT, tT, tT, tT, tT] _ _ (by kernel_rfl) (all_t c0 (all_t c1 (all_t c2 (all_t c3 (all_nf c4 (all_nf c4 (all_nf c4 (all_nf c4 (all_nf c4 (all_t rfl (all_t rfl (all_t rfl (all_t rfl (all_t rfl (all_t rfl (all_t rfl (all_t rfl (all_t rfl (all_t rfl all_nil)))))))))))))))))))
  · skip
    cases h
    refine turns_last (by simp) ?_
    exact M.run_of_path _ [fF] _ _ (by kernel_rfl) (all_f c0 all_nil)
theorem l14_1_ok (m : Nat) : ∀ (n : Nat) (x1 : Q0) (s28 : Int) (s29 : Int) (q : Nat × Int), l14_1 m n x1 s28 s29 = some q → (turns (hds 14 939524096) 0 939524096 (cb19 m) n (l14_1H x1 s28 s29) (l14_1B x1 s28 s29)).run = some (l14_1E (x1) (s28) (q.2) q.1)
  | 0, x1, s28, s29, q, h => by cases h
  | n + 1, x1, s28, s29, q, h => l14_1_step m n (l14_1_ok m n) x1 s28 s29 q h

def p14 (m : Nat) (x0 : Q2) (x1 : Q0) : Option (Bool) :=
  if (Option.isSome (l14_0 m (m + 24) x0 x1 ((((List.length x0) : Nat) : Int)) 0)) = true then
  if ((l14_0R m (m + 24) x0 x1 ((((List.length x0) : Nat) : Int)) 0).1 == 0) = true then
    some (false)
  else
    if ((l14_0R m (m + 24) x0 x1 ((((List.length x0) : Nat) : Int)) 0).1 == 1) = true then
      some (false)
    else
      if ((l14_0R m (m + 24) x0 x1 ((((List.length x0) : Nat) : Int)) 0).1 == 2) = true then
      if (Option.isSome (l14_1 m (m + 24) x1 ((((List.length x1) : Nat) : Int)) 0)) = true then
      if ((l14_1R m (m + 24) x1 ((((List.length x1) : Nat) : Int)) 0).1 == 0) = true then
        some (false)
      else
        if ((l14_1R m (m + 24) x1 ((((List.length x1) : Nat) : Int)) 0).1 == 1) = true then
          some (false)
        else
          if ((l14_1R m (m + 24) x1 ((((List.length x1) : Nat) : Int)) 0).1 == 2) = true then
            some (false)
          else
            if ((l14_1R m (m + 24) x1 ((((List.length x1) : Nat) : Int)) 0).1 == 3) = true then
              some (false)
            else
              if ((l14_1R m (m + 24) x1 ((((List.length x1) : Nat) : Int)) 0).1 == 4) = true then
              some (true)
              else none
      else none
      else none
  else none
theorem p14_ok (m : Nat) (x0 : Q2) (x1 : Q0) (q : Bool) (h : p14 m x0 x1 = some q) : ∃ r B1, (evCall F S25 (m + 25) 14 [(.d (.sl (.pair (.sl (.pair .str (.pair .str (.int .i64)))) (.pair (.int .i64) (.int .i64))) x0)), (.d (.sl (.pair (.sl (.pair .str (.pair .str (.int .i64)))) (.pair (.sl (.pair .str (.pair .str (.int .i64)))) (.sl .str))) x1))] []).run = some (r, B1) ∧ 0 ≤ B1.length ∧ wkR B1 [] r (.d (.bool (q))) ∧ wkBs B1 [] 0 [] := by
  unfold p14 at h
  obtain ⟨c0, h⟩ := iY h
  refine ite_cases h (fun c1 h => ?_) (fun c1 h => ?_)
  · skip
    cases h
    refine ⟨(.d (.bool false)), [], runT_ok (LS := (fun k => if k = 3586 then some (l14_0E x0 x1 (((((List.length x0) : Nat) : Int))) ((l14_0R m (m + 24) x0 x1 ((((List.length x0) : Nat) : Int)) 0).2) 0) else none)) (fn := fn14) (vis := [(3586, l14_0H x0 x1 ((((List.length x0) : Nat) : Int)) 0, l14_0B x0 x1 ((((List.length x0) : Nat) : Int)) 0)]) (by kernel_rfl) rfl (by kernel_rfl) (M.run_of_path _ [] _ _ (by kernel_rfl) all_nil) ?_, by simp, (wkR.one (wkV.one (wk1.eq rfl))), trivial⟩
    intro p hp p2 hq
    rcases List.mem_cons.1 hp with rfl | hp
    · skip
      have h3 := l14_0_ok m (m + 24) x0 x1 ((((List.length x0) : Nat) : Int)) 0 _ (some_getD (d := l14_0D) c0)
      rw [eq_of_beq c1] at h3
      exact Eq.trans (Eq.mp (by kernel_rfl) h3) hq
    cases hp
  · skip
    refine ite_cases h (fun c2 h => ?_) (fun c2 h => ?_)
    · skip
      cases h
      refine ⟨(.d (.bool false)), [], runT_ok (LS := (fun k => if k = 3586 then some (l14_0E x0 x1 (((((List.length x0) : Nat) : Int))) ((l14_0R m (m + 24) x0 x1 ((((List.length x0) : Nat) : Int)) 0).2) 1) else none)) (fn := fn14) (vis := [(3586, l14_0H x0 x1 ((((List.length x0) : Nat) : Int)) 0, l14_0B x0 x1 ((((List.length x0) : Nat) : Int)) 0)]) (by kernel_rfl) rfl (by kernel_rfl) (M.run_of_path _ [] _ _ (by kernel_rfl) all_nil) ?_, by simp, (wkR.one (wkV.one (wk1.eq rfl))), trivial⟩
      intro p hp p2 hq
      rcases List.mem_cons.1 hp with rfl | hp
      · skip
        have h3 := l14_0_ok m (m + 24) x0 x1 ((((List.length x0) : Nat) : Int)) 0 _ (some_getD (d := l14_0D) c0)
        rw [eq_of_beq c2] at h3
        exact Eq.trans (Eq.mp (by kernel_rfl) h3) hq
      cases hp
    · skip
      obtain ⟨c3, h⟩ := iY h
      obtain ⟨c4, h⟩ := iY h
      refine ite_cases h (fun c5 h => ?_) (fun c5 h => ?_)
      · skip
        cases h
        refine ⟨(.d (.bool false)), [], runT_ok (LS := (fun k => if k = 3586 then some (l14_0E x0 x1 (((((List.length x0) : Nat) : Int))) ((l14_0R m (m + 24) x0 x1 ((((List.length x0) : Nat) : Int)) 0).2) 2) else if k = 939524096 then some (l14_1E x1 (((((List.length x1) : Nat) : Int))) ((l14_1R m (m + 24) x1 ((((List.length x1) : Nat) : Int)) 0).2) 0) else none)) (fn := fn14) (vis := [(3586, l14_0H x0 x1 ((((List.length x0) : Nat) : Int)) 0, l14_0B x0 x1 ((((List.length x0) : Nat) : Int)) 0), (939524096, l14_1H x1 ((((List.length x1) : Nat) : Int)) 0, l14_1B x1 ((((List.length x1) : Nat) : Int)) 0)]) (by kernel_rfl) rfl (by kernel_rfl) (M.run_of_path _ [] _ _ (by kernel_rfl) all_nil) ?_, by simp, (wkR.one (wkV.one (wk1.eq rfl))), trivial⟩
        intro p hp p2 hq
        rcases List.mem_cons.1 hp with rfl | hp
        · skip
          have h3 := l14_0_ok m (m + 24) x0 x1 ((((List.length x0) : Nat) : Int)) 0 _ (some_getD (d := l14_0D) c0)
          rw [eq_of_beq c3] at h3
          exact Eq.trans (Eq.mp (by kernel_rfl) h3) hq
        rcases List.mem_cons.1 hp with rfl | hp
        · skip
          have h3 := l14_1_ok m (m + 24) x1 ((((List.length x1) : Nat) : Int)) 0 _ (some_getD (d := l14_1D) c4)
          rw [eq_of_beq c5] at h3
          exact Eq.trans (Eq.mp (by kernel_rfl) h3) hq
        cases hp
      · skip
        refine ite_cases h (fun c6 h => ?_) (fun c6 h => ?_)
        · skip
          cases h
          refine ⟨(.d (.bool false)), [], runT_ok (LS := (fun k => if k = 3586 then some (l14_0E x0 x1 (((((List.length x0) : Nat) : Int))) ((l14_0R m (m + 24) x0 x1 ((((List.length x0) : Nat) : Int)) 0).2) 2) else if k = 939524096 then some (l14_1E x1 (((((List.length x1) : Nat) : Int))) ((l14_1R m (m + 24) x1 ((((List.length x1) : Nat) : Int)) 0).2) 1) else none)) (fn := fn14) (vis := [(3586, l14_0H x0 x1 ((((List.length x0) : Nat) : Int)) 0, l14_0B x0 x1 ((((List.length x0) : Nat) : Int)) 0), (939524096, l14_1H x1 ((((List.length x1) : Nat) : Int)) 0, l14_1B x1 ((((List.length x1) : Nat) : Int)) 0)]) (by kernel_rfl) rfl (by kernel_rfl) (M.run_of_path _ [] _ _ (by kernel_rfl) all_nil) ?_, by simp, (wkR.one (wkV.one (wk1.eq rfl))), trivial⟩
          intro p hp p2 hq
          rcases List.mem_cons.1 hp with rfl | hp
          · skip
            have h3 := l14_0_ok m (m + 24) x0 x1 ((((List.length x0) : Nat) : Int)) 0 _ (some_getD (d := l14_0D) c0)
            rw [eq_of_beq c3] at h3
            exact Eq.trans (Eq.mp (by kernel_rfl) h3) hq
          rcases List.mem_cons.1 hp with rfl | hp
          · skip
            have h3 := l14_1_ok m (m + 24) x1 ((((List.length x1) : Nat) : Int)) 0 _ (some_getD (d := l14_1D) c4)
            rw [eq_of_beq c6] at h3
            exact Eq.trans (Eq.mp (by kernel_rfl) h3) hq
          cases hp
        · skip
          refine ite_cases h (fun c7 h => ?_) (fun c7 h => ?_)
          · skip
            cases h
            refine ⟨(.d (.bool false)), [], runT_ok (LS := (fun k => if k = 3586 then some (l14_0E x0 x1 (((((List.length x0) : Nat) : Int))) ((l14_0R m (m + 24) x0 x1 ((((List.length x0) : Nat) : Int)) 0).2) 2) else if k = 939524096 then some (l14_1E x1 (((((List.length x1) : Nat) : Int))) ((l14_1R m (m + 24) x1 ((((List.length x1) : Nat) : Int)) 0).2) 2) else none)) (fn := fn14) (vis := [(3586, l14_0H x0 x1 ((((List.length x0) : Nat) : Int)) 0, l14_0B x0 x1 ((((List.length x0) : Nat) : Int)) 0), (939524096, l14_1H x1 ((((List.length x1) : Nat) : Int)) 0, l14_1B x1 ((((List.length x1) : Nat) : Int)) 0)]) (by kernel_rfl) rfl (by kernel_rfl) (M.run_of_path _ [] _ _ (by kernel_rfl) all_nil) ?_, by simp, (wkR.one (wkV.one (wk1.eq rfl))), trivial⟩
            intro p hp p2 hq
            rcases List.mem_cons.1 hp with rfl | hp
            · skip
              have h3 := l14_0_ok m (m + 24) x0 x1 ((((List.length x0) : Nat) : Int)) 0 _ (some_getD (d := l14_0D) c0)
              rw [eq_of_beq c3] at h3
              exact Eq.trans (Eq.mp (by kernel_rfl) h3) hq
            rcases List.mem_cons.1 hp with rfl | hp
            · skip
              have h3 := l14_1_ok m (m + 24) x1 ((((List.length x1) : Nat) : Int)) 0 _ (some_getD (d := l14_1D) c4)
              rw [eq_of_beq c7] at h3
              exact Eq.trans (Eq.mp (by kernel_rfl) h3) hq
            cases hp
          · skip
            refine ite_cases h (fun c8 h => ?_) (fun c8 h => ?_)
            · skip
              cases h
              refine ⟨(.d (.bool false)), [], runT_ok (LS := (fun k => if k = 3586 then some (l14_0E x0 x1 (((((List.length x0) : Nat) : Int))) ((l14_0R m (m + 24) x0 x1 ((((List.length x0) : Nat) : Int)) 0).2) 2) else if k = 939524096 then some (l14_1E x1 (((((List.length x1) : Nat) : Int))) ((l14_1R m (m + 24) x1 ((((List.length x1) : Nat) : Int)) 0).2) 3) else none)) (fn := fn14) (vis := [(3586, l14_0H x0 x1 ((((List.length x0) : Nat) : Int)) 0, l14_0B x0 x1 ((((List.length x0) : Nat) : Int)) 0), (939524096, l14_1H x1 ((((List.length x1) : Nat) : Int)) 0, l14_1B x1 ((((List.length x1) : Nat) : Int)) 0)]) (by kernel_rfl) rfl (by kernel_rfl) (M.run_of_path _ [] _ _ (by kernel_rfl) all_nil) ?_, by simp, (wkR.one (wkV.one (wk1.eq rfl))), trivial⟩
              intro p hp p2 hq
              rcases List.mem_cons.1 hp with rfl | hp
              · skip
                have h3 := l14_0_ok m (m + 24) x0 x1 ((((List.length x0) : Nat) : Int)) 0 _ (some_getD (d := l14_0D) c0)
                rw [eq_of_beq c3] at h3
                exact Eq.trans (Eq.mp (by kernel_rfl) h3) hq
              rcases List.mem_cons.1 hp with rfl | hp
              · skip
                have h3 := l14_1_ok m (m + 24) x1 ((((List.length x1) : Nat) : Int)) 0 _ (some_getD (d := l14_1D) c4)
                rw [eq_of_beq c8] at h3
                exact Eq.trans (Eq.mp (by kernel_rfl) h3) hq
              cases hp
            · skip
              obtain ⟨c9, h⟩ := iY h
              cases h
              refine ⟨(.d (.bool true)), [], runT_ok (LS := (fun k => if k = 3586 then some (l14_0E x0 x1 (((((List.length x0) : Nat) : Int))) ((l14_0R m (m + 24) x0 x1 ((((List.length x0) : Nat) : Int)) 0).2) 2) else if k = 939524096 then some (l14_1E x1 (((((List.length x1) : Nat) : Int))) ((l14_1R m (m + 24) x1 ((((List.length x1) : Nat) : Int)) 0).2) 4) else none)) (fn := fn14) (vis := [(3586, l14_0H x0 x1 ((((List.length x0) : Nat) : Int)) 0, l14_0B x0 x1 ((((List.length x0) : Nat) : Int)) 0), (939524096, l14_1H x1 ((((List.length x1) : Nat) : Int)) 0, l14_1B x1 ((((List.length x1) : Nat) : Int)) 0)]) (by kernel_rfl) rfl (by kernel_rfl) (M.run_of_path _ [] _ _ (by kernel_rfl) all_nil) ?_, by simp, (wkR.one (wkV.one (wk1.eq rfl))), trivial⟩
              intro p hp p2 hq
              rcases List.mem_cons.1 hp with rfl | hp
              · skip
                have h3 := l14_0_ok m (m + 24) x0 x1 ((((List.length x0) : Nat) : Int)) 0 _ (some_getD (d := l14_0D) c0)
                rw [eq_of_beq c3] at h3
                exact Eq.trans (Eq.mp (by kernel_rfl) h3) hq
              rcases List.mem_cons.1 hp with rfl | hp
              · skip
                have h3 := l14_1_ok m (m + 24) x1 ((((List.length x1) : Nat) : Int)) 0 _ (some_getD (d := l14_1D) c4)
                rw [eq_of_beq c9] at h3
                exact Eq.trans (Eq.mp (by kernel_rfl) h3) hq
              cases hp

def sRight (s : (List MT) × Int × Int) : Bool := rightG s.1 && decide (s.2.1 ≤ s.2.2)
def hRight (h : (List MT) × (List MT) × (Q7)) : Bool := rightG h.1 && (rightG h.2.1 && (decide (h.2.2.length ≤ 6) && h.2.2.all wordG))
def mrightG (ss : SS) (hs : HS) : Bool := ss.all sRight && hs.all hRight
def mrightPre (ss : SS) (hs : HS) : Bool := decide (ss.length ≤ 1000000 ∧ hs.length ≤ 1000000 ∧ (∀ s ∈ ss, rightPre s.1 = true) ∧ ∀ h ∈ hs, rightPre h.1 = true ∧ rightPre h.2.1 = true ∧ badPre h.2.2 = true)
theorem mr0_loop (m : Nat) (ss : SS) (hs : HS) (h1 : ss.length ≤ 1000000) (h2 : ∀ s ∈ ss, rightPre s.1 = true) : ∀ (n k : Nat), k ≤ ss.length → ss.length - k < n → ∃ e j, l14_0 m n ss hs (ss.length : Nat) (k : Nat) = some (e, j) ∧ (((e = 0 ∨ e = 1) ∧ (ss.drop k).all sRight = false) ∨ (e = 2 ∧ (ss.drop k).all sRight = true))
  | 0, k, _, h => by omega
  | n + 1, k, g1, g2 => by
    rw [l14_0]
    by_cases hk : k < ss.length
    · have e1 : decide (((k : Nat) : Int) < (((List.length ss) : Nat) : Int)) = true := decide_eq_true (by omega)
      have e2 : decide ((0 : Int) ≤ ((k : Nat) : Int)) = true := decide_eq_true (by omega)
      have e7 : IntKind.wrap .i64 (((k : Nat) : Int) + (1)) = ((k + 1 : Nat) : Int) := by rw [wrap_id (by omega) (by omega)]; rfl
      have e3 := h2 _ (getD_mem ss k (([] : List MT), (0, 0)) hk)
      have go := mr0_loop m ss hs h1 h2 n (k + 1) (by omega) (by omega)
      rw [drop_getD ss k (([] : List MT), (0, 0)) hk, List.all_cons, show Int.toNat ((k : Nat) : Int) = k from rfl, e7, if_pos e2, if_pos e1, if_pos e1, if_pos e3]
      generalize ss.getD k (([] : List MT), (0, 0)) = q at *
      have hs' : sRight q = (rightG q.1 && decide (q.2.1 ≤ q.2.2)) := rfl
      cases c1 : rightG q.1 with
      | false => rw [if_neg (by decide), hs', c1, Bool.false_and, Bool.false_and]; exact ⟨0, _, rfl, .inl ⟨.inl rfl, rfl⟩⟩
      | true =>
        rw [if_pos rfl, hs', c1, Bool.true_and]
        by_cases c2 : q.2.1 ≤ q.2.2
        · rw [if_neg (by rw [decide_eq_true_eq]; omega), decide_eq_true c2, Bool.true_and]; exact go
        · rw [if_pos (decide_eq_true (by omega)), decide_eq_false c2, Bool.false_and]; exact ⟨1, _, rfl, .inl ⟨.inr rfl, rfl⟩⟩
    · have e1 : decide (((k : Nat) : Int) < (((List.length ss) : Nat) : Int)) = false := decide_eq_false (by omega)
      rw [e1, if_neg (by decide), List.drop_eq_nil_of_le (by omega)]
      exact ⟨2, _, rfl, .inr ⟨rfl, rfl⟩⟩
theorem mr1_loop (m : Nat) (hs : HS) (h1 : hs.length ≤ 1000000) (h2 : ∀ h ∈ hs, rightPre h.1 = true ∧ rightPre h.2.1 = true ∧ badPre h.2.2 = true) : ∀ (n k : Nat), k ≤ hs.length → hs.length - k < n → ∃ e j, l14_1 m n hs (hs.length : Nat) (k : Nat) = some (e, j) ∧ (((e = 0 ∨ e = 1 ∨ e = 2 ∨ e = 3) ∧ (hs.drop k).all hRight = false) ∨ (e = 4 ∧ (hs.drop k).all hRight = true))
  | 0, k, _, h => by omega
  | n + 1, k, g1, g2 => by
    rw [l14_1]
    by_cases hk : k < hs.length
    · have e1 : decide (((k : Nat) : Int) < (((List.length hs) : Nat) : Int)) = true := decide_eq_true (by omega)
      have e2 : decide ((0 : Int) ≤ ((k : Nat) : Int)) = true := decide_eq_true (by omega)
      have e7 : IntKind.wrap .i64 (((k : Nat) : Int) + (1)) = ((k + 1 : Nat) : Int) := by rw [wrap_id (by omega) (by omega)]; rfl
      obtain ⟨e3, e4, e5⟩ := h2 _ (getD_mem hs k (([] : List MT), (([] : List MT), ([] : Q7))) hk)
      have go := mr1_loop m hs h1 h2 n (k + 1) (by omega) (by omega)
      rw [drop_getD hs k (([] : List MT), (([] : List MT), ([] : Q7))) hk, List.all_cons, show Int.toNat ((k : Nat) : Int) = k from rfl, e7, if_pos e2, if_pos e1, if_pos e1, if_pos e3]
      generalize hs.getD k (([] : List MT), (([] : List MT), ([] : Q7))) = q at *
      have hq : hRight q = (rightG q.1 && (rightG q.2.1 && (decide (q.2.2.length ≤ 6) && q.2.2.all wordG))) := rfl
      cases c1 : rightG q.1 with
      | false => rw [if_neg (by decide), hq, c1, Bool.false_and, Bool.false_and]; exact ⟨0, _, rfl, .inl ⟨.inl rfl, rfl⟩⟩
      | true =>
        rw [if_pos rfl, if_pos e4, hq, c1, Bool.true_and]
        cases c2 : rightG q.2.1 with
        | false => rw [if_neg (by decide), Bool.false_and, Bool.false_and]; exact ⟨1, _, rfl, .inl ⟨.inr (.inl rfl), rfl⟩⟩
        | true =>
          rw [if_pos rfl, Bool.true_and]
          by_cases c3 : q.2.2.length ≤ 6
          · have hb : decide (badG q.2.2 ≥ 0) = !q.2.2.all wordG := bad_all q.2.2 0
            rw [if_neg (by rw [decide_eq_true_eq]; omega), if_pos e5, hb, decide_eq_true c3, Bool.true_and]
            cases q.2.2.all wordG with
            | true => rw [if_neg (by decide), Bool.true_and]; exact go
            | false => rw [if_pos (by decide), Bool.false_and]; exact ⟨3, _, rfl, .inl ⟨.inr (.inr (.inr rfl)), rfl⟩⟩
          · rw [if_pos (decide_eq_true (by omega)), decide_eq_false c3, Bool.false_and, Bool.false_and]; exact ⟨2, _, rfl, .inl ⟨.inr (.inr (.inl rfl)), rfl⟩⟩
    · have e1 : decide (((k : Nat) : Int) < (((List.length hs) : Nat) : Int)) = false := decide_eq_false (by omega)
      rw [e1, if_neg (by decide), List.drop_eq_nil_of_le (by omega)]
      exact ⟨4, _, rfl, .inr ⟨rfl, rfl⟩⟩
theorem mright14 (ss : SS) (hs : HS) (h : mrightPre ss hs = true) : ∃ m, p14 m ss hs = some (mrightG ss hs) := by
  have ⟨h1, h2, h3, h4⟩ := of_decide_eq_true h
  refine ⟨ss.length + hs.length, ?_⟩
  obtain ⟨e, j, hr, hc⟩ := mr0_loop (ss.length + hs.length) ss hs h1 h3 (ss.length + hs.length + 24) 0 (by omega) (by omega)
  obtain ⟨e', j', hr', hc'⟩ := mr1_loop (ss.length + hs.length) hs h2 h4 (ss.length + hs.length + 24) 0 (by omega) (by omega)
  simp only [Int.natCast_zero, List.drop_zero] at hr hc hr' hc'
  unfold p14 mrightG
  simp only [l14_0R, l14_1R, hr, hr', Option.isSome_some, Option.getD_some, ↓reduceIte]
  rcases hc with ⟨rfl | rfl, hc⟩ | ⟨rfl, hc⟩ <;> rw [hc]
  · rw [Bool.false_and]; rfl
  · rw [Bool.false_and]; rfl
  · rw [Bool.true_and]
    rcases hc' with ⟨rfl | rfl | rfl | rfl, hc'⟩ | ⟨rfl, hc'⟩ <;> rw [hc'] <;> rfl
def s14 : List AV → Boxes → M (AV × Boxes) := normS [.val (.sl (.pair (.sl (.pair .str (.pair .str (.int .i64)))) (.pair (.int .i64) (.int .i64)))), .val (.sl (.pair (.sl (.pair .str (.pair .str (.int .i64)))) (.pair (.sl (.pair .str (.pair .str (.int .i64)))) (.sl .str))))] [] fun xs B => match xs, B with
  | [(.d (.sl (.pair (.sl (.pair .str (.pair .str (.int .i64)))) (.pair (.int .i64) (.int .i64))) c1)), (.d (.sl (.pair (.sl (.pair .str (.pair .str (.int .i64)))) (.pair (.sl (.pair .str (.pair .str (.int .i64)))) (.sl .str))) c2))], [] => .chk (mrightPre c1 c2) (.ret ((.d (.bool (mrightG c1 c2))), []))
  | _, _ => .fail
theorem s14_at : CallAt Tryd.prog 14 s14 := by
  refine CallAt.norm (CallAt.weakE (g := fun n => evCall F S25 n 14) (fun n => evCall_atH mixed kinds hds S25 S25_ok n 14) fun xs B r' B' hr => ?_) _ _
  split at hr
  · rename_i c1 c2
    obtain ⟨hp, hr⟩ := (M.run_chk _ _ _).1 hr
    simp only [M.run, Option.some.injEq, Prod.mk.injEq] at hr
    obtain ⟨rfl, rfl⟩ := hr
    obtain ⟨m, hm⟩ := mright14 c1 c2 hp
    obtain ⟨r, B1, h1, h2, h3, h4⟩ := p14_ok m c1 c2 _ hm
    exact ⟨m + 25, r, B1, h1, by simp, h2, h3, h4⟩
  · simp [M.run] at hr
noncomputable def S26 : FuncId → Option (List AV → Boxes → M (AV × Boxes)) := fun f => if f = 14 then some s14 else S25 f
theorem S26_ok : ∀ f s, S26 f = some s → CallAt Tryd.prog f s := by
  intro f s h
  unfold S26 at h
  split at h
  · rename_i e; subst e; cases h; exact s14_at
  · exact S25_ok f s h

end Go.Proofs.YtghkbjflejgieaaDoor.Dec
namespace Go.Proofs.YtghkbjflejgieaaDoor.Dec
open Go.Ev
set_option linter.unusedVariables false
set_option linter.unusedSimpArgs false
set_option maxRecDepth 100000
set_option maxHeartbeats 20000000
noncomputable def fn19 : AFn := (F 19).getD ⟨0, [], .bad, false, false, noHd⟩
noncomputable def body19 : AC := fn19.body
def l19_0 (m : Nat) : Nat → Q5 → Q5 → Int → Option (Nat × Int)
  | 0, _, _, _ => none
  | n + 1, x0, x1, s5 => if decide (s5 < (((List.length x0) : Nat) : Int)) = true then
      if decide (0 ≤ s5) = true then
      if decide (s5 < (((List.length x1) : Nat) : Int)) = true then
      if (((List.getD x0 (Int.toNat s5) (([] : Q8), ([] : Q8))).1 == (List.getD x1 (Int.toNat s5) (([] : Q8), ([] : Q8))).1) && (((List.getD x0 (Int.toNat s5) (([] : Q8), ([] : Q8))).2 == (List.getD x1 (Int.toNat s5) (([] : Q8), ([] : Q8))).2) && true)) = true then
        l19_0 m n x0 x1 ((IntKind.wrap .i64 (s5 + (1))))
      else
        some (0, s5)
      else none
      else none
    else
      some (1, s5)
def l19_0D : Nat × Int := (0, 0)
@[reducible] def l19_0R (m n : Nat) (x0 : Q5) (x1 : Q5) (s5 : Int) : Nat × Int := Option.getD (l19_0 m n x0 x1 s5) l19_0D
def l19_0H (x0 : Q5) (x1 : Q5) (s5 : Int) : Env := ((.d (.sl (.pair .str .str) x0)) :: (.d (.sl (.pair .str .str) x1)) :: .top :: .top :: .top :: (.d (.int .i64 s5)) :: tp20 [])
def l19_0B (x0 : Q5) (x1 : Q5) (s5 : Int) : Boxes := []
def l19_0E (x0 : Q5) (x1 : Q5) (s5 : Int) : Nat → AEx × Env × Boxes
  | 0 => (.ret, [(.d (.sl (.pair .str .str) x0)), (.d (.sl (.pair .str .str) x1)), .top, .top, (.d (.bool false)), (.d (.int .i64 s5)), .top, .top, .top, .top, .top, (.d (.int .i64 s5)), (.d (.sl (.pair .str .str) x0)), (.d (.int .i64 (((List.length x0) : Nat) : Int))), (.d (.bool (decide (s5 < (((List.length x0) : Nat) : Int))))), .top, .top, (.d (.sl (.pair .str .str) x0)), (.d (.int .i64 s5)), (.cptr [(.str (List.getD x0 (Int.toNat s5) (([] : Q8), ([] : Q8))).1), (.str (List.getD x0 (Int.toNat s5) (([] : Q8), ([] : Q8))).2)] 0), (.agg [(.d (.str (List.getD x0 (Int.toNat s5) (([] : Q8), ([] : Q8))).1)), (.d (.str (List.getD x0 (Int.toNat s5) (([] : Q8), ([] : Q8))).2))]), (.d (.sl (.pair .str .str) x1)), (.d (.int .i64 s5)), (.cptr [(.str (List.getD x1 (Int.toNat s5) (([] : Q8), ([] : Q8))).1), (.str (List.getD x1 (Int.toNat s5) (([] : Q8), ([] : Q8))).2)] 0), (.agg [(.d (.str (List.getD x1 (Int.toNat s5) (([] : Q8), ([] : Q8))).1)), (.d (.str (List.getD x1 (Int.toNat s5) (([] : Q8), ([] : Q8))).2))]), (.d (.bool (!(((List.getD x0 (Int.toNat s5) (([] : Q8), ([] : Q8))).1 == (List.getD x1 (Int.toNat s5) (([] : Q8), ([] : Q8))).1) && (((List.getD x0 (Int.toNat s5) (([] : Q8), ([] : Q8))).2 == (List.getD x1 (Int.toNat s5) (([] : Q8), ([] : Q8))).2) && true)))))], [.dead, .dead, .dead, .dead, .dead, .dead, .dead, .dead, .dead, .dead, .dead, .dead, .dead, .dead, .dead, .dead, .dead, .dead, .dead, .dead, .dead, .dead, .dead, .dead, .dead, .dead, .dead, .dead, .dead, .dead, .dead, .dead, .dead, .dead, .dead, .dead])
  | _ => (.exit 0, ((.d (.sl (.pair .str .str) x0)) :: (.d (.sl (.pair .str .str) x1)) :: .top :: .top :: .top :: (.d (.int .i64 s5)) :: .top :: .top :: .top :: .top :: .top :: (.d (.int .i64 s5)) :: (.d (.sl (.pair .str .str) x0)) :: (.d (.int .i64 (((List.length x0) : Nat) : Int))) :: (.d (.bool (decide (s5 < (((List.length x0) : Nat) : Int))))) :: tp11 []), [])
noncomputable def lbl19_0 : AC := loopBody 35 body19
@[reducible] noncomputable def cb20 (m : Nat) := (evC byref (evCall F S26 (m + 24)) (m + 24) 0 (hds 19) lbl19_0)


theorem l19_0_step (m n : Nat) (ih : ∀ (x0 : Q5) (x1 : Q5) (s5 : Int) (q : Nat × Int), l19_0 m n x0 x1 s5 = some q → (turns (hds 19 35) 0 35 (cb20 m) n (l19_0H x0 x1 s5) (l19_0B x0 x1 s5)).run = some (l19_0E (x0) (x1) (q.2) q.1)) (x0 : Q5) (x1 : Q5) (s5 : Int) (q : Nat × Int) (h : l19_0 m (n + 1) x0 x1 s5 = some q) : (turns (hds 19 35) 0 35 (cb20 m) (n + 1) (l19_0H x0 x1 s5) (l19_0B x0 x1 s5)).run = some (l19_0E (x0) (x1) (q.2) q.1) := by
  rw [l19_0] at h
  refine ite_cases h (fun c0 h => ?_) (fun c0 h => ?_)
  · skip
    obtain ⟨c1, h⟩ := iY h
    obtain ⟨c4, h⟩ := iY h
    refine ite_cases h (fun c5 h => ?_) (fun c5 h => ?_)
    · skip
      have ih := ih _ _ _ q h
      refine turns_step ?_ ih
      exact M.run_of_path _ [tT, tT, tT, tT, tT, fF] _ _ (by kernel_rfl) (all_t c0 (all_t c1 (all_t c0 (all_t c1 (all_t c4 (all_nt c5 all_nil))))))
    · skip
      cases h
      refine turns_last (by simp) ?_
      exact M.run_of_path _ [tT, tT, tT, tT, tT, tT] _ _ (by kernel_rfl) (all_t c0 (all_t c1 (all_t c0 (all_t c1 (all_t c4 (all_nf c5 all_nil))))))
  · skip
    cases h
    refine turns_last (by simp) ?_
    exact M.run_of_path _ [fF] _ _ (by kernel_rfl) (all_f c0 all_nil)
theorem l19_0_ok (m : Nat) : ∀ (n : Nat) (x0 : Q5) (x1 : Q5) (s5 : Int) (q : Nat × Int), l19_0 m n x0 x1 s5 = some q → (turns (hds 19 35) 0 35 (cb20 m) n (l19_0H x0 x1 s5) (l19_0B x0 x1 s5)).run = some (l19_0E (x0) (x1) (q.2) q.1)
  | 0, x0, x1, s5, q, h => by cases h
  | n + 1, x0, x1, s5, q, h => l19_0_step m n (l19_0_ok m n) x0 x1 s5 q h

def p19 (m : Nat) (x0 : Q5) (x1 : Q5) : Option (Bool) :=
  if ((((List.length x0) : Nat) : Int) != (((List.length x1) : Nat) : Int)) = true then
    some (false)
  else
    if (Option.isSome (l19_0 m (m + 24) x0 x1 0)) = true then
    if ((l19_0R m (m + 24) x0 x1 0).1 == 0) = true then
      some (false)
    else
      if ((l19_0R m (m + 24) x0 x1 0).1 == 1) = true then
      some (true)
      else none
    else none
theorem p19_ok (m : Nat) (x0 : Q5) (x1 : Q5) (q : Bool) (h : p19 m x0 x1 = some q) : ∃ r B1, (evCall F S26 (m + 25) 19 [(.d (.sl (.pair .str .str) x0)), (.d (.sl (.pair .str .str) x1))] []).run = some (r, B1) ∧ 0 ≤ B1.length ∧ wkR B1 [] r (.d (.bool (q))) ∧ wkBs B1 [] 0 [] := by
  unfold p19 at h
  refine ite_cases h (fun c0 h => ?_) (fun c0 h => ?_)
  · skip
    cases h
    refine ⟨(.d (.bool false)), [], runT_ok (LS := (fun k => none)) (fn := fn19) (vis := []) (by kernel_rfl) rfl (by kernel_rfl) (M.run_of_path _ [tT] _ _ (by kernel_rfl) (all_t c0 all_nil)) ?_, by simp, (wkR.one (wkV.one (wk1.eq rfl))), trivial⟩
    intro p hp; cases hp
  · skip
    obtain ⟨c1, h⟩ := iY h
    refine ite_cases h (fun c2 h => ?_) (fun c2 h => ?_)
    · skip
      cases h
      refine ⟨(.d (.bool false)), [], runT_ok (LS := (fun k => if k = 35 then some (l19_0E x0 x1 ((l19_0R m (m + 24) x0 x1 0).2) 0) else none)) (fn := fn19) (vis := [(35, l19_0H x0 x1 0, l19_0B x0 x1 0)]) (by kernel_rfl) rfl (by kernel_rfl) (M.run_of_path _ [fF] _ _ (by kernel_rfl) (all_f c0 all_nil)) ?_, by simp, (wkR.one (wkV.one (wk1.eq rfl))), trivial⟩
      intro p hp p2 hq
      rcases List.mem_cons.1 hp with rfl | hp
      · skip
        have h3 := l19_0_ok m (m + 24) x0 x1 0 _ (some_getD (d := l19_0D) c1)
        rw [eq_of_beq c2] at h3
        exact Eq.trans (Eq.mp (by kernel_rfl) h3) hq
      cases hp
    · skip
      obtain ⟨c3, h⟩ := iY h
      cases h
      refine ⟨(.d (.bool true)), [], runT_ok (LS := (fun k => if k = 35 then some (l19_0E x0 x1 ((l19_0R m (m + 24) x0 x1 0).2) 1) else none)) (fn := fn19) (vis := [(35, l19_0H x0 x1 0, l19_0B x0 x1 0)]) (by kernel_rfl) rfl (by kernel_rfl) (M.run_of_path _ [fF] _ _ (by kernel_rfl) (all_f c0 all_nil)) ?_, by simp, (wkR.one (wkV.one (wk1.eq rfl))), trivial⟩
      intro p hp p2 hq
      rcases List.mem_cons.1 hp with rfl | hp
      · skip
        have h3 := l19_0_ok m (m + 24) x0 x1 0 _ (some_getD (d := l19_0D) c1)
        rw [eq_of_beq c3] at h3
        exact Eq.trans (Eq.mp (by kernel_rfl) h3) hq
      cases hp

theorem eq19_loop (m : Nat) (a b : Q5) (hl : a.length = b.length) (hb : a.length < 4611686018427387904) : ∀ n k, k ≤ a.length → a.length - k < n → ∃ j, l19_0 m n a b (k : Nat) = some (if a.drop k == b.drop k then 1 else 0, j)
  | 0, k, _, h => by omega
  | n + 1, k, hk, hn => by
    rw [l19_0]
    by_cases h : k < a.length
    · have hs : ∀ u v : (Q8) × (Q8), ((u.1 == v.1) && ((u.2 == v.2) && true)) = (u == v) := fun u v => by rw [Bool.and_true]; rfl
      have e1 : decide (((k : Nat) : Int) < ((a.length : Nat) : Int)) = true := decide_eq_true (by omega)
      have e2 : decide ((0 : Int) ≤ ((k : Nat) : Int)) = true := decide_eq_true (by omega)
      have e3 : decide (((k : Nat) : Int) < ((b.length : Nat) : Int)) = true := decide_eq_true (by omega)
      simp only [e1, e2, e3, if_true, Int.toNat_natCast,hs]
      rw [drop_getD a k (([] : Q8), ([] : Q8)) h, drop_getD b k (([] : Q8), ([] : Q8)) (by omega)]
      have ew : IntKind.wrap .i64 (((k : Nat) : Int) + (1)) = ((k + 1 : Nat) : Int) := by rw [wrap_id (by omega) (by omega)]; rfl
      rw [ew]
      obtain ⟨j, hj⟩ := eq19_loop m a b hl hb n (k + 1) (by omega) (by omega)
      have hc : ((a.getD k (([] : Q8), ([] : Q8))) :: a.drop (k + 1) == (b.getD k (([] : Q8), ([] : Q8))) :: b.drop (k + 1)) = (((a.getD k (([] : Q8), ([] : Q8))) == (b.getD k (([] : Q8), ([] : Q8)))) && (a.drop (k + 1) == b.drop (k + 1))) := rfl
      rw [hc]
      rcases Bool.eq_false_or_eq_true ((a.getD k (([] : Q8), ([] : Q8))) == (b.getD k (([] : Q8), ([] : Q8)))) with he | he
      · exact ⟨j, by simp only [he, hj]; simp⟩
      · exact ⟨(k : Nat), by simp only [he]; simp⟩
    · have e1 : decide (((k : Nat) : Int) < ((a.length : Nat) : Int)) = false := decide_eq_false (by omega)
      refine ⟨(k : Nat), ?_⟩
      simp only [e1, Bool.false_eq_true, if_false]
      rw [List.drop_eq_nil_of_le (by omega), List.drop_eq_nil_of_le (by omega)]
      rfl
theorem eq19 (a b : Q5) (h : decide (List.length a < 4611686018427387904) = true) : ∃ m, p19 m a b = some (a == b) := by
  have hb := of_decide_eq_true h
  refine ⟨a.length, ?_⟩
  unfold p19 l19_0R
  by_cases hl : a.length = b.length
  · have e0 : ((((List.length a) : Nat) : Int) != (((List.length b) : Nat) : Int)) = false := by simp [hl]
    obtain ⟨j, hj⟩ := eq19_loop a.length a b hl hb (a.length + 24) 0 (by omega) (by omega)
    simp only [Int.natCast_zero, List.drop_zero] at hj
    rw [e0]
    simp only [Bool.false_eq_true, if_false]
    rw [hj]
    cases hab : a == b <;> simp [hab]
  · have e0 : ((((List.length a) : Nat) : Int) != (((List.length b) : Nat) : Int)) = true := by simp; omega
    rw [e0]
    have : (a == b) = false := by
      rw [beq_eq_false_iff_ne]
      intro e; rw [e] at hl; exact hl rfl
    simp [this]
def s19 : List AV → Boxes → M (AV × Boxes) := normS [.val (.sl (.pair .str .str)), .val (.sl (.pair .str .str))] [] fun xs B => match xs, B with
  | [(.d (.sl (.pair .str .str) c1)), (.d (.sl (.pair .str .str) c2))], [] => .chk (decide (List.length c1 < 4611686018427387904)) (.ret ((.d (.bool ((show Q5 from c1) == c2))), []))
  | _, _ => .fail
theorem s19_at : CallAt Tryd.prog 19 s19 := by
  refine CallAt.norm (CallAt.weakE (g := fun n => evCall F S26 n 19) (fun n => evCall_atH mixed kinds hds S26 S26_ok n 19) fun xs B r' B' hr => ?_) _ _
  split at hr
  · rename_i c1 c2
    obtain ⟨hp, hr⟩ := (M.run_chk _ _ _).1 hr
    simp only [M.run, Option.some.injEq, Prod.mk.injEq] at hr
    obtain ⟨rfl, rfl⟩ := hr
    obtain ⟨m, hm⟩ := eq19 c1 c2 hp
    obtain ⟨r, B1, h1, h2, h3, h4⟩ := p19_ok m c1 c2 _ hm
    exact ⟨m + 25, r, B1, h1, by simp, h2, h3, h4⟩
  · simp [M.run] at hr
noncomputable def S27 : FuncId → Option (List AV → Boxes → M (AV × Boxes)) := fun f => if f = 19 then some s19 else S26 f
theorem S27_ok : ∀ f s, S27 f = some s → CallAt Tryd.prog f s := by
  intro f s h
  unfold S27 at h
  split at h
  · rename_i e; subst e; cases h; exact s19_at
  · exact S26_ok f s h

noncomputable def fn18 : AFn := (F 18).getD ⟨0, [], .bad, false, false, noHd⟩
noncomputable def body18 : AC := fn18.body
def l18_0 (m : Nat) : Nat → Q3 → Int → Int → Q2 → Q0 → Int → Int → Option (Nat × Int)
  | 0, _, _, _, _, _, _, _ => none
  | n + 1, x0, x1, x2, x3, x4, s20, s21 => if decide (s21 < s20) = true then
      if decide (0 ≤ s21) = true then
      if decide (s21 < (((List.length x3) : Nat) : Int)) = true then
      if decide (x2 ≥ (List.getD x3 (Int.toNat s21) (([] : Q4), (0, 0))).2.1) = true then
        if decide (x2 < (List.getD x3 (Int.toNat s21) (([] : Q4), (0, 0))).2.2) = true then
          if decide (0 ≤ x1) = true then
          if decide (x1 < (((List.length x0) : Nat) : Int)) = true then
          if decide (List.length (List.getD x3 (Int.toNat s21) (([] : Q4), (0, 0))).1 ≤ 1000000 ∧ List.length (List.getD x0 (Int.toNat x1) ([] : Q5)) ≤ 1000000) = true then
          if (allG (List.getD x0 (Int.toNat x1) ([] : Q5)) (List.getD x3 (Int.toNat s21) (([] : Q4), (0, 0))).1) = true then
            some (0, s21)
          else
            l18_0 m n x0 x1 x2 x3 x4 s20 ((IntKind.wrap .i64 (s21 + (1))))
          else none
          else none
          else none
        else
          l18_0 m n x0 x1 x2 x3 x4 s20 ((IntKind.wrap .i64 (s21 + (1))))
      else
        l18_0 m n x0 x1 x2 x3 x4 s20 ((IntKind.wrap .i64 (s21 + (1))))
      else none
      else none
    else
      some (1, s21)
def l18_0D : Nat × Int := (0, 0)
@[reducible] def l18_0R (m n : Nat) (x0 : Q3) (x1 : Int) (x2 : Int) (x3 : Q2) (x4 : Q0) (s20 : Int) (s21 : Int) : Nat × Int := Option.getD (l18_0 m n x0 x1 x2 x3 x4 s20 s21) l18_0D
def l18_0H (x0 : Q3) (x1 : Int) (x2 : Int) (x3 : Q2) (x4 : Q0) (s20 : Int) (s21 : Int) : Env := ((.d (.sl (.sl (.pair .str .str)) x0)) :: (.d (.int .i64 x1)) :: (.d (.int .i64 x2)) :: .top :: (.d (.sl (.pair (.sl (.pair .str (.pair .str (.int .i64)))) (.pair (.sl (.pair .str (.pair .str (.int .i64)))) (.sl .str))) x4)) :: tp14 ((.d (.sl (.pair (.sl (.pair .str (.pair .str (.int .i64)))) (.pair (.int .i64) (.int .i64))) x3)) :: (.d (.int .i64 s20)) :: (.d (.int .i64 s21)) :: tp90 []))
def l18_0B (x0 : Q3) (x1 : Int) (x2 : Int) (x3 : Q2) (x4 : Q0) (s20 : Int) (s21 : Int) : Boxes := []
def l18_0E (x0 : Q3) (x1 : Int) (x2 : Int) (x3 : Q2) (x4 : Q0) (s20 : Int) (s21 : Int) : Nat → AEx × Env × Boxes
  | 0 => (.ret, ((.d (.sl (.sl (.pair .str .str)) x0)) :: (.d (.int .i64 x1)) :: (.d (.int .i64 x2)) :: .top :: (.d (.sl (.pair (.sl (.pair .str (.pair .str (.int .i64)))) (.pair (.sl (.pair .str (.pair .str (.int .i64)))) (.sl .str))) x4)) :: .top :: .top :: .top :: .top :: .top :: (.d (.bool true)) :: .top :: (.ptr 0 0) :: .top :: .top :: .top :: .top :: .top :: .top :: (.d (.sl (.pair (.sl (.pair .str (.pair .str (.int .i64)))) (.pair (.int .i64) (.int .i64))) x3)) :: (.d (.int .i64 s20)) :: (.d (.int .i64 s21)) :: (.d (.bool (decide (s21 < s20)))) :: (.cptr [(.sl (.pair .str (.pair .str (.int .i64))) (List.getD x3 (Int.toNat s21) (([] : Q4), (0, 0))).1), (.int .i64 (List.getD x3 (Int.toNat s21) (([] : Q4), (0, 0))).2.1), (.int .i64 (List.getD x3 (Int.toNat s21) (([] : Q4), (0, 0))).2.2)] 0) :: (.agg [(.d (.sl (.pair .str (.pair .str (.int .i64))) (List.getD x3 (Int.toNat s21) (([] : Q4), (0, 0))).1)), (.d (.int .i64 (List.getD x3 (Int.toNat s21) (([] : Q4), (0, 0))).2.1)), (.d (.int .i64 (List.getD x3 (Int.toNat s21) (([] : Q4), (0, 0))).2.2))]) :: (.d (.int .i64 x2)) :: (.ptr 0 1) :: (.d (.int .i64 (List.getD x3 (Int.toNat s21) (([] : Q4), (0, 0))).2.1)) :: (.d (.bool (decide (x2 ≥ (List.getD x3 (Int.toNat s21) (([] : Q4), (0, 0))).2.1)))) :: (.d (.bool (decide (x2 ≥ (List.getD x3 (Int.toNat s21) (([] : Q4), (0, 0))).2.1)))) :: (.d (.int .i64 x2)) :: (.ptr 0 2) :: (.d (.int .i64 (List.getD x3 (Int.toNat s21) (([] : Q4), (0, 0))).2.2)) :: (.d (.bool (decide (x2 < (List.getD x3 (Int.toNat s21) (([] : Q4), (0, 0))).2.2)))) :: (.d (.bool (decide (x2 < (List.getD x3 (Int.toNat s21) (([] : Q4), (0, 0))).2.2)))) :: (.d (.bool (decide (x2 < (List.getD x3 (Int.toNat s21) (([] : Q4), (0, 0))).2.2)))) :: (.ptr 0 0) :: (.d (.sl (.pair .str (.pair .str (.int .i64))) (List.getD x3 (Int.toNat s21) (([] : Q4), (0, 0))).1)) :: (.d (.sl (.sl (.pair .str .str)) x0)) :: (.d (.int .i64 x1)) :: (.cptr [(.sl (.pair .str .str) (List.getD x0 (Int.toNat x1) ([] : Q5)))] 0) :: (.d (.sl (.pair .str .str) (List.getD x0 (Int.toNat x1) ([] : Q5)))) :: (.d (.bool (allG (List.getD x0 (Int.toNat x1) ([] : Q5)) (List.getD x3 (Int.toNat s21) (([] : Q4), (0, 0))).1))) :: (.d (.bool (allG (List.getD x0 (Int.toNat x1) ([] : Q5)) (List.getD x3 (Int.toNat s21) (([] : Q4), (0, 0))).1))) :: tp68 []), [(.cells [(.d (.sl (.pair .str (.pair .str (.int .i64))) (List.getD x3 (Int.toNat s21) (([] : Q4), (0, 0))).1)), (.d (.int .i64 (List.getD x3 (Int.toNat s21) (([] : Q4), (0, 0))).2.1)), (.d (.int .i64 (List.getD x3 (Int.toNat s21) (([] : Q4), (0, 0))).2.2))]), .dead, .dead, .dead, .dead, .dead, .dead, .dead, .dead, .dead, .dead, .dead, .dead, .dead, .dead, .dead, .dead, .dead, .dead, .dead, .dead, .dead, .dead, .dead, .dead, .dead, .dead, .dead, .dead, .dead, .dead, .dead, .dead, .dead, .dead, .dead, .dead, .dead, .dead, .dead, .dead, .dead, .dead, .dead, .dead, .dead, .dead, .dead, .dead, .dead, .dead, .dead, .dead, .dead, .dead, .dead, .dead, .dead, .dead, .dead, .dead, .dead, .dead, .dead, .dead, .dead, .dead, .dead, .dead, .dead, .dead, .dead, .dead, .dead, .dead, .dead, .dead])
  | _ => (.exit 0, ((.d (.sl (.sl (.pair .str .str)) x0)) :: (.d (.int .i64 x1)) :: (.d (.int .i64 x2)) :: .top :: (.d (.sl (.pair (.sl (.pair .str (.pair .str (.int .i64)))) (.pair (.sl (.pair .str (.pair .str (.int .i64)))) (.sl .str))) x4)) :: tp14 ((.d (.sl (.pair (.sl (.pair .str (.pair .str (.int .i64)))) (.pair (.int .i64) (.int .i64))) x3)) :: (.d (.int .i64 s20)) :: (.d (.int .i64 s21)) :: (.d (.bool (decide (s21 < s20)))) :: tp89 [])), [])
noncomputable def lbl18_0 : AC := loopBody 3670039 body18
@[reducible] noncomputable def cb21 (m : Nat) := (evC byref (evCall F S27 (m + 24)) (m + 24) 0 (hds 18) lbl18_0)


theorem l18_0_step (m n : Nat) (ih : ∀ (x0 : Q3) (x1 : Int) (x2 : Int) (x3 : Q2) (x4 : Q0) (s20 : Int) (s21 : Int) (q : Nat × Int), l18_0 m n x0 x1 x2 x3 x4 s20 s21 = some q → (turns (hds 18 3670039) 0 3670039 (cb21 m) n (l18_0H x0 x1 x2 x3 x4 s20 s21) (l18_0B x0 x1 x2 x3 x4 s20 s21)).run = some (l18_0E (x0) (x1) (x2) (x3) (x4) (s20) (q.2) q.1)) (x0 : Q3) (x1 : Int) (x2 : Int) (x3 : Q2) (x4 : Q0) (s20 : Int) (s21 : Int) (q : Nat × Int) (h : l18_0 m (n + 1) x0 x1 x2 x3 x4 s20 s21 = some q) : (turns (hds 18 3670039) 0 3670039 (cb21 m) (n + 1) (l18_0H x0 x1 x2 x3 x4 s20 s21) (l18_0B x0 x1 x2 x3 x4 s20 s21)).run = some (l18_0E (x0) (x1) (x2) (x3) (x4) (s20) (q.2) q.1) := by
  rw [l18_0] at h
  refine ite_cases h (fun c0 h => ?_) (fun c0 h => ?_)
  · skip
    obtain ⟨c1, h⟩ := iY h
    obtain ⟨c2, h⟩ := iY h
    refine ite_cases h (fun c3 h => ?_) (fun c3 h => ?_)
    · skip
      refine ite_cases h (fun c8 h => ?_) (fun c8 h => ?_)
      · skip
        obtain ⟨c13, h⟩ := iY h
        obtain ⟨c14, h⟩ := iY h
        obtain ⟨c17, h⟩ := iY h
        refine ite_cases h (fun c19 h => ?_) (fun c19 h => ?_)
        · skip
          cases h
          refine turns_last (by simp) ?_
          exact M.run_of_path _ [tT, tT, tT, tT, tT, tT, tT, tT, tT, tT, tT, tT, tT, tT, tT, tT, tT, tT, tT, tT] _ _ (by kernel_rfl) (all_t c0 (all_t c1 (all_t c2 (all_t c3 (all_t c3 (all_t c3 (all_t c3 (all_t c3 (all_t c8 (all_t c8 (all_t c8 (all_t c8 (all_t c8 (all_t c13 (all_t c14 (all_t c8 (all_t c8 (all_t c17 (all_t c8 (all_t c19 all_nil))))))))))))))))))))
        · skip
          have ih := ih _ _ _ _ _ _ _ q h
          refine turns_step ?_ ih
          exact M.run_of_path _ [tT, tT, tT, tT, tT, tT, tT, tT, tT, tT, tT, tT, tT, tT, tT, tT, tT, tT, tT, fF] _ _ (by kernel_rfl) (all_t c0 (all_t c1 (all_t c2 (all_t c3 (all_t c3 (all_t c3 (all_t c3 (all_t c3 (all_t c8 (all_t c8 (all_t c8 (all_t c8 (all_t c8 (all_t c13 (all_t c14 (all_t c8 (all_t c8 (all_t c17 (all_t c8 (all_f c19 all_nil))))))))))))))))))))
      · skip
        have ih := ih _ _ _ _ _ _ _ q h
        refine turns_step ?_ ih
        exact M.run_of_path _ [tT, tT, tT, tT, tT, tT, tT, tT, fF, fF, fF, fF, fF, fF, fF, fF, fF] _ _ (by kernel_rfl) (all_t c0 (all_t c1 (all_t c2 (all_t c3 (all_t c3 (all_t c3 (all_t c3 (all_t c3 (all_f c8 (all_f c8 (all_f c8 (all_f c8 (all_f c8 (all_f c8 (all_f c8 (all_f c8 (all_f Bool.false_ne_true all_nil)))))))))))))))))
    · skip
      have ih := ih _ _ _ _ _ _ _ q h
      refine turns_step ?_ ih
      exact M.run_of_path _ [tT, tT, tT, fF, fF, fF, fF, fF, fF, fF, fF, fF, fF, fF, fF, fF, fF] _ _ (by kernel_rfl) (all_t c0 (all_t c1 (all_t c2 (all_f c3 (all_f c3 (all_f c3 (all_f c3 (all_f c3 (all_f Bool.false_ne_true (all_f Bool.false_ne_true (all_f Bool.false_ne_true (all_f Bool.false_ne_true (all_f Bool.false_ne_true (all_f Bool.false_ne_true (all_f Bool.false_ne_true (all_f Bool.false_ne_true (all_f Bool.false_ne_true all_nil)))))))))))))))))
  · skip
    cases h
    refine turns_last (by simp) ?_
    exact M.run_of_path _ [fF] _ _ (by kernel_rfl) (all_f c0 all_nil)
theorem l18_0_ok (m : Nat) : ∀ (n : Nat) (x0 : Q3) (x1 : Int) (x2 : Int) (x3 : Q2) (x4 : Q0) (s20 : Int) (s21 : Int) (q : Nat × Int), l18_0 m n x0 x1 x2 x3 x4 s20 s21 = some q → (turns (hds 18 3670039) 0 3670039 (cb21 m) n (l18_0H x0 x1 x2 x3 x4 s20 s21) (l18_0B x0 x1 x2 x3 x4 s20 s21)).run = some (l18_0E (x0) (x1) (x2) (x3) (x4) (s20) (q.2) q.1)
  | 0, x0, x1, x2, x3, x4, s20, s21, q, h => by cases h
  | n + 1, x0, x1, x2, x3, x4, s20, s21, q, h => l18_0_step m n (l18_0_ok m n) x0 x1 x2 x3 x4 s20 s21 q h

def l18_3 (m : Nat) : Nat → Q3 → Int → Q0 → Int → Int → Int → Int → Q1 → Bool → Q7 → Int → Int → Option (Nat × Bool × Int)
  | 0, _, _, _, _, _, _, _, _, _, _, _, _ => none
  | n + 1, x0, x1, x4, s46, s47', s60', s61', b0', s16'', s86'', s87'', s88'' => if decide (s88'' < s87'') = true then
      if decide (0 ≤ s88'') = true then
      if decide (s88'' < (((List.length s86'') : Nat) : Int)) = true then
      if s16'' = true then
        if decide (0 ≤ s61') = true then
        if decide (s61' < (((List.length x0) : Nat) : Int)) = true then
        if decide (List.length (List.getD x0 (Int.toNat s61') ([] : Q5)) ≤ 1000000) = true then
        if decide (0 ≤ x1) = true then
        if decide (x1 < (((List.length x0) : Nat) : Int)) = true then
        if decide (List.length (List.getD x0 (Int.toNat x1) ([] : Q5)) ≤ 1000000) = true then
        l18_3 m n x0 x1 x4 s46 s47' s60' s61' b0' (((getG (List.getD x0 (Int.toNat s61') ([] : Q5)) (List.getD s86'' (Int.toNat s88'') ([] : Q8))) == (getG (List.getD x0 (Int.toNat x1) ([] : Q5)) (List.getD s86'' (Int.toNat s88'') ([] : Q8))))) s86'' s87'' ((IntKind.wrap .i64 (s88'' + (1))))
        else none
        else none
        else none
        else none
        else none
        else none
      else
        l18_3 m n x0 x1 x4 s46 s47' s60' s61' b0' false s86'' s87'' ((IntKind.wrap .i64 (s88'' + (1))))
      else none
      else none
    else
      some (0, s16'', s88'')
def l18_3D : Nat × Bool × Int := (0, false, 0)
@[reducible] def l18_3R (m n : Nat) (x0 : Q3) (x1 : Int) (x4 : Q0) (s46 : Int) (s47' : Int) (s60' : Int) (s61' : Int) (b0' : Q1) (s16'' : Bool) (s86'' : Q7) (s87'' : Int) (s88'' : Int) : Nat × Bool × Int := Option.getD (l18_3 m n x0 x1 x4 s46 s47' s60' s61' b0' s16'' s86'' s87'' s88'') l18_3D
def l18_3H (x0 : Q3) (x1 : Int) (x4 : Q0) (s46 : Int) (s47' : Int) (s60' : Int) (s61' : Int) (b0' : Q1) (s16'' : Bool) (s86'' : Q7) (s87'' : Int) (s88'' : Int) : Env := ((.d (.sl (.sl (.pair .str .str)) x0)) :: (.d (.int .i64 x1)) :: tp12 ((.ptr 0 0) :: (.d (.int .i64 s61')) :: (.d (.bool (s16''))) :: tp28 ((.d (.sl (.pair (.sl (.pair .str (.pair .str (.int .i64)))) (.pair (.sl (.pair .str (.pair .str (.int .i64)))) (.sl .str))) x4)) :: (.d (.int .i64 s46)) :: (.d (.int .i64 s47')) :: tp12 ((.d (.int .i64 s60')) :: (.d (.int .i64 s61')) :: tp24 ((.d (.sl .str s86'')) :: (.d (.int .i64 s87'')) :: (.d (.int .i64 s88'')) :: tp23 [])))))
def l18_3B (x0 : Q3) (x1 : Int) (x4 : Q0) (s46 : Int) (s47' : Int) (s60' : Int) (s61' : Int) (b0' : Q1) (s16'' : Bool) (s86'' : Q7) (s87'' : Int) (s88'' : Int) : Boxes := [(.cells [(.d (.sl (.pair .str (.pair .str (.int .i64))) b0'.1)), (.d (.sl (.pair .str (.pair .str (.int .i64))) b0'.2.1)), (.d (.sl .str b0'.2.2))])]
def l18_3E (x0 : Q3) (x1 : Int) (x4 : Q0) (s46 : Int) (s47' : Int) (s60' : Int) (s61' : Int) (b0' : Q1) (s16'' : Bool) (s86'' : Q7) (s87'' : Int) (s88'' : Int) : Nat → AEx × Env × Boxes
  | _ => (.exit 6, ((.d (.sl (.sl (.pair .str .str)) x0)) :: (.d (.int .i64 x1)) :: tp12 ((.ptr 0 0) :: (.d (.int .i64 s61')) :: (.d (.bool (s16''))) :: tp28 ((.d (.sl (.pair (.sl (.pair .str (.pair .str (.int .i64)))) (.pair (.sl (.pair .str (.pair .str (.int .i64)))) (.sl .str))) x4)) :: (.d (.int .i64 s46)) :: (.d (.int .i64 s47')) :: tp12 ((.d (.int .i64 s60')) :: (.d (.int .i64 s61')) :: tp24 ((.d (.sl .str s86'')) :: (.d (.int .i64 s87'')) :: (.d (.int .i64 s88'')) :: (.d (.bool (decide (s88'' < s87'')))) :: tp22 []))))), [(.cells [(.d (.sl (.pair .str (.pair .str (.int .i64))) b0'.1)), (.d (.sl (.pair .str (.pair .str (.int .i64))) b0'.2.1)), (.d (.sl .str b0'.2.2))])])
noncomputable def lbl18_3 : AC := loopBody 541598770646364674693644291 body18
@[reducible] noncomputable def cb22 (m : Nat) := (evC byref (evCall F S27 (m + 24)) (m + 24) 0 (hds 18) lbl18_3)


theorem l18_3_step (m n : Nat) (ih : ∀ (x0 : Q3) (x1 : Int) (x4 : Q0) (s46 : Int) (s47' : Int) (s60' : Int) (s61' : Int) (b0' : Q1) (s16'' : Bool) (s86'' : Q7) (s87'' : Int) (s88'' : Int) (q : Nat × Bool × Int), l18_3 m n x0 x1 x4 s46 s47' s60' s61' b0' s16'' s86'' s87'' s88'' = some q → (turns (hds 18 541598770646364674693644291) 0 541598770646364674693644291 (cb22 m) n (l18_3H x0 x1 x4 s46 s47' s60' s61' b0' s16'' s86'' s87'' s88'') (l18_3B x0 x1 x4 s46 s47' s60' s61' b0' s16'' s86'' s87'' s88'')).run = some (l18_3E (x0) (x1) (x4) (s46) (s47') (s60') (s61') (b0') (q.2.1) (s86'') (s87'') (q.2.2) q.1)) (x0 : Q3) (x1 : Int) (x4 : Q0) (s46 : Int) (s47' : Int) (s60' : Int) (s61' : Int) (b0' : Q1) (s16'' : Bool) (s86'' : Q7) (s87'' : Int) (s88'' : Int) (q : Nat × Bool × Int) (h : l18_3 m (n + 1) x0 x1 x4 s46 s47' s60' s61' b0' s16'' s86'' s87'' s88'' = some q) : (turns (hds 18 541598770646364674693644291) 0 541598770646364674693644291 (cb22 m) (n + 1) (l18_3H x0 x1 x4 s46 s47' s60' s61' b0' s16'' s86'' s87'' s88'') (l18_3B x0 x1 x4 s46 s47' s60' s61' b0' s16'' s86'' s87'' s88'')).run = some (l18_3E (x0) (x1) (x4) (s46) (s47') (s60') (s61') (b0') (q.2.1) (s86'') (s87'') (q.2.2) q.1) := by
  rw [l18_3] at h
  refine ite_cases h (fun c0 h => ?_) (fun c0 h => ?_)
  · skip
    obtain ⟨c1, h⟩ := iY h
    obtain ⟨c2, h⟩ := iY h
    refine ite_cases h (fun c3 h => ?_) (fun c3 h => ?_)
    · skip
      obtain ⟨c6, h⟩ := iY h
      obtain ⟨c7, h⟩ := iY h
      obtain ⟨c11, h⟩ := iY h
      obtain ⟨c15, h⟩ := iY h
      obtain ⟨c16, h⟩ := iY h
      obtain ⟨c20, h⟩ := iY h
      have ih := ih _ _ _ _ _ _ _ _ _ _ _ _ q h
      refine turns_step ?_ ih
      exact M.run_of_path _ [tT, tT, tT, tT, tT, tT, tT, tT, tT, tT, tT, tT, tT, tT, tT, tT, tT, tT, tT, tT, tT, tT, tT] _ _ (by kernel_rfl) (all_t c0 (all_t c1 (all_t c2 (all_t c3 (all_t c3 (all_t c3 (all_t c6 (all_t c7 (all_t c3 (all_t c3 (all_t c3 (all_t c11 (all_t c3 (all_t c3 (all_t c3 (all_t c15 (all_t c16 (all_t c3 (all_t c3 (all_t c3 (all_t c20 (all_t c3 (all_t c3 all_nil)))))))))))))))))))))))
    · skip
      have ih := ih _ _ _ _ _ _ _ _ _ _ _ _ q h
      refine turns_step ?_ ih
      exact M.run_of_path _ [tT, tT, tT, fF, fF, fF, fF, fF, fF, fF, fF, fF, fF, fF, fF, fF, fF] _ _ (by kernel_rfl) (all_t c0 (all_t c1 (all_t c2 (all_f c3 (all_f c3 (all_f c3 (all_f c3 (all_f c3 (all_f c3 (all_f c3 (all_f c3 (all_f c3 (all_f c3 (all_f c3 (all_f c3 (all_f c3 (all_f c3 all_nil)))))))))))))))))
  · skip
    cases h
    refine turns_last (by simp) ?_
    exact M.run_of_path _ [fF] _ _ (by kernel_rfl) (all_f c0 all_nil)
theorem l18_3_ok (m : Nat) : ∀ (n : Nat) (x0 : Q3) (x1 : Int) (x4 : Q0) (s46 : Int) (s47' : Int) (s60' : Int) (s61' : Int) (b0' : Q1) (s16'' : Bool) (s86'' : Q7) (s87'' : Int) (s88'' : Int) (q : Nat × Bool × Int), l18_3 m n x0 x1 x4 s46 s47' s60' s61' b0' s16'' s86'' s87'' s88'' = some q → (turns (hds 18 541598770646364674693644291) 0 541598770646364674693644291 (cb22 m) n (l18_3H x0 x1 x4 s46 s47' s60' s61' b0' s16'' s86'' s87'' s88'') (l18_3B x0 x1 x4 s46 s47' s60' s61' b0' s16'' s86'' s87'' s88'')).run = some (l18_3E (x0) (x1) (x4) (s46) (s47') (s60') (s61') (b0') (q.2.1) (s86'') (s87'') (q.2.2) q.1)
  | 0, x0, x1, x4, s46, s47', s60', s61', b0', s16'', s86'', s87'', s88'', q, h => by cases h
  | n + 1, x0, x1, x4, s46, s47', s60', s61', b0', s16'', s86'', s87'', s88'', q, h => l18_3_step m n (l18_3_ok m n) x0 x1 x4 s46 s47' s60' s61' b0' s16'' s86'' s87'' s88'' q h

def l18_2 (m : Nat) : Nat → Q3 → Int → Q0 → Int → Int → Int → Int → Q1 → Option (Nat × Int)
  | 0, _, _, _, _, _, _, _, _ => none
  | n + 1, x0, x1, x4, s46, s47', s60', s61', b0' => if decide (s61' < s60') = true then
      if decide (0 ≤ s61') = true then
      if decide (s61' < (((List.length x0) : Nat) : Int)) = true then
      if lrightPre (List.getD x0 (Int.toNat s61') ([] : Q5)) = true then
      if decide (0 ≤ x1) = true then
      if decide (x1 < (((List.length x0) : Nat) : Int)) = true then
      if lrightPre (List.getD x0 (Int.toNat x1) ([] : Q5)) = true then
      if ((lprintG (List.getD x0 (Int.toNat s61') ([] : Q5))) == (lprintG (List.getD x0 (Int.toNat x1) ([] : Q5)))) = true then
        l18_2 m n x0 x1 x4 s46 s47' s60' ((IntKind.wrap .i64 (s61' + (1)))) b0'
      else
        if decide (List.length b0'.1 ≤ 1000000 ∧ List.length (List.getD x0 (Int.toNat s61') ([] : Q5)) ≤ 1000000) = true then
        if (allG (List.getD x0 (Int.toNat s61') ([] : Q5)) b0'.1) = true then
          if (Option.isSome (l18_3 m (m + 24) x0 x1 x4 s46 s47' s60' s61' b0' true (b0'.2.2) ((((List.length b0'.2.2) : Nat) : Int)) 0)) = true then
          if (l18_3R m (m + 24) x0 x1 x4 s46 s47' s60' s61' b0' true (b0'.2.2) ((((List.length b0'.2.2) : Nat) : Int)) 0).2.1 = true then
            some (0, s61')
          else
            l18_2 m n x0 x1 x4 s46 s47' s60' ((IntKind.wrap .i64 (s61' + (1)))) b0'
          else none
        else
          l18_2 m n x0 x1 x4 s46 s47' s60' ((IntKind.wrap .i64 (s61' + (1)))) b0'
        else none
      else none
      else none
      else none
      else none
      else none
      else none
    else
      some (1, s61')
def l18_2D : Nat × Int := (0, 0)
@[reducible] def l18_2R (m n : Nat) (x0 : Q3) (x1 : Int) (x4 : Q0) (s46 : Int) (s47' : Int) (s60' : Int) (s61' : Int) (b0' : Q1) : Nat × Int := Option.getD (l18_2 m n x0 x1 x4 s46 s47' s60' s61' b0') l18_2D
def l18_2H (x0 : Q3) (x1 : Int) (x4 : Q0) (s46 : Int) (s47' : Int) (s60' : Int) (s61' : Int) (b0' : Q1) : Env := ((.d (.sl (.sl (.pair .str .str)) x0)) :: (.d (.int .i64 x1)) :: tp12 ((.ptr 0 0) :: tp30 ((.d (.sl (.pair (.sl (.pair .str (.pair .str (.int .i64)))) (.pair (.sl (.pair .str (.pair .str (.int .i64)))) (.sl .str))) x4)) :: (.d (.int .i64 s46)) :: (.d (.int .i64 s47')) :: tp12 ((.d (.int .i64 s60')) :: (.d (.int .i64 s61')) :: tp50 []))))
def l18_2B (x0 : Q3) (x1 : Int) (x4 : Q0) (s46 : Int) (s47' : Int) (s60' : Int) (s61' : Int) (b0' : Q1) : Boxes := [(.cells [(.d (.sl (.pair .str (.pair .str (.int .i64))) b0'.1)), (.d (.sl (.pair .str (.pair .str (.int .i64))) b0'.2.1)), (.d (.sl .str b0'.2.2))])]
def l18_2E (m : Nat) (x0 : Q3) (x1 : Int) (x4 : Q0) (s46 : Int) (s47' : Int) (s60' : Int) (s61' : Int) (b0' : Q1) : Nat → AEx × Env × Boxes
  | 0 => (.ret, ((.d (.sl (.sl (.pair .str .str)) x0)) :: (.d (.int .i64 x1)) :: tp8 ((.d (.bool true)) :: .top :: .top :: .top :: (.ptr 0 0) :: (.d (.int .i64 s61')) :: (.d (.bool (l18_3R m (m + 24) x0 x1 x4 s46 s47' s60' s61' b0' true (b0'.2.2) ((((List.length b0'.2.2) : Nat) : Int)) 0).2.1)) :: tp28 ((.d (.sl (.pair (.sl (.pair .str (.pair .str (.int .i64)))) (.pair (.sl (.pair .str (.pair .str (.int .i64)))) (.sl .str))) x4)) :: (.d (.int .i64 s46)) :: (.d (.int .i64 s47')) :: tp12 ((.d (.int .i64 s60')) :: (.d (.int .i64 s61')) :: tp24 ((.d (.sl .str (b0'.2.2))) :: (.d (.int .i64 ((((List.length b0'.2.2) : Nat) : Int)))) :: (.d (.int .i64 (l18_3R m (m + 24) x0 x1 x4 s46 s47' s60' s61' b0' true (b0'.2.2) ((((List.length b0'.2.2) : Nat) : Int)) 0).2.2)) :: (.d (.bool (decide ((l18_3R m (m + 24) x0 x1 x4 s46 s47' s60' s61' b0' true (b0'.2.2) ((((List.length b0'.2.2) : Nat) : Int)) 0).2.2 < ((((List.length b0'.2.2) : Nat) : Int)))))) :: tp19 ((.d (.bool (l18_3R m (m + 24) x0 x1 x4 s46 s47' s60' s61' b0' true (b0'.2.2) ((((List.length b0'.2.2) : Nat) : Int)) 0).2.1)) :: .top :: .top :: [])))))), [(.cells [(.d (.sl (.pair .str (.pair .str (.int .i64))) b0'.1)), (.d (.sl (.pair .str (.pair .str (.int .i64))) b0'.2.1)), (.d (.sl .str b0'.2.2))])])
  | _ => (.exit 4, ((.d (.sl (.sl (.pair .str .str)) x0)) :: (.d (.int .i64 x1)) :: tp12 ((.ptr 0 0) :: tp30 ((.d (.sl (.pair (.sl (.pair .str (.pair .str (.int .i64)))) (.pair (.sl (.pair .str (.pair .str (.int .i64)))) (.sl .str))) x4)) :: (.d (.int .i64 s46)) :: (.d (.int .i64 s47')) :: tp12 ((.d (.int .i64 s60')) :: (.d (.int .i64 s61')) :: (.d (.bool (decide (s61' < s60')))) :: tp49 [])))), [(.cells [(.d (.sl (.pair .str (.pair .str (.int .i64))) b0'.1)), (.d (.sl (.pair .str (.pair .str (.int .i64))) b0'.2.1)), (.d (.sl .str b0'.2.2))])])
noncomputable def lbl18_2 : AC := loopBody 3459010804425179139 body18
@[reducible] noncomputable def cb23 (m : Nat) := (evC byref (evCall F S27 (m + 24)) (m + 24) 0 (hds 18) lbl18_2)


theorem l18_2_step (m n : Nat) (ih : ∀ (x0 : Q3) (x1 : Int) (x4 : Q0) (s46 : Int) (s47' : Int) (s60' : Int) (s61' : Int) (b0' : Q1) (q : Nat × Int), l18_2 m n x0 x1 x4 s46 s47' s60' s61' b0' = some q → (turns (hds 18 3459010804425179139) 0 3459010804425179139 (cb23 m) n (l18_2H x0 x1 x4 s46 s47' s60' s61' b0') (l18_2B x0 x1 x4 s46 s47' s60' s61' b0')).run = some (l18_2E m (x0) (x1) (x4) (s46) (s47') (s60') (q.2) (b0') q.1)) (x0 : Q3) (x1 : Int) (x4 : Q0) (s46 : Int) (s47' : Int) (s60' : Int) (s61' : Int) (b0' : Q1) (q : Nat × Int) (h : l18_2 m (n + 1) x0 x1 x4 s46 s47' s60' s61' b0' = some q) : (turns (hds 18 3459010804425179139) 0 3459010804425179139 (cb23 m) (n + 1) (l18_2H x0 x1 x4 s46 s47' s60' s61' b0') (l18_2B x0 x1 x4 s46 s47' s60' s61' b0')).run = some (l18_2E m (x0) (x1) (x4) (s46) (s47') (s60') (q.2) (b0') q.1) := by
  rw [l18_2] at h
  refine ite_cases h (fun c0 h => ?_) (fun c0 h => ?_)
  · skip
    obtain ⟨c1, h⟩ := iY h
    obtain ⟨c2, h⟩ := iY h
    obtain ⟨c3, h⟩ := iY h
    obtain ⟨c4, h⟩ := iY h
    obtain ⟨c5, h⟩ := iY h
    obtain ⟨c6, h⟩ := iY h
    refine ite_cases h (fun c7 h => ?_) (fun c7 h => ?_)
    · skip
      have ih := ih _ _ _ _ _ _ _ _ q h
      refine turns_step ?_ ih
      exact M.run_of_path _ [tT, tT, tT, tT, tT, tT, tT, tT, tT, tT, tT, tT, tT, tT, tT, tT, tT] _ _ (by kernel_rfl) (all_t c0 (all_t c1 (all_t c2 (all_t c3 (all_t c4 (all_t c5 (all_t c6 (all_t c7 (all_t c7 (all_t c7 (all_t c7 (all_t c7 (all_t c7 (all_t c7 (all_t c7 (all_t c7 (all_t rfl all_nil)))))))))))))))))
    · skip
      obtain ⟨c16, h⟩ := iY h
      refine ite_cases h (fun c19 h => ?_) (fun c19 h => ?_)
      · skip
        obtain ⟨c20, h⟩ := iY h
        refine ite_cases h (fun c21 h => ?_) (fun c21 h => ?_)
        · skip
          cases h
          refine turns_last (by simp) ?_
          refine turnT_ok (LS := (fun k => if k = 541598770646364674693644291 then some (l18_3E x0 x1 x4 s46 s47' s60' s61' b0' ((l18_3R m (m + 24) x0 x1 x4 s46 s47' s60' s61' b0' true (b0'.2.2) ((((List.length b0'.2.2) : Nat) : Int)) 0).2.1) ((b0'.2.2)) (((((List.length b0'.2.2) : Nat) : Int))) ((l18_3R m (m + 24) x0 x1 x4 s46 s47' s60' s61' b0' true (b0'.2.2) ((((List.length b0'.2.2) : Nat) : Int)) 0).2.2) 0) else none)) (vis := [(541598770646364674693644291, l18_3H x0 x1 x4 s46 s47' s60' s61' b0' true (b0'.2.2) ((((List.length b0'.2.2) : Nat) : Int)) 0, l18_3B x0 x1 x4 s46 s47' s60' s61' b0' true (b0'.2.2) ((((List.length b0'.2.2) : Nat) : Int)) 0)]) (by kernel_rfl) (M.run_of_path _ [tT, tT, tT, tT, tT, tT, tT, fF, fF, fF, fF, fF, tT, tT, fF, fF, tT, fF, fF, fF, tT] _ _ (by kernel_rfl) (all_t c0 (all_t c1 (all_t c2 (all_t c3 (all_t c4 (all_t c5 (all_t c6 (all_f c7 (all_f c7 (all_f c7 (all_f c7 (all_f c7 (all_t c1 (all_t c2 (all_f c7 (all_f c7 (all_t c16 (all_f c7 (all_f c7 (all_nt c19 (all_t c21 all_nil)))))))))))))))))))))) ?_
          intro p hp p2 hq
          rcases List.mem_cons.1 hp with rfl | hp
          · skip
            have h3 := l18_3_ok m (m + 24) x0 x1 x4 s46 s47' s60' s61' b0' true (b0'.2.2) ((((List.length b0'.2.2) : Nat) : Int)) 0 _ (some_getD (d := l18_3D) c20)
            exact Eq.trans (Eq.mp (by kernel_rfl) h3) hq
          cases hp
        · skip
          have ih := ih _ _ _ _ _ _ _ _ q h
          refine turns_step ?_ ih
          refine turnT_ok (LS := (fun k => if k = 541598770646364674693644291 then some (l18_3E x0 x1 x4 s46 s47' s60' s61' b0' ((l18_3R m (m + 24) x0 x1 x4 s46 s47' s60' s61' b0' true (b0'.2.2) ((((List.length b0'.2.2) : Nat) : Int)) 0).2.1) ((b0'.2.2)) (((((List.length b0'.2.2) : Nat) : Int))) ((l18_3R m (m + 24) x0 x1 x4 s46 s47' s60' s61' b0' true (b0'.2.2) ((((List.length b0'.2.2) : Nat) : Int)) 0).2.2) 0) else none)) (vis := [(541598770646364674693644291, l18_3H x0 x1 x4 s46 s47' s60' s61' b0' true (b0'.2.2) ((((List.length b0'.2.2) : Nat) : Int)) 0, l18_3B x0 x1 x4 s46 s47' s60' s61' b0' true (b0'.2.2) ((((List.length b0'.2.2) : Nat) : Int)) 0)]) (by kernel_rfl) (M.run_of_path _ [tT, tT, tT, tT, tT, tT, tT, fF, fF, fF, fF, fF, tT, tT, fF, fF, tT, fF, fF, fF, fF] _ _ (by kernel_rfl) (all_t c0 (all_t c1 (all_t c2 (all_t c3 (all_t c4 (all_t c5 (all_t c6 (all_f c7 (all_f c7 (all_f c7 (all_f c7 (all_f c7 (all_t c1 (all_t c2 (all_f c7 (all_f c7 (all_t c16 (all_f c7 (all_f c7 (all_nt c19 (all_f c21 all_nil)))))))))))))))))))))) ?_
          intro p hp p2 hq
          rcases List.mem_cons.1 hp with rfl | hp
          · skip
            have h3 := l18_3_ok m (m + 24) x0 x1 x4 s46 s47' s60' s61' b0' true (b0'.2.2) ((((List.length b0'.2.2) : Nat) : Int)) 0 _ (some_getD (d := l18_3D) c20)
            exact Eq.trans (Eq.mp (by kernel_rfl) h3) hq
          cases hp
      · skip
        have ih := ih _ _ _ _ _ _ _ _ q h
        refine turns_step ?_ ih
        exact M.run_of_path _ [tT, tT, tT, tT, tT, tT, tT, fF, fF, fF, fF, fF, tT, tT, fF, fF, tT, fF, fF, tT] _ _ (by kernel_rfl) (all_t c0 (all_t c1 (all_t c2 (all_t c3 (all_t c4 (all_t c5 (all_t c6 (all_f c7 (all_f c7 (all_f c7 (all_f c7 (all_f c7 (all_t c1 (all_t c2 (all_f c7 (all_f c7 (all_t c16 (all_f c7 (all_f c7 (all_nf c19 all_nil))))))))))))))))))))
  · skip
    cases h
    refine turns_last (by simp) ?_
    exact M.run_of_path _ [fF] _ _ (by kernel_rfl) (all_f c0 all_nil)
theorem l18_2_ok (m : Nat) : ∀ (n : Nat) (x0 : Q3) (x1 : Int) (x4 : Q0) (s46 : Int) (s47' : Int) (s60' : Int) (s61' : Int) (b0' : Q1) (q : Nat × Int), l18_2 m n x0 x1 x4 s46 s47' s60' s61' b0' = some q → (turns (hds 18 3459010804425179139) 0 3459010804425179139 (cb23 m) n (l18_2H x0 x1 x4 s46 s47' s60' s61' b0') (l18_2B x0 x1 x4 s46 s47' s60' s61' b0')).run = some (l18_2E m (x0) (x1) (x4) (s46) (s47') (s60') (q.2) (b0') q.1)
  | 0, x0, x1, x4, s46, s47', s60', s61', b0', q, h => by cases h
  | n + 1, x0, x1, x4, s46, s47', s60', s61', b0', q, h => l18_2_step m n (l18_2_ok m n) x0 x1 x4 s46 s47' s60' s61' b0' q h

def l18_1 (m : Nat) : Nat → Q3 → Int → Q0 → Int → Int → Option (Nat × Int)
  | 0, _, _, _, _, _ => none
  | n + 1, x0, x1, x4, s46, s47 => if decide (s47 < s46) = true then
      if decide (0 ≤ s47) = true then
      if decide (s47 < (((List.length x4) : Nat) : Int)) = true then
      if decide (0 ≤ x1) = true then
      if decide (x1 < (((List.length x0) : Nat) : Int)) = true then
      if decide (List.length (List.getD x4 (Int.toNat s47) (([] : Q4), (([] : Q4), ([] : Q7)))).2.1 ≤ 1000000 ∧ List.length (List.getD x0 (Int.toNat x1) ([] : Q5)) ≤ 1000000) = true then
      if (allG (List.getD x0 (Int.toNat x1) ([] : Q5)) (List.getD x4 (Int.toNat s47) (([] : Q4), (([] : Q4), ([] : Q7)))).2.1) = true then
        if (Option.isSome (l18_2 m (m + 24) x0 x1 x4 s46 s47 ((((List.length x0) : Nat) : Int)) 0 ((List.getD x4 (Int.toNat s47) (([] : Q4), (([] : Q4), ([] : Q7))))))) = true then
        if ((l18_2R m (m + 24) x0 x1 x4 s46 s47 ((((List.length x0) : Nat) : Int)) 0 ((List.getD x4 (Int.toNat s47) (([] : Q4), (([] : Q4), ([] : Q7)))))).1 == 0) = true then
          some (0, s47)
        else
          if ((l18_2R m (m + 24) x0 x1 x4 s46 s47 ((((List.length x0) : Nat) : Int)) 0 ((List.getD x4 (Int.toNat s47) (([] : Q4), (([] : Q4), ([] : Q7)))))).1 == 1) = true then
          l18_1 m n x0 x1 x4 s46 ((IntKind.wrap .i64 (s47 + (1))))
          else none
        else none
      else
        l18_1 m n x0 x1 x4 s46 ((IntKind.wrap .i64 (s47 + (1))))
      else none
      else none
      else none
      else none
      else none
    else
      some (1, s47)
def l18_1D : Nat × Int := (0, 0)
@[reducible] def l18_1R (m n : Nat) (x0 : Q3) (x1 : Int) (x4 : Q0) (s46 : Int) (s47 : Int) : Nat × Int := Option.getD (l18_1 m n x0 x1 x4 s46 s47) l18_1D
def l18_1H (x0 : Q3) (x1 : Int) (x4 : Q0) (s46 : Int) (s47 : Int) : Env := ((.d (.sl (.sl (.pair .str .str)) x0)) :: (.d (.int .i64 x1)) :: tp43 ((.d (.sl (.pair (.sl (.pair .str (.pair .str (.int .i64)))) (.pair (.sl (.pair .str (.pair .str (.int .i64)))) (.sl .str))) x4)) :: (.d (.int .i64 s46)) :: (.d (.int .i64 s47)) :: tp64 []))
def l18_1B (x0 : Q3) (x1 : Int) (x4 : Q0) (s46 : Int) (s47 : Int) : Boxes := []
def l18_1E (m : Nat) (x0 : Q3) (x1 : Int) (x4 : Q0) (s46 : Int) (s47 : Int) : Nat → AEx × Env × Boxes
  | 0 => (.ret, ((.d (.sl (.sl (.pair .str .str)) x0)) :: (.d (.int .i64 x1)) :: tp8 ((.d (.bool true)) :: .top :: .top :: .top :: (.ptr 0 0) :: (.d (.int .i64 (l18_2R m (m + 24) x0 x1 x4 s46 s47 ((((List.length x0) : Nat) : Int)) 0 ((List.getD x4 (Int.toNat s47) (([] : Q4), (([] : Q4), ([] : Q7)))))).2)) :: (.d (.bool (l18_3R m (m + 24) x0 x1 x4 s46 s47 ((((List.length x0) : Nat) : Int)) (l18_2R m (m + 24) x0 x1 x4 s46 s47 ((((List.length x0) : Nat) : Int)) 0 ((List.getD x4 (Int.toNat s47) (([] : Q4), (([] : Q4), ([] : Q7)))))).2 ((List.getD x4 (Int.toNat s47) (([] : Q4), (([] : Q4), ([] : Q7))))) true (((List.getD x4 (Int.toNat s47) (([] : Q4), (([] : Q4), ([] : Q7))))).2.2) ((((List.length ((List.getD x4 (Int.toNat s47) (([] : Q4), (([] : Q4), ([] : Q7))))).2.2) : Nat) : Int)) 0).2.1)) :: tp28 ((.d (.sl (.pair (.sl (.pair .str (.pair .str (.int .i64)))) (.pair (.sl (.pair .str (.pair .str (.int .i64)))) (.sl .str))) x4)) :: (.d (.int .i64 s46)) :: (.d (.int .i64 s47)) :: tp12 ((.d (.int .i64 ((((List.length x0) : Nat) : Int)))) :: (.d (.int .i64 (l18_2R m (m + 24) x0 x1 x4 s46 s47 ((((List.length x0) : Nat) : Int)) 0 ((List.getD x4 (Int.toNat s47) (([] : Q4), (([] : Q4), ([] : Q7)))))).2)) :: tp24 ((.d (.sl .str (((List.getD x4 (Int.toNat s47) (([] : Q4), (([] : Q4), ([] : Q7))))).2.2))) :: (.d (.int .i64 ((((List.length ((List.getD x4 (Int.toNat s47) (([] : Q4), (([] : Q4), ([] : Q7))))).2.2) : Nat) : Int)))) :: (.d (.int .i64 (l18_3R m (m + 24) x0 x1 x4 s46 s47 ((((List.length x0) : Nat) : Int)) (l18_2R m (m + 24) x0 x1 x4 s46 s47 ((((List.length x0) : Nat) : Int)) 0 ((List.getD x4 (Int.toNat s47) (([] : Q4), (([] : Q4), ([] : Q7)))))).2 ((List.getD x4 (Int.toNat s47) (([] : Q4), (([] : Q4), ([] : Q7))))) true (((List.getD x4 (Int.toNat s47) (([] : Q4), (([] : Q4), ([] : Q7))))).2.2) ((((List.length ((List.getD x4 (Int.toNat s47) (([] : Q4), (([] : Q4), ([] : Q7))))).2.2) : Nat) : Int)) 0).2.2)) :: (.d (.bool (decide ((l18_3R m (m + 24) x0 x1 x4 s46 s47 ((((List.length x0) : Nat) : Int)) (l18_2R m (m + 24) x0 x1 x4 s46 s47 ((((List.length x0) : Nat) : Int)) 0 ((List.getD x4 (Int.toNat s47) (([] : Q4), (([] : Q4), ([] : Q7)))))).2 ((List.getD x4 (Int.toNat s47) (([] : Q4), (([] : Q4), ([] : Q7))))) true (((List.getD x4 (Int.toNat s47) (([] : Q4), (([] : Q4), ([] : Q7))))).2.2) ((((List.length ((List.getD x4 (Int.toNat s47) (([] : Q4), (([] : Q4), ([] : Q7))))).2.2) : Nat) : Int)) 0).2.2 < ((((List.length ((List.getD x4 (Int.toNat s47) (([] : Q4), (([] : Q4), ([] : Q7))))).2.2) : Nat) : Int)))))) :: tp19 ((.d (.bool (l18_3R m (m + 24) x0 x1 x4 s46 s47 ((((List.length x0) : Nat) : Int)) (l18_2R m (m + 24) x0 x1 x4 s46 s47 ((((List.length x0) : Nat) : Int)) 0 ((List.getD x4 (Int.toNat s47) (([] : Q4), (([] : Q4), ([] : Q7)))))).2 ((List.getD x4 (Int.toNat s47) (([] : Q4), (([] : Q4), ([] : Q7))))) true (((List.getD x4 (Int.toNat s47) (([] : Q4), (([] : Q4), ([] : Q7))))).2.2) ((((List.length ((List.getD x4 (Int.toNat s47) (([] : Q4), (([] : Q4), ([] : Q7))))).2.2) : Nat) : Int)) 0).2.1)) :: .top :: .top :: [])))))), [(.cells [(.d (.sl (.pair .str (.pair .str (.int .i64))) ((List.getD x4 (Int.toNat s47) (([] : Q4), (([] : Q4), ([] : Q7))))).1)), (.d (.sl (.pair .str (.pair .str (.int .i64))) ((List.getD x4 (Int.toNat s47) (([] : Q4), (([] : Q4), ([] : Q7))))).2.1)), (.d (.sl .str ((List.getD x4 (Int.toNat s47) (([] : Q4), (([] : Q4), ([] : Q7))))).2.2))])])
  | _ => (.exit 2, ((.d (.sl (.sl (.pair .str .str)) x0)) :: (.d (.int .i64 x1)) :: tp43 ((.d (.sl (.pair (.sl (.pair .str (.pair .str (.int .i64)))) (.pair (.sl (.pair .str (.pair .str (.int .i64)))) (.sl .str))) x4)) :: (.d (.int .i64 s46)) :: (.d (.int .i64 s47)) :: (.d (.bool (decide (s47 < s46)))) :: tp63 [])), [])
noncomputable def lbl18_1 : AC := loopBody 246290604621827 body18
@[reducible] noncomputable def cb24 (m : Nat) := (evC byref (evCall F S27 (m + 24)) (m + 24) 0 (hds 18) lbl18_1)


theorem l18_1_step (m n : Nat) (ih : ∀ (x0 : Q3) (x1 : Int) (x4 : Q0) (s46 : Int) (s47 : Int) (q : Nat × Int), l18_1 m n x0 x1 x4 s46 s47 = some q → (turns (hds 18 246290604621827) 0 246290604621827 (cb24 m) n (l18_1H x0 x1 x4 s46 s47) (l18_1B x0 x1 x4 s46 s47)).run = some (l18_1E m (x0) (x1) (x4) (s46) (q.2) q.1)) (x0 : Q3) (x1 : Int) (x4 : Q0) (s46 : Int) (s47 : Int) (q : Nat × Int) (h : l18_1 m (n + 1) x0 x1 x4 s46 s47 = some q) : (turns (hds 18 246290604621827) 0 246290604621827 (cb24 m) (n + 1) (l18_1H x0 x1 x4 s46 s47) (l18_1B x0 x1 x4 s46 s47)).run = some (l18_1E m (x0) (x1) (x4) (s46) (q.2) q.1) := by
  rw [l18_1] at h
  refine ite_cases h (fun c0 h => ?_) (fun c0 h => ?_)
  · skip
    obtain ⟨c1, h⟩ := iY h
    obtain ⟨c2, h⟩ := iY h
    obtain ⟨c3, h⟩ := iY h
    obtain ⟨c4, h⟩ := iY h
    obtain ⟨c5, h⟩ := iY h
    refine ite_cases h (fun c6 h => ?_) (fun c6 h => ?_)
    · skip
      obtain ⟨c7, h⟩ := iY h
      refine ite_cases h (fun c8 h => ?_) (fun c8 h => ?_)
      · skip
        cases h
        refine turns_last (by simp) ?_
        refine turnT_ok (LS := (fun k => if k = 3459010804425179139 then some (l18_2E m x0 x1 x4 s46 s47 (((((List.length x0) : Nat) : Int))) ((l18_2R m (m + 24) x0 x1 x4 s46 s47 ((((List.length x0) : Nat) : Int)) 0 ((List.getD x4 (Int.toNat s47) (([] : Q4), (([] : Q4), ([] : Q7)))))).2) (((List.getD x4 (Int.toNat s47) (([] : Q4), (([] : Q4), ([] : Q7)))))) 0) else none)) (vis := [(3459010804425179139, l18_2H x0 x1 x4 s46 s47 ((((List.length x0) : Nat) : Int)) 0 ((List.getD x4 (Int.toNat s47) (([] : Q4), (([] : Q4), ([] : Q7))))), l18_2B x0 x1 x4 s46 s47 ((((List.length x0) : Nat) : Int)) 0 ((List.getD x4 (Int.toNat s47) (([] : Q4), (([] : Q4), ([] : Q7))))))]) (by kernel_rfl) (M.run_of_path _ [tT, tT, tT, tT, tT, tT, fF] _ _ (by kernel_rfl) (all_t c0 (all_t c1 (all_t c2 (all_t c3 (all_t c4 (all_t c5 (all_nt c6 all_nil)))))))) ?_
        intro p hp p2 hq
        rcases List.mem_cons.1 hp with rfl | hp
        · skip
          have h3 := l18_2_ok m (m + 24) x0 x1 x4 s46 s47 ((((List.length x0) : Nat) : Int)) 0 ((List.getD x4 (Int.toNat s47) (([] : Q4), (([] : Q4), ([] : Q7))))) _ (some_getD (d := l18_2D) c7)
          rw [eq_of_beq c8] at h3
          exact Eq.trans (Eq.mp (by kernel_rfl) h3) hq
        cases hp
      · skip
        obtain ⟨c9, h⟩ := iY h
        have ih := ih _ _ _ _ _ q h
        refine turns_step ?_ ih
        refine turnT_ok (LS := (fun k => if k = 3459010804425179139 then some (l18_2E m x0 x1 x4 s46 s47 (((((List.length x0) : Nat) : Int))) ((l18_2R m (m + 24) x0 x1 x4 s46 s47 ((((List.length x0) : Nat) : Int)) 0 ((List.getD x4 (Int.toNat s47) (([] : Q4), (([] : Q4), ([] : Q7)))))).2) (((List.getD x4 (Int.toNat s47) (([] : Q4), (([] : Q4), ([] : Q7)))))) 1) else none)) (vis := [(3459010804425179139, l18_2H x0 x1 x4 s46 s47 ((((List.length x0) : Nat) : Int)) 0 ((List.getD x4 (Int.toNat s47) (([] : Q4), (([] : Q4), ([] : Q7))))), l18_2B x0 x1 x4 s46 s47 ((((List.length x0) : Nat) : Int)) 0 ((List.getD x4 (Int.toNat s47) (([] : Q4), (([] : Q4), ([] : Q7))))))]) (by kernel_rfl) (M.run_of_path _ [tT, tT, tT, tT, tT, tT, fF] _ _ (by kernel_rfl) (all_t c0 (all_t c1 (all_t c2 (all_t c3 (all_t c4 (all_t c5 (all_nt c6 all_nil)))))))) ?_
        intro p hp p2 hq
        rcases List.mem_cons.1 hp with rfl | hp
        · skip
          have h3 := l18_2_ok m (m + 24) x0 x1 x4 s46 s47 ((((List.length x0) : Nat) : Int)) 0 ((List.getD x4 (Int.toNat s47) (([] : Q4), (([] : Q4), ([] : Q7))))) _ (some_getD (d := l18_2D) c7)
          rw [eq_of_beq c9] at h3
          exact Eq.trans (Eq.mp (by kernel_rfl) h3) hq
        cases hp
    · skip
      have ih := ih _ _ _ _ _ q h
      refine turns_step ?_ ih
      exact M.run_of_path _ [tT, tT, tT, tT, tT, tT, tT] _ _ (by kernel_rfl) (all_t c0 (all_t c1 (all_t c2 (all_t c3 (all_t c4 (all_t c5 (all_nf c6 all_nil)))))))
  · skip
    cases h
    refine turns_last (by simp) ?_
    exact M.run_of_path _ [fF] _ _ (by kernel_rfl) (all_f c0 all_nil)
theorem l18_1_ok (m : Nat) : ∀ (n : Nat) (x0 : Q3) (x1 : Int) (x4 : Q0) (s46 : Int) (s47 : Int) (q : Nat × Int), l18_1 m n x0 x1 x4 s46 s47 = some q → (turns (hds 18 246290604621827) 0 246290604621827 (cb24 m) n (l18_1H x0 x1 x4 s46 s47) (l18_1B x0 x1 x4 s46 s47)).run = some (l18_1E m (x0) (x1) (x4) (s46) (q.2) q.1)
  | 0, x0, x1, x4, s46, s47, q, h => by cases h
  | n + 1, x0, x1, x4, s46, s47, q, h => l18_1_step m n (l18_1_ok m n) x0 x1 x4 s46 s47 q h

def p18 (m : Nat) (x0 : Q3) (x1 : Int) (x2 : Int) (x3 : Q2) (x4 : Q0) : Option (Bool) :=
  if (Option.isSome (l18_0 m (m + 24) x0 x1 x2 x3 x4 ((((List.length x3) : Nat) : Int)) 0)) = true then
  if ((l18_0R m (m + 24) x0 x1 x2 x3 x4 ((((List.length x3) : Nat) : Int)) 0).1 == 0) = true then
    some (true)
  else
    if ((l18_0R m (m + 24) x0 x1 x2 x3 x4 ((((List.length x3) : Nat) : Int)) 0).1 == 1) = true then
    if (Option.isSome (l18_1 m (m + 24) x0 x1 x4 ((((List.length x4) : Nat) : Int)) 0)) = true then
    if ((l18_1R m (m + 24) x0 x1 x4 ((((List.length x4) : Nat) : Int)) 0).1 == 0) = true then
      some (true)
    else
      if ((l18_1R m (m + 24) x0 x1 x4 ((((List.length x4) : Nat) : Int)) 0).1 == 1) = true then
      some (false)
      else none
    else none
    else none
  else none
theorem p18_ok (m : Nat) (x0 : Q3) (x1 : Int) (x2 : Int) (x3 : Q2) (x4 : Q0) (q : Bool) (h : p18 m x0 x1 x2 x3 x4 = some q) : ∃ r B1, (evCall F S27 (m + 25) 18 [(.d (.sl (.sl (.pair .str .str)) x0)), (.d (.int .i64 x1)), (.d (.int .i64 x2)), (.d (.sl (.pair (.sl (.pair .str (.pair .str (.int .i64)))) (.pair (.int .i64) (.int .i64))) x3)), (.d (.sl (.pair (.sl (.pair .str (.pair .str (.int .i64)))) (.pair (.sl (.pair .str (.pair .str (.int .i64)))) (.sl .str))) x4))] []).run = some (r, B1) ∧ 0 ≤ B1.length ∧ wkR B1 [] r (.d (.bool (q))) ∧ wkBs B1 [] 0 [] := by
  unfold p18 at h
  obtain ⟨c0, h⟩ := iY h
  refine ite_cases h (fun c1 h => ?_) (fun c1 h => ?_)
  · skip
    cases h
    refine ⟨(.d (.bool true)), [], runT_ok (LS := (fun k => if k = 3670039 then some (l18_0E x0 x1 x2 x3 x4 (((((List.length x3) : Nat) : Int))) ((l18_0R m (m + 24) x0 x1 x2 x3 x4 ((((List.length x3) : Nat) : Int)) 0).2) 0) else none)) (fn := fn18) (vis := [(3670039, l18_0H x0 x1 x2 x3 x4 ((((List.length x3) : Nat) : Int)) 0, l18_0B x0 x1 x2 x3 x4 ((((List.length x3) : Nat) : Int)) 0)]) (by kernel_rfl) rfl (by kernel_rfl) (M.run_of_path _ [] _ _ (by kernel_rfl) all_nil) ?_, by simp, (wkR.one (wkV.one (wk1.eq rfl))), trivial⟩
    intro p hp p2 hq
    rcases List.mem_cons.1 hp with rfl | hp
    · skip
      have h3 := l18_0_ok m (m + 24) x0 x1 x2 x3 x4 ((((List.length x3) : Nat) : Int)) 0 _ (some_getD (d := l18_0D) c0)
      rw [eq_of_beq c1] at h3
      exact Eq.trans (Eq.mp (by kernel_rfl) h3) hq
    cases hp
  · skip
    obtain ⟨c2, h⟩ := iY h
    obtain ⟨c3, h⟩ := iY h
    refine ite_cases h (fun c4 h => ?_) (fun c4 h => ?_)
    · skip
      cases h
      refine ⟨(.d (.bool true)), [], runT_ok (LS := (fun k => if k = 3670039 then some (l18_0E x0 x1 x2 x3 x4 (((((List.length x3) : Nat) : Int))) ((l18_0R m (m + 24) x0 x1 x2 x3 x4 ((((List.length x3) : Nat) : Int)) 0).2) 1) else if k = 246290604621827 then some (l18_1E m x0 x1 x4 (((((List.length x4) : Nat) : Int))) ((l18_1R m (m + 24) x0 x1 x4 ((((List.length x4) : Nat) : Int)) 0).2) 0) else none)) (fn := fn18) (vis := [(3670039, l18_0H x0 x1 x2 x3 x4 ((((List.length x3) : Nat) : Int)) 0, l18_0B x0 x1 x2 x3 x4 ((((List.length x3) : Nat) : Int)) 0), (246290604621827, l18_1H x0 x1 x4 ((((List.length x4) : Nat) : Int)) 0, l18_1B x0 x1 x4 ((((List.length x4) : Nat) : Int)) 0)]) (by kernel_rfl) rfl (by kernel_rfl) (M.run_of_path _ [] _ _ (by kernel_rfl) all_nil) ?_, by simp, (wkR.one (wkV.one (wk1.eq rfl))), trivial⟩
      intro p hp p2 hq
      rcases List.mem_cons.1 hp with rfl | hp
      · skip
        have h3 := l18_0_ok m (m + 24) x0 x1 x2 x3 x4 ((((List.length x3) : Nat) : Int)) 0 _ (some_getD (d := l18_0D) c0)
        rw [eq_of_beq c2] at h3
        exact Eq.trans (Eq.mp (by kernel_rfl) h3) hq
      rcases List.mem_cons.1 hp with rfl | hp
      · skip
        have h3 := l18_1_ok m (m + 24) x0 x1 x4 ((((List.length x4) : Nat) : Int)) 0 _ (some_getD (d := l18_1D) c3)
        rw [eq_of_beq c4] at h3
        exact Eq.trans (Eq.mp (by kernel_rfl) h3) hq
      cases hp
    · skip
      obtain ⟨c5, h⟩ := iY h
      cases h
      refine ⟨(.d (.bool false)), [], runT_ok (LS := (fun k => if k = 3670039 then some (l18_0E x0 x1 x2 x3 x4 (((((List.length x3) : Nat) : Int))) ((l18_0R m (m + 24) x0 x1 x2 x3 x4 ((((List.length x3) : Nat) : Int)) 0).2) 1) else if k = 246290604621827 then some (l18_1E m x0 x1 x4 (((((List.length x4) : Nat) : Int))) ((l18_1R m (m + 24) x0 x1 x4 ((((List.length x4) : Nat) : Int)) 0).2) 1) else none)) (fn := fn18) (vis := [(3670039, l18_0H x0 x1 x2 x3 x4 ((((List.length x3) : Nat) : Int)) 0, l18_0B x0 x1 x2 x3 x4 ((((List.length x3) : Nat) : Int)) 0), (246290604621827, l18_1H x0 x1 x4 ((((List.length x4) : Nat) : Int)) 0, l18_1B x0 x1 x4 ((((List.length x4) : Nat) : Int)) 0)]) (by kernel_rfl) rfl (by kernel_rfl) (M.run_of_path _ [] _ _ (by kernel_rfl) all_nil) ?_, by simp, (wkR.one (wkV.one (wk1.eq rfl))), trivial⟩
      intro p hp p2 hq
      rcases List.mem_cons.1 hp with rfl | hp
      · skip
        have h3 := l18_0_ok m (m + 24) x0 x1 x2 x3 x4 ((((List.length x3) : Nat) : Int)) 0 _ (some_getD (d := l18_0D) c0)
        rw [eq_of_beq c2] at h3
        exact Eq.trans (Eq.mp (by kernel_rfl) h3) hq
      rcases List.mem_cons.1 hp with rfl | hp
      · skip
        have h3 := l18_1_ok m (m + 24) x0 x1 x4 ((((List.length x4) : Nat) : Int)) 0 _ (some_getD (d := l18_1D) c3)
        rw [eq_of_beq c5] at h3
        exact Eq.trans (Eq.mp (by kernel_rfl) h3) hq
      cases hp

def mhit (own : LB) (h : (List MT) × (List MT) × (Q7)) (o : LB) : Bool := !(lprintG o == lprintG own) && (allG o h.1 && equG o own h.2.2)
def mutedBy (all : List LB) (own : LB) (h : (List MT) × (List MT) × (Q7)) : Bool := allG own h.2.1 && all.any (mhit own h)
def mutedG (all : List LB) (i t : Int) (ss : SS) (hs : HS) : Bool := silG (all.getD i.toNat []) t ss || hs.any (mutedBy all (all.getD i.toNat []))
def mutedPre (all : List LB) (i : Int) (ss : SS) (hs : HS) : Bool := decide (0 ≤ i ∧ i < ((all.length : Nat) : Int) ∧ all.length ≤ 1000000 ∧ (∀ x ∈ all, lrightPre x = true) ∧ ss.length ≤ 1000000 ∧ (∀ s ∈ ss, s.1.length ≤ 1000000) ∧ hs.length ≤ 1000000 ∧ ∀ h ∈ hs, h.1.length ≤ 1000000 ∧ h.2.1.length ≤ 1000000 ∧ h.2.2.length ≤ 1000000)
theorem mu0_loop (m : Nat) (all : List LB) (i t : Int) (ss : SS) (hs : HS) (i0 : 0 ≤ i) (i1 : i < ((all.length : Nat) : Int)) (h1 : (all.getD i.toNat ([] : LB)).length ≤ 1000000) (h2 : ss.length ≤ 1000000) (h3 : ∀ s ∈ ss, s.1.length ≤ 1000000) : ∀ (n k : Nat), k ≤ ss.length → ss.length - k < n → ∃ e j, l18_0 m n all i t ss hs (ss.length : Nat) (k : Nat) = some (e, j) ∧ ((e = 0 ∧ silG (all.getD i.toNat ([] : LB)) t (ss.drop k) = true) ∨ (e = 1 ∧ silG (all.getD i.toNat ([] : LB)) t (ss.drop k) = false))
  | 0, k, _, h => by omega
  | n + 1, k, g1, g2 => by
    rw [l18_0]
    by_cases hk : k < ss.length
    · have e1 : decide (((k : Nat) : Int) < (((List.length ss) : Nat) : Int)) = true := decide_eq_true (by omega)
      have e2 : decide ((0 : Int) ≤ ((k : Nat) : Int)) = true := decide_eq_true (by omega)
      have e7 : IntKind.wrap .i64 (((k : Nat) : Int) + (1)) = ((k + 1 : Nat) : Int) := by rw [wrap_id (by omega) (by omega)]; rfl
      have hq := h3 _ (getD_mem ss k (([] : List MT), (0, 0)) hk)
      have go := mu0_loop m all i t ss hs i0 i1 h1 h2 h3 n (k + 1) (by omega) (by omega)
      rw [drop_getD ss k (([] : List MT), (0, 0)) hk, show Int.toNat ((k : Nat) : Int) = k from rfl, e7, if_pos e2, if_pos e1, if_pos e1]
      generalize ss.getD k (([] : List MT), (0, 0)) = q at *
      generalize all.getD i.toNat ([] : LB) = l at *
      have e3 : decide (List.length q.1 ≤ 1000000 ∧ List.length l ≤ 1000000) = true := decide_eq_true ⟨hq, h1⟩
      have hc : silG l t (q :: ss.drop (k + 1)) = ((decide (q.2.1 ≤ t) && (decide (t < q.2.2) && allG l q.1)) || silG l t (ss.drop (k + 1))) := rfl
      rw [hc]
      by_cases c1 : q.2.1 ≤ t
      · by_cases c2 : t < q.2.2
        · rw [if_pos (decide_eq_true c1), if_pos (decide_eq_true c2), if_pos (decide_eq_true i0), if_pos (decide_eq_true i1), if_pos e3, decide_eq_true c1, decide_eq_true c2, Bool.true_and, Bool.true_and]
          cases allG l q.1 with
          | true => rw [if_pos rfl, Bool.true_or]; exact ⟨0, _, rfl, .inl ⟨rfl, rfl⟩⟩
          | false => rw [if_neg (by decide), Bool.false_or]; exact go
        · rw [if_pos (decide_eq_true c1), if_neg (by rw [decide_eq_true_eq]; exact c2), decide_eq_false c2, Bool.false_and, Bool.and_false, Bool.false_or]; exact go
      · rw [if_neg (by rw [decide_eq_true_eq]; exact c1), decide_eq_false c1, Bool.false_and, Bool.false_or]; exact go
    · have e1 : decide (((k : Nat) : Int) < (((List.length ss) : Nat) : Int)) = false := decide_eq_false (by omega)
      rw [e1, if_neg (by decide), List.drop_eq_nil_of_le (by omega)]
      exact ⟨1, _, rfl, .inr ⟨rfl, rfl⟩⟩
theorem mu3_loop (m : Nat) (all : List LB) (i : Int) (hs : HS) (a b c : Int) (jj : Nat) (h : (List MT) × (List MT) × (Q7)) (ns : Q7) (i0 : 0 ≤ i) (i1 : i < ((all.length : Nat) : Int)) (j1 : jj < all.length) (h1 : (all.getD i.toNat ([] : LB)).length ≤ 1000000) (h2 : (all.getD jj ([] : LB)).length ≤ 1000000) (h3 : ns.length ≤ 1000000) : ∀ (n k : Nat) (acc : Bool), k ≤ ns.length → ns.length - k < n → ∃ e, l18_3 m n all i hs a b c ((jj : Nat) : Int) h acc ns (ns.length : Nat) (k : Nat) = some (0, (acc && equG (all.getD jj ([] : LB)) (all.getD i.toNat ([] : LB)) (ns.drop k)), e)
  | 0, k, _, _, h => by omega
  | n + 1, k, acc, g1, g2 => by
    rw [l18_3]
    by_cases hk : k < ns.length
    · have e1 : decide (((k : Nat) : Int) < (((List.length ns) : Nat) : Int)) = true := decide_eq_true (by omega)
      have e2 : decide ((0 : Int) ≤ ((k : Nat) : Int)) = true := decide_eq_true (by omega)
      have e7 : IntKind.wrap .i64 (((k : Nat) : Int) + (1)) = ((k + 1 : Nat) : Int) := by rw [wrap_id (by omega) (by omega)]; rfl
      have go := fun acc => mu3_loop m all i hs a b c jj h ns i0 i1 j1 h1 h2 h3 n (k + 1) acc (by omega) (by omega)
      have hc : equG (all.getD jj ([] : LB)) (all.getD i.toNat ([] : LB)) (ns.getD k ([] : Q8) :: ns.drop (k + 1)) = ((getG (all.getD jj ([] : LB)) (ns.getD k ([] : Q8)) == getG (all.getD i.toNat ([] : LB)) (ns.getD k ([] : Q8))) && equG (all.getD jj ([] : LB)) (all.getD i.toNat ([] : LB)) (ns.drop (k + 1))) := rfl
      rw [drop_getD ns k ([] : Q8) hk, hc, show Int.toNat ((k : Nat) : Int) = k from rfl, show Int.toNat ((jj : Nat) : Int) = jj from rfl, e7, if_pos e2, if_pos e1, if_pos e1]
      cases acc with
      | false =>
        obtain ⟨e, he⟩ := go false
        exact ⟨e, by rw [if_neg (by decide), he, Bool.false_and, Bool.false_and]⟩
      | true =>
        obtain ⟨e, he⟩ := go (getG (all.getD jj ([] : LB)) (ns.getD k ([] : Q8)) == getG (all.getD i.toNat ([] : LB)) (ns.getD k ([] : Q8)))
        exact ⟨e, by rw [if_pos rfl, if_pos (decide_eq_true (by omega)), if_pos (decide_eq_true (by omega)), if_pos (decide_eq_true h2), if_pos (decide_eq_true i0), if_pos (decide_eq_true i1), if_pos (decide_eq_true h1), he, Bool.true_and]⟩
    · have e1 : decide (((k : Nat) : Int) < (((List.length ns) : Nat) : Int)) = false := decide_eq_false (by omega)
      rw [e1, if_neg (by decide), List.drop_eq_nil_of_le (by omega)]
      exact ⟨_, by rw [show equG (all.getD jj ([] : LB)) (all.getD i.toNat ([] : LB)) [] = true from rfl, Bool.and_true]⟩
theorem mu2_loop (m : Nat) (all : List LB) (i : Int) (hs : HS) (a b : Int) (h : (List MT) × (List MT) × (Q7)) (i0 : 0 ≤ i) (i1 : i < ((all.length : Nat) : Int)) (hall : all.length ≤ 1000000) (hp : ∀ x ∈ all, lrightPre x = true) (h3 : h.1.length ≤ 1000000) (h4 : h.2.2.length ≤ 1000000) (hm : h.2.2.length ≤ m) : ∀ (n k : Nat), k ≤ all.length → all.length - k < n → ∃ e j, l18_2 m n all i hs a b (all.length : Nat) (k : Nat) h = some (e, j) ∧ ((e = 0 ∧ (all.drop k).any (mhit (all.getD i.toNat ([] : LB)) h) = true) ∨ (e = 1 ∧ (all.drop k).any (mhit (all.getD i.toNat ([] : LB)) h) = false))
  | 0, k, _, h => by omega
  | n + 1, k, g1, g2 => by
    rw [l18_2]
    by_cases hk : k < all.length
    · have e1 : decide (((k : Nat) : Int) < (((List.length all) : Nat) : Int)) = true := decide_eq_true (by omega)
      have e2 : decide ((0 : Int) ≤ ((k : Nat) : Int)) = true := decide_eq_true (by omega)
      have e7 : IntKind.wrap .i64 (((k : Nat) : Int) + (1)) = ((k + 1 : Nat) : Int) := by rw [wrap_id (by omega) (by omega)]; rfl
      have pk := hp _ (getD_mem all k ([] : LB) hk)
      have pi := hp _ (getD_mem all i.toNat ([] : LB) (by omega))
      have lk := (of_decide_eq_true pk).1
      have li := (of_decide_eq_true pi).1
      have go := mu2_loop m all i hs a b h i0 i1 hall hp h3 h4 hm n (k + 1) (by omega) (by omega)
      obtain ⟨e, he⟩ := mu3_loop m all i hs a b (all.length : Nat) k h h.2.2 i0 i1 hk li lk h4 (m + 24) 0 true (by omega) (by omega)
      rw [Int.natCast_zero, List.drop_zero, Bool.true_and] at he
      have hc : mhit (all.getD i.toNat ([] : LB)) h (all.getD k ([] : LB)) = (!(lprintG (all.getD k ([] : LB)) == lprintG (all.getD i.toNat ([] : LB))) && (allG (all.getD k ([] : LB)) h.1 && equG (all.getD k ([] : LB)) (all.getD i.toNat ([] : LB)) h.2.2)) := rfl
      rw [drop_getD all k ([] : LB) hk, List.any_cons, hc, show Int.toNat ((k : Nat) : Int) = k from rfl, e7, if_pos e2, if_pos e1, if_pos e1, if_pos pk, if_pos (decide_eq_true i0), if_pos (decide_eq_true i1), if_pos pi]
      cases lprintG (all.getD k ([] : LB)) == lprintG (all.getD i.toNat ([] : LB)) with
      | true => rw [if_pos rfl, Bool.not_true, Bool.false_and, Bool.false_or]; exact go
      | false =>
        rw [if_neg (by decide), if_pos (decide_eq_true ⟨h3, lk⟩), Bool.not_false, Bool.true_and]
        cases allG (all.getD k ([] : LB)) h.1 with
        | false => rw [if_neg (by decide), Bool.false_and, Bool.false_or]; exact go
        | true =>
          rw [if_pos rfl, Bool.true_and]
          simp only [l18_3R, he, Option.isSome_some, Option.getD_some, ↓reduceIte]
          cases equG (all.getD k ([] : LB)) (all.getD i.toNat ([] : LB)) h.2.2 with
          | true => rw [if_pos rfl, Bool.true_or]; exact ⟨0, _, rfl, .inl ⟨rfl, rfl⟩⟩
          | false => rw [if_neg (by decide), Bool.false_or]; exact go
    · have e1 : decide (((k : Nat) : Int) < (((List.length all) : Nat) : Int)) = false := decide_eq_false (by omega)
      rw [e1, if_neg (by decide), List.drop_eq_nil_of_le (by omega)]
      exact ⟨1, _, rfl, .inr ⟨rfl, rfl⟩⟩
theorem mu1_loop (m : Nat) (all : List LB) (i : Int) (hs : HS) (i0 : 0 ≤ i) (i1 : i < ((all.length : Nat) : Int)) (hall : all.length ≤ 1000000) (hm : all.length ≤ m) (hp : ∀ x ∈ all, lrightPre x = true) (h5 : hs.length ≤ 1000000) (h6 : ∀ h ∈ hs, h.1.length ≤ 1000000 ∧ h.2.1.length ≤ 1000000 ∧ h.2.2.length ≤ 1000000) (hm2 : 1000000 ≤ m) : ∀ (n k : Nat), k ≤ hs.length → hs.length - k < n → ∃ e j, l18_1 m n all i hs (hs.length : Nat) (k : Nat) = some (e, j) ∧ ((e = 0 ∧ (hs.drop k).any (mutedBy all (all.getD i.toNat ([] : LB))) = true) ∨ (e = 1 ∧ (hs.drop k).any (mutedBy all (all.getD i.toNat ([] : LB))) = false))
  | 0, k, _, h => by omega
  | n + 1, k, g1, g2 => by
    rw [l18_1]
    by_cases hk : k < hs.length
    · have e1 : decide (((k : Nat) : Int) < (((List.length hs) : Nat) : Int)) = true := decide_eq_true (by omega)
      have e2 : decide ((0 : Int) ≤ ((k : Nat) : Int)) = true := decide_eq_true (by omega)
      have e7 : IntKind.wrap .i64 (((k : Nat) : Int) + (1)) = ((k + 1 : Nat) : Int) := by rw [wrap_id (by omega) (by omega)]; rfl
      obtain ⟨q1, q2, q3⟩ := h6 _ (getD_mem hs k (([] : List MT), (([] : List MT), ([] : Q7))) hk)
      have pi := hp _ (getD_mem all i.toNat ([] : LB) (by omega))
      have li := (of_decide_eq_true pi).1
      have go := mu1_loop m all i hs i0 i1 hall hm hp h5 h6 hm2 n (k + 1) (by omega) (by omega)
      obtain ⟨e, j, he, hd⟩ := mu2_loop m all i hs (hs.length : Nat) (k : Nat) (hs.getD k (([] : List MT), (([] : List MT), ([] : Q7)))) i0 i1 hall hp q1 q3 (by omega) (m + 24) 0 (by omega) (by omega)
      rw [Int.natCast_zero, List.drop_zero] at *
      have hc : mutedBy all (all.getD i.toNat ([] : LB)) (hs.getD k (([] : List MT), (([] : List MT), ([] : Q7)))) = (allG (all.getD i.toNat ([] : LB)) (hs.getD k (([] : List MT), (([] : List MT), ([] : Q7)))).2.1 && all.any (mhit (all.getD i.toNat ([] : LB)) (hs.getD k (([] : List MT), (([] : List MT), ([] : Q7)))))) := rfl
      rw [drop_getD hs k (([] : List MT), (([] : List MT), ([] : Q7))) hk, List.any_cons, hc, show Int.toNat ((k : Nat) : Int) = k from rfl, e7, if_pos e2, if_pos e1, if_pos e1, if_pos (decide_eq_true i0), if_pos (decide_eq_true i1), if_pos (decide_eq_true ⟨q2, li⟩)]
      cases allG (all.getD i.toNat ([] : LB)) (hs.getD k (([] : List MT), (([] : List MT), ([] : Q7)))).2.1 with
      | false => rw [if_neg (by decide), Bool.false_and, Bool.false_or]; exact go
      | true =>
        rw [if_pos rfl, Bool.true_and]
        simp only [l18_2R, he, Option.isSome_some, Option.getD_some, ↓reduceIte]
        rcases hd with ⟨rfl, hd⟩ | ⟨rfl, hd⟩
        · rw [if_pos (by decide), hd, Bool.true_or]; exact ⟨0, _, rfl, .inl ⟨rfl, rfl⟩⟩
        · rw [if_neg (by decide), if_pos (by decide), hd, Bool.false_or]; exact go
    · have e1 : decide (((k : Nat) : Int) < (((List.length hs) : Nat) : Int)) = false := decide_eq_false (by omega)
      rw [e1, if_neg (by decide), List.drop_eq_nil_of_le (by omega)]
      exact ⟨1, _, rfl, .inr ⟨rfl, rfl⟩⟩
theorem muted18 (all : List LB) (i t : Int) (ss : SS) (hs : HS) (h : mutedPre all i ss hs = true) : ∃ m, p18 m all i t ss hs = some (mutedG all i t ss hs) := by
  have ⟨i0, i1, h1, h2, h3, h4, h5, h6⟩ := of_decide_eq_true h
  refine ⟨1000000, ?_⟩
  have li := (of_decide_eq_true (h2 _ (getD_mem all i.toNat ([] : LB) (by omega)))).1
  obtain ⟨e, j, hr, hc⟩ := mu0_loop 1000000 all i t ss hs i0 i1 li h3 h4 (1000000 + 24) 0 (by omega) (by omega)
  obtain ⟨e', j', hr', hc'⟩ := mu1_loop 1000000 all i hs i0 i1 h1 h1 h2 h5 h6 (Nat.le_refl _) (1000000 + 24) 0 (by omega) (by omega)
  simp only [Int.natCast_zero, List.drop_zero] at hr hc hr' hc'
  unfold p18 mutedG
  simp only [l18_0R, l18_1R, hr, hr', Option.isSome_some, Option.getD_some, ↓reduceIte]
  rcases hc with ⟨rfl, hc⟩ | ⟨rfl, hc⟩ <;> rw [hc]
  · rw [Bool.true_or]; rfl
  · rw [Bool.false_or]
    rcases hc' with ⟨rfl, hc'⟩ | ⟨rfl, hc'⟩ <;> rw [hc'] <;> rfl
def s18 : List AV → Boxes → M (AV × Boxes) := normS [.val (.sl (.sl (.pair .str .str))), .val (.int .i64), .val (.int .i64), .val (.sl (.pair (.sl (.pair .str (.pair .str (.int .i64)))) (.pair (.int .i64) (.int .i64)))), .val (.sl (.pair (.sl (.pair .str (.pair .str (.int .i64)))) (.pair (.sl (.pair .str (.pair .str (.int .i64)))) (.sl .str))))] [] fun xs B => match xs, B with
  | [(.d (.sl (.sl (.pair .str .str)) c1)), (.d (.int .i64 c2)), (.d (.int .i64 c3)), (.d (.sl (.pair (.sl (.pair .str (.pair .str (.int .i64)))) (.pair (.int .i64) (.int .i64))) c4)), (.d (.sl (.pair (.sl (.pair .str (.pair .str (.int .i64)))) (.pair (.sl (.pair .str (.pair .str (.int .i64)))) (.sl .str))) c5))], [] => .chk (mutedPre c1 c2 c4 c5) (.ret ((.d (.bool (mutedG c1 c2 c3 c4 c5))), []))
  | _, _ => .fail
theorem s18_at : CallAt Tryd.prog 18 s18 := by
  refine CallAt.norm (CallAt.weakE (g := fun n => evCall F S27 n 18) (fun n => evCall_atH mixed kinds hds S27 S27_ok n 18) fun xs B r' B' hr => ?_) _ _
  split at hr
  · rename_i c1 c2 c3 c4 c5
    obtain ⟨hp, hr⟩ := (M.run_chk _ _ _).1 hr
    simp only [M.run, Option.some.injEq, Prod.mk.injEq] at hr
    obtain ⟨rfl, rfl⟩ := hr
    obtain ⟨m, hm⟩ := muted18 c1 c2 c3 c4 c5 hp
    obtain ⟨r, B1, h1, h2, h3, h4⟩ := p18_ok m c1 c2 c3 c4 c5 _ hm
    exact ⟨m + 25, r, B1, h1, by simp, h2, h3, h4⟩
  · simp [M.run] at hr
noncomputable def S28 : FuncId → Option (List AV → Boxes → M (AV × Boxes)) := fun f => if f = 18 then some s18 else S27 f
theorem S28_ok : ∀ f s, S28 f = some s → CallAt Tryd.prog f s := by
  intro f s h
  unfold S28 at h
  split at h
  · rename_i e; subst e; cases h; exact s18_at
  · exact S27_ok f s h

end Go.Proofs.YtghkbjflejgieaaDoor.Dec
namespace Go.Proofs.YtghkbjflejgieaaDoor.Dec
open Go.Ev
set_option linter.unusedVariables false
set_option linter.unusedSimpArgs false
set_option maxRecDepth 100000
set_option maxHeartbeats 20000000
noncomputable def fn4 : AFn := (F 4).getD ⟨0, [], .bad, false, false, noHd⟩
noncomputable def body4 : AC := fn4.body
def l4_0 (m : Nat) : Nat → Q6 → Q2 → Q0 → Int → Int → Int → Q3 → Option (Nat × Int × (Q3))
  | 0, _, _, _, _, _, _, _ => none
  | n + 1, x0, x1, x2, x3, x4, s12, b0 => if decide (s12 < (((List.length x0) : Nat) : Int)) = true then
      if decide (s12 < 6) = true then
        if decide (0 ≤ s12) = true then
        if decide ((((List.length b0) + 1) * 24) ≤ 70368744177664) = true then
        l4_0 m n x0 x1 x2 x3 x4 ((IntKind.wrap .i64 (s12 + (1)))) ((b0 ++ [(setG (List.getD x0 (Int.toNat s12) (([] : List Int), ([] : List Int))))]))
        else none
        else none
      else
        some (0, s12, b0)
    else
      some (1, s12, b0)
def l4_0D : Nat × Int × (Q3) := (0, 0, [])
@[reducible] def l4_0R (m n : Nat) (x0 : Q6) (x1 : Q2) (x2 : Q0) (x3 : Int) (x4 : Int) (s12 : Int) (b0 : Q3) : Nat × Int × (Q3) := Option.getD (l4_0 m n x0 x1 x2 x3 x4 s12 b0) l4_0D
def l4_0H (x0 : Q6) (x1 : Q2) (x2 : Q0) (x3 : Int) (x4 : Int) (s12 : Int) (b0 : Q3) : Env := ((.d (.sl (.pair (.sl (.int .i64)) (.sl (.int .i64))) x0)) :: (.d (.sl (.pair (.sl (.pair .str (.pair .str (.int .i64)))) (.pair (.int .i64) (.int .i64))) x1)) :: (.d (.sl (.pair (.sl (.pair .str (.pair .str (.int .i64)))) (.pair (.sl (.pair .str (.pair .str (.int .i64)))) (.sl .str))) x2)) :: (.d (.int .i64 x3)) :: (.d (.int .i64 x4)) :: .top :: .top :: .top :: .top :: .top :: .top :: (.sr 0 0 (List.length b0) 1 none) :: (.d (.int .i64 s12)) :: tp284 [])
def l4_0B (x0 : Q6) (x1 : Q2) (x2 : Q0) (x3 : Int) (x4 : Int) (s12 : Int) (b0 : Q3) : Boxes := [(.arr (.sl (.pair .str .str)) b0 true)]
def l4_0E (x0 : Q6) (x1 : Q2) (x2 : Q0) (x3 : Int) (x4 : Int) (s12 : Int) (b0 : Q3) : Nat → AEx × Env × Boxes
  | 0 => (.exit 0, ((.d (.sl (.pair (.sl (.int .i64)) (.sl (.int .i64))) x0)) :: (.d (.sl (.pair (.sl (.pair .str (.pair .str (.int .i64)))) (.pair (.int .i64) (.int .i64))) x1)) :: (.d (.sl (.pair (.sl (.pair .str (.pair .str (.int .i64)))) (.pair (.sl (.pair .str (.pair .str (.int .i64)))) (.sl .str))) x2)) :: (.d (.int .i64 x3)) :: (.d (.int .i64 x4)) :: .top :: .top :: .top :: .top :: .top :: .top :: (.sr 0 0 (List.length b0) 1 none) :: (.d (.int .i64 s12)) :: tp11 ((.d (.int .i64 s12)) :: (.d (.sl (.pair (.sl (.int .i64)) (.sl (.int .i64))) x0)) :: (.d (.int .i64 (((List.length x0) : Nat) : Int))) :: (.d (.bool (decide (s12 < (((List.length x0) : Nat) : Int))))) :: (.d (.bool (decide (s12 < (((List.length x0) : Nat) : Int))))) :: (.d (.int .i64 s12)) :: (.d (.bool (decide (s12 < 6)))) :: (.d (.bool (decide (s12 < 6)))) :: tp265 [])), [(.arr (.sl (.pair .str .str)) b0 true)])
  | _ => (.exit 0, ((.d (.sl (.pair (.sl (.int .i64)) (.sl (.int .i64))) x0)) :: (.d (.sl (.pair (.sl (.pair .str (.pair .str (.int .i64)))) (.pair (.int .i64) (.int .i64))) x1)) :: (.d (.sl (.pair (.sl (.pair .str (.pair .str (.int .i64)))) (.pair (.sl (.pair .str (.pair .str (.int .i64)))) (.sl .str))) x2)) :: (.d (.int .i64 x3)) :: (.d (.int .i64 x4)) :: .top :: .top :: .top :: .top :: .top :: .top :: (.sr 0 0 (List.length b0) 1 none) :: (.d (.int .i64 s12)) :: tp11 ((.d (.int .i64 s12)) :: (.d (.sl (.pair (.sl (.int .i64)) (.sl (.int .i64))) x0)) :: (.d (.int .i64 (((List.length x0) : Nat) : Int))) :: (.d (.bool (decide (s12 < (((List.length x0) : Nat) : Int))))) :: (.d (.bool (decide (s12 < (((List.length x0) : Nat) : Int))))) :: (.tup []) :: (.tup []) :: (.d (.bool false)) :: tp265 [])), [(.arr (.sl (.pair .str .str)) b0 true)])
noncomputable def lbl4_0 : AC := loopBody 6175 body4
@[reducible] noncomputable def cb25 (m : Nat) := (evC byref (evCall F S28 (m + 24)) (m + 24) 0 (hds 4) lbl4_0)


theorem l4_0_step (m n : Nat) (ih : ∀ (x0 : Q6) (x1 : Q2) (x2 : Q0) (x3 : Int) (x4 : Int) (s12 : Int) (b0 : Q3) (q : Nat × Int × (Q3)), l4_0 m n x0 x1 x2 x3 x4 s12 b0 = some q → (turns (hds 4 6175) 0 6175 (cb25 m) n (l4_0H x0 x1 x2 x3 x4 s12 b0) (l4_0B x0 x1 x2 x3 x4 s12 b0)).run = some (l4_0E (x0) (x1) (x2) (x3) (x4) (q.2.1) (q.2.2) q.1)) (x0 : Q6) (x1 : Q2) (x2 : Q0) (x3 : Int) (x4 : Int) (s12 : Int) (b0 : Q3) (q : Nat × Int × (Q3)) (h : l4_0 m (n + 1) x0 x1 x2 x3 x4 s12 b0 = some q) : (turns (hds 4 6175) 0 6175 (cb25 m) (n + 1) (l4_0H x0 x1 x2 x3 x4 s12 b0) (l4_0B x0 x1 x2 x3 x4 s12 b0)).run = some (l4_0E (x0) (x1) (x2) (x3) (x4) (q.2.1) (q.2.2) q.1) := by
  rw [l4_0] at h
  refine ite_cases h (fun c0 h => ?_) (fun c0 h => ?_)
  · skip
    refine ite_cases h (fun c3 h => ?_) (fun c3 h => ?_)
    · skip
      obtain ⟨c4, h⟩ := iY h
      obtain ⟨c8, h⟩ := iY h
      have ih := ih _ _ _ _ _ _ _ q h
      have ht : (turn (hds 4 6175) 0 6175 (cb25 m) (l4_0H x0 x1 x2 x3 x4 s12 b0) (l4_0B x0 x1 x2 x3 x4 s12 b0)).run = some (.normal, ((.d (.sl (.pair (.sl (.int .i64)) (.sl (.int .i64))) x0)) :: (.d (.sl (.pair (.sl (.pair .str (.pair .str (.int .i64)))) (.pair (.int .i64) (.int .i64))) x1)) :: (.d (.sl (.pair (.sl (.pair .str (.pair .str (.int .i64)))) (.pair (.sl (.pair .str (.pair .str (.int .i64)))) (.sl .str))) x2)) :: (.d (.int .i64 x3)) :: (.d (.int .i64 x4)) :: .top :: .top :: .top :: .top :: .top :: .top :: (.sr 0 0 ((List.length b0) + 1) 1 none) :: (.d (.int .i64 (IntKind.wrap .i64 (s12 + (1))))) :: tp284 []), [(.arr (.sl (.pair .str .str)) (b0 ++ [(setG (List.getD x0 (Int.toNat s12) (([] : List Int), ([] : List Int))))]) true)]) := M.run_of_path _ [tT, tT, tT, tT, tT, tT, tT, tT, tT, tT] _ _ (by kernel_rfl) (all_t c0 (all_t c0 (all_t c0 (all_t c3 (all_t c4 (all_t c0 (all_t rfl (all_t rfl (all_t c8 (all_t (show decide ((List.length b0) = (List.length b0)) = true from decide_eq_true rfl) all_nil))))))))))
      refine turns_step ht (turns_eq ?_ ?_ ih)
      · unfold l4_0H
        first | (simp; done) | (simp [Nat.add_assoc]; done) | (simp; omega)
      · unfold l4_0B
        simp
    · skip
      cases h
      refine turns_last (by simp) ?_
      exact M.run_of_path _ [tT, tT, tT, fF] _ _ (by kernel_rfl) (all_t c0 (all_t c0 (all_t c0 (all_f c3 all_nil))))
  · skip
    cases h
    refine turns_last (by simp) ?_
    exact M.run_of_path _ [fF, fF, fF, fF] _ _ (by kernel_rfl) (all_f c0 (all_f c0 (all_f c0 (all_f Bool.false_ne_true all_nil))))
theorem l4_0_ok (m : Nat) : ∀ (n : Nat) (x0 : Q6) (x1 : Q2) (x2 : Q0) (x3 : Int) (x4 : Int) (s12 : Int) (b0 : Q3) (q : Nat × Int × (Q3)), l4_0 m n x0 x1 x2 x3 x4 s12 b0 = some q → (turns (hds 4 6175) 0 6175 (cb25 m) n (l4_0H x0 x1 x2 x3 x4 s12 b0) (l4_0B x0 x1 x2 x3 x4 s12 b0)).run = some (l4_0E (x0) (x1) (x2) (x3) (x4) (q.2.1) (q.2.2) q.1)
  | 0, x0, x1, x2, x3, x4, s12, b0, q, h => by cases h
  | n + 1, x0, x1, x2, x3, x4, s12, b0, q, h => l4_0_step m n (l4_0_ok m n) x0 x1 x2 x3 x4 s12 b0 q h

def l4_1 (m : Nat) : Nat → Int → Int → Bool → Int → Int → Q3 → Q2 → Q0 → Option (Nat × Bool × Int × (Q2))
  | 0, _, _, _, _, _, _, _, _ => none
  | n + 1, x3, x4, s15, s57, s58, b0, b1, b2 => if decide (s58 < s57) = true then
      if decide (0 ≤ s58) = true then
      if decide (s58 < (((List.length b1) : Nat) : Int)) = true then
      if decide ((0 + (Int.toNat s58)) < (List.length b1)) = true then
      if (decide (0 ≤ (if (7) < (((List.length (List.getD b1 (0 + (Int.toNat s58)) (([] : Q4), (0, 0))).1) : Nat) : Int) then (7) else (((List.length (List.getD b1 (0 + (Int.toNat s58)) (([] : Q4), (0, 0))).1) : Nat) : Int))) && decide ((if (7) < (((List.length (List.getD b1 (0 + (Int.toNat s58)) (([] : Q4), (0, 0))).1) : Nat) : Int) then (7) else (((List.length (List.getD b1 (0 + (Int.toNat s58)) (([] : Q4), (0, 0))).1) : Nat) : Int)) ≤ (((List.length (List.getD b1 (0 + (Int.toNat s58)) (([] : Q4), (0, 0))).1) : Nat) : Int))) = true then
      if s15 = true then
        if decide ((0 + (Int.toNat s58)) < (List.length (List.set b1 (0 + (Int.toNat s58)) ((List.drop 0 (List.take (Int.toNat (if (7) < (((List.length (List.getD b1 (0 + (Int.toNat s58)) (([] : Q4), (0, 0))).1) : Nat) : Int) then (7) else (((List.length (List.getD b1 (0 + (Int.toNat s58)) (([] : Q4), (0, 0))).1) : Nat) : Int))) (List.getD b1 (0 + (Int.toNat s58)) (([] : Q4), (0, 0))).1)), (List.getD b1 (0 + (Int.toNat s58)) (([] : Q4), (0, 0))).2)))) = true then
        if decide ((List.getD (List.set b1 (0 + (Int.toNat s58)) ((List.drop 0 (List.take (Int.toNat (if (7) < (((List.length (List.getD b1 (0 + (Int.toNat s58)) (([] : Q4), (0, 0))).1) : Nat) : Int) then (7) else (((List.length (List.getD b1 (0 + (Int.toNat s58)) (([] : Q4), (0, 0))).1) : Nat) : Int))) (List.getD b1 (0 + (Int.toNat s58)) (([] : Q4), (0, 0))).1)), (List.getD b1 (0 + (Int.toNat s58)) (([] : Q4), (0, 0))).2)) (0 + (Int.toNat s58)) (([] : Q4), (0, 0))).2.1 ≤ (List.getD (List.set b1 (0 + (Int.toNat s58)) ((List.drop 0 (List.take (Int.toNat (if (7) < (((List.length (List.getD b1 (0 + (Int.toNat s58)) (([] : Q4), (0, 0))).1) : Nat) : Int) then (7) else (((List.length (List.getD b1 (0 + (Int.toNat s58)) (([] : Q4), (0, 0))).1) : Nat) : Int))) (List.getD b1 (0 + (Int.toNat s58)) (([] : Q4), (0, 0))).1)), (List.getD b1 (0 + (Int.toNat s58)) (([] : Q4), (0, 0))).2)) (0 + (Int.toNat s58)) (([] : Q4), (0, 0))).2.2) = true then
          if rightPre (List.getD (List.set b1 (0 + (Int.toNat s58)) ((List.drop 0 (List.take (Int.toNat (if (7) < (((List.length (List.getD b1 (0 + (Int.toNat s58)) (([] : Q4), (0, 0))).1) : Nat) : Int) then (7) else (((List.length (List.getD b1 (0 + (Int.toNat s58)) (([] : Q4), (0, 0))).1) : Nat) : Int))) (List.getD b1 (0 + (Int.toNat s58)) (([] : Q4), (0, 0))).1)), (List.getD b1 (0 + (Int.toNat s58)) (([] : Q4), (0, 0))).2)) (0 + (Int.toNat s58)) (([] : Q4), (0, 0))).1 = true then
          l4_1 m n x3 x4 ((rightG (List.getD (List.set b1 (0 + (Int.toNat s58)) ((List.drop 0 (List.take (Int.toNat (if (7) < (((List.length (List.getD b1 (0 + (Int.toNat s58)) (([] : Q4), (0, 0))).1) : Nat) : Int) then (7) else (((List.length (List.getD b1 (0 + (Int.toNat s58)) (([] : Q4), (0, 0))).1) : Nat) : Int))) (List.getD b1 (0 + (Int.toNat s58)) (([] : Q4), (0, 0))).1)), (List.getD b1 (0 + (Int.toNat s58)) (([] : Q4), (0, 0))).2)) (0 + (Int.toNat s58)) (([] : Q4), (0, 0))).1)) s57 ((IntKind.wrap .i64 (s58 + (1)))) b0 ((List.set b1 (0 + (Int.toNat s58)) ((List.drop 0 (List.take (Int.toNat (if (7) < (((List.length (List.getD b1 (0 + (Int.toNat s58)) (([] : Q4), (0, 0))).1) : Nat) : Int) then (7) else (((List.length (List.getD b1 (0 + (Int.toNat s58)) (([] : Q4), (0, 0))).1) : Nat) : Int))) (List.getD b1 (0 + (Int.toNat s58)) (([] : Q4), (0, 0))).1)), (List.getD b1 (0 + (Int.toNat s58)) (([] : Q4), (0, 0))).2))) b2
          else none
        else
          l4_1 m n x3 x4 false s57 ((IntKind.wrap .i64 (s58 + (1)))) b0 ((List.set b1 (0 + (Int.toNat s58)) ((List.drop 0 (List.take (Int.toNat (if (7) < (((List.length (List.getD b1 (0 + (Int.toNat s58)) (([] : Q4), (0, 0))).1) : Nat) : Int) then (7) else (((List.length (List.getD b1 (0 + (Int.toNat s58)) (([] : Q4), (0, 0))).1) : Nat) : Int))) (List.getD b1 (0 + (Int.toNat s58)) (([] : Q4), (0, 0))).1)), (List.getD b1 (0 + (Int.toNat s58)) (([] : Q4), (0, 0))).2))) b2
        else none
      else
        l4_1 m n x3 x4 false s57 ((IntKind.wrap .i64 (s58 + (1)))) b0 ((List.set b1 (0 + (Int.toNat s58)) ((List.drop 0 (List.take (Int.toNat (if (7) < (((List.length (List.getD b1 (0 + (Int.toNat s58)) (([] : Q4), (0, 0))).1) : Nat) : Int) then (7) else (((List.length (List.getD b1 (0 + (Int.toNat s58)) (([] : Q4), (0, 0))).1) : Nat) : Int))) (List.getD b1 (0 + (Int.toNat s58)) (([] : Q4), (0, 0))).1)), (List.getD b1 (0 + (Int.toNat s58)) (([] : Q4), (0, 0))).2))) b2
      else none
      else none
      else none
      else none
    else
      some (0, s15, s58, b1)
def l4_1D : Nat × Bool × Int × (Q2) := (0, false, 0, [])
@[reducible] def l4_1R (m n : Nat) (x3 : Int) (x4 : Int) (s15 : Bool) (s57 : Int) (s58 : Int) (b0 : Q3) (b1 : Q2) (b2 : Q0) : Nat × Bool × Int × (Q2) := Option.getD (l4_1 m n x3 x4 s15 s57 s58 b0 b1 b2) l4_1D
def l4_1H (x3 : Int) (x4 : Int) (s15 : Bool) (s57 : Int) (s58 : Int) (b0 : Q3) (b1 : Q2) (b2 : Q0) : Env := (.top :: .top :: .top :: (.d (.int .i64 x3)) :: (.d (.int .i64 x4)) :: .top :: .top :: .top :: .top :: .top :: .top :: (.sr 0 0 (List.length b0) 1 none) :: .top :: (.sr 1 0 (List.length b1) 3 none) :: (.sr 2 0 (List.length b2) 3 none) :: (.d (.bool (s15))) :: tp41 ((.d (.int .i64 s57)) :: (.d (.int .i64 s58)) :: tp238 []))
def l4_1B (x3 : Int) (x4 : Int) (s15 : Bool) (s57 : Int) (s58 : Int) (b0 : Q3) (b1 : Q2) (b2 : Q0) : Boxes := [(.arr (.sl (.pair .str .str)) b0 true), (.arr (.pair (.sl (.pair .str (.pair .str (.int .i64)))) (.pair (.int .i64) (.int .i64))) b1 true), (.arr (.pair (.sl (.pair .str (.pair .str (.int .i64)))) (.pair (.sl (.pair .str (.pair .str (.int .i64)))) (.sl .str))) b2 true)]
def l4_1E (x3 : Int) (x4 : Int) (s15 : Bool) (s57 : Int) (s58 : Int) (b0 : Q3) (b1 : Q2) (b2 : Q0) : Nat → AEx × Env × Boxes
  | _ => (.exit 2, (.top :: .top :: .top :: (.d (.int .i64 x3)) :: (.d (.int .i64 x4)) :: .top :: .top :: .top :: .top :: .top :: .top :: (.sr 0 0 (List.length b0) 1 none) :: .top :: (.sr 1 0 (List.length b1) 3 none) :: (.sr 2 0 (List.length b2) 3 none) :: (.d (.bool (s15))) :: tp41 ((.d (.int .i64 s57)) :: (.d (.int .i64 s58)) :: (.d (.bool (decide (s58 < s57)))) :: tp237 [])), [(.arr (.sl (.pair .str .str)) b0 true), (.arr (.pair (.sl (.pair .str (.pair .str (.int .i64)))) (.pair (.int .i64) (.int .i64))) b1 true), (.arr (.pair (.sl (.pair .str (.pair .str (.int .i64)))) (.pair (.sl (.pair .str (.pair .str (.int .i64)))) (.sl .str))) b2 true)])
noncomputable def lbl4_1 : AC := loopBody 432345564227627032 body4
@[reducible] noncomputable def cb26 (m : Nat) := (evC byref (evCall F S28 (m + 24)) (m + 24) 0 (hds 4) lbl4_1)


theorem l4_1_step (m n : Nat) (ih : ∀ (x3 : Int) (x4 : Int) (s15 : Bool) (s57 : Int) (s58 : Int) (b0 : Q3) (b1 : Q2) (b2 : Q0) (q : Nat × Bool × Int × (Q2)), l4_1 m n x3 x4 s15 s57 s58 b0 b1 b2 = some q → (turns (hds 4 432345564227627032) 0 432345564227627032 (cb26 m) n (l4_1H x3 x4 s15 s57 s58 b0 b1 b2) (l4_1B x3 x4 s15 s57 s58 b0 b1 b2)).run = some (l4_1E (x3) (x4) (q.2.1) (s57) (q.2.2.1) (b0) (q.2.2.2) (b2) q.1)) (x3 : Int) (x4 : Int) (s15 : Bool) (s57 : Int) (s58 : Int) (b0 : Q3) (b1 : Q2) (b2 : Q0) (q : Nat × Bool × Int × (Q2)) (h : l4_1 m (n + 1) x3 x4 s15 s57 s58 b0 b1 b2 = some q) : (turns (hds 4 432345564227627032) 0 432345564227627032 (cb26 m) (n + 1) (l4_1H x3 x4 s15 s57 s58 b0 b1 b2) (l4_1B x3 x4 s15 s57 s58 b0 b1 b2)).run = some (l4_1E (x3) (x4) (q.2.1) (s57) (q.2.2.1) (b0) (q.2.2.2) (b2) q.1) := by
  rw [l4_1] at h
  refine ite_cases h (fun c0 h => ?_) (fun c0 h => ?_)
  · skip
    obtain ⟨c1, h⟩ := iY h
    obtain ⟨c2, h⟩ := iY h
    obtain ⟨c3, h⟩ := iY h
    obtain ⟨c7, h⟩ := iY h
    refine ite_cases h (fun c11 h => ?_) (fun c11 h => ?_)
    · skip
      obtain ⟨c18, h⟩ := iY h
      refine ite_cases h (fun c29 h => ?_) (fun c29 h => ?_)
      · skip
        obtain ⟨c38, h⟩ := iY h
        have ih := ih _ _ _ _ _ _ _ _ q h
        have ht : (turn (hds 4 432345564227627032) 0 432345564227627032 (cb26 m) (l4_1H x3 x4 s15 s57 s58 b0 b1 b2) (l4_1B x3 x4 s15 s57 s58 b0 b1 b2)).run = some (.normal, (.top :: .top :: .top :: (.d (.int .i64 x3)) :: (.d (.int .i64 x4)) :: .top :: .top :: .top :: .top :: .top :: .top :: (.sr 0 0 (List.length b0) 1 none) :: .top :: (.sr 1 0 (List.length b1) 3 none) :: (.sr 2 0 (List.length b2) 3 none) :: (.d (.bool (rightG (List.getD (List.set b1 (0 + (Int.toNat s58)) ((List.drop 0 (List.take (Int.toNat (if (7) < (((List.length (List.getD b1 (0 + (Int.toNat s58)) (([] : Q4), (0, 0))).1) : Nat) : Int) then (7) else (((List.length (List.getD b1 (0 + (Int.toNat s58)) (([] : Q4), (0, 0))).1) : Nat) : Int))) (List.getD b1 (0 + (Int.toNat s58)) (([] : Q4), (0, 0))).1)), (List.getD b1 (0 + (Int.toNat s58)) (([] : Q4), (0, 0))).2)) (0 + (Int.toNat s58)) (([] : Q4), (0, 0))).1))) :: tp41 ((.d (.int .i64 s57)) :: (.d (.int .i64 (IntKind.wrap .i64 (s58 + (1))))) :: tp238 [])), [(.arr (.sl (.pair .str .str)) b0 true), (.arr (.pair (.sl (.pair .str (.pair .str (.int .i64)))) (.pair (.int .i64) (.int .i64))) (List.set b1 (0 + (Int.toNat s58)) ((List.drop 0 (List.take (Int.toNat (if (7) < (((List.length (List.getD b1 (0 + (Int.toNat s58)) (([] : Q4), (0, 0))).1) : Nat) : Int) then (7) else (((List.length (List.getD b1 (0 + (Int.toNat s58)) (([] : Q4), (0, 0))).1) : Nat) : Int))) (List.getD b1 (0 + (Int.toNat s58)) (([] : Q4), (0, 0))).1)), (List.getD b1 (0 + (Int.toNat s58)) (([] : Q4), (0, 0))).2)) true), (.arr (.pair (.sl (.pair .str (.pair .str (.int .i64)))) (.pair (.sl (.pair .str (.pair .str (.int .i64)))) (.sl .str))) b2 true)]) := M.run_of_path _ [tT, tT, tT, tT, tT, tT, tT, tT, tT, tT, tT, tT, tT, tT, tT, tT, tT, tT, tT, tT, tT, tT, tT, tT, tT, tT, tT, tT, tT, tT, tT, tT, tT, tT, tT, tT, tT, tT, tT, tT] _ _ (by kernel_rfl) (all_t c0 (all_t c1 (all_t c2 (all_t c3 (all_t c1 (all_t c2 (all_t c3 (all_t c7 (all_t c1 (all_t c2 (all_t c3 (all_t c11 (all_t c11 (all_t c11 (all_t c1 (all_t c2 (all_t c11 (all_t c11 (all_t c18 (all_t c11 (all_t c11 (all_t c11 (all_t c1 (all_t c2 (all_t c11 (all_t c11 (all_t c18 (all_t c11 (all_t c11 (all_t c29 (all_t c29 (all_t c29 (all_t c1 (all_t c2 (all_t c29 (all_t c29 (all_t c18 (all_t c29 (all_t c38 (all_t c29 all_nil))))))))))))))))))))))))))))))))))))))))
        refine turns_step ht (turns_eq ?_ ?_ ih)
        · unfold l4_1H
          first | (simp; done) | (simp [Nat.add_assoc]; done) | (simp; omega)
        · unfold l4_1B
          simp
      · skip
        have ih := ih _ _ _ _ _ _ _ _ q h
        have ht : (turn (hds 4 432345564227627032) 0 432345564227627032 (cb26 m) (l4_1H x3 x4 s15 s57 s58 b0 b1 b2) (l4_1B x3 x4 s15 s57 s58 b0 b1 b2)).run = some (.normal, (.top :: .top :: .top :: (.d (.int .i64 x3)) :: (.d (.int .i64 x4)) :: .top :: .top :: .top :: .top :: .top :: .top :: (.sr 0 0 (List.length b0) 1 none) :: .top :: (.sr 1 0 (List.length b1) 3 none) :: (.sr 2 0 (List.length b2) 3 none) :: (.d (.bool false)) :: tp41 ((.d (.int .i64 s57)) :: (.d (.int .i64 (IntKind.wrap .i64 (s58 + (1))))) :: tp238 [])), [(.arr (.sl (.pair .str .str)) b0 true), (.arr (.pair (.sl (.pair .str (.pair .str (.int .i64)))) (.pair (.int .i64) (.int .i64))) (List.set b1 (0 + (Int.toNat s58)) ((List.drop 0 (List.take (Int.toNat (if (7) < (((List.length (List.getD b1 (0 + (Int.toNat s58)) (([] : Q4), (0, 0))).1) : Nat) : Int) then (7) else (((List.length (List.getD b1 (0 + (Int.toNat s58)) (([] : Q4), (0, 0))).1) : Nat) : Int))) (List.getD b1 (0 + (Int.toNat s58)) (([] : Q4), (0, 0))).1)), (List.getD b1 (0 + (Int.toNat s58)) (([] : Q4), (0, 0))).2)) true), (.arr (.pair (.sl (.pair .str (.pair .str (.int .i64)))) (.pair (.sl (.pair .str (.pair .str (.int .i64)))) (.sl .str))) b2 true)]) := M.run_of_path _ [tT, tT, tT, tT, tT, tT, tT, tT, tT, tT, tT, tT, tT, tT, tT, tT, tT, tT, tT, tT, tT, tT, tT, tT, tT, tT, tT, tT, tT, fF, fF, fF, fF, fF, fF, fF] _ _ (by kernel_rfl) (all_t c0 (all_t c1 (all_t c2 (all_t c3 (all_t c1 (all_t c2 (all_t c3 (all_t c7 (all_t c1 (all_t c2 (all_t c3 (all_t c11 (all_t c11 (all_t c11 (all_t c1 (all_t c2 (all_t c11 (all_t c11 (all_t c18 (all_t c11 (all_t c11 (all_t c11 (all_t c1 (all_t c2 (all_t c11 (all_t c11 (all_t c18 (all_t c11 (all_t c11 (all_f c29 (all_f c29 (all_f c29 (all_f c29 (all_f c29 (all_f c29 (all_f c29 all_nil))))))))))))))))))))))))))))))))))))
        refine turns_step ht (turns_eq ?_ ?_ ih)
        · unfold l4_1H
          first | (simp; done) | (simp [Nat.add_assoc]; done) | (simp; omega)
        · unfold l4_1B
          simp
    · skip
      have ih := ih _ _ _ _ _ _ _ _ q h
      have ht : (turn (hds 4 432345564227627032) 0 432345564227627032 (cb26 m) (l4_1H x3 x4 s15 s57 s58 b0 b1 b2) (l4_1B x3 x4 s15 s57 s58 b0 b1 b2)).run = some (.normal, (.top :: .top :: .top :: (.d (.int .i64 x3)) :: (.d (.int .i64 x4)) :: .top :: .top :: .top :: .top :: .top :: .top :: (.sr 0 0 (List.length b0) 1 none) :: .top :: (.sr 1 0 (List.length b1) 3 none) :: (.sr 2 0 (List.length b2) 3 none) :: (.d (.bool false)) :: tp41 ((.d (.int .i64 s57)) :: (.d (.int .i64 (IntKind.wrap .i64 (s58 + (1))))) :: tp238 [])), [(.arr (.sl (.pair .str .str)) b0 true), (.arr (.pair (.sl (.pair .str (.pair .str (.int .i64)))) (.pair (.int .i64) (.int .i64))) (List.set b1 (0 + (Int.toNat s58)) ((List.drop 0 (List.take (Int.toNat (if (7) < (((List.length (List.getD b1 (0 + (Int.toNat s58)) (([] : Q4), (0, 0))).1) : Nat) : Int) then (7) else (((List.length (List.getD b1 (0 + (Int.toNat s58)) (([] : Q4), (0, 0))).1) : Nat) : Int))) (List.getD b1 (0 + (Int.toNat s58)) (([] : Q4), (0, 0))).1)), (List.getD b1 (0 + (Int.toNat s58)) (([] : Q4), (0, 0))).2)) true), (.arr (.pair (.sl (.pair .str (.pair .str (.int .i64)))) (.pair (.sl (.pair .str (.pair .str (.int .i64)))) (.sl .str))) b2 true)]) := M.run_of_path _ [tT, tT, tT, tT, tT, tT, tT, tT, tT, tT, tT, fF, fF, fF, fF, fF, fF, fF, fF, fF, fF, fF, fF, fF, fF, fF, fF, fF, fF, fF] _ _ (by kernel_rfl) (all_t c0 (all_t c1 (all_t c2 (all_t c3 (all_t c1 (all_t c2 (all_t c3 (all_t c7 (all_t c1 (all_t c2 (all_t c3 (all_f c11 (all_f c11 (all_f c11 (all_f c11 (all_f c11 (all_f c11 (all_f c11 (all_f c11 (all_f c11 (all_f c11 (all_f c11 (all_f c11 (all_f Bool.false_ne_true (all_f Bool.false_ne_true (all_f Bool.false_ne_true (all_f Bool.false_ne_true (all_f Bool.false_ne_true (all_f Bool.false_ne_true (all_f Bool.false_ne_true all_nil))))))))))))))))))))))))))))))
      refine turns_step ht (turns_eq ?_ ?_ ih)
      · unfold l4_1H
        first | (simp; done) | (simp [Nat.add_assoc]; done) | (simp; omega)
      · unfold l4_1B
        simp
  · skip
    cases h
    refine turns_last (by simp) ?_
    exact M.run_of_path _ [fF] _ _ (by kernel_rfl) (all_f c0 all_nil)
theorem l4_1_ok (m : Nat) : ∀ (n : Nat) (x3 : Int) (x4 : Int) (s15 : Bool) (s57 : Int) (s58 : Int) (b0 : Q3) (b1 : Q2) (b2 : Q0) (q : Nat × Bool × Int × (Q2)), l4_1 m n x3 x4 s15 s57 s58 b0 b1 b2 = some q → (turns (hds 4 432345564227627032) 0 432345564227627032 (cb26 m) n (l4_1H x3 x4 s15 s57 s58 b0 b1 b2) (l4_1B x3 x4 s15 s57 s58 b0 b1 b2)).run = some (l4_1E (x3) (x4) (q.2.1) (s57) (q.2.2.1) (b0) (q.2.2.2) (b2) q.1)
  | 0, x3, x4, s15, s57, s58, b0, b1, b2, q, h => by cases h
  | n + 1, x3, x4, s15, s57, s58, b0, b1, b2, q, h => l4_1_step m n (l4_1_ok m n) x3 x4 s15 s57 s58 b0 b1 b2 q h

def l4_3 (m : Nat) : Nat → Int → Int → Int → Int → Q3 → Q2 → Bool → Q7 → Int → Int → Q0 → Option (Nat × Bool × Int)
  | 0, _, _, _, _, _, _, _, _, _, _, _ => none
  | n + 1, x3, x4, s102, s103, b0, b1, s15', s187', s188', s189', b2' => if decide (s189' < s188') = true then
      if decide (0 ≤ s189') = true then
      if decide (s189' < (((List.length s187') : Nat) : Int)) = true then
      if s15' = true then
        if lrightPre [((List.getD s187' (Int.toNat s189') ([] : Q8)), ([120] : Q8))] = true then
        l4_3 m n x3 x4 s102 s103 b0 b1 ((lrightG [((List.getD s187' (Int.toNat s189') ([] : Q8)), ([120] : Q8))])) s187' s188' ((IntKind.wrap .i64 (s189' + (1)))) b2'
        else none
      else
        l4_3 m n x3 x4 s102 s103 b0 b1 false s187' s188' ((IntKind.wrap .i64 (s189' + (1)))) b2'
      else none
      else none
    else
      some (0, s15', s189')
def l4_3D : Nat × Bool × Int := (0, false, 0)
@[reducible] def l4_3R (m n : Nat) (x3 : Int) (x4 : Int) (s102 : Int) (s103 : Int) (b0 : Q3) (b1 : Q2) (s15' : Bool) (s187' : Q7) (s188' : Int) (s189' : Int) (b2' : Q0) : Nat × Bool × Int := Option.getD (l4_3 m n x3 x4 s102 s103 b0 b1 s15' s187' s188' s189' b2') l4_3D
def l4_3H (x3 : Int) (x4 : Int) (s102 : Int) (s103 : Int) (b0 : Q3) (b1 : Q2) (s15' : Bool) (s187' : Q7) (s188' : Int) (s189' : Int) (b2' : Q0) : Env := (.top :: .top :: .top :: (.d (.int .i64 x3)) :: (.d (.int .i64 x4)) :: .top :: .top :: .top :: .top :: .top :: .top :: (.sr 0 0 (List.length b0) 1 none) :: .top :: (.sr 1 0 (List.length b1) 3 none) :: (.sr 2 0 (List.length b2') 3 none) :: (.d (.bool (s15'))) :: tp86 ((.d (.int .i64 s102)) :: (.d (.int .i64 s103)) :: tp83 ((.d (.sl .str s187')) :: (.d (.int .i64 s188')) :: (.d (.int .i64 s189')) :: tp107 [])))
def l4_3B (x3 : Int) (x4 : Int) (s102 : Int) (s103 : Int) (b0 : Q3) (b1 : Q2) (s15' : Bool) (s187' : Q7) (s188' : Int) (s189' : Int) (b2' : Q0) : Boxes := [(.arr (.sl (.pair .str .str)) b0 true), (.arr (.pair (.sl (.pair .str (.pair .str (.int .i64)))) (.pair (.int .i64) (.int .i64))) b1 true), (.arr (.pair (.sl (.pair .str (.pair .str (.int .i64)))) (.pair (.sl (.pair .str (.pair .str (.int .i64)))) (.sl .str))) b2' true)]
def l4_3E (x3 : Int) (x4 : Int) (s102 : Int) (s103 : Int) (b0 : Q3) (b1 : Q2) (s15' : Bool) (s187' : Q7) (s188' : Int) (s189' : Int) (b2' : Q0) : Nat → AEx × Env × Boxes
  | _ => (.exit 6, (.top :: .top :: .top :: (.d (.int .i64 x3)) :: (.d (.int .i64 x4)) :: .top :: .top :: .top :: .top :: .top :: .top :: (.sr 0 0 (List.length b0) 1 none) :: .top :: (.sr 1 0 (List.length b1) 3 none) :: (.sr 2 0 (List.length b2') 3 none) :: (.d (.bool (s15'))) :: tp86 ((.d (.int .i64 s102)) :: (.d (.int .i64 s103)) :: tp83 ((.d (.sl .str s187')) :: (.d (.int .i64 s188')) :: (.d (.int .i64 s189')) :: (.d (.bool (decide (s189' < s188')))) :: tp106 []))), [(.arr (.sl (.pair .str .str)) b0 true), (.arr (.pair (.sl (.pair .str (.pair .str (.int .i64)))) (.pair (.int .i64) (.int .i64))) b1 true), (.arr (.pair (.sl (.pair .str (.pair .str (.int .i64)))) (.pair (.sl (.pair .str (.pair .str (.int .i64)))) (.sl .str))) b2' true)])
noncomputable def lbl4_3 : AC := loopBody 1373116004615836417089078951538484231261143071436946073624 body4
@[reducible] noncomputable def cb27 (m : Nat) := (evC byref (evCall F S28 (m + 24)) (m + 24) 0 (hds 4) lbl4_3)


theorem l4_3_step (m n : Nat) (ih : ∀ (x3 : Int) (x4 : Int) (s102 : Int) (s103 : Int) (b0 : Q3) (b1 : Q2) (s15' : Bool) (s187' : Q7) (s188' : Int) (s189' : Int) (b2' : Q0) (q : Nat × Bool × Int), l4_3 m n x3 x4 s102 s103 b0 b1 s15' s187' s188' s189' b2' = some q → (turns (hds 4 1373116004615836417089078951538484231261143071436946073624) 0 1373116004615836417089078951538484231261143071436946073624 (cb27 m) n (l4_3H x3 x4 s102 s103 b0 b1 s15' s187' s188' s189' b2') (l4_3B x3 x4 s102 s103 b0 b1 s15' s187' s188' s189' b2')).run = some (l4_3E (x3) (x4) (s102) (s103) (b0) (b1) (q.2.1) (s187') (s188') (q.2.2) (b2') q.1)) (x3 : Int) (x4 : Int) (s102 : Int) (s103 : Int) (b0 : Q3) (b1 : Q2) (s15' : Bool) (s187' : Q7) (s188' : Int) (s189' : Int) (b2' : Q0) (q : Nat × Bool × Int) (h : l4_3 m (n + 1) x3 x4 s102 s103 b0 b1 s15' s187' s188' s189' b2' = some q) : (turns (hds 4 1373116004615836417089078951538484231261143071436946073624) 0 1373116004615836417089078951538484231261143071436946073624 (cb27 m) (n + 1) (l4_3H x3 x4 s102 s103 b0 b1 s15' s187' s188' s189' b2') (l4_3B x3 x4 s102 s103 b0 b1 s15' s187' s188' s189' b2')).run = some (l4_3E (x3) (x4) (s102) (s103) (b0) (b1) (q.2.1) (s187') (s188') (q.2.2) (b2') q.1) := by
  rw [l4_3] at h
  refine ite_cases h (fun c0 h => ?_) (fun c0 h => ?_)
  · skip
    obtain ⟨c1, h⟩ := iY h
    obtain ⟨c2, h⟩ := iY h
    refine ite_cases h (fun c3 h => ?_) (fun c3 h => ?_)
    · skip
      obtain ⟨c8, h⟩ := iY h
      have ih := ih _ _ _ _ _ _ _ _ _ _ _ q h
      refine turns_step ?_ ih
      exact M.run_of_path _ [tT, tT, tT, tT, tT, tT, tT, tT, tT, tT] _ _ (by kernel_rfl) (all_t c0 (all_t c1 (all_t c2 (all_t c3 (all_t c3 (all_t c3 (all_t c3 (all_t rfl (all_t c8 (all_t c3 all_nil))))))))))
    · skip
      have ih := ih _ _ _ _ _ _ _ _ _ _ _ q h
      refine turns_step ?_ ih
      exact M.run_of_path _ [tT, tT, tT, fF, fF, fF, fF, fF] _ _ (by kernel_rfl) (all_t c0 (all_t c1 (all_t c2 (all_f c3 (all_f c3 (all_f c3 (all_f c3 (all_f c3 all_nil))))))))
  · skip
    cases h
    refine turns_last (by simp) ?_
    exact M.run_of_path _ [fF] _ _ (by kernel_rfl) (all_f c0 all_nil)
theorem l4_3_ok (m : Nat) : ∀ (n : Nat) (x3 : Int) (x4 : Int) (s102 : Int) (s103 : Int) (b0 : Q3) (b1 : Q2) (s15' : Bool) (s187' : Q7) (s188' : Int) (s189' : Int) (b2' : Q0) (q : Nat × Bool × Int), l4_3 m n x3 x4 s102 s103 b0 b1 s15' s187' s188' s189' b2' = some q → (turns (hds 4 1373116004615836417089078951538484231261143071436946073624) 0 1373116004615836417089078951538484231261143071436946073624 (cb27 m) n (l4_3H x3 x4 s102 s103 b0 b1 s15' s187' s188' s189' b2') (l4_3B x3 x4 s102 s103 b0 b1 s15' s187' s188' s189' b2')).run = some (l4_3E (x3) (x4) (s102) (s103) (b0) (b1) (q.2.1) (s187') (s188') (q.2.2) (b2') q.1)
  | 0, x3, x4, s102, s103, b0, b1, s15', s187', s188', s189', b2', q, h => by cases h
  | n + 1, x3, x4, s102, s103, b0, b1, s15', s187', s188', s189', b2', q, h => l4_3_step m n (l4_3_ok m n) x3 x4 s102 s103 b0 b1 s15' s187' s188' s189' b2' q h

@[reducible] def l4_2_k1 (s103 : Int) (b2 : Q0) := (List.set b2 (0 + (Int.toNat s103)) ((List.drop 0 (List.take (Int.toNat (if (7) < (((List.length (List.getD b2 (0 + (Int.toNat s103)) (([] : Q4), (([] : Q4), ([] : Q7)))).1) : Nat) : Int) then (7) else (((List.length (List.getD b2 (0 + (Int.toNat s103)) (([] : Q4), (([] : Q4), ([] : Q7)))).1) : Nat) : Int))) (List.getD b2 (0 + (Int.toNat s103)) (([] : Q4), (([] : Q4), ([] : Q7)))).1)), (List.getD b2 (0 + (Int.toNat s103)) (([] : Q4), (([] : Q4), ([] : Q7)))).2))
@[reducible] def l4_2_k2 (s103 : Int) (b2 : Q0) := (List.set (l4_2_k1 s103 b2) (0 + (Int.toNat s103)) ((List.getD (l4_2_k1 s103 b2) (0 + (Int.toNat s103)) (([] : Q4), (([] : Q4), ([] : Q7)))).1, ((List.drop 0 (List.take (Int.toNat (if (7) < (((List.length (List.getD b2 (0 + (Int.toNat s103)) (([] : Q4), (([] : Q4), ([] : Q7)))).2.1) : Nat) : Int) then (7) else (((List.length (List.getD b2 (0 + (Int.toNat s103)) (([] : Q4), (([] : Q4), ([] : Q7)))).2.1) : Nat) : Int))) (List.getD b2 (0 + (Int.toNat s103)) (([] : Q4), (([] : Q4), ([] : Q7)))).2.1)), (List.getD (l4_2_k1 s103 b2) (0 + (Int.toNat s103)) (([] : Q4), (([] : Q4), ([] : Q7)))).2.2)))
@[reducible] def l4_2_k3 (s103 : Int) (b2 : Q0) := (List.set (l4_2_k2 s103 b2) (0 + (Int.toNat s103)) ((List.getD (l4_2_k2 s103 b2) (0 + (Int.toNat s103)) (([] : Q4), (([] : Q4), ([] : Q7)))).1, ((List.getD (l4_2_k2 s103 b2) (0 + (Int.toNat s103)) (([] : Q4), (([] : Q4), ([] : Q7)))).2.1, (List.drop 0 (List.take (Int.toNat (if (7) < (((List.length (List.getD b2 (0 + (Int.toNat s103)) (([] : Q4), (([] : Q4), ([] : Q7)))).2.2) : Nat) : Int) then (7) else (((List.length (List.getD b2 (0 + (Int.toNat s103)) (([] : Q4), (([] : Q4), ([] : Q7)))).2.2) : Nat) : Int))) (List.getD b2 (0 + (Int.toNat s103)) (([] : Q4), (([] : Q4), ([] : Q7)))).2.2)))))
@[reducible] def l4_2_k4 (s103 : Int) (b2 : Q0) := (List.getD (l4_2_k3 s103 b2) (0 + (Int.toNat s103)) (([] : Q4), (([] : Q4), ([] : Q7))))
@[reducible] def l4_2_k5 (s103 : Int) (b2 : Q0) := (List.getD b2 (0 + (Int.toNat s103)) (([] : Q4), (([] : Q4), ([] : Q7))))
@[reducible] def l4_2_k6 (s103 : Int) (b2 : Q0) := (((List.length (l4_2_k4 s103 b2).2.2) : Nat) : Int)
@[reducible] def l4_2_k7 (x3 : Int) (x4 : Int) (s102 : Int) (s103 : Int) (b0 : Q3) (b1 : Q2) (b2 : Q0) (m : Nat) := (l4_3R m (m + 24) x3 x4 s102 s103 b0 b1 false ((l4_2_k4 s103 b2).2.2) ((l4_2_k6 s103 b2)) 0 ((l4_2_k3 s103 b2)))
@[reducible] def l4_2_k8 (s103 : Int) (b2 : Q0) := (((List.length (l4_2_k5 s103 b2).2.1) : Nat) : Int)
@[reducible] def l4_2_k9 (s103 : Int) (b2 : Q0) := (((List.length (l4_2_k5 s103 b2).2.2) : Nat) : Int)
@[reducible] def l4_2_k10 (s103 : Int) (b2 : Q0) := (((List.length (l4_2_k5 s103 b2).1) : Nat) : Int)
@[reducible] def l4_2_k11 (s103 : Int) (b2 : Q0) := (List.length (l4_2_k3 s103 b2))
@[reducible] def l4_2_k12 (s103 : Int) := ((IntKind.wrap .i64 (s103 + (1))))
def l4_2 (m : Nat) : Nat → Int → Int → Bool → Int → Int → Q3 → Q2 → Q0 → Option (Nat × Bool × Int × (Q0))
  | 0, _, _, _, _, _, _, _, _ => none
  | n + 1, x3, x4, s15, s102, s103, b0, b1, b2 => if decide (s103 < s102) = true then
      if decide (0 ≤ s103) = true then
      if decide (s103 < (((List.length b2) : Nat) : Int)) = true then
      if decide ((0 + (Int.toNat s103)) < (List.length b2)) = true then
      if (decide (0 ≤ (if (7) < (l4_2_k10 s103 b2) then (7) else (l4_2_k10 s103 b2))) && decide ((if (7) < (l4_2_k10 s103 b2) then (7) else (l4_2_k10 s103 b2)) ≤ (l4_2_k10 s103 b2))) = true then
      if (decide (0 ≤ (if (7) < (l4_2_k8 s103 b2) then (7) else (l4_2_k8 s103 b2))) && decide ((if (7) < (l4_2_k8 s103 b2) then (7) else (l4_2_k8 s103 b2)) ≤ (l4_2_k8 s103 b2))) = true then
      if (decide (0 ≤ (if (7) < (l4_2_k9 s103 b2) then (7) else (l4_2_k9 s103 b2))) && decide ((if (7) < (l4_2_k9 s103 b2) then (7) else (l4_2_k9 s103 b2)) ≤ (l4_2_k9 s103 b2))) = true then
      if decide ((0 + (Int.toNat s103)) < (List.length (l4_2_k1 s103 b2))) = true then
      if decide ((0 + (Int.toNat s103)) < (List.length (l4_2_k2 s103 b2))) = true then
      if s15 = true then
        if decide ((0 + (Int.toNat s103)) < (l4_2_k11 s103 b2)) = true then
        if rightPre (l4_2_k4 s103 b2).1 = true then
        if (rightG (l4_2_k4 s103 b2).1) = true then
          if rightPre (l4_2_k4 s103 b2).2.1 = true then
          if (rightG (l4_2_k4 s103 b2).2.1) = true then
            if (Option.isSome (l4_3 m (m + 24) x3 x4 s102 s103 b0 b1 (decide ((l4_2_k6 s103 b2) ≤ 6)) ((l4_2_k4 s103 b2).2.2) ((l4_2_k6 s103 b2)) 0 ((l4_2_k3 s103 b2)))) = true then
            l4_2 m n x3 x4 ((l4_3R m (m + 24) x3 x4 s102 s103 b0 b1 (decide ((l4_2_k6 s103 b2) ≤ 6)) ((l4_2_k4 s103 b2).2.2) ((l4_2_k6 s103 b2)) 0 ((l4_2_k3 s103 b2))).2.1) s102 (l4_2_k12 s103) b0 b1 (((l4_2_k3 s103 b2)))
            else none
          else
            if (Option.isSome (l4_3 m (m + 24) x3 x4 s102 s103 b0 b1 false ((l4_2_k4 s103 b2).2.2) ((l4_2_k6 s103 b2)) 0 ((l4_2_k3 s103 b2)))) = true then
            l4_2 m n x3 x4 ((l4_2_k7 x3 x4 s102 s103 b0 b1 b2 m).2.1) s102 (l4_2_k12 s103) b0 b1 (((l4_2_k3 s103 b2)))
            else none
          else none
        else
          if (Option.isSome (l4_3 m (m + 24) x3 x4 s102 s103 b0 b1 false ((l4_2_k4 s103 b2).2.2) ((l4_2_k6 s103 b2)) 0 ((l4_2_k3 s103 b2)))) = true then
          l4_2 m n x3 x4 ((l4_2_k7 x3 x4 s102 s103 b0 b1 b2 m).2.1) s102 (l4_2_k12 s103) b0 b1 (((l4_2_k3 s103 b2)))
          else none
        else none
        else none
      else
        if decide ((0 + (Int.toNat s103)) < (l4_2_k11 s103 b2)) = true then
        if (Option.isSome (l4_3 m (m + 24) x3 x4 s102 s103 b0 b1 false ((l4_2_k4 s103 b2).2.2) ((l4_2_k6 s103 b2)) 0 ((l4_2_k3 s103 b2)))) = true then
        l4_2 m n x3 x4 ((l4_2_k7 x3 x4 s102 s103 b0 b1 b2 m).2.1) s102 (l4_2_k12 s103) b0 b1 (((l4_2_k3 s103 b2)))
        else none
        else none
      else none
      else none
      else none
      else none
      else none
      else none
      else none
      else none
    else
      some (0, s15, s103, b2)
def l4_2D : Nat × Bool × Int × (Q0) := (0, false, 0, [])
@[reducible] def l4_2R (m n : Nat) (x3 : Int) (x4 : Int) (s15 : Bool) (s102 : Int) (s103 : Int) (b0 : Q3) (b1 : Q2) (b2 : Q0) : Nat × Bool × Int × (Q0) := Option.getD (l4_2 m n x3 x4 s15 s102 s103 b0 b1 b2) l4_2D
def l4_2H (x3 : Int) (x4 : Int) (s15 : Bool) (s102 : Int) (s103 : Int) (b0 : Q3) (b1 : Q2) (b2 : Q0) : Env := (.top :: .top :: .top :: (.d (.int .i64 x3)) :: (.d (.int .i64 x4)) :: .top :: .top :: .top :: .top :: .top :: .top :: (.sr 0 0 (List.length b0) 1 none) :: .top :: (.sr 1 0 (List.length b1) 3 none) :: (.sr 2 0 (List.length b2) 3 none) :: (.d (.bool (s15))) :: tp86 ((.d (.int .i64 s102)) :: (.d (.int .i64 s103)) :: tp193 []))
def l4_2B (x3 : Int) (x4 : Int) (s15 : Bool) (s102 : Int) (s103 : Int) (b0 : Q3) (b1 : Q2) (b2 : Q0) : Boxes := [(.arr (.sl (.pair .str .str)) b0 true), (.arr (.pair (.sl (.pair .str (.pair .str (.int .i64)))) (.pair (.int .i64) (.int .i64))) b1 true), (.arr (.pair (.sl (.pair .str (.pair .str (.int .i64)))) (.pair (.sl (.pair .str (.pair .str (.int .i64)))) (.sl .str))) b2 true)]
def l4_2E (x3 : Int) (x4 : Int) (s15 : Bool) (s102 : Int) (s103 : Int) (b0 : Q3) (b1 : Q2) (b2 : Q0) : Nat → AEx × Env × Boxes
  | _ => (.exit 4, (.top :: .top :: .top :: (.d (.int .i64 x3)) :: (.d (.int .i64 x4)) :: .top :: .top :: .top :: .top :: .top :: .top :: (.sr 0 0 (List.length b0) 1 none) :: .top :: (.sr 1 0 (List.length b1) 3 none) :: (.sr 2 0 (List.length b2) 3 none) :: (.d (.bool (s15))) :: tp86 ((.d (.int .i64 s102)) :: (.d (.int .i64 s103)) :: (.d (.bool (decide (s103 < s102)))) :: tp192 [])), [(.arr (.sl (.pair .str .str)) b0 true), (.arr (.pair (.sl (.pair .str (.pair .str (.int .i64)))) (.pair (.int .i64) (.int .i64))) b1 true), (.arr (.pair (.sl (.pair .str (.pair .str (.int .i64)))) (.pair (.sl (.pair .str (.pair .str (.int .i64)))) (.sl .str))) b2 true)])
noncomputable def lbl4_2 : AC := loopBody 15211807202738752817960438523928 body4
@[reducible] noncomputable def cb28 (m : Nat) := (evC byref (evCall F S28 (m + 24)) (m + 24) 0 (hds 4) lbl4_2)


theorem l4_2_step (m n : Nat) (ih : ∀ (x3 : Int) (x4 : Int) (s15 : Bool) (s102 : Int) (s103 : Int) (b0 : Q3) (b1 : Q2) (b2 : Q0) (q : Nat × Bool × Int × (Q0)), l4_2 m n x3 x4 s15 s102 s103 b0 b1 b2 = some q → (turns (hds 4 15211807202738752817960438523928) 0 15211807202738752817960438523928 (cb28 m) n (l4_2H x3 x4 s15 s102 s103 b0 b1 b2) (l4_2B x3 x4 s15 s102 s103 b0 b1 b2)).run = some (l4_2E (x3) (x4) (q.2.1) (s102) (q.2.2.1) (b0) (b1) (q.2.2.2) q.1)) (x3 : Int) (x4 : Int) (s15 : Bool) (s102 : Int) (s103 : Int) (b0 : Q3) (b1 : Q2) (b2 : Q0) (q : Nat × Bool × Int × (Q0)) (h : l4_2 m (n + 1) x3 x4 s15 s102 s103 b0 b1 b2 = some q) : (turns (hds 4 15211807202738752817960438523928) 0 15211807202738752817960438523928 (cb28 m) (n + 1) (l4_2H x3 x4 s15 s102 s103 b0 b1 b2) (l4_2B x3 x4 s15 s102 s103 b0 b1 b2)).run = some (l4_2E (x3) (x4) (q.2.1) (s102) (q.2.2.1) (b0) (b1) (q.2.2.2) q.1) := by
  rw [l4_2] at h
  refine ite_cases h (fun c0 h => ?_) (fun c0 h => ?_)
  · skip
    obtain ⟨c1, h⟩ := iY h
    obtain ⟨c2, h⟩ := iY h
    obtain ⟨c3, h⟩ := iY h
    obtain ⟨c7, h⟩ := iY h
    obtain ⟨c14, h⟩ := iY h
    obtain ⟨c21, h⟩ := iY h
    obtain ⟨c27, h⟩ := iY h
    obtain ⟨c30, h⟩ := iY h
    refine ite_cases h (fun c31 h => ?_) (fun c31 h => ?_)
    · skip
      obtain ⟨c38, h⟩ := iY h
      obtain ⟨c40, h⟩ := iY h
      refine ite_cases h (fun c42 h => ?_) (fun c42 h => ?_)
      · skip
        obtain ⟨c51, h⟩ := iY h
        refine ite_cases h (fun c53 h => ?_) (fun c53 h => ?_)
        · skip
          obtain ⟨c67, h⟩ := iY h
          have ih := ih _ _ _ _ _ _ _ _ q h
          refine turns_step ?_ ih
          refine turnT_ok (LS := (fun k => if k = 1373116004615836417089078951538484231261143071436946073624 then some (l4_3E x3 x4 s102 s103 b0 b1 ((l4_3R m (m + 24) x3 x4 s102 s103 b0 b1 (decide ((l4_2_k6 s103 b2) ≤ 6)) ((l4_2_k4 s103 b2).2.2) ((l4_2_k6 s103 b2)) 0 ((l4_2_k3 s103 b2))).2.1) (((l4_2_k4 s103 b2).2.2)) (((l4_2_k6 s103 b2))) ((l4_3R m (m + 24) x3 x4 s102 s103 b0 b1 (decide ((l4_2_k6 s103 b2) ≤ 6)) ((l4_2_k4 s103 b2).2.2) ((l4_2_k6 s103 b2)) 0 ((l4_2_k3 s103 b2))).2.2) (((l4_2_k3 s103 b2))) 0) else none)) (vis := [(1373116004615836417089078951538484231261143071436946073624, (.top :: .top :: .top :: (.d (.int .i64 x3)) :: (.d (.int .i64 x4)) :: .top :: .top :: .top :: .top :: .top :: .top :: (.sr 0 0 (List.length b0) 1 none) :: .top :: (.sr 1 0 (List.length b1) 3 none) :: (.sr 2 0 (List.length b2) 3 none) :: (.d (.bool (decide ((l4_2_k6 s103 b2) ≤ 6)))) :: tp86 ((.d (.int .i64 s102)) :: (.d (.int .i64 s103)) :: tp83 ((.d (.sl .str (l4_2_k4 s103 b2).2.2)) :: (.d (.int .i64 (l4_2_k6 s103 b2))) :: (.d (.int .i64 (0))) :: tp107 []))), [(.arr (.sl (.pair .str .str)) b0 true), (.arr (.pair (.sl (.pair .str (.pair .str (.int .i64)))) (.pair (.int .i64) (.int .i64))) b1 true), (.arr (.pair (.sl (.pair .str (.pair .str (.int .i64)))) (.pair (.sl (.pair .str (.pair .str (.int .i64)))) (.sl .str))) (l4_2_k3 s103 b2) true)])]) (by kernel_rfl) (M.run_of_path _ [tT, tT, tT, tT, tT, tT, tT, tT, tT, tT, tT, tT, tT, tT, tT, tT, tT, tT, tT, tT, tT, tT, tT, tT, tT, tT, tT, tT, tT, tT, tT, tT, tT, tT, tT, tT, tT, tT, tT, tT, tT, tT, tT, tT, tT, tT, tT, tT, tT, tT, tT, tT, tT, tT, tT, tT, tT, tT, tT, tT, tT, tT, tT, tT, tT, tT, tT] _ _ (by kernel_rfl) (all_t c0 (all_t c1 (all_t c2 (all_t c3 (all_t c1 (all_t c2 (all_t c3 (all_t c7 (all_t c1 (all_t c2 (all_t c3 (all_t c1 (all_t c2 (all_t c3 (all_t c14 (all_t c1 (all_t c2 (all_t c3 (all_t c1 (all_t c2 (all_t c3 (all_t c21 (all_t c1 (all_t c2 (all_t c3 (all_t c1 (all_t c2 (all_t c27 (all_t c1 (all_t c2 (all_t c30 (all_t c31 (all_t c31 (all_t c31 (all_t c1 (all_t c2 (all_t c31 (all_t c31 (all_t c38 (all_t c31 (all_t c40 (all_t c31 (all_t c42 (all_t c42 (all_t c42 (all_t c1 (all_t c2 (all_t c42 (all_t c42 (all_t c38 (all_t c42 (all_t c51 (all_t c42 (all_t c53 (all_t c53 (all_t c53 (all_t c1 (all_t c2 (all_t c53 (all_t c53 (all_t c38 (all_t c53 (all_t c53 (all_t c53 (all_t c1 (all_t c2 (all_t c38 all_nil)))))))))))))))))))))))))))))))))))))))))))))))))))))))))))))))))))) ?_
          intro p hp p2 hq
          rcases List.mem_cons.1 hp with rfl | hp
          · skip
            have h3 := l4_3_ok m (m + 24) x3 x4 s102 s103 b0 b1 (decide ((l4_2_k6 s103 b2) ≤ 6)) ((l4_2_k4 s103 b2).2.2) ((l4_2_k6 s103 b2)) 0 ((l4_2_k3 s103 b2)) _ (some_getD (d := l4_3D) c67)
            have h3 := turns_eq (e := (.top :: .top :: .top :: (.d (.int .i64 x3)) :: (.d (.int .i64 x4)) :: .top :: .top :: .top :: .top :: .top :: .top :: (.sr 0 0 (List.length b0) 1 none) :: .top :: (.sr 1 0 (List.length b1) 3 none) :: (.sr 2 0 (List.length b2) 3 none) :: (.d (.bool (decide ((l4_2_k6 s103 b2) ≤ 6)))) :: tp86 ((.d (.int .i64 s102)) :: (.d (.int .i64 s103)) :: tp83 ((.d (.sl .str (l4_2_k4 s103 b2).2.2)) :: (.d (.int .i64 (l4_2_k6 s103 b2))) :: (.d (.int .i64 (0))) :: tp107 [])))) (B := [(.arr (.sl (.pair .str .str)) b0 true), (.arr (.pair (.sl (.pair .str (.pair .str (.int .i64)))) (.pair (.int .i64) (.int .i64))) b1 true), (.arr (.pair (.sl (.pair .str (.pair .str (.int .i64)))) (.pair (.sl (.pair .str (.pair .str (.int .i64)))) (.sl .str))) (l4_2_k3 s103 b2) true)]) (by unfold l4_3H; first | (simp only [l4_2_k1, l4_2_k2, l4_2_k3, l4_2_k4, l4_2_k5, l4_2_k6, l4_2_k7, l4_2_k8, l4_2_k9, l4_2_k10, l4_2_k11, l4_2_k12, List.length_set]; done) | ((try rw [show (l4_2_k11 s103 b2) = (List.length b2) from by simp]); (try simp only [Nat.zero_add, List.length_nil]))) rfl h3
            exact Eq.trans (Eq.mp (by kernel_rfl) h3) hq
          cases hp
        · skip
          obtain ⟨c64, h⟩ := iY h
          have ih := ih _ _ _ _ _ _ _ _ q h
          refine turns_step ?_ ih
          refine turnT_ok (LS := (fun k => if k = 1373116004615836417089078951538484231261143071436946073624 then some (l4_3E x3 x4 s102 s103 b0 b1 ((l4_2_k7 x3 x4 s102 s103 b0 b1 b2 m).2.1) (((l4_2_k4 s103 b2).2.2)) (((l4_2_k6 s103 b2))) ((l4_2_k7 x3 x4 s102 s103 b0 b1 b2 m).2.2) (((l4_2_k3 s103 b2))) 0) else none)) (vis := [(1373116004615836417089078951538484231261143071436946073624, (.top :: .top :: .top :: (.d (.int .i64 x3)) :: (.d (.int .i64 x4)) :: .top :: .top :: .top :: .top :: .top :: .top :: (.sr 0 0 (List.length b0) 1 none) :: .top :: (.sr 1 0 (List.length b1) 3 none) :: (.sr 2 0 (List.length b2) 3 none) :: (.d (.bool false)) :: tp86 ((.d (.int .i64 s102)) :: (.d (.int .i64 s103)) :: tp83 ((.d (.sl .str (l4_2_k4 s103 b2).2.2)) :: (.d (.int .i64 (l4_2_k6 s103 b2))) :: (.d (.int .i64 (0))) :: tp107 []))), [(.arr (.sl (.pair .str .str)) b0 true), (.arr (.pair (.sl (.pair .str (.pair .str (.int .i64)))) (.pair (.int .i64) (.int .i64))) b1 true), (.arr (.pair (.sl (.pair .str (.pair .str (.int .i64)))) (.pair (.sl (.pair .str (.pair .str (.int .i64)))) (.sl .str))) (l4_2_k3 s103 b2) true)])]) (by kernel_rfl) (M.run_of_path _ [tT, tT, tT, tT, tT, tT, tT, tT, tT, tT, tT, tT, tT, tT, tT, tT, tT, tT, tT, tT, tT, tT, tT, tT, tT, tT, tT, tT, tT, tT, tT, tT, tT, tT, tT, tT, tT, tT, tT, tT, tT, tT, tT, tT, tT, tT, tT, tT, tT, tT, tT, tT, tT, fF, fF, fF, fF, fF, fF, fF, fF, tT, tT, tT] _ _ (by kernel_rfl) (all_t c0 (all_t c1 (all_t c2 (all_t c3 (all_t c1 (all_t c2 (all_t c3 (all_t c7 (all_t c1 (all_t c2 (all_t c3 (all_t c1 (all_t c2 (all_t c3 (all_t c14 (all_t c1 (all_t c2 (all_t c3 (all_t c1 (all_t c2 (all_t c3 (all_t c21 (all_t c1 (all_t c2 (all_t c3 (all_t c1 (all_t c2 (all_t c27 (all_t c1 (all_t c2 (all_t c30 (all_t c31 (all_t c31 (all_t c31 (all_t c1 (all_t c2 (all_t c31 (all_t c31 (all_t c38 (all_t c31 (all_t c40 (all_t c31 (all_t c42 (all_t c42 (all_t c42 (all_t c1 (all_t c2 (all_t c42 (all_t c42 (all_t c38 (all_t c42 (all_t c51 (all_t c42 (all_f c53 (all_f c53 (all_f c53 (all_f c53 (all_f c53 (all_f c53 (all_f c53 (all_f c53 (all_t c1 (all_t c2 (all_t c38 all_nil))))))))))))))))))))))))))))))))))))))))))))))))))))))))))))))))) ?_
          intro p hp p2 hq
          rcases List.mem_cons.1 hp with rfl | hp
          · skip
            have h3 := l4_3_ok m (m + 24) x3 x4 s102 s103 b0 b1 false ((l4_2_k4 s103 b2).2.2) ((l4_2_k6 s103 b2)) 0 ((l4_2_k3 s103 b2)) _ (some_getD (d := l4_3D) c64)
            have h3 := turns_eq (e := (.top :: .top :: .top :: (.d (.int .i64 x3)) :: (.d (.int .i64 x4)) :: .top :: .top :: .top :: .top :: .top :: .top :: (.sr 0 0 (List.length b0) 1 none) :: .top :: (.sr 1 0 (List.length b1) 3 none) :: (.sr 2 0 (List.length b2) 3 none) :: (.d (.bool false)) :: tp86 ((.d (.int .i64 s102)) :: (.d (.int .i64 s103)) :: tp83 ((.d (.sl .str (l4_2_k4 s103 b2).2.2)) :: (.d (.int .i64 (l4_2_k6 s103 b2))) :: (.d (.int .i64 (0))) :: tp107 [])))) (B := [(.arr (.sl (.pair .str .str)) b0 true), (.arr (.pair (.sl (.pair .str (.pair .str (.int .i64)))) (.pair (.int .i64) (.int .i64))) b1 true), (.arr (.pair (.sl (.pair .str (.pair .str (.int .i64)))) (.pair (.sl (.pair .str (.pair .str (.int .i64)))) (.sl .str))) (l4_2_k3 s103 b2) true)]) (by unfold l4_3H; first | (simp only [l4_2_k1, l4_2_k2, l4_2_k3, l4_2_k4, l4_2_k5, l4_2_k6, l4_2_k7, l4_2_k8, l4_2_k9, l4_2_k10, l4_2_k11, l4_2_k12, List.length_set]; done) | ((try rw [show (l4_2_k11 s103 b2) = (List.length b2) from by simp]); (try simp only [Nat.zero_add, List.length_nil]))) rfl h3
            exact Eq.trans (Eq.mp (by kernel_rfl) h3) hq
          cases hp
      · skip
        obtain ⟨c60, h⟩ := iY h
        have ih := ih _ _ _ _ _ _ _ _ q h
        refine turns_step ?_ ih
        refine turnT_ok (LS := (fun k => if k = 1373116004615836417089078951538484231261143071436946073624 then some (l4_3E x3 x4 s102 s103 b0 b1 ((l4_2_k7 x3 x4 s102 s103 b0 b1 b2 m).2.1) (((l4_2_k4 s103 b2).2.2)) (((l4_2_k6 s103 b2))) ((l4_2_k7 x3 x4 s102 s103 b0 b1 b2 m).2.2) (((l4_2_k3 s103 b2))) 0) else none)) (vis := [(1373116004615836417089078951538484231261143071436946073624, (.top :: .top :: .top :: (.d (.int .i64 x3)) :: (.d (.int .i64 x4)) :: .top :: .top :: .top :: .top :: .top :: .top :: (.sr 0 0 (List.length b0) 1 none) :: .top :: (.sr 1 0 (List.length b1) 3 none) :: (.sr 2 0 (List.length b2) 3 none) :: (.d (.bool false)) :: tp86 ((.d (.int .i64 s102)) :: (.d (.int .i64 s103)) :: tp83 ((.d (.sl .str (l4_2_k4 s103 b2).2.2)) :: (.d (.int .i64 (l4_2_k6 s103 b2))) :: (.d (.int .i64 (0))) :: tp107 []))), [(.arr (.sl (.pair .str .str)) b0 true), (.arr (.pair (.sl (.pair .str (.pair .str (.int .i64)))) (.pair (.int .i64) (.int .i64))) b1 true), (.arr (.pair (.sl (.pair .str (.pair .str (.int .i64)))) (.pair (.sl (.pair .str (.pair .str (.int .i64)))) (.sl .str))) (l4_2_k3 s103 b2) true)])]) (by kernel_rfl) (M.run_of_path _ [tT, tT, tT, tT, tT, tT, tT, tT, tT, tT, tT, tT, tT, tT, tT, tT, tT, tT, tT, tT, tT, tT, tT, tT, tT, tT, tT, tT, tT, tT, tT, tT, tT, tT, tT, tT, tT, tT, tT, tT, tT, tT, fF, fF, fF, fF, fF, fF, fF, fF, fF, fF, fF, fF, fF, fF, fF, tT, tT, tT] _ _ (by kernel_rfl) (all_t c0 (all_t c1 (all_t c2 (all_t c3 (all_t c1 (all_t c2 (all_t c3 (all_t c7 (all_t c1 (all_t c2 (all_t c3 (all_t c1 (all_t c2 (all_t c3 (all_t c14 (all_t c1 (all_t c2 (all_t c3 (all_t c1 (all_t c2 (all_t c3 (all_t c21 (all_t c1 (all_t c2 (all_t c3 (all_t c1 (all_t c2 (all_t c27 (all_t c1 (all_t c2 (all_t c30 (all_t c31 (all_t c31 (all_t c31 (all_t c1 (all_t c2 (all_t c31 (all_t c31 (all_t c38 (all_t c31 (all_t c40 (all_t c31 (all_f c42 (all_f c42 (all_f c42 (all_f c42 (all_f c42 (all_f c42 (all_f c42 (all_f Bool.false_ne_true (all_f Bool.false_ne_true (all_f Bool.false_ne_true (all_f Bool.false_ne_true (all_f Bool.false_ne_true (all_f Bool.false_ne_true (all_f Bool.false_ne_true (all_f Bool.false_ne_true (all_t c1 (all_t c2 (all_t c38 all_nil))))))))))))))))))))))))))))))))))))))))))))))))))))))))))))) ?_
        intro p hp p2 hq
        rcases List.mem_cons.1 hp with rfl | hp
        · skip
          have h3 := l4_3_ok m (m + 24) x3 x4 s102 s103 b0 b1 false ((l4_2_k4 s103 b2).2.2) ((l4_2_k6 s103 b2)) 0 ((l4_2_k3 s103 b2)) _ (some_getD (d := l4_3D) c60)
          have h3 := turns_eq (e := (.top :: .top :: .top :: (.d (.int .i64 x3)) :: (.d (.int .i64 x4)) :: .top :: .top :: .top :: .top :: .top :: .top :: (.sr 0 0 (List.length b0) 1 none) :: .top :: (.sr 1 0 (List.length b1) 3 none) :: (.sr 2 0 (List.length b2) 3 none) :: (.d (.bool false)) :: tp86 ((.d (.int .i64 s102)) :: (.d (.int .i64 s103)) :: tp83 ((.d (.sl .str (l4_2_k4 s103 b2).2.2)) :: (.d (.int .i64 (l4_2_k6 s103 b2))) :: (.d (.int .i64 (0))) :: tp107 [])))) (B := [(.arr (.sl (.pair .str .str)) b0 true), (.arr (.pair (.sl (.pair .str (.pair .str (.int .i64)))) (.pair (.int .i64) (.int .i64))) b1 true), (.arr (.pair (.sl (.pair .str (.pair .str (.int .i64)))) (.pair (.sl (.pair .str (.pair .str (.int .i64)))) (.sl .str))) (l4_2_k3 s103 b2) true)]) (by unfold l4_3H; first | (simp only [l4_2_k1, l4_2_k2, l4_2_k3, l4_2_k4, l4_2_k5, l4_2_k6, l4_2_k7, l4_2_k8, l4_2_k9, l4_2_k10, l4_2_k11, l4_2_k12, List.length_set]; done) | ((try rw [show (l4_2_k11 s103 b2) = (List.length b2) from by simp]); (try simp only [Nat.zero_add, List.length_nil]))) rfl h3
          exact Eq.trans (Eq.mp (by kernel_rfl) h3) hq
        cases hp
    · skip
      obtain ⟨c55, h⟩ := iY h
      obtain ⟨c56, h⟩ := iY h
      have ih := ih _ _ _ _ _ _ _ _ q h
      refine turns_step ?_ ih
      refine turnT_ok (LS := (fun k => if k = 1373116004615836417089078951538484231261143071436946073624 then some (l4_3E x3 x4 s102 s103 b0 b1 ((l4_2_k7 x3 x4 s102 s103 b0 b1 b2 m).2.1) (((l4_2_k4 s103 b2).2.2)) (((l4_2_k6 s103 b2))) ((l4_2_k7 x3 x4 s102 s103 b0 b1 b2 m).2.2) (((l4_2_k3 s103 b2))) 0) else none)) (vis := [(1373116004615836417089078951538484231261143071436946073624, (.top :: .top :: .top :: (.d (.int .i64 x3)) :: (.d (.int .i64 x4)) :: .top :: .top :: .top :: .top :: .top :: .top :: (.sr 0 0 (List.length b0) 1 none) :: .top :: (.sr 1 0 (List.length b1) 3 none) :: (.sr 2 0 (List.length b2) 3 none) :: (.d (.bool false)) :: tp86 ((.d (.int .i64 s102)) :: (.d (.int .i64 s103)) :: tp83 ((.d (.sl .str (l4_2_k4 s103 b2).2.2)) :: (.d (.int .i64 (l4_2_k6 s103 b2))) :: (.d (.int .i64 (0))) :: tp107 []))), [(.arr (.sl (.pair .str .str)) b0 true), (.arr (.pair (.sl (.pair .str (.pair .str (.int .i64)))) (.pair (.int .i64) (.int .i64))) b1 true), (.arr (.pair (.sl (.pair .str (.pair .str (.int .i64)))) (.pair (.sl (.pair .str (.pair .str (.int .i64)))) (.sl .str))) (l4_2_k3 s103 b2) true)])]) (by kernel_rfl) (M.run_of_path _ [tT, tT, tT, tT, tT, tT, tT, tT, tT, tT, tT, tT, tT, tT, tT, tT, tT, tT, tT, tT, tT, tT, tT, tT, tT, tT, tT, tT, tT, tT, tT, fF, fF, fF, fF, fF, fF, fF, fF, fF, fF, fF, fF, fF, fF, fF, fF, fF, fF, fF, fF, fF, fF, tT, tT, tT] _ _ (by kernel_rfl) (all_t c0 (all_t c1 (all_t c2 (all_t c3 (all_t c1 (all_t c2 (all_t c3 (all_t c7 (all_t c1 (all_t c2 (all_t c3 (all_t c1 (all_t c2 (all_t c3 (all_t c14 (all_t c1 (all_t c2 (all_t c3 (all_t c1 (all_t c2 (all_t c3 (all_t c21 (all_t c1 (all_t c2 (all_t c3 (all_t c1 (all_t c2 (all_t c27 (all_t c1 (all_t c2 (all_t c30 (all_f c31 (all_f c31 (all_f c31 (all_f c31 (all_f c31 (all_f c31 (all_f c31 (all_f Bool.false_ne_true (all_f Bool.false_ne_true (all_f Bool.false_ne_true (all_f Bool.false_ne_true (all_f Bool.false_ne_true (all_f Bool.false_ne_true (all_f Bool.false_ne_true (all_f Bool.false_ne_true (all_f Bool.false_ne_true (all_f Bool.false_ne_true (all_f Bool.false_ne_true (all_f Bool.false_ne_true (all_f Bool.false_ne_true (all_f Bool.false_ne_true (all_f Bool.false_ne_true (all_t c1 (all_t c2 (all_t c55 all_nil))))))))))))))))))))))))))))))))))))))))))))))))))))))))) ?_
      intro p hp p2 hq
      rcases List.mem_cons.1 hp with rfl | hp
      · skip
        have h3 := l4_3_ok m (m + 24) x3 x4 s102 s103 b0 b1 false ((l4_2_k4 s103 b2).2.2) ((l4_2_k6 s103 b2)) 0 ((l4_2_k3 s103 b2)) _ (some_getD (d := l4_3D) c56)
        have h3 := turns_eq (e := (.top :: .top :: .top :: (.d (.int .i64 x3)) :: (.d (.int .i64 x4)) :: .top :: .top :: .top :: .top :: .top :: .top :: (.sr 0 0 (List.length b0) 1 none) :: .top :: (.sr 1 0 (List.length b1) 3 none) :: (.sr 2 0 (List.length b2) 3 none) :: (.d (.bool false)) :: tp86 ((.d (.int .i64 s102)) :: (.d (.int .i64 s103)) :: tp83 ((.d (.sl .str (l4_2_k4 s103 b2).2.2)) :: (.d (.int .i64 (l4_2_k6 s103 b2))) :: (.d (.int .i64 (0))) :: tp107 [])))) (B := [(.arr (.sl (.pair .str .str)) b0 true), (.arr (.pair (.sl (.pair .str (.pair .str (.int .i64)))) (.pair (.int .i64) (.int .i64))) b1 true), (.arr (.pair (.sl (.pair .str (.pair .str (.int .i64)))) (.pair (.sl (.pair .str (.pair .str (.int .i64)))) (.sl .str))) (l4_2_k3 s103 b2) true)]) (by unfold l4_3H; first | (simp only [l4_2_k1, l4_2_k2, l4_2_k3, l4_2_k4, l4_2_k5, l4_2_k6, l4_2_k7, l4_2_k8, l4_2_k9, l4_2_k10, l4_2_k11, l4_2_k12, List.length_set]; done) | ((try rw [show (l4_2_k11 s103 b2) = (List.length b2) from by simp]); (try simp only [Nat.zero_add, List.length_nil]))) rfl h3
        exact Eq.trans (Eq.mp (by kernel_rfl) h3) hq
      cases hp
  · skip
    cases h
    refine turns_last (by simp) ?_
    exact M.run_of_path _ [fF] _ _ (by kernel_rfl) (all_f c0 all_nil)
theorem l4_2_ok (m : Nat) : ∀ (n : Nat) (x3 : Int) (x4 : Int) (s15 : Bool) (s102 : Int) (s103 : Int) (b0 : Q3) (b1 : Q2) (b2 : Q0) (q : Nat × Bool × Int × (Q0)), l4_2 m n x3 x4 s15 s102 s103 b0 b1 b2 = some q → (turns (hds 4 15211807202738752817960438523928) 0 15211807202738752817960438523928 (cb28 m) n (l4_2H x3 x4 s15 s102 s103 b0 b1 b2) (l4_2B x3 x4 s15 s102 s103 b0 b1 b2)).run = some (l4_2E (x3) (x4) (q.2.1) (s102) (q.2.2.1) (b0) (b1) (q.2.2.2) q.1)
  | 0, x3, x4, s15, s102, s103, b0, b1, b2, q, h => by cases h
  | n + 1, x3, x4, s15, s102, s103, b0, b1, b2, q, h => l4_2_step m n (l4_2_ok m n) x3 x4 s15 s102 s103 b0 b1 b2 q h

def l4_4 (m : Nat) : Nat → Int → Int → Bool → Int → Int → Q3 → Q2 → Q0 → Q3 → Option (Nat × Int × (Q3))
  | 0, _, _, _, _, _, _, _, _, _ => none
  | n + 1, x3, x4, s15, s203, s204, b0, b1, b2, b3 => if decide (s204 < s203) = true then
      if decide (0 ≤ s204) = true then
      if decide (s204 < (((List.length b0) : Nat) : Int)) = true then
      if decide ((0 + (Int.toNat s204)) < (List.length b0)) = true then
      if silPre (List.getD b0 (0 + (Int.toNat s204)) ([] : Q5)) (List.take (List.length b1) (List.drop 0 b1)) = true then
      if mutedPre (List.take (List.length b0) (List.drop 0 b0)) s204 (List.take (List.length b1) (List.drop 0 b1)) ([] : Q0) = true then
      if ((silG (List.getD b0 (0 + (Int.toNat s204)) ([] : Q5)) x3 (List.take (List.length b1) (List.drop 0 b1))) == (mutedG (List.take (List.length b0) (List.drop 0 b0)) s204 x3 (List.take (List.length b1) (List.drop 0 b1)) ([] : Q0))) = true then
      if inhPre (List.take (List.length b0) (List.drop 0 b0)) (List.take (List.length b2) (List.drop 0 b2)) = true then
      if mutedPre (List.take (List.length b0) (List.drop 0 b0)) s204 ([] : Q2) (List.take (List.length b2) (List.drop 0 b2)) = true then
      if ((inhG (List.take (List.length b0) (List.drop 0 b0)) s204 (List.take (List.length b2) (List.drop 0 b2))) == (mutedG (List.take (List.length b0) (List.drop 0 b0)) s204 x3 ([] : Q2) (List.take (List.length b2) (List.drop 0 b2)))) = true then
      if mutedPre (List.take (List.length b0) (List.drop 0 b0)) s204 (List.take (List.length b1) (List.drop 0 b1)) (List.take (List.length b2) (List.drop 0 b2)) = true then
      if (mutedG (List.take (List.length b0) (List.drop 0 b0)) s204 x3 (List.take (List.length b1) (List.drop 0 b1)) (List.take (List.length b2) (List.drop 0 b2))) = true then
        l4_4 m n x3 x4 s15 s203 ((IntKind.wrap .i64 (s204 + (1)))) b0 b1 b2 b3
      else
        if decide ((((List.length b3) + 1) * 24) ≤ 70368744177664) = true then
        l4_4 m n x3 x4 s15 s203 ((IntKind.wrap .i64 (s204 + (1)))) b0 b1 b2 ((b3 ++ [(List.getD b0 (0 + (Int.toNat s204)) ([] : Q5))]))
        else none
      else none
      else none
      else none
      else none
      else none
      else none
      else none
      else none
      else none
      else none
    else
      some (0, s204, b3)
def l4_4D : Nat × Int × (Q3) := (0, 0, [])
@[reducible] def l4_4R (m n : Nat) (x3 : Int) (x4 : Int) (s15 : Bool) (s203 : Int) (s204 : Int) (b0 : Q3) (b1 : Q2) (b2 : Q0) (b3 : Q3) : Nat × Int × (Q3) := Option.getD (l4_4 m n x3 x4 s15 s203 s204 b0 b1 b2 b3) l4_4D
def l4_4H (x3 : Int) (x4 : Int) (s15 : Bool) (s203 : Int) (s204 : Int) (b0 : Q3) (b1 : Q2) (b2 : Q0) (b3 : Q3) : Env := (.top :: .top :: .top :: (.d (.int .i64 x3)) :: (.d (.int .i64 x4)) :: .top :: .top :: .top :: .top :: .top :: .top :: (.sr 0 0 (List.length b0) 1 none) :: .top :: (.sr 1 0 (List.length b1) 3 none) :: (.sr 2 0 (List.length b2) 3 none) :: (.d (.bool (s15))) :: .top :: .top :: .top :: .top :: (.sr 3 0 (List.length b3) 1 none) :: tp182 ((.d (.int .i64 s203)) :: (.d (.int .i64 s204)) :: tp92 []))
def l4_4B (x3 : Int) (x4 : Int) (s15 : Bool) (s203 : Int) (s204 : Int) (b0 : Q3) (b1 : Q2) (b2 : Q0) (b3 : Q3) : Boxes := [(.arr (.sl (.pair .str .str)) b0 true), (.arr (.pair (.sl (.pair .str (.pair .str (.int .i64)))) (.pair (.int .i64) (.int .i64))) b1 true), (.arr (.pair (.sl (.pair .str (.pair .str (.int .i64)))) (.pair (.sl (.pair .str (.pair .str (.int .i64)))) (.sl .str))) b2 true), (.arr (.sl (.pair .str .str)) b3 true)]
def l4_4E (x3 : Int) (x4 : Int) (s15 : Bool) (s203 : Int) (s204 : Int) (b0 : Q3) (b1 : Q2) (b2 : Q0) (b3 : Q3) : Nat → AEx × Env × Boxes
  | _ => (.exit 8, (.top :: .top :: .top :: (.d (.int .i64 x3)) :: (.d (.int .i64 x4)) :: .top :: .top :: .top :: .top :: .top :: .top :: (.sr 0 0 (List.length b0) 1 none) :: .top :: (.sr 1 0 (List.length b1) 3 none) :: (.sr 2 0 (List.length b2) 3 none) :: (.d (.bool (s15))) :: .top :: .top :: .top :: .top :: (.sr 3 0 (List.length b3) 1 none) :: tp182 ((.d (.int .i64 s203)) :: (.d (.int .i64 s204)) :: (.d (.bool (decide (s204 < s203)))) :: tp91 [])), [(.arr (.sl (.pair .str .str)) b0 true), (.arr (.pair (.sl (.pair .str (.pair .str (.int .i64)))) (.pair (.int .i64) (.int .i64))) b1 true), (.arr (.pair (.sl (.pair .str (.pair .str (.int .i64)))) (.pair (.sl (.pair .str (.pair .str (.int .i64)))) (.sl .str))) b2 true), (.arr (.sl (.pair .str .str)) b3 true)])
noncomputable def lbl4_4 : AC := loopBody 38566513062215766613007090216187902460532871850787028048341016 body4
@[reducible] noncomputable def cb29 (m : Nat) := (evC byref (evCall F S28 (m + 24)) (m + 24) 0 (hds 4) lbl4_4)


theorem l4_4_step (m n : Nat) (ih : ∀ (x3 : Int) (x4 : Int) (s15 : Bool) (s203 : Int) (s204 : Int) (b0 : Q3) (b1 : Q2) (b2 : Q0) (b3 : Q3) (q : Nat × Int × (Q3)), l4_4 m n x3 x4 s15 s203 s204 b0 b1 b2 b3 = some q → (turns (hds 4 38566513062215766613007090216187902460532871850787028048341016) 0 38566513062215766613007090216187902460532871850787028048341016 (cb29 m) n (l4_4H x3 x4 s15 s203 s204 b0 b1 b2 b3) (l4_4B x3 x4 s15 s203 s204 b0 b1 b2 b3)).run = some (l4_4E (x3) (x4) (s15) (s203) (q.2.1) (b0) (b1) (b2) (q.2.2) q.1)) (x3 : Int) (x4 : Int) (s15 : Bool) (s203 : Int) (s204 : Int) (b0 : Q3) (b1 : Q2) (b2 : Q0) (b3 : Q3) (q : Nat × Int × (Q3)) (h : l4_4 m (n + 1) x3 x4 s15 s203 s204 b0 b1 b2 b3 = some q) : (turns (hds 4 38566513062215766613007090216187902460532871850787028048341016) 0 38566513062215766613007090216187902460532871850787028048341016 (cb29 m) (n + 1) (l4_4H x3 x4 s15 s203 s204 b0 b1 b2 b3) (l4_4B x3 x4 s15 s203 s204 b0 b1 b2 b3)).run = some (l4_4E (x3) (x4) (s15) (s203) (q.2.1) (b0) (b1) (b2) (q.2.2) q.1) := by
  rw [l4_4] at h
  refine ite_cases h (fun c0 h => ?_) (fun c0 h => ?_)
  · skip
    obtain ⟨c1, h⟩ := iY h
    obtain ⟨c2, h⟩ := iY h
    obtain ⟨c3, h⟩ := iY h
    obtain ⟨c5, h⟩ := iY h
    obtain ⟨c8, h⟩ := iY h
    obtain ⟨c9, h⟩ := iY h
    obtain ⟨c15, h⟩ := iY h
    obtain ⟨c23, h⟩ := iY h
    obtain ⟨c26, h⟩ := iY h
    obtain ⟨c30, h⟩ := iY h
    refine ite_cases h (fun c31 h => ?_) (fun c31 h => ?_)
    · skip
      have ih := ih _ _ _ _ _ _ _ _ _ q h
      refine turns_step ?_ ih
      exact M.run_of_path _ [tT, tT, tT, tT, tT, tT, tT, tT, tT, fF, fF, fF, fF, tT, tT, tT, fF, fF, fF, fF, fF, tT, tT, tT, fF, fF, fF, tT, tT, tT, tT, fF] _ _ (by kernel_rfl) (all_t c0 (all_t c1 (all_t c2 (all_t c3 (all_t (show decide ((0 + (List.length b1)) ≤ (List.length b1)) = true from decide_eq_true (Nat.le_of_eq (Nat.zero_add _))) (all_t c5 (all_t (show decide ((0 + (List.length b0)) ≤ (List.length b0)) = true from decide_eq_true (Nat.le_of_eq (Nat.zero_add _))) (all_t (show decide ((0 + (List.length b1)) ≤ (List.length b1)) = true from decide_eq_true (Nat.le_of_eq (Nat.zero_add _))) (all_t c8 (all_nt c9 (all_nt c9 (all_nt c9 (all_nt c9 (all_t (show decide ((0 + (List.length b0)) ≤ (List.length b0)) = true from decide_eq_true (Nat.le_of_eq (Nat.zero_add _))) (all_t (show decide ((0 + (List.length b2)) ≤ (List.length b2)) = true from decide_eq_true (Nat.le_of_eq (Nat.zero_add _))) (all_t c15 (all_nt c9 (all_nt c9 (all_nt c9 (all_nt c9 (all_nt c9 (all_t (show decide ((0 + (List.length b0)) ≤ (List.length b0)) = true from decide_eq_true (Nat.le_of_eq (Nat.zero_add _))) (all_t (show decide ((0 + (List.length b2)) ≤ (List.length b2)) = true from decide_eq_true (Nat.le_of_eq (Nat.zero_add _))) (all_t c23 (all_nt c9 (all_nt c9 (all_nt c26 (all_t (show decide ((0 + (List.length b0)) ≤ (List.length b0)) = true from decide_eq_true (Nat.le_of_eq (Nat.zero_add _))) (all_t (show decide ((0 + (List.length b1)) ≤ (List.length b1)) = true from decide_eq_true (Nat.le_of_eq (Nat.zero_add _))) (all_t (show decide ((0 + (List.length b2)) ≤ (List.length b2)) = true from decide_eq_true (Nat.le_of_eq (Nat.zero_add _))) (all_t c30 (all_nt c31 all_nil))))))))))))))))))))))))))))))))
    · skip
      obtain ⟨c36, h⟩ := iY h
      have ih := ih _ _ _ _ _ _ _ _ _ q h
      have ht : (turn (hds 4 38566513062215766613007090216187902460532871850787028048341016) 0 38566513062215766613007090216187902460532871850787028048341016 (cb29 m) (l4_4H x3 x4 s15 s203 s204 b0 b1 b2 b3) (l4_4B x3 x4 s15 s203 s204 b0 b1 b2 b3)).run = some (.normal, (.top :: .top :: .top :: (.d (.int .i64 x3)) :: (.d (.int .i64 x4)) :: .top :: .top :: .top :: .top :: .top :: .top :: (.sr 0 0 (List.length b0) 1 none) :: .top :: (.sr 1 0 (List.length b1) 3 none) :: (.sr 2 0 (List.length b2) 3 none) :: (.d (.bool (s15))) :: .top :: .top :: .top :: .top :: (.sr 3 0 ((List.length b3) + 1) 1 none) :: tp182 ((.d (.int .i64 s203)) :: (.d (.int .i64 (IntKind.wrap .i64 (s204 + (1))))) :: tp92 [])), [(.arr (.sl (.pair .str .str)) b0 true), (.arr (.pair (.sl (.pair .str (.pair .str (.int .i64)))) (.pair (.int .i64) (.int .i64))) b1 true), (.arr (.pair (.sl (.pair .str (.pair .str (.int .i64)))) (.pair (.sl (.pair .str (.pair .str (.int .i64)))) (.sl .str))) b2 true), (.arr (.sl (.pair .str .str)) (b3 ++ [(List.getD b0 (0 + (Int.toNat s204)) ([] : Q5))]) true)]) := M.run_of_path _ [tT, tT, tT, tT, tT, tT, tT, tT, tT, fF, fF, fF, fF, tT, tT, tT, fF, fF, fF, fF, fF, tT, tT, tT, fF, fF, fF, tT, tT, tT, tT, tT, tT, tT, tT, tT, tT, tT] _ _ (by kernel_rfl) (all_t c0 (all_t c1 (all_t c2 (all_t c3 (all_t (show decide ((0 + (List.length b1)) ≤ (List.length b1)) = true from decide_eq_true (Nat.le_of_eq (Nat.zero_add _))) (all_t c5 (all_t (show decide ((0 + (List.length b0)) ≤ (List.length b0)) = true from decide_eq_true (Nat.le_of_eq (Nat.zero_add _))) (all_t (show decide ((0 + (List.length b1)) ≤ (List.length b1)) = true from decide_eq_true (Nat.le_of_eq (Nat.zero_add _))) (all_t c8 (all_nt c9 (all_nt c9 (all_nt c9 (all_nt c9 (all_t (show decide ((0 + (List.length b0)) ≤ (List.length b0)) = true from decide_eq_true (Nat.le_of_eq (Nat.zero_add _))) (all_t (show decide ((0 + (List.length b2)) ≤ (List.length b2)) = true from decide_eq_true (Nat.le_of_eq (Nat.zero_add _))) (all_t c15 (all_nt c9 (all_nt c9 (all_nt c9 (all_nt c9 (all_nt c9 (all_t (show decide ((0 + (List.length b0)) ≤ (List.length b0)) = true from decide_eq_true (Nat.le_of_eq (Nat.zero_add _))) (all_t (show decide ((0 + (List.length b2)) ≤ (List.length b2)) = true from decide_eq_true (Nat.le_of_eq (Nat.zero_add _))) (all_t c23 (all_nt c9 (all_nt c9 (all_nt c26 (all_t (show decide ((0 + (List.length b0)) ≤ (List.length b0)) = true from decide_eq_true (Nat.le_of_eq (Nat.zero_add _))) (all_t (show decide ((0 + (List.length b1)) ≤ (List.length b1)) = true from decide_eq_true (Nat.le_of_eq (Nat.zero_add _))) (all_t (show decide ((0 + (List.length b2)) ≤ (List.length b2)) = true from decide_eq_true (Nat.le_of_eq (Nat.zero_add _))) (all_t c30 (all_nf c31 (all_t c1 (all_t c2 (all_t c3 (all_t rfl (all_t c36 (all_t (show decide ((List.length b3) = (List.length b3)) = true from decide_eq_true rfl) all_nil))))))))))))))))))))))))))))))))))))))
      refine turns_step ht (turns_eq ?_ ?_ ih)
      · unfold l4_4H
        first | (simp; done) | (simp [Nat.add_assoc]; done) | (simp; omega)
      · unfold l4_4B
        simp
  · skip
    cases h
    refine turns_last (by simp) ?_
    exact M.run_of_path _ [fF] _ _ (by kernel_rfl) (all_f c0 all_nil)
theorem l4_4_ok (m : Nat) : ∀ (n : Nat) (x3 : Int) (x4 : Int) (s15 : Bool) (s203 : Int) (s204 : Int) (b0 : Q3) (b1 : Q2) (b2 : Q0) (b3 : Q3) (q : Nat × Int × (Q3)), l4_4 m n x3 x4 s15 s203 s204 b0 b1 b2 b3 = some q → (turns (hds 4 38566513062215766613007090216187902460532871850787028048341016) 0 38566513062215766613007090216187902460532871850787028048341016 (cb29 m) n (l4_4H x3 x4 s15 s203 s204 b0 b1 b2 b3) (l4_4B x3 x4 s15 s203 s204 b0 b1 b2 b3)).run = some (l4_4E (x3) (x4) (s15) (s203) (q.2.1) (b0) (b1) (b2) (q.2.2) q.1)
  | 0, x3, x4, s15, s203, s204, b0, b1, b2, b3, q, h => by cases h
  | n + 1, x3, x4, s15, s203, s204, b0, b1, b2, b3, q, h => l4_4_step m n (l4_4_ok m n) x3 x4 s15 s203 s204 b0 b1 b2 b3 q h

def l4_5 (m : Nat) : Nat → Q3 → Int → Int → Q3 → Option (Nat × Int)
  | 0, _, _, _, _ => none
  | n + 1, s22, s281, s282, b0 => if decide (s282 < s281) = true then
      if decide (0 ≤ s282) = true then
      if decide (s282 < (((List.length s22) : Nat) : Int)) = true then
      if decide (s282 < (((List.length b0) : Nat) : Int)) = true then
      if decide ((0 + (Int.toNat s282)) < (List.length b0)) = true then
      if decide (List.length (List.getD s22 (Int.toNat s282) ([] : Q5)) < 4611686018427387904) = true then
      if ((show Q5 from (List.getD s22 (Int.toNat s282) ([] : Q5))) == (List.getD b0 (0 + (Int.toNat s282)) ([] : Q5))) = true then
      l4_5 m n s22 s281 ((IntKind.wrap .i64 (s282 + (1)))) b0
      else none
      else none
      else none
      else none
      else none
      else none
    else
      some (0, s282)
def l4_5D : Nat × Int := (0, 0)
@[reducible] def l4_5R (m n : Nat) (s22 : Q3) (s281 : Int) (s282 : Int) (b0 : Q3) : Nat × Int := Option.getD (l4_5 m n s22 s281 s282 b0) l4_5D
def l4_5H (s22 : Q3) (s281 : Int) (s282 : Int) (b0 : Q3) : Env := (tp20 ((.sr 0 0 (List.length b0) 1 none) :: .top :: (.d (.sl (.sl (.pair .str .str)) s22)) :: tp258 ((.d (.int .i64 s281)) :: (.d (.int .i64 s282)) :: tp14 [])))
def l4_5B (s22 : Q3) (s281 : Int) (s282 : Int) (b0 : Q3) : Boxes := [(.arr (.sl (.pair .str .str)) b0 true)]
def l4_5E (s22 : Q3) (s281 : Int) (s282 : Int) (b0 : Q3) : Nat → AEx × Env × Boxes
  | _ => (.exit 10, (tp20 ((.sr 0 0 (List.length b0) 1 none) :: .top :: (.d (.sl (.sl (.pair .str .str)) s22)) :: tp258 ((.d (.int .i64 s281)) :: (.d (.int .i64 s282)) :: (.d (.bool (decide (s282 < s281)))) :: tp13 []))), [(.arr (.sl (.pair .str .str)) b0 true)])
noncomputable def lbl4_5 : AC := loopBody 11656013353354374425516771440941113439854441034312837127510874458433425711231256231936 body4
@[reducible] noncomputable def cb30 (m : Nat) := (evC byref (evCall F S28 (m + 24)) (m + 24) 0 (hds 4) lbl4_5)


theorem l4_5_step (m n : Nat) (ih : ∀ (s22 : Q3) (s281 : Int) (s282 : Int) (b0 : Q3) (q : Nat × Int), l4_5 m n s22 s281 s282 b0 = some q → (turns (hds 4 11656013353354374425516771440941113439854441034312837127510874458433425711231256231936) 0 11656013353354374425516771440941113439854441034312837127510874458433425711231256231936 (cb30 m) n (l4_5H s22 s281 s282 b0) (l4_5B s22 s281 s282 b0)).run = some (l4_5E (s22) (s281) (q.2) (b0) q.1)) (s22 : Q3) (s281 : Int) (s282 : Int) (b0 : Q3) (q : Nat × Int) (h : l4_5 m (n + 1) s22 s281 s282 b0 = some q) : (turns (hds 4 11656013353354374425516771440941113439854441034312837127510874458433425711231256231936) 0 11656013353354374425516771440941113439854441034312837127510874458433425711231256231936 (cb30 m) (n + 1) (l4_5H s22 s281 s282 b0) (l4_5B s22 s281 s282 b0)).run = some (l4_5E (s22) (s281) (q.2) (b0) q.1) := by
  rw [l4_5] at h
  refine ite_cases h (fun c0 h => ?_) (fun c0 h => ?_)
  · skip
    obtain ⟨c1, h⟩ := iY h
    obtain ⟨c2, h⟩ := iY h
    obtain ⟨c4, h⟩ := iY h
    obtain ⟨c5, h⟩ := iY h
    obtain ⟨c6, h⟩ := iY h
    obtain ⟨c7, h⟩ := iY h
    have ih := ih _ _ _ _ q h
    refine turns_step ?_ ih
    exact M.run_of_path _ [tT, tT, tT, tT, tT, tT, tT, fF] _ _ (by kernel_rfl) (all_t c0 (all_t c1 (all_t c2 (all_t c1 (all_t c4 (all_t c5 (all_t c6 (all_nt c7 all_nil))))))))
  · skip
    cases h
    refine turns_last (by simp) ?_
    exact M.run_of_path _ [fF] _ _ (by kernel_rfl) (all_f c0 all_nil)
theorem l4_5_ok (m : Nat) : ∀ (n : Nat) (s22 : Q3) (s281 : Int) (s282 : Int) (b0 : Q3) (q : Nat × Int), l4_5 m n s22 s281 s282 b0 = some q → (turns (hds 4 11656013353354374425516771440941113439854441034312837127510874458433425711231256231936) 0 11656013353354374425516771440941113439854441034312837127510874458433425711231256231936 (cb30 m) n (l4_5H s22 s281 s282 b0) (l4_5B s22 s281 s282 b0)).run = some (l4_5E (s22) (s281) (q.2) (b0) q.1)
  | 0, s22, s281, s282, b0, q, h => by cases h
  | n + 1, s22, s281, s282, b0, q, h => l4_5_step m n (l4_5_ok m n) s22 s281 s282 b0 q h

@[reducible] def mtells_k1 (x0 : Q6) (x1 : Q2) (x2 : Q0) (x3 : Int) (x4 : Int) (m : Nat) := (l4_1R m (m + 24) x3 x4 true ((((0 + (List.length (List.drop 0 (List.take (Int.toNat (if (4) < (((List.length x1) : Nat) : Int) then (4) else (((List.length x1) : Nat) : Int))) x1)))) : Nat) : Int)) 0 ((l4_0R m (m + 24) x0 x1 x2 x3 x4 0 (([] : Q3))).2.2) ((List.drop 0 (List.take (Int.toNat (if (4) < (((List.length x1) : Nat) : Int) then (4) else (((List.length x1) : Nat) : Int))) x1))) ((List.drop 0 (List.take (Int.toNat (if (4) < (((List.length x2) : Nat) : Int) then (4) else (((List.length x2) : Nat) : Int))) x2))))
@[reducible] def mtells_k2 (x0 : Q6) (x1 : Q2) (x2 : Q0) (x3 : Int) (x4 : Int) (m : Nat) := (l4_2R m (m + 24) x3 x4 ((mtells_k1 x0 x1 x2 x3 x4 m).2.1) ((((List.length ((List.drop 0 (List.take (Int.toNat (if (4) < (((List.length x2) : Nat) : Int) then (4) else (((List.length x2) : Nat) : Int))) x2)))) : Nat) : Int)) 0 (((l4_0R m (m + 24) x0 x1 x2 x3 x4 0 (([] : Q3))).2.2)) ((mtells_k1 x0 x1 x2 x3 x4 m).2.2.2) (((List.drop 0 (List.take (Int.toNat (if (4) < (((List.length x2) : Nat) : Int) then (4) else (((List.length x2) : Nat) : Int))) x2)))))
@[reducible] def mtells_k3 (x0 : Q6) (x1 : Q2) (x2 : Q0) (x3 : Int) (x4 : Int) (m : Nat) := (heardG (List.take (List.length ((((l4_0R m (m + 24) x0 x1 x2 x3 x4 0 (([] : Q3))).2.2)))) (List.drop 0 ((((l4_0R m (m + 24) x0 x1 x2 x3 x4 0 (([] : Q3))).2.2))))) x3 (List.take (List.length (((mtells_k1 x0 x1 x2 x3 x4 m).2.2.2))) (List.drop 0 (((mtells_k1 x0 x1 x2 x3 x4 m).2.2.2)))) (List.take (List.length ((mtells_k2 x0 x1 x2 x3 x4 m).2.2.2)) (List.drop 0 ((mtells_k2 x0 x1 x2 x3 x4 m).2.2.2))))
@[reducible] def mtells_k4 (x0 : Q6) (x1 : Q2) (x2 : Q0) (x3 : Int) (x4 : Int) (m : Nat) := (l4_0R m (m + 24) x0 x1 x2 x3 x4 0 (([] : Q3)))
@[reducible] def mtells_k5 (x0 : Q6) (x1 : Q2) (x2 : Q0) (x3 : Int) (x4 : Int) (m : Nat) := (l4_4R m (m + 24) x3 x4 ((mtells_k2 x0 x1 x2 x3 x4 m).2.1) ((((List.length (((mtells_k4 x0 x1 x2 x3 x4 m).2.2))) : Nat) : Int)) 0 ((((mtells_k4 x0 x1 x2 x3 x4 m).2.2))) (((mtells_k1 x0 x1 x2 x3 x4 m).2.2.2)) ((mtells_k2 x0 x1 x2 x3 x4 m).2.2.2) (([] : Q3)))
@[reducible] def mtells_k6 (x2 : Q0) := (List.drop 0 (List.take (Int.toNat (if (4) < (((List.length x2) : Nat) : Int) then (4) else (((List.length x2) : Nat) : Int))) x2))
@[reducible] def mtells_k7 (x1 : Q2) := (List.drop 0 (List.take (Int.toNat (if (4) < (((List.length x1) : Nat) : Int) then (4) else (((List.length x1) : Nat) : Int))) x1))
@[reducible] def mtells_k8 (x0 : Q6) (x1 : Q2) (x2 : Q0) (x3 : Int) (x4 : Int) (m : Nat) := (((List.length (mtells_k3 x0 x1 x2 x3 x4 m)) : Nat) : Int)
@[reducible] def mtells_k9 (x0 : Q6) (x1 : Q2) (x2 : Q0) (x3 : Int) (x4 : Int) (m : Nat) := (List.length ((mtells_k2 x0 x1 x2 x3 x4 m).2.2.2))
@[reducible] def mtells_k10 (x0 : Q6) (x1 : Q2) (x2 : Q0) (x3 : Int) (x4 : Int) (m : Nat) := (l4_4E x3 x4 (((mtells_k2 x0 x1 x2 x3 x4 m).2.1)) (((((List.length (((mtells_k4 x0 x1 x2 x3 x4 m).2.2))) : Nat) : Int))) ((mtells_k5 x0 x1 x2 x3 x4 m).2.1) (((((mtells_k4 x0 x1 x2 x3 x4 m).2.2)))) ((((mtells_k1 x0 x1 x2 x3 x4 m).2.2.2))) (((mtells_k2 x0 x1 x2 x3 x4 m).2.2.2)) ((mtells_k5 x0 x1 x2 x3 x4 m).2.2) 0)
@[reducible] def mtells_k11 (x0 : Q6) (x1 : Q2) (x2 : Q0) (x3 : Int) (x4 : Int) (m : Nat) := (l4_2E x3 x4 ((mtells_k2 x0 x1 x2 x3 x4 m).2.1) (((((List.length ((mtells_k6 x2))) : Nat) : Int))) ((mtells_k2 x0 x1 x2 x3 x4 m).2.2.1) ((((mtells_k4 x0 x1 x2 x3 x4 m).2.2))) (((mtells_k1 x0 x1 x2 x3 x4 m).2.2.2)) ((mtells_k2 x0 x1 x2 x3 x4 m).2.2.2) 0)
@[reducible] def mtells_k12 (x0 : Q6) (x1 : Q2) (x2 : Q0) (x3 : Int) (x4 : Int) (m : Nat) := (List.length ((((mtells_k4 x0 x1 x2 x3 x4 m).2.2))))
@[reducible] def mtells_k13 (x0 : Q6) (x1 : Q2) (x2 : Q0) (x3 : Int) (x4 : Int) (m : Nat) := (l4_1E x3 x4 ((mtells_k1 x0 x1 x2 x3 x4 m).2.1) (((((0 + (List.length (mtells_k7 x1))) : Nat) : Int))) ((mtells_k1 x0 x1 x2 x3 x4 m).2.2.1) (((mtells_k4 x0 x1 x2 x3 x4 m).2.2)) ((mtells_k1 x0 x1 x2 x3 x4 m).2.2.2) (((mtells_k6 x2))) 0)
@[reducible] def mtells_k14 (x0 : Q6) (x1 : Q2) (x2 : Q0) (x3 : Int) (x4 : Int) (m : Nat) := (List.length (((mtells_k1 x0 x1 x2 x3 x4 m).2.2.2)))
@[reducible] def mtells_k15 (x0 : Q6) (x1 : Q2) (x2 : Q0) (x3 : Int) (x4 : Int) (m : Nat) := (l4_5E (((mtells_k3 x0 x1 x2 x3 x4 m))) (((mtells_k8 x0 x1 x2 x3 x4 m))) ((l4_5R m (m + 24) ((mtells_k3 x0 x1 x2 x3 x4 m)) ((mtells_k8 x0 x1 x2 x3 x4 m)) 0 ((mtells_k5 x0 x1 x2 x3 x4 m).2.2)).2) (((mtells_k5 x0 x1 x2 x3 x4 m).2.2)) 0)
@[reducible] def mtells_k16 (x0 : Q6) (x1 : Q2) (x2 : Q0) (x3 : Int) (x4 : Int) (m : Nat) := ((((List.length (((mtells_k4 x0 x1 x2 x3 x4 m).2.2))) : Nat) : Int))
@[reducible] def mtells_k17 (x0 : Q6) (x1 : Q2) (x2 : Q0) (x3 : Int) (x4 : Int) (m : Nat) := (List.take (mtells_k9 x0 x1 x2 x3 x4 m) (List.drop 0 ((mtells_k2 x0 x1 x2 x3 x4 m).2.2.2)))
@[reducible] def mtells_k18 (x0 : Q6) (x1 : Q2) (x2 : Q0) (x3 : Int) (x4 : Int) (m : Nat) := (List.take (mtells_k12 x0 x1 x2 x3 x4 m) (List.drop 0 ((((mtells_k4 x0 x1 x2 x3 x4 m).2.2)))))
@[reducible] def mtells_k19 (x2 : Q0) := ((((List.length ((mtells_k6 x2))) : Nat) : Int))
@[reducible] def mtells_k20 (x1 : Q2) := (List.length (mtells_k7 x1))
@[reducible] def mtells_k21 (x0 : Q6) (x1 : Q2) (x2 : Q0) (x3 : Int) (x4 : Int) (m : Nat) := (l4_5 m (m + 24) ((mtells_k3 x0 x1 x2 x3 x4 m)) ((mtells_k8 x0 x1 x2 x3 x4 m)) 0 ((mtells_k5 x0 x1 x2 x3 x4 m).2.2))
@[reducible] def mtells_k22 (x0 : Q6) (x1 : Q2) (x2 : Q0) (x3 : Int) (x4 : Int) (m : Nat) := (List.take (mtells_k14 x0 x1 x2 x3 x4 m) (List.drop 0 (((mtells_k1 x0 x1 x2 x3 x4 m).2.2.2))))
@[reducible] def mtells_k23 (x0 : Q6) (x1 : Q2) (x2 : Q0) (x3 : Int) (x4 : Int) (m : Nat) := (List.length (mtells_k4 x0 x1 x2 x3 x4 m).2.2)
@[reducible] def mtells_k24 (x2 : Q0) := (List.length (mtells_k6 x2))
@[reducible] def mtells_k25 (x1 : Q2) := (if (4) < (((List.length x1) : Nat) : Int) then (4) else (((List.length x1) : Nat) : Int))
@[reducible] def mtells_k26 (x2 : Q0) := (if (4) < (((List.length x2) : Nat) : Int) then (4) else (((List.length x2) : Nat) : Int))
@[reducible] def mtells_k27 (x0 : Q6) (x1 : Q2) (x2 : Q0) (x3 : Int) (x4 : Int) (m : Nat) := (inhG (mtells_k18 x0 x1 x2 x3 x4 m) x4 (mtells_k17 x0 x1 x2 x3 x4 m))
def mtells (m : Nat) (x0 : Q6) (x1 : Q2) (x2 : Q0) (x3 : Int) (x4 : Int) : Option Unit :=
  if (Option.isSome (l4_0 m (m + 24) x0 x1 x2 x3 x4 0 (([] : Q3)))) = true then
  if ((mtells_k4 x0 x1 x2 x3 x4 m).1 == 0) = true then
    if (decide (0 ≤ (mtells_k25 x1)) && decide ((mtells_k25 x1) ≤ (((List.length x1) : Nat) : Int))) = true then
    if decide (((0 + (mtells_k20 x1)) * 40) ≤ 70368744177664) = true then
    if (decide (0 ≤ (mtells_k26 x2)) && decide ((mtells_k26 x2) ≤ (((List.length x2) : Nat) : Int))) = true then
    if decide (((0 + (mtells_k24 x2)) * 72) ≤ 70368744177664) = true then
    if (Option.isSome (l4_1 m (m + 24) x3 x4 true ((((0 + (mtells_k20 x1)) : Nat) : Int)) 0 ((mtells_k4 x0 x1 x2 x3 x4 m).2.2) ((mtells_k7 x1)) ((mtells_k6 x2)))) = true then
    if (Option.isSome (l4_2 m (m + 24) x3 x4 ((mtells_k1 x0 x1 x2 x3 x4 m).2.1) (mtells_k19 x2) 0 (((mtells_k4 x0 x1 x2 x3 x4 m).2.2)) ((mtells_k1 x0 x1 x2 x3 x4 m).2.2.2) (((mtells_k6 x2))))) = true then
    if (Option.isSome (l4_4 m (m + 24) x3 x4 ((mtells_k2 x0 x1 x2 x3 x4 m).2.1) (mtells_k16 x0 x1 x2 x3 x4 m) 0 ((((mtells_k4 x0 x1 x2 x3 x4 m).2.2))) (((mtells_k1 x0 x1 x2 x3 x4 m).2.2.2)) ((mtells_k2 x0 x1 x2 x3 x4 m).2.2.2) (([] : Q3)))) = true then
    if heardPre (mtells_k18 x0 x1 x2 x3 x4 m) (mtells_k22 x0 x1 x2 x3 x4 m) (mtells_k17 x0 x1 x2 x3 x4 m) = true then
    if ((mtells_k8 x0 x1 x2 x3 x4 m) != (((List.length (mtells_k5 x0 x1 x2 x3 x4 m).2.2) : Nat) : Int)) = true then
      none
    else
      if mrightPre (mtells_k22 x0 x1 x2 x3 x4 m) (mtells_k17 x0 x1 x2 x3 x4 m) = true then
      if ((mrightG (mtells_k22 x0 x1 x2 x3 x4 m) (mtells_k17 x0 x1 x2 x3 x4 m)) == ((mtells_k2 x0 x1 x2 x3 x4 m).2.1)) = true then
      if decide (x4 < 0) = true then
        if inhPre (mtells_k18 x0 x1 x2 x3 x4 m) (mtells_k17 x0 x1 x2 x3 x4 m) = true then
        if (mtells_k27 x0 x1 x2 x3 x4 m) = true then
          none
        else
          if (Option.isSome (mtells_k21 x0 x1 x2 x3 x4 m)) = true then
          some ()
          else none
        else none
      else
        if decide (x4 ≥ (((mtells_k12 x0 x1 x2 x3 x4 m) : Nat) : Int)) = true then
          if inhPre (mtells_k18 x0 x1 x2 x3 x4 m) (mtells_k17 x0 x1 x2 x3 x4 m) = true then
          if (mtells_k27 x0 x1 x2 x3 x4 m) = true then
            none
          else
            if (Option.isSome (mtells_k21 x0 x1 x2 x3 x4 m)) = true then
            some ()
            else none
          else none
        else
          if (Option.isSome (mtells_k21 x0 x1 x2 x3 x4 m)) = true then
          some ()
          else none
      else none
      else none
    else none
    else none
    else none
    else none
    else none
    else none
    else none
    else none
  else
    if ((mtells_k4 x0 x1 x2 x3 x4 m).1 == 1) = true then
    if (decide (0 ≤ (mtells_k25 x1)) && decide ((mtells_k25 x1) ≤ (((List.length x1) : Nat) : Int))) = true then
    if decide (((0 + (mtells_k20 x1)) * 40) ≤ 70368744177664) = true then
    if (decide (0 ≤ (mtells_k26 x2)) && decide ((mtells_k26 x2) ≤ (((List.length x2) : Nat) : Int))) = true then
    if decide (((0 + (mtells_k24 x2)) * 72) ≤ 70368744177664) = true then
    if (Option.isSome (l4_1 m (m + 24) x3 x4 true ((((0 + (mtells_k20 x1)) : Nat) : Int)) 0 ((mtells_k4 x0 x1 x2 x3 x4 m).2.2) ((mtells_k7 x1)) ((mtells_k6 x2)))) = true then
    if (Option.isSome (l4_2 m (m + 24) x3 x4 ((mtells_k1 x0 x1 x2 x3 x4 m).2.1) (mtells_k19 x2) 0 (((mtells_k4 x0 x1 x2 x3 x4 m).2.2)) ((mtells_k1 x0 x1 x2 x3 x4 m).2.2.2) (((mtells_k6 x2))))) = true then
    if (Option.isSome (l4_4 m (m + 24) x3 x4 ((mtells_k2 x0 x1 x2 x3 x4 m).2.1) (mtells_k16 x0 x1 x2 x3 x4 m) 0 ((((mtells_k4 x0 x1 x2 x3 x4 m).2.2))) (((mtells_k1 x0 x1 x2 x3 x4 m).2.2.2)) ((mtells_k2 x0 x1 x2 x3 x4 m).2.2.2) (([] : Q3)))) = true then
    if heardPre (mtells_k18 x0 x1 x2 x3 x4 m) (mtells_k22 x0 x1 x2 x3 x4 m) (mtells_k17 x0 x1 x2 x3 x4 m) = true then
    if ((mtells_k8 x0 x1 x2 x3 x4 m) != (((List.length (mtells_k5 x0 x1 x2 x3 x4 m).2.2) : Nat) : Int)) = true then
      none
    else
      if mrightPre (mtells_k22 x0 x1 x2 x3 x4 m) (mtells_k17 x0 x1 x2 x3 x4 m) = true then
      if ((mrightG (mtells_k22 x0 x1 x2 x3 x4 m) (mtells_k17 x0 x1 x2 x3 x4 m)) == ((mtells_k2 x0 x1 x2 x3 x4 m).2.1)) = true then
      if decide (x4 < 0) = true then
        if inhPre (mtells_k18 x0 x1 x2 x3 x4 m) (mtells_k17 x0 x1 x2 x3 x4 m) = true then
        if (mtells_k27 x0 x1 x2 x3 x4 m) = true then
          none
        else
          if (Option.isSome (mtells_k21 x0 x1 x2 x3 x4 m)) = true then
          some ()
          else none
        else none
      else
        if decide (x4 ≥ (((mtells_k12 x0 x1 x2 x3 x4 m) : Nat) : Int)) = true then
          if inhPre (mtells_k18 x0 x1 x2 x3 x4 m) (mtells_k17 x0 x1 x2 x3 x4 m) = true then
          if (mtells_k27 x0 x1 x2 x3 x4 m) = true then
            none
          else
            if (Option.isSome (mtells_k21 x0 x1 x2 x3 x4 m)) = true then
            some ()
            else none
          else none
        else
          if (Option.isSome (mtells_k21 x0 x1 x2 x3 x4 m)) = true then
          some ()
          else none
      else none
      else none
    else none
    else none
    else none
    else none
    else none
    else none
    else none
    else none
    else none
  else none
@[reducible] def mtells_e1 (x0 : Q6) (x1 : Q2) (x2 : Q0) (x3 : Int) (x4 : Int) (m : Nat) : Env := (.top :: .top :: .top :: (.d (.int .i64 x3)) :: (.d (.int .i64 x4)) :: .top :: .top :: .top :: .top :: .top :: .top :: (.sr 0 0 (mtells_k23 x0 x1 x2 x3 x4 m) 1 none) :: .top :: (.sr 1 0 (0 + (mtells_k20 x1)) 3 none) :: (.sr 2 0 (0 + (mtells_k24 x2)) 3 none) :: (.d (.bool true)) :: tp41 ((.d (.int .i64 (((0 + (mtells_k20 x1)) : Nat) : Int))) :: (.d (.int .i64 (0))) :: tp238 []))
@[reducible] def mtells_e2 (x0 : Q6) (x1 : Q2) (x2 : Q0) (x3 : Int) (x4 : Int) (m : Nat) : Boxes := [(.arr (.sl (.pair .str .str)) (mtells_k4 x0 x1 x2 x3 x4 m).2.2 true), (.arr (.pair (.sl (.pair .str (.pair .str (.int .i64)))) (.pair (.int .i64) (.int .i64))) (mtells_k7 x1) true), (.arr (.pair (.sl (.pair .str (.pair .str (.int .i64)))) (.pair (.sl (.pair .str (.pair .str (.int .i64)))) (.sl .str))) (mtells_k6 x2) true)]

theorem mtells_ok (m : Nat) (x0 : Q6) (x1 : Q2) (x2 : Q0) (x3 : Int) (x4 : Int) (q : Unit) (h : mtells m x0 x1 x2 x3 x4 = some q) : (evCall F S28 (m + 25) 4 [(.d (.sl (.pair (.sl (.int .i64)) (.sl (.int .i64))) x0)), (.d (.sl (.pair (.sl (.pair .str (.pair .str (.int .i64)))) (.pair (.int .i64) (.int .i64))) x1)), (.d (.sl (.pair (.sl (.pair .str (.pair .str (.int .i64)))) (.pair (.sl (.pair .str (.pair .str (.int .i64)))) (.sl .str))) x2)), (.d (.int .i64 x3)), (.d (.int .i64 x4))] []).run = some (.d (.bool true), []) := by
  unfold mtells at h
  obtain ⟨c0, h⟩ := iY h
  refine ite_cases h (fun c1 h => ?_) (fun c1 h => ?_)
  · skip
    obtain ⟨c2, h⟩ := iY h
    obtain ⟨c3, h⟩ := iY h
    obtain ⟨c5, h⟩ := iY h
    obtain ⟨c6, h⟩ := iY h
    obtain ⟨c8, h⟩ := iY h
    obtain ⟨c9, h⟩ := iY h
    obtain ⟨c10, h⟩ := iY h
    obtain ⟨c14, h⟩ := iY h
    refine ite_cases h (fun _ h => by cases h) (fun c15 h => ?_)
    obtain ⟨c20, h⟩ := iY h
    obtain ⟨c24, h⟩ := iY h
    refine ite_cases h (fun c27 h => ?_) (fun c27 h => ?_)
    · skip
      obtain ⟨c40, h⟩ := iY h
      refine ite_cases h (fun _ h => by cases h) (fun c44 h => ?_)
      obtain ⟨c45, h⟩ := iY h
      cases h
      refine runT_ok (LS := (fun k => if k = 6175 then some (l4_0E x0 x1 x2 x3 x4 ((mtells_k4 x0 x1 x2 x3 x4 m).2.1) ((mtells_k4 x0 x1 x2 x3 x4 m).2.2) 0) else if k = 432345564227627032 then some (mtells_k13 x0 x1 x2 x3 x4 m) else if k = 15211807202738752817960438523928 then some (mtells_k11 x0 x1 x2 x3 x4 m) else if k = 38566513062215766613007090216187902460532871850787028048341016 then some (mtells_k10 x0 x1 x2 x3 x4 m) else if k = 11656013353354374425516771440941113439854441034312837127510874458433425711231256231936 then some (mtells_k15 x0 x1 x2 x3 x4 m) else none)) (fn := fn4) (r := .d (.bool true)) (B' := []) (vis := [(6175, l4_0H x0 x1 x2 x3 x4 0 (([] : Q3)), l4_0B x0 x1 x2 x3 x4 0 (([] : Q3))), (432345564227627032, (mtells_e1 x0 x1 x2 x3 x4 m), (mtells_e2 x0 x1 x2 x3 x4 m)), (15211807202738752817960438523928, l4_2H x3 x4 ((mtells_k1 x0 x1 x2 x3 x4 m).2.1) (mtells_k19 x2) 0 (((mtells_k4 x0 x1 x2 x3 x4 m).2.2)) ((mtells_k1 x0 x1 x2 x3 x4 m).2.2.2) (((mtells_k6 x2))), l4_2B x3 x4 ((mtells_k1 x0 x1 x2 x3 x4 m).2.1) (mtells_k19 x2) 0 (((mtells_k4 x0 x1 x2 x3 x4 m).2.2)) ((mtells_k1 x0 x1 x2 x3 x4 m).2.2.2) (((mtells_k6 x2)))), (38566513062215766613007090216187902460532871850787028048341016, l4_4H x3 x4 ((mtells_k2 x0 x1 x2 x3 x4 m).2.1) (mtells_k16 x0 x1 x2 x3 x4 m) 0 ((((mtells_k4 x0 x1 x2 x3 x4 m).2.2))) (((mtells_k1 x0 x1 x2 x3 x4 m).2.2.2)) ((mtells_k2 x0 x1 x2 x3 x4 m).2.2.2) (([] : Q3)), l4_4B x3 x4 ((mtells_k2 x0 x1 x2 x3 x4 m).2.1) (mtells_k16 x0 x1 x2 x3 x4 m) 0 ((((mtells_k4 x0 x1 x2 x3 x4 m).2.2))) (((mtells_k1 x0 x1 x2 x3 x4 m).2.2.2)) ((mtells_k2 x0 x1 x2 x3 x4 m).2.2.2) (([] : Q3))), (11656013353354374425516771440941113439854441034312837127510874458433425711231256231936, l4_5H ((mtells_k3 x0 x1 x2 x3 x4 m)) ((mtells_k8 x0 x1 x2 x3 x4 m)) 0 ((mtells_k5 x0 x1 x2 x3 x4 m).2.2), l4_5B ((mtells_k3 x0 x1 x2 x3 x4 m)) ((mtells_k8 x0 x1 x2 x3 x4 m)) 0 ((mtells_k5 x0 x1 x2 x3 x4 m).2.2))]) (by kernel_rfl) rfl (by kernel_rfl) (M.run_of_path _ [tT, tT, tT, tT, tT, tT, tT, tT, tT, tT, fF, fF, fF, tT, tT, tT, fF, fF, fF, fF, fF, fF, tT, tT, tT, tT, fF, tT, fF, tT, tT, tT, tT, tT, tT, tT, fF, tT, fF, fF] _ _ (by kernel_rfl) (all_t c2 (all_t c3 (all_t rfl (all_t c5 (all_t c6 (all_t rfl (all_t (show decide ((0 + (mtells_k12 x0 x1 x2 x3 x4 m)) ≤ (mtells_k12 x0 x1 x2 x3 x4 m)) = true from decide_eq_true (Nat.le_of_eq (Nat.zero_add _))) (all_t (show decide ((0 + (mtells_k14 x0 x1 x2 x3 x4 m)) ≤ (mtells_k14 x0 x1 x2 x3 x4 m)) = true from decide_eq_true (Nat.le_of_eq (Nat.zero_add _))) (all_t (show decide ((0 + (mtells_k9 x0 x1 x2 x3 x4 m)) ≤ (mtells_k9 x0 x1 x2 x3 x4 m)) = true from decide_eq_true (Nat.le_of_eq (Nat.zero_add _))) (all_t c14 (all_f c15 (all_f c15 (all_f c15 (all_t (show decide ((0 + (mtells_k14 x0 x1 x2 x3 x4 m)) ≤ (mtells_k14 x0 x1 x2 x3 x4 m)) = true from decide_eq_true (Nat.le_of_eq (Nat.zero_add _))) (all_t (show decide ((0 + (mtells_k9 x0 x1 x2 x3 x4 m)) ≤ (mtells_k9 x0 x1 x2 x3 x4 m)) = true from decide_eq_true (Nat.le_of_eq (Nat.zero_add _))) (all_t c20 (all_f c15 (all_f c15 (all_f c15 (all_nt c24 (all_nt c24 (all_nt c24 (all_t c27 (all_t c27 (all_t c27 (all_t c27 (all_nt c24 (all_t c27 (all_nt c24 (all_t rfl (all_t rfl (all_t rfl (all_t rfl (all_t (show decide ((0 + (mtells_k12 x0 x1 x2 x3 x4 m)) ≤ (mtells_k12 x0 x1 x2 x3 x4 m)) = true from decide_eq_true (Nat.le_of_eq (Nat.zero_add _))) (all_t (show decide ((0 + (mtells_k9 x0 x1 x2 x3 x4 m)) ≤ (mtells_k9 x0 x1 x2 x3 x4 m)) = true from decide_eq_true (Nat.le_of_eq (Nat.zero_add _))) (all_t c40 (all_nt c24 (all_t rfl (all_nt c24 (all_f c44 all_nil))))))))))))))))))))))))))))))))))))))))) ?_
      intro p hp p2 hq
      rcases List.mem_cons.1 hp with rfl | hp
      · skip
        have h3 := l4_0_ok m (m + 24) x0 x1 x2 x3 x4 0 (([] : Q3)) _ (some_getD (d := l4_0D) c0)
        rw [eq_of_beq c1] at h3
        exact Eq.trans (Eq.mp (by kernel_rfl) h3) hq
      rcases List.mem_cons.1 hp with rfl | hp
      · skip
        have h3 := l4_1_ok m (m + 24) x3 x4 true ((((0 + (mtells_k20 x1)) : Nat) : Int)) 0 ((mtells_k4 x0 x1 x2 x3 x4 m).2.2) ((mtells_k7 x1)) ((mtells_k6 x2)) _ (some_getD (d := l4_1D) c8)
        have h3 := turns_eq (e := (.top :: .top :: .top :: (.d (.int .i64 x3)) :: (.d (.int .i64 x4)) :: .top :: .top :: .top :: .top :: .top :: .top :: (.sr 0 0 (mtells_k23 x0 x1 x2 x3 x4 m) 1 none) :: .top :: (.sr 1 0 (0 + (mtells_k20 x1)) 3 none) :: (.sr 2 0 (0 + (mtells_k24 x2)) 3 none) :: (.d (.bool true)) :: tp41 ((.d (.int .i64 (((0 + (mtells_k20 x1)) : Nat) : Int))) :: (.d (.int .i64 (0))) :: tp238 []))) (B := [(.arr (.sl (.pair .str .str)) (mtells_k4 x0 x1 x2 x3 x4 m).2.2 true), (.arr (.pair (.sl (.pair .str (.pair .str (.int .i64)))) (.pair (.int .i64) (.int .i64))) (mtells_k7 x1) true), (.arr (.pair (.sl (.pair .str (.pair .str (.int .i64)))) (.pair (.sl (.pair .str (.pair .str (.int .i64)))) (.sl .str))) (mtells_k6 x2) true)]) (by unfold l4_1H; (try rw [show (0 + (mtells_k20 x1)) = (mtells_k20 x1) from by simp]); (try rw [show (0 + (mtells_k24 x2)) = (mtells_k24 x2) from by simp]); (try simp only [Nat.zero_add, List.length_nil])) rfl h3
        exact Eq.trans (Eq.mp (by kernel_rfl) h3) hq
      rcases List.mem_cons.1 hp with rfl | hp
      · skip
        have h3 := l4_2_ok m (m + 24) x3 x4 ((mtells_k1 x0 x1 x2 x3 x4 m).2.1) (mtells_k19 x2) 0 (((mtells_k4 x0 x1 x2 x3 x4 m).2.2)) ((mtells_k1 x0 x1 x2 x3 x4 m).2.2.2) (((mtells_k6 x2))) _ (some_getD (d := l4_2D) c9)
        exact Eq.trans (Eq.mp (by kernel_rfl) h3) hq
      rcases List.mem_cons.1 hp with rfl | hp
      · skip
        have h3 := l4_4_ok m (m + 24) x3 x4 ((mtells_k2 x0 x1 x2 x3 x4 m).2.1) (mtells_k16 x0 x1 x2 x3 x4 m) 0 ((((mtells_k4 x0 x1 x2 x3 x4 m).2.2))) (((mtells_k1 x0 x1 x2 x3 x4 m).2.2.2)) ((mtells_k2 x0 x1 x2 x3 x4 m).2.2.2) (([] : Q3)) _ (some_getD (d := l4_4D) c10)
        exact Eq.trans (Eq.mp (by kernel_rfl) h3) hq
      rcases List.mem_cons.1 hp with rfl | hp
      · skip
        have h3 := l4_5_ok m (m + 24) ((mtells_k3 x0 x1 x2 x3 x4 m)) ((mtells_k8 x0 x1 x2 x3 x4 m)) 0 ((mtells_k5 x0 x1 x2 x3 x4 m).2.2) _ (some_getD (d := l4_5D) c45)
        exact Eq.trans (Eq.mp (by kernel_rfl) h3) hq
      cases hp
    · skip
      refine ite_cases h (fun c34 h => ?_) (fun c34 h => ?_)
      · skip
        obtain ⟨c40, h⟩ := iY h
        refine ite_cases h (fun _ h => by cases h) (fun c44 h => ?_)
        obtain ⟨c45, h⟩ := iY h
        cases h
        refine runT_ok (LS := (fun k => if k = 6175 then some (l4_0E x0 x1 x2 x3 x4 ((mtells_k4 x0 x1 x2 x3 x4 m).2.1) ((mtells_k4 x0 x1 x2 x3 x4 m).2.2) 0) else if k = 432345564227627032 then some (mtells_k13 x0 x1 x2 x3 x4 m) else if k = 15211807202738752817960438523928 then some (mtells_k11 x0 x1 x2 x3 x4 m) else if k = 38566513062215766613007090216187902460532871850787028048341016 then some (mtells_k10 x0 x1 x2 x3 x4 m) else if k = 11656013353354374425516771440941113439854441034312837127510874458433425711231256231936 then some (mtells_k15 x0 x1 x2 x3 x4 m) else none)) (fn := fn4) (r := .d (.bool true)) (B' := []) (vis := [(6175, l4_0H x0 x1 x2 x3 x4 0 (([] : Q3)), l4_0B x0 x1 x2 x3 x4 0 (([] : Q3))), (432345564227627032, (mtells_e1 x0 x1 x2 x3 x4 m), (mtells_e2 x0 x1 x2 x3 x4 m)), (15211807202738752817960438523928, l4_2H x3 x4 ((mtells_k1 x0 x1 x2 x3 x4 m).2.1) (mtells_k19 x2) 0 (((mtells_k4 x0 x1 x2 x3 x4 m).2.2)) ((mtells_k1 x0 x1 x2 x3 x4 m).2.2.2) (((mtells_k6 x2))), l4_2B x3 x4 ((mtells_k1 x0 x1 x2 x3 x4 m).2.1) (mtells_k19 x2) 0 (((mtells_k4 x0 x1 x2 x3 x4 m).2.2)) ((mtells_k1 x0 x1 x2 x3 x4 m).2.2.2) (((mtells_k6 x2)))), (38566513062215766613007090216187902460532871850787028048341016, l4_4H x3 x4 ((mtells_k2 x0 x1 x2 x3 x4 m).2.1) (mtells_k16 x0 x1 x2 x3 x4 m) 0 ((((mtells_k4 x0 x1 x2 x3 x4 m).2.2))) (((mtells_k1 x0 x1 x2 x3 x4 m).2.2.2)) ((mtells_k2 x0 x1 x2 x3 x4 m).2.2.2) (([] : Q3)), l4_4B x3 x4 ((mtells_k2 x0 x1 x2 x3 x4 m).2.1) (mtells_k16 x0 x1 x2 x3 x4 m) 0 ((((mtells_k4 x0 x1 x2 x3 x4 m).2.2))) (((mtells_k1 x0 x1 x2 x3 x4 m).2.2.2)) ((mtells_k2 x0 x1 x2 x3 x4 m).2.2.2) (([] : Q3))), (11656013353354374425516771440941113439854441034312837127510874458433425711231256231936, l4_5H ((mtells_k3 x0 x1 x2 x3 x4 m)) ((mtells_k8 x0 x1 x2 x3 x4 m)) 0 ((mtells_k5 x0 x1 x2 x3 x4 m).2.2), l4_5B ((mtells_k3 x0 x1 x2 x3 x4 m)) ((mtells_k8 x0 x1 x2 x3 x4 m)) 0 ((mtells_k5 x0 x1 x2 x3 x4 m).2.2))]) (by kernel_rfl) rfl (by kernel_rfl) (M.run_of_path _ [tT, tT, tT, tT, tT, tT, tT, tT, tT, tT, fF, fF, fF, tT, tT, tT, fF, fF, fF, fF, fF, fF, fF, fF, fF, fF, fF, fF, fF, tT, tT, tT, tT, tT, tT, tT, fF, tT, fF, fF] _ _ (by kernel_rfl) (all_t c2 (all_t c3 (all_t rfl (all_t c5 (all_t c6 (all_t rfl (all_t (show decide ((0 + (mtells_k12 x0 x1 x2 x3 x4 m)) ≤ (mtells_k12 x0 x1 x2 x3 x4 m)) = true from decide_eq_true (Nat.le_of_eq (Nat.zero_add _))) (all_t (show decide ((0 + (mtells_k14 x0 x1 x2 x3 x4 m)) ≤ (mtells_k14 x0 x1 x2 x3 x4 m)) = true from decide_eq_true (Nat.le_of_eq (Nat.zero_add _))) (all_t (show decide ((0 + (mtells_k9 x0 x1 x2 x3 x4 m)) ≤ (mtells_k9 x0 x1 x2 x3 x4 m)) = true from decide_eq_true (Nat.le_of_eq (Nat.zero_add _))) (all_t c14 (all_f c15 (all_f c15 (all_f c15 (all_t (show decide ((0 + (mtells_k14 x0 x1 x2 x3 x4 m)) ≤ (mtells_k14 x0 x1 x2 x3 x4 m)) = true from decide_eq_true (Nat.le_of_eq (Nat.zero_add _))) (all_t (show decide ((0 + (mtells_k9 x0 x1 x2 x3 x4 m)) ≤ (mtells_k9 x0 x1 x2 x3 x4 m)) = true from decide_eq_true (Nat.le_of_eq (Nat.zero_add _))) (all_t c20 (all_f c15 (all_f c15 (all_f c15 (all_nt c24 (all_nt c24 (all_nt c24 (all_f c27 (all_f c27 (all_f c27 (all_f c27 (all_nt c24 (all_f c27 (all_nt c24 (all_t c34 (all_t c34 (all_t c34 (all_t c34 (all_t (show decide ((0 + (mtells_k12 x0 x1 x2 x3 x4 m)) ≤ (mtells_k12 x0 x1 x2 x3 x4 m)) = true from decide_eq_true (Nat.le_of_eq (Nat.zero_add _))) (all_t (show decide ((0 + (mtells_k9 x0 x1 x2 x3 x4 m)) ≤ (mtells_k9 x0 x1 x2 x3 x4 m)) = true from decide_eq_true (Nat.le_of_eq (Nat.zero_add _))) (all_t c40 (all_nt c24 (all_t c34 (all_nt c24 (all_f c44 all_nil))))))))))))))))))))))))))))))))))))))))) ?_
        intro p hp p2 hq
        rcases List.mem_cons.1 hp with rfl | hp
        · skip
          have h3 := l4_0_ok m (m + 24) x0 x1 x2 x3 x4 0 (([] : Q3)) _ (some_getD (d := l4_0D) c0)
          rw [eq_of_beq c1] at h3
          exact Eq.trans (Eq.mp (by kernel_rfl) h3) hq
        rcases List.mem_cons.1 hp with rfl | hp
        · skip
          have h3 := l4_1_ok m (m + 24) x3 x4 true ((((0 + (mtells_k20 x1)) : Nat) : Int)) 0 ((mtells_k4 x0 x1 x2 x3 x4 m).2.2) ((mtells_k7 x1)) ((mtells_k6 x2)) _ (some_getD (d := l4_1D) c8)
          have h3 := turns_eq (e := (.top :: .top :: .top :: (.d (.int .i64 x3)) :: (.d (.int .i64 x4)) :: .top :: .top :: .top :: .top :: .top :: .top :: (.sr 0 0 (mtells_k23 x0 x1 x2 x3 x4 m) 1 none) :: .top :: (.sr 1 0 (0 + (mtells_k20 x1)) 3 none) :: (.sr 2 0 (0 + (mtells_k24 x2)) 3 none) :: (.d (.bool true)) :: tp41 ((.d (.int .i64 (((0 + (mtells_k20 x1)) : Nat) : Int))) :: (.d (.int .i64 (0))) :: tp238 []))) (B := [(.arr (.sl (.pair .str .str)) (mtells_k4 x0 x1 x2 x3 x4 m).2.2 true), (.arr (.pair (.sl (.pair .str (.pair .str (.int .i64)))) (.pair (.int .i64) (.int .i64))) (mtells_k7 x1) true), (.arr (.pair (.sl (.pair .str (.pair .str (.int .i64)))) (.pair (.sl (.pair .str (.pair .str (.int .i64)))) (.sl .str))) (mtells_k6 x2) true)]) (by unfold l4_1H; (try rw [show (0 + (mtells_k20 x1)) = (mtells_k20 x1) from by simp]); (try rw [show (0 + (mtells_k24 x2)) = (mtells_k24 x2) from by simp]); (try simp only [Nat.zero_add, List.length_nil])) rfl h3
          exact Eq.trans (Eq.mp (by kernel_rfl) h3) hq
        rcases List.mem_cons.1 hp with rfl | hp
        · skip
          have h3 := l4_2_ok m (m + 24) x3 x4 ((mtells_k1 x0 x1 x2 x3 x4 m).2.1) (mtells_k19 x2) 0 (((mtells_k4 x0 x1 x2 x3 x4 m).2.2)) ((mtells_k1 x0 x1 x2 x3 x4 m).2.2.2) (((mtells_k6 x2))) _ (some_getD (d := l4_2D) c9)
          exact Eq.trans (Eq.mp (by kernel_rfl) h3) hq
        rcases List.mem_cons.1 hp with rfl | hp
        · skip
          have h3 := l4_4_ok m (m + 24) x3 x4 ((mtells_k2 x0 x1 x2 x3 x4 m).2.1) (mtells_k16 x0 x1 x2 x3 x4 m) 0 ((((mtells_k4 x0 x1 x2 x3 x4 m).2.2))) (((mtells_k1 x0 x1 x2 x3 x4 m).2.2.2)) ((mtells_k2 x0 x1 x2 x3 x4 m).2.2.2) (([] : Q3)) _ (some_getD (d := l4_4D) c10)
          exact Eq.trans (Eq.mp (by kernel_rfl) h3) hq
        rcases List.mem_cons.1 hp with rfl | hp
        · skip
          have h3 := l4_5_ok m (m + 24) ((mtells_k3 x0 x1 x2 x3 x4 m)) ((mtells_k8 x0 x1 x2 x3 x4 m)) 0 ((mtells_k5 x0 x1 x2 x3 x4 m).2.2) _ (some_getD (d := l4_5D) c45)
          exact Eq.trans (Eq.mp (by kernel_rfl) h3) hq
        cases hp
      · skip
        obtain ⟨c42, h⟩ := iY h
        cases h
        refine runT_ok (LS := (fun k => if k = 6175 then some (l4_0E x0 x1 x2 x3 x4 ((mtells_k4 x0 x1 x2 x3 x4 m).2.1) ((mtells_k4 x0 x1 x2 x3 x4 m).2.2) 0) else if k = 432345564227627032 then some (mtells_k13 x0 x1 x2 x3 x4 m) else if k = 15211807202738752817960438523928 then some (mtells_k11 x0 x1 x2 x3 x4 m) else if k = 38566513062215766613007090216187902460532871850787028048341016 then some (mtells_k10 x0 x1 x2 x3 x4 m) else if k = 11656013353354374425516771440941113439854441034312837127510874458433425711231256231936 then some (mtells_k15 x0 x1 x2 x3 x4 m) else none)) (fn := fn4) (r := .d (.bool true)) (B' := []) (vis := [(6175, l4_0H x0 x1 x2 x3 x4 0 (([] : Q3)), l4_0B x0 x1 x2 x3 x4 0 (([] : Q3))), (432345564227627032, (mtells_e1 x0 x1 x2 x3 x4 m), (mtells_e2 x0 x1 x2 x3 x4 m)), (15211807202738752817960438523928, l4_2H x3 x4 ((mtells_k1 x0 x1 x2 x3 x4 m).2.1) (mtells_k19 x2) 0 (((mtells_k4 x0 x1 x2 x3 x4 m).2.2)) ((mtells_k1 x0 x1 x2 x3 x4 m).2.2.2) (((mtells_k6 x2))), l4_2B x3 x4 ((mtells_k1 x0 x1 x2 x3 x4 m).2.1) (mtells_k19 x2) 0 (((mtells_k4 x0 x1 x2 x3 x4 m).2.2)) ((mtells_k1 x0 x1 x2 x3 x4 m).2.2.2) (((mtells_k6 x2)))), (38566513062215766613007090216187902460532871850787028048341016, l4_4H x3 x4 ((mtells_k2 x0 x1 x2 x3 x4 m).2.1) (mtells_k16 x0 x1 x2 x3 x4 m) 0 ((((mtells_k4 x0 x1 x2 x3 x4 m).2.2))) (((mtells_k1 x0 x1 x2 x3 x4 m).2.2.2)) ((mtells_k2 x0 x1 x2 x3 x4 m).2.2.2) (([] : Q3)), l4_4B x3 x4 ((mtells_k2 x0 x1 x2 x3 x4 m).2.1) (mtells_k16 x0 x1 x2 x3 x4 m) 0 ((((mtells_k4 x0 x1 x2 x3 x4 m).2.2))) (((mtells_k1 x0 x1 x2 x3 x4 m).2.2.2)) ((mtells_k2 x0 x1 x2 x3 x4 m).2.2.2) (([] : Q3))), (11656013353354374425516771440941113439854441034312837127510874458433425711231256231936, l4_5H ((mtells_k3 x0 x1 x2 x3 x4 m)) ((mtells_k8 x0 x1 x2 x3 x4 m)) 0 ((mtells_k5 x0 x1 x2 x3 x4 m).2.2), l4_5B ((mtells_k3 x0 x1 x2 x3 x4 m)) ((mtells_k8 x0 x1 x2 x3 x4 m)) 0 ((mtells_k5 x0 x1 x2 x3 x4 m).2.2))]) (by kernel_rfl) rfl (by kernel_rfl) (M.run_of_path _ [tT, tT, tT, tT, tT, tT, tT, tT, tT, tT, fF, fF, fF, tT, tT, tT, fF, fF, fF, fF, fF, fF, fF, fF, fF, fF, fF, fF, fF, fF, fF, fF, fF, fF, fF, fF, fF] _ _ (by kernel_rfl) (all_t c2 (all_t c3 (all_t rfl (all_t c5 (all_t c6 (all_t rfl (all_t (show decide ((0 + (mtells_k12 x0 x1 x2 x3 x4 m)) ≤ (mtells_k12 x0 x1 x2 x3 x4 m)) = true from decide_eq_true (Nat.le_of_eq (Nat.zero_add _))) (all_t (show decide ((0 + (mtells_k14 x0 x1 x2 x3 x4 m)) ≤ (mtells_k14 x0 x1 x2 x3 x4 m)) = true from decide_eq_true (Nat.le_of_eq (Nat.zero_add _))) (all_t (show decide ((0 + (mtells_k9 x0 x1 x2 x3 x4 m)) ≤ (mtells_k9 x0 x1 x2 x3 x4 m)) = true from decide_eq_true (Nat.le_of_eq (Nat.zero_add _))) (all_t c14 (all_f c15 (all_f c15 (all_f c15 (all_t (show decide ((0 + (mtells_k14 x0 x1 x2 x3 x4 m)) ≤ (mtells_k14 x0 x1 x2 x3 x4 m)) = true from decide_eq_true (Nat.le_of_eq (Nat.zero_add _))) (all_t (show decide ((0 + (mtells_k9 x0 x1 x2 x3 x4 m)) ≤ (mtells_k9 x0 x1 x2 x3 x4 m)) = true from decide_eq_true (Nat.le_of_eq (Nat.zero_add _))) (all_t c20 (all_f c15 (all_f c15 (all_f c15 (all_nt c24 (all_nt c24 (all_nt c24 (all_f c27 (all_f c27 (all_f c27 (all_f c27 (all_nt c24 (all_f c27 (all_nt c24 (all_f c34 (all_f c34 (all_f c34 (all_f c34 (all_nt c24 (all_f c34 (all_nt c24 (all_f Bool.false_ne_true all_nil)))))))))))))))))))))))))))))))))))))) ?_
        intro p hp p2 hq
        rcases List.mem_cons.1 hp with rfl | hp
        · skip
          have h3 := l4_0_ok m (m + 24) x0 x1 x2 x3 x4 0 (([] : Q3)) _ (some_getD (d := l4_0D) c0)
          rw [eq_of_beq c1] at h3
          exact Eq.trans (Eq.mp (by kernel_rfl) h3) hq
        rcases List.mem_cons.1 hp with rfl | hp
        · skip
          have h3 := l4_1_ok m (m + 24) x3 x4 true ((((0 + (mtells_k20 x1)) : Nat) : Int)) 0 ((mtells_k4 x0 x1 x2 x3 x4 m).2.2) ((mtells_k7 x1)) ((mtells_k6 x2)) _ (some_getD (d := l4_1D) c8)
          have h3 := turns_eq (e := (.top :: .top :: .top :: (.d (.int .i64 x3)) :: (.d (.int .i64 x4)) :: .top :: .top :: .top :: .top :: .top :: .top :: (.sr 0 0 (mtells_k23 x0 x1 x2 x3 x4 m) 1 none) :: .top :: (.sr 1 0 (0 + (mtells_k20 x1)) 3 none) :: (.sr 2 0 (0 + (mtells_k24 x2)) 3 none) :: (.d (.bool true)) :: tp41 ((.d (.int .i64 (((0 + (mtells_k20 x1)) : Nat) : Int))) :: (.d (.int .i64 (0))) :: tp238 []))) (B := [(.arr (.sl (.pair .str .str)) (mtells_k4 x0 x1 x2 x3 x4 m).2.2 true), (.arr (.pair (.sl (.pair .str (.pair .str (.int .i64)))) (.pair (.int .i64) (.int .i64))) (mtells_k7 x1) true), (.arr (.pair (.sl (.pair .str (.pair .str (.int .i64)))) (.pair (.sl (.pair .str (.pair .str (.int .i64)))) (.sl .str))) (mtells_k6 x2) true)]) (by unfold l4_1H; (try rw [show (0 + (mtells_k20 x1)) = (mtells_k20 x1) from by simp]); (try rw [show (0 + (mtells_k24 x2)) = (mtells_k24 x2) from by simp]); (try simp only [Nat.zero_add, List.length_nil])) rfl h3
          exact Eq.trans (Eq.mp (by kernel_rfl) h3) hq
        rcases List.mem_cons.1 hp with rfl | hp
        · skip
          have h3 := l4_2_ok m (m + 24) x3 x4 ((mtells_k1 x0 x1 x2 x3 x4 m).2.1) (mtells_k19 x2) 0 (((mtells_k4 x0 x1 x2 x3 x4 m).2.2)) ((mtells_k1 x0 x1 x2 x3 x4 m).2.2.2) (((mtells_k6 x2))) _ (some_getD (d := l4_2D) c9)
          exact Eq.trans (Eq.mp (by kernel_rfl) h3) hq
        rcases List.mem_cons.1 hp with rfl | hp
        · skip
          have h3 := l4_4_ok m (m + 24) x3 x4 ((mtells_k2 x0 x1 x2 x3 x4 m).2.1) (mtells_k16 x0 x1 x2 x3 x4 m) 0 ((((mtells_k4 x0 x1 x2 x3 x4 m).2.2))) (((mtells_k1 x0 x1 x2 x3 x4 m).2.2.2)) ((mtells_k2 x0 x1 x2 x3 x4 m).2.2.2) (([] : Q3)) _ (some_getD (d := l4_4D) c10)
          exact Eq.trans (Eq.mp (by kernel_rfl) h3) hq
        rcases List.mem_cons.1 hp with rfl | hp
        · skip
          have h3 := l4_5_ok m (m + 24) ((mtells_k3 x0 x1 x2 x3 x4 m)) ((mtells_k8 x0 x1 x2 x3 x4 m)) 0 ((mtells_k5 x0 x1 x2 x3 x4 m).2.2) _ (some_getD (d := l4_5D) c42)
          exact Eq.trans (Eq.mp (by kernel_rfl) h3) hq
        cases hp
  · skip
    obtain ⟨c2, h⟩ := iY h
    obtain ⟨c3, h⟩ := iY h
    obtain ⟨c4, h⟩ := iY h
    obtain ⟨c6, h⟩ := iY h
    obtain ⟨c7, h⟩ := iY h
    obtain ⟨c9, h⟩ := iY h
    obtain ⟨c10, h⟩ := iY h
    obtain ⟨c11, h⟩ := iY h
    obtain ⟨c15, h⟩ := iY h
    refine ite_cases h (fun _ h => by cases h) (fun c16 h => ?_)
    obtain ⟨c21, h⟩ := iY h
    obtain ⟨c25, h⟩ := iY h
    refine ite_cases h (fun c28 h => ?_) (fun c28 h => ?_)
    · skip
      obtain ⟨c41, h⟩ := iY h
      refine ite_cases h (fun _ h => by cases h) (fun c45 h => ?_)
      obtain ⟨c46, h⟩ := iY h
      cases h
      refine runT_ok (LS := (fun k => if k = 6175 then some (l4_0E x0 x1 x2 x3 x4 ((mtells_k4 x0 x1 x2 x3 x4 m).2.1) ((mtells_k4 x0 x1 x2 x3 x4 m).2.2) 1) else if k = 432345564227627032 then some (mtells_k13 x0 x1 x2 x3 x4 m) else if k = 15211807202738752817960438523928 then some (mtells_k11 x0 x1 x2 x3 x4 m) else if k = 38566513062215766613007090216187902460532871850787028048341016 then some (mtells_k10 x0 x1 x2 x3 x4 m) else if k = 11656013353354374425516771440941113439854441034312837127510874458433425711231256231936 then some (mtells_k15 x0 x1 x2 x3 x4 m) else none)) (fn := fn4) (r := .d (.bool true)) (B' := []) (vis := [(6175, l4_0H x0 x1 x2 x3 x4 0 (([] : Q3)), l4_0B x0 x1 x2 x3 x4 0 (([] : Q3))), (432345564227627032, (mtells_e1 x0 x1 x2 x3 x4 m), (mtells_e2 x0 x1 x2 x3 x4 m)), (15211807202738752817960438523928, l4_2H x3 x4 ((mtells_k1 x0 x1 x2 x3 x4 m).2.1) (mtells_k19 x2) 0 (((mtells_k4 x0 x1 x2 x3 x4 m).2.2)) ((mtells_k1 x0 x1 x2 x3 x4 m).2.2.2) (((mtells_k6 x2))), l4_2B x3 x4 ((mtells_k1 x0 x1 x2 x3 x4 m).2.1) (mtells_k19 x2) 0 (((mtells_k4 x0 x1 x2 x3 x4 m).2.2)) ((mtells_k1 x0 x1 x2 x3 x4 m).2.2.2) (((mtells_k6 x2)))), (38566513062215766613007090216187902460532871850787028048341016, l4_4H x3 x4 ((mtells_k2 x0 x1 x2 x3 x4 m).2.1) (mtells_k16 x0 x1 x2 x3 x4 m) 0 ((((mtells_k4 x0 x1 x2 x3 x4 m).2.2))) (((mtells_k1 x0 x1 x2 x3 x4 m).2.2.2)) ((mtells_k2 x0 x1 x2 x3 x4 m).2.2.2) (([] : Q3)), l4_4B x3 x4 ((mtells_k2 x0 x1 x2 x3 x4 m).2.1) (mtells_k16 x0 x1 x2 x3 x4 m) 0 ((((mtells_k4 x0 x1 x2 x3 x4 m).2.2))) (((mtells_k1 x0 x1 x2 x3 x4 m).2.2.2)) ((mtells_k2 x0 x1 x2 x3 x4 m).2.2.2) (([] : Q3))), (11656013353354374425516771440941113439854441034312837127510874458433425711231256231936, l4_5H ((mtells_k3 x0 x1 x2 x3 x4 m)) ((mtells_k8 x0 x1 x2 x3 x4 m)) 0 ((mtells_k5 x0 x1 x2 x3 x4 m).2.2), l4_5B ((mtells_k3 x0 x1 x2 x3 x4 m)) ((mtells_k8 x0 x1 x2 x3 x4 m)) 0 ((mtells_k5 x0 x1 x2 x3 x4 m).2.2))]) (by kernel_rfl) rfl (by kernel_rfl) (M.run_of_path _ [tT, tT, tT, tT, tT, tT, tT, tT, tT, tT, fF, fF, fF, tT, tT, tT, fF, fF, fF, fF, fF, fF, tT, tT, tT, tT, fF, tT, fF, tT, tT, tT, tT, tT, tT, tT, fF, tT, fF, fF] _ _ (by kernel_rfl) (all_t c3 (all_t c4 (all_t rfl (all_t c6 (all_t c7 (all_t rfl (all_t (show decide ((0 + (mtells_k12 x0 x1 x2 x3 x4 m)) ≤ (mtells_k12 x0 x1 x2 x3 x4 m)) = true from decide_eq_true (Nat.le_of_eq (Nat.zero_add _))) (all_t (show decide ((0 + (mtells_k14 x0 x1 x2 x3 x4 m)) ≤ (mtells_k14 x0 x1 x2 x3 x4 m)) = true from decide_eq_true (Nat.le_of_eq (Nat.zero_add _))) (all_t (show decide ((0 + (mtells_k9 x0 x1 x2 x3 x4 m)) ≤ (mtells_k9 x0 x1 x2 x3 x4 m)) = true from decide_eq_true (Nat.le_of_eq (Nat.zero_add _))) (all_t c15 (all_f c16 (all_f c16 (all_f c16 (all_t (show decide ((0 + (mtells_k14 x0 x1 x2 x3 x4 m)) ≤ (mtells_k14 x0 x1 x2 x3 x4 m)) = true from decide_eq_true (Nat.le_of_eq (Nat.zero_add _))) (all_t (show decide ((0 + (mtells_k9 x0 x1 x2 x3 x4 m)) ≤ (mtells_k9 x0 x1 x2 x3 x4 m)) = true from decide_eq_true (Nat.le_of_eq (Nat.zero_add _))) (all_t c21 (all_f c16 (all_f c16 (all_f c16 (all_nt c25 (all_nt c25 (all_nt c25 (all_t c28 (all_t c28 (all_t c28 (all_t c28 (all_nt c25 (all_t c28 (all_nt c25 (all_t rfl (all_t rfl (all_t rfl (all_t rfl (all_t (show decide ((0 + (mtells_k12 x0 x1 x2 x3 x4 m)) ≤ (mtells_k12 x0 x1 x2 x3 x4 m)) = true from decide_eq_true (Nat.le_of_eq (Nat.zero_add _))) (all_t (show decide ((0 + (mtells_k9 x0 x1 x2 x3 x4 m)) ≤ (mtells_k9 x0 x1 x2 x3 x4 m)) = true from decide_eq_true (Nat.le_of_eq (Nat.zero_add _))) (all_t c41 (all_nt c25 (all_t rfl (all_nt c25 (all_f c45 all_nil))))))))))))))))))))))))))))))))))))))))) ?_
      intro p hp p2 hq
      rcases List.mem_cons.1 hp with rfl | hp
      · skip
        have h3 := l4_0_ok m (m + 24) x0 x1 x2 x3 x4 0 (([] : Q3)) _ (some_getD (d := l4_0D) c0)
        rw [eq_of_beq c2] at h3
        exact Eq.trans (Eq.mp (by kernel_rfl) h3) hq
      rcases List.mem_cons.1 hp with rfl | hp
      · skip
        have h3 := l4_1_ok m (m + 24) x3 x4 true ((((0 + (mtells_k20 x1)) : Nat) : Int)) 0 ((mtells_k4 x0 x1 x2 x3 x4 m).2.2) ((mtells_k7 x1)) ((mtells_k6 x2)) _ (some_getD (d := l4_1D) c9)
        have h3 := turns_eq (e := (.top :: .top :: .top :: (.d (.int .i64 x3)) :: (.d (.int .i64 x4)) :: .top :: .top :: .top :: .top :: .top :: .top :: (.sr 0 0 (mtells_k23 x0 x1 x2 x3 x4 m) 1 none) :: .top :: (.sr 1 0 (0 + (mtells_k20 x1)) 3 none) :: (.sr 2 0 (0 + (mtells_k24 x2)) 3 none) :: (.d (.bool true)) :: tp41 ((.d (.int .i64 (((0 + (mtells_k20 x1)) : Nat) : Int))) :: (.d (.int .i64 (0))) :: tp238 []))) (B := [(.arr (.sl (.pair .str .str)) (mtells_k4 x0 x1 x2 x3 x4 m).2.2 true), (.arr (.pair (.sl (.pair .str (.pair .str (.int .i64)))) (.pair (.int .i64) (.int .i64))) (mtells_k7 x1) true), (.arr (.pair (.sl (.pair .str (.pair .str (.int .i64)))) (.pair (.sl (.pair .str (.pair .str (.int .i64)))) (.sl .str))) (mtells_k6 x2) true)]) (by unfold l4_1H; (try rw [show (0 + (mtells_k20 x1)) = (mtells_k20 x1) from by simp]); (try rw [show (0 + (mtells_k24 x2)) = (mtells_k24 x2) from by simp]); (try simp only [Nat.zero_add, List.length_nil])) rfl h3
        exact Eq.trans (Eq.mp (by kernel_rfl) h3) hq
      rcases List.mem_cons.1 hp with rfl | hp
      · skip
        have h3 := l4_2_ok m (m + 24) x3 x4 ((mtells_k1 x0 x1 x2 x3 x4 m).2.1) (mtells_k19 x2) 0 (((mtells_k4 x0 x1 x2 x3 x4 m).2.2)) ((mtells_k1 x0 x1 x2 x3 x4 m).2.2.2) (((mtells_k6 x2))) _ (some_getD (d := l4_2D) c10)
        exact Eq.trans (Eq.mp (by kernel_rfl) h3) hq
      rcases List.mem_cons.1 hp with rfl | hp
      · skip
        have h3 := l4_4_ok m (m + 24) x3 x4 ((mtells_k2 x0 x1 x2 x3 x4 m).2.1) (mtells_k16 x0 x1 x2 x3 x4 m) 0 ((((mtells_k4 x0 x1 x2 x3 x4 m).2.2))) (((mtells_k1 x0 x1 x2 x3 x4 m).2.2.2)) ((mtells_k2 x0 x1 x2 x3 x4 m).2.2.2) (([] : Q3)) _ (some_getD (d := l4_4D) c11)
        exact Eq.trans (Eq.mp (by kernel_rfl) h3) hq
      rcases List.mem_cons.1 hp with rfl | hp
      · skip
        have h3 := l4_5_ok m (m + 24) ((mtells_k3 x0 x1 x2 x3 x4 m)) ((mtells_k8 x0 x1 x2 x3 x4 m)) 0 ((mtells_k5 x0 x1 x2 x3 x4 m).2.2) _ (some_getD (d := l4_5D) c46)
        exact Eq.trans (Eq.mp (by kernel_rfl) h3) hq
      cases hp
    · skip
      refine ite_cases h (fun c35 h => ?_) (fun c35 h => ?_)
      · skip
        obtain ⟨c41, h⟩ := iY h
        refine ite_cases h (fun _ h => by cases h) (fun c45 h => ?_)
        obtain ⟨c46, h⟩ := iY h
        cases h
        refine runT_ok (LS := (fun k => if k = 6175 then some (l4_0E x0 x1 x2 x3 x4 ((mtells_k4 x0 x1 x2 x3 x4 m).2.1) ((mtells_k4 x0 x1 x2 x3 x4 m).2.2) 1) else if k = 432345564227627032 then some (mtells_k13 x0 x1 x2 x3 x4 m) else if k = 15211807202738752817960438523928 then some (mtells_k11 x0 x1 x2 x3 x4 m) else if k = 38566513062215766613007090216187902460532871850787028048341016 then some (mtells_k10 x0 x1 x2 x3 x4 m) else if k = 11656013353354374425516771440941113439854441034312837127510874458433425711231256231936 then some (mtells_k15 x0 x1 x2 x3 x4 m) else none)) (fn := fn4) (r := .d (.bool true)) (B' := []) (vis := [(6175, l4_0H x0 x1 x2 x3 x4 0 (([] : Q3)), l4_0B x0 x1 x2 x3 x4 0 (([] : Q3))), (432345564227627032, (mtells_e1 x0 x1 x2 x3 x4 m), (mtells_e2 x0 x1 x2 x3 x4 m)), (15211807202738752817960438523928, l4_2H x3 x4 ((mtells_k1 x0 x1 x2 x3 x4 m).2.1) (mtells_k19 x2) 0 (((mtells_k4 x0 x1 x2 x3 x4 m).2.2)) ((mtells_k1 x0 x1 x2 x3 x4 m).2.2.2) (((mtells_k6 x2))), l4_2B x3 x4 ((mtells_k1 x0 x1 x2 x3 x4 m).2.1) (mtells_k19 x2) 0 (((mtells_k4 x0 x1 x2 x3 x4 m).2.2)) ((mtells_k1 x0 x1 x2 x3 x4 m).2.2.2) (((mtells_k6 x2)))), (38566513062215766613007090216187902460532871850787028048341016, l4_4H x3 x4 ((mtells_k2 x0 x1 x2 x3 x4 m).2.1) (mtells_k16 x0 x1 x2 x3 x4 m) 0 ((((mtells_k4 x0 x1 x2 x3 x4 m).2.2))) (((mtells_k1 x0 x1 x2 x3 x4 m).2.2.2)) ((mtells_k2 x0 x1 x2 x3 x4 m).2.2.2) (([] : Q3)), l4_4B x3 x4 ((mtells_k2 x0 x1 x2 x3 x4 m).2.1) (mtells_k16 x0 x1 x2 x3 x4 m) 0 ((((mtells_k4 x0 x1 x2 x3 x4 m).2.2))) (((mtells_k1 x0 x1 x2 x3 x4 m).2.2.2)) ((mtells_k2 x0 x1 x2 x3 x4 m).2.2.2) (([] : Q3))), (11656013353354374425516771440941113439854441034312837127510874458433425711231256231936, l4_5H ((mtells_k3 x0 x1 x2 x3 x4 m)) ((mtells_k8 x0 x1 x2 x3 x4 m)) 0 ((mtells_k5 x0 x1 x2 x3 x4 m).2.2), l4_5B ((mtells_k3 x0 x1 x2 x3 x4 m)) ((mtells_k8 x0 x1 x2 x3 x4 m)) 0 ((mtells_k5 x0 x1 x2 x3 x4 m).2.2))]) (by kernel_rfl) rfl (by kernel_rfl) (M.run_of_path _ [tT, tT, tT, tT, tT, tT, tT, tT, tT, tT, fF, fF, fF, tT, tT, tT, fF, fF, fF, fF, fF, fF, fF, fF, fF, fF, fF, fF, fF, tT, tT, tT, tT, tT, tT, tT, fF, tT, fF, fF] _ _ (by kernel_rfl) (all_t c3 (all_t c4 (all_t rfl (all_t c6 (all_t c7 (all_t rfl (all_t (show decide ((0 + (mtells_k12 x0 x1 x2 x3 x4 m)) ≤ (mtells_k12 x0 x1 x2 x3 x4 m)) = true from decide_eq_true (Nat.le_of_eq (Nat.zero_add _))) (all_t (show decide ((0 + (mtells_k14 x0 x1 x2 x3 x4 m)) ≤ (mtells_k14 x0 x1 x2 x3 x4 m)) = true from decide_eq_true (Nat.le_of_eq (Nat.zero_add _))) (all_t (show decide ((0 + (mtells_k9 x0 x1 x2 x3 x4 m)) ≤ (mtells_k9 x0 x1 x2 x3 x4 m)) = true from decide_eq_true (Nat.le_of_eq (Nat.zero_add _))) (all_t c15 (all_f c16 (all_f c16 (all_f c16 (all_t (show decide ((0 + (mtells_k14 x0 x1 x2 x3 x4 m)) ≤ (mtells_k14 x0 x1 x2 x3 x4 m)) = true from decide_eq_true (Nat.le_of_eq (Nat.zero_add _))) (all_t (show decide ((0 + (mtells_k9 x0 x1 x2 x3 x4 m)) ≤ (mtells_k9 x0 x1 x2 x3 x4 m)) = true from decide_eq_true (Nat.le_of_eq (Nat.zero_add _))) (all_t c21 (all_f c16 (all_f c16 (all_f c16 (all_nt c25 (all_nt c25 (all_nt c25 (all_f c28 (all_f c28 (all_f c28 (all_f c28 (all_nt c25 (all_f c28 (all_nt c25 (all_t c35 (all_t c35 (all_t c35 (all_t c35 (all_t (show decide ((0 + (mtells_k12 x0 x1 x2 x3 x4 m)) ≤ (mtells_k12 x0 x1 x2 x3 x4 m)) = true from decide_eq_true (Nat.le_of_eq (Nat.zero_add _))) (all_t (show decide ((0 + (mtells_k9 x0 x1 x2 x3 x4 m)) ≤ (mtells_k9 x0 x1 x2 x3 x4 m)) = true from decide_eq_true (Nat.le_of_eq (Nat.zero_add _))) (all_t c41 (all_nt c25 (all_t c35 (all_nt c25 (all_f c45 all_nil))))))))))))))))))))))))))))))))))))))))) ?_
        intro p hp p2 hq
        rcases List.mem_cons.1 hp with rfl | hp
        · skip
          have h3 := l4_0_ok m (m + 24) x0 x1 x2 x3 x4 0 (([] : Q3)) _ (some_getD (d := l4_0D) c0)
          rw [eq_of_beq c2] at h3
          exact Eq.trans (Eq.mp (by kernel_rfl) h3) hq
        rcases List.mem_cons.1 hp with rfl | hp
        · skip
          have h3 := l4_1_ok m (m + 24) x3 x4 true ((((0 + (mtells_k20 x1)) : Nat) : Int)) 0 ((mtells_k4 x0 x1 x2 x3 x4 m).2.2) ((mtells_k7 x1)) ((mtells_k6 x2)) _ (some_getD (d := l4_1D) c9)
          have h3 := turns_eq (e := (.top :: .top :: .top :: (.d (.int .i64 x3)) :: (.d (.int .i64 x4)) :: .top :: .top :: .top :: .top :: .top :: .top :: (.sr 0 0 (mtells_k23 x0 x1 x2 x3 x4 m) 1 none) :: .top :: (.sr 1 0 (0 + (mtells_k20 x1)) 3 none) :: (.sr 2 0 (0 + (mtells_k24 x2)) 3 none) :: (.d (.bool true)) :: tp41 ((.d (.int .i64 (((0 + (mtells_k20 x1)) : Nat) : Int))) :: (.d (.int .i64 (0))) :: tp238 []))) (B := [(.arr (.sl (.pair .str .str)) (mtells_k4 x0 x1 x2 x3 x4 m).2.2 true), (.arr (.pair (.sl (.pair .str (.pair .str (.int .i64)))) (.pair (.int .i64) (.int .i64))) (mtells_k7 x1) true), (.arr (.pair (.sl (.pair .str (.pair .str (.int .i64)))) (.pair (.sl (.pair .str (.pair .str (.int .i64)))) (.sl .str))) (mtells_k6 x2) true)]) (by unfold l4_1H; (try rw [show (0 + (mtells_k20 x1)) = (mtells_k20 x1) from by simp]); (try rw [show (0 + (mtells_k24 x2)) = (mtells_k24 x2) from by simp]); (try simp only [Nat.zero_add, List.length_nil])) rfl h3
          exact Eq.trans (Eq.mp (by kernel_rfl) h3) hq
        rcases List.mem_cons.1 hp with rfl | hp
        · skip
          have h3 := l4_2_ok m (m + 24) x3 x4 ((mtells_k1 x0 x1 x2 x3 x4 m).2.1) (mtells_k19 x2) 0 (((mtells_k4 x0 x1 x2 x3 x4 m).2.2)) ((mtells_k1 x0 x1 x2 x3 x4 m).2.2.2) (((mtells_k6 x2))) _ (some_getD (d := l4_2D) c10)
          exact Eq.trans (Eq.mp (by kernel_rfl) h3) hq
        rcases List.mem_cons.1 hp with rfl | hp
        · skip
          have h3 := l4_4_ok m (m + 24) x3 x4 ((mtells_k2 x0 x1 x2 x3 x4 m).2.1) (mtells_k16 x0 x1 x2 x3 x4 m) 0 ((((mtells_k4 x0 x1 x2 x3 x4 m).2.2))) (((mtells_k1 x0 x1 x2 x3 x4 m).2.2.2)) ((mtells_k2 x0 x1 x2 x3 x4 m).2.2.2) (([] : Q3)) _ (some_getD (d := l4_4D) c11)
          exact Eq.trans (Eq.mp (by kernel_rfl) h3) hq
        rcases List.mem_cons.1 hp with rfl | hp
        · skip
          have h3 := l4_5_ok m (m + 24) ((mtells_k3 x0 x1 x2 x3 x4 m)) ((mtells_k8 x0 x1 x2 x3 x4 m)) 0 ((mtells_k5 x0 x1 x2 x3 x4 m).2.2) _ (some_getD (d := l4_5D) c46)
          exact Eq.trans (Eq.mp (by kernel_rfl) h3) hq
        cases hp
      · skip
        obtain ⟨c43, h⟩ := iY h
        cases h
        refine runT_ok (LS := (fun k => if k = 6175 then some (l4_0E x0 x1 x2 x3 x4 ((mtells_k4 x0 x1 x2 x3 x4 m).2.1) ((mtells_k4 x0 x1 x2 x3 x4 m).2.2) 1) else if k = 432345564227627032 then some (mtells_k13 x0 x1 x2 x3 x4 m) else if k = 15211807202738752817960438523928 then some (mtells_k11 x0 x1 x2 x3 x4 m) else if k = 38566513062215766613007090216187902460532871850787028048341016 then some (mtells_k10 x0 x1 x2 x3 x4 m) else if k = 11656013353354374425516771440941113439854441034312837127510874458433425711231256231936 then some (mtells_k15 x0 x1 x2 x3 x4 m) else none)) (fn := fn4) (r := .d (.bool true)) (B' := []) (vis := [(6175, l4_0H x0 x1 x2 x3 x4 0 (([] : Q3)), l4_0B x0 x1 x2 x3 x4 0 (([] : Q3))), (432345564227627032, (mtells_e1 x0 x1 x2 x3 x4 m), (mtells_e2 x0 x1 x2 x3 x4 m)), (15211807202738752817960438523928, l4_2H x3 x4 ((mtells_k1 x0 x1 x2 x3 x4 m).2.1) (mtells_k19 x2) 0 (((mtells_k4 x0 x1 x2 x3 x4 m).2.2)) ((mtells_k1 x0 x1 x2 x3 x4 m).2.2.2) (((mtells_k6 x2))), l4_2B x3 x4 ((mtells_k1 x0 x1 x2 x3 x4 m).2.1) (mtells_k19 x2) 0 (((mtells_k4 x0 x1 x2 x3 x4 m).2.2)) ((mtells_k1 x0 x1 x2 x3 x4 m).2.2.2) (((mtells_k6 x2)))), (38566513062215766613007090216187902460532871850787028048341016, l4_4H x3 x4 ((mtells_k2 x0 x1 x2 x3 x4 m).2.1) (mtells_k16 x0 x1 x2 x3 x4 m) 0 ((((mtells_k4 x0 x1 x2 x3 x4 m).2.2))) (((mtells_k1 x0 x1 x2 x3 x4 m).2.2.2)) ((mtells_k2 x0 x1 x2 x3 x4 m).2.2.2) (([] : Q3)), l4_4B x3 x4 ((mtells_k2 x0 x1 x2 x3 x4 m).2.1) (mtells_k16 x0 x1 x2 x3 x4 m) 0 ((((mtells_k4 x0 x1 x2 x3 x4 m).2.2))) (((mtells_k1 x0 x1 x2 x3 x4 m).2.2.2)) ((mtells_k2 x0 x1 x2 x3 x4 m).2.2.2) (([] : Q3))), (11656013353354374425516771440941113439854441034312837127510874458433425711231256231936, l4_5H ((mtells_k3 x0 x1 x2 x3 x4 m)) ((mtells_k8 x0 x1 x2 x3 x4 m)) 0 ((mtells_k5 x0 x1 x2 x3 x4 m).2.2), l4_5B ((mtells_k3 x0 x1 x2 x3 x4 m)) ((mtells_k8 x0 x1 x2 x3 x4 m)) 0 ((mtells_k5 x0 x1 x2 x3 x4 m).2.2))]) (by kernel_rfl) rfl (by kernel_rfl) (M.run_of_path _ [tT, tT, tT, tT, tT, tT, tT, tT, tT, tT, fF, fF, fF, tT, tT, tT, fF, fF, fF, fF, fF, fF, fF, fF, fF, fF, fF, fF, fF, fF, fF, fF, fF, fF, fF, fF, fF] _ _ (by kernel_rfl) (all_t c3 (all_t c4 (all_t rfl (all_t c6 (all_t c7 (all_t rfl (all_t (show decide ((0 + (mtells_k12 x0 x1 x2 x3 x4 m)) ≤ (mtells_k12 x0 x1 x2 x3 x4 m)) = true from decide_eq_true (Nat.le_of_eq (Nat.zero_add _))) (all_t (show decide ((0 + (mtells_k14 x0 x1 x2 x3 x4 m)) ≤ (mtells_k14 x0 x1 x2 x3 x4 m)) = true from decide_eq_true (Nat.le_of_eq (Nat.zero_add _))) (all_t (show decide ((0 + (mtells_k9 x0 x1 x2 x3 x4 m)) ≤ (mtells_k9 x0 x1 x2 x3 x4 m)) = true from decide_eq_true (Nat.le_of_eq (Nat.zero_add _))) (all_t c15 (all_f c16 (all_f c16 (all_f c16 (all_t (show decide ((0 + (mtells_k14 x0 x1 x2 x3 x4 m)) ≤ (mtells_k14 x0 x1 x2 x3 x4 m)) = true from decide_eq_true (Nat.le_of_eq (Nat.zero_add _))) (all_t (show decide ((0 + (mtells_k9 x0 x1 x2 x3 x4 m)) ≤ (mtells_k9 x0 x1 x2 x3 x4 m)) = true from decide_eq_true (Nat.le_of_eq (Nat.zero_add _))) (all_t c21 (all_f c16 (all_f c16 (all_f c16 (all_nt c25 (all_nt c25 (all_nt c25 (all_f c28 (all_f c28 (all_f c28 (all_f c28 (all_nt c25 (all_f c28 (all_nt c25 (all_f c35 (all_f c35 (all_f c35 (all_f c35 (all_nt c25 (all_f c35 (all_nt c25 (all_f Bool.false_ne_true all_nil)))))))))))))))))))))))))))))))))))))) ?_
        intro p hp p2 hq
        rcases List.mem_cons.1 hp with rfl | hp
        · skip
          have h3 := l4_0_ok m (m + 24) x0 x1 x2 x3 x4 0 (([] : Q3)) _ (some_getD (d := l4_0D) c0)
          rw [eq_of_beq c2] at h3
          exact Eq.trans (Eq.mp (by kernel_rfl) h3) hq
        rcases List.mem_cons.1 hp with rfl | hp
        · skip
          have h3 := l4_1_ok m (m + 24) x3 x4 true ((((0 + (mtells_k20 x1)) : Nat) : Int)) 0 ((mtells_k4 x0 x1 x2 x3 x4 m).2.2) ((mtells_k7 x1)) ((mtells_k6 x2)) _ (some_getD (d := l4_1D) c9)
          have h3 := turns_eq (e := (.top :: .top :: .top :: (.d (.int .i64 x3)) :: (.d (.int .i64 x4)) :: .top :: .top :: .top :: .top :: .top :: .top :: (.sr 0 0 (mtells_k23 x0 x1 x2 x3 x4 m) 1 none) :: .top :: (.sr 1 0 (0 + (mtells_k20 x1)) 3 none) :: (.sr 2 0 (0 + (mtells_k24 x2)) 3 none) :: (.d (.bool true)) :: tp41 ((.d (.int .i64 (((0 + (mtells_k20 x1)) : Nat) : Int))) :: (.d (.int .i64 (0))) :: tp238 []))) (B := [(.arr (.sl (.pair .str .str)) (mtells_k4 x0 x1 x2 x3 x4 m).2.2 true), (.arr (.pair (.sl (.pair .str (.pair .str (.int .i64)))) (.pair (.int .i64) (.int .i64))) (mtells_k7 x1) true), (.arr (.pair (.sl (.pair .str (.pair .str (.int .i64)))) (.pair (.sl (.pair .str (.pair .str (.int .i64)))) (.sl .str))) (mtells_k6 x2) true)]) (by unfold l4_1H; (try rw [show (0 + (mtells_k20 x1)) = (mtells_k20 x1) from by simp]); (try rw [show (0 + (mtells_k24 x2)) = (mtells_k24 x2) from by simp]); (try simp only [Nat.zero_add, List.length_nil])) rfl h3
          exact Eq.trans (Eq.mp (by kernel_rfl) h3) hq
        rcases List.mem_cons.1 hp with rfl | hp
        · skip
          have h3 := l4_2_ok m (m + 24) x3 x4 ((mtells_k1 x0 x1 x2 x3 x4 m).2.1) (mtells_k19 x2) 0 (((mtells_k4 x0 x1 x2 x3 x4 m).2.2)) ((mtells_k1 x0 x1 x2 x3 x4 m).2.2.2) (((mtells_k6 x2))) _ (some_getD (d := l4_2D) c10)
          exact Eq.trans (Eq.mp (by kernel_rfl) h3) hq
        rcases List.mem_cons.1 hp with rfl | hp
        · skip
          have h3 := l4_4_ok m (m + 24) x3 x4 ((mtells_k2 x0 x1 x2 x3 x4 m).2.1) (mtells_k16 x0 x1 x2 x3 x4 m) 0 ((((mtells_k4 x0 x1 x2 x3 x4 m).2.2))) (((mtells_k1 x0 x1 x2 x3 x4 m).2.2.2)) ((mtells_k2 x0 x1 x2 x3 x4 m).2.2.2) (([] : Q3)) _ (some_getD (d := l4_4D) c11)
          exact Eq.trans (Eq.mp (by kernel_rfl) h3) hq
        rcases List.mem_cons.1 hp with rfl | hp
        · skip
          have h3 := l4_5_ok m (m + 24) ((mtells_k3 x0 x1 x2 x3 x4 m)) ((mtells_k8 x0 x1 x2 x3 x4 m)) 0 ((mtells_k5 x0 x1 x2 x3 x4 m).2.2) _ (some_getD (d := l4_5D) c43)
          exact Eq.trans (Eq.mp (by kernel_rfl) h3) hq
        cases hp
theorem mtells_at (x0 : Q6) (x1 : Q2) (x2 : Q0) (x3 : Int) (x4 : Int) (h : ∃ m q, mtells m x0 x1 x2 x3 x4 = some q) : ∃ g B', CallAt Tryd.prog 4 g ∧ (g [(.d (.sl (.pair (.sl (.int .i64)) (.sl (.int .i64))) x0)), (.d (.sl (.pair (.sl (.pair .str (.pair .str (.int .i64)))) (.pair (.int .i64) (.int .i64))) x1)), (.d (.sl (.pair (.sl (.pair .str (.pair .str (.int .i64)))) (.pair (.sl (.pair .str (.pair .str (.int .i64)))) (.sl .str))) x2)), (.d (.int .i64 x3)), (.d (.int .i64 x4))] []).run = some (.d (.bool true), B') := by
  obtain ⟨m, q, h⟩ := h
  exact ⟨_, _, evCall_atH mixed kinds hds S28 S28_ok (m + 25) 4, mtells_ok m x0 x1 x2 x3 x4 q h⟩

end Go.Proofs.YtghkbjflejgieaaDoor.Dec
