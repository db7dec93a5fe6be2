/- Group. VecGroups, as a plain function. VecGroups: its plain law. -/
import Derived.Test.YtahdcmicifokgaaDoorQF6
import Derived.KernelRfl
namespace Go.Proofs.YtahdcmicifokgaaDoor.Dec
open Go.Ev
set_option linter.unusedVariables false
set_option linter.unusedSimpArgs false
set_option maxRecDepth 100000
set_option maxHeartbeats 20000000
noncomputable def S34 : FuncId → Option (List AV → Boxes → M (AV × Boxes)) := fun f => if f = 39 then none else S33 f
theorem S34_ok : ∀ f s, S34 f = some s → CallAt Tryd.prog f s := by
  intro f s h
  unfold S34 at h
  split at h
  · cases h
  · exact S33_ok f s h

def l39_0g (m : Nat) : Nat → Q0 → Q2 → Int → Int → Option (Nat × Int)
  | 0, _, _, _, _ => none
  | n + 1, x0, x1, s7, s8 => if decide (s8 < s7) = true then
      if decide (0 ≤ s8) = true then
      if decide (s8 < (((List.length x0) : Nat) : Int)) = true then
      if decide ((0 + (Int.toNat s8)) < (List.length x0)) = true then
      if decide (List.length (List.getD x0 (0 + (Int.toNat s8)) (([] : Q2), 0)).1 < 4611686018427387904) = true then
      if ((show Q2 from (List.getD x0 (0 + (Int.toNat s8)) (([] : Q2), 0)).1) == x1) = true then
        some (0, s8)
      else
        l39_0g m n x0 x1 s7 ((IntKind.wrap .i64 (s8 + (1))))
      else none
      else none
      else none
      else none
    else
      some (1, s8)
def l39_0gD : Nat × Int := (0, 0)
@[reducible] def l39_0gR (m n : Nat) (x0 : Q0) (x1 : Q2) (s7 : Int) (s8 : Int) : Nat × Int := Option.getD (l39_0g m n x0 x1 s7 s8) l39_0gD
def l39_0gH (x0 : Q0) (x1 : Q2) (s7 : Int) (s8 : Int) : Env := ((.sr 0 0 (List.length x0) 2 none) :: (.fn 40 [(.ptr 1 0)]) :: .top :: .top :: .top :: .top :: .top :: (.d (.int .i64 s7)) :: (.d (.int .i64 s8)) :: tp10 [])
def l39_0gB (x0 : Q0) (x1 : Q2) (s7 : Int) (s8 : Int) : Boxes := [(.arr (.pair (.sl (.pair .str .str)) (.int .i64)) x0 true), (.cells [(.d (.sl (.pair .str .str) x1))])]
def l39_0gE (x0 : Q0) (x1 : Q2) (s7 : Int) (s8 : Int) : Nat → AEx × Env × Boxes
  | 0 => (.ret, [(.sr 0 0 (List.length x0) 2 none), (.fn 40 [(.ptr 1 0)]), .top, .top, (.d (.int .i64 s8)), (.d (.int .i64 s8)), .top, (.d (.int .i64 s7)), (.d (.int .i64 s8)), (.d (.bool (decide (s8 < s7)))), (.d (.int .i64 s8)), (.fn 40 [(.ptr 1 0)]), (.sr 0 0 (List.length x0) 2 none), (.d (.int .i64 s8)), (.eptr 0 (0 + (Int.toNat s8)) 2 0), (.agg [(.d (.sl (.pair .str .str) (List.getD x0 (0 + (Int.toNat s8)) (([] : Q2), 0)).1)), (.d (.int .i64 (List.getD x0 (0 + (Int.toNat s8)) (([] : Q2), 0)).2))]), (.d (.bool ((show Q2 from (List.getD x0 (0 + (Int.toNat s8)) (([] : Q2), 0)).1) == x1))), (.d (.int .i64 s8)), .top], [(.arr (.pair (.sl (.pair .str .str)) (.int .i64)) x0 true), (.cells [(.d (.sl (.pair .str .str) x1))])])
  | _ => (.exit 0, ((.sr 0 0 (List.length x0) 2 none) :: (.fn 40 [(.ptr 1 0)]) :: .top :: .top :: .top :: .top :: .top :: (.d (.int .i64 s7)) :: (.d (.int .i64 s8)) :: (.d (.bool (decide (s8 < s7)))) :: tp9 []), [(.arr (.pair (.sl (.pair .str .str)) (.int .i64)) x0 true), (.cells [(.d (.sl (.pair .str .str) x1))])])
noncomputable def lbl39_0g : AC := loopBody 387 body39
@[reducible] noncomputable def cb21 (m : Nat) := (evC byref (evCall F S34 (m + 24)) (m + 24) 2 (hds 39) lbl39_0g)


theorem l39_0g_step (m n : Nat) (ih : ∀ (x0 : Q0) (x1 : Q2) (s7 : Int) (s8 : Int) (q : Nat × Int), l39_0g m n x0 x1 s7 s8 = some q → (turns (hds 39 387) 2 387 (cb21 m) n (l39_0gH x0 x1 s7 s8) (l39_0gB x0 x1 s7 s8)).run = some (l39_0gE (x0) (x1) (s7) (q.2) q.1)) (x0 : Q0) (x1 : Q2) (s7 : Int) (s8 : Int) (q : Nat × Int) (h : l39_0g m (n + 1) x0 x1 s7 s8 = some q) : (turns (hds 39 387) 2 387 (cb21 m) (n + 1) (l39_0gH x0 x1 s7 s8) (l39_0gB x0 x1 s7 s8)).run = some (l39_0gE (x0) (x1) (s7) (q.2) q.1) := by
  rw [l39_0g] at h
  refine ite_cases h (fun c0 h => ?_) (fun c0 h => ?_)
  · skip
    obtain ⟨c1, h⟩ := iY h
    obtain ⟨c2, h⟩ := iY h
    obtain ⟨c3, h⟩ := iY h
    obtain ⟨c4, h⟩ := iY h
    refine ite_cases h (fun c5 h => ?_) (fun c5 h => ?_)
    · skip
      cases h
      refine turns_last (by simp) ?_
      exact M.run_of_path _ [tT, tT, tT, tT, tT, tT] _ _ (by kernel_rfl) (all_t c0 (all_t c1 (all_t c2 (all_t c3 (all_t c4 (all_t c5 all_nil))))))
    · skip
      have ih := ih _ _ _ _ q h
      refine turns_step ?_ ih
      exact M.run_of_path _ [tT, tT, tT, tT, tT, fF] _ _ (by kernel_rfl) (all_t c0 (all_t c1 (all_t c2 (all_t c3 (all_t c4 (all_f c5 all_nil))))))
  · skip
    cases h
    refine turns_last (by simp) ?_
    exact M.run_of_path _ [fF] _ _ (by kernel_rfl) (all_f c0 all_nil)
theorem l39_0g_ok (m : Nat) : ∀ (n : Nat) (x0 : Q0) (x1 : Q2) (s7 : Int) (s8 : Int) (q : Nat × Int), l39_0g m n x0 x1 s7 s8 = some q → (turns (hds 39 387) 2 387 (cb21 m) n (l39_0gH x0 x1 s7 s8) (l39_0gB x0 x1 s7 s8)).run = some (l39_0gE (x0) (x1) (s7) (q.2) q.1)
  | 0, x0, x1, s7, s8, q, h => by cases h
  | n + 1, x0, x1, s7, s8, q, h => l39_0g_step m n (l39_0g_ok m n) x0 x1 s7 s8 q h

def p39g (m : Nat) (x0 : Q0) (x1 : Q2) : Option (AV × Boxes) :=
  if (Option.isSome (l39_0g m (m + 24) x0 x1 ((((List.length x0) : Nat) : Int)) 0)) = true then
  if ((l39_0gR m (m + 24) x0 x1 ((((List.length x0) : Nat) : Int)) 0).1 == 0) = true then
    some ((.d (.int .i64 (l39_0gR m (m + 24) x0 x1 ((((List.length x0) : Nat) : Int)) 0).2)), [(.arr (.pair (.sl (.pair .str .str)) (.int .i64)) x0 true), (.cells [(.d (.sl (.pair .str .str) x1))])])
  else
    if ((l39_0gR m (m + 24) x0 x1 ((((List.length x0) : Nat) : Int)) 0).1 == 1) = true then
    some ((.d (.int .i64 (-1))), [(.arr (.pair (.sl (.pair .str .str)) (.int .i64)) x0 true), (.cells [(.d (.sl (.pair .str .str) x1))])])
    else none
  else none
theorem p39g_ok (m : Nat) (x0 : Q0) (x1 : Q2) (q : AV × Boxes) (h : p39g m x0 x1 = some q) : (evCall F S34 (m + 25) 39 [(.sr 0 0 (List.length x0) 2 none), (.fn 40 [(.ptr 1 0)])] [(.arr (.pair (.sl (.pair .str .str)) (.int .i64)) x0 true), (.cells [(.d (.sl (.pair .str .str) x1))])]).run = some q := by
  unfold p39g at h
  obtain ⟨c0, h⟩ := iY h
  refine ite_cases h (fun c1 h => ?_) (fun c1 h => ?_)
  · skip
    cases h
    refine runT_ok (LS := (fun k => if k = 387 then some (l39_0gE x0 x1 (((((List.length x0) : Nat) : Int))) ((l39_0gR m (m + 24) x0 x1 ((((List.length x0) : Nat) : Int)) 0).2) 0) else none)) (fn := fn39) (r := (.d (.int .i64 (l39_0gR m (m + 24) x0 x1 ((((List.length x0) : Nat) : Int)) 0).2))) (B' := [(.arr (.pair (.sl (.pair .str .str)) (.int .i64)) x0 true), (.cells [(.d (.sl (.pair .str .str) x1))])]) (vis := [(387, l39_0gH x0 x1 ((((List.length x0) : Nat) : Int)) 0, l39_0gB x0 x1 ((((List.length x0) : Nat) : Int)) 0)]) (by kernel_rfl) rfl (by kernel_rfl) (M.run_of_path _ [] _ _ (by kernel_rfl) all_nil) ?_
    intro p hp p2 hq
    rcases List.mem_cons.1 hp with rfl | hp
    · skip
      have h3 := l39_0g_ok m (m + 24) x0 x1 ((((List.length x0) : Nat) : Int)) 0 _ (some_getD (d := l39_0gD) c0)
      rw [eq_of_beq c1] at h3
      exact Eq.trans (Eq.mp (by kernel_rfl) h3) hq
    cases hp
  · skip
    obtain ⟨c2, h⟩ := iY h
    cases h
    refine runT_ok (LS := (fun k => if k = 387 then some (l39_0gE x0 x1 (((((List.length x0) : Nat) : Int))) ((l39_0gR m (m + 24) x0 x1 ((((List.length x0) : Nat) : Int)) 0).2) 1) else none)) (fn := fn39) (r := (.d (.int .i64 (-1)))) (B' := [(.arr (.pair (.sl (.pair .str .str)) (.int .i64)) x0 true), (.cells [(.d (.sl (.pair .str .str) x1))])]) (vis := [(387, l39_0gH x0 x1 ((((List.length x0) : Nat) : Int)) 0, l39_0gB x0 x1 ((((List.length x0) : Nat) : Int)) 0)]) (by kernel_rfl) rfl (by kernel_rfl) (M.run_of_path _ [] _ _ (by kernel_rfl) all_nil) ?_
    intro p hp p2 hq
    rcases List.mem_cons.1 hp with rfl | hp
    · skip
      have h3 := l39_0g_ok m (m + 24) x0 x1 ((((List.length x0) : Nat) : Int)) 0 _ (some_getD (d := l39_0gD) c0)
      rw [eq_of_beq c2] at h3
      exact Eq.trans (Eq.mp (by kernel_rfl) h3) hq
    cases hp

def gIdx (l : VL) (k : LB) : Int := fIdx (fun p => p.1 == k) l 0
theorem gidx_loop (m : Nat) (l : VL) (v : LB) (hb : l.length ≤ 1000000) (hx : ∀ p ∈ l, p.1.length ≤ 1000000) : ∀ (n k : Nat), k ≤ l.length → l.length - k < n →
    (∃ j : Nat, l39_0g m n l v (l.length : Nat) (k : Nat) = some (0, ((j : Nat) : Int)) ∧ fIdx (fun p => p.1 == v) (l.drop k) k = ((j : Nat) : Int)) ∨ (∃ j, l39_0g m n l v (l.length : Nat) (k : Nat) = some (1, j) ∧ fIdx (fun p => p.1 == v) (l.drop k) k = -1)
  | 0, k, _, h => by omega
  | n + 1, k, h1, h2 => by
    rw [l39_0g]
    by_cases hk : k < l.length
    · have e1 : decide (((k : Nat) : Int) < (((List.length l) : Nat) : Int)) = true := decide_eq_true (by omega)
      have e2 : decide ((0 : Int) ≤ ((k : Nat) : Int)) = true := decide_eq_true (by omega)
      have e3 : decide (0 + k < List.length l) = true := decide_eq_true (by omega)
      have e7 : IntKind.wrap .i64 (((k : Nat) : Int) + (1)) = ((k + 1 : Nat) : Int) := by rw [wrap_id (by omega) (by omega)]; rfl
      have hq := hx _ (getD_mem l k (([] : LB), 0) hk)
      rw [drop_getD l k (([] : LB), 0) hk, show Int.toNat ((k : Nat) : Int) = k from rfl, e7, if_pos e1, if_pos e2, if_pos e1, if_pos e3, Nat.zero_add, fIdx]
      generalize l.getD k (([] : LB), 0) = q at *
      rw [if_pos (decide_eq_true (by omega))]
      by_cases hc : (q.1 == v) = true
      · have hc' : ((show Q2 from q.1) == v) = true := hc
        rw [if_pos hc', if_pos hc]
        exact .inl ⟨k, rfl, rfl⟩
      · have hc' : ¬ ((show Q2 from q.1) == v) = true := hc
        rw [if_neg hc', if_neg hc]
        exact gidx_loop m l v hb hx n (k + 1) (by omega) (by omega)
    · have e1 : decide (((k : Nat) : Int) < (((List.length l) : Nat) : Int)) = false := decide_eq_false (by omega)
      rw [e1, if_neg (by simp), List.drop_eq_nil_of_le (by omega)]
      exact .inr ⟨_, rfl, rfl⟩
theorem idx39g (l : VL) (v : LB) (h : ptsPre l = true) : ∃ m, p39g m l v = some (.d (.int .i64 (gIdx l v)), [.arr (.pair (.sl (.pair .str .str)) (.int .i64)) l true, .cells [.d (.sl (.pair .str .str) v)]]) := by
  have ⟨h1, h2⟩ := of_decide_eq_true h
  refine ⟨l.length, ?_⟩
  unfold p39g l39_0gR gIdx
  have := gidx_loop l.length l v h1 h2 (l.length + 24) 0 (by omega) (by omega)
  simp only [Int.natCast_zero, List.drop_zero] at this
  rcases this with ⟨j, hr, hc⟩ | ⟨j, hr, hc⟩ <;> rw [hr, hc] <;> simp
def s39g : List AV → Boxes → M (AV × Boxes) := fun xs B => match xs, B with
  | [.sr 0 0 n 2 none, .fn 40 [.ptr 1 0]], [.arr (.pair (.sl (.pair .str .str)) (.int .i64)) l true, .cells [.d (.sl (.pair .str .str) k)]] => .chk (decide (n = List.length l) && ptsPre l) (.ret (.d (.int .i64 (gIdx l k)), [.arr (.pair (.sl (.pair .str .str)) (.int .i64)) l true, .cells [.d (.sl (.pair .str .str) k)]]))
  | _, _ => .fail
theorem s39g_at : CallAt Tryd.prog 39 s39g := by
  intro xs B r' B' hr
  unfold s39g at hr
  split at hr
  · rename_i n l k
    obtain ⟨hp, hr⟩ := (M.run_chk _ _ _).1 hr
    simp only [M.run, Option.some.injEq, Prod.mk.injEq] at hr
    obtain ⟨rfl, rfl⟩ := hr
    simp only [Bool.and_eq_true, decide_eq_true_eq] at hp
    obtain ⟨rfl, hp⟩ := hp
    obtain ⟨m, hm⟩ := idx39g l k hp
    exact evCall_atH mixed kinds hds S34 S34_ok (m + 25) 39 _ _ _ _ (p39g_ok m l k _ hm)
  · simp [M.run] at hr

noncomputable def S35 : FuncId → Option (List AV → Boxes → M (AV × Boxes)) := fun f => if f = 39 then some s39g else S34 f
theorem S35_ok : ∀ f s, S35 f = some s → CallAt Tryd.prog f s := by
  intro f s h
  unfold S35 at h
  split at h
  · rename_i e; subst e; cases h; exact s39g_at
  · exact S34_ok f s h

noncomputable def fn42 : AFn := (F 42).getD ⟨0, [], .bad, false, false, noHd⟩
noncomputable def body42 : AC := fn42.body
def p42 (m : Nat) (x0 : Int) (x1 : Int) (x2 : Int) : Option (Int × Int) :=
  if (x0 == (18)) = true then
    some ((if x2 < x1 then x2 else x1), (0))
  else
    if (x0 == (19)) = true then
      some ((if x1 < x2 then x2 else x1), (0))
    else
      if (decide ((IntKind.wrap .i64 (x1 + x2)) > x1) == decide (x2 > 0)) = true then
        some ((IntKind.wrap .i64 (x1 + x2)), (0))
      else
        if (x2 != (0)) = true then
          some ((0), (3))
        else
          some ((IntKind.wrap .i64 (x1 + x2)), (0))
theorem p42_ok (m : Nat) (x0 : Int) (x1 : Int) (x2 : Int) (q : Int × Int) (h : p42 m x0 x1 x2 = some q) : ∃ r B1, (evCall F S35 (m + 25) 42 [(.d (.int .i64 x0)), (.d (.int .i64 x1)), (.d (.int .i64 x2))] []).run = some (r, B1) ∧ 0 ≤ B1.length ∧ wkR B1 [] r (.tup [(.d (.int .i64 q.1)), (.d (.int .i64 q.2))]) ∧ wkBs B1 [] 0 [] := by
  unfold p42 at h
  refine ite_cases h (fun c0 h => ?_) (fun c0 h => ?_)
  · skip
    cases h
    refine ⟨(.tup [(.d (.int .i64 (if x2 < x1 then x2 else x1))), (.d (.int .i64 (0)))]), [], runT_ok (LS := (fun k => none)) (fn := fn42) (vis := []) (by kernel_rfl) rfl (by kernel_rfl) (M.run_of_path _ [tT] _ _ (by kernel_rfl) (all_t c0 all_nil)) ?_, by simp, (wkR.tup (wkVs.cons (wkV.one (wk1.eq rfl)) (wkVs.cons (wkV.one (wk1.eq rfl)) wkVs.nil))), trivial⟩
    intro p hp; cases hp
  · skip
    refine ite_cases h (fun c1 h => ?_) (fun c1 h => ?_)
    · skip
      cases h
      refine ⟨(.tup [(.d (.int .i64 (if x1 < x2 then x2 else x1))), (.d (.int .i64 (0)))]), [], runT_ok (LS := (fun k => none)) (fn := fn42) (vis := []) (by kernel_rfl) rfl (by kernel_rfl) (M.run_of_path _ [fF, tT] _ _ (by kernel_rfl) (all_f c0 (all_t c1 all_nil))) ?_, by simp, (wkR.tup (wkVs.cons (wkV.one (wk1.eq rfl)) (wkVs.cons (wkV.one (wk1.eq rfl)) wkVs.nil))), trivial⟩
      intro p hp; cases hp
    · skip
      refine ite_cases h (fun c2 h => ?_) (fun c2 h => ?_)
      · skip
        cases h
        refine ⟨(.tup [(.d (.int .i64 (IntKind.wrap .i64 (x1 + x2)))), (.d (.int .i64 (0)))]), [], runT_ok (LS := (fun k => none)) (fn := fn42) (vis := []) (by kernel_rfl) rfl (by kernel_rfl) (M.run_of_path _ [fF, fF, fF, fF, fF, fF] _ _ (by kernel_rfl) (all_f c0 (all_f c1 (all_nt c2 (all_nt c2 (all_nt c2 (all_f Bool.false_ne_true all_nil))))))) ?_, by simp, (wkR.tup (wkVs.cons (wkV.one (wk1.eq rfl)) (wkVs.cons (wkV.one (wk1.eq rfl)) wkVs.nil))), trivial⟩
        intro p hp; cases hp
      · skip
        refine ite_cases h (fun c5 h => ?_) (fun c5 h => ?_)
        · skip
          cases h
          refine ⟨(.tup [(.d (.int .i64 (0))), (.d (.int .i64 (3)))]), [], runT_ok (LS := (fun k => none)) (fn := fn42) (vis := []) (by kernel_rfl) rfl (by kernel_rfl) (M.run_of_path _ [fF, fF, tT, tT, tT, tT] _ _ (by kernel_rfl) (all_f c0 (all_f c1 (all_nf c2 (all_nf c2 (all_nf c2 (all_t c5 all_nil))))))) ?_, by simp, (wkR.tup (wkVs.cons (wkV.one (wk1.eq rfl)) (wkVs.cons (wkV.one (wk1.eq rfl)) wkVs.nil))), trivial⟩
          intro p hp; cases hp
        · skip
          cases h
          refine ⟨(.tup [(.d (.int .i64 (IntKind.wrap .i64 (x1 + x2)))), (.d (.int .i64 (0)))]), [], runT_ok (LS := (fun k => none)) (fn := fn42) (vis := []) (by kernel_rfl) rfl (by kernel_rfl) (M.run_of_path _ [fF, fF, tT, tT, tT, fF] _ _ (by kernel_rfl) (all_f c0 (all_f c1 (all_nf c2 (all_nf c2 (all_nf c2 (all_f c5 all_nil))))))) ?_, by simp, (wkR.tup (wkVs.cons (wkV.one (wk1.eq rfl)) (wkVs.cons (wkV.one (wk1.eq rfl)) wkVs.nil))), trivial⟩
          intro p hp; cases hp

def joinG (k a b : Int) : Int × Int := if k = 18 then ((if b < a then b else a), 0) else if k = 19 then ((if a < b then b else a), 0) else (a + b, 0)
def reckPre (a b : Int) : Bool := decide (-1000000 ≤ a ∧ a ≤ 1000000 ∧ -1000000 ≤ b ∧ b ≤ 1000000)
theorem join42 (k a b : Int) (h : reckPre a b = true) : ∃ m, p42 m k a b = some (joinG k a b) := by
  have h := of_decide_eq_true h
  refine ⟨0, ?_⟩
  have w1 : IntKind.wrap .i64 (a + b) = a + b := wrap_id (by omega) (by omega)
  unfold p42 joinG
  rw [w1]
  have e : (decide (a + b > a) == decide (b > 0)) = true := by
    by_cases hb : b > 0
    · rw [decide_eq_true hb, decide_eq_true (by omega)]; rfl
    · rw [decide_eq_false hb, decide_eq_false (by omega)]; rfl
  by_cases k1 : k = 18
  · rw [if_pos (beq_iff_eq.2 k1), if_pos k1]
  · rw [if_neg (fun q => k1 (beq_iff_eq.1 q)), if_neg k1]
    by_cases k2 : k = 19
    · rw [if_pos (beq_iff_eq.2 k2), if_pos k2]
    · rw [if_neg (fun q => k2 (beq_iff_eq.1 q)), if_neg k2, if_pos e]
def s42 : List AV → Boxes → M (AV × Boxes) := normS [.val (.int .i64), .val (.int .i64), .val (.int .i64)] [] fun xs B => match xs, B with
  | [(.d (.int .i64 c1)), (.d (.int .i64 c2)), (.d (.int .i64 c3))], [] => .chk (reckPre c2 c3) (.ret ((.tup [(.d (.int .i64 (joinG c1 c2 c3).1)), (.d (.int .i64 (joinG c1 c2 c3).2))]), []))
  | _, _ => .fail
theorem s42_at : CallAt Tryd.prog 42 s42 := by
  refine CallAt.norm (CallAt.weakE (g := fun n => evCall F S35 n 42) (fun n => evCall_atH mixed kinds hds S35 S35_ok n 42) fun xs B r' B' hr => ?_) _ _
  split at hr
  · rename_i c1 c2 c3
    obtain ⟨hp, hr⟩ := (M.run_chk _ _ _).1 hr
    simp only [M.run, Option.some.injEq, Prod.mk.injEq] at hr
    obtain ⟨rfl, rfl⟩ := hr
    obtain ⟨m, hm⟩ := join42 c1 c2 c3 hp
    obtain ⟨r, B1, h1, h2, h3, h4⟩ := p42_ok m c1 c2 c3 _ hm
    exact ⟨m + 25, r, B1, h1, by simp, h2, h3, h4⟩
  · simp [M.run] at hr
noncomputable def S36 : FuncId → Option (List AV → Boxes → M (AV × Boxes)) := fun f => if f = 42 then some s42 else S35 f
theorem S36_ok : ∀ f s, S36 f = some s → CallAt Tryd.prog f s := by
  intro f s h
  unfold S36 at h
  split at h
  · rename_i e; subst e; cases h; exact s42_at
  · exact S35_ok f s h

noncomputable def fn15 : AFn := (F 15).getD ⟨0, [], .bad, false, false, noHd⟩
noncomputable def body15 : AC := fn15.body
def l15_0 (m : Nat) : Nat → Int → Q3 → Q0 → Int → Int → Q0 → Option (Nat × Int × (Q0))
  | 0, _, _, _, _, _, _ => none
  | n + 1, x0, x1, x2, s17, s18, b0 => if decide (s18 < s17) = true then
      if decide (0 ≤ s18) = true then
      if decide (s18 < (((List.length x2) : Nat) : Int)) = true then
      if keepPre (List.getD x2 (Int.toNat s18) (([] : Q2), 0)).1 x1 = true then
      if (x0 == (20)) = true then
        if (decide ((List.length b0) = (List.length b0)) && ptsPre b0) = true then
        if decide ((gIdx b0 (keepG (List.getD x2 (Int.toNat s18) (([] : Q2), 0)).1 x1)) < 0) = true then
          if decide ((((List.length b0) + 1) * 32) ≤ 70368744177664) = true then
          l15_0 m n x0 x1 x2 s17 ((IntKind.wrap .i64 (s18 + (1)))) ((b0 ++ [((keepG (List.getD x2 (Int.toNat s18) (([] : Q2), 0)).1 x1), (1))]))
          else none
        else
          if decide (0 ≤ (gIdx b0 (keepG (List.getD x2 (Int.toNat s18) (([] : Q2), 0)).1 x1))) = true then
          if decide ((gIdx b0 (keepG (List.getD x2 (Int.toNat s18) (([] : Q2), 0)).1 x1)) < (((List.length b0) : Nat) : Int)) = true then
          if decide ((0 + (Int.toNat (gIdx b0 (keepG (List.getD x2 (Int.toNat s18) (([] : Q2), 0)).1 x1)))) < (List.length b0)) = true then
          if reckPre (List.getD b0 (0 + (Int.toNat (gIdx b0 (keepG (List.getD x2 (Int.toNat s18) (([] : Q2), 0)).1 x1)))) (([] : Q2), 0)).2 (1) = true then
          if ((joinG x0 (List.getD b0 (0 + (Int.toNat (gIdx b0 (keepG (List.getD x2 (Int.toNat s18) (([] : Q2), 0)).1 x1)))) (([] : Q2), 0)).2 (1)).2 != (0)) = true then
            some (0, s18, b0)
          else
            l15_0 m n x0 x1 x2 s17 ((IntKind.wrap .i64 (s18 + (1)))) ((List.set b0 (0 + (Int.toNat (gIdx b0 (keepG (List.getD x2 (Int.toNat s18) (([] : Q2), 0)).1 x1)))) ((List.getD b0 (0 + (Int.toNat (gIdx b0 (keepG (List.getD x2 (Int.toNat s18) (([] : Q2), 0)).1 x1)))) (([] : Q2), 0)).1, (joinG x0 (List.getD b0 (0 + (Int.toNat (gIdx b0 (keepG (List.getD x2 (Int.toNat s18) (([] : Q2), 0)).1 x1)))) (([] : Q2), 0)).2 (1)).1)))
          else none
          else none
          else none
          else none
        else none
      else
        if (decide ((List.length b0) = (List.length b0)) && ptsPre b0) = true then
        if decide ((gIdx b0 (keepG (List.getD x2 (Int.toNat s18) (([] : Q2), 0)).1 x1)) < 0) = true then
          if decide ((((List.length b0) + 1) * 32) ≤ 70368744177664) = true then
          l15_0 m n x0 x1 x2 s17 ((IntKind.wrap .i64 (s18 + (1)))) ((b0 ++ [((keepG (List.getD x2 (Int.toNat s18) (([] : Q2), 0)).1 x1), (List.getD x2 (Int.toNat s18) (([] : Q2), 0)).2)]))
          else none
        else
          if decide (0 ≤ (gIdx b0 (keepG (List.getD x2 (Int.toNat s18) (([] : Q2), 0)).1 x1))) = true then
          if decide ((gIdx b0 (keepG (List.getD x2 (Int.toNat s18) (([] : Q2), 0)).1 x1)) < (((List.length b0) : Nat) : Int)) = true then
          if decide ((0 + (Int.toNat (gIdx b0 (keepG (List.getD x2 (Int.toNat s18) (([] : Q2), 0)).1 x1)))) < (List.length b0)) = true then
          if reckPre (List.getD b0 (0 + (Int.toNat (gIdx b0 (keepG (List.getD x2 (Int.toNat s18) (([] : Q2), 0)).1 x1)))) (([] : Q2), 0)).2 (List.getD x2 (Int.toNat s18) (([] : Q2), 0)).2 = true then
          if ((joinG x0 (List.getD b0 (0 + (Int.toNat (gIdx b0 (keepG (List.getD x2 (Int.toNat s18) (([] : Q2), 0)).1 x1)))) (([] : Q2), 0)).2 (List.getD x2 (Int.toNat s18) (([] : Q2), 0)).2).2 != (0)) = true then
            some (1, s18, b0)
          else
            l15_0 m n x0 x1 x2 s17 ((IntKind.wrap .i64 (s18 + (1)))) ((List.set b0 (0 + (Int.toNat (gIdx b0 (keepG (List.getD x2 (Int.toNat s18) (([] : Q2), 0)).1 x1)))) ((List.getD b0 (0 + (Int.toNat (gIdx b0 (keepG (List.getD x2 (Int.toNat s18) (([] : Q2), 0)).1 x1)))) (([] : Q2), 0)).1, (joinG x0 (List.getD b0 (0 + (Int.toNat (gIdx b0 (keepG (List.getD x2 (Int.toNat s18) (([] : Q2), 0)).1 x1)))) (([] : Q2), 0)).2 (List.getD x2 (Int.toNat s18) (([] : Q2), 0)).2).1)))
          else none
          else none
          else none
          else none
        else none
      else none
      else none
      else none
    else
      some (2, s18, b0)
def l15_0D : Nat × Int × (Q0) := (0, 0, [])
@[reducible] def l15_0R (m n : Nat) (x0 : Int) (x1 : Q3) (x2 : Q0) (s17 : Int) (s18 : Int) (b0 : Q0) : Nat × Int × (Q0) := Option.getD (l15_0 m n x0 x1 x2 s17 s18 b0) l15_0D
def l15_0H (x0 : Int) (x1 : Q3) (x2 : Q0) (s17 : Int) (s18 : Int) (b0 : Q0) : Env := ((.d (.int .i64 x0)) :: (.d (.sl .str x1)) :: .top :: .top :: .top :: .top :: .top :: .top :: (.sr 0 0 (List.length b0) 2 none) :: .top :: .top :: .top :: .top :: .top :: .top :: .top :: (.d (.sl (.pair (.sl (.pair .str .str)) (.int .i64)) x2)) :: (.d (.int .i64 s17)) :: (.d (.int .i64 s18)) :: tp44 [])
def l15_0B (x0 : Int) (x1 : Q3) (x2 : Q0) (s17 : Int) (s18 : Int) (b0 : Q0) : Boxes := [(.arr (.pair (.sl (.pair .str .str)) (.int .i64)) b0 true)]
def l15_0E (x0 : Int) (x1 : Q3) (x2 : Q0) (s17 : Int) (s18 : Int) (b0 : Q0) : Nat → AEx × Env × Boxes
  | 0 => (.ret, ((.d (.int .i64 x0)) :: (.d (.sl .str x1)) :: .top :: .top :: .top :: .top :: (.sr 38 0 0 2 none) :: (.d (.int .i64 (joinG x0 (List.getD b0 (0 + (Int.toNat (gIdx b0 (keepG (List.getD x2 (Int.toNat s18) (([] : Q2), 0)).1 x1)))) (([] : Q2), 0)).2 (1)).2)) :: (.sr 0 0 (List.length b0) 2 none) :: .top :: (.ptr 1 0) :: (.ptr 26 0) :: (.d (.int .i64 (1))) :: (.d (.int .i64 (gIdx b0 (keepG (List.getD x2 (Int.toNat s18) (([] : Q2), 0)).1 x1)))) :: (.d (.int .i64 (joinG x0 (List.getD b0 (0 + (Int.toNat (gIdx b0 (keepG (List.getD x2 (Int.toNat s18) (([] : Q2), 0)).1 x1)))) (([] : Q2), 0)).2 (1)).1)) :: (.d (.int .i64 (joinG x0 (List.getD b0 (0 + (Int.toNat (gIdx b0 (keepG (List.getD x2 (Int.toNat s18) (([] : Q2), 0)).1 x1)))) (([] : Q2), 0)).2 (1)).2)) :: (.d (.sl (.pair (.sl (.pair .str .str)) (.int .i64)) x2)) :: (.d (.int .i64 s17)) :: (.d (.int .i64 s18)) :: (.d (.bool (decide (s18 < s17)))) :: (.cptr [(.sl (.pair .str .str) (List.getD x2 (Int.toNat s18) (([] : Q2), 0)).1), (.int .i64 (List.getD x2 (Int.toNat s18) (([] : Q2), 0)).2)] 0) :: (.agg [(.d (.sl (.pair .str .str) (List.getD x2 (Int.toNat s18) (([] : Q2), 0)).1)), (.d (.int .i64 (List.getD x2 (Int.toNat s18) (([] : Q2), 0)).2))]) :: (.ptr 1 0) :: (.d (.sl (.pair .str .str) (List.getD x2 (Int.toNat s18) (([] : Q2), 0)).1)) :: (.d (.sl .str x1)) :: (.d (.sl (.pair .str .str) (keepG (List.getD x2 (Int.toNat s18) (([] : Q2), 0)).1 x1))) :: (.ptr 1 1) :: (.d (.int .i64 (List.getD x2 (Int.toNat s18) (([] : Q2), 0)).2)) :: (.d (.int .i64 x0)) :: (.d (.bool (x0 == (20)))) :: (.sr 0 0 (List.length b0) 2 none) :: (.fn 40 [(.ptr 26 0)]) :: (.d (.int .i64 (gIdx b0 (keepG (List.getD x2 (Int.toNat s18) (([] : Q2), 0)).1 x1)))) :: (.d (.int .i64 (gIdx b0 (keepG (List.getD x2 (Int.toNat s18) (([] : Q2), 0)).1 x1)))) :: (.d (.bool (decide ((gIdx b0 (keepG (List.getD x2 (Int.toNat s18) (([] : Q2), 0)).1 x1)) < 0)))) :: .top :: .top :: .top :: .top :: .top :: .top :: (.tup [(.d (.int .i64 (joinG x0 (List.getD b0 (0 + (Int.toNat (gIdx b0 (keepG (List.getD x2 (Int.toNat s18) (([] : Q2), 0)).1 x1)))) (([] : Q2), 0)).2 (1)).1)), (.d (.int .i64 (joinG x0 (List.getD b0 (0 + (Int.toNat (gIdx b0 (keepG (List.getD x2 (Int.toNat s18) (([] : Q2), 0)).1 x1)))) (([] : Q2), 0)).2 (1)).2))]) :: (.d (.int .i64 x0)) :: (.sr 0 0 (List.length b0) 2 none) :: (.d (.int .i64 (gIdx b0 (keepG (List.getD x2 (Int.toNat s18) (([] : Q2), 0)).1 x1)))) :: (.eptr 0 (0 + (Int.toNat (gIdx b0 (keepG (List.getD x2 (Int.toNat s18) (([] : Q2), 0)).1 x1)))) 2 0) :: (.eptr 0 (0 + (Int.toNat (gIdx b0 (keepG (List.getD x2 (Int.toNat s18) (([] : Q2), 0)).1 x1)))) 2 1) :: (.d (.int .i64 (List.getD b0 (0 + (Int.toNat (gIdx b0 (keepG (List.getD x2 (Int.toNat s18) (([] : Q2), 0)).1 x1)))) (([] : Q2), 0)).2)) :: (.d (.int .i64 (1))) :: (.tup [(.d (.int .i64 (joinG x0 (List.getD b0 (0 + (Int.toNat (gIdx b0 (keepG (List.getD x2 (Int.toNat s18) (([] : Q2), 0)).1 x1)))) (([] : Q2), 0)).2 (1)).1)), (.d (.int .i64 (joinG x0 (List.getD b0 (0 + (Int.toNat (gIdx b0 (keepG (List.getD x2 (Int.toNat s18) (([] : Q2), 0)).1 x1)))) (([] : Q2), 0)).2 (1)).2))]) :: (.d (.int .i64 (joinG x0 (List.getD b0 (0 + (Int.toNat (gIdx b0 (keepG (List.getD x2 (Int.toNat s18) (([] : Q2), 0)).1 x1)))) (([] : Q2), 0)).2 (1)).1)) :: (.d (.int .i64 (joinG x0 (List.getD b0 (0 + (Int.toNat (gIdx b0 (keepG (List.getD x2 (Int.toNat s18) (([] : Q2), 0)).1 x1)))) (([] : Q2), 0)).2 (1)).2)) :: (.d (.int .i64 (joinG x0 (List.getD b0 (0 + (Int.toNat (gIdx b0 (keepG (List.getD x2 (Int.toNat s18) (([] : Q2), 0)).1 x1)))) (([] : Q2), 0)).2 (1)).2)) :: (.d (.bool ((joinG x0 (List.getD b0 (0 + (Int.toNat (gIdx b0 (keepG (List.getD x2 (Int.toNat s18) (([] : Q2), 0)).1 x1)))) (([] : Q2), 0)).2 (1)).2 != (0)))) :: (.d (.int .i64 (joinG x0 (List.getD b0 (0 + (Int.toNat (gIdx b0 (keepG (List.getD x2 (Int.toNat s18) (([] : Q2), 0)).1 x1)))) (([] : Q2), 0)).2 (1)).2)) :: tp8 []), [(.arr (.pair (.sl (.pair .str .str)) (.int .i64)) b0 true), (.cells [(.d (.sl (.pair .str .str) (List.getD x2 (Int.toNat s18) (([] : Q2), 0)).1)), (.d (.int .i64 (List.getD x2 (Int.toNat s18) (([] : Q2), 0)).2))]), .dead, .dead, .dead, .dead, .dead, .dead, .dead, .dead, .dead, .dead, .dead, .dead, .dead, .dead, .dead, .dead, .dead, .dead, .dead, .dead, .dead, .dead, .dead, .dead, (.cells [(.d (.sl (.pair .str .str) (keepG (List.getD x2 (Int.toNat s18) (([] : Q2), 0)).1 x1)))]), .dead, .dead, .dead, .dead, .dead, .dead, .dead, .dead, .dead, .dead, .dead, (.arr (.pair (.sl (.pair .str .str)) (.int .i64)) ([] : Q0) true)])
  | 1 => (.ret, ((.d (.int .i64 x0)) :: (.d (.sl .str x1)) :: .top :: .top :: .top :: .top :: (.sr 38 0 0 2 none) :: (.d (.int .i64 (joinG x0 (List.getD b0 (0 + (Int.toNat (gIdx b0 (keepG (List.getD x2 (Int.toNat s18) (([] : Q2), 0)).1 x1)))) (([] : Q2), 0)).2 (List.getD x2 (Int.toNat s18) (([] : Q2), 0)).2).2)) :: (.sr 0 0 (List.length b0) 2 none) :: .top :: (.ptr 1 0) :: (.ptr 26 0) :: (.d (.int .i64 (List.getD x2 (Int.toNat s18) (([] : Q2), 0)).2)) :: (.d (.int .i64 (gIdx b0 (keepG (List.getD x2 (Int.toNat s18) (([] : Q2), 0)).1 x1)))) :: (.d (.int .i64 (joinG x0 (List.getD b0 (0 + (Int.toNat (gIdx b0 (keepG (List.getD x2 (Int.toNat s18) (([] : Q2), 0)).1 x1)))) (([] : Q2), 0)).2 (List.getD x2 (Int.toNat s18) (([] : Q2), 0)).2).1)) :: (.d (.int .i64 (joinG x0 (List.getD b0 (0 + (Int.toNat (gIdx b0 (keepG (List.getD x2 (Int.toNat s18) (([] : Q2), 0)).1 x1)))) (([] : Q2), 0)).2 (List.getD x2 (Int.toNat s18) (([] : Q2), 0)).2).2)) :: (.d (.sl (.pair (.sl (.pair .str .str)) (.int .i64)) x2)) :: (.d (.int .i64 s17)) :: (.d (.int .i64 s18)) :: (.d (.bool (decide (s18 < s17)))) :: (.cptr [(.sl (.pair .str .str) (List.getD x2 (Int.toNat s18) (([] : Q2), 0)).1), (.int .i64 (List.getD x2 (Int.toNat s18) (([] : Q2), 0)).2)] 0) :: (.agg [(.d (.sl (.pair .str .str) (List.getD x2 (Int.toNat s18) (([] : Q2), 0)).1)), (.d (.int .i64 (List.getD x2 (Int.toNat s18) (([] : Q2), 0)).2))]) :: (.ptr 1 0) :: (.d (.sl (.pair .str .str) (List.getD x2 (Int.toNat s18) (([] : Q2), 0)).1)) :: (.d (.sl .str x1)) :: (.d (.sl (.pair .str .str) (keepG (List.getD x2 (Int.toNat s18) (([] : Q2), 0)).1 x1))) :: (.ptr 1 1) :: (.d (.int .i64 (List.getD x2 (Int.toNat s18) (([] : Q2), 0)).2)) :: (.d (.int .i64 x0)) :: (.d (.bool (x0 == (20)))) :: (.sr 0 0 (List.length b0) 2 none) :: (.fn 40 [(.ptr 26 0)]) :: (.d (.int .i64 (gIdx b0 (keepG (List.getD x2 (Int.toNat s18) (([] : Q2), 0)).1 x1)))) :: (.d (.int .i64 (gIdx b0 (keepG (List.getD x2 (Int.toNat s18) (([] : Q2), 0)).1 x1)))) :: (.d (.bool (decide ((gIdx b0 (keepG (List.getD x2 (Int.toNat s18) (([] : Q2), 0)).1 x1)) < 0)))) :: .top :: .top :: .top :: .top :: .top :: .top :: (.tup [(.d (.int .i64 (joinG x0 (List.getD b0 (0 + (Int.toNat (gIdx b0 (keepG (List.getD x2 (Int.toNat s18) (([] : Q2), 0)).1 x1)))) (([] : Q2), 0)).2 (List.getD x2 (Int.toNat s18) (([] : Q2), 0)).2).1)), (.d (.int .i64 (joinG x0 (List.getD b0 (0 + (Int.toNat (gIdx b0 (keepG (List.getD x2 (Int.toNat s18) (([] : Q2), 0)).1 x1)))) (([] : Q2), 0)).2 (List.getD x2 (Int.toNat s18) (([] : Q2), 0)).2).2))]) :: (.d (.int .i64 x0)) :: (.sr 0 0 (List.length b0) 2 none) :: (.d (.int .i64 (gIdx b0 (keepG (List.getD x2 (Int.toNat s18) (([] : Q2), 0)).1 x1)))) :: (.eptr 0 (0 + (Int.toNat (gIdx b0 (keepG (List.getD x2 (Int.toNat s18) (([] : Q2), 0)).1 x1)))) 2 0) :: (.eptr 0 (0 + (Int.toNat (gIdx b0 (keepG (List.getD x2 (Int.toNat s18) (([] : Q2), 0)).1 x1)))) 2 1) :: (.d (.int .i64 (List.getD b0 (0 + (Int.toNat (gIdx b0 (keepG (List.getD x2 (Int.toNat s18) (([] : Q2), 0)).1 x1)))) (([] : Q2), 0)).2)) :: (.d (.int .i64 (List.getD x2 (Int.toNat s18) (([] : Q2), 0)).2)) :: (.tup [(.d (.int .i64 (joinG x0 (List.getD b0 (0 + (Int.toNat (gIdx b0 (keepG (List.getD x2 (Int.toNat s18) (([] : Q2), 0)).1 x1)))) (([] : Q2), 0)).2 (List.getD x2 (Int.toNat s18) (([] : Q2), 0)).2).1)), (.d (.int .i64 (joinG x0 (List.getD b0 (0 + (Int.toNat (gIdx b0 (keepG (List.getD x2 (Int.toNat s18) (([] : Q2), 0)).1 x1)))) (([] : Q2), 0)).2 (List.getD x2 (Int.toNat s18) (([] : Q2), 0)).2).2))]) :: (.d (.int .i64 (joinG x0 (List.getD b0 (0 + (Int.toNat (gIdx b0 (keepG (List.getD x2 (Int.toNat s18) (([] : Q2), 0)).1 x1)))) (([] : Q2), 0)).2 (List.getD x2 (Int.toNat s18) (([] : Q2), 0)).2).1)) :: (.d (.int .i64 (joinG x0 (List.getD b0 (0 + (Int.toNat (gIdx b0 (keepG (List.getD x2 (Int.toNat s18) (([] : Q2), 0)).1 x1)))) (([] : Q2), 0)).2 (List.getD x2 (Int.toNat s18) (([] : Q2), 0)).2).2)) :: (.d (.int .i64 (joinG x0 (List.getD b0 (0 + (Int.toNat (gIdx b0 (keepG (List.getD x2 (Int.toNat s18) (([] : Q2), 0)).1 x1)))) (([] : Q2), 0)).2 (List.getD x2 (Int.toNat s18) (([] : Q2), 0)).2).2)) :: (.d (.bool ((joinG x0 (List.getD b0 (0 + (Int.toNat (gIdx b0 (keepG (List.getD x2 (Int.toNat s18) (([] : Q2), 0)).1 x1)))) (([] : Q2), 0)).2 (List.getD x2 (Int.toNat s18) (([] : Q2), 0)).2).2 != (0)))) :: (.d (.int .i64 (joinG x0 (List.getD b0 (0 + (Int.toNat (gIdx b0 (keepG (List.getD x2 (Int.toNat s18) (([] : Q2), 0)).1 x1)))) (([] : Q2), 0)).2 (List.getD x2 (Int.toNat s18) (([] : Q2), 0)).2).2)) :: tp8 []), [(.arr (.pair (.sl (.pair .str .str)) (.int .i64)) b0 true), (.cells [(.d (.sl (.pair .str .str) (List.getD x2 (Int.toNat s18) (([] : Q2), 0)).1)), (.d (.int .i64 (List.getD x2 (Int.toNat s18) (([] : Q2), 0)).2))]), .dead, .dead, .dead, .dead, .dead, .dead, .dead, .dead, .dead, .dead, .dead, .dead, .dead, .dead, .dead, .dead, .dead, .dead, .dead, .dead, .dead, .dead, .dead, .dead, (.cells [(.d (.sl (.pair .str .str) (keepG (List.getD x2 (Int.toNat s18) (([] : Q2), 0)).1 x1)))]), .dead, .dead, .dead, .dead, .dead, .dead, .dead, .dead, .dead, .dead, .dead, (.arr (.pair (.sl (.pair .str .str)) (.int .i64)) ([] : Q0) true)])
  | _ => (.exit 0, ((.d (.int .i64 x0)) :: (.d (.sl .str x1)) :: .top :: .top :: .top :: .top :: .top :: .top :: (.sr 0 0 (List.length b0) 2 none) :: .top :: .top :: .top :: .top :: .top :: .top :: .top :: (.d (.sl (.pair (.sl (.pair .str .str)) (.int .i64)) x2)) :: (.d (.int .i64 s17)) :: (.d (.int .i64 s18)) :: (.d (.bool (decide (s18 < s17)))) :: tp43 []), [(.arr (.pair (.sl (.pair .str .str)) (.int .i64)) b0 true)])
noncomputable def lbl15_0 : AC := loopBody 459011 body15
@[reducible] noncomputable def cb22 (m : Nat) := (evC byref (evCall F S36 (m + 24)) (m + 24) 0 (hds 15) lbl15_0)


theorem l15_0_step (m n : Nat) (ih : ∀ (x0 : Int) (x1 : Q3) (x2 : Q0) (s17 : Int) (s18 : Int) (b0 : Q0) (q : Nat × Int × (Q0)), l15_0 m n x0 x1 x2 s17 s18 b0 = some q → (turns (hds 15 459011) 0 459011 (cb22 m) n (l15_0H x0 x1 x2 s17 s18 b0) (l15_0B x0 x1 x2 s17 s18 b0)).run = some (l15_0E (x0) (x1) (x2) (s17) (q.2.1) (q.2.2) q.1)) (x0 : Int) (x1 : Q3) (x2 : Q0) (s17 : Int) (s18 : Int) (b0 : Q0) (q : Nat × Int × (Q0)) (h : l15_0 m (n + 1) x0 x1 x2 s17 s18 b0 = some q) : (turns (hds 15 459011) 0 459011 (cb22 m) (n + 1) (l15_0H x0 x1 x2 s17 s18 b0) (l15_0B x0 x1 x2 s17 s18 b0)).run = some (l15_0E (x0) (x1) (x2) (s17) (q.2.1) (q.2.2) q.1) := by
  rw [l15_0] at h
  refine ite_cases h (fun c0 h => ?_) (fun c0 h => ?_)
  · skip
    obtain ⟨c1, h⟩ := iY h
    obtain ⟨c2, h⟩ := iY h
    obtain ⟨c3, h⟩ := iY h
    refine ite_cases h (fun c4 h => ?_) (fun c4 h => ?_)
    · skip
      obtain ⟨c5, h⟩ := iY h
      refine ite_cases h (fun c6 h => ?_) (fun c6 h => ?_)
      · skip
        obtain ⟨c8, h⟩ := iY h
        have ih := ih _ _ _ _ _ _ q h
        have ht : (turn (hds 15 459011) 0 459011 (cb22 m) (l15_0H x0 x1 x2 s17 s18 b0) (l15_0B x0 x1 x2 s17 s18 b0)).run = some (.normal, ((.d (.int .i64 x0)) :: (.d (.sl .str x1)) :: .top :: .top :: .top :: .top :: .top :: .top :: (.sr 0 0 ((List.length b0) + 1) 2 none) :: .top :: .top :: .top :: .top :: .top :: .top :: .top :: (.d (.sl (.pair (.sl (.pair .str .str)) (.int .i64)) x2)) :: (.d (.int .i64 s17)) :: (.d (.int .i64 (IntKind.wrap .i64 (s18 + (1))))) :: tp44 []), [(.arr (.pair (.sl (.pair .str .str)) (.int .i64)) (b0 ++ [((keepG (List.getD x2 (Int.toNat s18) (([] : Q2), 0)).1 x1), (1))]) true)]) := M.run_of_path _ [tT, tT, tT, tT, tT, tT, tT, tT, tT, tT] _ _ (by kernel_rfl) (all_t c0 (all_t c1 (all_t c2 (all_t c3 (all_t c4 (all_t c5 (all_t c6 (all_t rfl (all_t c8 (all_t (show decide ((List.length b0) = (List.length b0)) = true from decide_eq_true rfl) all_nil))))))))))
        refine turns_step ht (turns_eq ?_ ?_ ih)
        · unfold l15_0H
          first | (simp; done) | (simp [Nat.add_assoc]; done) | (simp; omega)
        · unfold l15_0B
          simp
      · skip
        obtain ⟨c7, h⟩ := iY h
        obtain ⟨c8, h⟩ := iY h
        obtain ⟨c9, h⟩ := iY h
        obtain ⟨c10, h⟩ := iY h
        refine ite_cases h (fun c11 h => ?_) (fun c11 h => ?_)
        · skip
          cases h
          refine turns_last (by simp) ?_
          exact M.run_of_path _ [tT, tT, tT, tT, tT, tT, fF, tT, tT, tT, tT, tT] _ _ (by kernel_rfl) (all_t c0 (all_t c1 (all_t c2 (all_t c3 (all_t c4 (all_t c5 (all_f c6 (all_t c7 (all_t c8 (all_t c9 (all_t c10 (all_t c11 all_nil))))))))))))
        · skip
          have ih := ih _ _ _ _ _ _ q h
          have ht : (turn (hds 15 459011) 0 459011 (cb22 m) (l15_0H x0 x1 x2 s17 s18 b0) (l15_0B x0 x1 x2 s17 s18 b0)).run = some (let r1 := (keepG (List.getD x2 (Int.toNat s18) (([] : Q2), 0)).1 x1); (.normal, ((.d (.int .i64 x0)) :: (.d (.sl .str x1)) :: .top :: .top :: .top :: .top :: .top :: .top :: (.sr 0 0 (List.length b0) 2 none) :: .top :: .top :: .top :: .top :: .top :: .top :: .top :: (.d (.sl (.pair (.sl (.pair .str .str)) (.int .i64)) x2)) :: (.d (.int .i64 s17)) :: (.d (.int .i64 (IntKind.wrap .i64 (s18 + (1))))) :: tp44 []), [(.arr (.pair (.sl (.pair .str .str)) (.int .i64)) (List.set b0 (0 + (Int.toNat (gIdx b0 r1))) ((List.getD b0 (0 + (Int.toNat (gIdx b0 r1))) (([] : Q2), 0)).1, (joinG x0 (List.getD b0 (0 + (Int.toNat (gIdx b0 r1))) (([] : Q2), 0)).2 (1)).1)) true)])) := M.run_of_path _ [tT, tT, tT, tT, tT, tT, fF, tT, tT, tT, tT, fF, tT, tT, tT] _ _ (by kernel_rfl) (all_t c0 (all_t c1 (all_t c2 (all_t c3 (all_t c4 (all_t c5 (all_f c6 (all_t c7 (all_t c8 (all_t c9 (all_t c10 (all_f c11 (all_t c7 (all_t c8 (all_t c9 all_nil)))))))))))))))
          refine turns_step ht (turns_eq ?_ ?_ ih)
          · unfold l15_0H
            first | (simp; done) | (simp [Nat.add_assoc]; done) | (simp; omega)
          · unfold l15_0B
            simp
    · skip
      obtain ⟨c5, h⟩ := iY h
      refine ite_cases h (fun c6 h => ?_) (fun c6 h => ?_)
      · skip
        obtain ⟨c8, h⟩ := iY h
        have ih := ih _ _ _ _ _ _ q h
        have ht : (turn (hds 15 459011) 0 459011 (cb22 m) (l15_0H x0 x1 x2 s17 s18 b0) (l15_0B x0 x1 x2 s17 s18 b0)).run = some (.normal, ((.d (.int .i64 x0)) :: (.d (.sl .str x1)) :: .top :: .top :: .top :: .top :: .top :: .top :: (.sr 0 0 ((List.length b0) + 1) 2 none) :: .top :: .top :: .top :: .top :: .top :: .top :: .top :: (.d (.sl (.pair (.sl (.pair .str .str)) (.int .i64)) x2)) :: (.d (.int .i64 s17)) :: (.d (.int .i64 (IntKind.wrap .i64 (s18 + (1))))) :: tp44 []), [(.arr (.pair (.sl (.pair .str .str)) (.int .i64)) (b0 ++ [((keepG (List.getD x2 (Int.toNat s18) (([] : Q2), 0)).1 x1), (List.getD x2 (Int.toNat s18) (([] : Q2), 0)).2)]) true)]) := M.run_of_path _ [tT, tT, tT, tT, fF, tT, tT, tT, tT, tT] _ _ (by kernel_rfl) (all_t c0 (all_t c1 (all_t c2 (all_t c3 (all_f c4 (all_t c5 (all_t c6 (all_t rfl (all_t c8 (all_t (show decide ((List.length b0) = (List.length b0)) = true from decide_eq_true rfl) all_nil))))))))))
        refine turns_step ht (turns_eq ?_ ?_ ih)
        · unfold l15_0H
          first | (simp; done) | (simp [Nat.add_assoc]; done) | (simp; omega)
        · unfold l15_0B
          simp
      · skip
        obtain ⟨c7, h⟩ := iY h
        obtain ⟨c8, h⟩ := iY h
        obtain ⟨c9, h⟩ := iY h
        obtain ⟨c10, h⟩ := iY h
        refine ite_cases h (fun c11 h => ?_) (fun c11 h => ?_)
        · skip
          cases h
          refine turns_last (by simp) ?_
          exact M.run_of_path _ [tT, tT, tT, tT, fF, tT, fF, tT, tT, tT, tT, tT] _ _ (by kernel_rfl) (all_t c0 (all_t c1 (all_t c2 (all_t c3 (all_f c4 (all_t c5 (all_f c6 (all_t c7 (all_t c8 (all_t c9 (all_t c10 (all_t c11 all_nil))))))))))))
        · skip
          have ih := ih _ _ _ _ _ _ q h
          have ht : (turn (hds 15 459011) 0 459011 (cb22 m) (l15_0H x0 x1 x2 s17 s18 b0) (l15_0B x0 x1 x2 s17 s18 b0)).run = some (let r1 := (keepG (List.getD x2 (Int.toNat s18) (([] : Q2), 0)).1 x1); (.normal, ((.d (.int .i64 x0)) :: (.d (.sl .str x1)) :: .top :: .top :: .top :: .top :: .top :: .top :: (.sr 0 0 (List.length b0) 2 none) :: .top :: .top :: .top :: .top :: .top :: .top :: .top :: (.d (.sl (.pair (.sl (.pair .str .str)) (.int .i64)) x2)) :: (.d (.int .i64 s17)) :: (.d (.int .i64 (IntKind.wrap .i64 (s18 + (1))))) :: tp44 []), [(.arr (.pair (.sl (.pair .str .str)) (.int .i64)) (List.set b0 (0 + (Int.toNat (gIdx b0 r1))) ((List.getD b0 (0 + (Int.toNat (gIdx b0 r1))) (([] : Q2), 0)).1, (joinG x0 (List.getD b0 (0 + (Int.toNat (gIdx b0 r1))) (([] : Q2), 0)).2 (List.getD x2 (Int.toNat s18) (([] : Q2), 0)).2).1)) true)])) := M.run_of_path _ [tT, tT, tT, tT, fF, tT, fF, tT, tT, tT, tT, fF, tT, tT, tT] _ _ (by kernel_rfl) (all_t c0 (all_t c1 (all_t c2 (all_t c3 (all_f c4 (all_t c5 (all_f c6 (all_t c7 (all_t c8 (all_t c9 (all_t c10 (all_f c11 (all_t c7 (all_t c8 (all_t c9 all_nil)))))))))))))))
          refine turns_step ht (turns_eq ?_ ?_ ih)
          · unfold l15_0H
            first | (simp; done) | (simp [Nat.add_assoc]; done) | (simp; omega)
          · unfold l15_0B
            simp
  · skip
    cases h
    refine turns_last (by simp) ?_
    exact M.run_of_path _ [fF] _ _ (by kernel_rfl) (all_f c0 all_nil)
theorem l15_0_ok (m : Nat) : ∀ (n : Nat) (x0 : Int) (x1 : Q3) (x2 : Q0) (s17 : Int) (s18 : Int) (b0 : Q0) (q : Nat × Int × (Q0)), l15_0 m n x0 x1 x2 s17 s18 b0 = some q → (turns (hds 15 459011) 0 459011 (cb22 m) n (l15_0H x0 x1 x2 s17 s18 b0) (l15_0B x0 x1 x2 s17 s18 b0)).run = some (l15_0E (x0) (x1) (x2) (s17) (q.2.1) (q.2.2) q.1)
  | 0, x0, x1, x2, s17, s18, b0, q, h => by cases h
  | n + 1, x0, x1, x2, s17, s18, b0, q, h => l15_0_step m n (l15_0_ok m n) x0 x1 x2 s17 s18 b0 q h

def p15 (m : Nat) (x0 : Int) (x1 : Q3) (x2 : Q0) : Option ((Q0) × Int) :=
  if (Option.isSome (l15_0 m (m + 24) x0 x1 x2 ((((List.length x2) : Nat) : Int)) 0 (([] : Q0)))) = true then
  if ((l15_0R m (m + 24) x0 x1 x2 ((((List.length x2) : Nat) : Int)) 0 (([] : Q0))).1 == 0) = true then
    some (([] : Q0), (joinG x0 (List.getD (l15_0R m (m + 24) x0 x1 x2 ((((List.length x2) : Nat) : Int)) 0 (([] : Q0))).2.2 (0 + (Int.toNat (gIdx (l15_0R m (m + 24) x0 x1 x2 ((((List.length x2) : Nat) : Int)) 0 (([] : Q0))).2.2 (keepG (List.getD x2 (Int.toNat (l15_0R m (m + 24) x0 x1 x2 ((((List.length x2) : Nat) : Int)) 0 (([] : Q0))).2.1) (([] : Q2), 0)).1 x1)))) (([] : Q2), 0)).2 (1)).2)
  else
    if ((l15_0R m (m + 24) x0 x1 x2 ((((List.length x2) : Nat) : Int)) 0 (([] : Q0))).1 == 1) = true then
      some (([] : Q0), (joinG x0 (List.getD (l15_0R m (m + 24) x0 x1 x2 ((((List.length x2) : Nat) : Int)) 0 (([] : Q0))).2.2 (0 + (Int.toNat (gIdx (l15_0R m (m + 24) x0 x1 x2 ((((List.length x2) : Nat) : Int)) 0 (([] : Q0))).2.2 (keepG (List.getD x2 (Int.toNat (l15_0R m (m + 24) x0 x1 x2 ((((List.length x2) : Nat) : Int)) 0 (([] : Q0))).2.1) (([] : Q2), 0)).1 x1)))) (([] : Q2), 0)).2 (List.getD x2 (Int.toNat (l15_0R m (m + 24) x0 x1 x2 ((((List.length x2) : Nat) : Int)) 0 (([] : Q0))).2.1) (([] : Q2), 0)).2).2)
    else
      if ((l15_0R m (m + 24) x0 x1 x2 ((((List.length x2) : Nat) : Int)) 0 (([] : Q0))).1 == 2) = true then
      if sortPre (List.take (List.length (l15_0R m (m + 24) x0 x1 x2 ((((List.length x2) : Nat) : Int)) 0 (([] : Q0))).2.2) (List.drop 0 (l15_0R m (m + 24) x0 x1 x2 ((((List.length x2) : Nat) : Int)) 0 (([] : Q0))).2.2)) = true then
      some ((sortG (List.take (List.length (l15_0R m (m + 24) x0 x1 x2 ((((List.length x2) : Nat) : Int)) 0 (([] : Q0))).2.2) (List.drop 0 (l15_0R m (m + 24) x0 x1 x2 ((((List.length x2) : Nat) : Int)) 0 (([] : Q0))).2.2))), (0))
      else none
      else none
  else none
theorem p15_ok (m : Nat) (x0 : Int) (x1 : Q3) (x2 : Q0) (q : (Q0) × Int) (h : p15 m x0 x1 x2 = some q) : ∃ r B1, (evCall F S36 (m + 25) 15 [(.d (.int .i64 x0)), (.d (.sl .str x1)), (.d (.sl (.pair (.sl (.pair .str .str)) (.int .i64)) x2))] []).run = some (r, B1) ∧ 0 ≤ B1.length ∧ wkR B1 [] r (.tup [(.d (.sl (.pair (.sl (.pair .str .str)) (.int .i64)) q.1)), (.d (.int .i64 q.2))]) ∧ wkBs B1 [] 0 [] := by
  unfold p15 at h
  obtain ⟨c0, h⟩ := iY h
  refine ite_cases h (fun c1 h => ?_) (fun c1 h => ?_)
  · skip
    cases h
    refine ⟨(.tup [(.d (.sl (.pair (.sl (.pair .str .str)) (.int .i64)) ([] : Q0))), (.d (.int .i64 (joinG x0 (List.getD (l15_0R m (m + 24) x0 x1 x2 ((((List.length x2) : Nat) : Int)) 0 (([] : Q0))).2.2 (0 + (Int.toNat (gIdx (l15_0R m (m + 24) x0 x1 x2 ((((List.length x2) : Nat) : Int)) 0 (([] : Q0))).2.2 (keepG (List.getD x2 (Int.toNat (l15_0R m (m + 24) x0 x1 x2 ((((List.length x2) : Nat) : Int)) 0 (([] : Q0))).2.1) (([] : Q2), 0)).1 x1)))) (([] : Q2), 0)).2 (1)).2))]), [], runT_ok (LS := (fun k => if k = 459011 then some (l15_0E x0 x1 x2 (((((List.length x2) : Nat) : Int))) ((l15_0R m (m + 24) x0 x1 x2 ((((List.length x2) : Nat) : Int)) 0 (([] : Q0))).2.1) ((l15_0R m (m + 24) x0 x1 x2 ((((List.length x2) : Nat) : Int)) 0 (([] : Q0))).2.2) 0) else none)) (fn := fn15) (vis := [(459011, l15_0H x0 x1 x2 ((((List.length x2) : Nat) : Int)) 0 (([] : Q0)), l15_0B x0 x1 x2 ((((List.length x2) : Nat) : Int)) 0 (([] : Q0)))]) (by kernel_rfl) rfl (by kernel_rfl) (M.run_of_path _ [tT] _ _ (by kernel_rfl) (all_t rfl all_nil)) ?_, by simp, (wkR.tup (wkVs.cons (wkV.one (wk1.eq rfl)) (wkVs.cons (wkV.one (wk1.eq rfl)) wkVs.nil))), trivial⟩
    intro p hp p2 hq
    rcases List.mem_cons.1 hp with rfl | hp
    · skip
      have h3 := l15_0_ok m (m + 24) x0 x1 x2 ((((List.length x2) : Nat) : Int)) 0 (([] : Q0)) _ (some_getD (d := l15_0D) c0)
      rw [eq_of_beq c1] at h3
      exact Eq.trans (Eq.mp (by kernel_rfl) h3) hq
    cases hp
  · skip
    refine ite_cases h (fun c2 h => ?_) (fun c2 h => ?_)
    · skip
      cases h
      refine ⟨(.tup [(.d (.sl (.pair (.sl (.pair .str .str)) (.int .i64)) ([] : Q0))), (.d (.int .i64 (joinG x0 (List.getD (l15_0R m (m + 24) x0 x1 x2 ((((List.length x2) : Nat) : Int)) 0 (([] : Q0))).2.2 (0 + (Int.toNat (gIdx (l15_0R m (m + 24) x0 x1 x2 ((((List.length x2) : Nat) : Int)) 0 (([] : Q0))).2.2 (keepG (List.getD x2 (Int.toNat (l15_0R m (m + 24) x0 x1 x2 ((((List.length x2) : Nat) : Int)) 0 (([] : Q0))).2.1) (([] : Q2), 0)).1 x1)))) (([] : Q2), 0)).2 (List.getD x2 (Int.toNat (l15_0R m (m + 24) x0 x1 x2 ((((List.length x2) : Nat) : Int)) 0 (([] : Q0))).2.1) (([] : Q2), 0)).2).2))]), [], runT_ok (LS := (fun k => if k = 459011 then some (l15_0E x0 x1 x2 (((((List.length x2) : Nat) : Int))) ((l15_0R m (m + 24) x0 x1 x2 ((((List.length x2) : Nat) : Int)) 0 (([] : Q0))).2.1) ((l15_0R m (m + 24) x0 x1 x2 ((((List.length x2) : Nat) : Int)) 0 (([] : Q0))).2.2) 1) else none)) (fn := fn15) (vis := [(459011, l15_0H x0 x1 x2 ((((List.length x2) : Nat) : Int)) 0 (([] : Q0)), l15_0B x0 x1 x2 ((((List.length x2) : Nat) : Int)) 0 (([] : Q0)))]) (by kernel_rfl) rfl (by kernel_rfl) (M.run_of_path _ [tT] _ _ (by kernel_rfl) (all_t rfl all_nil)) ?_, by simp, (wkR.tup (wkVs.cons (wkV.one (wk1.eq rfl)) (wkVs.cons (wkV.one (wk1.eq rfl)) wkVs.nil))), trivial⟩
      intro p hp p2 hq
      rcases List.mem_cons.1 hp with rfl | hp
      · skip
        have h3 := l15_0_ok m (m + 24) x0 x1 x2 ((((List.length x2) : Nat) : Int)) 0 (([] : Q0)) _ (some_getD (d := l15_0D) c0)
        rw [eq_of_beq c2] at h3
        exact Eq.trans (Eq.mp (by kernel_rfl) h3) hq
      cases hp
    · skip
      obtain ⟨c3, h⟩ := iY h
      obtain ⟨c5, h⟩ := iY h
      cases h
      refine ⟨(.tup [(.d (.sl (.pair (.sl (.pair .str .str)) (.int .i64)) (sortG (List.take (List.length (l15_0R m (m + 24) x0 x1 x2 ((((List.length x2) : Nat) : Int)) 0 (([] : Q0))).2.2) (List.drop 0 (l15_0R m (m + 24) x0 x1 x2 ((((List.length x2) : Nat) : Int)) 0 (([] : Q0))).2.2))))), (.d (.int .i64 (0)))]), [], runT_ok (LS := (fun k => if k = 459011 then some (l15_0E x0 x1 x2 (((((List.length x2) : Nat) : Int))) ((l15_0R m (m + 24) x0 x1 x2 ((((List.length x2) : Nat) : Int)) 0 (([] : Q0))).2.1) ((l15_0R m (m + 24) x0 x1 x2 ((((List.length x2) : Nat) : Int)) 0 (([] : Q0))).2.2) 2) else none)) (fn := fn15) (vis := [(459011, l15_0H x0 x1 x2 ((((List.length x2) : Nat) : Int)) 0 (([] : Q0)), l15_0B x0 x1 x2 ((((List.length x2) : Nat) : Int)) 0 (([] : Q0)))]) (by kernel_rfl) rfl (by kernel_rfl) (M.run_of_path _ [tT, tT] _ _ (by kernel_rfl) (all_t (show decide ((0 + (List.length (l15_0R m (m + 24) x0 x1 x2 ((((List.length x2) : Nat) : Int)) 0 (([] : Q0))).2.2)) ≤ (List.length (l15_0R m (m + 24) x0 x1 x2 ((((List.length x2) : Nat) : Int)) 0 (([] : Q0))).2.2)) = true from decide_eq_true (Nat.le_of_eq (Nat.zero_add _))) (all_t c5 all_nil))) ?_, by simp, (wkR.tup (wkVs.cons (wkV.one (wk1.eq rfl)) (wkVs.cons (wkV.one (wk1.eq rfl)) wkVs.nil))), trivial⟩
      intro p hp p2 hq
      rcases List.mem_cons.1 hp with rfl | hp
      · skip
        have h3 := l15_0_ok m (m + 24) x0 x1 x2 ((((List.length x2) : Nat) : Int)) 0 (([] : Q0)) _ (some_getD (d := l15_0D) c0)
        rw [eq_of_beq c3] at h3
        exact Eq.trans (Eq.mp (by kernel_rfl) h3) hq
      cases hp

def gPut (kind : Int) (k : LB) (v : Int) : VL → VL
  | [] => [(k, v)]
  | p :: r => if (p.1 == k) = true then (p.1, (joinG kind p.2 v).1) :: r else p :: gPut kind k v r
def gVal (kind : Int) (p : PT1) : Int := if kind = 20 then 1 else p.2
def gFold (kind : Int) (ns : Q3) (out l : VL) : VL := l.foldl (fun o p => gPut kind (keepG p.1 ns) (gVal kind p) o) out
def groupG (kind : Int) (ns : Q3) (l : VL) : VL × Int := (sortG (gFold kind ns [] l), 0)
def groupPre (ns : Q3) (l : VL) : Bool := decide (ns.length ≤ 1000000 ∧ l.length < 20 ∧ ∀ p ∈ l, lrightPre p.1 = true ∧ -1000 ≤ p.2 ∧ p.2 ≤ 1000)
theorem gPut_no (kind : Int) (k : LB) (v : Int) : ∀ (l : VL) (i : Nat), fIdx (fun p => p.1 == k) l i < 0 → gPut kind k v l = l ++ [(k, v)]
  | [], i, _ => rfl
  | p :: r, i, h => by
    rw [fIdx] at h
    by_cases hc : (p.1 == k) = true
    · rw [if_pos hc] at h; omega
    · rw [if_neg hc] at h
      rw [gPut, if_neg hc, gPut_no kind k v r (i + 1) h]
      rfl
theorem gPut_at (kind : Int) (k : LB) (v : Int) : ∀ (l : VL) (i : Nat), 0 ≤ fIdx (fun p => p.1 == k) l i → ∃ j, fIdx (fun p => p.1 == k) l i = ((i + j : Nat) : Int) ∧ j < l.length ∧ gPut kind k v l = l.set j ((l.getD j (([] : LB), 0)).1, (joinG kind (l.getD j (([] : LB), 0)).2 v).1)
  | [], i, h => by simp [fIdx] at h
  | p :: r, i, h => by
    rw [fIdx] at h ⊢
    by_cases hc : (p.1 == k) = true
    · rw [if_pos hc]
      exact ⟨0, rfl, by simp, by rw [gPut, if_pos hc]; rfl⟩
    · rw [if_neg hc] at h ⊢
      obtain ⟨j, h1, h2, h3⟩ := gPut_at kind k v r (i + 1) h
      refine ⟨j + 1, by rw [h1]; congr 1; omega, by simp; omega, ?_⟩
      rw [gPut, if_neg hc, h3]
      simp
theorem gPut_len (kind : Int) (k : LB) (v : Int) : ∀ l : VL, (gPut kind k v l).length ≤ l.length + 1
  | [] => by simp [gPut]
  | p :: r => by
    have := gPut_len kind k v r
    rw [gPut]
    split <;> simp <;> omega
theorem join_small {kind a b B : Int} (h : -B ≤ a ∧ a ≤ B) (h2 : -1000 ≤ b ∧ b ≤ 1000) (hB : 0 ≤ B) : -(B + 1000) ≤ (joinG kind a b).1 ∧ (joinG kind a b).1 ≤ B + 1000 := by
  unfold joinG
  split
  · show -(B + 1000) ≤ (if b < a then b else a) ∧ (if b < a then b else a) ≤ B + 1000
    split <;> omega
  · split
    · show -(B + 1000) ≤ (if a < b then b else a) ∧ (if a < b then b else a) ≤ B + 1000
      split <;> omega
    · show -(B + 1000) ≤ a + b ∧ a + b ≤ B + 1000
      omega
theorem gPut_ok (kind : Int) (k : LB) (v B : Int) (hk : lrightPre k = true) (hv : -1000 ≤ v ∧ v ≤ 1000) (hB : 0 ≤ B) : ∀ l : VL, (∀ p ∈ l, lrightPre p.1 = true ∧ -B ≤ p.2 ∧ p.2 ≤ B) → ∀ p ∈ gPut kind k v l, lrightPre p.1 = true ∧ -(B + 1000) ≤ p.2 ∧ p.2 ≤ B + 1000
  | [], _, p, hp => by
    rw [gPut, List.mem_singleton] at hp
    subst hp
    exact ⟨hk, by show -(B + 1000) ≤ v; omega, by show v ≤ B + 1000; omega⟩
  | q :: r, h, p, hp => by
    have hq := h q (List.mem_cons_self ..)
    rw [gPut] at hp
    split at hp
    · rcases List.mem_cons.1 hp with rfl | hp
      · have := join_small (kind := kind) hq.2 hv hB
        exact ⟨hq.1, this⟩
      · have := h p (List.mem_cons_of_mem _ hp)
        exact ⟨this.1, by omega, by omega⟩
    · rcases List.mem_cons.1 hp with rfl | hp
      · exact ⟨hq.1, by omega, by omega⟩
      · exact gPut_ok kind k v B hk hv hB r (fun p hp => h p (List.mem_cons_of_mem _ hp)) p hp
theorem keep_pre {l : LB} (ns : Q3) (h : lrightPre l = true) : lrightPre (keepG l ns) = true := by
  obtain ⟨h1, h2⟩ := of_decide_eq_true h
  exact decide_eq_true ⟨Nat.le_trans (List.length_filter_le _ _) h1, fun x hx => h2 x (List.mem_filter.1 hx).1⟩
theorem group_loop (m : Nat) (kind : Int) (ns : Q3) (l : VL) (h1 : ns.length ≤ 1000000) (h2 : l.length < 20) (h3 : ∀ p ∈ l, lrightPre p.1 = true ∧ -1000 ≤ p.2 ∧ p.2 ≤ 1000) : ∀ (n k : Nat) (out : VL), k ≤ l.length → l.length - k < n → out.length ≤ k → (∀ p ∈ out, lrightPre p.1 = true ∧ -((1000 * k : Nat) : Int) ≤ p.2 ∧ p.2 ≤ ((1000 * k : Nat) : Int)) →
    ∃ j, l15_0 m n kind ns l ((l.length : Nat) : Int) (k : Nat) out = some (2, j, gFold kind ns out (l.drop k)) ∧ (gFold kind ns out (l.drop k)).length < 20 ∧ ∀ p ∈ gFold kind ns out (l.drop k), lrightPre p.1 = true
  | 0, k, _, _, h, _, _ => by omega
  | n + 1, k, out, g1, g2, g3, g4 => by
    rw [l15_0]
    by_cases hk : k < l.length
    · have e1 : decide (((k : Nat) : Int) < (((List.length l) : Nat) : Int)) = true := decide_eq_true (by omega)
      have e2 : decide ((0 : Int) ≤ ((k : Nat) : Int)) = true := decide_eq_true (by omega)
      have e4 : decide ((((List.length out) + 1) * 32) ≤ 70368744177664) = true := decide_eq_true (by omega)
      have e7 : IntKind.wrap .i64 (((k : Nat) : Int) + (1)) = ((k + 1 : Nat) : Int) := by rw [wrap_id (by omega) (by omega)]; rfl
      have hq := h3 _ (getD_mem l k (([] : LB), 0) hk)
      rw [drop_getD l k (([] : LB), 0) hk, show Int.toNat ((k : Nat) : Int) = k from rfl, e7]
      generalize l.getD k (([] : LB), 0) = q at *
      have hkp : keepPre q.1 ns = true := decide_eq_true ⟨(of_decide_eq_true hq.1).1, by omega⟩
      have hpp : ptsPre out = true := decide_eq_true ⟨by omega, fun p hp => (of_decide_eq_true (g4 p hp).1).1⟩
      have hfold : gFold kind ns out (q :: l.drop (k + 1)) = gFold kind ns (gPut kind (keepG q.1 ns) (gVal kind q) out) (l.drop (k + 1)) := rfl
      have hval : -1000 ≤ gVal kind q ∧ gVal kind q ≤ 1000 := by
        unfold gVal
        split
        · omega
        · exact hq.2
      have hput := gPut_ok kind (keepG q.1 ns) (gVal kind q) ((1000 * k : Nat) : Int) (keep_pre ns hq.1) hval (by omega) out g4
      have ih := group_loop m kind ns l h1 h2 h3 n (k + 1) (gPut kind (keepG q.1 ns) (gVal kind q) out) (by omega) (by omega) (by have := gPut_len kind (keepG q.1 ns) (gVal kind q) out; omega) (fun p hp => by have := hput p hp; exact ⟨this.1, by omega, by omega⟩)
      rw [hfold]
      simp only [e1, e2, e4, hkp, hpp, decide_true, Bool.and_self, ↓reduceIte]
      by_cases hc : gIdx out (keepG q.1 ns) < 0
      · rw [gPut_no kind _ _ out 0 hc] at ih ⊢
        by_cases h20 : kind = 20
        · have b20 : (kind == 20) = true := beq_iff_eq.2 h20
          have hv : gVal kind q = 1 := if_pos h20
          rw [hv] at ih ⊢
          simp only [b20, hc, decide_true, ↓reduceIte]
          exact ih
        · have b20 : (kind == 20) = false := by rw [beq_eq_false_iff_ne]; exact h20
          have hv : gVal kind q = q.2 := if_neg h20
          rw [hv] at ih ⊢
          simp only [b20, hc, decide_true, ↓reduceIte, Bool.false_eq_true]
          exact ih
      · have hge : 0 ≤ fIdx (fun p => p.1 == keepG q.1 ns) out 0 := by
          have : ¬ fIdx (fun p => p.1 == keepG q.1 ns) out 0 < 0 := hc
          omega
        obtain ⟨j, j1, j2, j3⟩ := gPut_at kind (keepG q.1 ns) (gVal kind q) out 0 hge
        have hj : gIdx out (keepG q.1 ns) = ((j : Nat) : Int) := by
          have j1 : gIdx out (keepG q.1 ns) = ((0 + j : Nat) : Int) := j1
          rw [Nat.zero_add] at j1
          exact j1
        have hb := g4 _ (getD_mem out j (([] : LB), 0) j2)
        have c1 : decide ((0 : Int) ≤ ((j : Nat) : Int)) = true := decide_eq_true (by omega)
        have c2 : decide (((j : Nat) : Int) < ((out.length : Nat) : Int)) = true := decide_eq_true (by omega)
        have c3 : decide (0 + j < out.length) = true := decide_eq_true (by omega)
        have c4 : decide (((j : Nat) : Int) < 0) = false := decide_eq_false (by omega)
        have noe : ∀ v : Int, ((joinG kind (out.getD j (([] : LB), 0)).2 v).2 != 0) = false := fun v => by
          unfold joinG
          split
          · rfl
          · split <;> rfl
        rw [j3] at ih ⊢
        rw [hj]
        by_cases h20 : kind = 20
        · have b20 : (kind == 20) = true := beq_iff_eq.2 h20
          have hv : gVal kind q = 1 := if_pos h20
          have rp : reckPre (out.getD j (([] : LB), 0)).2 1 = true := decide_eq_true (by omega)
          rw [hv] at ih ⊢
          simp only [b20, c1, c2, c3, c4, Int.toNat_natCast, Nat.zero_add, rp, noe, ↓reduceIte, Bool.false_eq_true]
          rw [Nat.zero_add] at c3
          simp only [c3, ↓reduceIte]
          exact ih
        · have b20 : (kind == 20) = false := by rw [beq_eq_false_iff_ne]; exact h20
          have hv : gVal kind q = q.2 := if_neg h20
          have rp : reckPre (out.getD j (([] : LB), 0)).2 q.2 = true := decide_eq_true (by omega)
          rw [hv] at ih ⊢
          simp only [b20, c1, c2, c3, c4, Int.toNat_natCast, Nat.zero_add, rp, noe, ↓reduceIte, Bool.false_eq_true]
          rw [Nat.zero_add] at c3
          simp only [c3, ↓reduceIte]
          exact ih
    · have e1 : decide (((k : Nat) : Int) < (((List.length l) : Nat) : Int)) = false := decide_eq_false (by omega)
      rw [e1, if_neg (by simp), List.drop_eq_nil_of_le (by omega)]
      exact ⟨((k : Nat) : Int), rfl, by show out.length < 20; omega, fun p hp => (g4 p hp).1⟩
theorem group15 (kind : Int) (ns : Q3) (l : VL) (h : groupPre ns l = true) : ∃ m, p15 m kind ns l = some (groupG kind ns l) := by
  obtain ⟨h1, h2, h3⟩ := of_decide_eq_true h
  refine ⟨l.length, ?_⟩
  obtain ⟨j, hr, q1, q2⟩ := group_loop l.length kind ns l h1 h2 h3 (l.length + 24) 0 [] (by omega) (by omega) (by simp) (fun p hp => by simp at hp)
  rw [Int.natCast_zero] at hr
  rw [List.drop_zero] at hr q1 q2
  unfold p15 l15_0R groupG
  rw [hr]
  have hp : sortPre (gFold kind ns [] l) = true := decide_eq_true ⟨q1, q2⟩
  have z0 : ((2 : Nat) == 0) = false := rfl
  have z1 : ((2 : Nat) == 1) = false := rfl
  simp only [Option.isSome_some, Option.getD_some, ↓reduceIte, List.drop_zero, List.take_length, hp, z0, z1, beq_self_eq_true, Bool.false_eq_true]
def s15 : List AV → Boxes → M (AV × Boxes) := normS [.val (.int .i64), .val (.sl .str), .val (.sl (.pair (.sl (.pair .str .str)) (.int .i64)))] [] fun xs B => match xs, B with
  | [(.d (.int .i64 c1)), (.d (.sl .str c2)), (.d (.sl (.pair (.sl (.pair .str .str)) (.int .i64)) c3))], [] => .chk (groupPre c2 c3) (.ret ((.tup [(.d (.sl (.pair (.sl (.pair .str .str)) (.int .i64)) (groupG c1 c2 c3).1)), (.d (.int .i64 (groupG c1 c2 c3).2))]), []))
  | _, _ => .fail
theorem s15_at : CallAt Tryd.prog 15 s15 := by
  refine CallAt.norm (CallAt.weakE (g := fun n => evCall F S36 n 15) (fun n => evCall_atH mixed kinds hds S36 S36_ok n 15) fun xs B r' B' hr => ?_) _ _
  split at hr
  · rename_i c1 c2 c3
    obtain ⟨hp, hr⟩ := (M.run_chk _ _ _).1 hr
    simp only [M.run, Option.some.injEq, Prod.mk.injEq] at hr
    obtain ⟨rfl, rfl⟩ := hr
    obtain ⟨m, hm⟩ := group15 c1 c2 c3 hp
    obtain ⟨r, B1, h1, h2, h3, h4⟩ := p15_ok m c1 c2 c3 _ hm
    exact ⟨m + 25, r, B1, h1, by simp, h2, h3, h4⟩
  · simp [M.run] at hr
noncomputable def S37 : FuncId → Option (List AV → Boxes → M (AV × Boxes)) := fun f => if f = 15 then some s15 else S36 f
theorem S37_ok : ∀ f s, S37 f = some s → CallAt Tryd.prog f s := by
  intro f s h
  unfold S37 at h
  split at h
  · rename_i e; subst e; cases h; exact s15_at
  · exact S36_ok f s h

end Go.Proofs.YtahdcmicifokgaaDoor.Dec
namespace Go.Proofs.YtahdcmicifokgaaDoor.Dec
open Go.Ev
set_option linter.unusedVariables false
set_option linter.unusedSimpArgs false
set_option maxRecDepth 100000
set_option maxHeartbeats 20000000
noncomputable def fn4 : AFn := (F 4).getD ⟨0, [], .bad, false, false, noHd⟩
noncomputable def body4 : AC := fn4.body
def l4_0 (m : Nat) : Nat → Q0 → Q0 → Q0 → Q0 → Q0 → Q0 → Int → Int → Int → Int → Option (Nat × Int × Int × Int)
  | 0, _, _, _, _, _, _, _, _, _, _ => none
  | n + 1, s5, s7, s9, s11, s13, s15, s17, s18, s98, s99 => if decide (s99 < s98) = true then
      if decide (0 ≤ s99) = true then
      if decide (s99 < (((List.length s7) : Nat) : Int)) = true then
      if decide (s99 < (((List.length s9) : Nat) : Int)) = true then
      if decide (s99 < (((List.length s11) : Nat) : Int)) = true then
      if decide (s99 < (((List.length s13) : Nat) : Int)) = true then
      if decide ((List.getD s11 (Int.toNat s99) (([] : Q2), 0)).2 > (List.getD s13 (Int.toNat s99) (([] : Q2), 0)).2) = true then
        none
      else
        if decide ((List.getD s9 (Int.toNat s99) (([] : Q2), 0)).2 < (IntKind.wrap .i64 ((List.getD s7 (Int.toNat s99) (([] : Q2), 0)).2 * (List.getD s11 (Int.toNat s99) (([] : Q2), 0)).2))) = true then
          none
        else
          if decide ((List.getD s9 (Int.toNat s99) (([] : Q2), 0)).2 > (IntKind.wrap .i64 ((List.getD s7 (Int.toNat s99) (([] : Q2), 0)).2 * (List.getD s13 (Int.toNat s99) (([] : Q2), 0)).2))) = true then
            none
          else
            if decide (List.length (List.getD s7 (Int.toNat s99) (([] : Q2), 0)).1 < 4611686018427387904) = true then
            if ((show Q2 from (List.getD s7 (Int.toNat s99) (([] : Q2), 0)).1) == (List.getD s9 (Int.toNat s99) (([] : Q2), 0)).1) = true then
            l4_0 m n s5 s7 s9 s11 s13 s15 ((IntKind.wrap .i64 (s17 + (List.getD s7 (Int.toNat s99) (([] : Q2), 0)).2))) ((IntKind.wrap .i64 (s18 + (List.getD s9 (Int.toNat s99) (([] : Q2), 0)).2))) s98 ((IntKind.wrap .i64 (s99 + (1))))
            else none
            else none
      else none
      else none
      else none
      else none
      else none
    else
      some (0, s17, s18, s99)
def l4_0D : Nat × Int × Int × Int := (0, 0, 0, 0)
@[reducible] def l4_0R (m n : Nat) (s5 : Q0) (s7 : Q0) (s9 : Q0) (s11 : Q0) (s13 : Q0) (s15 : Q0) (s17 : Int) (s18 : Int) (s98 : Int) (s99 : Int) : Nat × Int × Int × Int := Option.getD (l4_0 m n s5 s7 s9 s11 s13 s15 s17 s18 s98 s99) l4_0D
def l4_0H (s5 : Q0) (s7 : Q0) (s9 : Q0) (s11 : Q0) (s13 : Q0) (s15 : Q0) (s17 : Int) (s18 : Int) (s98 : Int) (s99 : Int) : Env := (.top :: .top :: .top :: .top :: .top :: (.d (.sl (.pair (.sl (.pair .str .str)) (.int .i64)) s5)) :: .top :: (.d (.sl (.pair (.sl (.pair .str .str)) (.int .i64)) s7)) :: .top :: (.d (.sl (.pair (.sl (.pair .str .str)) (.int .i64)) s9)) :: .top :: (.d (.sl (.pair (.sl (.pair .str .str)) (.int .i64)) s11)) :: .top :: (.d (.sl (.pair (.sl (.pair .str .str)) (.int .i64)) s13)) :: .top :: (.d (.sl (.pair (.sl (.pair .str .str)) (.int .i64)) s15)) :: .top :: (.d (.int .i64 s17)) :: (.d (.int .i64 s18)) :: tp79 ((.d (.int .i64 s98)) :: (.d (.int .i64 s99)) :: tp126 []))
def l4_0B (s5 : Q0) (s7 : Q0) (s9 : Q0) (s11 : Q0) (s13 : Q0) (s15 : Q0) (s17 : Int) (s18 : Int) (s98 : Int) (s99 : Int) : Boxes := []
def l4_0E (s5 : Q0) (s7 : Q0) (s9 : Q0) (s11 : Q0) (s13 : Q0) (s15 : Q0) (s17 : Int) (s18 : Int) (s98 : Int) (s99 : Int) : Nat → AEx × Env × Boxes
  | _ => (.exit 0, (.top :: .top :: .top :: .top :: .top :: (.d (.sl (.pair (.sl (.pair .str .str)) (.int .i64)) s5)) :: .top :: (.d (.sl (.pair (.sl (.pair .str .str)) (.int .i64)) s7)) :: .top :: (.d (.sl (.pair (.sl (.pair .str .str)) (.int .i64)) s9)) :: .top :: (.d (.sl (.pair (.sl (.pair .str .str)) (.int .i64)) s11)) :: .top :: (.d (.sl (.pair (.sl (.pair .str .str)) (.int .i64)) s13)) :: .top :: (.d (.sl (.pair (.sl (.pair .str .str)) (.int .i64)) s15)) :: .top :: (.d (.int .i64 s17)) :: (.d (.int .i64 s18)) :: tp79 ((.d (.int .i64 s98)) :: (.d (.int .i64 s99)) :: (.d (.bool (decide (s99 < s98)))) :: tp125 [])), [])
noncomputable def lbl4_0 : AC := loopBody 950737950171172051122527840928 body4
@[reducible] noncomputable def cb23 (m : Nat) := (evC byref (evCall F S37 (m + 24)) (m + 24) 0 (hds 4) lbl4_0)


theorem l4_0_step (m n : Nat) (ih : ∀ (s5 : Q0) (s7 : Q0) (s9 : Q0) (s11 : Q0) (s13 : Q0) (s15 : Q0) (s17 : Int) (s18 : Int) (s98 : Int) (s99 : Int) (q : Nat × Int × Int × Int), l4_0 m n s5 s7 s9 s11 s13 s15 s17 s18 s98 s99 = some q → (turns (hds 4 950737950171172051122527840928) 0 950737950171172051122527840928 (cb23 m) n (l4_0H s5 s7 s9 s11 s13 s15 s17 s18 s98 s99) (l4_0B s5 s7 s9 s11 s13 s15 s17 s18 s98 s99)).run = some (l4_0E (s5) (s7) (s9) (s11) (s13) (s15) (q.2.1) (q.2.2.1) (s98) (q.2.2.2) q.1)) (s5 : Q0) (s7 : Q0) (s9 : Q0) (s11 : Q0) (s13 : Q0) (s15 : Q0) (s17 : Int) (s18 : Int) (s98 : Int) (s99 : Int) (q : Nat × Int × Int × Int) (h : l4_0 m (n + 1) s5 s7 s9 s11 s13 s15 s17 s18 s98 s99 = some q) : (turns (hds 4 950737950171172051122527840928) 0 950737950171172051122527840928 (cb23 m) (n + 1) (l4_0H s5 s7 s9 s11 s13 s15 s17 s18 s98 s99) (l4_0B s5 s7 s9 s11 s13 s15 s17 s18 s98 s99)).run = some (l4_0E (s5) (s7) (s9) (s11) (s13) (s15) (q.2.1) (q.2.2.1) (s98) (q.2.2.2) q.1) := by
  rw [l4_0] at h
  refine ite_cases h (fun c0 h => ?_) (fun c0 h => ?_)
  · skip
    obtain ⟨c1, h⟩ := iY h
    obtain ⟨c2, h⟩ := iY h
    obtain ⟨c4, h⟩ := iY h
    obtain ⟨c6, h⟩ := iY h
    obtain ⟨c8, h⟩ := iY h
    refine ite_cases h (fun _ h => by cases h) (fun c9 h => ?_)
    refine ite_cases h (fun _ h => by cases h) (fun c33 h => ?_)
    refine ite_cases h (fun _ h => by cases h) (fun c57 h => ?_)
    obtain ⟨c72, h⟩ := iY h
    obtain ⟨c75, h⟩ := iY h
    have ih := ih _ _ _ _ _ _ _ _ _ _ q h
    refine turns_step ?_ ih
    exact M.run_of_path _ [tT, tT, tT, tT, tT, tT, tT, tT, tT, fF, fF, fF, tT, tT, fF, fF, fF, fF, fF, tT, tT, fF, fF, fF, fF, fF, tT, tT, fF, fF, fF, fF, fF, fF, fF, fF, tT, tT, fF, fF, fF, fF, fF, tT, tT, fF, fF, fF, fF, fF, tT, tT, fF, fF, fF, fF, fF, fF, fF, fF, tT, tT, fF, fF, fF, fF, fF, tT, tT, fF, fF, fF, tT, fF, fF, fF] _ _ (by kernel_rfl) (all_t c0 (all_t c1 (all_t c2 (all_t c1 (all_t c4 (all_t c1 (all_t c6 (all_t c1 (all_t c8 (all_f c9 (all_f c9 (all_f c9 (all_t c1 (all_t c4 (all_f c9 (all_f c9 (all_f c9 (all_f c9 (all_f c9 (all_t c1 (all_t c2 (all_f c9 (all_f c9 (all_f c9 (all_f c9 (all_f c9 (all_t c1 (all_t c6 (all_f c9 (all_f c9 (all_f c9 (all_f c9 (all_f c9 (all_f c33 (all_f c33 (all_f c33 (all_t c1 (all_t c4 (all_f c33 (all_f c33 (all_f c33 (all_f c33 (all_f c33 (all_t c1 (all_t c2 (all_f c33 (all_f c33 (all_f c33 (all_f c33 (all_f c33 (all_t c1 (all_t c8 (all_f c33 (all_f c33 (all_f c33 (all_f c33 (all_f c33 (all_f c57 (all_f c57 (all_f c57 (all_t c1 (all_t c2 (all_f c57 (all_f c57 (all_f c57 (all_f c57 (all_f c57 (all_t c1 (all_t c4 (all_f c57 (all_f c57 (all_f c57 (all_t c72 (all_f c57 (all_f c57 (all_nt c75 all_nil))))))))))))))))))))))))))))))))))))))))))))))))))))))))))))))))))))))))))))
  · skip
    cases h
    refine turns_last (by simp) ?_
    exact M.run_of_path _ [fF] _ _ (by kernel_rfl) (all_f c0 all_nil)
theorem l4_0_ok (m : Nat) : ∀ (n : Nat) (s5 : Q0) (s7 : Q0) (s9 : Q0) (s11 : Q0) (s13 : Q0) (s15 : Q0) (s17 : Int) (s18 : Int) (s98 : Int) (s99 : Int) (q : Nat × Int × Int × Int), l4_0 m n s5 s7 s9 s11 s13 s15 s17 s18 s98 s99 = some q → (turns (hds 4 950737950171172051122527840928) 0 950737950171172051122527840928 (cb23 m) n (l4_0H s5 s7 s9 s11 s13 s15 s17 s18 s98 s99) (l4_0B s5 s7 s9 s11 s13 s15 s17 s18 s98 s99)).run = some (l4_0E (s5) (s7) (s9) (s11) (s13) (s15) (q.2.1) (q.2.2.1) (s98) (q.2.2.2) q.1)
  | 0, s5, s7, s9, s11, s13, s15, s17, s18, s98, s99, q, h => by cases h
  | n + 1, s5, s7, s9, s11, s13, s15, s17, s18, s98, s99, q, h => l4_0_step m n (l4_0_ok m n) s5 s7 s9 s11 s13 s15 s17 s18 s98 s99 q h

def vgroups (m : Nat) (x0 : Q1) (x1 : Q3) : Option Unit :=
  if (decide (0 ≤ (if (4) < (((List.length x1) : Nat) : Int) then (4) else (((List.length x1) : Nat) : Int))) && decide ((if (4) < (((List.length x1) : Nat) : Int) then (4) else (((List.length x1) : Nat) : Int)) ≤ (((List.length x1) : Nat) : Int))) = true then
  if groupPre (List.drop 0 (List.take (Int.toNat (if (4) < (((List.length x1) : Nat) : Int) then (4) else (((List.length x1) : Nat) : Int))) x1)) (vecG x0) = true then
  if groupPre ([] : Q3) (vecG x0) = true then
  if ((groupG (20) (List.drop 0 (List.take (Int.toNat (if (4) < (((List.length x1) : Nat) : Int) then (4) else (((List.length x1) : Nat) : Int))) x1)) (vecG x0)).2 != (0)) = true then
    none
  else
    if ((groupG (17) (List.drop 0 (List.take (Int.toNat (if (4) < (((List.length x1) : Nat) : Int) then (4) else (((List.length x1) : Nat) : Int))) x1)) (vecG x0)).2 != (0)) = true then
      none
    else
      if ((groupG (18) (List.drop 0 (List.take (Int.toNat (if (4) < (((List.length x1) : Nat) : Int) then (4) else (((List.length x1) : Nat) : Int))) x1)) (vecG x0)).2 != (0)) = true then
        none
      else
        if ((groupG (19) (List.drop 0 (List.take (Int.toNat (if (4) < (((List.length x1) : Nat) : Int) then (4) else (((List.length x1) : Nat) : Int))) x1)) (vecG x0)).2 != (0)) = true then
          none
        else
          if ((groupG (17) ([] : Q3) (vecG x0)).2 != (0)) = true then
            none
          else
            if ((((List.length (groupG (20) (List.drop 0 (List.take (Int.toNat (if (4) < (((List.length x1) : Nat) : Int) then (4) else (((List.length x1) : Nat) : Int))) x1)) (vecG x0)).1) : Nat) : Int) != (((List.length (groupG (17) (List.drop 0 (List.take (Int.toNat (if (4) < (((List.length x1) : Nat) : Int) then (4) else (((List.length x1) : Nat) : Int))) x1)) (vecG x0)).1) : Nat) : Int)) = true then
              none
            else
              if ((((List.length (groupG (20) (List.drop 0 (List.take (Int.toNat (if (4) < (((List.length x1) : Nat) : Int) then (4) else (((List.length x1) : Nat) : Int))) x1)) (vecG x0)).1) : Nat) : Int) != (((List.length (groupG (18) (List.drop 0 (List.take (Int.toNat (if (4) < (((List.length x1) : Nat) : Int) then (4) else (((List.length x1) : Nat) : Int))) x1)) (vecG x0)).1) : Nat) : Int)) = true then
                none
              else
                if ((((List.length (groupG (20) (List.drop 0 (List.take (Int.toNat (if (4) < (((List.length x1) : Nat) : Int) then (4) else (((List.length x1) : Nat) : Int))) x1)) (vecG x0)).1) : Nat) : Int) != (((List.length (groupG (19) (List.drop 0 (List.take (Int.toNat (if (4) < (((List.length x1) : Nat) : Int) then (4) else (((List.length x1) : Nat) : Int))) x1)) (vecG x0)).1) : Nat) : Int)) = true then
                  none
                else
                  if (Option.isSome (l4_0 m (m + 24) ((vecG x0)) ((groupG (20) (List.drop 0 (List.take (Int.toNat (if (4) < (((List.length x1) : Nat) : Int) then (4) else (((List.length x1) : Nat) : Int))) x1)) (vecG x0)).1) ((groupG (17) (List.drop 0 (List.take (Int.toNat (if (4) < (((List.length x1) : Nat) : Int) then (4) else (((List.length x1) : Nat) : Int))) x1)) (vecG x0)).1) ((groupG (18) (List.drop 0 (List.take (Int.toNat (if (4) < (((List.length x1) : Nat) : Int) then (4) else (((List.length x1) : Nat) : Int))) x1)) (vecG x0)).1) ((groupG (19) (List.drop 0 (List.take (Int.toNat (if (4) < (((List.length x1) : Nat) : Int) then (4) else (((List.length x1) : Nat) : Int))) x1)) (vecG x0)).1) ((groupG (17) ([] : Q3) (vecG x0)).1) 0 0 ((((List.length (groupG (20) (List.drop 0 (List.take (Int.toNat (if (4) < (((List.length x1) : Nat) : Int) then (4) else (((List.length x1) : Nat) : Int))) x1)) (vecG x0)).1) : Nat) : Int)) 0)) = true then
                  if groupPre [([97] : Q4), ([98] : Q4), ([99] : Q4), ([110, 97, 109, 101] : Q4)] ((vecG x0)) = true then
                  if ((l4_0R m (m + 24) ((vecG x0)) ((groupG (20) (List.drop 0 (List.take (Int.toNat (if (4) < (((List.length x1) : Nat) : Int) then (4) else (((List.length x1) : Nat) : Int))) x1)) (vecG x0)).1) ((groupG (17) (List.drop 0 (List.take (Int.toNat (if (4) < (((List.length x1) : Nat) : Int) then (4) else (((List.length x1) : Nat) : Int))) x1)) (vecG x0)).1) ((groupG (18) (List.drop 0 (List.take (Int.toNat (if (4) < (((List.length x1) : Nat) : Int) then (4) else (((List.length x1) : Nat) : Int))) x1)) (vecG x0)).1) ((groupG (19) (List.drop 0 (List.take (Int.toNat (if (4) < (((List.length x1) : Nat) : Int) then (4) else (((List.length x1) : Nat) : Int))) x1)) (vecG x0)).1) ((groupG (17) ([] : Q3) (vecG x0)).1) 0 0 ((((List.length (groupG (20) (List.drop 0 (List.take (Int.toNat (if (4) < (((List.length x1) : Nat) : Int) then (4) else (((List.length x1) : Nat) : Int))) x1)) (vecG x0)).1) : Nat) : Int)) 0).2.1 == (((List.length ((vecG x0))) : Nat) : Int)) = true then
                  if ((((List.length ((vecG x0))) : Nat) : Int) == (0)) = true then
                    if ((((List.length ((groupG (17) ([] : Q3) (vecG x0)).1)) : Nat) : Int) == (0)) = true then
                      if ((groupG (17) [([97] : Q4), ([98] : Q4), ([99] : Q4), ([110, 97, 109, 101] : Q4)] ((vecG x0))).2 == (0)) = true then
                      if sortPre ((vecG x0)) = true then
                      if ptsPre (groupG (17) [([97] : Q4), ([98] : Q4), ([99] : Q4), ([110, 97, 109, 101] : Q4)] ((vecG x0))).1 = true then
                      if ((show List (List (Q4 × Q4) × Int) from (groupG (17) [([97] : Q4), ([98] : Q4), ([99] : Q4), ([110, 97, 109, 101] : Q4)] ((vecG x0))).1) == (sortG ((vecG x0)))) = true then
                      some ()
                      else none
                      else none
                      else none
                      else none
                    else
                      if ((((List.length ((groupG (17) ([] : Q3) (vecG x0)).1)) : Nat) : Int) == (1)) = true then
                      if decide (0 < (((List.length ((groupG (17) ([] : Q3) (vecG x0)).1)) : Nat) : Int)) = true then
                      if ((List.getD ((groupG (17) ([] : Q3) (vecG x0)).1) 0 (([] : Q2), 0)).2 == (l4_0R m (m + 24) ((vecG x0)) ((groupG (20) (List.drop 0 (List.take (Int.toNat (if (4) < (((List.length x1) : Nat) : Int) then (4) else (((List.length x1) : Nat) : Int))) x1)) (vecG x0)).1) ((groupG (17) (List.drop 0 (List.take (Int.toNat (if (4) < (((List.length x1) : Nat) : Int) then (4) else (((List.length x1) : Nat) : Int))) x1)) (vecG x0)).1) ((groupG (18) (List.drop 0 (List.take (Int.toNat (if (4) < (((List.length x1) : Nat) : Int) then (4) else (((List.length x1) : Nat) : Int))) x1)) (vecG x0)).1) ((groupG (19) (List.drop 0 (List.take (Int.toNat (if (4) < (((List.length x1) : Nat) : Int) then (4) else (((List.length x1) : Nat) : Int))) x1)) (vecG x0)).1) ((groupG (17) ([] : Q3) (vecG x0)).1) 0 0 ((((List.length (groupG (20) (List.drop 0 (List.take (Int.toNat (if (4) < (((List.length x1) : Nat) : Int) then (4) else (((List.length x1) : Nat) : Int))) x1)) (vecG x0)).1) : Nat) : Int)) 0).2.2.1) = true then
                      if ((groupG (17) [([97] : Q4), ([98] : Q4), ([99] : Q4), ([110, 97, 109, 101] : Q4)] ((vecG x0))).2 == (0)) = true then
                      if sortPre ((vecG x0)) = true then
                      if ptsPre (groupG (17) [([97] : Q4), ([98] : Q4), ([99] : Q4), ([110, 97, 109, 101] : Q4)] ((vecG x0))).1 = true then
                      if ((show List (List (Q4 × Q4) × Int) from (groupG (17) [([97] : Q4), ([98] : Q4), ([99] : Q4), ([110, 97, 109, 101] : Q4)] ((vecG x0))).1) == (sortG ((vecG x0)))) = true then
                      some ()
                      else none
                      else none
                      else none
                      else none
                      else none
                      else none
                      else none
                  else
                    if ((((List.length ((groupG (17) ([] : Q3) (vecG x0)).1)) : Nat) : Int) == (1)) = true then
                    if decide (0 < (((List.length ((groupG (17) ([] : Q3) (vecG x0)).1)) : Nat) : Int)) = true then
                    if ((List.getD ((groupG (17) ([] : Q3) (vecG x0)).1) 0 (([] : Q2), 0)).2 == (l4_0R m (m + 24) ((vecG x0)) ((groupG (20) (List.drop 0 (List.take (Int.toNat (if (4) < (((List.length x1) : Nat) : Int) then (4) else (((List.length x1) : Nat) : Int))) x1)) (vecG x0)).1) ((groupG (17) (List.drop 0 (List.take (Int.toNat (if (4) < (((List.length x1) : Nat) : Int) then (4) else (((List.length x1) : Nat) : Int))) x1)) (vecG x0)).1) ((groupG (18) (List.drop 0 (List.take (Int.toNat (if (4) < (((List.length x1) : Nat) : Int) then (4) else (((List.length x1) : Nat) : Int))) x1)) (vecG x0)).1) ((groupG (19) (List.drop 0 (List.take (Int.toNat (if (4) < (((List.length x1) : Nat) : Int) then (4) else (((List.length x1) : Nat) : Int))) x1)) (vecG x0)).1) ((groupG (17) ([] : Q3) (vecG x0)).1) 0 0 ((((List.length (groupG (20) (List.drop 0 (List.take (Int.toNat (if (4) < (((List.length x1) : Nat) : Int) then (4) else (((List.length x1) : Nat) : Int))) x1)) (vecG x0)).1) : Nat) : Int)) 0).2.2.1) = true then
                    if ((groupG (17) [([97] : Q4), ([98] : Q4), ([99] : Q4), ([110, 97, 109, 101] : Q4)] ((vecG x0))).2 == (0)) = true then
                    if sortPre ((vecG x0)) = true then
                    if ptsPre (groupG (17) [([97] : Q4), ([98] : Q4), ([99] : Q4), ([110, 97, 109, 101] : Q4)] ((vecG x0))).1 = true then
                    if ((show List (List (Q4 × Q4) × Int) from (groupG (17) [([97] : Q4), ([98] : Q4), ([99] : Q4), ([110, 97, 109, 101] : Q4)] ((vecG x0))).1) == (sortG ((vecG x0)))) = true then
                    some ()
                    else none
                    else none
                    else none
                    else none
                    else none
                    else none
                    else none
                  else none
                  else none
                  else none
  else none
  else none
  else none

theorem vgroups_ok (m : Nat) (x0 : Q1) (x1 : Q3) (q : Unit) (h : vgroups m x0 x1 = some q) : (evCall F S37 (m + 25) 4 [(.agg [(.d (.sl (.pair (.sl (.int .i64)) (.sl (.int .i64))) x0.1)), (.d (.sl (.int .i64) x0.2))]), (.d (.sl .str x1))] []).run = some (.d (.bool true), []) := by
  unfold vgroups at h
  obtain ⟨c1, h⟩ := iY h
  obtain ⟨c2, h⟩ := iY h
  obtain ⟨c6, h⟩ := iY h
  refine ite_cases h (fun _ h => by cases h) (fun c7 h => ?_)
  refine ite_cases h (fun _ h => by cases h) (fun c10 h => ?_)
  refine ite_cases h (fun _ h => by cases h) (fun c13 h => ?_)
  refine ite_cases h (fun _ h => by cases h) (fun c16 h => ?_)
  refine ite_cases h (fun _ h => by cases h) (fun c19 h => ?_)
  refine ite_cases h (fun _ h => by cases h) (fun c25 h => ?_)
  refine ite_cases h (fun _ h => by cases h) (fun c31 h => ?_)
  refine ite_cases h (fun _ h => by cases h) (fun c37 h => ?_)
  obtain ⟨c38, h⟩ := iY h
  obtain ⟨c40, h⟩ := iY h
  obtain ⟨c41, h⟩ := iY h
  refine ite_cases h (fun c45 h => ?_) (fun c45 h => ?_)
  · skip
    refine ite_cases h (fun c51 h => ?_) (fun c51 h => ?_)
    · skip
      obtain ⟨c62, h⟩ := iY h
      obtain ⟨c65, h⟩ := iY h
      obtain ⟨c67, h⟩ := iY h
      obtain ⟨c69, h⟩ := iY h
      cases h
      refine runT_ok (LS := (fun k => if k = 950737950171172051122527840928 then some (l4_0E (((vecG x0))) (((groupG (20) (List.drop 0 (List.take (Int.toNat (if (4) < (((List.length x1) : Nat) : Int) then (4) else (((List.length x1) : Nat) : Int))) x1)) (vecG x0)).1)) (((groupG (17) (List.drop 0 (List.take (Int.toNat (if (4) < (((List.length x1) : Nat) : Int) then (4) else (((List.length x1) : Nat) : Int))) x1)) (vecG x0)).1)) (((groupG (18) (List.drop 0 (List.take (Int.toNat (if (4) < (((List.length x1) : Nat) : Int) then (4) else (((List.length x1) : Nat) : Int))) x1)) (vecG x0)).1)) (((groupG (19) (List.drop 0 (List.take (Int.toNat (if (4) < (((List.length x1) : Nat) : Int) then (4) else (((List.length x1) : Nat) : Int))) x1)) (vecG x0)).1)) (((groupG (17) ([] : Q3) (vecG x0)).1)) ((l4_0R m (m + 24) ((vecG x0)) ((groupG (20) (List.drop 0 (List.take (Int.toNat (if (4) < (((List.length x1) : Nat) : Int) then (4) else (((List.length x1) : Nat) : Int))) x1)) (vecG x0)).1) ((groupG (17) (List.drop 0 (List.take (Int.toNat (if (4) < (((List.length x1) : Nat) : Int) then (4) else (((List.length x1) : Nat) : Int))) x1)) (vecG x0)).1) ((groupG (18) (List.drop 0 (List.take (Int.toNat (if (4) < (((List.length x1) : Nat) : Int) then (4) else (((List.length x1) : Nat) : Int))) x1)) (vecG x0)).1) ((groupG (19) (List.drop 0 (List.take (Int.toNat (if (4) < (((List.length x1) : Nat) : Int) then (4) else (((List.length x1) : Nat) : Int))) x1)) (vecG x0)).1) ((groupG (17) ([] : Q3) (vecG x0)).1) 0 0 ((((List.length (groupG (20) (List.drop 0 (List.take (Int.toNat (if (4) < (((List.length x1) : Nat) : Int) then (4) else (((List.length x1) : Nat) : Int))) x1)) (vecG x0)).1) : Nat) : Int)) 0).2.1) ((l4_0R m (m + 24) ((vecG x0)) ((groupG (20) (List.drop 0 (List.take (Int.toNat (if (4) < (((List.length x1) : Nat) : Int) then (4) else (((List.length x1) : Nat) : Int))) x1)) (vecG x0)).1) ((groupG (17) (List.drop 0 (List.take (Int.toNat (if (4) < (((List.length x1) : Nat) : Int) then (4) else (((List.length x1) : Nat) : Int))) x1)) (vecG x0)).1) ((groupG (18) (List.drop 0 (List.take (Int.toNat (if (4) < (((List.length x1) : Nat) : Int) then (4) else (((List.length x1) : Nat) : Int))) x1)) (vecG x0)).1) ((groupG (19) (List.drop 0 (List.take (Int.toNat (if (4) < (((List.length x1) : Nat) : Int) then (4) else (((List.length x1) : Nat) : Int))) x1)) (vecG x0)).1) ((groupG (17) ([] : Q3) (vecG x0)).1) 0 0 ((((List.length (groupG (20) (List.drop 0 (List.take (Int.toNat (if (4) < (((List.length x1) : Nat) : Int) then (4) else (((List.length x1) : Nat) : Int))) x1)) (vecG x0)).1) : Nat) : Int)) 0).2.2.1) (((((List.length (groupG (20) (List.drop 0 (List.take (Int.toNat (if (4) < (((List.length x1) : Nat) : Int) then (4) else (((List.length x1) : Nat) : Int))) x1)) (vecG x0)).1) : Nat) : Int))) ((l4_0R m (m + 24) ((vecG x0)) ((groupG (20) (List.drop 0 (List.take (Int.toNat (if (4) < (((List.length x1) : Nat) : Int) then (4) else (((List.length x1) : Nat) : Int))) x1)) (vecG x0)).1) ((groupG (17) (List.drop 0 (List.take (Int.toNat (if (4) < (((List.length x1) : Nat) : Int) then (4) else (((List.length x1) : Nat) : Int))) x1)) (vecG x0)).1) ((groupG (18) (List.drop 0 (List.take (Int.toNat (if (4) < (((List.length x1) : Nat) : Int) then (4) else (((List.length x1) : Nat) : Int))) x1)) (vecG x0)).1) ((groupG (19) (List.drop 0 (List.take (Int.toNat (if (4) < (((List.length x1) : Nat) : Int) then (4) else (((List.length x1) : Nat) : Int))) x1)) (vecG x0)).1) ((groupG (17) ([] : Q3) (vecG x0)).1) 0 0 ((((List.length (groupG (20) (List.drop 0 (List.take (Int.toNat (if (4) < (((List.length x1) : Nat) : Int) then (4) else (((List.length x1) : Nat) : Int))) x1)) (vecG x0)).1) : Nat) : Int)) 0).2.2.2) 0) else none)) (fn := fn4) (r := .d (.bool true)) (B' := []) (vis := [(950737950171172051122527840928, l4_0H ((vecG x0)) ((groupG (20) (List.drop 0 (List.take (Int.toNat (if (4) < (((List.length x1) : Nat) : Int) then (4) else (((List.length x1) : Nat) : Int))) x1)) (vecG x0)).1) ((groupG (17) (List.drop 0 (List.take (Int.toNat (if (4) < (((List.length x1) : Nat) : Int) then (4) else (((List.length x1) : Nat) : Int))) x1)) (vecG x0)).1) ((groupG (18) (List.drop 0 (List.take (Int.toNat (if (4) < (((List.length x1) : Nat) : Int) then (4) else (((List.length x1) : Nat) : Int))) x1)) (vecG x0)).1) ((groupG (19) (List.drop 0 (List.take (Int.toNat (if (4) < (((List.length x1) : Nat) : Int) then (4) else (((List.length x1) : Nat) : Int))) x1)) (vecG x0)).1) ((groupG (17) ([] : Q3) (vecG x0)).1) 0 0 ((((List.length (groupG (20) (List.drop 0 (List.take (Int.toNat (if (4) < (((List.length x1) : Nat) : Int) then (4) else (((List.length x1) : Nat) : Int))) x1)) (vecG x0)).1) : Nat) : Int)) 0, l4_0B ((vecG x0)) ((groupG (20) (List.drop 0 (List.take (Int.toNat (if (4) < (((List.length x1) : Nat) : Int) then (4) else (((List.length x1) : Nat) : Int))) x1)) (vecG x0)).1) ((groupG (17) (List.drop 0 (List.take (Int.toNat (if (4) < (((List.length x1) : Nat) : Int) then (4) else (((List.length x1) : Nat) : Int))) x1)) (vecG x0)).1) ((groupG (18) (List.drop 0 (List.take (Int.toNat (if (4) < (((List.length x1) : Nat) : Int) then (4) else (((List.length x1) : Nat) : Int))) x1)) (vecG x0)).1) ((groupG (19) (List.drop 0 (List.take (Int.toNat (if (4) < (((List.length x1) : Nat) : Int) then (4) else (((List.length x1) : Nat) : Int))) x1)) (vecG x0)).1) ((groupG (17) ([] : Q3) (vecG x0)).1) 0 0 ((((List.length (groupG (20) (List.drop 0 (List.take (Int.toNat (if (4) < (((List.length x1) : Nat) : Int) then (4) else (((List.length x1) : Nat) : Int))) x1)) (vecG x0)).1) : Nat) : Int)) 0)]) (by kernel_rfl) rfl (by kernel_rfl) (M.run_of_path _ [tT, tT, tT, tT, tT, tT, tT, fF, fF, fF, fF, fF, fF, fF, fF, fF, fF, fF, fF, fF, fF, fF, fF, fF, fF, fF, fF, fF, fF, fF, fF, fF, fF, fF, fF, fF, fF, fF, tT, tT, tT, tT, tT, tT, tT, tT, tT, tT, tT, tT, tT, tT, tT, tT, tT, tT, tT, tT, tT, tT, tT, tT, tT, tT, tT, tT, tT, tT, tT, tT] _ _ (by kernel_rfl) (all_t rfl (all_t c1 (all_t c2 (all_t c2 (all_t c2 (all_t c2 (all_t c6 (all_f c7 (all_f c7 (all_f c7 (all_f c10 (all_f c10 (all_f c10 (all_f c13 (all_f c13 (all_f c13 (all_f c16 (all_f c16 (all_f c16 (all_f c19 (all_f c19 (all_f c19 (all_f c19 (all_f c19 (all_f c19 (all_f c25 (all_f c25 (all_f c25 (all_f c25 (all_f c25 (all_f c25 (all_f c31 (all_f c31 (all_f c31 (all_f c31 (all_f c31 (all_f c31 (all_f c37 (all_t rfl (all_t c40 (all_t c41 (all_t c41 (all_t c41 (all_t c41 (all_t c45 (all_t c45 (all_t c45 (all_t c41 (all_t c45 (all_t c41 (all_t c51 (all_t c51 (all_t c51 (all_t c51 (all_t c51 (all_t c41 (all_t c51 (all_t c41 (all_t rfl (all_t rfl (all_t rfl (all_t c62 (all_t c62 (all_t c62 (all_t c65 (all_t c62 (all_t c67 (all_t c62 (all_t c69 (all_t c69 all_nil))))))))))))))))))))))))))))))))))))))))))))))))))))))))))))))))))))))) ?_
      intro p hp p2 hq
      rcases List.mem_cons.1 hp with rfl | hp
      · skip
        have h3 := l4_0_ok m (m + 24) ((vecG x0)) ((groupG (20) (List.drop 0 (List.take (Int.toNat (if (4) < (((List.length x1) : Nat) : Int) then (4) else (((List.length x1) : Nat) : Int))) x1)) (vecG x0)).1) ((groupG (17) (List.drop 0 (List.take (Int.toNat (if (4) < (((List.length x1) : Nat) : Int) then (4) else (((List.length x1) : Nat) : Int))) x1)) (vecG x0)).1) ((groupG (18) (List.drop 0 (List.take (Int.toNat (if (4) < (((List.length x1) : Nat) : Int) then (4) else (((List.length x1) : Nat) : Int))) x1)) (vecG x0)).1) ((groupG (19) (List.drop 0 (List.take (Int.toNat (if (4) < (((List.length x1) : Nat) : Int) then (4) else (((List.length x1) : Nat) : Int))) x1)) (vecG x0)).1) ((groupG (17) ([] : Q3) (vecG x0)).1) 0 0 ((((List.length (groupG (20) (List.drop 0 (List.take (Int.toNat (if (4) < (((List.length x1) : Nat) : Int) then (4) else (((List.length x1) : Nat) : Int))) x1)) (vecG x0)).1) : Nat) : Int)) 0 _ (some_getD (d := l4_0D) c38)
        exact Eq.trans (Eq.mp (by kernel_rfl) h3) hq
      cases hp
    · skip
      obtain ⟨c55, h⟩ := iY h
      obtain ⟨c58, h⟩ := iY h
      obtain ⟨c68, h⟩ := iY h
      obtain ⟨c71, h⟩ := iY h
      obtain ⟨c74, h⟩ := iY h
      obtain ⟨c76, h⟩ := iY h
      obtain ⟨c78, h⟩ := iY h
      cases h
      refine runT_ok (LS := (fun k => if k = 950737950171172051122527840928 then some (l4_0E (((vecG x0))) (((groupG (20) (List.drop 0 (List.take (Int.toNat (if (4) < (((List.length x1) : Nat) : Int) then (4) else (((List.length x1) : Nat) : Int))) x1)) (vecG x0)).1)) (((groupG (17) (List.drop 0 (List.take (Int.toNat (if (4) < (((List.length x1) : Nat) : Int) then (4) else (((List.length x1) : Nat) : Int))) x1)) (vecG x0)).1)) (((groupG (18) (List.drop 0 (List.take (Int.toNat (if (4) < (((List.length x1) : Nat) : Int) then (4) else (((List.length x1) : Nat) : Int))) x1)) (vecG x0)).1)) (((groupG (19) (List.drop 0 (List.take (Int.toNat (if (4) < (((List.length x1) : Nat) : Int) then (4) else (((List.length x1) : Nat) : Int))) x1)) (vecG x0)).1)) (((groupG (17) ([] : Q3) (vecG x0)).1)) ((l4_0R m (m + 24) ((vecG x0)) ((groupG (20) (List.drop 0 (List.take (Int.toNat (if (4) < (((List.length x1) : Nat) : Int) then (4) else (((List.length x1) : Nat) : Int))) x1)) (vecG x0)).1) ((groupG (17) (List.drop 0 (List.take (Int.toNat (if (4) < (((List.length x1) : Nat) : Int) then (4) else (((List.length x1) : Nat) : Int))) x1)) (vecG x0)).1) ((groupG (18) (List.drop 0 (List.take (Int.toNat (if (4) < (((List.length x1) : Nat) : Int) then (4) else (((List.length x1) : Nat) : Int))) x1)) (vecG x0)).1) ((groupG (19) (List.drop 0 (List.take (Int.toNat (if (4) < (((List.length x1) : Nat) : Int) then (4) else (((List.length x1) : Nat) : Int))) x1)) (vecG x0)).1) ((groupG (17) ([] : Q3) (vecG x0)).1) 0 0 ((((List.length (groupG (20) (List.drop 0 (List.take (Int.toNat (if (4) < (((List.length x1) : Nat) : Int) then (4) else (((List.length x1) : Nat) : Int))) x1)) (vecG x0)).1) : Nat) : Int)) 0).2.1) ((l4_0R m (m + 24) ((vecG x0)) ((groupG (20) (List.drop 0 (List.take (Int.toNat (if (4) < (((List.length x1) : Nat) : Int) then (4) else (((List.length x1) : Nat) : Int))) x1)) (vecG x0)).1) ((groupG (17) (List.drop 0 (List.take (Int.toNat (if (4) < (((List.length x1) : Nat) : Int) then (4) else (((List.length x1) : Nat) : Int))) x1)) (vecG x0)).1) ((groupG (18) (List.drop 0 (List.take (Int.toNat (if (4) < (((List.length x1) : Nat) : Int) then (4) else (((List.length x1) : Nat) : Int))) x1)) (vecG x0)).1) ((groupG (19) (List.drop 0 (List.take (Int.toNat (if (4) < (((List.length x1) : Nat) : Int) then (4) else (((List.length x1) : Nat) : Int))) x1)) (vecG x0)).1) ((groupG (17) ([] : Q3) (vecG x0)).1) 0 0 ((((List.length (groupG (20) (List.drop 0 (List.take (Int.toNat (if (4) < (((List.length x1) : Nat) : Int) then (4) else (((List.length x1) : Nat) : Int))) x1)) (vecG x0)).1) : Nat) : Int)) 0).2.2.1) (((((List.length (groupG (20) (List.drop 0 (List.take (Int.toNat (if (4) < (((List.length x1) : Nat) : Int) then (4) else (((List.length x1) : Nat) : Int))) x1)) (vecG x0)).1) : Nat) : Int))) ((l4_0R m (m + 24) ((vecG x0)) ((groupG (20) (List.drop 0 (List.take (Int.toNat (if (4) < (((List.length x1) : Nat) : Int) then (4) else (((List.length x1) : Nat) : Int))) x1)) (vecG x0)).1) ((groupG (17) (List.drop 0 (List.take (Int.toNat (if (4) < (((List.length x1) : Nat) : Int) then (4) else (((List.length x1) : Nat) : Int))) x1)) (vecG x0)).1) ((groupG (18) (List.drop 0 (List.take (Int.toNat (if (4) < (((List.length x1) : Nat) : Int) then (4) else (((List.length x1) : Nat) : Int))) x1)) (vecG x0)).1) ((groupG (19) (List.drop 0 (List.take (Int.toNat (if (4) < (((List.length x1) : Nat) : Int) then (4) else (((List.length x1) : Nat) : Int))) x1)) (vecG x0)).1) ((groupG (17) ([] : Q3) (vecG x0)).1) 0 0 ((((List.length (groupG (20) (List.drop 0 (List.take (Int.toNat (if (4) < (((List.length x1) : Nat) : Int) then (4) else (((List.length x1) : Nat) : Int))) x1)) (vecG x0)).1) : Nat) : Int)) 0).2.2.2) 0) else none)) (fn := fn4) (r := .d (.bool true)) (B' := []) (vis := [(950737950171172051122527840928, l4_0H ((vecG x0)) ((groupG (20) (List.drop 0 (List.take (Int.toNat (if (4) < (((List.length x1) : Nat) : Int) then (4) else (((List.length x1) : Nat) : Int))) x1)) (vecG x0)).1) ((groupG (17) (List.drop 0 (List.take (Int.toNat (if (4) < (((List.length x1) : Nat) : Int) then (4) else (((List.length x1) : Nat) : Int))) x1)) (vecG x0)).1) ((groupG (18) (List.drop 0 (List.take (Int.toNat (if (4) < (((List.length x1) : Nat) : Int) then (4) else (((List.length x1) : Nat) : Int))) x1)) (vecG x0)).1) ((groupG (19) (List.drop 0 (List.take (Int.toNat (if (4) < (((List.length x1) : Nat) : Int) then (4) else (((List.length x1) : Nat) : Int))) x1)) (vecG x0)).1) ((groupG (17) ([] : Q3) (vecG x0)).1) 0 0 ((((List.length (groupG (20) (List.drop 0 (List.take (Int.toNat (if (4) < (((List.length x1) : Nat) : Int) then (4) else (((List.length x1) : Nat) : Int))) x1)) (vecG x0)).1) : Nat) : Int)) 0, l4_0B ((vecG x0)) ((groupG (20) (List.drop 0 (List.take (Int.toNat (if (4) < (((List.length x1) : Nat) : Int) then (4) else (((List.length x1) : Nat) : Int))) x1)) (vecG x0)).1) ((groupG (17) (List.drop 0 (List.take (Int.toNat (if (4) < (((List.length x1) : Nat) : Int) then (4) else (((List.length x1) : Nat) : Int))) x1)) (vecG x0)).1) ((groupG (18) (List.drop 0 (List.take (Int.toNat (if (4) < (((List.length x1) : Nat) : Int) then (4) else (((List.length x1) : Nat) : Int))) x1)) (vecG x0)).1) ((groupG (19) (List.drop 0 (List.take (Int.toNat (if (4) < (((List.length x1) : Nat) : Int) then (4) else (((List.length x1) : Nat) : Int))) x1)) (vecG x0)).1) ((groupG (17) ([] : Q3) (vecG x0)).1) 0 0 ((((List.length (groupG (20) (List.drop 0 (List.take (Int.toNat (if (4) < (((List.length x1) : Nat) : Int) then (4) else (((List.length x1) : Nat) : Int))) x1)) (vecG x0)).1) : Nat) : Int)) 0)]) (by kernel_rfl) rfl (by kernel_rfl) (M.run_of_path _ [tT, tT, tT, tT, tT, tT, tT, fF, fF, fF, fF, fF, fF, fF, fF, fF, fF, fF, fF, fF, fF, fF, fF, fF, fF, fF, fF, fF, fF, fF, fF, fF, fF, fF, fF, fF, fF, fF, tT, tT, tT, tT, tT, tT, tT, tT, tT, tT, tT, tT, fF, fF, fF, fF, tT, tT, tT, tT, tT, tT, tT, tT, fF, tT, tT, fF, tT, tT, tT, tT, tT, tT, tT, tT, tT, tT, tT, tT, tT] _ _ (by kernel_rfl) (all_t rfl (all_t c1 (all_t c2 (all_t c2 (all_t c2 (all_t c2 (all_t c6 (all_f c7 (all_f c7 (all_f c7 (all_f c10 (all_f c10 (all_f c10 (all_f c13 (all_f c13 (all_f c13 (all_f c16 (all_f c16 (all_f c16 (all_f c19 (all_f c19 (all_f c19 (all_f c19 (all_f c19 (all_f c19 (all_f c25 (all_f c25 (all_f c25 (all_f c25 (all_f c25 (all_f c25 (all_f c31 (all_f c31 (all_f c31 (all_f c31 (all_f c31 (all_f c31 (all_f c37 (all_t rfl (all_t c40 (all_t c41 (all_t c41 (all_t c41 (all_t c41 (all_t c45 (all_t c45 (all_t c45 (all_t c41 (all_t c45 (all_t c41 (all_f c51 (all_f c51 (all_f c51 (all_f c51 (all_t c55 (all_t c55 (all_t rfl (all_t c58 (all_t c55 (all_t c55 (all_t c55 (all_t c55 (all_f c51 (all_t c55 (all_t c41 (all_f c51 (all_t c41 (all_t c68 (all_t c68 (all_t c68 (all_t c71 (all_t c71 (all_t c71 (all_t c74 (all_t c71 (all_t c76 (all_t c71 (all_t c78 (all_t c78 all_nil)))))))))))))))))))))))))))))))))))))))))))))))))))))))))))))))))))))))))))))))) ?_
      intro p hp p2 hq
      rcases List.mem_cons.1 hp with rfl | hp
      · skip
        have h3 := l4_0_ok m (m + 24) ((vecG x0)) ((groupG (20) (List.drop 0 (List.take (Int.toNat (if (4) < (((List.length x1) : Nat) : Int) then (4) else (((List.length x1) : Nat) : Int))) x1)) (vecG x0)).1) ((groupG (17) (List.drop 0 (List.take (Int.toNat (if (4) < (((List.length x1) : Nat) : Int) then (4) else (((List.length x1) : Nat) : Int))) x1)) (vecG x0)).1) ((groupG (18) (List.drop 0 (List.take (Int.toNat (if (4) < (((List.length x1) : Nat) : Int) then (4) else (((List.length x1) : Nat) : Int))) x1)) (vecG x0)).1) ((groupG (19) (List.drop 0 (List.take (Int.toNat (if (4) < (((List.length x1) : Nat) : Int) then (4) else (((List.length x1) : Nat) : Int))) x1)) (vecG x0)).1) ((groupG (17) ([] : Q3) (vecG x0)).1) 0 0 ((((List.length (groupG (20) (List.drop 0 (List.take (Int.toNat (if (4) < (((List.length x1) : Nat) : Int) then (4) else (((List.length x1) : Nat) : Int))) x1)) (vecG x0)).1) : Nat) : Int)) 0 _ (some_getD (d := l4_0D) c38)
        exact Eq.trans (Eq.mp (by kernel_rfl) h3) hq
      cases hp
  · skip
    obtain ⟨c55, h⟩ := iY h
    obtain ⟨c58, h⟩ := iY h
    obtain ⟨c68, h⟩ := iY h
    obtain ⟨c71, h⟩ := iY h
    obtain ⟨c74, h⟩ := iY h
    obtain ⟨c76, h⟩ := iY h
    obtain ⟨c78, h⟩ := iY h
    cases h
    refine runT_ok (LS := (fun k => if k = 950737950171172051122527840928 then some (l4_0E (((vecG x0))) (((groupG (20) (List.drop 0 (List.take (Int.toNat (if (4) < (((List.length x1) : Nat) : Int) then (4) else (((List.length x1) : Nat) : Int))) x1)) (vecG x0)).1)) (((groupG (17) (List.drop 0 (List.take (Int.toNat (if (4) < (((List.length x1) : Nat) : Int) then (4) else (((List.length x1) : Nat) : Int))) x1)) (vecG x0)).1)) (((groupG (18) (List.drop 0 (List.take (Int.toNat (if (4) < (((List.length x1) : Nat) : Int) then (4) else (((List.length x1) : Nat) : Int))) x1)) (vecG x0)).1)) (((groupG (19) (List.drop 0 (List.take (Int.toNat (if (4) < (((List.length x1) : Nat) : Int) then (4) else (((List.length x1) : Nat) : Int))) x1)) (vecG x0)).1)) (((groupG (17) ([] : Q3) (vecG x0)).1)) ((l4_0R m (m + 24) ((vecG x0)) ((groupG (20) (List.drop 0 (List.take (Int.toNat (if (4) < (((List.length x1) : Nat) : Int) then (4) else (((List.length x1) : Nat) : Int))) x1)) (vecG x0)).1) ((groupG (17) (List.drop 0 (List.take (Int.toNat (if (4) < (((List.length x1) : Nat) : Int) then (4) else (((List.length x1) : Nat) : Int))) x1)) (vecG x0)).1) ((groupG (18) (List.drop 0 (List.take (Int.toNat (if (4) < (((List.length x1) : Nat) : Int) then (4) else (((List.length x1) : Nat) : Int))) x1)) (vecG x0)).1) ((groupG (19) (List.drop 0 (List.take (Int.toNat (if (4) < (((List.length x1) : Nat) : Int) then (4) else (((List.length x1) : Nat) : Int))) x1)) (vecG x0)).1) ((groupG (17) ([] : Q3) (vecG x0)).1) 0 0 ((((List.length (groupG (20) (List.drop 0 (List.take (Int.toNat (if (4) < (((List.length x1) : Nat) : Int) then (4) else (((List.length x1) : Nat) : Int))) x1)) (vecG x0)).1) : Nat) : Int)) 0).2.1) ((l4_0R m (m + 24) ((vecG x0)) ((groupG (20) (List.drop 0 (List.take (Int.toNat (if (4) < (((List.length x1) : Nat) : Int) then (4) else (((List.length x1) : Nat) : Int))) x1)) (vecG x0)).1) ((groupG (17) (List.drop 0 (List.take (Int.toNat (if (4) < (((List.length x1) : Nat) : Int) then (4) else (((List.length x1) : Nat) : Int))) x1)) (vecG x0)).1) ((groupG (18) (List.drop 0 (List.take (Int.toNat (if (4) < (((List.length x1) : Nat) : Int) then (4) else (((List.length x1) : Nat) : Int))) x1)) (vecG x0)).1) ((groupG (19) (List.drop 0 (List.take (Int.toNat (if (4) < (((List.length x1) : Nat) : Int) then (4) else (((List.length x1) : Nat) : Int))) x1)) (vecG x0)).1) ((groupG (17) ([] : Q3) (vecG x0)).1) 0 0 ((((List.length (groupG (20) (List.drop 0 (List.take (Int.toNat (if (4) < (((List.length x1) : Nat) : Int) then (4) else (((List.length x1) : Nat) : Int))) x1)) (vecG x0)).1) : Nat) : Int)) 0).2.2.1) (((((List.length (groupG (20) (List.drop 0 (List.take (Int.toNat (if (4) < (((List.length x1) : Nat) : Int) then (4) else (((List.length x1) : Nat) : Int))) x1)) (vecG x0)).1) : Nat) : Int))) ((l4_0R m (m + 24) ((vecG x0)) ((groupG (20) (List.drop 0 (List.take (Int.toNat (if (4) < (((List.length x1) : Nat) : Int) then (4) else (((List.length x1) : Nat) : Int))) x1)) (vecG x0)).1) ((groupG (17) (List.drop 0 (List.take (Int.toNat (if (4) < (((List.length x1) : Nat) : Int) then (4) else (((List.length x1) : Nat) : Int))) x1)) (vecG x0)).1) ((groupG (18) (List.drop 0 (List.take (Int.toNat (if (4) < (((List.length x1) : Nat) : Int) then (4) else (((List.length x1) : Nat) : Int))) x1)) (vecG x0)).1) ((groupG (19) (List.drop 0 (List.take (Int.toNat (if (4) < (((List.length x1) : Nat) : Int) then (4) else (((List.length x1) : Nat) : Int))) x1)) (vecG x0)).1) ((groupG (17) ([] : Q3) (vecG x0)).1) 0 0 ((((List.length (groupG (20) (List.drop 0 (List.take (Int.toNat (if (4) < (((List.length x1) : Nat) : Int) then (4) else (((List.length x1) : Nat) : Int))) x1)) (vecG x0)).1) : Nat) : Int)) 0).2.2.2) 0) else none)) (fn := fn4) (r := .d (.bool true)) (B' := []) (vis := [(950737950171172051122527840928, l4_0H ((vecG x0)) ((groupG (20) (List.drop 0 (List.take (Int.toNat (if (4) < (((List.length x1) : Nat) : Int) then (4) else (((List.length x1) : Nat) : Int))) x1)) (vecG x0)).1) ((groupG (17) (List.drop 0 (List.take (Int.toNat (if (4) < (((List.length x1) : Nat) : Int) then (4) else (((List.length x1) : Nat) : Int))) x1)) (vecG x0)).1) ((groupG (18) (List.drop 0 (List.take (Int.toNat (if (4) < (((List.length x1) : Nat) : Int) then (4) else (((List.length x1) : Nat) : Int))) x1)) (vecG x0)).1) ((groupG (19) (List.drop 0 (List.take (Int.toNat (if (4) < (((List.length x1) : Nat) : Int) then (4) else (((List.length x1) : Nat) : Int))) x1)) (vecG x0)).1) ((groupG (17) ([] : Q3) (vecG x0)).1) 0 0 ((((List.length (groupG (20) (List.drop 0 (List.take (Int.toNat (if (4) < (((List.length x1) : Nat) : Int) then (4) else (((List.length x1) : Nat) : Int))) x1)) (vecG x0)).1) : Nat) : Int)) 0, l4_0B ((vecG x0)) ((groupG (20) (List.drop 0 (List.take (Int.toNat (if (4) < (((List.length x1) : Nat) : Int) then (4) else (((List.length x1) : Nat) : Int))) x1)) (vecG x0)).1) ((groupG (17) (List.drop 0 (List.take (Int.toNat (if (4) < (((List.length x1) : Nat) : Int) then (4) else (((List.length x1) : Nat) : Int))) x1)) (vecG x0)).1) ((groupG (18) (List.drop 0 (List.take (Int.toNat (if (4) < (((List.length x1) : Nat) : Int) then (4) else (((List.length x1) : Nat) : Int))) x1)) (vecG x0)).1) ((groupG (19) (List.drop 0 (List.take (Int.toNat (if (4) < (((List.length x1) : Nat) : Int) then (4) else (((List.length x1) : Nat) : Int))) x1)) (vecG x0)).1) ((groupG (17) ([] : Q3) (vecG x0)).1) 0 0 ((((List.length (groupG (20) (List.drop 0 (List.take (Int.toNat (if (4) < (((List.length x1) : Nat) : Int) then (4) else (((List.length x1) : Nat) : Int))) x1)) (vecG x0)).1) : Nat) : Int)) 0)]) (by kernel_rfl) rfl (by kernel_rfl) (M.run_of_path _ [tT, tT, tT, tT, tT, tT, tT, fF, fF, fF, fF, fF, fF, fF, fF, fF, fF, fF, fF, fF, fF, fF, fF, fF, fF, fF, fF, fF, fF, fF, fF, fF, fF, fF, fF, fF, fF, fF, tT, tT, tT, tT, tT, tT, fF, fF, fF, tT, fF, tT, fF, fF, fF, fF, tT, tT, tT, tT, tT, tT, tT, tT, fF, tT, tT, fF, tT, tT, tT, tT, tT, tT, tT, tT, tT, tT, tT, tT, tT] _ _ (by kernel_rfl) (all_t rfl (all_t c1 (all_t c2 (all_t c2 (all_t c2 (all_t c2 (all_t c6 (all_f c7 (all_f c7 (all_f c7 (all_f c10 (all_f c10 (all_f c10 (all_f c13 (all_f c13 (all_f c13 (all_f c16 (all_f c16 (all_f c16 (all_f c19 (all_f c19 (all_f c19 (all_f c19 (all_f c19 (all_f c19 (all_f c25 (all_f c25 (all_f c25 (all_f c25 (all_f c25 (all_f c25 (all_f c31 (all_f c31 (all_f c31 (all_f c31 (all_f c31 (all_f c31 (all_f c37 (all_t rfl (all_t c40 (all_t c41 (all_t c41 (all_t c41 (all_t c41 (all_f c45 (all_f c45 (all_f c45 (all_t c41 (all_f c45 (all_t c41 (all_f Bool.false_ne_true (all_f Bool.false_ne_true (all_f Bool.false_ne_true (all_f Bool.false_ne_true (all_t c55 (all_t c55 (all_t rfl (all_t c58 (all_t c55 (all_t c55 (all_t c55 (all_t c55 (all_f Bool.false_ne_true (all_t c55 (all_t c41 (all_f Bool.false_ne_true (all_t c41 (all_t c68 (all_t c68 (all_t c68 (all_t c71 (all_t c71 (all_t c71 (all_t c74 (all_t c71 (all_t c76 (all_t c71 (all_t c78 (all_t c78 all_nil)))))))))))))))))))))))))))))))))))))))))))))))))))))))))))))))))))))))))))))))) ?_
    intro p hp p2 hq
    rcases List.mem_cons.1 hp with rfl | hp
    · skip
      have h3 := l4_0_ok m (m + 24) ((vecG x0)) ((groupG (20) (List.drop 0 (List.take (Int.toNat (if (4) < (((List.length x1) : Nat) : Int) then (4) else (((List.length x1) : Nat) : Int))) x1)) (vecG x0)).1) ((groupG (17) (List.drop 0 (List.take (Int.toNat (if (4) < (((List.length x1) : Nat) : Int) then (4) else (((List.length x1) : Nat) : Int))) x1)) (vecG x0)).1) ((groupG (18) (List.drop 0 (List.take (Int.toNat (if (4) < (((List.length x1) : Nat) : Int) then (4) else (((List.length x1) : Nat) : Int))) x1)) (vecG x0)).1) ((groupG (19) (List.drop 0 (List.take (Int.toNat (if (4) < (((List.length x1) : Nat) : Int) then (4) else (((List.length x1) : Nat) : Int))) x1)) (vecG x0)).1) ((groupG (17) ([] : Q3) (vecG x0)).1) 0 0 ((((List.length (groupG (20) (List.drop 0 (List.take (Int.toNat (if (4) < (((List.length x1) : Nat) : Int) then (4) else (((List.length x1) : Nat) : Int))) x1)) (vecG x0)).1) : Nat) : Int)) 0 _ (some_getD (d := l4_0D) c38)
      exact Eq.trans (Eq.mp (by kernel_rfl) h3) hq
    cases hp
theorem vgroups_at (x0 : Q1) (x1 : Q3) (h : ∃ m q, vgroups m x0 x1 = some q) : ∃ g B', CallAt Tryd.prog 4 g ∧ (g [(.agg [(.d (.sl (.pair (.sl (.int .i64)) (.sl (.int .i64))) x0.1)), (.d (.sl (.int .i64) x0.2))]), (.d (.sl .str x1))] []).run = some (.d (.bool true), B') := by
  obtain ⟨m, q, h⟩ := h
  exact ⟨_, _, evCall_atH mixed kinds hds S37 S37_ok (m + 25) 4, vgroups_ok m x0 x1 q h⟩

end Go.Proofs.YtahdcmicifokgaaDoor.Dec
namespace Go.Proofs.YtahdcmicifokgaaDoor.Dec
open Go.Ev
set_option linter.unusedVariables false
set_option linter.unusedSimpArgs false
set_option maxRecDepth 100000
set_option maxHeartbeats 20000000
theorem mem_of_sort {l : VL} {p : PT1} (h : p ∈ sortG l) : p ∈ l := (perm_sort l).mem_iff.1 h
theorem vecGo_mem (vals : List Int) : ∀ (ks : List (List Int × List Int)) (i : Nat) (keys : Q3) (out : VL) (p : PT1), p ∈ vecGo vals i ks keys out → p ∈ out ∨ ∃ k v, p.1 = ptSet k v
  | [], i, keys, out, p, h => .inl h
  | k :: ks, i, keys, out, p, h => by
    rw [vecGo] at h
    split at h
    · exact vecGo_mem vals ks (i + 1) keys out p h
    · rcases vecGo_mem vals ks (i + 1) _ _ p h with h | h
      · rcases List.mem_append.1 h with h | h
        · exact .inl h
        · rw [List.mem_singleton.1 h]; exact .inr ⟨_, _, rfl⟩
      · exact .inr h
theorem set4_filter (p : (Q4) × (Q4) → Bool) (f : Q4 → Bool) (hp : ∀ x, p x = f x.1) (h0 h1 h2 h3 : Bool) (v0 v1 v2 v3 : Q4) : (set4 h0 h1 h2 h3 v0 v1 v2 v3).filter p = set4 (h0 && f [97]) (h1 && f [98]) (h2 && f [99]) (h3 && f [110, 97, 109, 101]) v0 v1 v2 v3 := by
  have one : ∀ (h : Bool) (n v : Q4), (if h then [(n, v)] else []).filter p = (if (h && f n) then [(n, v)] else []) := by
    intro h n v
    cases h with
    | false => rfl
    | true =>
      rw [Bool.true_and, if_pos rfl, List.filter_cons, hp]
      cases f n <;> rfl
  unfold set4
  rw [List.filter_append, List.filter_append, List.filter_append, one, one, one, one]
theorem mul_small {a b : Int} (h : -1000000 ≤ a ∧ a ≤ 1000000 ∧ -1000000 ≤ b ∧ b ≤ 1000000) : -1000000000000 ≤ a * b ∧ a * b ≤ 1000000000000 := by
  have h1 := Int.natAbs_mul a b
  have h2 : a.natAbs * b.natAbs ≤ 1000000 * 1000000 := Nat.mul_le_mul (by omega) (by omega)
  omega
theorem keep_all {k : (List (List Int × List Int)) × List Int} {p : PT1} (h : p ∈ vecG k) : keepG p.1 [([97] : Q4), ([98] : Q4), ([99] : Q4), ([110, 97, 109, 101] : Q4)] = p.1 := by
  rcases vecGo_mem k.2 (k.1.take 8) 0 [] [] p h with h | ⟨k', v, e⟩
  · simp at h
  · obtain ⟨a0, a1, a2, a3, v0, v1, v2, v3, q1, q2, q3, q4, q5⟩ := pt_set4 k' v
    unfold keepG
    rw [e, q1, set4_filter _ (fun n => [([97] : Q4), ([98] : Q4), ([99] : Q4), ([110, 97, 109, 101] : Q4)].contains n) (fun x => rfl)]
    have t0 : [([97] : Q4), ([98] : Q4), ([99] : Q4), ([110, 97, 109, 101] : Q4)].contains [97] = true := by decide
    have t1 : [([97] : Q4), ([98] : Q4), ([99] : Q4), ([110, 97, 109, 101] : Q4)].contains [98] = true := by decide
    have t2 : [([97] : Q4), ([98] : Q4), ([99] : Q4), ([110, 97, 109, 101] : Q4)].contains [99] = true := by decide
    have t3 : [([97] : Q4), ([98] : Q4), ([99] : Q4), ([110, 97, 109, 101] : Q4)].contains [110, 97, 109, 101] = true := by decide
    rw [t0, t1, t2, t3, Bool.and_true, Bool.and_true, Bool.and_true, Bool.and_true]
def All4 (R : PT1 → PT1 → PT1 → PT1 → Prop) : VL → VL → VL → VL → Prop
  | [], [], [], [] => True
  | a :: A, b :: B, c :: C, d :: D => R a b c d ∧ All4 R A B C D
  | _, _, _, _ => False
theorem All4.mono {R S : PT1 → PT1 → PT1 → PT1 → Prop} (h : ∀ a b c d, R a b c d → S a b c d) : ∀ {A B C D : VL}, All4 R A B C D → All4 S A B C D
  | [], [], [], [], _ => trivial
  | _ :: _, _ :: _, _ :: _, _ :: _, q => ⟨h _ _ _ _ q.1, q.2.mono h⟩
  | [], [], [], _ :: _, q => q.elim
  | [], [], _ :: _, _, q => q.elim
  | [], _ :: _, _, _, q => q.elim
  | _ :: _, [], _, _, q => q.elim
  | _ :: _, _ :: _, [], _, q => q.elim
  | _ :: _, _ :: _, _ :: _, [], q => q.elim
def Rg (N : Int) (c s lo hi : PT1) : Prop := c.1 = s.1 ∧ c.1 = lo.1 ∧ c.1 = hi.1 ∧ 1 ≤ c.2 ∧ c.2 ≤ N ∧ -20 * N ≤ s.2 ∧ s.2 ≤ 20 * N ∧ -20 ≤ lo.2 ∧ lo.2 ≤ hi.2 ∧ hi.2 ≤ 20 ∧ c.2 * lo.2 ≤ s.2 ∧ s.2 ≤ c.2 * hi.2
theorem Rg_mono {N M : Int} (h : N ≤ M) (a b c d : PT1) (q : Rg N a b c d) : Rg M a b c d := by
  obtain ⟨h1, h2, h3, h4, h5, h6, h7, h8⟩ := q
  exact ⟨h1, h2, h3, h4, by omega, by omega, by omega, h8⟩
theorem All4_put {N : Int} (hN : 0 ≤ N) (k : LB) (v : Int) (hv : -20 ≤ v ∧ v ≤ 20) : ∀ {A B C D : VL}, All4 (Rg N) A B C D → All4 (Rg (N + 1)) (gPut 20 k 1 A) (gPut 17 k v B) (gPut 18 k v C) (gPut 19 k v D)
  | [], [], [], [], _ => ⟨⟨rfl, rfl, rfl, by show (1 : Int) ≤ 1; omega, by show (1 : Int) ≤ N + 1; omega, by show -20 * (N + 1) ≤ v; omega, by show v ≤ 20 * (N + 1); omega, by show -20 ≤ v; omega, Int.le_refl _, by show v ≤ 20; omega, by show 1 * v ≤ v; omega, by show v ≤ 1 * v; omega⟩, trivial⟩
  | a :: A, b :: B, c :: C, d :: D, q => by
    obtain ⟨⟨h1, h2, h3, h4, h5, h6, h7, h8, h9, h10, h11, h12⟩, hr⟩ := q
    have ih := All4_put hN k v hv hr
    rw [gPut, gPut, gPut, gPut, ← h1, ← h2, ← h3]
    by_cases hc : (a.1 == k) = true
    · rw [if_pos hc, if_pos hc, if_pos hc, if_pos hc]
      refine ⟨?_, hr.mono (Rg_mono (by omega))⟩
      have j1 : (joinG 20 a.2 1).1 = a.2 + 1 := rfl
      have j2 : (joinG 17 b.2 v).1 = b.2 + v := rfl
      have j3 : (joinG 18 c.2 v).1 = if v < c.2 then v else c.2 := rfl
      have j4 : (joinG 19 d.2 v).1 = if d.2 < v then v else d.2 := rfl
      rw [j1, j2, j3, j4]
      have m3 : (if v < c.2 then v else c.2) ≤ c.2 ∧ (if v < c.2 then v else c.2) ≤ v ∧ -20 ≤ (if v < c.2 then v else c.2) := by split <;> omega
      have m4 : d.2 ≤ (if d.2 < v then v else d.2) ∧ v ≤ (if d.2 < v then v else d.2) ∧ (if d.2 < v then v else d.2) ≤ 20 := by split <;> omega
      generalize (if v < c.2 then v else c.2) = x at m3
      generalize (if d.2 < v then v else d.2) = y at m4
      have n1 : a.2 * x ≤ a.2 * c.2 := Int.mul_le_mul_of_nonneg_left m3.1 (by omega)
      have n2 : a.2 * d.2 ≤ a.2 * y := Int.mul_le_mul_of_nonneg_left m4.1 (by omega)
      refine ⟨rfl, rfl, rfl, ?_, ?_, ?_, ?_, m3.2.2, ?_, m4.2.2, ?_, ?_⟩
      · show 1 ≤ a.2 + 1; omega
      · show a.2 + 1 ≤ N + 1; omega
      · show -20 * (N + 1) ≤ b.2 + v; omega
      · show b.2 + v ≤ 20 * (N + 1); omega
      · show x ≤ y; omega
      · show (a.2 + 1) * x ≤ b.2 + v
        rw [Int.add_mul]; omega
      · show b.2 + v ≤ (a.2 + 1) * y
        rw [Int.add_mul]; omega
    · rw [if_neg hc, if_neg hc, if_neg hc, if_neg hc]
      exact ⟨⟨h1, h2, h3, h4, by omega, by omega, by omega, h8, h9, h10, h11, h12⟩, ih⟩
  | [], [], [], _ :: _, q => q.elim
  | [], [], _ :: _, _, q => q.elim
  | [], _ :: _, _, _, q => q.elim
  | _ :: _, [], _, _, q => q.elim
  | _ :: _, _ :: _, [], _, q => q.elim
  | _ :: _, _ :: _, _ :: _, [], q => q.elim
theorem All4_fold (ns : Q3) : ∀ (l : VL) (N : Int) (A B C D : VL), 0 ≤ N → (∀ p ∈ l, -20 ≤ p.2 ∧ p.2 ≤ 20) → All4 (Rg N) A B C D → All4 (Rg (N + l.length)) (gFold 20 ns A l) (gFold 17 ns B l) (gFold 18 ns C l) (gFold 19 ns D l)
  | [], N, A, B, C, D, _, _, h => h.mono (Rg_mono (by simp))
  | p :: l, N, A, B, C, D, hN, hv, h => by
    have h1 := All4_put hN (keepG p.1 ns) p.2 (hv p (List.mem_cons_self ..)) h
    have ih := All4_fold ns l (N + 1) _ _ _ _ (by omega) (fun q hq => hv q (List.mem_cons_of_mem _ hq)) h1
    have e : N + ((p :: l).length : Nat) = N + 1 + (l.length : Nat) := by rw [List.length_cons]; omega
    rw [e]
    exact ih
def KeyR (R : PT1 → PT1 → PT1 → PT1 → Prop) : Prop := ∀ a b c d, R a b c d → a.1 = b.1 ∧ a.1 = c.1 ∧ a.1 = d.1
theorem All4_insR {R : PT1 → PT1 → PT1 → PT1 → Prop} (hR : KeyR R) {a b c d : PT1} (h : R a b c d) : ∀ {A B C D : VL}, All4 R A B C D → All4 R (insR a A) (insR b B) (insR c C) (insR d D)
  | [], [], [], [], _ => ⟨h, trivial⟩
  | x :: A, y :: B, z :: C, w :: D, q => by
    obtain ⟨k1, k2, k3⟩ := hR _ _ _ _ h
    obtain ⟨g1, g2, g3⟩ := hR _ _ _ _ q.1
    have l1 : ltP b y = ltP a x := by unfold ltP; rw [← k1, ← g1]
    have l2 : ltP c z = ltP a x := by unfold ltP; rw [← k2, ← g2]
    have l3 : ltP d w = ltP a x := by unfold ltP; rw [← k3, ← g3]
    rw [insR, insR, insR, insR, l1, l2, l3]
    by_cases hc : ltP a x = true
    · rw [if_pos hc, if_pos hc, if_pos hc, if_pos hc]
      exact ⟨q.1, All4_insR hR h q.2⟩
    · rw [if_neg hc, if_neg hc, if_neg hc, if_neg hc]
      exact ⟨h, q⟩
  | [], [], [], _ :: _, q => q.elim
  | [], [], _ :: _, _, q => q.elim
  | [], _ :: _, _, _, q => q.elim
  | _ :: _, [], _, _, q => q.elim
  | _ :: _, _ :: _, [], _, q => q.elim
  | _ :: _, _ :: _, _ :: _, [], q => q.elim
theorem All4_foldR {R : PT1 → PT1 → PT1 → PT1 → Prop} (hR : KeyR R) : ∀ {a b c d A B C D : VL}, All4 R a b c d → All4 R A B C D → All4 R (foldR A a) (foldR B b) (foldR C c) (foldR D d)
  | [], [], [], [], _, _, _, _, _, h => h
  | x :: a, y :: b, z :: c, w :: d, A, B, C, D, q, h => by
    show All4 R (foldR (insR x A) a) (foldR (insR y B) b) (foldR (insR z C) c) (foldR (insR w D) d)
    exact All4_foldR hR q.2 (All4_insR hR q.1 h)
  | [], [], [], _ :: _, _, _, _, _, q, _ => q.elim
  | [], [], _ :: _, _, _, _, _, _, q, _ => q.elim
  | [], _ :: _, _, _, _, _, _, _, q, _ => q.elim
  | _ :: _, [], _, _, _, _, _, _, q, _ => q.elim
  | _ :: _, _ :: _, [], _, _, _, _, _, q, _ => q.elim
  | _ :: _, _ :: _, _ :: _, [], _, _, _, _, q, _ => q.elim
theorem All4_rev {R : PT1 → PT1 → PT1 → PT1 → Prop} : ∀ {a b c d A B C D : VL}, All4 R a b c d → All4 R A B C D → All4 R (a.reverse ++ A) (b.reverse ++ B) (c.reverse ++ C) (d.reverse ++ D)
  | [], [], [], [], _, _, _, _, _, h => h
  | x :: a, y :: b, z :: c, w :: d, A, B, C, D, q, h => by
    have := All4_rev (A := x :: A) (B := y :: B) (C := z :: C) (D := w :: D) q.2 ⟨q.1, h⟩
    simpa using this
  | [], [], [], _ :: _, _, _, _, _, q, _ => q.elim
  | [], [], _ :: _, _, _, _, _, _, q, _ => q.elim
  | [], _ :: _, _, _, _, _, _, _, q, _ => q.elim
  | _ :: _, [], _, _, _, _, _, _, q, _ => q.elim
  | _ :: _, _ :: _, [], _, _, _, _, _, q, _ => q.elim
  | _ :: _, _ :: _, _ :: _, [], _, _, _, _, q, _ => q.elim
theorem All4_sort {R : PT1 → PT1 → PT1 → PT1 → Prop} (hR : KeyR R) {a b c d : VL} (q : All4 R a b c d) : All4 R (sortG a) (sortG b) (sortG c) (sortG d) := by
  have h1 := All4_foldR hR q (A := []) (B := []) (C := []) (D := []) trivial
  have h2 := All4_rev h1 (A := []) (B := []) (C := []) (D := []) trivial
  rw [List.append_nil, List.append_nil, List.append_nil, List.append_nil] at h2
  exact h2
theorem All4_len {R : PT1 → PT1 → PT1 → PT1 → Prop} : ∀ {a b c d : VL}, All4 R a b c d → a.length = b.length ∧ a.length = c.length ∧ a.length = d.length
  | [], [], [], [], _ => ⟨rfl, rfl, rfl⟩
  | x :: a, y :: b, z :: c, w :: d, q => by
    have := All4_len q.2
    simp only [List.length_cons]
    omega
  | [], [], [], _ :: _, q => q.elim
  | [], [], _ :: _, _, q => q.elim
  | [], _ :: _, _, _, q => q.elim
  | _ :: _, [], _, _, q => q.elim
  | _ :: _, _ :: _, [], _, q => q.elim
  | _ :: _, _ :: _, _ :: _, [], q => q.elim
theorem All4_get {R : PT1 → PT1 → PT1 → PT1 → Prop} : ∀ {a b c d : VL} (i : Nat), All4 R a b c d → i < a.length → R (a.getD i (([] : LB), 0)) (b.getD i (([] : LB), 0)) (c.getD i (([] : LB), 0)) (d.getD i (([] : LB), 0))
  | [], _, _, _, i, _, h => by simp at h
  | x :: a, y :: b, z :: c, w :: d, 0, q, _ => q.1
  | x :: a, y :: b, z :: c, w :: d, i + 1, q, h => by
    have := All4_get i q.2 (by simpa using h)
    simpa using this
  | _ :: _, [], _, _, _, q, _ => q.elim
  | _ :: _, _ :: _, [], _, _, q, _ => q.elim
  | _ :: _, _ :: _, _ :: _, [], _, q, _ => q.elim
def sumV : VL → Int
  | [] => 0
  | p :: l => p.2 + sumV l
theorem sumV_app : ∀ a b : VL, sumV (a ++ b) = sumV a + sumV b
  | [], b => by simp [sumV]
  | p :: a, b => by rw [List.cons_append, sumV, sumV, sumV_app a b]; omega
theorem sumV_perm {a b : VL} (h : a.Perm b) : sumV a = sumV b := by
  induction h with
  | nil => rfl
  | cons x _ ih => rw [sumV, sumV, ih]
  | swap x y l => rw [sumV, sumV, sumV, sumV]; omega
  | trans _ _ h1 h2 => exact h1.trans h2
theorem sumV_put {kind : Int} (hk : kind ≠ 18 ∧ kind ≠ 19) (k : LB) (v : Int) : ∀ l : VL, sumV (gPut kind k v l) = sumV l + v
  | [] => by show v + 0 = 0 + v; omega
  | p :: r => by
    rw [gPut]
    split
    · have : (joinG kind p.2 v).1 = p.2 + v := by unfold joinG; rw [if_neg hk.1, if_neg hk.2]
      rw [this, sumV, sumV]
      show p.2 + v + sumV r = _
      omega
    · rw [sumV, sumV, sumV_put hk k v r]; omega
theorem sumV_fold {kind : Int} (hk : kind ≠ 18 ∧ kind ≠ 19) (ns : Q3) : ∀ (l out : VL), sumV (gFold kind ns out l) = sumV out + sumV (l.map fun p => (p.1, gVal kind p))
  | [], out => by show sumV out = sumV out + 0; omega
  | p :: l, out => by
    show sumV (gFold kind ns (gPut kind (keepG p.1 ns) (gVal kind p) out) l) = _
    rw [sumV_fold hk ns l, sumV_put hk, List.map_cons, sumV]
    show sumV out + gVal kind p + _ = sumV out + (gVal kind p + _)
    omega
theorem sumV_ones : ∀ l : VL, sumV (l.map fun p => (p.1, gVal 20 p)) = ((l.length : Nat) : Int)
  | [] => rfl
  | p :: l => by
    rw [List.map_cons, sumV, sumV_ones l, List.length_cons]
    show (1 : Int) + _ = _
    omega
theorem sumV_same : ∀ l : VL, sumV (l.map fun p => (p.1, gVal 17 p)) = sumV l
  | [] => rfl
  | p :: l => by rw [List.map_cons, sumV, sumV, sumV_same l]; rfl
theorem keep_nil (l : LB) : keepG l [] = [] := by
  unfold keepG
  exact List.filter_eq_nil_iff.2 fun x _ => by simp
theorem fold_one : ∀ (l : VL) (a : Int), gFold 17 [] [(([] : LB), a)] l = [(([] : LB), a + sumV l)]
  | [], a => by show [(([] : LB), a)] = [(([] : LB), a + 0)]; rw [Int.add_zero]
  | p :: l, a => by
    show gFold 17 [] (gPut 17 (keepG p.1 []) (gVal 17 p) [(([] : LB), a)]) l = _
    have e : gPut 17 (keepG p.1 []) (gVal 17 p) [(([] : LB), a)] = [(([] : LB), a + p.2)] := by rw [keep_nil]; rfl
    rw [e, fold_one l, sumV]
    congr 2
    omega
theorem fold_own (ns : Q3) : ∀ (l out : VL), (∀ p ∈ l, keepG p.1 ns = p.1) → (out ++ l).Pairwise (fun p q => p.1 ≠ q.1) → gFold 17 ns out l = out ++ l
  | [], out, _, _ => by rw [List.append_nil]; rfl
  | p :: l, out, h1, h2 => by
    show gFold 17 ns (gPut 17 (keepG p.1 ns) (gVal 17 p) out) l = _
    have hn : ∀ (o : VL) (i : Nat), (∀ q ∈ o, q.1 ≠ p.1) → fIdx (fun q => q.1 == p.1) o i < 0 := by
      intro o
      induction o with
      | nil => intro i _; show (-1 : Int) < 0; omega
      | cons q r ih =>
        intro i h
        rw [fIdx, if_neg (by rw [beq_iff_eq]; exact h q (List.mem_cons_self ..))]
        exact ih (i + 1) fun q hq => h q (List.mem_cons_of_mem _ hq)
    have hp := List.pairwise_append.1 h2
    rw [h1 p (List.mem_cons_self ..), gPut_no 17 p.1 _ out 0 (hn out 0 fun q hq => hp.2.2 q hq p (List.mem_cons_self ..))]
    have hv : (p.1, gVal 17 p) = p := rfl
    rw [hv, fold_own ns l (out ++ [p]) (fun q hq => h1 q (List.mem_cons_of_mem _ hq)) (by simpa using h2)]
    simp
theorem sums_loop (m : Nat) (X A : VL) (c s lo hi : VL) (h : All4 (Rg 8) c s lo hi) (hl : c.length ≤ 8) (hc : ∀ p ∈ c, p.1.length ≤ 1000000) : ∀ (n k : Nat) (a b : Int), k ≤ c.length → c.length - k < n → (-200 * ((k : Nat) : Int) ≤ a ∧ a ≤ 200 * ((k : Nat) : Int)) → (-200 * ((k : Nat) : Int) ≤ b ∧ b ≤ 200 * ((k : Nat) : Int)) →
    ∃ j, l4_0 m n X c s lo hi A a b ((c.length : Nat) : Int) (k : Nat) = some (0, a + sumV (c.drop k), b + sumV (s.drop k), j)
  | 0, k, _, _, _, h, _, _ => by omega
  | n + 1, k, a, b, g1, g2, g3, g4 => by
    rw [l4_0]
    obtain ⟨l1, l2, l3⟩ := All4_len h
    by_cases hk : k < c.length
    · have e1 : decide (((k : Nat) : Int) < (((List.length c) : Nat) : Int)) = true := decide_eq_true (by omega)
      have e2 : decide ((0 : Int) ≤ ((k : Nat) : Int)) = true := decide_eq_true (by omega)
      have e3 : decide (((k : Nat) : Int) < (((List.length s) : Nat) : Int)) = true := decide_eq_true (by omega)
      have e4 : decide (((k : Nat) : Int) < (((List.length lo) : Nat) : Int)) = true := decide_eq_true (by omega)
      have e5 : decide (((k : Nat) : Int) < (((List.length hi) : Nat) : Int)) = true := decide_eq_true (by omega)
      have e7 : IntKind.wrap .i64 (((k : Nat) : Int) + (1)) = ((k + 1 : Nat) : Int) := by rw [wrap_id (by omega) (by omega)]; rfl
      have hr := All4_get k h hk
      have hq := hc _ (getD_mem c k (([] : LB), 0) hk)
      rw [drop_getD c k (([] : LB), 0) hk, drop_getD s k (([] : LB), 0) (by omega), show Int.toNat ((k : Nat) : Int) = k from rfl, e7, sumV, sumV]
      simp only [e1, e2, e3, e4, e5, ↓reduceIte]
      generalize c.getD k (([] : LB), 0) = pc at *
      generalize s.getD k (([] : LB), 0) = ps at *
      generalize lo.getD k (([] : LB), 0) = pl at *
      generalize hi.getD k (([] : LB), 0) = ph at *
      obtain ⟨r1, r2, r3, r4, r5, r6, r7, r8, r9, r10, r11, r12⟩ := hr
      have m1 := mul_small (a := pc.2) (b := pl.2) (by omega)
      have m2 := mul_small (a := pc.2) (b := ph.2) (by omega)
      have w1 : IntKind.wrap .i64 (pc.2 * pl.2) = pc.2 * pl.2 := wrap_id (by omega) (by omega)
      have w2 : IntKind.wrap .i64 (pc.2 * ph.2) = pc.2 * ph.2 := wrap_id (by omega) (by omega)
      have w3 : IntKind.wrap .i64 (a + pc.2) = a + pc.2 := wrap_id (by omega) (by omega)
      have w4 : IntKind.wrap .i64 (b + ps.2) = b + ps.2 := wrap_id (by omega) (by omega)
      have d1 : decide (pl.2 > ph.2) = false := decide_eq_false (by omega)
      have d2 : decide (ps.2 < pc.2 * pl.2) = false := decide_eq_false (by omega)
      have d3 : decide (ps.2 > pc.2 * ph.2) = false := decide_eq_false (by omega)
      have d4 : decide (List.length pc.1 < 4611686018427387904) = true := decide_eq_true (by omega)
      have d5 : ((show Q2 from pc.1) == ps.1) = true := by rw [← r1]; exact beq_self_eq_true pc.1
      rw [w1, w2, w3, w4]
      simp only [d1, d2, d3, d4, Bool.false_eq_true, ↓reduceIte]
      rw [if_pos d5]
      obtain ⟨j, hj⟩ := sums_loop m X A c s lo hi h hl hc n (k + 1) (a + pc.2) (b + ps.2) (by omega) (by omega) (by omega) (by omega)
      exact ⟨j, by rw [hj, Int.add_assoc, Int.add_assoc]⟩
    · have e1 : decide (((k : Nat) : Int) < (((List.length c) : Nat) : Int)) = false := decide_eq_false (by omega)
      rw [e1, if_neg (by simp), List.drop_eq_nil_of_le (by omega), List.drop_eq_nil_of_le (by omega)]
      exact ⟨((k : Nat) : Int), by simp [sumV]⟩
theorem len_fold (kind : Int) (ns : Q3) : ∀ (l out : VL), (gFold kind ns out l).length ≤ out.length + l.length
  | [], out => by show out.length ≤ out.length + 0; omega
  | p :: l, out => by
    show (gFold kind ns (gPut kind (keepG p.1 ns) (gVal kind p) out) l).length ≤ _
    have h1 := len_fold kind ns l (gPut kind (keepG p.1 ns) (gVal kind p) out)
    have h2 := gPut_len kind (keepG p.1 ns) (gVal kind p) out
    rw [List.length_cons]
    omega
theorem key_put (kind : Int) (k : LB) (v : Int) (hk : k.length ≤ 1000000) : ∀ l : VL, (∀ p ∈ l, p.1.length ≤ 1000000) → ∀ p ∈ gPut kind k v l, p.1.length ≤ 1000000
  | [], _, p, hp => by rw [gPut, List.mem_singleton] at hp; subst hp; exact hk
  | q :: r, h, p, hp => by
    rw [gPut] at hp
    split at hp
    · rcases List.mem_cons.1 hp with rfl | hp
      · exact h q (List.mem_cons_self ..)
      · exact h p (List.mem_cons_of_mem _ hp)
    · rcases List.mem_cons.1 hp with rfl | hp
      · exact h p (List.mem_cons_self ..)
      · exact key_put kind k v hk r (fun p hp => h p (List.mem_cons_of_mem _ hp)) p hp
theorem key_fold (kind : Int) (ns : Q3) : ∀ (l out : VL), (∀ p ∈ l, p.1.length ≤ 1000000) → (∀ p ∈ out, p.1.length ≤ 1000000) → ∀ p ∈ gFold kind ns out l, p.1.length ≤ 1000000
  | [], out, _, h => h
  | q :: l, out, h1, h2 => by
    show ∀ p ∈ gFold kind ns (gPut kind (keepG q.1 ns) (gVal kind q) out) l, p.1.length ≤ 1000000
    exact key_fold kind ns l _ (fun p hp => h1 p (List.mem_cons_of_mem _ hp)) (key_put kind _ _ (Nat.le_trans (List.length_filter_le _ _) (h1 q (List.mem_cons_self ..))) out h2)
theorem vgroups_pure (x0 : (List (List Int × List Int)) × List Int) (x1 : Q3) : ∃ m q, vgroups m x0 x1 = some q := by
  obtain ⟨a1, a2, a3⟩ := vec_ok x0
  have hown : ∀ p ∈ vecG x0, keepG p.1 [([97] : Q4), ([98] : Q4), ([99] : Q4), ([110, 97, 109, 101] : Q4)] = p.1 := fun p h => keep_all h
  generalize hX : vecG x0 = X at a1 a2 a3 hown
  obtain ⟨p, hp, hp4, hpl⟩ : ∃ p : Nat, (if (4) < (((List.length x1) : Nat) : Int) then (4) else (((List.length x1) : Nat) : Int)) = (p : Int) ∧ p ≤ 4 ∧ p ≤ x1.length := by
    split
    · exact ⟨4, rfl, by omega, by omega⟩
    · exact ⟨x1.length, rfl, by omega, by omega⟩
  have px := pre_of (show X.length < 20 by omega) a2
  have bd : ∀ q ∈ X, -9 ≤ q.2 ∧ q.2 ≤ 20 := fun q hq => (a2 q hq).2
  have gp : ∀ ns : Q3, ns.length ≤ 4 → groupPre ns X = true := fun ns h => decide_eq_true ⟨by omega, by omega, fun q hq => ⟨set4_pre (a2 q hq).1, by have := bd q hq; omega⟩⟩
  have kl : ∀ q ∈ X, q.1.length ≤ 1000000 := fun q hq => (of_decide_eq_true (set4_pre (a2 q hq).1)).1
  refine ⟨0, (), ?_⟩
  unfold vgroups
  rw [hX, hp, Int.toNat_natCast, List.drop_zero]
  have d0 : (decide (0 ≤ ((p : Nat) : Int)) && decide (((p : Nat) : Int) ≤ (((List.length x1) : Nat) : Int))) = true := by rw [decide_eq_true (by omega), decide_eq_true (by omega)]; rfl
  have hns : (x1.take p).length ≤ 4 := by rw [List.length_take]; omega
  generalize x1.take p = ns at hns
  have A := All4_fold ns X 0 [] [] [] [] (by omega) (fun q hq => by have := bd q hq; omega) trivial
  have A8 : All4 (Rg 8) (gFold 20 ns [] X) (gFold 17 ns [] X) (gFold 18 ns [] X) (gFold 19 ns [] X) := A.mono (Rg_mono (by omega))
  have S := All4_sort (fun a b c d h => ⟨h.1, h.2.1, h.2.2.1⟩) A8
  obtain ⟨n1, n2, n3⟩ := All4_len S
  have lf := len_fold 20 ns X []
  rw [List.length_nil, Nat.zero_add] at lf
  have cl : (sortG (gFold 20 ns [] X)).length ≤ 8 := by rw [len_sortG]; omega
  have ck : ∀ q ∈ sortG (gFold 20 ns [] X), q.1.length ≤ 1000000 := fun q hq => key_fold 20 ns X [] kl (fun q hq => by simp at hq) q ((perm_sort _).mem_iff.1 hq)
  obtain ⟨j, hj⟩ := sums_loop 0 X (sortG (gFold 17 [] [] X)) _ _ _ _ S cl ck (0 + 24) 0 0 0 (by omega) (by omega) (by omega) (by omega)
  rw [Int.natCast_zero, List.drop_zero, List.drop_zero, Int.zero_add, Int.zero_add, sumV_perm (perm_sort _), sumV_perm (perm_sort _), sumV_fold (by omega), sumV_fold (by omega), sumV_ones, sumV_same] at hj
  have z0 : sumV ([] : VL) = 0 := rfl
  rw [z0, Int.zero_add, Int.zero_add] at hj
  have own : gFold 17 [([97] : Q4), ([98] : Q4), ([99] : Q4), ([110, 97, 109, 101] : Q4)] [] X = X := by
    have := fold_own [([97] : Q4), ([98] : Q4), ([99] : Q4), ([110, 97, 109, 101] : Q4)] X [] hown (by simpa using a3)
    simpa using this
  have pts : ptsPre (sortG X) = true := sort_v (pre_of (l := sortG X) (by rw [len_sortG]; omega) (fun q hq => a2 q ((perm_sort X).mem_iff.1 hq)))
  have r0 : ((show List (List (Q4 × Q4) × Int) from sortG X) == sortG X) = true := beq_self_eq_true (sortG X)
  have bq : ((0 : Int) != 0) = false := rfl
  have q1 : ((((sortG (gFold 20 ns [] X)).length : Nat) : Int) != (((sortG (gFold 17 ns [] X)).length : Nat) : Int)) = false := by rw [n1]; exact bne_self_eq_false _
  have q2 : ((((sortG (gFold 20 ns [] X)).length : Nat) : Int) != (((sortG (gFold 18 ns [] X)).length : Nat) : Int)) = false := by rw [n2]; exact bne_self_eq_false _
  have q3 : ((((sortG (gFold 20 ns [] X)).length : Nat) : Int) != (((sortG (gFold 19 ns [] X)).length : Nat) : Int)) = false := by rw [n3]; exact bne_self_eq_false _
  have g0 := gp ns hns
  have g1 := gp [] (by simp)
  have g2 := gp [([97] : Q4), ([98] : Q4), ([99] : Q4), ([110, 97, 109, 101] : Q4)] (by simp)
  unfold groupG
  have hj' : l4_0 0 (0 + 24) X (sortG (gFold 20 ns [] X)) (sortG (gFold 17 ns [] X)) (sortG (gFold 18 ns [] X)) (sortG (gFold 19 ns [] X)) (sortG (gFold 17 [] [] X)) 0 0 (((sortG (gFold 20 ns [] X)).length : Nat) : Int) 0 = some (0, ((X.length : Nat) : Int), sumV X, j) := hj
  cases hXX : X with
  | nil =>
    rw [hXX] at hj' q1 q2 q3 g0 g1 g2 own pts r0 px
    have e0 : (((([] : VL).length : Nat) : Int) == 0) = true := rfl
    have e1 : (((((sortG (gFold 17 [] [] ([] : VL))).length : Nat) : Int)) == 0) = true := rfl
    have e2 : (((([] : VL).length : Nat) : Int) == ((([] : VL).length : Nat) : Int)) = true := rfl
    simp only [d0, g0, g1, g2, bq, q1, q2, q3, l4_0R, hj', own, pts, r0, px, e0, e1, e2, beq_self_eq_true, Option.isSome_some, Option.getD_some, ↓reduceIte, Bool.false_eq_true]
  | cons a r =>
    have one : gFold 17 [] [] X = [(([] : LB), sumV X)] := by
      rw [hXX]
      show gFold 17 [] (gPut 17 (keepG a.1 []) (gVal 17 a) []) r = _
      rw [keep_nil]
      show gFold 17 [] [(([] : LB), a.2)] r = _
      rw [fold_one r a.2, sumV]
    have so : sortG (gFold 17 [] [] X) = [(([] : LB), sumV X)] := by rw [one]; rfl
    rw [← hXX]
    have e0 : (((X.length : Nat) : Int) == 0) = false := by rw [beq_eq_false_iff_ne, hXX, List.length_cons]; omega
    rw [so] at hj'
    have f1 : (((([(([] : LB), sumV X)] : VL).length : Nat) : Int) == 1) = true := rfl
    have f2 : decide ((0 : Int) < ((([(([] : LB), sumV X)] : VL).length : Nat) : Int)) = true := rfl
    have f3 : (([(([] : LB), sumV X)] : VL).getD 0 (([] : LB), 0)).2 = sumV X := rfl
    simp only [so, d0, g0, g1, g2, bq, q1, q2, q3, l4_0R, hj', own, pts, r0, px, e0, f1, f2, f3, beq_self_eq_true, Option.isSome_some, Option.getD_some, ↓reduceIte, Bool.false_eq_true]
theorem vgroups_law (x0 : (List (List Int × List Int)) × List Int) (x1 : Q3) : ∃ g B', CallAt Tryd.prog 4 g ∧ (g [argAV true (.pair (.sl (.pair (.sl (.int .i64)) (.sl (.int .i64)))) (.sl (.int .i64))) x0, argAV false (.sl .str) x1] []).run = some (.d (.bool true), B') := vgroups_at x0 x1 (vgroups_pure x0 x1)

end Go.Proofs.YtahdcmicifokgaaDoor.Dec
