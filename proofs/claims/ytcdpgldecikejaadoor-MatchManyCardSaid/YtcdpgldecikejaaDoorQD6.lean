/- slices.Index of texts. lset.Drop, lset.Keep. lset.With. Sets of numbers. Texts are read in one way. match.All. match.Right, match.Print. -/
import Derived.Test.YtcdpgldecikejaaDoorQD5
import Derived.KernelRfl
namespace Go.Proofs.YtcdpgldecikejaaDoor.Dec
open Go.Ev
set_option linter.unusedVariables false
set_option linter.unusedSimpArgs false
set_option maxRecDepth 100000
noncomputable def fn70 : AFn := (F 70).getD ⟨0, [], .bad, false, false, noHd⟩
noncomputable def body70 : AC := fn70.body
def l70_0 (m : Nat) : Nat → List (List UInt8) → List UInt8 → Int → Int → Option (Nat × Int)
  | 0, _, _, _, _ => none
  | n + 1, x0, x1, s7, s8 => if decide (s8 < s7) = true then
      if decide (0 ≤ s8) = true then
        if decide (s8 < (((List.length x0) : Nat) : Int)) = true then
          if (x1 == (List.getD x0 (Int.toNat s8) ([] : List UInt8))) = true then
            some (0, s8)
          else
            l70_0 m n x0 x1 s7 ((IntKind.wrap .i64 (s8 + (1))))
        else
          none
      else
        none
    else
      some (1, s8)
def l70_0D : Nat × Int := (0, 0)
@[reducible] def l70_0R (m n : Nat) (x0 : List (List UInt8)) (x1 : List UInt8) (s7 : Int) (s8 : Int) : Nat × Int := Option.getD (l70_0 m n x0 x1 s7 s8) l70_0D
def l70_0H (x0 : List (List UInt8)) (x1 : List UInt8) (s7 : Int) (s8 : Int) : Env := [(.d (.sl .str x0)), (.d (.str x1)), .top, .top, .top, .top, .top, (.d (.int .i64 s7)), (.d (.int .i64 s8)), .top, .top, .top, .top, .top, .top, .top, .top, .top, .top]
def l70_0B (x0 : List (List UInt8)) (x1 : List UInt8) (s7 : Int) (s8 : Int) : Boxes := []
def l70_0E (x0 : List (List UInt8)) (x1 : List UInt8) (s7 : Int) (s8 : Int) : Nat → AEx × Env × Boxes
  | 0 => (.ret, [(.d (.sl .str x0)), (.d (.str x1)), .top, .top, (.d (.int .i64 s8)), (.d (.int .i64 s8)), .top, (.d (.int .i64 s7)), (.d (.int .i64 s8)), (.d (.bool (decide (s8 < s7)))), (.d (.int .i64 s8)), (.d (.str x1)), (.d (.sl .str x0)), (.d (.int .i64 s8)), (.cptr [(.str (List.getD x0 (Int.toNat s8) ([] : List UInt8)))] 0), (.d (.str (List.getD x0 (Int.toNat s8) ([] : List UInt8)))), (.d (.bool (x1 == (List.getD x0 (Int.toNat s8) ([] : List UInt8))))), (.d (.int .i64 s8)), .top], [])
  | _ => (.exit 0, [(.d (.sl .str x0)), (.d (.str x1)), .top, .top, .top, .top, .top, (.d (.int .i64 s7)), (.d (.int .i64 s8)), (.d (.bool (decide (s8 < s7)))), .top, .top, .top, .top, .top, .top, .top, .top, .top], [])
noncomputable def lbl70_0 : AC := loopBody 387 body70

set_option maxHeartbeats 20000000 in
theorem l70_0_w0 (m n : Nat) (x0 : List (List UInt8)) (x1 : List UInt8) (s7 : Int) (s8 : Int) (c0 : decide (s8 < s7) = true) (c1 : decide (0 ≤ s8) = true) (c2 : decide (s8 < (((List.length x0) : Nat) : Int)) = true) (c3 : (x1 == (List.getD x0 (Int.toNat s8) ([] : List UInt8))) = true) : (turns (hds 70 387) 0 387 (evC byref (evCall F S12 (m + 24)) (m + 24) 0 (hds 70) lbl70_0) (n + 1) (l70_0H x0 x1 s7 s8) (l70_0B x0 x1 s7 s8)).run = some (.ret, [(.d (.sl .str x0)), (.d (.str x1)), .top, .top, (.d (.int .i64 s8)), (.d (.int .i64 s8)), .top, (.d (.int .i64 s7)), (.d (.int .i64 s8)), (.d (.bool (decide (s8 < s7)))), (.d (.int .i64 s8)), (.d (.str x1)), (.d (.sl .str x0)), (.d (.int .i64 s8)), (.cptr [(.str (List.getD x0 (Int.toNat s8) ([] : List UInt8)))] 0), (.d (.str (List.getD x0 (Int.toNat s8) ([] : List UInt8)))), (.d (.bool (x1 == (List.getD x0 (Int.toNat s8) ([] : List UInt8))))), (.d (.int .i64 s8)), .top], []) := by
  exact turns_last (by simp) (M.run_of_path _ [true, true, true, true] _ _ (by kernel_rfl) (all_t c0 (all_t c1 (all_t c2 (all_t c3 all_nil))))) 
set_option maxHeartbeats 20000000 in
theorem l70_0_w1 (m n : Nat) (x0 : List (List UInt8)) (x1 : List UInt8) (s7 : Int) (s8 : Int) (r : AEx × Env × Boxes) (c0 : decide (s8 < s7) = true) (c1 : decide (0 ≤ s8) = true) (c2 : decide (s8 < (((List.length x0) : Nat) : Int)) = true) (c3 : ¬ (x1 == (List.getD x0 (Int.toNat s8) ([] : List UInt8))) = true) (ih : (turns (hds 70 387) 0 387 (evC byref (evCall F S12 (m + 24)) (m + 24) 0 (hds 70) lbl70_0) n (l70_0H x0 x1 s7 ((IntKind.wrap .i64 (s8 + (1))))) (l70_0B x0 x1 s7 ((IntKind.wrap .i64 (s8 + (1)))))).run = some r) : (turns (hds 70 387) 0 387 (evC byref (evCall F S12 (m + 24)) (m + 24) 0 (hds 70) lbl70_0) (n + 1) (l70_0H x0 x1 s7 s8) (l70_0B x0 x1 s7 s8)).run = some r := by
  exact turns_step (M.run_of_path _ [true, true, true, false] _ _ (by kernel_rfl) (all_t c0 (all_t c1 (all_t c2 (all_f c3 all_nil))))) ih
set_option maxHeartbeats 20000000 in
theorem l70_0_w2 (m n : Nat) (x0 : List (List UInt8)) (x1 : List UInt8) (s7 : Int) (s8 : Int) (c0 : ¬ decide (s8 < s7) = true) : (turns (hds 70 387) 0 387 (evC byref (evCall F S12 (m + 24)) (m + 24) 0 (hds 70) lbl70_0) (n + 1) (l70_0H x0 x1 s7 s8) (l70_0B x0 x1 s7 s8)).run = some (.exit 0, [(.d (.sl .str x0)), (.d (.str x1)), .top, .top, .top, .top, .top, (.d (.int .i64 s7)), (.d (.int .i64 s8)), (.d (.bool (decide (s8 < s7)))), .top, .top, .top, .top, .top, .top, .top, .top, .top], []) := by
  exact turns_last (by simp) (M.run_of_path _ [false] _ _ (by kernel_rfl) (all_f c0 all_nil)) 

set_option maxHeartbeats 20000000 in
theorem l70_0_step (m n : Nat) (ih : ∀ (x0 : List (List UInt8)) (x1 : List UInt8) (s7 : Int) (s8 : Int) (q : Nat × Int), l70_0 m n x0 x1 s7 s8 = some q → (turns (hds 70 387) 0 387 (evC byref (evCall F S12 (m + 24)) (m + 24) 0 (hds 70) lbl70_0) n (l70_0H x0 x1 s7 s8) (l70_0B x0 x1 s7 s8)).run = some (l70_0E (x0) (x1) (s7) (q.2) q.1)) (x0 : List (List UInt8)) (x1 : List UInt8) (s7 : Int) (s8 : Int) (q : Nat × Int) (h : l70_0 m (n + 1) x0 x1 s7 s8 = some q) : (turns (hds 70 387) 0 387 (evC byref (evCall F S12 (m + 24)) (m + 24) 0 (hds 70) lbl70_0) (n + 1) (l70_0H x0 x1 s7 s8) (l70_0B x0 x1 s7 s8)).run = some (l70_0E (x0) (x1) (s7) (q.2) q.1) := by
  rw [l70_0] at h
  refine ite_cases h (fun c0 h => ?_) (fun c0 h => ?_)
  · skip
    refine ite_cases h (fun c1 h => ?_) (fun c1 h => ?_)
    · skip
      refine ite_cases h (fun c2 h => ?_) (fun c2 h => ?_)
      · skip
        refine ite_cases h (fun c3 h => ?_) (fun c3 h => ?_)
        · skip
          cases h
          exact l70_0_w0 m n x0 x1 s7 s8 c0 c1 c2 c3
        · skip
          exact l70_0_w1 m n x0 x1 s7 s8 _ c0 c1 c2 c3 (ih _ _ _ _ q h)
      · skip
        cases h
    · skip
      cases h
  · skip
    cases h
    exact l70_0_w2 m n x0 x1 s7 s8 c0
set_option maxHeartbeats 20000000 in
theorem l70_0_ok (m : Nat) : ∀ (n : Nat) (x0 : List (List UInt8)) (x1 : List UInt8) (s7 : Int) (s8 : Int) (q : Nat × Int), l70_0 m n x0 x1 s7 s8 = some q → (turns (hds 70 387) 0 387 (evC byref (evCall F S12 (m + 24)) (m + 24) 0 (hds 70) lbl70_0) n (l70_0H x0 x1 s7 s8) (l70_0B x0 x1 s7 s8)).run = some (l70_0E (x0) (x1) (s7) (q.2) q.1)
  | 0, x0, x1, s7, s8, q, h => by cases h
  | n + 1, x0, x1, s7, s8, q, h => l70_0_step m n (l70_0_ok m n) x0 x1 s7 s8 q h

def p70 (m : Nat) (x0 : List (List UInt8)) (x1 : List UInt8) : Option (Int) :=
  if (Option.isSome (l70_0 m (m + 24) x0 x1 ((((List.length x0) : Nat) : Int)) 0)) = true then
    if ((l70_0R m (m + 24) x0 x1 ((((List.length x0) : Nat) : Int)) 0).1 == 0) = true then
      some ((l70_0R m (m + 24) x0 x1 ((((List.length x0) : Nat) : Int)) 0).2)
    else
      if ((l70_0R m (m + 24) x0 x1 ((((List.length x0) : Nat) : Int)) 0).1 == 1) = true then
        some ((-1))
      else
        none
  else
    none
set_option maxHeartbeats 20000000 in
theorem p70_ok (m : Nat) (x0 : List (List UInt8)) (x1 : List UInt8) (q : Int) (h : p70 m x0 x1 = some q) : ∃ r B1, (evCall F S12 (m + 25) 70 [(.d (.sl .str x0)), (.d (.str x1))] []).run = some (r, B1) ∧ 0 ≤ B1.length ∧ wkR B1 [] r (.d (.int .i64 q)) ∧ wkBs B1 [] 0 [] := by
  unfold p70 at h
  refine ite_cases h (fun c0 h => ?_) (fun c0 h => ?_)
  · skip
    refine ite_cases h (fun c1 h => ?_) (fun c1 h => ?_)
    · skip
      cases h
      refine ⟨(.d (.int .i64 (l70_0R m (m + 24) x0 x1 ((((List.length x0) : Nat) : Int)) 0).2)), [], runT_ok (LS := (fun k => if k = 387 then some (l70_0E x0 x1 (((((List.length x0) : Nat) : Int))) ((l70_0R m (m + 24) x0 x1 ((((List.length x0) : Nat) : Int)) 0).2) 0) else none)) (fn := fn70) (vis := [(387, l70_0H x0 x1 ((((List.length x0) : Nat) : Int)) 0, l70_0B x0 x1 ((((List.length x0) : Nat) : Int)) 0)]) (by kernel_rfl) rfl (by kernel_rfl) (M.run_of_path _ [] _ _ (by kernel_rfl) all_nil) ?_, by simp, (wkR.one (wkV.one (wk1.eq rfl))), trivial⟩
      intro p hp p2 hq
      rcases List.mem_cons.1 hp with rfl | hp
      · skip
        have h3 := l70_0_ok m (m + 24) x0 x1 ((((List.length x0) : Nat) : Int)) 0 _ (some_getD (d := l70_0D) c0)
        rw [eq_of_beq c1] at h3
        exact Eq.trans (Eq.mp (by kernel_rfl) h3) hq
      cases hp
    · skip
      refine ite_cases h (fun c2 h => ?_) (fun c2 h => ?_)
      · skip
        cases h
        refine ⟨(.d (.int .i64 (-1))), [], runT_ok (LS := (fun k => if k = 387 then some (l70_0E x0 x1 (((((List.length x0) : Nat) : Int))) ((l70_0R m (m + 24) x0 x1 ((((List.length x0) : Nat) : Int)) 0).2) 1) else none)) (fn := fn70) (vis := [(387, l70_0H x0 x1 ((((List.length x0) : Nat) : Int)) 0, l70_0B x0 x1 ((((List.length x0) : Nat) : Int)) 0)]) (by kernel_rfl) rfl (by kernel_rfl) (M.run_of_path _ [] _ _ (by kernel_rfl) all_nil) ?_, by simp, (wkR.one (wkV.one (wk1.eq rfl))), trivial⟩
        intro p hp p2 hq
        rcases List.mem_cons.1 hp with rfl | hp
        · skip
          have h3 := l70_0_ok m (m + 24) x0 x1 ((((List.length x0) : Nat) : Int)) 0 _ (some_getD (d := l70_0D) c0)
          rw [eq_of_beq c2] at h3
          exact Eq.trans (Eq.mp (by kernel_rfl) h3) hq
        cases hp
      · skip
        cases h
  · skip
    cases h

/-- The first place of a text, from a place on. -/
def idxFrom : List (List UInt8) → List UInt8 → Nat → Int
  | [], _, _ => -1
  | x :: l, v, k => if (x == v) = true then ((k : Nat) : Int) else idxFrom l v (k + 1)
def idxG (l : List (List UInt8)) (v : List UInt8) : Int := idxFrom l v 0
theorem idx_pos : ∀ (l : List (List UInt8)) (v : List UInt8) (k : Nat), decide (idxFrom l v k ≥ 0) = l.contains v
  | [], v, k => rfl
  | x :: l, v, k => by
    rw [idxFrom, List.contains_cons]
    by_cases h : (x == v) = true
    · rw [if_pos h]
      have : (v == x) = true := by rw [beq_iff_eq] at h ⊢; exact h.symm
      rw [this, Bool.true_or]
      exact decide_eq_true (by omega)
    · rw [if_neg h, idx_pos l v (k + 1)]
      have : (v == x) = false := by
        rw [beq_eq_false_iff_ne]
        intro e; exact h (by rw [beq_iff_eq]; exact e.symm)
      rw [this, Bool.false_or]
theorem idx_loop (m : Nat) (l : List (List UInt8)) (v : List UInt8) (hb : l.length ≤ 9223372036854775807) : ∀ (n k : Nat), k ≤ l.length → l.length - k < n → (∃ j : Nat, l70_0 m n l v (l.length : Nat) (k : Nat) = some (0, ((j : Nat) : Int)) ∧ idxFrom (l.drop k) v k = ((j : Nat) : Int)) ∨ (∃ j, l70_0 m n l v (l.length : Nat) (k : Nat) = some (1, j) ∧ idxFrom (l.drop k) v k = -1)
  | 0, k, _, h => by omega
  | n + 1, k, h1, h2 => by
    rw [l70_0]
    by_cases hk : k < l.length
    · have e1 : decide (((k : Nat) : Int) < (((List.length l) : Nat) : Int)) = true := decide_eq_true (by omega)
      have e2 : decide ((0 : Int) ≤ ((k : Nat) : Int)) = true := decide_eq_true (by omega)
      have e7 : IntKind.wrap .i64 (((k : Nat) : Int) + (1)) = ((k + 1 : Nat) : Int) := by rw [wrap_id (by omega) (by omega)]; rfl
      rw [drop_getD l k ([] : List UInt8) hk, show Int.toNat ((k : Nat) : Int) = k from rfl, e7, if_pos e1, if_pos e2, if_pos e1, idxFrom]
      by_cases hc : (v == l.getD k ([] : List UInt8)) = true
      · have hc' : (l.getD k ([] : List UInt8) == v) = true := by rw [beq_iff_eq] at hc ⊢; exact hc.symm
        rw [if_pos hc, if_pos hc']
        exact .inl ⟨k, rfl, rfl⟩
      · have hc' : ¬ (l.getD k ([] : List UInt8) == v) = true := by rw [beq_iff_eq] at hc ⊢; exact fun h => hc h.symm
        rw [if_neg hc, if_neg hc']
        exact idx_loop m l v hb n (k + 1) (by omega) (by omega)
    · have e1 : decide (((k : Nat) : Int) < (((List.length l) : Nat) : Int)) = false := decide_eq_false (by omega)
      rw [e1, if_neg (by simp), List.drop_eq_nil_of_le (by omega)]
      exact .inr ⟨_, rfl, rfl⟩
theorem idxS (l : List (List UInt8)) (v : List UInt8) (h : decide (List.length l ≤ 9223372036854775807) = true) : ∃ m, p70 m l v = some (idxG l v) := by
  have h := of_decide_eq_true h
  refine ⟨l.length, ?_⟩
  unfold p70 l70_0R idxG
  rcases idx_loop l.length l v h (l.length + 24) 0 (by omega) (by omega) with ⟨j, h1, h2⟩ | ⟨j, h1, h2⟩
  · simp only [Int.natCast_zero, List.drop_zero] at h1 h2
    rw [h1, h2]
    simp
  · simp only [Int.natCast_zero, List.drop_zero] at h1 h2
    rw [h1, h2]
    simp
def s70 : List AV → Boxes → M (AV × Boxes) := normS [.val (.sl .str), .val .str] [] fun xs B => match xs, B with
  | [(.d (.sl .str c1)), (.d (.str c2))], [] => .chk (decide (List.length c1 ≤ 9223372036854775807)) (.ret ((.d (.int .i64 (idxG c1 c2))), []))
  | _, _ => .fail
theorem s70_at : CallAt Tryd.prog 70 s70 := by
  refine CallAt.norm (CallAt.weakE (g := fun n => evCall F S12 n 70) (fun n => evCall_atH mixed kinds hds S12 S12_ok n 70) fun xs B r' B' hr => ?_) _ _
  split at hr
  · rename_i c1 c2
    obtain ⟨hp, hr⟩ := (M.run_chk _ _ _).1 hr
    simp only [M.run, Option.some.injEq, Prod.mk.injEq] at hr
    obtain ⟨rfl, rfl⟩ := hr
    obtain ⟨m, hm⟩ := idxS c1 c2 hp
    obtain ⟨r, B1, h1, h2, h3, h4⟩ := p70_ok m c1 c2 _ hm
    exact ⟨m + 25, r, B1, h1, by simp, h2, h3, h4⟩
  · simp [M.run] at hr
noncomputable def S13 : FuncId → Option (List AV → Boxes → M (AV × Boxes)) := fun f => if f = 70 then some s70 else S12 f
set_option maxHeartbeats 20000000 in
theorem S13_ok : ∀ f s, S13 f = some s → CallAt Tryd.prog f s := by
  intro f s h
  unfold S13 at h
  split at h
  · rename_i e; subst e; cases h; exact s70_at
  · exact S12_ok f s h

end Go.Proofs.YtcdpgldecikejaaDoor.Dec
namespace Go.Proofs.YtcdpgldecikejaaDoor.Dec
open Go.Ev
set_option linter.unusedVariables false
set_option linter.unusedSimpArgs false
set_option maxRecDepth 100000
noncomputable def fn20 : AFn := (F 20).getD ⟨0, [], .bad, false, false, noHd⟩
noncomputable def body20 : AC := fn20.body
def l20_0 (m : Nat) : Nat → List ((List UInt8) × (List UInt8)) → List (List UInt8) → Int → Int → List ((List UInt8) × (List UInt8)) → Option (Nat × Int × (List ((List UInt8) × (List UInt8))))
  | 0, _, _, _, _, _ => none
  | n + 1, x0, x1, s9, s10, b0 => if decide (s10 < s9) = true then
      if decide (0 ≤ s10) = true then
        if decide (s10 < (((List.length x0) : Nat) : Int)) = true then
          if decide (List.length x1 ≤ 9223372036854775807) = true then
            if decide ((idxG x1 (List.getD x0 (Int.toNat s10) (([] : List UInt8), ([] : List UInt8))).1) ≥ 0) = true then
              l20_0 m n x0 x1 s9 ((IntKind.wrap .i64 (s10 + (1)))) b0
            else
              if decide ((((List.length b0) + 1) * 32) ≤ 70368744177664) = true then
                l20_0 m n x0 x1 s9 ((IntKind.wrap .i64 (s10 + (1)))) ((b0 ++ [(List.getD x0 (Int.toNat s10) (([] : List UInt8), ([] : List UInt8)))]))
              else
                none
          else
            none
        else
          none
      else
        none
    else
      some (0, s10, b0)
def l20_0D : Nat × Int × (List ((List UInt8) × (List UInt8))) := (0, 0, [])
@[reducible] def l20_0R (m n : Nat) (x0 : List ((List UInt8) × (List UInt8))) (x1 : List (List UInt8)) (s9 : Int) (s10 : Int) (b0 : List ((List UInt8) × (List UInt8))) : Nat × Int × (List ((List UInt8) × (List UInt8))) := Option.getD (l20_0 m n x0 x1 s9 s10 b0) l20_0D
def l20_0H (x0 : List ((List UInt8) × (List UInt8))) (x1 : List (List UInt8)) (s9 : Int) (s10 : Int) (b0 : List ((List UInt8) × (List UInt8))) : Env := [.top, (.d (.sl .str x1)), .top, .top, .top, (.sr 0 0 (List.length b0) 2 none), .top, .top, (.d (.sl (.pair .str .str) x0)), (.d (.int .i64 s9)), (.d (.int .i64 s10)), .top, .top, .top, .top, .top, .top, .top, .top, .top, .top, .top, .top, .top, .top]
def l20_0B (x0 : List ((List UInt8) × (List UInt8))) (x1 : List (List UInt8)) (s9 : Int) (s10 : Int) (b0 : List ((List UInt8) × (List UInt8))) : Boxes := [(.arr (.pair .str .str) b0 true)]
def l20_0E (x0 : List ((List UInt8) × (List UInt8))) (x1 : List (List UInt8)) (s9 : Int) (s10 : Int) (b0 : List ((List UInt8) × (List UInt8))) : Nat → AEx × Env × Boxes
  | _ => (.exit 0, [.top, (.d (.sl .str x1)), .top, .top, .top, (.sr 0 0 (List.length b0) 2 none), .top, .top, (.d (.sl (.pair .str .str) x0)), (.d (.int .i64 s9)), (.d (.int .i64 s10)), (.d (.bool (decide (s10 < s9)))), .top, .top, .top, .top, .top, .top, .top, .top, .top, .top, .top, .top, .top], [(.arr (.pair .str .str) b0 true)])
noncomputable def lbl20_0 : AC := loopBody 1826 body20

set_option maxHeartbeats 20000000 in
theorem l20_0_w0 (m n : Nat) (x0 : List ((List UInt8) × (List UInt8))) (x1 : List (List UInt8)) (s9 : Int) (s10 : Int) (b0 : List ((List UInt8) × (List UInt8))) (r : AEx × Env × Boxes) (c0 : decide (s10 < s9) = true) (c1 : decide (0 ≤ s10) = true) (c2 : decide (s10 < (((List.length x0) : Nat) : Int)) = true) (c3 : decide (List.length x1 ≤ 9223372036854775807) = true) (c4 : decide ((idxG x1 (List.getD x0 (Int.toNat s10) (([] : List UInt8), ([] : List UInt8))).1) ≥ 0) = true) (ih : (turns (hds 20 1826) 0 1826 (evC byref (evCall F S13 (m + 24)) (m + 24) 0 (hds 20) lbl20_0) n (l20_0H x0 x1 s9 ((IntKind.wrap .i64 (s10 + (1)))) b0) (l20_0B x0 x1 s9 ((IntKind.wrap .i64 (s10 + (1)))) b0)).run = some r) : (turns (hds 20 1826) 0 1826 (evC byref (evCall F S13 (m + 24)) (m + 24) 0 (hds 20) lbl20_0) (n + 1) (l20_0H x0 x1 s9 s10 b0) (l20_0B x0 x1 s9 s10 b0)).run = some r := by
  exact turns_step (M.run_of_path _ [true, true, true, true, false] _ _ (by kernel_rfl) (all_t c0 (all_t c1 (all_t c2 (all_t c3 (all_nt c4 all_nil)))))) ih
set_option maxHeartbeats 20000000 in
theorem l20_0_w1 (m n : Nat) (x0 : List ((List UInt8) × (List UInt8))) (x1 : List (List UInt8)) (s9 : Int) (s10 : Int) (b0 : List ((List UInt8) × (List UInt8))) (r : AEx × Env × Boxes) (c0 : decide (s10 < s9) = true) (c1 : decide (0 ≤ s10) = true) (c2 : decide (s10 < (((List.length x0) : Nat) : Int)) = true) (c3 : decide (List.length x1 ≤ 9223372036854775807) = true) (c4 : ¬ decide ((idxG x1 (List.getD x0 (Int.toNat s10) (([] : List UInt8), ([] : List UInt8))).1) ≥ 0) = true) (c6 : decide ((((List.length b0) + 1) * 32) ≤ 70368744177664) = true) (ih : (turns (hds 20 1826) 0 1826 (evC byref (evCall F S13 (m + 24)) (m + 24) 0 (hds 20) lbl20_0) n (l20_0H x0 x1 s9 ((IntKind.wrap .i64 (s10 + (1)))) ((b0 ++ [(List.getD x0 (Int.toNat s10) (([] : List UInt8), ([] : List UInt8)))]))) (l20_0B x0 x1 s9 ((IntKind.wrap .i64 (s10 + (1)))) ((b0 ++ [(List.getD x0 (Int.toNat s10) (([] : List UInt8), ([] : List UInt8)))])))).run = some r) : (turns (hds 20 1826) 0 1826 (evC byref (evCall F S13 (m + 24)) (m + 24) 0 (hds 20) lbl20_0) (n + 1) (l20_0H x0 x1 s9 s10 b0) (l20_0B x0 x1 s9 s10 b0)).run = some r := by
  have ht : (turn (hds 20 1826) 0 1826 (evC byref (evCall F S13 (m + 24)) (m + 24) 0 (hds 20) lbl20_0) (l20_0H x0 x1 s9 s10 b0) (l20_0B x0 x1 s9 s10 b0)).run = some (.normal, [.top, (.d (.sl .str x1)), .top, .top, .top, (.sr 0 0 ((List.length b0) + 1) 2 none), .top, .top, (.d (.sl (.pair .str .str) x0)), (.d (.int .i64 s9)), (.d (.int .i64 (IntKind.wrap .i64 (s10 + (1))))), .top, .top, .top, .top, .top, .top, .top, .top, .top, .top, .top, .top, .top, .top], [(.arr (.pair .str .str) (b0 ++ [(List.getD x0 (Int.toNat s10) (([] : List UInt8), ([] : List UInt8)))]) true)]) := M.run_of_path _ [true, true, true, true, true, true, true, true] _ _ (by kernel_rfl) (all_t c0 (all_t c1 (all_t c2 (all_t c3 (all_nf c4 (all_t rfl (all_t c6 (all_t (show decide ((List.length b0) = (List.length b0)) = true from decide_eq_true rfl) all_nil))))))))
  refine turns_step ht (turns_eq ?_ ?_ ih)
  · unfold l20_0H
    first | (simp; done) | (simp [Nat.add_assoc]; done) | (simp; omega)
  · unfold l20_0B
    simp
set_option maxHeartbeats 20000000 in
theorem l20_0_w2 (m n : Nat) (x0 : List ((List UInt8) × (List UInt8))) (x1 : List (List UInt8)) (s9 : Int) (s10 : Int) (b0 : List ((List UInt8) × (List UInt8))) (c0 : ¬ decide (s10 < s9) = true) : (turns (hds 20 1826) 0 1826 (evC byref (evCall F S13 (m + 24)) (m + 24) 0 (hds 20) lbl20_0) (n + 1) (l20_0H x0 x1 s9 s10 b0) (l20_0B x0 x1 s9 s10 b0)).run = some (.exit 0, [.top, (.d (.sl .str x1)), .top, .top, .top, (.sr 0 0 (List.length b0) 2 none), .top, .top, (.d (.sl (.pair .str .str) x0)), (.d (.int .i64 s9)), (.d (.int .i64 s10)), (.d (.bool (decide (s10 < s9)))), .top, .top, .top, .top, .top, .top, .top, .top, .top, .top, .top, .top, .top], [(.arr (.pair .str .str) b0 true)]) := by
  exact turns_last (by simp) (M.run_of_path _ [false] _ _ (by kernel_rfl) (all_f c0 all_nil)) 

set_option maxHeartbeats 20000000 in
theorem l20_0_step (m n : Nat) (ih : ∀ (x0 : List ((List UInt8) × (List UInt8))) (x1 : List (List UInt8)) (s9 : Int) (s10 : Int) (b0 : List ((List UInt8) × (List UInt8))) (q : Nat × Int × (List ((List UInt8) × (List UInt8)))), l20_0 m n x0 x1 s9 s10 b0 = some q → (turns (hds 20 1826) 0 1826 (evC byref (evCall F S13 (m + 24)) (m + 24) 0 (hds 20) lbl20_0) n (l20_0H x0 x1 s9 s10 b0) (l20_0B x0 x1 s9 s10 b0)).run = some (l20_0E (x0) (x1) (s9) (q.2.1) (q.2.2) q.1)) (x0 : List ((List UInt8) × (List UInt8))) (x1 : List (List UInt8)) (s9 : Int) (s10 : Int) (b0 : List ((List UInt8) × (List UInt8))) (q : Nat × Int × (List ((List UInt8) × (List UInt8)))) (h : l20_0 m (n + 1) x0 x1 s9 s10 b0 = some q) : (turns (hds 20 1826) 0 1826 (evC byref (evCall F S13 (m + 24)) (m + 24) 0 (hds 20) lbl20_0) (n + 1) (l20_0H x0 x1 s9 s10 b0) (l20_0B x0 x1 s9 s10 b0)).run = some (l20_0E (x0) (x1) (s9) (q.2.1) (q.2.2) q.1) := by
  rw [l20_0] at h
  refine ite_cases h (fun c0 h => ?_) (fun c0 h => ?_)
  · skip
    refine ite_cases h (fun c1 h => ?_) (fun c1 h => ?_)
    · skip
      refine ite_cases h (fun c2 h => ?_) (fun c2 h => ?_)
      · skip
        refine ite_cases h (fun c3 h => ?_) (fun c3 h => ?_)
        · skip
          refine ite_cases h (fun c4 h => ?_) (fun c4 h => ?_)
          · skip
            exact l20_0_w0 m n x0 x1 s9 s10 b0 _ c0 c1 c2 c3 c4 (ih _ _ _ _ _ q h)
          · skip
            refine ite_cases h (fun c6 h => ?_) (fun c6 h => ?_)
            · skip
              exact l20_0_w1 m n x0 x1 s9 s10 b0 _ c0 c1 c2 c3 c4 c6 (ih _ _ _ _ _ q h)
            · skip
              cases h
        · skip
          cases h
      · skip
        cases h
    · skip
      cases h
  · skip
    cases h
    exact l20_0_w2 m n x0 x1 s9 s10 b0 c0
set_option maxHeartbeats 20000000 in
theorem l20_0_ok (m : Nat) : ∀ (n : Nat) (x0 : List ((List UInt8) × (List UInt8))) (x1 : List (List UInt8)) (s9 : Int) (s10 : Int) (b0 : List ((List UInt8) × (List UInt8))) (q : Nat × Int × (List ((List UInt8) × (List UInt8)))), l20_0 m n x0 x1 s9 s10 b0 = some q → (turns (hds 20 1826) 0 1826 (evC byref (evCall F S13 (m + 24)) (m + 24) 0 (hds 20) lbl20_0) n (l20_0H x0 x1 s9 s10 b0) (l20_0B x0 x1 s9 s10 b0)).run = some (l20_0E (x0) (x1) (s9) (q.2.1) (q.2.2) q.1)
  | 0, x0, x1, s9, s10, b0, q, h => by cases h
  | n + 1, x0, x1, s9, s10, b0, q, h => l20_0_step m n (l20_0_ok m n) x0 x1 s9 s10 b0 q h

def p20 (m : Nat) (x0 : List ((List UInt8) × (List UInt8))) (x1 : List (List UInt8)) : Option ((List ((List UInt8) × (List UInt8)))) :=
  if (Option.isSome (l20_0 m (m + 24) x0 x1 ((((List.length x0) : Nat) : Int)) 0 (([] : List ((List UInt8) × (List UInt8)))))) = true then
    some ((l20_0R m (m + 24) x0 x1 ((((List.length x0) : Nat) : Int)) 0 (([] : List ((List UInt8) × (List UInt8))))).2.2)
  else
    none
set_option maxHeartbeats 20000000 in
theorem p20_ok (m : Nat) (x0 : List ((List UInt8) × (List UInt8))) (x1 : List (List UInt8)) (q : (List ((List UInt8) × (List UInt8)))) (h : p20 m x0 x1 = some q) : ∃ r B1 r1 B2, (padM (.pair .str .str) 0 (evCall F S13 (m + 25) 20 [(.d (.sl (.pair .str .str) x0)), (.d (.sl .str x1))] [])).run = some (r, B1) ∧ 0 ≤ B2.length ∧ B2.length ≤ B1.length ∧ wkR B1 B2 r r1 ∧ wkBs B1 B2 0 B2 ∧ (compact 0 [r1] B2).run = some ([(.sr 0 0 (List.length q) 2 none)], [(.arr (.pair .str .str) q true)]) := by
  unfold p20 at h
  refine ite_cases h (fun c0 h => ?_) (fun c0 h => ?_)
  · skip
    cases h
    refine ⟨(.sr 0 0 (List.length (l20_0R m (m + 24) x0 x1 ((((List.length x0) : Nat) : Int)) 0 (([] : List ((List UInt8) × (List UInt8))))).2.2) 2 none), [(.arr (.pair .str .str) (l20_0R m (m + 24) x0 x1 ((((List.length x0) : Nat) : Int)) 0 (([] : List ((List UInt8) × (List UInt8))))).2.2 true)], (.sr 0 0 (List.length (l20_0R m (m + 24) x0 x1 ((((List.length x0) : Nat) : Int)) 0 (([] : List ((List UInt8) × (List UInt8))))).2.2) 2 none), [(.arr (.pair .str .str) (l20_0R m (m + 24) x0 x1 ((((List.length x0) : Nat) : Int)) 0 (([] : List ((List UInt8) × (List UInt8))))).2.2 true)], padM_run rfl (runT_ok (LS := (fun k => if k = 1826 then some (l20_0E x0 x1 (((((List.length x0) : Nat) : Int))) ((l20_0R m (m + 24) x0 x1 ((((List.length x0) : Nat) : Int)) 0 (([] : List ((List UInt8) × (List UInt8))))).2.1) ((l20_0R m (m + 24) x0 x1 ((((List.length x0) : Nat) : Int)) 0 (([] : List ((List UInt8) × (List UInt8))))).2.2) 0) else none)) (fn := fn20) (vis := [(1826, l20_0H x0 x1 ((((List.length x0) : Nat) : Int)) 0 (([] : List ((List UInt8) × (List UInt8)))), l20_0B x0 x1 ((((List.length x0) : Nat) : Int)) 0 (([] : List ((List UInt8) × (List UInt8)))))]) (r := (.sr 0 0 (List.length (l20_0R m (m + 24) x0 x1 ((((List.length x0) : Nat) : Int)) 0 (([] : List ((List UInt8) × (List UInt8))))).2.2) 2 none)) (B' := [(.arr (.pair .str .str) (l20_0R m (m + 24) x0 x1 ((((List.length x0) : Nat) : Int)) 0 (([] : List ((List UInt8) × (List UInt8))))).2.2 true)]) (by kernel_rfl) rfl (by kernel_rfl) (M.run_of_path _ [] _ _ (by kernel_rfl) all_nil) ?_) rfl, by simp, by simp, (wkR.one (wkV.one (wk1.live rfl))), ⟨wkBox.arr, trivial⟩, by kernel_rfl⟩
    intro p hp p2 hq
    rcases List.mem_cons.1 hp with rfl | hp
    · skip
      have h3 := l20_0_ok m (m + 24) x0 x1 ((((List.length x0) : Nat) : Int)) 0 (([] : List ((List UInt8) × (List UInt8)))) _ (some_getD (d := l20_0D) c0)
      exact Eq.trans (Eq.mp (by kernel_rfl) h3) hq
    cases hp
  · skip
    cases h

def keepPre (l : LB) (ns : List (List UInt8)) : Bool := decide (l.length ≤ 1000000 ∧ ns.length ≤ 9223372036854775807)
/-- All but the labels of names. -/
def dropG (l : LB) (ns : List (List UInt8)) : LB := l.filter fun x => !ns.contains x.1
theorem drop_loop (m : Nat) (l : LB) (ns : List (List UInt8)) (h1 : l.length ≤ 1000000) (hn : ns.length ≤ 9223372036854775807) : ∀ (n k : Nat) (b : LB), k ≤ l.length → l.length - k < n → b.length ≤ k → l20_0 m n l ns (l.length : Nat) (k : Nat) b = some (0, ((l.length : Nat) : Int), b ++ dropG (l.drop k) ns)
  | 0, k, _, _, h, _ => by omega
  | n + 1, k, b, g1, g2, g3 => by
    rw [l20_0]
    by_cases hk : k < l.length
    · have e1 : decide (((k : Nat) : Int) < (((List.length l) : Nat) : Int)) = true := decide_eq_true (by omega)
      have e2 : decide ((0 : Int) ≤ ((k : Nat) : Int)) = true := decide_eq_true (by omega)
      have e3 : decide (List.length ns ≤ 9223372036854775807) = true := decide_eq_true hn
      have e7 : IntKind.wrap .i64 (((k : Nat) : Int) + (1)) = ((k + 1 : Nat) : Int) := by rw [wrap_id (by omega) (by omega)]; rfl
      have go := fun b h => drop_loop m l ns h1 hn n (k + 1) b (by omega) (by omega) h
      rw [drop_getD l k (([] : List UInt8), ([] : List UInt8)) hk]
      simp only [show Int.toNat ((k : Nat) : Int) = k from rfl, e1, e2, e3, e7, ↓reduceIte]
      generalize l.getD k (([] : List UInt8), ([] : List UInt8)) = q at *
      have b1 : decide (((List.length b) + 1) * 32 ≤ 70368744177664) = true := decide_eq_true (by omega)
      have hp : decide (idxG ns q.1 ≥ 0) = ns.contains q.1 := idx_pos ns q.1 0
      have hc : dropG (q :: l.drop (k + 1)) ns = if (!ns.contains q.1) = true then q :: dropG (l.drop (k + 1)) ns else dropG (l.drop (k + 1)) ns := by
        unfold dropG; rw [List.filter_cons]
      rw [hc, hp]
      cases hq : ns.contains q.1 with
      | false =>
        simp only [b1, ↓reduceIte, Bool.not_false, Bool.false_eq_true]
        rw [go _ (by simp; omega)]
        simp
      | true =>
        simp only [↓reduceIte, Bool.not_true, Bool.false_eq_true]
        exact go b (by omega)
    · have e1 : decide (((k : Nat) : Int) < (((List.length l) : Nat) : Int)) = false := decide_eq_false (by omega)
      have e0 : k = l.length := by omega
      subst e0
      rw [e1, if_neg (by simp), List.drop_length]
      simp [dropG]
theorem drop20 (l : LB) (ns : List (List UInt8)) (h : keepPre l ns = true) : ∃ m, p20 m l ns = some (dropG l ns) := by
  have ⟨h1, h2⟩ := of_decide_eq_true h
  refine ⟨l.length, ?_⟩
  have hl := drop_loop l.length l ns h1 h2 (l.length + 24) 0 [] (by omega) (by omega) (by simp)
  simp only [Int.natCast_zero, List.drop_zero, List.nil_append] at hl
  unfold p20
  simp only [l20_0R, hl, Option.isSome_some, Option.getD_some, ↓reduceIte]
def s20 : List AV → Boxes → M (AV × Boxes) := normS [.val (.sl (.pair .str .str)), .val (.sl .str)] [] fun xs B => match xs, B with
  | [(.d (.sl (.pair .str .str) c1)), (.d (.sl .str c2))], [] => .chk (keepPre c1 c2) (.ret ((.sr 0 0 (List.length (dropG c1 c2)) 2 none), [(.arr (.pair .str .str) (dropG c1 c2) true)]))
  | _, _ => .fail
theorem s20_at : CallAt Tryd.prog 20 s20 := by
  refine CallAt.norm (CallAt.weakC (g := fun n xs B => padM (.pair .str .str) 0 (evCall F S13 n 20 xs B)) (fun n => CallAt.pad (.pair .str .str) 0 (evCall_atH mixed kinds hds S13 S13_ok n 20)) fun xs B r' B' hr => ?_) _ _
  split at hr
  · rename_i c1 c2
    obtain ⟨hp, hr⟩ := (M.run_chk _ _ _).1 hr
    simp only [M.run, Option.some.injEq, Prod.mk.injEq] at hr
    obtain ⟨rfl, rfl⟩ := hr
    obtain ⟨m, hm⟩ := drop20 c1 c2 hp
    obtain ⟨r, B1, r1, B2, h1, h2, h3, h4, h5, h6⟩ := p20_ok m c1 c2 _ hm
    exact ⟨m + 25, r, B1, r1, B2, h1, by simp, h2, h3, h4, h5, h6⟩
  · simp [M.run] at hr
noncomputable def S14 : FuncId → Option (List AV → Boxes → M (AV × Boxes)) := fun f => if f = 20 then some s20 else S13 f
set_option maxHeartbeats 20000000 in
theorem S14_ok : ∀ f s, S14 f = some s → CallAt Tryd.prog f s := by
  intro f s h
  unfold S14 at h
  split at h
  · rename_i e; subst e; cases h; exact s20_at
  · exact S13_ok f s h

end Go.Proofs.YtcdpgldecikejaaDoor.Dec
namespace Go.Proofs.YtcdpgldecikejaaDoor.Dec
open Go.Ev
set_option linter.unusedVariables false
set_option linter.unusedSimpArgs false
set_option maxRecDepth 100000
noncomputable def fn46 : AFn := (F 46).getD ⟨0, [], .bad, false, false, noHd⟩
noncomputable def body46 : AC := fn46.body
def l46_0 (m : Nat) : Nat → List ((List UInt8) × (List UInt8)) → List UInt8 → Int → Int → Option (Nat × Int)
  | 0, _, _, _, _ => none
  | n + 1, x0, x1c0, s7, s8 => if decide (s8 < s7) = true then
      if decide (0 ≤ s8) = true then
        if decide (s8 < (((List.length x0) : Nat) : Int)) = true then
          if (Op.bytesLess (List.getD x0 (Int.toNat s8) (([] : List UInt8), ([] : List UInt8))).1 x1c0 || (List.getD x0 (Int.toNat s8) (([] : List UInt8), ([] : List UInt8))).1 == x1c0) = true then
            l46_0 m n x0 x1c0 s7 ((IntKind.wrap .i64 (s8 + (1))))
          else
            some (0, s8)
        else
          none
      else
        none
    else
      some (1, s8)
def l46_0D : Nat × Int := (0, 0)
@[reducible] def l46_0R (m n : Nat) (x0 : List ((List UInt8) × (List UInt8))) (x1c0 : List UInt8) (s7 : Int) (s8 : Int) : Nat × Int := Option.getD (l46_0 m n x0 x1c0 s7 s8) l46_0D
def l46_0H (x0 : List ((List UInt8) × (List UInt8))) (x1c0 : List UInt8) (s7 : Int) (s8 : Int) : Env := [(.d (.sl (.pair .str .str) x0)), (.fn 47 [(.ptr 0 0)]), .top, .top, .top, .top, .top, (.d (.int .i64 s7)), (.d (.int .i64 s8)), .top, .top, .top, .top, .top, .top, .top, .top, .top, .top]
def l46_0B (x0 : List ((List UInt8) × (List UInt8))) (x1c0 : List UInt8) (s7 : Int) (s8 : Int) : Boxes := [(.cells [(.d (.str x1c0))])]
def l46_0E (x0 : List ((List UInt8) × (List UInt8))) (x1c0 : List UInt8) (s7 : Int) (s8 : Int) : Nat → AEx × Env × Boxes
  | 0 => (.ret, [(.d (.sl (.pair .str .str) x0)), (.fn 47 [(.ptr 0 0)]), .top, .top, (.d (.int .i64 s8)), (.d (.int .i64 s8)), .top, (.d (.int .i64 s7)), (.d (.int .i64 s8)), (.d (.bool (decide (s8 < s7)))), (.d (.int .i64 s8)), (.fn 47 [(.ptr 0 0)]), (.d (.sl (.pair .str .str) x0)), (.d (.int .i64 s8)), (.cptr [(.str (List.getD x0 (Int.toNat s8) (([] : List UInt8), ([] : List UInt8))).1), (.str (List.getD x0 (Int.toNat s8) (([] : List UInt8), ([] : List UInt8))).2)] 0), (.agg [(.d (.str (List.getD x0 (Int.toNat s8) (([] : List UInt8), ([] : List UInt8))).1)), (.d (.str (List.getD x0 (Int.toNat s8) (([] : List UInt8), ([] : List UInt8))).2))]), (.d (.bool (!(Op.bytesLess (List.getD x0 (Int.toNat s8) (([] : List UInt8), ([] : List UInt8))).1 x1c0 || (List.getD x0 (Int.toNat s8) (([] : List UInt8), ([] : List UInt8))).1 == x1c0)))), (.d (.int .i64 s8)), .top], [(.cells [(.d (.str x1c0))])])
  | _ => (.exit 0, [(.d (.sl (.pair .str .str) x0)), (.fn 47 [(.ptr 0 0)]), .top, .top, .top, .top, .top, (.d (.int .i64 s7)), (.d (.int .i64 s8)), (.d (.bool (decide (s8 < s7)))), .top, .top, .top, .top, .top, .top, .top, .top, .top], [(.cells [(.d (.str x1c0))])])
noncomputable def lbl46_0 : AC := loopBody 387 body46

set_option maxHeartbeats 20000000 in
theorem l46_0_w0 (m n : Nat) (x0 : List ((List UInt8) × (List UInt8))) (x1c0 : List UInt8) (s7 : Int) (s8 : Int) (r : AEx × Env × Boxes) (c0 : decide (s8 < s7) = true) (c1 : decide (0 ≤ s8) = true) (c2 : decide (s8 < (((List.length x0) : Nat) : Int)) = true) (c3 : (Op.bytesLess (List.getD x0 (Int.toNat s8) (([] : List UInt8), ([] : List UInt8))).1 x1c0 || (List.getD x0 (Int.toNat s8) (([] : List UInt8), ([] : List UInt8))).1 == x1c0) = true) (ih : (turns (hds 46 387) 1 387 (evC byref (evCall F S14 (m + 24)) (m + 24) 1 (hds 46) lbl46_0) n (l46_0H x0 x1c0 s7 ((IntKind.wrap .i64 (s8 + (1))))) (l46_0B x0 x1c0 s7 ((IntKind.wrap .i64 (s8 + (1)))))).run = some r) : (turns (hds 46 387) 1 387 (evC byref (evCall F S14 (m + 24)) (m + 24) 1 (hds 46) lbl46_0) (n + 1) (l46_0H x0 x1c0 s7 s8) (l46_0B x0 x1c0 s7 s8)).run = some r := by
  exact turns_step (M.run_of_path _ [true, true, true, false] _ _ (by kernel_rfl) (all_t c0 (all_t c1 (all_t c2 (all_nt c3 all_nil))))) ih
set_option maxHeartbeats 20000000 in
theorem l46_0_w1 (m n : Nat) (x0 : List ((List UInt8) × (List UInt8))) (x1c0 : List UInt8) (s7 : Int) (s8 : Int) (c0 : decide (s8 < s7) = true) (c1 : decide (0 ≤ s8) = true) (c2 : decide (s8 < (((List.length x0) : Nat) : Int)) = true) (c3 : ¬ (Op.bytesLess (List.getD x0 (Int.toNat s8) (([] : List UInt8), ([] : List UInt8))).1 x1c0 || (List.getD x0 (Int.toNat s8) (([] : List UInt8), ([] : List UInt8))).1 == x1c0) = true) : (turns (hds 46 387) 1 387 (evC byref (evCall F S14 (m + 24)) (m + 24) 1 (hds 46) lbl46_0) (n + 1) (l46_0H x0 x1c0 s7 s8) (l46_0B x0 x1c0 s7 s8)).run = some (.ret, [(.d (.sl (.pair .str .str) x0)), (.fn 47 [(.ptr 0 0)]), .top, .top, (.d (.int .i64 s8)), (.d (.int .i64 s8)), .top, (.d (.int .i64 s7)), (.d (.int .i64 s8)), (.d (.bool (decide (s8 < s7)))), (.d (.int .i64 s8)), (.fn 47 [(.ptr 0 0)]), (.d (.sl (.pair .str .str) x0)), (.d (.int .i64 s8)), (.cptr [(.str (List.getD x0 (Int.toNat s8) (([] : List UInt8), ([] : List UInt8))).1), (.str (List.getD x0 (Int.toNat s8) (([] : List UInt8), ([] : List UInt8))).2)] 0), (.agg [(.d (.str (List.getD x0 (Int.toNat s8) (([] : List UInt8), ([] : List UInt8))).1)), (.d (.str (List.getD x0 (Int.toNat s8) (([] : List UInt8), ([] : List UInt8))).2))]), (.d (.bool (!(Op.bytesLess (List.getD x0 (Int.toNat s8) (([] : List UInt8), ([] : List UInt8))).1 x1c0 || (List.getD x0 (Int.toNat s8) (([] : List UInt8), ([] : List UInt8))).1 == x1c0)))), (.d (.int .i64 s8)), .top], [(.cells [(.d (.str x1c0))])]) := by
  exact turns_last (by simp) (M.run_of_path _ [true, true, true, true] _ _ (by kernel_rfl) (all_t c0 (all_t c1 (all_t c2 (all_nf c3 all_nil))))) 
set_option maxHeartbeats 20000000 in
theorem l46_0_w2 (m n : Nat) (x0 : List ((List UInt8) × (List UInt8))) (x1c0 : List UInt8) (s7 : Int) (s8 : Int) (c0 : ¬ decide (s8 < s7) = true) : (turns (hds 46 387) 1 387 (evC byref (evCall F S14 (m + 24)) (m + 24) 1 (hds 46) lbl46_0) (n + 1) (l46_0H x0 x1c0 s7 s8) (l46_0B x0 x1c0 s7 s8)).run = some (.exit 0, [(.d (.sl (.pair .str .str) x0)), (.fn 47 [(.ptr 0 0)]), .top, .top, .top, .top, .top, (.d (.int .i64 s7)), (.d (.int .i64 s8)), (.d (.bool (decide (s8 < s7)))), .top, .top, .top, .top, .top, .top, .top, .top, .top], [(.cells [(.d (.str x1c0))])]) := by
  exact turns_last (by simp) (M.run_of_path _ [false] _ _ (by kernel_rfl) (all_f c0 all_nil)) 

set_option maxHeartbeats 20000000 in
theorem l46_0_step (m n : Nat) (ih : ∀ (x0 : List ((List UInt8) × (List UInt8))) (x1c0 : List UInt8) (s7 : Int) (s8 : Int) (q : Nat × Int), l46_0 m n x0 x1c0 s7 s8 = some q → (turns (hds 46 387) 1 387 (evC byref (evCall F S14 (m + 24)) (m + 24) 1 (hds 46) lbl46_0) n (l46_0H x0 x1c0 s7 s8) (l46_0B x0 x1c0 s7 s8)).run = some (l46_0E (x0) (x1c0) (s7) (q.2) q.1)) (x0 : List ((List UInt8) × (List UInt8))) (x1c0 : List UInt8) (s7 : Int) (s8 : Int) (q : Nat × Int) (h : l46_0 m (n + 1) x0 x1c0 s7 s8 = some q) : (turns (hds 46 387) 1 387 (evC byref (evCall F S14 (m + 24)) (m + 24) 1 (hds 46) lbl46_0) (n + 1) (l46_0H x0 x1c0 s7 s8) (l46_0B x0 x1c0 s7 s8)).run = some (l46_0E (x0) (x1c0) (s7) (q.2) q.1) := by
  rw [l46_0] at h
  refine ite_cases h (fun c0 h => ?_) (fun c0 h => ?_)
  · skip
    refine ite_cases h (fun c1 h => ?_) (fun c1 h => ?_)
    · skip
      refine ite_cases h (fun c2 h => ?_) (fun c2 h => ?_)
      · skip
        refine ite_cases h (fun c3 h => ?_) (fun c3 h => ?_)
        · skip
          exact l46_0_w0 m n x0 x1c0 s7 s8 _ c0 c1 c2 c3 (ih _ _ _ _ q h)
        · skip
          cases h
          exact l46_0_w1 m n x0 x1c0 s7 s8 c0 c1 c2 c3
      · skip
        cases h
    · skip
      cases h
  · skip
    cases h
    exact l46_0_w2 m n x0 x1c0 s7 s8 c0
set_option maxHeartbeats 20000000 in
theorem l46_0_ok (m : Nat) : ∀ (n : Nat) (x0 : List ((List UInt8) × (List UInt8))) (x1c0 : List UInt8) (s7 : Int) (s8 : Int) (q : Nat × Int), l46_0 m n x0 x1c0 s7 s8 = some q → (turns (hds 46 387) 1 387 (evC byref (evCall F S14 (m + 24)) (m + 24) 1 (hds 46) lbl46_0) n (l46_0H x0 x1c0 s7 s8) (l46_0B x0 x1c0 s7 s8)).run = some (l46_0E (x0) (x1c0) (s7) (q.2) q.1)
  | 0, x0, x1c0, s7, s8, q, h => by cases h
  | n + 1, x0, x1c0, s7, s8, q, h => l46_0_step m n (l46_0_ok m n) x0 x1c0 s7 s8 q h

def p46 (m : Nat) (x0 : List ((List UInt8) × (List UInt8))) (x1c0 : List UInt8) : Option (Int × (List UInt8)) :=
  if (Option.isSome (l46_0 m (m + 24) x0 x1c0 ((((List.length x0) : Nat) : Int)) 0)) = true then
    if ((l46_0R m (m + 24) x0 x1c0 ((((List.length x0) : Nat) : Int)) 0).1 == 0) = true then
      some ((l46_0R m (m + 24) x0 x1c0 ((((List.length x0) : Nat) : Int)) 0).2, x1c0)
    else
      if ((l46_0R m (m + 24) x0 x1c0 ((((List.length x0) : Nat) : Int)) 0).1 == 1) = true then
        some ((-1), x1c0)
      else
        none
  else
    none
set_option maxHeartbeats 20000000 in
theorem p46_ok (m : Nat) (x0 : List ((List UInt8) × (List UInt8))) (x1c0 : List UInt8) (q : Int × (List UInt8)) (h : p46 m x0 x1c0 = some q) : ∃ r B1, (evCall F S14 (m + 25) 46 [(.d (.sl (.pair .str .str) x0)), (.fn 47 [(.ptr 0 0)])] [(.cells [(.d (.str x1c0))])]).run = some (r, B1) ∧ 1 ≤ B1.length ∧ wkR B1 [(.cells [(.d (.str q.2))])] r (.d (.int .i64 q.1)) ∧ wkBs B1 [(.cells [(.d (.str q.2))])] 0 [(.cells [(.d (.str q.2))])] := by
  unfold p46 at h
  refine ite_cases h (fun c0 h => ?_) (fun c0 h => ?_)
  · skip
    refine ite_cases h (fun c1 h => ?_) (fun c1 h => ?_)
    · skip
      cases h
      refine ⟨(.d (.int .i64 (l46_0R m (m + 24) x0 x1c0 ((((List.length x0) : Nat) : Int)) 0).2)), [(.cells [(.d (.str x1c0))])], runT_ok (LS := (fun k => if k = 387 then some (l46_0E x0 x1c0 (((((List.length x0) : Nat) : Int))) ((l46_0R m (m + 24) x0 x1c0 ((((List.length x0) : Nat) : Int)) 0).2) 0) else none)) (fn := fn46) (vis := [(387, l46_0H x0 x1c0 ((((List.length x0) : Nat) : Int)) 0, l46_0B x0 x1c0 ((((List.length x0) : Nat) : Int)) 0)]) (by kernel_rfl) rfl (by kernel_rfl) (M.run_of_path _ [] _ _ (by kernel_rfl) all_nil) ?_, by simp, (wkR.one (wkV.one (wk1.eq rfl))), ⟨wkBox.cells (wkL.cons (wk1.eq rfl) wkL.nil), trivial⟩⟩
      intro p hp p2 hq
      rcases List.mem_cons.1 hp with rfl | hp
      · skip
        have h3 := l46_0_ok m (m + 24) x0 x1c0 ((((List.length x0) : Nat) : Int)) 0 _ (some_getD (d := l46_0D) c0)
        rw [eq_of_beq c1] at h3
        exact Eq.trans (Eq.mp (by kernel_rfl) h3) hq
      cases hp
    · skip
      refine ite_cases h (fun c2 h => ?_) (fun c2 h => ?_)
      · skip
        cases h
        refine ⟨(.d (.int .i64 (-1))), [(.cells [(.d (.str x1c0))])], runT_ok (LS := (fun k => if k = 387 then some (l46_0E x0 x1c0 (((((List.length x0) : Nat) : Int))) ((l46_0R m (m + 24) x0 x1c0 ((((List.length x0) : Nat) : Int)) 0).2) 1) else none)) (fn := fn46) (vis := [(387, l46_0H x0 x1c0 ((((List.length x0) : Nat) : Int)) 0, l46_0B x0 x1c0 ((((List.length x0) : Nat) : Int)) 0)]) (by kernel_rfl) rfl (by kernel_rfl) (M.run_of_path _ [] _ _ (by kernel_rfl) all_nil) ?_, by simp, (wkR.one (wkV.one (wk1.eq rfl))), ⟨wkBox.cells (wkL.cons (wk1.eq rfl) wkL.nil), trivial⟩⟩
        intro p hp p2 hq
        rcases List.mem_cons.1 hp with rfl | hp
        · skip
          have h3 := l46_0_ok m (m + 24) x0 x1c0 ((((List.length x0) : Nat) : Int)) 0 _ (some_getD (d := l46_0D) c0)
          rw [eq_of_beq c2] at h3
          exact Eq.trans (Eq.mp (by kernel_rfl) h3) hq
        cases hp
      · skip
        cases h
  · skip
    cases h

/-- The first label behind a name. -/
def behFrom : LB → List UInt8 → Nat → Int
  | [], _, _ => -1
  | x :: l, v, k => if (Op.bytesLess x.1 v || x.1 == v) = true then behFrom l v (k + 1) else ((k : Nat) : Int)
def behG (l : LB) (v : List UInt8) : Int := behFrom l v 0
theorem beh_loop (m : Nat) (l : LB) (v : List UInt8) (hb : l.length ≤ 1000000) : ∀ (n k : Nat), k ≤ l.length → l.length - k < n → (∃ j : Nat, l46_0 m n l v (l.length : Nat) (k : Nat) = some (0, ((j : Nat) : Int)) ∧ behFrom (l.drop k) v k = ((j : Nat) : Int)) ∨ (∃ j, l46_0 m n l v (l.length : Nat) (k : Nat) = some (1, j) ∧ behFrom (l.drop k) v k = -1)
  | 0, k, _, h => by omega
  | n + 1, k, h1, h2 => by
    rw [l46_0]
    by_cases hk : k < l.length
    · have e1 : decide (((k : Nat) : Int) < (((List.length l) : Nat) : Int)) = true := decide_eq_true (by omega)
      have e2 : decide ((0 : Int) ≤ ((k : Nat) : Int)) = true := decide_eq_true (by omega)
      have e7 : IntKind.wrap .i64 (((k : Nat) : Int) + (1)) = ((k + 1 : Nat) : Int) := by rw [wrap_id (by omega) (by omega)]; rfl
      rw [drop_getD l k (([] : List UInt8), ([] : List UInt8)) hk, show Int.toNat ((k : Nat) : Int) = k from rfl, e7, if_pos e1, if_pos e2, if_pos e1, behFrom]
      by_cases hc : (Op.bytesLess (l.getD k (([] : List UInt8), ([] : List UInt8))).1 v || (l.getD k (([] : List UInt8), ([] : List UInt8))).1 == v) = true
      · rw [if_pos hc, if_pos hc]
        exact beh_loop m l v hb n (k + 1) (by omega) (by omega)
      · rw [if_neg hc, if_neg hc]
        exact .inl ⟨k, rfl, rfl⟩
    · have e1 : decide (((k : Nat) : Int) < (((List.length l) : Nat) : Int)) = false := decide_eq_false (by omega)
      rw [e1, if_neg (by simp), List.drop_eq_nil_of_le (by omega)]
      exact .inr ⟨_, rfl, rfl⟩
theorem beh46 (l : LB) (v : List UInt8) (h : decide (List.length l ≤ 1000000) = true) : ∃ m, p46 m l v = some (behG l v, v) := by
  have h := of_decide_eq_true h
  refine ⟨l.length, ?_⟩
  unfold p46 l46_0R behG
  rcases beh_loop l.length l v h (l.length + 24) 0 (by omega) (by omega) with ⟨j, h1, h2⟩ | ⟨j, h1, h2⟩
  · simp only [Int.natCast_zero, List.drop_zero] at h1 h2
    rw [h1, h2]
    simp
  · simp only [Int.natCast_zero, List.drop_zero] at h1 h2
    rw [h1, h2]
    simp
def s46 : List AV → Boxes → M (AV × Boxes) := normS [.val (.sl (.pair .str .str)), .ptr] [.str] fun xs B => match xs, B with
  | [(.d (.sl (.pair .str .str) c1)), (.fn 47 [(.ptr 0 0)])], [(.cells [(.d (.str c2))])] => .chk (decide (List.length c1 ≤ 1000000)) (.ret ((.d (.int .i64 (behG c1 c2))), [(.cells [(.d (.str c2))])]))
  | _, _ => .fail
theorem s46_at : CallAt Tryd.prog 46 s46 := by
  refine CallAt.norm (CallAt.weakE (g := fun n => evCall F S14 n 46) (fun n => evCall_atH mixed kinds hds S14 S14_ok n 46) fun xs B r' B' hr => ?_) _ _
  split at hr
  · rename_i c1 c2
    obtain ⟨hp, hr⟩ := (M.run_chk _ _ _).1 hr
    simp only [M.run, Option.some.injEq, Prod.mk.injEq] at hr
    obtain ⟨rfl, rfl⟩ := hr
    obtain ⟨m, hm⟩ := beh46 c1 c2 hp
    obtain ⟨r, B1, h1, h2, h3, h4⟩ := p46_ok m c1 c2 _ hm
    exact ⟨m + 25, r, B1, h1, by simp, h2, h3, h4⟩
  · simp [M.run] at hr
noncomputable def S15 : FuncId → Option (List AV → Boxes → M (AV × Boxes)) := fun f => if f = 46 then some s46 else S14 f
set_option maxHeartbeats 20000000 in
theorem S15_ok : ∀ f s, S15 f = some s → CallAt Tryd.prog f s := by
  intro f s h
  unfold S15 at h
  split at h
  · rename_i e; subst e; cases h; exact s46_at
  · exact S14_ok f s h

noncomputable def fn19 : AFn := (F 19).getD ⟨0, [], .bad, false, false, noHd⟩
noncomputable def body19 : AC := fn19.body
def p19 (m : Nat) (x0 : List ((List UInt8) × (List UInt8))) (x1 : List UInt8) (x2 : List UInt8) : Option ((List ((List UInt8) × (List UInt8)))) :=
  if keepPre x0 [x1] = true then
    if (x2 == ([] : List UInt8)) = true then
      some ((List.take (List.length (dropG x0 [x1])) (List.drop 0 (dropG x0 [x1]))))
    else
      if decide (List.length (List.take (List.length (dropG x0 [x1])) (List.drop 0 (dropG x0 [x1]))) ≤ 1000000) = true then
        if decide ((behG (List.take (List.length (dropG x0 [x1])) (List.drop 0 (dropG x0 [x1]))) x1) < 0) = true then
          if decide ((((List.length (dropG x0 [x1])) : Nat) : Int) < (((List.length (dropG x0 [x1])) : Nat) : Int)) = true then
            if ((decide (0 ≤ (((List.length (dropG x0 [x1])) : Nat) : Int)) && decide ((List.length (dropG x0 [x1])) = (List.length (dropG x0 [x1])))) && decide ((((List.length (dropG x0 [x1])) + 1) * 32) ≤ 70368744177664)) = true then
              if decide ((0 + ((List.length (dropG x0 [x1])) + 1)) ≤ (List.length ((List.take (Int.toNat (((List.length (dropG x0 [x1])) : Nat) : Int)) (dropG x0 [x1])) ++ ((x1, x2) :: (List.drop (Int.toNat (((List.length (dropG x0 [x1])) : Nat) : Int)) (dropG x0 [x1])))))) = true then
                some ((List.take ((List.length (dropG x0 [x1])) + 1) (List.drop 0 ((List.take (Int.toNat (((List.length (dropG x0 [x1])) : Nat) : Int)) (dropG x0 [x1])) ++ ((x1, x2) :: (List.drop (Int.toNat (((List.length (dropG x0 [x1])) : Nat) : Int)) (dropG x0 [x1])))))))
              else
                none
            else
              none
          else
            if (decide (0 ≤ (((List.length (dropG x0 [x1])) : Nat) : Int)) && decide ((((List.length (dropG x0 [x1])) : Nat) : Int) ≤ (((List.length (dropG x0 [x1])) : Nat) : Int))) = true then
              if (decide ((Int.toNat (((List.length (dropG x0 [x1])) : Nat) : Int)) < (List.length (dropG x0 [x1]))) || decide ((Int.toNat (((List.length (dropG x0 [x1])) : Nat) : Int)) = 0)) = true then
                if ((((List.length (dropG x0 [x1])) : Nat) : Int) == (((List.length (dropG x0 [x1])) : Nat) : Int)) = true then
                  if decide ((((List.length (dropG x0 [x1])) + 1) * 32) ≤ 70368744177664) = true then
                    if decide ((0 + ((List.length (dropG x0 [x1])) + 1)) ≤ (List.length ((dropG x0 [x1]) ++ [(x1, x2)]))) = true then
                      some ((List.take ((List.length (dropG x0 [x1])) + 1) (List.drop 0 ((dropG x0 [x1]) ++ [(x1, x2)]))))
                    else
                      none
                  else
                    none
                else
                  none
              else
                if ((((List.length (dropG x0 [x1])) : Nat) : Int) == (((List.length (dropG x0 [x1])) : Nat) : Int)) = true then
                  if decide ((((List.length (dropG x0 [x1])) + 1) * 32) ≤ 70368744177664) = true then
                    if decide ((0 + ((List.length (dropG x0 [x1])) + 1)) ≤ (List.length ((dropG x0 [x1]) ++ [(x1, x2)]))) = true then
                      some ((List.take ((List.length (dropG x0 [x1])) + 1) (List.drop 0 ((dropG x0 [x1]) ++ [(x1, x2)]))))
                    else
                      none
                  else
                    none
                else
                  none
            else
              none
        else
          if decide ((behG (List.take (List.length (dropG x0 [x1])) (List.drop 0 (dropG x0 [x1]))) x1) < (((List.length (dropG x0 [x1])) : Nat) : Int)) = true then
            if ((decide (0 ≤ (behG (List.take (List.length (dropG x0 [x1])) (List.drop 0 (dropG x0 [x1]))) x1)) && decide ((List.length (dropG x0 [x1])) = (List.length (dropG x0 [x1])))) && decide ((((List.length (dropG x0 [x1])) + 1) * 32) ≤ 70368744177664)) = true then
              if decide ((0 + ((List.length (dropG x0 [x1])) + 1)) ≤ (List.length ((List.take (Int.toNat (behG (List.take (List.length (dropG x0 [x1])) (List.drop 0 (dropG x0 [x1]))) x1)) (dropG x0 [x1])) ++ ((x1, x2) :: (List.drop (Int.toNat (behG (List.take (List.length (dropG x0 [x1])) (List.drop 0 (dropG x0 [x1]))) x1)) (dropG x0 [x1])))))) = true then
                some ((List.take ((List.length (dropG x0 [x1])) + 1) (List.drop 0 ((List.take (Int.toNat (behG (List.take (List.length (dropG x0 [x1])) (List.drop 0 (dropG x0 [x1]))) x1)) (dropG x0 [x1])) ++ ((x1, x2) :: (List.drop (Int.toNat (behG (List.take (List.length (dropG x0 [x1])) (List.drop 0 (dropG x0 [x1]))) x1)) (dropG x0 [x1])))))))
              else
                none
            else
              none
          else
            if (decide (0 ≤ (behG (List.take (List.length (dropG x0 [x1])) (List.drop 0 (dropG x0 [x1]))) x1)) && decide ((behG (List.take (List.length (dropG x0 [x1])) (List.drop 0 (dropG x0 [x1]))) x1) ≤ (((List.length (dropG x0 [x1])) : Nat) : Int))) = true then
              if (decide ((Int.toNat (behG (List.take (List.length (dropG x0 [x1])) (List.drop 0 (dropG x0 [x1]))) x1)) < (List.length (dropG x0 [x1]))) || decide ((Int.toNat (behG (List.take (List.length (dropG x0 [x1])) (List.drop 0 (dropG x0 [x1]))) x1)) = 0)) = true then
                if ((behG (List.take (List.length (dropG x0 [x1])) (List.drop 0 (dropG x0 [x1]))) x1) == (((List.length (dropG x0 [x1])) : Nat) : Int)) = true then
                  if decide ((((List.length (dropG x0 [x1])) + 1) * 32) ≤ 70368744177664) = true then
                    if decide ((0 + ((List.length (dropG x0 [x1])) + 1)) ≤ (List.length ((dropG x0 [x1]) ++ [(x1, x2)]))) = true then
                      some ((List.take ((List.length (dropG x0 [x1])) + 1) (List.drop 0 ((dropG x0 [x1]) ++ [(x1, x2)]))))
                    else
                      none
                  else
                    none
                else
                  none
              else
                if ((behG (List.take (List.length (dropG x0 [x1])) (List.drop 0 (dropG x0 [x1]))) x1) == (((List.length (dropG x0 [x1])) : Nat) : Int)) = true then
                  if decide ((((List.length (dropG x0 [x1])) + 1) * 32) ≤ 70368744177664) = true then
                    if decide ((0 + ((List.length (dropG x0 [x1])) + 1)) ≤ (List.length ((dropG x0 [x1]) ++ [(x1, x2)]))) = true then
                      some ((List.take ((List.length (dropG x0 [x1])) + 1) (List.drop 0 ((dropG x0 [x1]) ++ [(x1, x2)]))))
                    else
                      none
                  else
                    none
                else
                  none
            else
              none
      else
        none
  else
    none
set_option maxHeartbeats 20000000 in
theorem p19_ok (m : Nat) (x0 : List ((List UInt8) × (List UInt8))) (x1 : List UInt8) (x2 : List UInt8) (q : (List ((List UInt8) × (List UInt8)))) (h : p19 m x0 x1 x2 = some q) : ∃ r B1, (evCall F S15 (m + 25) 19 [(.d (.sl (.pair .str .str) x0)), (.d (.str x1)), (.d (.str x2))] []).run = some (r, B1) ∧ 0 ≤ B1.length ∧ wkR B1 [] r (.d (.sl (.pair .str .str) q)) ∧ wkBs B1 [] 0 [] := by
  unfold p19 at h
  refine ite_cases h (fun c1 h => ?_) (fun c1 h => ?_)
  · skip
    refine ite_cases h (fun c2 h => ?_) (fun c2 h => ?_)
    · skip
      cases h
      refine ⟨(.d (.sl (.pair .str .str) (List.take (List.length (dropG x0 [x1])) (List.drop 0 (dropG x0 [x1]))))), [], runT_ok (LS := (fun k => none)) (fn := fn19) (vis := []) (by kernel_rfl) rfl (by kernel_rfl) (M.run_of_path _ [true, true, true, true] _ _ (by kernel_rfl) (all_t rfl (all_t c1 (all_t c2 (all_t (show decide ((0 + (List.length (dropG x0 [x1]))) ≤ (List.length (dropG x0 [x1]))) = true from decide_eq_true (Nat.le_of_eq (Nat.zero_add _))) all_nil))))) ?_, by simp, (wkR.one (wkV.one (wk1.eq rfl))), trivial⟩
      intro p hp; cases hp
    · skip
      refine ite_cases h (fun c4 h => ?_) (fun c4 h => ?_)
      · skip
        refine ite_cases h (fun c5 h => ?_) (fun c5 h => ?_)
        · skip
          refine ite_cases h (fun c6 h => ?_) (fun c6 h => ?_)
          · skip
            refine ite_cases h (fun c7 h => ?_) (fun c7 h => ?_)
            · skip
              refine ite_cases h (fun c8 h => ?_) (fun c8 h => ?_)
              · skip
                cases h
                refine ⟨(.d (.sl (.pair .str .str) (List.take ((List.length (dropG x0 [x1])) + 1) (List.drop 0 ((List.take (Int.toNat (((List.length (dropG x0 [x1])) : Nat) : Int)) (dropG x0 [x1])) ++ ((x1, x2) :: (List.drop (Int.toNat (((List.length (dropG x0 [x1])) : Nat) : Int)) (dropG x0 [x1])))))))), [], runT_ok (LS := (fun k => none)) (fn := fn19) (vis := []) (by kernel_rfl) rfl (by kernel_rfl) (M.run_of_path _ [true, true, false, true, true, true, true, true, true] _ _ (by kernel_rfl) (all_t rfl (all_t c1 (all_f c2 (all_t (show decide ((0 + (List.length (dropG x0 [x1]))) ≤ (List.length (dropG x0 [x1]))) = true from decide_eq_true (Nat.le_of_eq (Nat.zero_add _))) (all_t c4 (all_t c5 (all_t c6 (all_t c7 (all_t c8 all_nil)))))))))) ?_, by simp, (wkR.one (wkV.one (wk1.eq rfl))), trivial⟩
                intro p hp; cases hp
              · skip
                cases h
            · skip
              cases h
          · skip
            refine ite_cases h (fun c7 h => ?_) (fun c7 h => ?_)
            · skip
              refine ite_cases h (fun c8 h => ?_) (fun c8 h => ?_)
              · skip
                refine ite_cases h (fun c10 h => ?_) (fun c10 h => ?_)
                · skip
                  refine ite_cases h (fun c12 h => ?_) (fun c12 h => ?_)
                  · skip
                    refine ite_cases h (fun c14 h => ?_) (fun c14 h => ?_)
                    · skip
                      cases h
                      refine ⟨(.d (.sl (.pair .str .str) (List.take ((List.length (dropG x0 [x1])) + 1) (List.drop 0 ((dropG x0 [x1]) ++ [(x1, x2)]))))), [], runT_ok (LS := (fun k => none)) (fn := fn19) (vis := []) (by kernel_rfl) rfl (by kernel_rfl) (M.run_of_path _ [true, true, false, true, true, true, false, true, true, false, true, true, true, true, true] _ _ (by kernel_rfl) (all_t rfl (all_t c1 (all_f c2 (all_t (show decide ((0 + (List.length (dropG x0 [x1]))) ≤ (List.length (dropG x0 [x1]))) = true from decide_eq_true (Nat.le_of_eq (Nat.zero_add _))) (all_t c4 (all_t c5 (all_f c6 (all_t c7 (all_t c8 (all_f Bool.false_ne_true (all_t c10 (all_t rfl (all_t c12 (all_t (show decide ((List.length (dropG x0 [x1])) = (List.length (dropG x0 [x1]))) = true from decide_eq_true rfl) (all_t c14 all_nil)))))))))))))))) ?_, by simp, (wkR.one (wkV.one (wk1.eq rfl))), trivial⟩
                      intro p hp; cases hp
                    · skip
                      cases h
                  · skip
                    cases h
                · skip
                  cases h
              · skip
                refine ite_cases h (fun c10 h => ?_) (fun c10 h => ?_)
                · skip
                  refine ite_cases h (fun c12 h => ?_) (fun c12 h => ?_)
                  · skip
                    refine ite_cases h (fun c14 h => ?_) (fun c14 h => ?_)
                    · skip
                      cases h
                      refine ⟨(.d (.sl (.pair .str .str) (List.take ((List.length (dropG x0 [x1])) + 1) (List.drop 0 ((dropG x0 [x1]) ++ [(x1, x2)]))))), [], runT_ok (LS := (fun k => none)) (fn := fn19) (vis := []) (by kernel_rfl) rfl (by kernel_rfl) (M.run_of_path _ [true, true, false, true, true, true, false, true, false, false, true, true, true, true, true] _ _ (by kernel_rfl) (all_t rfl (all_t c1 (all_f c2 (all_t (show decide ((0 + (List.length (dropG x0 [x1]))) ≤ (List.length (dropG x0 [x1]))) = true from decide_eq_true (Nat.le_of_eq (Nat.zero_add _))) (all_t c4 (all_t c5 (all_f c6 (all_t c7 (all_f c8 (all_f Bool.false_ne_true (all_t c10 (all_t rfl (all_t c12 (all_t (show decide ((List.length (dropG x0 [x1])) = (List.length (dropG x0 [x1]))) = true from decide_eq_true rfl) (all_t c14 all_nil)))))))))))))))) ?_, by simp, (wkR.one (wkV.one (wk1.eq rfl))), trivial⟩
                      intro p hp; cases hp
                    · skip
                      cases h
                  · skip
                    cases h
                · skip
                  cases h
            · skip
              cases h
        · skip
          refine ite_cases h (fun c6 h => ?_) (fun c6 h => ?_)
          · skip
            refine ite_cases h (fun c7 h => ?_) (fun c7 h => ?_)
            · skip
              refine ite_cases h (fun c8 h => ?_) (fun c8 h => ?_)
              · skip
                cases h
                refine ⟨(.d (.sl (.pair .str .str) (List.take ((List.length (dropG x0 [x1])) + 1) (List.drop 0 ((List.take (Int.toNat (behG (List.take (List.length (dropG x0 [x1])) (List.drop 0 (dropG x0 [x1]))) x1)) (dropG x0 [x1])) ++ ((x1, x2) :: (List.drop (Int.toNat (behG (List.take (List.length (dropG x0 [x1])) (List.drop 0 (dropG x0 [x1]))) x1)) (dropG x0 [x1])))))))), [], runT_ok (LS := (fun k => none)) (fn := fn19) (vis := []) (by kernel_rfl) rfl (by kernel_rfl) (M.run_of_path _ [true, true, false, true, true, false, true, true, true] _ _ (by kernel_rfl) (all_t rfl (all_t c1 (all_f c2 (all_t (show decide ((0 + (List.length (dropG x0 [x1]))) ≤ (List.length (dropG x0 [x1]))) = true from decide_eq_true (Nat.le_of_eq (Nat.zero_add _))) (all_t c4 (all_f c5 (all_t c6 (all_t c7 (all_t c8 all_nil)))))))))) ?_, by simp, (wkR.one (wkV.one (wk1.eq rfl))), trivial⟩
                intro p hp; cases hp
              · skip
                cases h
            · skip
              cases h
          · skip
            refine ite_cases h (fun c7 h => ?_) (fun c7 h => ?_)
            · skip
              refine ite_cases h (fun c8 h => ?_) (fun c8 h => ?_)
              · skip
                refine ite_cases h (fun c10 h => ?_) (fun c10 h => ?_)
                · skip
                  refine ite_cases h (fun c12 h => ?_) (fun c12 h => ?_)
                  · skip
                    refine ite_cases h (fun c14 h => ?_) (fun c14 h => ?_)
                    · skip
                      cases h
                      refine ⟨(.d (.sl (.pair .str .str) (List.take ((List.length (dropG x0 [x1])) + 1) (List.drop 0 ((dropG x0 [x1]) ++ [(x1, x2)]))))), [], runT_ok (LS := (fun k => none)) (fn := fn19) (vis := []) (by kernel_rfl) rfl (by kernel_rfl) (M.run_of_path _ [true, true, false, true, true, false, false, true, true, false, true, true, true, true, true] _ _ (by kernel_rfl) (all_t rfl (all_t c1 (all_f c2 (all_t (show decide ((0 + (List.length (dropG x0 [x1]))) ≤ (List.length (dropG x0 [x1]))) = true from decide_eq_true (Nat.le_of_eq (Nat.zero_add _))) (all_t c4 (all_f c5 (all_f c6 (all_t c7 (all_t c8 (all_f Bool.false_ne_true (all_t c10 (all_t rfl (all_t c12 (all_t (show decide ((List.length (dropG x0 [x1])) = (List.length (dropG x0 [x1]))) = true from decide_eq_true rfl) (all_t c14 all_nil)))))))))))))))) ?_, by simp, (wkR.one (wkV.one (wk1.eq rfl))), trivial⟩
                      intro p hp; cases hp
                    · skip
                      cases h
                  · skip
                    cases h
                · skip
                  cases h
              · skip
                refine ite_cases h (fun c10 h => ?_) (fun c10 h => ?_)
                · skip
                  refine ite_cases h (fun c12 h => ?_) (fun c12 h => ?_)
                  · skip
                    refine ite_cases h (fun c14 h => ?_) (fun c14 h => ?_)
                    · skip
                      cases h
                      refine ⟨(.d (.sl (.pair .str .str) (List.take ((List.length (dropG x0 [x1])) + 1) (List.drop 0 ((dropG x0 [x1]) ++ [(x1, x2)]))))), [], runT_ok (LS := (fun k => none)) (fn := fn19) (vis := []) (by kernel_rfl) rfl (by kernel_rfl) (M.run_of_path _ [true, true, false, true, true, false, false, true, false, false, true, true, true, true, true] _ _ (by kernel_rfl) (all_t rfl (all_t c1 (all_f c2 (all_t (show decide ((0 + (List.length (dropG x0 [x1]))) ≤ (List.length (dropG x0 [x1]))) = true from decide_eq_true (Nat.le_of_eq (Nat.zero_add _))) (all_t c4 (all_f c5 (all_f c6 (all_t c7 (all_f c8 (all_f Bool.false_ne_true (all_t c10 (all_t rfl (all_t c12 (all_t (show decide ((List.length (dropG x0 [x1])) = (List.length (dropG x0 [x1]))) = true from decide_eq_true rfl) (all_t c14 all_nil)))))))))))))))) ?_, by simp, (wkR.one (wkV.one (wk1.eq rfl))), trivial⟩
                      intro p hp; cases hp
                    · skip
                      cases h
                  · skip
                    cases h
                · skip
                  cases h
            · skip
              cases h
      · skip
        cases h
  · skip
    cases h

def insAt : LB → (List UInt8) × (List UInt8) → LB
  | [], x => [x]
  | y :: o, x => if (Op.bytesLess y.1 x.1 || y.1 == x.1) = true then y :: insAt o x else x :: y :: o
/-- With a label in the place of all of its name. -/
def withG (l : LB) (n v : List UInt8) : LB := if v = [] then dropG l [n] else insAt (dropG l [n]) (n, v)
theorem beh_spec : ∀ (o : LB) (n : List UInt8) (k : Nat), (behFrom o n k = -1 ∧ ∀ v, insAt o (n, v) = o ++ [(n, v)]) ∨ (∃ j, j < o.length ∧ behFrom o n k = ((k + j : Nat) : Int) ∧ ∀ v, insAt o (n, v) = o.take j ++ (n, v) :: o.drop j)
  | [], n, k => .inl ⟨rfl, fun v => rfl⟩
  | y :: o, n, k => by
    by_cases hc : (Op.bytesLess y.1 n || y.1 == n) = true
    · have e1 : behFrom (y :: o) n k = behFrom o n (k + 1) := by rw [behFrom, if_pos hc]
      have e2 : ∀ v, insAt (y :: o) (n, v) = y :: insAt o (n, v) := fun v => by rw [insAt, if_pos hc]
      rcases beh_spec o n (k + 1) with ⟨h1, h2⟩ | ⟨j, h1, h2, h3⟩
      · exact .inl ⟨by rw [e1, h1], fun v => by rw [e2, h2]; rfl⟩
      · exact .inr ⟨j + 1, by simp; omega, by rw [e1, h2]; congr 1; omega, fun v => by rw [e2, h3]; rfl⟩
    · exact .inr ⟨0, by simp, by rw [behFrom, if_neg hc]; rfl, fun v => by rw [insAt, if_neg hc]; rfl⟩
theorem drop_len (l : LB) (ns : List (List UInt8)) : (dropG l ns).length ≤ l.length := List.length_filter_le _ _
theorem with19 (l : LB) (nm v : List UInt8) (h : decide (l.length ≤ 1000000) = true) : ∃ m, p19 m l nm v = some (withG l nm v) := by
  have h := of_decide_eq_true h
  refine ⟨0, ?_⟩
  have hp : keepPre l [nm] = true := decide_eq_true ⟨h, by simp⟩
  have hl := drop_len l [nm]
  unfold p19 withG
  generalize dropG l [nm] = o at *
  have t0 : List.take (List.length o) (List.drop 0 o) = o := by rw [List.drop_zero, List.take_length]
  have t1 : decide (List.length o ≤ 1000000) = true := decide_eq_true (by omega)
  rw [if_pos hp, t0]
  by_cases hv : v = []
  · rw [if_pos (by rw [hv]; rfl), if_pos hv]
  · rw [if_neg (by rw [beq_iff_eq]; exact hv), if_neg hv, if_pos t1]
    have f1 : decide ((((List.length o) : Nat) : Int) < (((List.length o) : Nat) : Int)) = false := decide_eq_false (by omega)
    have f2 : (decide (0 ≤ (((List.length o) : Nat) : Int)) && decide ((((List.length o) : Nat) : Int) ≤ (((List.length o) : Nat) : Int))) = true := by simp
    have f3 : ((((List.length o) : Nat) : Int) == (((List.length o) : Nat) : Int)) = true := beq_self_eq_true _
    have f4 : decide ((((List.length o) + 1) * 32) ≤ 70368744177664) = true := decide_eq_true (by omega)
    have f5 : decide ((0 + ((List.length o) + 1)) ≤ (List.length (o ++ [(nm, v)]))) = true := decide_eq_true (by simp)
    have f6 : List.take ((List.length o) + 1) (List.drop 0 (o ++ [(nm, v)])) = o ++ [(nm, v)] := by
      rw [List.drop_zero, List.take_of_length_le (by simp)]
    rcases beh_spec o nm 0 with ⟨h1, h2⟩ | ⟨j, h1, h2, h3⟩
    · rw [h2, show behG o nm = -1 from h1, if_pos (by decide)]
      simp only [f1, f2, f3, f4, f5, f6, Bool.false_eq_true, ↓reduceIte]
      split <;> rfl
    · rw [Nat.zero_add] at h2
      rw [h3, show behG o nm = ((j : Nat) : Int) from h2]
      have g1 : decide (((j : Nat) : Int) < 0) = false := decide_eq_false (by omega)
      have g2 : decide (((j : Nat) : Int) < (((List.length o) : Nat) : Int)) = true := decide_eq_true (by omega)
      have g3 : ((decide (0 ≤ ((j : Nat) : Int)) && decide ((List.length o) = (List.length o))) && decide ((((List.length o) + 1) * 32) ≤ 70368744177664)) = true := by rw [f4, decide_eq_true (show (0 : Int) ≤ ((j : Nat) : Int) by omega)]; simp
      have g4 : (List.take j o ++ (nm, v) :: List.drop j o).length = o.length + 1 := by rw [List.length_append, List.length_cons, List.length_take, List.length_drop]; omega
      have g5 : decide ((0 + ((List.length o) + 1)) ≤ (List.length (List.take j o ++ (nm, v) :: List.drop j o))) = true := decide_eq_true (by rw [g4]; omega)
      have g6 : List.take ((List.length o) + 1) (List.drop 0 (List.take j o ++ (nm, v) :: List.drop j o)) = List.take j o ++ (nm, v) :: List.drop j o := by
        rw [List.drop_zero, List.take_of_length_le (by rw [g4]; omega)]
      simp only [show Int.toNat ((j : Nat) : Int) = j from rfl, g1, g2, g5, g6, Bool.false_eq_true, ↓reduceIte]
      rw [if_pos (by simpa using g3)]
def s19 : List AV → Boxes → M (AV × Boxes) := normS [.val (.sl (.pair .str .str)), .val .str, .val .str] [] fun xs B => match xs, B with
  | [(.d (.sl (.pair .str .str) c1)), (.d (.str c2)), (.d (.str c3))], [] => .chk (decide (List.length c1 ≤ 1000000)) (.ret ((.d (.sl (.pair .str .str) (withG c1 c2 c3))), []))
  | _, _ => .fail
theorem s19_at : CallAt Tryd.prog 19 s19 := by
  refine CallAt.norm (CallAt.weakE (g := fun n => evCall F S15 n 19) (fun n => evCall_atH mixed kinds hds S15 S15_ok n 19) fun xs B r' B' hr => ?_) _ _
  split at hr
  · rename_i c1 c2 c3
    obtain ⟨hp, hr⟩ := (M.run_chk _ _ _).1 hr
    simp only [M.run, Option.some.injEq, Prod.mk.injEq] at hr
    obtain ⟨rfl, rfl⟩ := hr
    obtain ⟨m, hm⟩ := with19 c1 c2 c3 hp
    obtain ⟨r, B1, h1, h2, h3, h4⟩ := p19_ok m c1 c2 c3 _ hm
    exact ⟨m + 25, r, B1, h1, by simp, h2, h3, h4⟩
  · simp [M.run] at hr
noncomputable def S16 : FuncId → Option (List AV → Boxes → M (AV × Boxes)) := fun f => if f = 19 then some s19 else S15 f
set_option maxHeartbeats 20000000 in
theorem S16_ok : ∀ f s, S16 f = some s → CallAt Tryd.prog f s := by
  intro f s h
  unfold S16 at h
  split at h
  · rename_i e; subst e; cases h; exact s19_at
  · exact S15_ok f s h

end Go.Proofs.YtcdpgldecikejaaDoor.Dec
namespace Go.Proofs.YtcdpgldecikejaaDoor.Dec
open Go.Ev
set_option linter.unusedVariables false
set_option linter.unusedSimpArgs false
set_option maxRecDepth 100000
theorem valG_in (l : List Int) (i : Int) : valG l i ∈ valuesG := by
  unfold valG
  refine getD_mem valuesG _ _ ?_
  have : 0 ≤ withinI (pickG l i) (0) (7) ∧ withinI (pickG l i) (0) (7) < 8 := by unfold withinI; omega
  show _ < 8
  omega
theorem val_len {v : List UInt8} (h : v ∈ valuesG) : 1 ≤ v.length ∧ v.length ≤ 3 := by
  have : ∀ v ∈ valuesG, 1 ≤ v.length ∧ v.length ≤ 3 := by decide
  exact this v h
def set4 (h0 h1 h2 h3 : Bool) (v0 v1 v2 v3 : List UInt8) : LB := (if h0 then [(([97] : List UInt8), v0)] else []) ++ (if h1 then [(([98] : List UInt8), v1)] else []) ++ (if h2 then [(([99] : List UInt8), v2)] else []) ++ (if h3 then [(([110, 97, 109, 101] : List UInt8), v3)] else [])
theorem setG_of (k : List Int × List Int) : ∃ h0 h1 h2 v0 v1 v2, setG k = set4 h0 h1 h2 false v0 v1 v2 [120] ∧ v0 ∈ valuesG ∧ v1 ∈ valuesG ∧ v2 ∈ valuesG := by
  refine ⟨bit1 k.1 0 0, bit1 k.1 1 1, bit1 k.1 2 2, valG k.2 0, valG k.2 1, valG k.2 2, ?_, valG_in .., valG_in .., valG_in ..⟩
  unfold setG set4
  simp
theorem set4_len (h0 h1 h2 h3 : Bool) (v0 v1 v2 v3 : List UInt8) : (set4 h0 h1 h2 h3 v0 v1 v2 v3).length ≤ 4 := by
  cases h0 <;> cases h1 <;> cases h2 <;> cases h3 <;> simp [set4]

end Go.Proofs.YtcdpgldecikejaaDoor.Dec
namespace Go.Proofs.YtcdpgldecikejaaDoor.Dec
open Go.Ev
set_option linter.unusedVariables false
set_option linter.unusedSimpArgs false
set_option maxRecDepth 100000
theorem escB_sp {c : UInt8} (h : UInt8.toNat c = 34 ∨ UInt8.toNat c = 92) : escB c = [92, c] := if_pos h
theorem escB_no {c : UInt8} (h : ¬ (UInt8.toNat c = 34 ∨ UInt8.toNat c = 92)) : escB c = [c] := if_neg h
/-- An escaped text is read in one way. -/
theorem esc_inj : ∀ (v v' r r' : List UInt8), v.flatMap escB ++ 34 :: r = v'.flatMap escB ++ 34 :: r' → v = v' ∧ r = r'
  | [], [], r, r', h => ⟨rfl, (List.cons.inj h).2⟩
  | [], c :: t, r, r', h => by
    exfalso
    rw [List.flatMap_cons, List.append_assoc] at h
    by_cases hc : UInt8.toNat c = 34 ∨ UInt8.toNat c = 92
    · rw [escB_sp hc] at h
      have := (List.cons.inj h).1
      revert this; decide
    · rw [escB_no hc] at h
      have := (List.cons.inj h).1
      exact hc (.inl (by rw [← this]; rfl))
  | c :: t, [], r, r', h => by
    exfalso
    rw [List.flatMap_cons, List.append_assoc] at h
    by_cases hc : UInt8.toNat c = 34 ∨ UInt8.toNat c = 92
    · rw [escB_sp hc] at h
      have := (List.cons.inj h).1
      revert this; decide
    · rw [escB_no hc] at h
      have := (List.cons.inj h).1
      exact hc (.inl (by rw [this]; rfl))
  | c :: t, c' :: t', r, r', h => by
    rw [List.flatMap_cons, List.flatMap_cons, List.append_assoc, List.append_assoc] at h
    by_cases hc : UInt8.toNat c = 34 ∨ UInt8.toNat c = 92
    · by_cases hc' : UInt8.toNat c' = 34 ∨ UInt8.toNat c' = 92
      · rw [escB_sp hc, escB_sp hc'] at h
        obtain ⟨e, h⟩ := List.cons.inj (List.cons.inj h).2
        obtain ⟨e1, e2⟩ := esc_inj t t' r r' h
        exact ⟨by rw [e, e1], e2⟩
      · rw [escB_sp hc, escB_no hc'] at h
        have := (List.cons.inj h).1
        exact absurd (.inr (by rw [← this]; rfl)) hc'
    · by_cases hc' : UInt8.toNat c' = 34 ∨ UInt8.toNat c' = 92
      · rw [escB_no hc, escB_sp hc'] at h
        have := (List.cons.inj h).1
        exact absurd (.inr (by rw [this]; rfl)) hc
      · rw [escB_no hc, escB_no hc'] at h
        obtain ⟨e, h⟩ := List.cons.inj h
        obtain ⟨e1, e2⟩ := esc_inj t t' r r' h
        exact ⟨by rw [e, e1], e2⟩
theorem quote_app (v r : List UInt8) : quoteG v ++ r = 34 :: (v.flatMap escB ++ 34 :: r) := by unfold quoteG; simp
theorem quote_inj {v v' r r' : List UInt8} (h : quoteG v ++ r = quoteG v' ++ r') : v = v' ∧ r = r' := by
  rw [quote_app, quote_app] at h
  exact esc_inj v v' r r' (List.cons.inj h).2
/-- A name ends where a byte stands that is none of a name's. -/
theorem name_inj : ∀ (n n' : List UInt8) {c c' : UInt8} {r r' : List UInt8}, n.all innerB = true → n'.all innerB = true → innerB c = false → innerB c' = false → n ++ c :: r = n' ++ c' :: r' → n = n' ∧ c :: r = c' :: r'
  | [], [], c, c', r, r', _, _, _, _, h => ⟨rfl, h⟩
  | [], b :: n', c, c', r, r', _, h2, h3, _, h => by
    have := (List.cons.inj h).1
    rw [List.all_cons, Bool.and_eq_true] at h2
    rw [this, h2.1] at h3; cases h3
  | a :: n, [], c, c', r, r', h1, _, _, h4, h => by
    have := (List.cons.inj h).1
    rw [List.all_cons, Bool.and_eq_true] at h1
    rw [← this, h1.1] at h4; cases h4
  | a :: n, b :: n', c, c', r, r', h1, h2, h3, h4, h => by
    rw [List.all_cons, Bool.and_eq_true] at h1 h2
    obtain ⟨e, h⟩ := List.cons.inj h
    obtain ⟨e1, e2⟩ := name_inj n n' h1.2 h2.2 h3 h4 h
    exact ⟨by rw [e, e1], e2⟩
theorem word_inner {n : List UInt8} (h : wordG n = true) : n.all innerB = true ∧ ∃ a t, n = a :: t ∧ innerB a = true := by
  unfold wordG at h
  simp only [Bool.and_eq_true, decide_eq_true_eq] at h
  refine ⟨h.2, ?_⟩
  cases n with
  | nil => simp at h
  | cons a t => rw [List.all_cons, Bool.and_eq_true] at h; exact ⟨a, t, rfl, h.2.1⟩
/-- Joined parts, up to the end. -/
def tailJ {α : Type} (it : α → List UInt8) (xs : List α) (r : List UInt8) : List UInt8 := Lib.join (xs.map it) [44] ++ 125 :: r
theorem tailJ_one {α : Type} (it : α → List UInt8) (a : α) (r : List UInt8) : tailJ it [a] r = it a ++ 125 :: r := by
  unfold tailJ Lib.join; simp [List.intercalate]
theorem tailJ_two {α : Type} (it : α → List UInt8) (a b : α) (l : List α) (r : List UInt8) : tailJ it (a :: b :: l) r = it a ++ 44 :: tailJ it (b :: l) r := by
  unfold tailJ Lib.join; simp [List.intercalate]
theorem tailJ_nil {α : Type} (it : α → List UInt8) (r : List UInt8) : tailJ it [] r = 125 :: r := rfl
theorem join_inj {α : Type} (it : α → List UInt8) (ok : α → Prop) (pf : ∀ x y r r', ok x → ok y → it x ++ r = it y ++ r' → x = y ∧ r = r') (hd : ∀ x, ok x → ∃ a t, it x = a :: t ∧ innerB a = true) :
    ∀ (xs ys : List α) (r r' : List UInt8), (∀ x ∈ xs, ok x) → (∀ y ∈ ys, ok y) → tailJ it xs r = tailJ it ys r' → xs = ys ∧ r = r'
  | [], [], r, r', _, _, h => ⟨rfl, (List.cons.inj h).2⟩
  | [], y :: ys, r, r', _, h2, h => by
    exfalso
    obtain ⟨a, t, e, ha⟩ := hd y (h2 y (List.mem_cons_self ..))
    have : ∃ q, tailJ it (y :: ys) r' = a :: q := by
      cases ys with
      | nil => exact ⟨_, by rw [tailJ_one, e]; rfl⟩
      | cons b l => exact ⟨_, by rw [tailJ_two, e]; rfl⟩
    obtain ⟨q, hq⟩ := this
    rw [tailJ_nil, hq] at h
    rw [← (List.cons.inj h).1] at ha
    revert ha; decide
  | x :: xs, [], r, r', h1, _, h => by
    exfalso
    obtain ⟨a, t, e, ha⟩ := hd x (h1 x (List.mem_cons_self ..))
    have : ∃ q, tailJ it (x :: xs) r = a :: q := by
      cases xs with
      | nil => exact ⟨_, by rw [tailJ_one, e]; rfl⟩
      | cons b l => exact ⟨_, by rw [tailJ_two, e]; rfl⟩
    obtain ⟨q, hq⟩ := this
    rw [tailJ_nil, hq] at h
    rw [(List.cons.inj h).1] at ha
    revert ha; decide
  | [x], [y], r, r', h1, h2, h => by
    rw [tailJ_one, tailJ_one] at h
    obtain ⟨e1, e2⟩ := pf _ _ _ _ (h1 x (List.mem_cons_self ..)) (h2 y (List.mem_cons_self ..)) h
    exact ⟨by rw [e1], (List.cons.inj e2).2⟩
  | [x], y :: b :: ys, r, r', h1, h2, h => by
    rw [tailJ_one, tailJ_two] at h
    obtain ⟨e1, e2⟩ := pf _ _ _ _ (h1 x (List.mem_cons_self ..)) (h2 y (List.mem_cons_self ..)) h
    have := (List.cons.inj e2).1
    exfalso; revert this; decide
  | x :: b :: xs, [y], r, r', h1, h2, h => by
    rw [tailJ_one, tailJ_two] at h
    obtain ⟨e1, e2⟩ := pf _ _ _ _ (h1 x (List.mem_cons_self ..)) (h2 y (List.mem_cons_self ..)) h
    have := (List.cons.inj e2).1
    exfalso; revert this; decide
  | x :: b :: xs, y :: b' :: ys, r, r', h1, h2, h => by
    rw [tailJ_two, tailJ_two] at h
    obtain ⟨e1, e2⟩ := pf _ _ _ _ (h1 x (List.mem_cons_self ..)) (h2 y (List.mem_cons_self ..)) h
    obtain ⟨e3, e4⟩ := join_inj it ok pf hd (b :: xs) (b' :: ys) r r' (fun z hz => h1 z (List.mem_cons_of_mem _ hz)) (fun z hz => h2 z (List.mem_cons_of_mem _ hz)) (List.cons.inj e2).2
    exact ⟨by rw [e1, e3], e4⟩

end Go.Proofs.YtcdpgldecikejaaDoor.Dec
namespace Go.Proofs.YtcdpgldecikejaaDoor.Dec
open Go.Ev
set_option linter.unusedVariables false
set_option linter.unusedSimpArgs false
set_option maxRecDepth 100000
noncomputable def fn31 : AFn := (F 31).getD ⟨0, [], .bad, false, false, noHd⟩
noncomputable def body31 : AC := fn31.body
def l31_0 (m : Nat) : Nat → List ((List UInt8) × (List UInt8)) → List ((List UInt8) × (List UInt8) × Int) → Int → Int → Option (Nat × Int)
  | 0, _, _, _, _ => none
  | n + 1, x0, x1, s8, s9 => if decide (s9 < s8) = true then
      if decide (0 ≤ s9) = true then
        if decide (s9 < (((List.length x1) : Nat) : Int)) = true then
          if decide (List.length x0 ≤ 1000000) = true then
            if ((List.getD x1 (Int.toNat s9) (([] : List UInt8), (([] : List UInt8), 0))).2.2 == (1)) = true then
              if ((getG x0 (List.getD x1 (Int.toNat s9) (([] : List UInt8), (([] : List UInt8), 0))).1) == (List.getD x1 (Int.toNat s9) (([] : List UInt8), (([] : List UInt8), 0))).2.1) = true then
                l31_0 m n x0 x1 s8 ((IntKind.wrap .i64 (s9 + (1))))
              else
                some (0, s9)
            else
              if ((List.getD x1 (Int.toNat s9) (([] : List UInt8), (([] : List UInt8), 0))).2.2 == (2)) = true then
                if ((getG x0 (List.getD x1 (Int.toNat s9) (([] : List UInt8), (([] : List UInt8), 0))).1) == (List.getD x1 (Int.toNat s9) (([] : List UInt8), (([] : List UInt8), 0))).2.1) = true then
                  some (1, s9)
                else
                  l31_0 m n x0 x1 s8 ((IntKind.wrap .i64 (s9 + (1))))
              else
                if ((List.getD x1 (Int.toNat s9) (([] : List UInt8), (([] : List UInt8), 0))).2.2 == (3)) = true then
                  if decide ((((List.length (getG x0 (List.getD x1 (Int.toNat s9) (([] : List UInt8), (([] : List UInt8), 0))).1)) : Nat) : Int) ≥ (((List.length (List.getD x1 (Int.toNat s9) (([] : List UInt8), (([] : List UInt8), 0))).2.1) : Nat) : Int)) = true then
                    if (decide (0 ≤ (((List.length (List.getD x1 (Int.toNat s9) (([] : List UInt8), (([] : List UInt8), 0))).2.1) : Nat) : Int)) && decide ((((List.length (List.getD x1 (Int.toNat s9) (([] : List UInt8), (([] : List UInt8), 0))).2.1) : Nat) : Int) ≤ (((List.length (getG x0 (List.getD x1 (Int.toNat s9) (([] : List UInt8), (([] : List UInt8), 0))).1)) : Nat) : Int))) = true then
                      if ((List.drop 0 (List.take (Int.toNat (((List.length (List.getD x1 (Int.toNat s9) (([] : List UInt8), (([] : List UInt8), 0))).2.1) : Nat) : Int)) (getG x0 (List.getD x1 (Int.toNat s9) (([] : List UInt8), (([] : List UInt8), 0))).1))) == (List.getD x1 (Int.toNat s9) (([] : List UInt8), (([] : List UInt8), 0))).2.1) = true then
                        l31_0 m n x0 x1 s8 ((IntKind.wrap .i64 (s9 + (1))))
                      else
                        some (2, s9)
                    else
                      none
                  else
                    some (3, s9)
                else
                  if ((List.getD x1 (Int.toNat s9) (([] : List UInt8), (([] : List UInt8), 0))).2.2 == (4)) = true then
                    if decide ((((List.length (getG x0 (List.getD x1 (Int.toNat s9) (([] : List UInt8), (([] : List UInt8), 0))).1)) : Nat) : Int) ≥ (((List.length (List.getD x1 (Int.toNat s9) (([] : List UInt8), (([] : List UInt8), 0))).2.1) : Nat) : Int)) = true then
                      if (decide (0 ≤ (((List.length (List.getD x1 (Int.toNat s9) (([] : List UInt8), (([] : List UInt8), 0))).2.1) : Nat) : Int)) && decide ((((List.length (List.getD x1 (Int.toNat s9) (([] : List UInt8), (([] : List UInt8), 0))).2.1) : Nat) : Int) ≤ (((List.length (getG x0 (List.getD x1 (Int.toNat s9) (([] : List UInt8), (([] : List UInt8), 0))).1)) : Nat) : Int))) = true then
                        if ((List.drop 0 (List.take (Int.toNat (((List.length (List.getD x1 (Int.toNat s9) (([] : List UInt8), (([] : List UInt8), 0))).2.1) : Nat) : Int)) (getG x0 (List.getD x1 (Int.toNat s9) (([] : List UInt8), (([] : List UInt8), 0))).1))) == (List.getD x1 (Int.toNat s9) (([] : List UInt8), (([] : List UInt8), 0))).2.1) = true then
                          some (4, s9)
                        else
                          l31_0 m n x0 x1 s8 ((IntKind.wrap .i64 (s9 + (1))))
                      else
                        none
                    else
                      l31_0 m n x0 x1 s8 ((IntKind.wrap .i64 (s9 + (1))))
                  else
                    some (5, s9)
          else
            none
        else
          none
      else
        none
    else
      some (6, s9)
def l31_0D : Nat × Int := (0, 0)
@[reducible] def l31_0R (m n : Nat) (x0 : List ((List UInt8) × (List UInt8))) (x1 : List ((List UInt8) × (List UInt8) × Int)) (s8 : Int) (s9 : Int) : Nat × Int := Option.getD (l31_0 m n x0 x1 s8 s9) l31_0D
def l31_0H (x0 : List ((List UInt8) × (List UInt8))) (x1 : List ((List UInt8) × (List UInt8) × Int)) (s8 : Int) (s9 : Int) : Env := [(.d (.sl (.pair .str .str) x0)), .top, .top, .top, .top, .top, .top, (.d (.sl (.pair .str (.pair .str (.int .i64))) x1)), (.d (.int .i64 s8)), (.d (.int .i64 s9)), .top, .top, .top, .top, .top, .top, .top, .top]
def l31_0B (x0 : List ((List UInt8) × (List UInt8))) (x1 : List ((List UInt8) × (List UInt8) × Int)) (s8 : Int) (s9 : Int) : Boxes := []
def l31_0E (x0 : List ((List UInt8) × (List UInt8))) (x1 : List ((List UInt8) × (List UInt8) × Int)) (s8 : Int) (s9 : Int) : Nat → AEx × Env × Boxes
  | 0 => (.ret, [(.d (.sl (.pair .str .str) x0)), .top, .top, .top, (.d (.bool false)), .top, (.ptr 0 0), (.d (.sl (.pair .str (.pair .str (.int .i64))) x1)), (.d (.int .i64 s8)), (.d (.int .i64 s9)), (.d (.bool (decide (s9 < s8)))), (.cptr [(.str (List.getD x1 (Int.toNat s9) (([] : List UInt8), (([] : List UInt8), 0))).1), (.str (List.getD x1 (Int.toNat s9) (([] : List UInt8), (([] : List UInt8), 0))).2.1), (.int .i64 (List.getD x1 (Int.toNat s9) (([] : List UInt8), (([] : List UInt8), 0))).2.2)] 0), (.agg [(.d (.str (List.getD x1 (Int.toNat s9) (([] : List UInt8), (([] : List UInt8), 0))).1)), (.d (.str (List.getD x1 (Int.toNat s9) (([] : List UInt8), (([] : List UInt8), 0))).2.1)), (.d (.int .i64 (List.getD x1 (Int.toNat s9) (([] : List UInt8), (([] : List UInt8), 0))).2.2))]), (.d (.sl (.pair .str .str) x0)), (.agg [(.d (.str (List.getD x1 (Int.toNat s9) (([] : List UInt8), (([] : List UInt8), 0))).1)), (.d (.str (List.getD x1 (Int.toNat s9) (([] : List UInt8), (([] : List UInt8), 0))).2.1)), (.d (.int .i64 (List.getD x1 (Int.toNat s9) (([] : List UInt8), (([] : List UInt8), 0))).2.2))]), (.d (.bool ((getG x0 (List.getD x1 (Int.toNat s9) (([] : List UInt8), (([] : List UInt8), 0))).1) == (List.getD x1 (Int.toNat s9) (([] : List UInt8), (([] : List UInt8), 0))).2.1))), (.d (.bool (!((getG x0 (List.getD x1 (Int.toNat s9) (([] : List UInt8), (([] : List UInt8), 0))).1) == (List.getD x1 (Int.toNat s9) (([] : List UInt8), (([] : List UInt8), 0))).2.1)))), .top], [(.cells [(.d (.str (List.getD x1 (Int.toNat s9) (([] : List UInt8), (([] : List UInt8), 0))).1)), (.d (.str (List.getD x1 (Int.toNat s9) (([] : List UInt8), (([] : List UInt8), 0))).2.1)), (.d (.int .i64 (List.getD x1 (Int.toNat s9) (([] : List UInt8), (([] : List UInt8), 0))).2.2))])])
  | 1 => (.ret, [(.d (.sl (.pair .str .str) x0)), .top, .top, .top, (.d (.bool false)), .top, (.ptr 0 0), (.d (.sl (.pair .str (.pair .str (.int .i64))) x1)), (.d (.int .i64 s8)), (.d (.int .i64 s9)), (.d (.bool (decide (s9 < s8)))), (.cptr [(.str (List.getD x1 (Int.toNat s9) (([] : List UInt8), (([] : List UInt8), 0))).1), (.str (List.getD x1 (Int.toNat s9) (([] : List UInt8), (([] : List UInt8), 0))).2.1), (.int .i64 (List.getD x1 (Int.toNat s9) (([] : List UInt8), (([] : List UInt8), 0))).2.2)] 0), (.agg [(.d (.str (List.getD x1 (Int.toNat s9) (([] : List UInt8), (([] : List UInt8), 0))).1)), (.d (.str (List.getD x1 (Int.toNat s9) (([] : List UInt8), (([] : List UInt8), 0))).2.1)), (.d (.int .i64 (List.getD x1 (Int.toNat s9) (([] : List UInt8), (([] : List UInt8), 0))).2.2))]), (.d (.sl (.pair .str .str) x0)), (.agg [(.d (.str (List.getD x1 (Int.toNat s9) (([] : List UInt8), (([] : List UInt8), 0))).1)), (.d (.str (List.getD x1 (Int.toNat s9) (([] : List UInt8), (([] : List UInt8), 0))).2.1)), (.d (.int .i64 (List.getD x1 (Int.toNat s9) (([] : List UInt8), (([] : List UInt8), 0))).2.2))]), (.d (.bool (!((getG x0 (List.getD x1 (Int.toNat s9) (([] : List UInt8), (([] : List UInt8), 0))).1) == (List.getD x1 (Int.toNat s9) (([] : List UInt8), (([] : List UInt8), 0))).2.1)))), (.d (.bool (!(!((getG x0 (List.getD x1 (Int.toNat s9) (([] : List UInt8), (([] : List UInt8), 0))).1) == (List.getD x1 (Int.toNat s9) (([] : List UInt8), (([] : List UInt8), 0))).2.1))))), .top], [(.cells [(.d (.str (List.getD x1 (Int.toNat s9) (([] : List UInt8), (([] : List UInt8), 0))).1)), (.d (.str (List.getD x1 (Int.toNat s9) (([] : List UInt8), (([] : List UInt8), 0))).2.1)), (.d (.int .i64 (List.getD x1 (Int.toNat s9) (([] : List UInt8), (([] : List UInt8), 0))).2.2))])])
  | 2 => (.ret, [(.d (.sl (.pair .str .str) x0)), .top, .top, .top, (.d (.bool false)), .top, (.ptr 0 0), (.d (.sl (.pair .str (.pair .str (.int .i64))) x1)), (.d (.int .i64 s8)), (.d (.int .i64 s9)), (.d (.bool (decide (s9 < s8)))), (.cptr [(.str (List.getD x1 (Int.toNat s9) (([] : List UInt8), (([] : List UInt8), 0))).1), (.str (List.getD x1 (Int.toNat s9) (([] : List UInt8), (([] : List UInt8), 0))).2.1), (.int .i64 (List.getD x1 (Int.toNat s9) (([] : List UInt8), (([] : List UInt8), 0))).2.2)] 0), (.agg [(.d (.str (List.getD x1 (Int.toNat s9) (([] : List UInt8), (([] : List UInt8), 0))).1)), (.d (.str (List.getD x1 (Int.toNat s9) (([] : List UInt8), (([] : List UInt8), 0))).2.1)), (.d (.int .i64 (List.getD x1 (Int.toNat s9) (([] : List UInt8), (([] : List UInt8), 0))).2.2))]), (.d (.sl (.pair .str .str) x0)), (.agg [(.d (.str (List.getD x1 (Int.toNat s9) (([] : List UInt8), (([] : List UInt8), 0))).1)), (.d (.str (List.getD x1 (Int.toNat s9) (([] : List UInt8), (([] : List UInt8), 0))).2.1)), (.d (.int .i64 (List.getD x1 (Int.toNat s9) (([] : List UInt8), (([] : List UInt8), 0))).2.2))]), (.d (.bool ((List.drop 0 (List.take (Int.toNat (((List.length (List.getD x1 (Int.toNat s9) (([] : List UInt8), (([] : List UInt8), 0))).2.1) : Nat) : Int)) (getG x0 (List.getD x1 (Int.toNat s9) (([] : List UInt8), (([] : List UInt8), 0))).1))) == (List.getD x1 (Int.toNat s9) (([] : List UInt8), (([] : List UInt8), 0))).2.1))), (.d (.bool (!((List.drop 0 (List.take (Int.toNat (((List.length (List.getD x1 (Int.toNat s9) (([] : List UInt8), (([] : List UInt8), 0))).2.1) : Nat) : Int)) (getG x0 (List.getD x1 (Int.toNat s9) (([] : List UInt8), (([] : List UInt8), 0))).1))) == (List.getD x1 (Int.toNat s9) (([] : List UInt8), (([] : List UInt8), 0))).2.1)))), .top], [(.cells [(.d (.str (List.getD x1 (Int.toNat s9) (([] : List UInt8), (([] : List UInt8), 0))).1)), (.d (.str (List.getD x1 (Int.toNat s9) (([] : List UInt8), (([] : List UInt8), 0))).2.1)), (.d (.int .i64 (List.getD x1 (Int.toNat s9) (([] : List UInt8), (([] : List UInt8), 0))).2.2))])])
  | 3 => (.ret, [(.d (.sl (.pair .str .str) x0)), .top, .top, .top, (.d (.bool false)), .top, (.ptr 0 0), (.d (.sl (.pair .str (.pair .str (.int .i64))) x1)), (.d (.int .i64 s8)), (.d (.int .i64 s9)), (.d (.bool (decide (s9 < s8)))), (.cptr [(.str (List.getD x1 (Int.toNat s9) (([] : List UInt8), (([] : List UInt8), 0))).1), (.str (List.getD x1 (Int.toNat s9) (([] : List UInt8), (([] : List UInt8), 0))).2.1), (.int .i64 (List.getD x1 (Int.toNat s9) (([] : List UInt8), (([] : List UInt8), 0))).2.2)] 0), (.agg [(.d (.str (List.getD x1 (Int.toNat s9) (([] : List UInt8), (([] : List UInt8), 0))).1)), (.d (.str (List.getD x1 (Int.toNat s9) (([] : List UInt8), (([] : List UInt8), 0))).2.1)), (.d (.int .i64 (List.getD x1 (Int.toNat s9) (([] : List UInt8), (([] : List UInt8), 0))).2.2))]), (.d (.sl (.pair .str .str) x0)), (.agg [(.d (.str (List.getD x1 (Int.toNat s9) (([] : List UInt8), (([] : List UInt8), 0))).1)), (.d (.str (List.getD x1 (Int.toNat s9) (([] : List UInt8), (([] : List UInt8), 0))).2.1)), (.d (.int .i64 (List.getD x1 (Int.toNat s9) (([] : List UInt8), (([] : List UInt8), 0))).2.2))]), (.d (.bool false)), (.d (.bool true)), .top], [(.cells [(.d (.str (List.getD x1 (Int.toNat s9) (([] : List UInt8), (([] : List UInt8), 0))).1)), (.d (.str (List.getD x1 (Int.toNat s9) (([] : List UInt8), (([] : List UInt8), 0))).2.1)), (.d (.int .i64 (List.getD x1 (Int.toNat s9) (([] : List UInt8), (([] : List UInt8), 0))).2.2))])])
  | 4 => (.ret, [(.d (.sl (.pair .str .str) x0)), .top, .top, .top, (.d (.bool false)), .top, (.ptr 0 0), (.d (.sl (.pair .str (.pair .str (.int .i64))) x1)), (.d (.int .i64 s8)), (.d (.int .i64 s9)), (.d (.bool (decide (s9 < s8)))), (.cptr [(.str (List.getD x1 (Int.toNat s9) (([] : List UInt8), (([] : List UInt8), 0))).1), (.str (List.getD x1 (Int.toNat s9) (([] : List UInt8), (([] : List UInt8), 0))).2.1), (.int .i64 (List.getD x1 (Int.toNat s9) (([] : List UInt8), (([] : List UInt8), 0))).2.2)] 0), (.agg [(.d (.str (List.getD x1 (Int.toNat s9) (([] : List UInt8), (([] : List UInt8), 0))).1)), (.d (.str (List.getD x1 (Int.toNat s9) (([] : List UInt8), (([] : List UInt8), 0))).2.1)), (.d (.int .i64 (List.getD x1 (Int.toNat s9) (([] : List UInt8), (([] : List UInt8), 0))).2.2))]), (.d (.sl (.pair .str .str) x0)), (.agg [(.d (.str (List.getD x1 (Int.toNat s9) (([] : List UInt8), (([] : List UInt8), 0))).1)), (.d (.str (List.getD x1 (Int.toNat s9) (([] : List UInt8), (([] : List UInt8), 0))).2.1)), (.d (.int .i64 (List.getD x1 (Int.toNat s9) (([] : List UInt8), (([] : List UInt8), 0))).2.2))]), (.d (.bool (!((List.drop 0 (List.take (Int.toNat (((List.length (List.getD x1 (Int.toNat s9) (([] : List UInt8), (([] : List UInt8), 0))).2.1) : Nat) : Int)) (getG x0 (List.getD x1 (Int.toNat s9) (([] : List UInt8), (([] : List UInt8), 0))).1))) == (List.getD x1 (Int.toNat s9) (([] : List UInt8), (([] : List UInt8), 0))).2.1)))), (.d (.bool (!(!((List.drop 0 (List.take (Int.toNat (((List.length (List.getD x1 (Int.toNat s9) (([] : List UInt8), (([] : List UInt8), 0))).2.1) : Nat) : Int)) (getG x0 (List.getD x1 (Int.toNat s9) (([] : List UInt8), (([] : List UInt8), 0))).1))) == (List.getD x1 (Int.toNat s9) (([] : List UInt8), (([] : List UInt8), 0))).2.1))))), .top], [(.cells [(.d (.str (List.getD x1 (Int.toNat s9) (([] : List UInt8), (([] : List UInt8), 0))).1)), (.d (.str (List.getD x1 (Int.toNat s9) (([] : List UInt8), (([] : List UInt8), 0))).2.1)), (.d (.int .i64 (List.getD x1 (Int.toNat s9) (([] : List UInt8), (([] : List UInt8), 0))).2.2))])])
  | 5 => (.ret, [(.d (.sl (.pair .str .str) x0)), .top, .top, .top, (.d (.bool false)), .top, (.ptr 0 0), (.d (.sl (.pair .str (.pair .str (.int .i64))) x1)), (.d (.int .i64 s8)), (.d (.int .i64 s9)), (.d (.bool (decide (s9 < s8)))), (.cptr [(.str (List.getD x1 (Int.toNat s9) (([] : List UInt8), (([] : List UInt8), 0))).1), (.str (List.getD x1 (Int.toNat s9) (([] : List UInt8), (([] : List UInt8), 0))).2.1), (.int .i64 (List.getD x1 (Int.toNat s9) (([] : List UInt8), (([] : List UInt8), 0))).2.2)] 0), (.agg [(.d (.str (List.getD x1 (Int.toNat s9) (([] : List UInt8), (([] : List UInt8), 0))).1)), (.d (.str (List.getD x1 (Int.toNat s9) (([] : List UInt8), (([] : List UInt8), 0))).2.1)), (.d (.int .i64 (List.getD x1 (Int.toNat s9) (([] : List UInt8), (([] : List UInt8), 0))).2.2))]), (.d (.sl (.pair .str .str) x0)), (.agg [(.d (.str (List.getD x1 (Int.toNat s9) (([] : List UInt8), (([] : List UInt8), 0))).1)), (.d (.str (List.getD x1 (Int.toNat s9) (([] : List UInt8), (([] : List UInt8), 0))).2.1)), (.d (.int .i64 (List.getD x1 (Int.toNat s9) (([] : List UInt8), (([] : List UInt8), 0))).2.2))]), (.d (.bool false)), (.d (.bool true)), .top], [(.cells [(.d (.str (List.getD x1 (Int.toNat s9) (([] : List UInt8), (([] : List UInt8), 0))).1)), (.d (.str (List.getD x1 (Int.toNat s9) (([] : List UInt8), (([] : List UInt8), 0))).2.1)), (.d (.int .i64 (List.getD x1 (Int.toNat s9) (([] : List UInt8), (([] : List UInt8), 0))).2.2))])])
  | _ => (.exit 0, [(.d (.sl (.pair .str .str) x0)), .top, .top, .top, .top, .top, .top, (.d (.sl (.pair .str (.pair .str (.int .i64))) x1)), (.d (.int .i64 s8)), (.d (.int .i64 s9)), (.d (.bool (decide (s9 < s8)))), .top, .top, .top, .top, .top, .top, .top], [])
noncomputable def lbl31_0 : AC := loopBody 897 body31

set_option maxHeartbeats 20000000 in
theorem l31_0_w0 (m n : Nat) (x0 : List ((List UInt8) × (List UInt8))) (x1 : List ((List UInt8) × (List UInt8) × Int)) (s8 : Int) (s9 : Int) (r : AEx × Env × Boxes) (c0 : decide (s9 < s8) = true) (c1 : decide (0 ≤ s9) = true) (c2 : decide (s9 < (((List.length x1) : Nat) : Int)) = true) (c3 : decide (List.length x0 ≤ 1000000) = true) (c4 : ((List.getD x1 (Int.toNat s9) (([] : List UInt8), (([] : List UInt8), 0))).2.2 == (1)) = true) (c5 : ((getG x0 (List.getD x1 (Int.toNat s9) (([] : List UInt8), (([] : List UInt8), 0))).1) == (List.getD x1 (Int.toNat s9) (([] : List UInt8), (([] : List UInt8), 0))).2.1) = true) (ih : (turns (hds 31 897) 0 897 (evC byref (evCall F S16 (m + 24)) (m + 24) 0 (hds 31) lbl31_0) n (l31_0H x0 x1 s8 ((IntKind.wrap .i64 (s9 + (1))))) (l31_0B x0 x1 s8 ((IntKind.wrap .i64 (s9 + (1)))))).run = some r) : (turns (hds 31 897) 0 897 (evC byref (evCall F S16 (m + 24)) (m + 24) 0 (hds 31) lbl31_0) (n + 1) (l31_0H x0 x1 s8 s9) (l31_0B x0 x1 s8 s9)).run = some r := by
  exact turns_step (M.run_of_path _ [true, true, true, true, true, false] _ _ (by kernel_rfl) (all_t c0 (all_t c1 (all_t c2 (all_t c3 (all_t c4 (all_nt c5 all_nil))))))) ih
set_option maxHeartbeats 20000000 in
theorem l31_0_w1 (m n : Nat) (x0 : List ((List UInt8) × (List UInt8))) (x1 : List ((List UInt8) × (List UInt8) × Int)) (s8 : Int) (s9 : Int) (c0 : decide (s9 < s8) = true) (c1 : decide (0 ≤ s9) = true) (c2 : decide (s9 < (((List.length x1) : Nat) : Int)) = true) (c3 : decide (List.length x0 ≤ 1000000) = true) (c4 : ((List.getD x1 (Int.toNat s9) (([] : List UInt8), (([] : List UInt8), 0))).2.2 == (1)) = true) (c5 : ¬ ((getG x0 (List.getD x1 (Int.toNat s9) (([] : List UInt8), (([] : List UInt8), 0))).1) == (List.getD x1 (Int.toNat s9) (([] : List UInt8), (([] : List UInt8), 0))).2.1) = true) : (turns (hds 31 897) 0 897 (evC byref (evCall F S16 (m + 24)) (m + 24) 0 (hds 31) lbl31_0) (n + 1) (l31_0H x0 x1 s8 s9) (l31_0B x0 x1 s8 s9)).run = some (.ret, [(.d (.sl (.pair .str .str) x0)), .top, .top, .top, (.d (.bool false)), .top, (.ptr 0 0), (.d (.sl (.pair .str (.pair .str (.int .i64))) x1)), (.d (.int .i64 s8)), (.d (.int .i64 s9)), (.d (.bool (decide (s9 < s8)))), (.cptr [(.str (List.getD x1 (Int.toNat s9) (([] : List UInt8), (([] : List UInt8), 0))).1), (.str (List.getD x1 (Int.toNat s9) (([] : List UInt8), (([] : List UInt8), 0))).2.1), (.int .i64 (List.getD x1 (Int.toNat s9) (([] : List UInt8), (([] : List UInt8), 0))).2.2)] 0), (.agg [(.d (.str (List.getD x1 (Int.toNat s9) (([] : List UInt8), (([] : List UInt8), 0))).1)), (.d (.str (List.getD x1 (Int.toNat s9) (([] : List UInt8), (([] : List UInt8), 0))).2.1)), (.d (.int .i64 (List.getD x1 (Int.toNat s9) (([] : List UInt8), (([] : List UInt8), 0))).2.2))]), (.d (.sl (.pair .str .str) x0)), (.agg [(.d (.str (List.getD x1 (Int.toNat s9) (([] : List UInt8), (([] : List UInt8), 0))).1)), (.d (.str (List.getD x1 (Int.toNat s9) (([] : List UInt8), (([] : List UInt8), 0))).2.1)), (.d (.int .i64 (List.getD x1 (Int.toNat s9) (([] : List UInt8), (([] : List UInt8), 0))).2.2))]), (.d (.bool ((getG x0 (List.getD x1 (Int.toNat s9) (([] : List UInt8), (([] : List UInt8), 0))).1) == (List.getD x1 (Int.toNat s9) (([] : List UInt8), (([] : List UInt8), 0))).2.1))), (.d (.bool (!((getG x0 (List.getD x1 (Int.toNat s9) (([] : List UInt8), (([] : List UInt8), 0))).1) == (List.getD x1 (Int.toNat s9) (([] : List UInt8), (([] : List UInt8), 0))).2.1)))), .top], [(.cells [(.d (.str (List.getD x1 (Int.toNat s9) (([] : List UInt8), (([] : List UInt8), 0))).1)), (.d (.str (List.getD x1 (Int.toNat s9) (([] : List UInt8), (([] : List UInt8), 0))).2.1)), (.d (.int .i64 (List.getD x1 (Int.toNat s9) (([] : List UInt8), (([] : List UInt8), 0))).2.2))])]) := by
  exact turns_last (by simp) (M.run_of_path _ [true, true, true, true, true, true] _ _ (by kernel_rfl) (all_t c0 (all_t c1 (all_t c2 (all_t c3 (all_t c4 (all_nf c5 all_nil))))))) 
set_option maxHeartbeats 20000000 in
theorem l31_0_w2 (m n : Nat) (x0 : List ((List UInt8) × (List UInt8))) (x1 : List ((List UInt8) × (List UInt8) × Int)) (s8 : Int) (s9 : Int) (c0 : decide (s9 < s8) = true) (c1 : decide (0 ≤ s9) = true) (c2 : decide (s9 < (((List.length x1) : Nat) : Int)) = true) (c3 : decide (List.length x0 ≤ 1000000) = true) (c4 : ¬ ((List.getD x1 (Int.toNat s9) (([] : List UInt8), (([] : List UInt8), 0))).2.2 == (1)) = true) (c5 : ((List.getD x1 (Int.toNat s9) (([] : List UInt8), (([] : List UInt8), 0))).2.2 == (2)) = true) (c6 : ((getG x0 (List.getD x1 (Int.toNat s9) (([] : List UInt8), (([] : List UInt8), 0))).1) == (List.getD x1 (Int.toNat s9) (([] : List UInt8), (([] : List UInt8), 0))).2.1) = true) : (turns (hds 31 897) 0 897 (evC byref (evCall F S16 (m + 24)) (m + 24) 0 (hds 31) lbl31_0) (n + 1) (l31_0H x0 x1 s8 s9) (l31_0B x0 x1 s8 s9)).run = some (.ret, [(.d (.sl (.pair .str .str) x0)), .top, .top, .top, (.d (.bool false)), .top, (.ptr 0 0), (.d (.sl (.pair .str (.pair .str (.int .i64))) x1)), (.d (.int .i64 s8)), (.d (.int .i64 s9)), (.d (.bool (decide (s9 < s8)))), (.cptr [(.str (List.getD x1 (Int.toNat s9) (([] : List UInt8), (([] : List UInt8), 0))).1), (.str (List.getD x1 (Int.toNat s9) (([] : List UInt8), (([] : List UInt8), 0))).2.1), (.int .i64 (List.getD x1 (Int.toNat s9) (([] : List UInt8), (([] : List UInt8), 0))).2.2)] 0), (.agg [(.d (.str (List.getD x1 (Int.toNat s9) (([] : List UInt8), (([] : List UInt8), 0))).1)), (.d (.str (List.getD x1 (Int.toNat s9) (([] : List UInt8), (([] : List UInt8), 0))).2.1)), (.d (.int .i64 (List.getD x1 (Int.toNat s9) (([] : List UInt8), (([] : List UInt8), 0))).2.2))]), (.d (.sl (.pair .str .str) x0)), (.agg [(.d (.str (List.getD x1 (Int.toNat s9) (([] : List UInt8), (([] : List UInt8), 0))).1)), (.d (.str (List.getD x1 (Int.toNat s9) (([] : List UInt8), (([] : List UInt8), 0))).2.1)), (.d (.int .i64 (List.getD x1 (Int.toNat s9) (([] : List UInt8), (([] : List UInt8), 0))).2.2))]), (.d (.bool (!((getG x0 (List.getD x1 (Int.toNat s9) (([] : List UInt8), (([] : List UInt8), 0))).1) == (List.getD x1 (Int.toNat s9) (([] : List UInt8), (([] : List UInt8), 0))).2.1)))), (.d (.bool (!(!((getG x0 (List.getD x1 (Int.toNat s9) (([] : List UInt8), (([] : List UInt8), 0))).1) == (List.getD x1 (Int.toNat s9) (([] : List UInt8), (([] : List UInt8), 0))).2.1))))), .top], [(.cells [(.d (.str (List.getD x1 (Int.toNat s9) (([] : List UInt8), (([] : List UInt8), 0))).1)), (.d (.str (List.getD x1 (Int.toNat s9) (([] : List UInt8), (([] : List UInt8), 0))).2.1)), (.d (.int .i64 (List.getD x1 (Int.toNat s9) (([] : List UInt8), (([] : List UInt8), 0))).2.2))])]) := by
  exact turns_last (by simp) (M.run_of_path _ [true, true, true, true, false, true, true] _ _ (by kernel_rfl) (all_t c0 (all_t c1 (all_t c2 (all_t c3 (all_f c4 (all_t c5 (all_nnt c6 all_nil)))))))) 
set_option maxHeartbeats 20000000 in
theorem l31_0_w3 (m n : Nat) (x0 : List ((List UInt8) × (List UInt8))) (x1 : List ((List UInt8) × (List UInt8) × Int)) (s8 : Int) (s9 : Int) (r : AEx × Env × Boxes) (c0 : decide (s9 < s8) = true) (c1 : decide (0 ≤ s9) = true) (c2 : decide (s9 < (((List.length x1) : Nat) : Int)) = true) (c3 : decide (List.length x0 ≤ 1000000) = true) (c4 : ¬ ((List.getD x1 (Int.toNat s9) (([] : List UInt8), (([] : List UInt8), 0))).2.2 == (1)) = true) (c5 : ((List.getD x1 (Int.toNat s9) (([] : List UInt8), (([] : List UInt8), 0))).2.2 == (2)) = true) (c6 : ¬ ((getG x0 (List.getD x1 (Int.toNat s9) (([] : List UInt8), (([] : List UInt8), 0))).1) == (List.getD x1 (Int.toNat s9) (([] : List UInt8), (([] : List UInt8), 0))).2.1) = true) (ih : (turns (hds 31 897) 0 897 (evC byref (evCall F S16 (m + 24)) (m + 24) 0 (hds 31) lbl31_0) n (l31_0H x0 x1 s8 ((IntKind.wrap .i64 (s9 + (1))))) (l31_0B x0 x1 s8 ((IntKind.wrap .i64 (s9 + (1)))))).run = some r) : (turns (hds 31 897) 0 897 (evC byref (evCall F S16 (m + 24)) (m + 24) 0 (hds 31) lbl31_0) (n + 1) (l31_0H x0 x1 s8 s9) (l31_0B x0 x1 s8 s9)).run = some r := by
  exact turns_step (M.run_of_path _ [true, true, true, true, false, true, false] _ _ (by kernel_rfl) (all_t c0 (all_t c1 (all_t c2 (all_t c3 (all_f c4 (all_t c5 (all_nnf c6 all_nil)))))))) ih
set_option maxHeartbeats 20000000 in
theorem l31_0_w4 (m n : Nat) (x0 : List ((List UInt8) × (List UInt8))) (x1 : List ((List UInt8) × (List UInt8) × Int)) (s8 : Int) (s9 : Int) (r : AEx × Env × Boxes) (c0 : decide (s9 < s8) = true) (c1 : decide (0 ≤ s9) = true) (c2 : decide (s9 < (((List.length x1) : Nat) : Int)) = true) (c3 : decide (List.length x0 ≤ 1000000) = true) (c4 : ¬ ((List.getD x1 (Int.toNat s9) (([] : List UInt8), (([] : List UInt8), 0))).2.2 == (1)) = true) (c5 : ¬ ((List.getD x1 (Int.toNat s9) (([] : List UInt8), (([] : List UInt8), 0))).2.2 == (2)) = true) (c6 : ((List.getD x1 (Int.toNat s9) (([] : List UInt8), (([] : List UInt8), 0))).2.2 == (3)) = true) (c7 : decide ((((List.length (getG x0 (List.getD x1 (Int.toNat s9) (([] : List UInt8), (([] : List UInt8), 0))).1)) : Nat) : Int) ≥ (((List.length (List.getD x1 (Int.toNat s9) (([] : List UInt8), (([] : List UInt8), 0))).2.1) : Nat) : Int)) = true) (c11 : (decide (0 ≤ (((List.length (List.getD x1 (Int.toNat s9) (([] : List UInt8), (([] : List UInt8), 0))).2.1) : Nat) : Int)) && decide ((((List.length (List.getD x1 (Int.toNat s9) (([] : List UInt8), (([] : List UInt8), 0))).2.1) : Nat) : Int) ≤ (((List.length (getG x0 (List.getD x1 (Int.toNat s9) (([] : List UInt8), (([] : List UInt8), 0))).1)) : Nat) : Int))) = true) (c15 : ((List.drop 0 (List.take (Int.toNat (((List.length (List.getD x1 (Int.toNat s9) (([] : List UInt8), (([] : List UInt8), 0))).2.1) : Nat) : Int)) (getG x0 (List.getD x1 (Int.toNat s9) (([] : List UInt8), (([] : List UInt8), 0))).1))) == (List.getD x1 (Int.toNat s9) (([] : List UInt8), (([] : List UInt8), 0))).2.1) = true) (ih : (turns (hds 31 897) 0 897 (evC byref (evCall F S16 (m + 24)) (m + 24) 0 (hds 31) lbl31_0) n (l31_0H x0 x1 s8 ((IntKind.wrap .i64 (s9 + (1))))) (l31_0B x0 x1 s8 ((IntKind.wrap .i64 (s9 + (1)))))).run = some r) : (turns (hds 31 897) 0 897 (evC byref (evCall F S16 (m + 24)) (m + 24) 0 (hds 31) lbl31_0) (n + 1) (l31_0H x0 x1 s8 s9) (l31_0B x0 x1 s8 s9)).run = some r := by
  exact turns_step (M.run_of_path _ [true, true, true, true, false, false, true, true, true, true, true, true, true, true, true, false] _ _ (by kernel_rfl) (all_t c0 (all_t c1 (all_t c2 (all_t c3 (all_f c4 (all_f c5 (all_t c6 (all_t c7 (all_t c7 (all_t c7 (all_t c7 (all_t c11 (all_t c7 (all_t c7 (all_t c7 (all_nt c15 all_nil))))))))))))))))) ih
set_option maxHeartbeats 20000000 in
theorem l31_0_w5 (m n : Nat) (x0 : List ((List UInt8) × (List UInt8))) (x1 : List ((List UInt8) × (List UInt8) × Int)) (s8 : Int) (s9 : Int) (c0 : decide (s9 < s8) = true) (c1 : decide (0 ≤ s9) = true) (c2 : decide (s9 < (((List.length x1) : Nat) : Int)) = true) (c3 : decide (List.length x0 ≤ 1000000) = true) (c4 : ¬ ((List.getD x1 (Int.toNat s9) (([] : List UInt8), (([] : List UInt8), 0))).2.2 == (1)) = true) (c5 : ¬ ((List.getD x1 (Int.toNat s9) (([] : List UInt8), (([] : List UInt8), 0))).2.2 == (2)) = true) (c6 : ((List.getD x1 (Int.toNat s9) (([] : List UInt8), (([] : List UInt8), 0))).2.2 == (3)) = true) (c7 : decide ((((List.length (getG x0 (List.getD x1 (Int.toNat s9) (([] : List UInt8), (([] : List UInt8), 0))).1)) : Nat) : Int) ≥ (((List.length (List.getD x1 (Int.toNat s9) (([] : List UInt8), (([] : List UInt8), 0))).2.1) : Nat) : Int)) = true) (c11 : (decide (0 ≤ (((List.length (List.getD x1 (Int.toNat s9) (([] : List UInt8), (([] : List UInt8), 0))).2.1) : Nat) : Int)) && decide ((((List.length (List.getD x1 (Int.toNat s9) (([] : List UInt8), (([] : List UInt8), 0))).2.1) : Nat) : Int) ≤ (((List.length (getG x0 (List.getD x1 (Int.toNat s9) (([] : List UInt8), (([] : List UInt8), 0))).1)) : Nat) : Int))) = true) (c15 : ¬ ((List.drop 0 (List.take (Int.toNat (((List.length (List.getD x1 (Int.toNat s9) (([] : List UInt8), (([] : List UInt8), 0))).2.1) : Nat) : Int)) (getG x0 (List.getD x1 (Int.toNat s9) (([] : List UInt8), (([] : List UInt8), 0))).1))) == (List.getD x1 (Int.toNat s9) (([] : List UInt8), (([] : List UInt8), 0))).2.1) = true) : (turns (hds 31 897) 0 897 (evC byref (evCall F S16 (m + 24)) (m + 24) 0 (hds 31) lbl31_0) (n + 1) (l31_0H x0 x1 s8 s9) (l31_0B x0 x1 s8 s9)).run = some (.ret, [(.d (.sl (.pair .str .str) x0)), .top, .top, .top, (.d (.bool false)), .top, (.ptr 0 0), (.d (.sl (.pair .str (.pair .str (.int .i64))) x1)), (.d (.int .i64 s8)), (.d (.int .i64 s9)), (.d (.bool (decide (s9 < s8)))), (.cptr [(.str (List.getD x1 (Int.toNat s9) (([] : List UInt8), (([] : List UInt8), 0))).1), (.str (List.getD x1 (Int.toNat s9) (([] : List UInt8), (([] : List UInt8), 0))).2.1), (.int .i64 (List.getD x1 (Int.toNat s9) (([] : List UInt8), (([] : List UInt8), 0))).2.2)] 0), (.agg [(.d (.str (List.getD x1 (Int.toNat s9) (([] : List UInt8), (([] : List UInt8), 0))).1)), (.d (.str (List.getD x1 (Int.toNat s9) (([] : List UInt8), (([] : List UInt8), 0))).2.1)), (.d (.int .i64 (List.getD x1 (Int.toNat s9) (([] : List UInt8), (([] : List UInt8), 0))).2.2))]), (.d (.sl (.pair .str .str) x0)), (.agg [(.d (.str (List.getD x1 (Int.toNat s9) (([] : List UInt8), (([] : List UInt8), 0))).1)), (.d (.str (List.getD x1 (Int.toNat s9) (([] : List UInt8), (([] : List UInt8), 0))).2.1)), (.d (.int .i64 (List.getD x1 (Int.toNat s9) (([] : List UInt8), (([] : List UInt8), 0))).2.2))]), (.d (.bool ((List.drop 0 (List.take (Int.toNat (((List.length (List.getD x1 (Int.toNat s9) (([] : List UInt8), (([] : List UInt8), 0))).2.1) : Nat) : Int)) (getG x0 (List.getD x1 (Int.toNat s9) (([] : List UInt8), (([] : List UInt8), 0))).1))) == (List.getD x1 (Int.toNat s9) (([] : List UInt8), (([] : List UInt8), 0))).2.1))), (.d (.bool (!((List.drop 0 (List.take (Int.toNat (((List.length (List.getD x1 (Int.toNat s9) (([] : List UInt8), (([] : List UInt8), 0))).2.1) : Nat) : Int)) (getG x0 (List.getD x1 (Int.toNat s9) (([] : List UInt8), (([] : List UInt8), 0))).1))) == (List.getD x1 (Int.toNat s9) (([] : List UInt8), (([] : List UInt8), 0))).2.1)))), .top], [(.cells [(.d (.str (List.getD x1 (Int.toNat s9) (([] : List UInt8), (([] : List UInt8), 0))).1)), (.d (.str (List.getD x1 (Int.toNat s9) (([] : List UInt8), (([] : List UInt8), 0))).2.1)), (.d (.int .i64 (List.getD x1 (Int.toNat s9) (([] : List UInt8), (([] : List UInt8), 0))).2.2))])]) := by
  exact turns_last (by simp) (M.run_of_path _ [true, true, true, true, false, false, true, true, true, true, true, true, true, true, true, true] _ _ (by kernel_rfl) (all_t c0 (all_t c1 (all_t c2 (all_t c3 (all_f c4 (all_f c5 (all_t c6 (all_t c7 (all_t c7 (all_t c7 (all_t c7 (all_t c11 (all_t c7 (all_t c7 (all_t c7 (all_nf c15 all_nil))))))))))))))))) 
set_option maxHeartbeats 20000000 in
theorem l31_0_w6 (m n : Nat) (x0 : List ((List UInt8) × (List UInt8))) (x1 : List ((List UInt8) × (List UInt8) × Int)) (s8 : Int) (s9 : Int) (c0 : decide (s9 < s8) = true) (c1 : decide (0 ≤ s9) = true) (c2 : decide (s9 < (((List.length x1) : Nat) : Int)) = true) (c3 : decide (List.length x0 ≤ 1000000) = true) (c4 : ¬ ((List.getD x1 (Int.toNat s9) (([] : List UInt8), (([] : List UInt8), 0))).2.2 == (1)) = true) (c5 : ¬ ((List.getD x1 (Int.toNat s9) (([] : List UInt8), (([] : List UInt8), 0))).2.2 == (2)) = true) (c6 : ((List.getD x1 (Int.toNat s9) (([] : List UInt8), (([] : List UInt8), 0))).2.2 == (3)) = true) (c7 : ¬ decide ((((List.length (getG x0 (List.getD x1 (Int.toNat s9) (([] : List UInt8), (([] : List UInt8), 0))).1)) : Nat) : Int) ≥ (((List.length (List.getD x1 (Int.toNat s9) (([] : List UInt8), (([] : List UInt8), 0))).2.1) : Nat) : Int)) = true) : (turns (hds 31 897) 0 897 (evC byref (evCall F S16 (m + 24)) (m + 24) 0 (hds 31) lbl31_0) (n + 1) (l31_0H x0 x1 s8 s9) (l31_0B x0 x1 s8 s9)).run = some (.ret, [(.d (.sl (.pair .str .str) x0)), .top, .top, .top, (.d (.bool false)), .top, (.ptr 0 0), (.d (.sl (.pair .str (.pair .str (.int .i64))) x1)), (.d (.int .i64 s8)), (.d (.int .i64 s9)), (.d (.bool (decide (s9 < s8)))), (.cptr [(.str (List.getD x1 (Int.toNat s9) (([] : List UInt8), (([] : List UInt8), 0))).1), (.str (List.getD x1 (Int.toNat s9) (([] : List UInt8), (([] : List UInt8), 0))).2.1), (.int .i64 (List.getD x1 (Int.toNat s9) (([] : List UInt8), (([] : List UInt8), 0))).2.2)] 0), (.agg [(.d (.str (List.getD x1 (Int.toNat s9) (([] : List UInt8), (([] : List UInt8), 0))).1)), (.d (.str (List.getD x1 (Int.toNat s9) (([] : List UInt8), (([] : List UInt8), 0))).2.1)), (.d (.int .i64 (List.getD x1 (Int.toNat s9) (([] : List UInt8), (([] : List UInt8), 0))).2.2))]), (.d (.sl (.pair .str .str) x0)), (.agg [(.d (.str (List.getD x1 (Int.toNat s9) (([] : List UInt8), (([] : List UInt8), 0))).1)), (.d (.str (List.getD x1 (Int.toNat s9) (([] : List UInt8), (([] : List UInt8), 0))).2.1)), (.d (.int .i64 (List.getD x1 (Int.toNat s9) (([] : List UInt8), (([] : List UInt8), 0))).2.2))]), (.d (.bool false)), (.d (.bool true)), .top], [(.cells [(.d (.str (List.getD x1 (Int.toNat s9) (([] : List UInt8), (([] : List UInt8), 0))).1)), (.d (.str (List.getD x1 (Int.toNat s9) (([] : List UInt8), (([] : List UInt8), 0))).2.1)), (.d (.int .i64 (List.getD x1 (Int.toNat s9) (([] : List UInt8), (([] : List UInt8), 0))).2.2))])]) := by
  exact turns_last (by simp) (M.run_of_path _ [true, true, true, true, false, false, true, false, false, false, false, false, false, false, true] _ _ (by kernel_rfl) (all_t c0 (all_t c1 (all_t c2 (all_t c3 (all_f c4 (all_f c5 (all_t c6 (all_f c7 (all_f c7 (all_f c7 (all_f c7 (all_f c7 (all_f c7 (all_f c7 (all_t rfl all_nil)))))))))))))))) 
set_option maxHeartbeats 20000000 in
theorem l31_0_w7 (m n : Nat) (x0 : List ((List UInt8) × (List UInt8))) (x1 : List ((List UInt8) × (List UInt8) × Int)) (s8 : Int) (s9 : Int) (c0 : decide (s9 < s8) = true) (c1 : decide (0 ≤ s9) = true) (c2 : decide (s9 < (((List.length x1) : Nat) : Int)) = true) (c3 : decide (List.length x0 ≤ 1000000) = true) (c4 : ¬ ((List.getD x1 (Int.toNat s9) (([] : List UInt8), (([] : List UInt8), 0))).2.2 == (1)) = true) (c5 : ¬ ((List.getD x1 (Int.toNat s9) (([] : List UInt8), (([] : List UInt8), 0))).2.2 == (2)) = true) (c6 : ¬ ((List.getD x1 (Int.toNat s9) (([] : List UInt8), (([] : List UInt8), 0))).2.2 == (3)) = true) (c7 : ((List.getD x1 (Int.toNat s9) (([] : List UInt8), (([] : List UInt8), 0))).2.2 == (4)) = true) (c8 : decide ((((List.length (getG x0 (List.getD x1 (Int.toNat s9) (([] : List UInt8), (([] : List UInt8), 0))).1)) : Nat) : Int) ≥ (((List.length (List.getD x1 (Int.toNat s9) (([] : List UInt8), (([] : List UInt8), 0))).2.1) : Nat) : Int)) = true) (c12 : (decide (0 ≤ (((List.length (List.getD x1 (Int.toNat s9) (([] : List UInt8), (([] : List UInt8), 0))).2.1) : Nat) : Int)) && decide ((((List.length (List.getD x1 (Int.toNat s9) (([] : List UInt8), (([] : List UInt8), 0))).2.1) : Nat) : Int) ≤ (((List.length (getG x0 (List.getD x1 (Int.toNat s9) (([] : List UInt8), (([] : List UInt8), 0))).1)) : Nat) : Int))) = true) (c16 : ((List.drop 0 (List.take (Int.toNat (((List.length (List.getD x1 (Int.toNat s9) (([] : List UInt8), (([] : List UInt8), 0))).2.1) : Nat) : Int)) (getG x0 (List.getD x1 (Int.toNat s9) (([] : List UInt8), (([] : List UInt8), 0))).1))) == (List.getD x1 (Int.toNat s9) (([] : List UInt8), (([] : List UInt8), 0))).2.1) = true) : (turns (hds 31 897) 0 897 (evC byref (evCall F S16 (m + 24)) (m + 24) 0 (hds 31) lbl31_0) (n + 1) (l31_0H x0 x1 s8 s9) (l31_0B x0 x1 s8 s9)).run = some (.ret, [(.d (.sl (.pair .str .str) x0)), .top, .top, .top, (.d (.bool false)), .top, (.ptr 0 0), (.d (.sl (.pair .str (.pair .str (.int .i64))) x1)), (.d (.int .i64 s8)), (.d (.int .i64 s9)), (.d (.bool (decide (s9 < s8)))), (.cptr [(.str (List.getD x1 (Int.toNat s9) (([] : List UInt8), (([] : List UInt8), 0))).1), (.str (List.getD x1 (Int.toNat s9) (([] : List UInt8), (([] : List UInt8), 0))).2.1), (.int .i64 (List.getD x1 (Int.toNat s9) (([] : List UInt8), (([] : List UInt8), 0))).2.2)] 0), (.agg [(.d (.str (List.getD x1 (Int.toNat s9) (([] : List UInt8), (([] : List UInt8), 0))).1)), (.d (.str (List.getD x1 (Int.toNat s9) (([] : List UInt8), (([] : List UInt8), 0))).2.1)), (.d (.int .i64 (List.getD x1 (Int.toNat s9) (([] : List UInt8), (([] : List UInt8), 0))).2.2))]), (.d (.sl (.pair .str .str) x0)), (.agg [(.d (.str (List.getD x1 (Int.toNat s9) (([] : List UInt8), (([] : List UInt8), 0))).1)), (.d (.str (List.getD x1 (Int.toNat s9) (([] : List UInt8), (([] : List UInt8), 0))).2.1)), (.d (.int .i64 (List.getD x1 (Int.toNat s9) (([] : List UInt8), (([] : List UInt8), 0))).2.2))]), (.d (.bool (!((List.drop 0 (List.take (Int.toNat (((List.length (List.getD x1 (Int.toNat s9) (([] : List UInt8), (([] : List UInt8), 0))).2.1) : Nat) : Int)) (getG x0 (List.getD x1 (Int.toNat s9) (([] : List UInt8), (([] : List UInt8), 0))).1))) == (List.getD x1 (Int.toNat s9) (([] : List UInt8), (([] : List UInt8), 0))).2.1)))), (.d (.bool (!(!((List.drop 0 (List.take (Int.toNat (((List.length (List.getD x1 (Int.toNat s9) (([] : List UInt8), (([] : List UInt8), 0))).2.1) : Nat) : Int)) (getG x0 (List.getD x1 (Int.toNat s9) (([] : List UInt8), (([] : List UInt8), 0))).1))) == (List.getD x1 (Int.toNat s9) (([] : List UInt8), (([] : List UInt8), 0))).2.1))))), .top], [(.cells [(.d (.str (List.getD x1 (Int.toNat s9) (([] : List UInt8), (([] : List UInt8), 0))).1)), (.d (.str (List.getD x1 (Int.toNat s9) (([] : List UInt8), (([] : List UInt8), 0))).2.1)), (.d (.int .i64 (List.getD x1 (Int.toNat s9) (([] : List UInt8), (([] : List UInt8), 0))).2.2))])]) := by
  exact turns_last (by simp) (M.run_of_path _ [true, true, true, true, false, false, false, true, true, true, true, true, true, true, true, true, true] _ _ (by kernel_rfl) (all_t c0 (all_t c1 (all_t c2 (all_t c3 (all_f c4 (all_f c5 (all_f c6 (all_t c7 (all_t c8 (all_t c8 (all_t c8 (all_t c8 (all_t c12 (all_t c8 (all_t c8 (all_t c8 (all_nnt c16 all_nil)))))))))))))))))) 
set_option maxHeartbeats 20000000 in
theorem l31_0_w8 (m n : Nat) (x0 : List ((List UInt8) × (List UInt8))) (x1 : List ((List UInt8) × (List UInt8) × Int)) (s8 : Int) (s9 : Int) (r : AEx × Env × Boxes) (c0 : decide (s9 < s8) = true) (c1 : decide (0 ≤ s9) = true) (c2 : decide (s9 < (((List.length x1) : Nat) : Int)) = true) (c3 : decide (List.length x0 ≤ 1000000) = true) (c4 : ¬ ((List.getD x1 (Int.toNat s9) (([] : List UInt8), (([] : List UInt8), 0))).2.2 == (1)) = true) (c5 : ¬ ((List.getD x1 (Int.toNat s9) (([] : List UInt8), (([] : List UInt8), 0))).2.2 == (2)) = true) (c6 : ¬ ((List.getD x1 (Int.toNat s9) (([] : List UInt8), (([] : List UInt8), 0))).2.2 == (3)) = true) (c7 : ((List.getD x1 (Int.toNat s9) (([] : List UInt8), (([] : List UInt8), 0))).2.2 == (4)) = true) (c8 : decide ((((List.length (getG x0 (List.getD x1 (Int.toNat s9) (([] : List UInt8), (([] : List UInt8), 0))).1)) : Nat) : Int) ≥ (((List.length (List.getD x1 (Int.toNat s9) (([] : List UInt8), (([] : List UInt8), 0))).2.1) : Nat) : Int)) = true) (c12 : (decide (0 ≤ (((List.length (List.getD x1 (Int.toNat s9) (([] : List UInt8), (([] : List UInt8), 0))).2.1) : Nat) : Int)) && decide ((((List.length (List.getD x1 (Int.toNat s9) (([] : List UInt8), (([] : List UInt8), 0))).2.1) : Nat) : Int) ≤ (((List.length (getG x0 (List.getD x1 (Int.toNat s9) (([] : List UInt8), (([] : List UInt8), 0))).1)) : Nat) : Int))) = true) (c16 : ¬ ((List.drop 0 (List.take (Int.toNat (((List.length (List.getD x1 (Int.toNat s9) (([] : List UInt8), (([] : List UInt8), 0))).2.1) : Nat) : Int)) (getG x0 (List.getD x1 (Int.toNat s9) (([] : List UInt8), (([] : List UInt8), 0))).1))) == (List.getD x1 (Int.toNat s9) (([] : List UInt8), (([] : List UInt8), 0))).2.1) = true) (ih : (turns (hds 31 897) 0 897 (evC byref (evCall F S16 (m + 24)) (m + 24) 0 (hds 31) lbl31_0) n (l31_0H x0 x1 s8 ((IntKind.wrap .i64 (s9 + (1))))) (l31_0B x0 x1 s8 ((IntKind.wrap .i64 (s9 + (1)))))).run = some r) : (turns (hds 31 897) 0 897 (evC byref (evCall F S16 (m + 24)) (m + 24) 0 (hds 31) lbl31_0) (n + 1) (l31_0H x0 x1 s8 s9) (l31_0B x0 x1 s8 s9)).run = some r := by
  exact turns_step (M.run_of_path _ [true, true, true, true, false, false, false, true, true, true, true, true, true, true, true, true, false] _ _ (by kernel_rfl) (all_t c0 (all_t c1 (all_t c2 (all_t c3 (all_f c4 (all_f c5 (all_f c6 (all_t c7 (all_t c8 (all_t c8 (all_t c8 (all_t c8 (all_t c12 (all_t c8 (all_t c8 (all_t c8 (all_nnf c16 all_nil)))))))))))))))))) ih
set_option maxHeartbeats 20000000 in
theorem l31_0_w9 (m n : Nat) (x0 : List ((List UInt8) × (List UInt8))) (x1 : List ((List UInt8) × (List UInt8) × Int)) (s8 : Int) (s9 : Int) (r : AEx × Env × Boxes) (c0 : decide (s9 < s8) = true) (c1 : decide (0 ≤ s9) = true) (c2 : decide (s9 < (((List.length x1) : Nat) : Int)) = true) (c3 : decide (List.length x0 ≤ 1000000) = true) (c4 : ¬ ((List.getD x1 (Int.toNat s9) (([] : List UInt8), (([] : List UInt8), 0))).2.2 == (1)) = true) (c5 : ¬ ((List.getD x1 (Int.toNat s9) (([] : List UInt8), (([] : List UInt8), 0))).2.2 == (2)) = true) (c6 : ¬ ((List.getD x1 (Int.toNat s9) (([] : List UInt8), (([] : List UInt8), 0))).2.2 == (3)) = true) (c7 : ((List.getD x1 (Int.toNat s9) (([] : List UInt8), (([] : List UInt8), 0))).2.2 == (4)) = true) (c8 : ¬ decide ((((List.length (getG x0 (List.getD x1 (Int.toNat s9) (([] : List UInt8), (([] : List UInt8), 0))).1)) : Nat) : Int) ≥ (((List.length (List.getD x1 (Int.toNat s9) (([] : List UInt8), (([] : List UInt8), 0))).2.1) : Nat) : Int)) = true) (ih : (turns (hds 31 897) 0 897 (evC byref (evCall F S16 (m + 24)) (m + 24) 0 (hds 31) lbl31_0) n (l31_0H x0 x1 s8 ((IntKind.wrap .i64 (s9 + (1))))) (l31_0B x0 x1 s8 ((IntKind.wrap .i64 (s9 + (1)))))).run = some r) : (turns (hds 31 897) 0 897 (evC byref (evCall F S16 (m + 24)) (m + 24) 0 (hds 31) lbl31_0) (n + 1) (l31_0H x0 x1 s8 s9) (l31_0B x0 x1 s8 s9)).run = some r := by
  exact turns_step (M.run_of_path _ [true, true, true, true, false, false, false, true, false, false, false, false, false, false, false, false] _ _ (by kernel_rfl) (all_t c0 (all_t c1 (all_t c2 (all_t c3 (all_f c4 (all_f c5 (all_f c6 (all_t c7 (all_f c8 (all_f c8 (all_f c8 (all_f c8 (all_f c8 (all_f c8 (all_f c8 (all_f Bool.false_ne_true all_nil))))))))))))))))) ih
set_option maxHeartbeats 20000000 in
theorem l31_0_w10 (m n : Nat) (x0 : List ((List UInt8) × (List UInt8))) (x1 : List ((List UInt8) × (List UInt8) × Int)) (s8 : Int) (s9 : Int) (c0 : decide (s9 < s8) = true) (c1 : decide (0 ≤ s9) = true) (c2 : decide (s9 < (((List.length x1) : Nat) : Int)) = true) (c3 : decide (List.length x0 ≤ 1000000) = true) (c4 : ¬ ((List.getD x1 (Int.toNat s9) (([] : List UInt8), (([] : List UInt8), 0))).2.2 == (1)) = true) (c5 : ¬ ((List.getD x1 (Int.toNat s9) (([] : List UInt8), (([] : List UInt8), 0))).2.2 == (2)) = true) (c6 : ¬ ((List.getD x1 (Int.toNat s9) (([] : List UInt8), (([] : List UInt8), 0))).2.2 == (3)) = true) (c7 : ¬ ((List.getD x1 (Int.toNat s9) (([] : List UInt8), (([] : List UInt8), 0))).2.2 == (4)) = true) : (turns (hds 31 897) 0 897 (evC byref (evCall F S16 (m + 24)) (m + 24) 0 (hds 31) lbl31_0) (n + 1) (l31_0H x0 x1 s8 s9) (l31_0B x0 x1 s8 s9)).run = some (.ret, [(.d (.sl (.pair .str .str) x0)), .top, .top, .top, (.d (.bool false)), .top, (.ptr 0 0), (.d (.sl (.pair .str (.pair .str (.int .i64))) x1)), (.d (.int .i64 s8)), (.d (.int .i64 s9)), (.d (.bool (decide (s9 < s8)))), (.cptr [(.str (List.getD x1 (Int.toNat s9) (([] : List UInt8), (([] : List UInt8), 0))).1), (.str (List.getD x1 (Int.toNat s9) (([] : List UInt8), (([] : List UInt8), 0))).2.1), (.int .i64 (List.getD x1 (Int.toNat s9) (([] : List UInt8), (([] : List UInt8), 0))).2.2)] 0), (.agg [(.d (.str (List.getD x1 (Int.toNat s9) (([] : List UInt8), (([] : List UInt8), 0))).1)), (.d (.str (List.getD x1 (Int.toNat s9) (([] : List UInt8), (([] : List UInt8), 0))).2.1)), (.d (.int .i64 (List.getD x1 (Int.toNat s9) (([] : List UInt8), (([] : List UInt8), 0))).2.2))]), (.d (.sl (.pair .str .str) x0)), (.agg [(.d (.str (List.getD x1 (Int.toNat s9) (([] : List UInt8), (([] : List UInt8), 0))).1)), (.d (.str (List.getD x1 (Int.toNat s9) (([] : List UInt8), (([] : List UInt8), 0))).2.1)), (.d (.int .i64 (List.getD x1 (Int.toNat s9) (([] : List UInt8), (([] : List UInt8), 0))).2.2))]), (.d (.bool false)), (.d (.bool true)), .top], [(.cells [(.d (.str (List.getD x1 (Int.toNat s9) (([] : List UInt8), (([] : List UInt8), 0))).1)), (.d (.str (List.getD x1 (Int.toNat s9) (([] : List UInt8), (([] : List UInt8), 0))).2.1)), (.d (.int .i64 (List.getD x1 (Int.toNat s9) (([] : List UInt8), (([] : List UInt8), 0))).2.2))])]) := by
  exact turns_last (by simp) (M.run_of_path _ [true, true, true, true, false, false, false, false, true] _ _ (by kernel_rfl) (all_t c0 (all_t c1 (all_t c2 (all_t c3 (all_f c4 (all_f c5 (all_f c6 (all_f c7 (all_t rfl all_nil)))))))))) 
set_option maxHeartbeats 20000000 in
theorem l31_0_w11 (m n : Nat) (x0 : List ((List UInt8) × (List UInt8))) (x1 : List ((List UInt8) × (List UInt8) × Int)) (s8 : Int) (s9 : Int) (c0 : ¬ decide (s9 < s8) = true) : (turns (hds 31 897) 0 897 (evC byref (evCall F S16 (m + 24)) (m + 24) 0 (hds 31) lbl31_0) (n + 1) (l31_0H x0 x1 s8 s9) (l31_0B x0 x1 s8 s9)).run = some (.exit 0, [(.d (.sl (.pair .str .str) x0)), .top, .top, .top, .top, .top, .top, (.d (.sl (.pair .str (.pair .str (.int .i64))) x1)), (.d (.int .i64 s8)), (.d (.int .i64 s9)), (.d (.bool (decide (s9 < s8)))), .top, .top, .top, .top, .top, .top, .top], []) := by
  exact turns_last (by simp) (M.run_of_path _ [false] _ _ (by kernel_rfl) (all_f c0 all_nil)) 

set_option maxHeartbeats 20000000 in
theorem l31_0_step (m n : Nat) (ih : ∀ (x0 : List ((List UInt8) × (List UInt8))) (x1 : List ((List UInt8) × (List UInt8) × Int)) (s8 : Int) (s9 : Int) (q : Nat × Int), l31_0 m n x0 x1 s8 s9 = some q → (turns (hds 31 897) 0 897 (evC byref (evCall F S16 (m + 24)) (m + 24) 0 (hds 31) lbl31_0) n (l31_0H x0 x1 s8 s9) (l31_0B x0 x1 s8 s9)).run = some (l31_0E (x0) (x1) (s8) (q.2) q.1)) (x0 : List ((List UInt8) × (List UInt8))) (x1 : List ((List UInt8) × (List UInt8) × Int)) (s8 : Int) (s9 : Int) (q : Nat × Int) (h : l31_0 m (n + 1) x0 x1 s8 s9 = some q) : (turns (hds 31 897) 0 897 (evC byref (evCall F S16 (m + 24)) (m + 24) 0 (hds 31) lbl31_0) (n + 1) (l31_0H x0 x1 s8 s9) (l31_0B x0 x1 s8 s9)).run = some (l31_0E (x0) (x1) (s8) (q.2) q.1) := by
  rw [l31_0] at h
  refine ite_cases h (fun c0 h => ?_) (fun c0 h => ?_)
  · skip
    refine ite_cases h (fun c1 h => ?_) (fun c1 h => ?_)
    · skip
      refine ite_cases h (fun c2 h => ?_) (fun c2 h => ?_)
      · skip
        refine ite_cases h (fun c3 h => ?_) (fun c3 h => ?_)
        · skip
          refine ite_cases h (fun c4 h => ?_) (fun c4 h => ?_)
          · skip
            refine ite_cases h (fun c5 h => ?_) (fun c5 h => ?_)
            · skip
              exact l31_0_w0 m n x0 x1 s8 s9 _ c0 c1 c2 c3 c4 c5 (ih _ _ _ _ q h)
            · skip
              cases h
              exact l31_0_w1 m n x0 x1 s8 s9 c0 c1 c2 c3 c4 c5
          · skip
            refine ite_cases h (fun c5 h => ?_) (fun c5 h => ?_)
            · skip
              refine ite_cases h (fun c6 h => ?_) (fun c6 h => ?_)
              · skip
                cases h
                exact l31_0_w2 m n x0 x1 s8 s9 c0 c1 c2 c3 c4 c5 c6
              · skip
                exact l31_0_w3 m n x0 x1 s8 s9 _ c0 c1 c2 c3 c4 c5 c6 (ih _ _ _ _ q h)
            · skip
              refine ite_cases h (fun c6 h => ?_) (fun c6 h => ?_)
              · skip
                refine ite_cases h (fun c7 h => ?_) (fun c7 h => ?_)
                · skip
                  refine ite_cases h (fun c11 h => ?_) (fun c11 h => ?_)
                  · skip
                    refine ite_cases h (fun c15 h => ?_) (fun c15 h => ?_)
                    · skip
                      exact l31_0_w4 m n x0 x1 s8 s9 _ c0 c1 c2 c3 c4 c5 c6 c7 c11 c15 (ih _ _ _ _ q h)
                    · skip
                      cases h
                      exact l31_0_w5 m n x0 x1 s8 s9 c0 c1 c2 c3 c4 c5 c6 c7 c11 c15
                  · skip
                    cases h
                · skip
                  cases h
                  exact l31_0_w6 m n x0 x1 s8 s9 c0 c1 c2 c3 c4 c5 c6 c7
              · skip
                refine ite_cases h (fun c7 h => ?_) (fun c7 h => ?_)
                · skip
                  refine ite_cases h (fun c8 h => ?_) (fun c8 h => ?_)
                  · skip
                    refine ite_cases h (fun c12 h => ?_) (fun c12 h => ?_)
                    · skip
                      refine ite_cases h (fun c16 h => ?_) (fun c16 h => ?_)
                      · skip
                        cases h
                        exact l31_0_w7 m n x0 x1 s8 s9 c0 c1 c2 c3 c4 c5 c6 c7 c8 c12 c16
                      · skip
                        exact l31_0_w8 m n x0 x1 s8 s9 _ c0 c1 c2 c3 c4 c5 c6 c7 c8 c12 c16 (ih _ _ _ _ q h)
                    · skip
                      cases h
                  · skip
                    exact l31_0_w9 m n x0 x1 s8 s9 _ c0 c1 c2 c3 c4 c5 c6 c7 c8 (ih _ _ _ _ q h)
                · skip
                  cases h
                  exact l31_0_w10 m n x0 x1 s8 s9 c0 c1 c2 c3 c4 c5 c6 c7
        · skip
          cases h
      · skip
        cases h
    · skip
      cases h
  · skip
    cases h
    exact l31_0_w11 m n x0 x1 s8 s9 c0
set_option maxHeartbeats 20000000 in
theorem l31_0_ok (m : Nat) : ∀ (n : Nat) (x0 : List ((List UInt8) × (List UInt8))) (x1 : List ((List UInt8) × (List UInt8) × Int)) (s8 : Int) (s9 : Int) (q : Nat × Int), l31_0 m n x0 x1 s8 s9 = some q → (turns (hds 31 897) 0 897 (evC byref (evCall F S16 (m + 24)) (m + 24) 0 (hds 31) lbl31_0) n (l31_0H x0 x1 s8 s9) (l31_0B x0 x1 s8 s9)).run = some (l31_0E (x0) (x1) (s8) (q.2) q.1)
  | 0, x0, x1, s8, s9, q, h => by cases h
  | n + 1, x0, x1, s8, s9, q, h => l31_0_step m n (l31_0_ok m n) x0 x1 s8 s9 q h

def p31 (m : Nat) (x0 : List ((List UInt8) × (List UInt8))) (x1 : List ((List UInt8) × (List UInt8) × Int)) : Option (Bool) :=
  if (Option.isSome (l31_0 m (m + 24) x0 x1 ((((List.length x1) : Nat) : Int)) 0)) = true then
    if ((l31_0R m (m + 24) x0 x1 ((((List.length x1) : Nat) : Int)) 0).1 == 0) = true then
      some (false)
    else
      if ((l31_0R m (m + 24) x0 x1 ((((List.length x1) : Nat) : Int)) 0).1 == 1) = true then
        some (false)
      else
        if ((l31_0R m (m + 24) x0 x1 ((((List.length x1) : Nat) : Int)) 0).1 == 2) = true then
          some (false)
        else
          if ((l31_0R m (m + 24) x0 x1 ((((List.length x1) : Nat) : Int)) 0).1 == 3) = true then
            some (false)
          else
            if ((l31_0R m (m + 24) x0 x1 ((((List.length x1) : Nat) : Int)) 0).1 == 4) = true then
              some (false)
            else
              if ((l31_0R m (m + 24) x0 x1 ((((List.length x1) : Nat) : Int)) 0).1 == 5) = true then
                some (false)
              else
                if ((l31_0R m (m + 24) x0 x1 ((((List.length x1) : Nat) : Int)) 0).1 == 6) = true then
                  some (true)
                else
                  none
  else
    none
set_option maxHeartbeats 20000000 in
theorem p31_ok (m : Nat) (x0 : List ((List UInt8) × (List UInt8))) (x1 : List ((List UInt8) × (List UInt8) × Int)) (q : Bool) (h : p31 m x0 x1 = some q) : ∃ r B1, (evCall F S16 (m + 25) 31 [(.d (.sl (.pair .str .str) x0)), (.d (.sl (.pair .str (.pair .str (.int .i64))) x1))] []).run = some (r, B1) ∧ 0 ≤ B1.length ∧ wkR B1 [] r (.d (.bool (q))) ∧ wkBs B1 [] 0 [] := by
  unfold p31 at h
  refine ite_cases h (fun c0 h => ?_) (fun c0 h => ?_)
  · skip
    refine ite_cases h (fun c1 h => ?_) (fun c1 h => ?_)
    · skip
      cases h
      refine ⟨(.d (.bool false)), [], runT_ok (LS := (fun k => if k = 897 then some (l31_0E x0 x1 (((((List.length x1) : Nat) : Int))) ((l31_0R m (m + 24) x0 x1 ((((List.length x1) : Nat) : Int)) 0).2) 0) else none)) (fn := fn31) (vis := [(897, l31_0H x0 x1 ((((List.length x1) : Nat) : Int)) 0, l31_0B x0 x1 ((((List.length x1) : Nat) : Int)) 0)]) (by kernel_rfl) rfl (by kernel_rfl) (M.run_of_path _ [] _ _ (by kernel_rfl) all_nil) ?_, by simp, (wkR.one (wkV.one (wk1.eq rfl))), trivial⟩
      intro p hp p2 hq
      rcases List.mem_cons.1 hp with rfl | hp
      · skip
        have h3 := l31_0_ok m (m + 24) x0 x1 ((((List.length x1) : Nat) : Int)) 0 _ (some_getD (d := l31_0D) c0)
        rw [eq_of_beq c1] at h3
        exact Eq.trans (Eq.mp (by kernel_rfl) h3) hq
      cases hp
    · skip
      refine ite_cases h (fun c2 h => ?_) (fun c2 h => ?_)
      · skip
        cases h
        refine ⟨(.d (.bool false)), [], runT_ok (LS := (fun k => if k = 897 then some (l31_0E x0 x1 (((((List.length x1) : Nat) : Int))) ((l31_0R m (m + 24) x0 x1 ((((List.length x1) : Nat) : Int)) 0).2) 1) else none)) (fn := fn31) (vis := [(897, l31_0H x0 x1 ((((List.length x1) : Nat) : Int)) 0, l31_0B x0 x1 ((((List.length x1) : Nat) : Int)) 0)]) (by kernel_rfl) rfl (by kernel_rfl) (M.run_of_path _ [] _ _ (by kernel_rfl) all_nil) ?_, by simp, (wkR.one (wkV.one (wk1.eq rfl))), trivial⟩
        intro p hp p2 hq
        rcases List.mem_cons.1 hp with rfl | hp
        · skip
          have h3 := l31_0_ok m (m + 24) x0 x1 ((((List.length x1) : Nat) : Int)) 0 _ (some_getD (d := l31_0D) c0)
          rw [eq_of_beq c2] at h3
          exact Eq.trans (Eq.mp (by kernel_rfl) h3) hq
        cases hp
      · skip
        refine ite_cases h (fun c3 h => ?_) (fun c3 h => ?_)
        · skip
          cases h
          refine ⟨(.d (.bool false)), [], runT_ok (LS := (fun k => if k = 897 then some (l31_0E x0 x1 (((((List.length x1) : Nat) : Int))) ((l31_0R m (m + 24) x0 x1 ((((List.length x1) : Nat) : Int)) 0).2) 2) else none)) (fn := fn31) (vis := [(897, l31_0H x0 x1 ((((List.length x1) : Nat) : Int)) 0, l31_0B x0 x1 ((((List.length x1) : Nat) : Int)) 0)]) (by kernel_rfl) rfl (by kernel_rfl) (M.run_of_path _ [] _ _ (by kernel_rfl) all_nil) ?_, by simp, (wkR.one (wkV.one (wk1.eq rfl))), trivial⟩
          intro p hp p2 hq
          rcases List.mem_cons.1 hp with rfl | hp
          · skip
            have h3 := l31_0_ok m (m + 24) x0 x1 ((((List.length x1) : Nat) : Int)) 0 _ (some_getD (d := l31_0D) c0)
            rw [eq_of_beq c3] at h3
            exact Eq.trans (Eq.mp (by kernel_rfl) h3) hq
          cases hp
        · skip
          refine ite_cases h (fun c4 h => ?_) (fun c4 h => ?_)
          · skip
            cases h
            refine ⟨(.d (.bool false)), [], runT_ok (LS := (fun k => if k = 897 then some (l31_0E x0 x1 (((((List.length x1) : Nat) : Int))) ((l31_0R m (m + 24) x0 x1 ((((List.length x1) : Nat) : Int)) 0).2) 3) else none)) (fn := fn31) (vis := [(897, l31_0H x0 x1 ((((List.length x1) : Nat) : Int)) 0, l31_0B x0 x1 ((((List.length x1) : Nat) : Int)) 0)]) (by kernel_rfl) rfl (by kernel_rfl) (M.run_of_path _ [] _ _ (by kernel_rfl) all_nil) ?_, by simp, (wkR.one (wkV.one (wk1.eq rfl))), trivial⟩
            intro p hp p2 hq
            rcases List.mem_cons.1 hp with rfl | hp
            · skip
              have h3 := l31_0_ok m (m + 24) x0 x1 ((((List.length x1) : Nat) : Int)) 0 _ (some_getD (d := l31_0D) c0)
              rw [eq_of_beq c4] at h3
              exact Eq.trans (Eq.mp (by kernel_rfl) h3) hq
            cases hp
          · skip
            refine ite_cases h (fun c5 h => ?_) (fun c5 h => ?_)
            · skip
              cases h
              refine ⟨(.d (.bool false)), [], runT_ok (LS := (fun k => if k = 897 then some (l31_0E x0 x1 (((((List.length x1) : Nat) : Int))) ((l31_0R m (m + 24) x0 x1 ((((List.length x1) : Nat) : Int)) 0).2) 4) else none)) (fn := fn31) (vis := [(897, l31_0H x0 x1 ((((List.length x1) : Nat) : Int)) 0, l31_0B x0 x1 ((((List.length x1) : Nat) : Int)) 0)]) (by kernel_rfl) rfl (by kernel_rfl) (M.run_of_path _ [] _ _ (by kernel_rfl) all_nil) ?_, by simp, (wkR.one (wkV.one (wk1.eq rfl))), trivial⟩
              intro p hp p2 hq
              rcases List.mem_cons.1 hp with rfl | hp
              · skip
                have h3 := l31_0_ok m (m + 24) x0 x1 ((((List.length x1) : Nat) : Int)) 0 _ (some_getD (d := l31_0D) c0)
                rw [eq_of_beq c5] at h3
                exact Eq.trans (Eq.mp (by kernel_rfl) h3) hq
              cases hp
            · skip
              refine ite_cases h (fun c6 h => ?_) (fun c6 h => ?_)
              · skip
                cases h
                refine ⟨(.d (.bool false)), [], runT_ok (LS := (fun k => if k = 897 then some (l31_0E x0 x1 (((((List.length x1) : Nat) : Int))) ((l31_0R m (m + 24) x0 x1 ((((List.length x1) : Nat) : Int)) 0).2) 5) else none)) (fn := fn31) (vis := [(897, l31_0H x0 x1 ((((List.length x1) : Nat) : Int)) 0, l31_0B x0 x1 ((((List.length x1) : Nat) : Int)) 0)]) (by kernel_rfl) rfl (by kernel_rfl) (M.run_of_path _ [] _ _ (by kernel_rfl) all_nil) ?_, by simp, (wkR.one (wkV.one (wk1.eq rfl))), trivial⟩
                intro p hp p2 hq
                rcases List.mem_cons.1 hp with rfl | hp
                · skip
                  have h3 := l31_0_ok m (m + 24) x0 x1 ((((List.length x1) : Nat) : Int)) 0 _ (some_getD (d := l31_0D) c0)
                  rw [eq_of_beq c6] at h3
                  exact Eq.trans (Eq.mp (by kernel_rfl) h3) hq
                cases hp
              · skip
                refine ite_cases h (fun c7 h => ?_) (fun c7 h => ?_)
                · skip
                  cases h
                  refine ⟨(.d (.bool true)), [], runT_ok (LS := (fun k => if k = 897 then some (l31_0E x0 x1 (((((List.length x1) : Nat) : Int))) ((l31_0R m (m + 24) x0 x1 ((((List.length x1) : Nat) : Int)) 0).2) 6) else none)) (fn := fn31) (vis := [(897, l31_0H x0 x1 ((((List.length x1) : Nat) : Int)) 0, l31_0B x0 x1 ((((List.length x1) : Nat) : Int)) 0)]) (by kernel_rfl) rfl (by kernel_rfl) (M.run_of_path _ [] _ _ (by kernel_rfl) all_nil) ?_, by simp, (wkR.one (wkV.one (wk1.eq rfl))), trivial⟩
                  intro p hp p2 hq
                  rcases List.mem_cons.1 hp with rfl | hp
                  · skip
                    have h3 := l31_0_ok m (m + 24) x0 x1 ((((List.length x1) : Nat) : Int)) 0 _ (some_getD (d := l31_0D) c0)
                    rw [eq_of_beq c7] at h3
                    exact Eq.trans (Eq.mp (by kernel_rfl) h3) hq
                  cases hp
                · skip
                  cases h
  · skip
    cases h

def preB (v p : List UInt8) : Bool := decide (p.length ≤ v.length) && (v.take p.length == p)
/-- Does a matcher hold of labels? -/
def holdsG (l : LB) (m : MT) : Bool := if m.2.2 = 1 then getG l m.1 == m.2.1 else if m.2.2 = 2 then !(getG l m.1 == m.2.1) else if m.2.2 = 3 then preB (getG l m.1) m.2.1 else if m.2.2 = 4 then !preB (getG l m.1) m.2.1 else false
def allG (l : LB) (ms : List MT) : Bool := ms.all (holdsG l)
theorem all_loop (m : Nat) (l : LB) (ms : List MT) (hl : l.length ≤ 1000000) (hb : ms.length ≤ 1000000) : ∀ (n k : Nat), k ≤ ms.length → ms.length - k < n → ∃ e j, l31_0 m n l ms (ms.length : Nat) (k : Nat) = some (e, j) ∧ ((e = 6 ∧ allG l (ms.drop k) = true) ∨ ((e = 0 ∨ e = 1 ∨ e = 2 ∨ e = 3 ∨ e = 4 ∨ e = 5) ∧ allG l (ms.drop k) = false))
  | 0, k, _, h => by omega
  | n + 1, k, h1, h2 => by
    rw [l31_0]
    by_cases hk : k < ms.length
    · have e1 : decide (((k : Nat) : Int) < (((List.length ms) : Nat) : Int)) = true := decide_eq_true (by omega)
      have e2 : decide ((0 : Int) ≤ ((k : Nat) : Int)) = true := decide_eq_true (by omega)
      have e3 : decide (List.length l ≤ 1000000) = true := decide_eq_true hl
      have e7 : IntKind.wrap .i64 (((k : Nat) : Int) + (1)) = ((k + 1 : Nat) : Int) := by rw [wrap_id (by omega) (by omega)]; rfl
      rw [drop_getD ms k (([] : List UInt8), (([] : List UInt8), 0)) hk]
      simp only [show Int.toNat ((k : Nat) : Int) = k from rfl, e1, e2, e3, e7, ↓reduceIte]
      have go := all_loop m l ms hl hb n (k + 1) (by omega) (by omega)
      generalize ms.getD k (([] : List UInt8), (([] : List UInt8), 0)) = q at *
      have hcons : allG l (q :: ms.drop (k + 1)) = (holdsG l q && allG l (ms.drop (k + 1))) := rfl
      rw [hcons]
      have yes : holdsG l q = true → ∃ e j, l31_0 m n l ms (ms.length : Nat) ((k + 1 : Nat) : Int) = some (e, j) ∧ ((e = 6 ∧ (holdsG l q && allG l (ms.drop (k + 1))) = true) ∨ ((e = 0 ∨ e = 1 ∨ e = 2 ∨ e = 3 ∨ e = 4 ∨ e = 5) ∧ (holdsG l q && allG l (ms.drop (k + 1))) = false)) := by
        intro h; rw [h, Bool.true_and]; exact go
      have no : ∀ e : Nat, (e = 0 ∨ e = 1 ∨ e = 2 ∨ e = 3 ∨ e = 4 ∨ e = 5) → holdsG l q = false → ∃ e' j, (some (e, ((k : Nat) : Int)) : Option (Nat × Int)) = some (e', j) ∧ ((e' = 6 ∧ (holdsG l q && allG l (ms.drop (k + 1))) = true) ∨ ((e' = 0 ∨ e' = 1 ∨ e' = 2 ∨ e' = 3 ∨ e' = 4 ∨ e' = 5) ∧ (holdsG l q && allG l (ms.drop (k + 1))) = false)) := by
        intro e he h; exact ⟨e, _, rfl, .inr ⟨he, by rw [h]; rfl⟩⟩
      generalize allG l (ms.drop (k + 1)) = rest at *
      have hv : holdsG l q = if q.2.2 = 1 then getG l q.1 == q.2.1 else if q.2.2 = 2 then !(getG l q.1 == q.2.1) else if q.2.2 = 3 then preB (getG l q.1) q.2.1 else if q.2.2 = 4 then !preB (getG l q.1) q.2.1 else false := rfl
      generalize holdsG l q = hq at *
      generalize getG l q.1 = v at *
      obtain ⟨nm, p, kd⟩ := q
      simp only at hv ⊢
      by_cases k1 : kd = 1
      · subst k1
        have d1 : ((1 : Int) == (1)) = true := rfl
        simp only [d1, ↓reduceIte] at hv ⊢
        by_cases hc : (v == p) = true
        · rw [if_pos hc]; exact yes (by rw [hv, hc])
        · rw [if_neg hc]; exact no 0 (by simp) (by rw [hv]; simpa using hc)
      · have d1 : (kd == (1)) = false := by simpa using k1
        rw [if_neg k1] at hv
        simp only [d1, ↓reduceIte, Bool.false_eq_true]
        by_cases k2 : kd = 2
        · subst k2
          have d2 : ((2 : Int) == (2)) = true := rfl
          simp only [d2, ↓reduceIte] at hv ⊢
          by_cases hc : (v == p) = true
          · rw [if_pos hc]; exact no 1 (by simp) (by rw [hv, hc]; rfl)
          · rw [if_neg hc]; exact yes (by rw [hv]; simpa using hc)
        · have d2 : (kd == (2)) = false := by simpa using k2
          rw [if_neg k2] at hv
          simp only [d2, ↓reduceIte, Bool.false_eq_true]
          by_cases hlen : p.length ≤ v.length
          · have f1 : decide ((((List.length v) : Nat) : Int) ≥ (((List.length p) : Nat) : Int)) = true := decide_eq_true (by omega)
            have f2 : (decide (0 ≤ (((List.length p) : Nat) : Int)) && decide ((((List.length p) : Nat) : Int) ≤ (((List.length v) : Nat) : Int))) = true := by simp; omega
            have f3 : List.drop 0 (List.take (Int.toNat (((List.length p) : Nat) : Int)) v) = v.take p.length := by rw [Int.toNat_natCast, List.drop_zero]
            have f4 : preB v p = (v.take p.length == p) := by unfold preB; rw [show decide (p.length ≤ v.length) = true from decide_eq_true hlen, Bool.true_and]
            rw [f4] at hv
            simp only [f1, f2, f3, ↓reduceIte]
            by_cases k3 : kd = 3
            · subst k3
              have d3 : ((3 : Int) == (3)) = true := rfl
              simp only [d3, ↓reduceIte] at hv ⊢
              by_cases hc : (v.take p.length == p) = true
              · rw [if_pos hc]; exact yes (by rw [hv, hc])
              · rw [if_neg hc]; exact no 2 (by simp) (by rw [hv]; simpa using hc)
            · have d3 : (kd == (3)) = false := by simpa using k3
              rw [if_neg k3] at hv
              simp only [d3, ↓reduceIte, Bool.false_eq_true]
              by_cases k4 : kd = 4
              · subst k4
                have d4 : ((4 : Int) == (4)) = true := rfl
                simp only [d4, ↓reduceIte] at hv ⊢
                by_cases hc : (v.take p.length == p) = true
                · rw [if_pos hc]; exact no 4 (by simp) (by rw [hv, hc]; rfl)
                · rw [if_neg hc]; exact yes (by rw [hv]; simpa using hc)
              · have d4 : (kd == (4)) = false := by simpa using k4
                rw [if_neg k4] at hv
                simp only [d4, ↓reduceIte, Bool.false_eq_true]
                exact no 5 (by simp) hv
          · have f1 : decide ((((List.length v) : Nat) : Int) ≥ (((List.length p) : Nat) : Int)) = false := decide_eq_false (by omega)
            have f4 : preB v p = false := by unfold preB; rw [show decide (p.length ≤ v.length) = false from decide_eq_false hlen, Bool.false_and]
            rw [f4] at hv
            simp only [f1, ↓reduceIte, Bool.false_eq_true]
            by_cases k3 : kd = 3
            · subst k3
              have d3 : ((3 : Int) == (3)) = true := rfl
              simp only [d3, ↓reduceIte] at hv ⊢
              exact no 3 (by simp) hv
            · have d3 : (kd == (3)) = false := by simpa using k3
              rw [if_neg k3] at hv
              simp only [d3, ↓reduceIte, Bool.false_eq_true]
              by_cases k4 : kd = 4
              · subst k4
                have d4 : ((4 : Int) == (4)) = true := rfl
                simp only [d4, ↓reduceIte] at hv ⊢
                exact yes hv
              · have d4 : (kd == (4)) = false := by simpa using k4
                rw [if_neg k4] at hv
                simp only [d4, ↓reduceIte, Bool.false_eq_true]
                exact no 5 (by simp) hv
    · have e1 : decide (((k : Nat) : Int) < (((List.length ms) : Nat) : Int)) = false := decide_eq_false (by omega)
      rw [e1, if_neg (by simp), List.drop_eq_nil_of_le (by omega)]
      exact ⟨6, _, rfl, .inl ⟨rfl, rfl⟩⟩
theorem all21 (l : LB) (ms : List MT) (h : decide (List.length l ≤ 1000000 ∧ List.length ms ≤ 1000000) = true) : ∃ m, p31 m l ms = some (allG l ms) := by
  have h := of_decide_eq_true h
  refine ⟨ms.length, ?_⟩
  unfold p31
  obtain ⟨e, j, hr, hc⟩ := all_loop ms.length l ms h.1 h.2 (ms.length + 24) 0 (by omega) (by omega)
  simp only [Int.natCast_zero, List.drop_zero] at hr hc
  simp only [l31_0R, hr, Option.isSome_some, Option.getD_some, ↓reduceIte]
  rcases hc with ⟨rfl, hc⟩ | ⟨rfl | rfl | rfl | rfl | rfl | rfl, hc⟩ <;> rw [hc] <;> rfl
def s31 : List AV → Boxes → M (AV × Boxes) := normS [.val (.sl (.pair .str .str)), .val (.sl (.pair .str (.pair .str (.int .i64))))] [] fun xs B => match xs, B with
  | [(.d (.sl (.pair .str .str) c1)), (.d (.sl (.pair .str (.pair .str (.int .i64))) c2))], [] => .chk (decide (List.length c1 ≤ 1000000 ∧ List.length c2 ≤ 1000000)) (.ret ((.d (.bool (allG c1 c2))), []))
  | _, _ => .fail
theorem s31_at : CallAt Tryd.prog 31 s31 := by
  refine CallAt.norm (CallAt.weakE (g := fun n => evCall F S16 n 31) (fun n => evCall_atH mixed kinds hds S16 S16_ok n 31) fun xs B r' B' hr => ?_) _ _
  split at hr
  · rename_i c1 c2
    obtain ⟨hp, hr⟩ := (M.run_chk _ _ _).1 hr
    simp only [M.run, Option.some.injEq, Prod.mk.injEq] at hr
    obtain ⟨rfl, rfl⟩ := hr
    obtain ⟨m, hm⟩ := all21 c1 c2 hp
    obtain ⟨r, B1, h1, h2, h3, h4⟩ := p31_ok m c1 c2 _ hm
    exact ⟨m + 25, r, B1, h1, by simp, h2, h3, h4⟩
  · simp [M.run] at hr
noncomputable def S17 : FuncId → Option (List AV → Boxes → M (AV × Boxes)) := fun f => if f = 31 then some s31 else S16 f
set_option maxHeartbeats 20000000 in
theorem S17_ok : ∀ f s, S17 f = some s → CallAt Tryd.prog f s := by
  intro f s h
  unfold S17 at h
  split at h
  · rename_i e; subst e; cases h; exact s31_at
  · exact S16_ok f s h

end Go.Proofs.YtcdpgldecikejaaDoor.Dec
namespace Go.Proofs.YtcdpgldecikejaaDoor.Dec
open Go.Ev
set_option linter.unusedVariables false
set_option linter.unusedSimpArgs false
set_option maxRecDepth 100000
noncomputable def fn32 : AFn := (F 32).getD ⟨0, [], .bad, false, false, noHd⟩
noncomputable def body32 : AC := fn32.body
def l32_0 (m : Nat) : Nat → List ((List UInt8) × (List UInt8) × Int) → Int → Int → Option (Nat × Int)
  | 0, _, _, _ => none
  | n + 1, x0, s6, s7 => if decide (s7 < s6) = true then
      if decide (0 ≤ s7) = true then
        if decide (s7 < (((List.length x0) : Nat) : Int)) = true then
          if decide (List.length (List.getD x0 (Int.toNat s7) (([] : List UInt8), (([] : List UInt8), 0))).1 ≤ 9223372036854775807) = true then
            if (wordG (List.getD x0 (Int.toNat s7) (([] : List UInt8), (([] : List UInt8), 0))).1) = true then
              if decide ((((List.length (List.getD x0 (Int.toNat s7) (([] : List UInt8), (([] : List UInt8), 0))).2.1) : Nat) : Int) > 24) = true then
                some (1, s7)
              else
                if ((List.getD x0 (Int.toNat s7) (([] : List UInt8), (([] : List UInt8), 0))).2.2 == (1)) = true then
                  if (([61] : List UInt8) == ([] : List UInt8)) = true then
                    some (2, s7)
                  else
                    l32_0 m n x0 s6 ((IntKind.wrap .i64 (s7 + (1))))
                else
                  if ((List.getD x0 (Int.toNat s7) (([] : List UInt8), (([] : List UInt8), 0))).2.2 == (2)) = true then
                    if (([33, 61] : List UInt8) == ([] : List UInt8)) = true then
                      some (3, s7)
                    else
                      l32_0 m n x0 s6 ((IntKind.wrap .i64 (s7 + (1))))
                  else
                    if ((List.getD x0 (Int.toNat s7) (([] : List UInt8), (([] : List UInt8), 0))).2.2 == (3)) = true then
                      if (([94, 61] : List UInt8) == ([] : List UInt8)) = true then
                        some (4, s7)
                      else
                        l32_0 m n x0 s6 ((IntKind.wrap .i64 (s7 + (1))))
                    else
                      if ((List.getD x0 (Int.toNat s7) (([] : List UInt8), (([] : List UInt8), 0))).2.2 == (4)) = true then
                        if (([33, 94] : List UInt8) == ([] : List UInt8)) = true then
                          some (5, s7)
                        else
                          l32_0 m n x0 s6 ((IntKind.wrap .i64 (s7 + (1))))
                      else
                        if (([] : List UInt8) == ([] : List UInt8)) = true then
                          some (6, s7)
                        else
                          l32_0 m n x0 s6 ((IntKind.wrap .i64 (s7 + (1))))
            else
              some (0, s7)
          else
            none
        else
          none
      else
        none
    else
      some (7, s7)
def l32_0D : Nat × Int := (0, 0)
@[reducible] def l32_0R (m n : Nat) (x0 : List ((List UInt8) × (List UInt8) × Int)) (s6 : Int) (s7 : Int) : Nat × Int := Option.getD (l32_0 m n x0 s6 s7) l32_0D
def l32_0H (x0 : List ((List UInt8) × (List UInt8) × Int)) (s6 : Int) (s7 : Int) : Env := [(.d (.sl (.pair .str (.pair .str (.int .i64))) x0)), .top, .top, .top, .top, (.d (.sl (.pair .str (.pair .str (.int .i64))) x0)), (.d (.int .i64 s6)), (.d (.int .i64 s7)), .top, .top, .top, .top, .top, .top, .top, .top, .top, .top, .top, .top, .top, .top, .top, .top, .top, .top, .top, .top, .top, .top, .top]
def l32_0B (x0 : List ((List UInt8) × (List UInt8) × Int)) (s6 : Int) (s7 : Int) : Boxes := []
def l32_0E (x0 : List ((List UInt8) × (List UInt8) × Int)) (s6 : Int) (s7 : Int) : Nat → AEx × Env × Boxes
  | 0 => (.ret, [(.d (.sl (.pair .str (.pair .str (.int .i64))) x0)), .top, (.d (.bool false)), .top, (.ptr 0 0), (.d (.sl (.pair .str (.pair .str (.int .i64))) x0)), (.d (.int .i64 s6)), (.d (.int .i64 s7)), (.d (.bool (decide (s7 < s6)))), (.cptr [(.str (List.getD x0 (Int.toNat s7) (([] : List UInt8), (([] : List UInt8), 0))).1), (.str (List.getD x0 (Int.toNat s7) (([] : List UInt8), (([] : List UInt8), 0))).2.1), (.int .i64 (List.getD x0 (Int.toNat s7) (([] : List UInt8), (([] : List UInt8), 0))).2.2)] 0), (.agg [(.d (.str (List.getD x0 (Int.toNat s7) (([] : List UInt8), (([] : List UInt8), 0))).1)), (.d (.str (List.getD x0 (Int.toNat s7) (([] : List UInt8), (([] : List UInt8), 0))).2.1)), (.d (.int .i64 (List.getD x0 (Int.toNat s7) (([] : List UInt8), (([] : List UInt8), 0))).2.2))]), (.ptr 0 0), (.d (.str (List.getD x0 (Int.toNat s7) (([] : List UInt8), (([] : List UInt8), 0))).1)), (.d (.bool (wordG (List.getD x0 (Int.toNat s7) (([] : List UInt8), (([] : List UInt8), 0))).1))), (.d (.bool (!(wordG (List.getD x0 (Int.toNat s7) (([] : List UInt8), (([] : List UInt8), 0))).1)))), (.d (.bool (!(wordG (List.getD x0 (Int.toNat s7) (([] : List UInt8), (([] : List UInt8), 0))).1)))), (.tup []), (.tup []), (.tup []), (.tup []), (.d (.bool true)), (.d (.bool true)), (.tup []), (.tup []), (.tup []), (.tup []), (.d (.bool true)), .top, .top, .top, .top], [(.cells [(.d (.str (List.getD x0 (Int.toNat s7) (([] : List UInt8), (([] : List UInt8), 0))).1)), (.d (.str (List.getD x0 (Int.toNat s7) (([] : List UInt8), (([] : List UInt8), 0))).2.1)), (.d (.int .i64 (List.getD x0 (Int.toNat s7) (([] : List UInt8), (([] : List UInt8), 0))).2.2))])])
  | 1 => (.ret, [(.d (.sl (.pair .str (.pair .str (.int .i64))) x0)), .top, (.d (.bool false)), .top, (.ptr 0 0), (.d (.sl (.pair .str (.pair .str (.int .i64))) x0)), (.d (.int .i64 s6)), (.d (.int .i64 s7)), (.d (.bool (decide (s7 < s6)))), (.cptr [(.str (List.getD x0 (Int.toNat s7) (([] : List UInt8), (([] : List UInt8), 0))).1), (.str (List.getD x0 (Int.toNat s7) (([] : List UInt8), (([] : List UInt8), 0))).2.1), (.int .i64 (List.getD x0 (Int.toNat s7) (([] : List UInt8), (([] : List UInt8), 0))).2.2)] 0), (.agg [(.d (.str (List.getD x0 (Int.toNat s7) (([] : List UInt8), (([] : List UInt8), 0))).1)), (.d (.str (List.getD x0 (Int.toNat s7) (([] : List UInt8), (([] : List UInt8), 0))).2.1)), (.d (.int .i64 (List.getD x0 (Int.toNat s7) (([] : List UInt8), (([] : List UInt8), 0))).2.2))]), (.ptr 0 0), (.d (.str (List.getD x0 (Int.toNat s7) (([] : List UInt8), (([] : List UInt8), 0))).1)), (.d (.bool (wordG (List.getD x0 (Int.toNat s7) (([] : List UInt8), (([] : List UInt8), 0))).1))), (.d (.bool (!(wordG (List.getD x0 (Int.toNat s7) (([] : List UInt8), (([] : List UInt8), 0))).1)))), (.d (.bool (!(wordG (List.getD x0 (Int.toNat s7) (([] : List UInt8), (([] : List UInt8), 0))).1)))), (.ptr 0 1), (.d (.str (List.getD x0 (Int.toNat s7) (([] : List UInt8), (([] : List UInt8), 0))).2.1)), (.d (.int .i64 (((List.length (List.getD x0 (Int.toNat s7) (([] : List UInt8), (([] : List UInt8), 0))).2.1) : Nat) : Int))), (.d (.bool (decide ((((List.length (List.getD x0 (Int.toNat s7) (([] : List UInt8), (([] : List UInt8), 0))).2.1) : Nat) : Int) > 24)))), (.d (.bool (decide ((((List.length (List.getD x0 (Int.toNat s7) (([] : List UInt8), (([] : List UInt8), 0))).2.1) : Nat) : Int) > 24)))), (.d (.bool (decide ((((List.length (List.getD x0 (Int.toNat s7) (([] : List UInt8), (([] : List UInt8), 0))).2.1) : Nat) : Int) > 24)))), (.tup []), (.tup []), (.tup []), (.tup []), (.d (.bool true)), .top, .top, .top, .top], [(.cells [(.d (.str (List.getD x0 (Int.toNat s7) (([] : List UInt8), (([] : List UInt8), 0))).1)), (.d (.str (List.getD x0 (Int.toNat s7) (([] : List UInt8), (([] : List UInt8), 0))).2.1)), (.d (.int .i64 (List.getD x0 (Int.toNat s7) (([] : List UInt8), (([] : List UInt8), 0))).2.2))])])
  | 2 => (.ret, [(.d (.sl (.pair .str (.pair .str (.int .i64))) x0)), .top, (.d (.bool false)), .top, (.ptr 0 0), (.d (.sl (.pair .str (.pair .str (.int .i64))) x0)), (.d (.int .i64 s6)), (.d (.int .i64 s7)), (.d (.bool (decide (s7 < s6)))), (.cptr [(.str (List.getD x0 (Int.toNat s7) (([] : List UInt8), (([] : List UInt8), 0))).1), (.str (List.getD x0 (Int.toNat s7) (([] : List UInt8), (([] : List UInt8), 0))).2.1), (.int .i64 (List.getD x0 (Int.toNat s7) (([] : List UInt8), (([] : List UInt8), 0))).2.2)] 0), (.agg [(.d (.str (List.getD x0 (Int.toNat s7) (([] : List UInt8), (([] : List UInt8), 0))).1)), (.d (.str (List.getD x0 (Int.toNat s7) (([] : List UInt8), (([] : List UInt8), 0))).2.1)), (.d (.int .i64 (List.getD x0 (Int.toNat s7) (([] : List UInt8), (([] : List UInt8), 0))).2.2))]), (.ptr 0 0), (.d (.str (List.getD x0 (Int.toNat s7) (([] : List UInt8), (([] : List UInt8), 0))).1)), (.d (.bool (wordG (List.getD x0 (Int.toNat s7) (([] : List UInt8), (([] : List UInt8), 0))).1))), (.d (.bool (!(wordG (List.getD x0 (Int.toNat s7) (([] : List UInt8), (([] : List UInt8), 0))).1)))), (.d (.bool (!(wordG (List.getD x0 (Int.toNat s7) (([] : List UInt8), (([] : List UInt8), 0))).1)))), (.ptr 0 1), (.d (.str (List.getD x0 (Int.toNat s7) (([] : List UInt8), (([] : List UInt8), 0))).2.1)), (.d (.int .i64 (((List.length (List.getD x0 (Int.toNat s7) (([] : List UInt8), (([] : List UInt8), 0))).2.1) : Nat) : Int))), (.d (.bool (decide ((((List.length (List.getD x0 (Int.toNat s7) (([] : List UInt8), (([] : List UInt8), 0))).2.1) : Nat) : Int) > 24)))), (.d (.bool (decide ((((List.length (List.getD x0 (Int.toNat s7) (([] : List UInt8), (([] : List UInt8), 0))).2.1) : Nat) : Int) > 24)))), (.d (.bool (decide ((((List.length (List.getD x0 (Int.toNat s7) (([] : List UInt8), (([] : List UInt8), 0))).2.1) : Nat) : Int) > 24)))), (.ptr 0 2), (.d (.int .i64 (List.getD x0 (Int.toNat s7) (([] : List UInt8), (([] : List UInt8), 0))).2.2)), (.d (.str ([61] : List UInt8))), (.d (.bool (([61] : List UInt8) == ([] : List UInt8)))), (.d (.bool (([61] : List UInt8) == ([] : List UInt8)))), .top, .top, .top, .top], [(.cells [(.d (.str (List.getD x0 (Int.toNat s7) (([] : List UInt8), (([] : List UInt8), 0))).1)), (.d (.str (List.getD x0 (Int.toNat s7) (([] : List UInt8), (([] : List UInt8), 0))).2.1)), (.d (.int .i64 (List.getD x0 (Int.toNat s7) (([] : List UInt8), (([] : List UInt8), 0))).2.2))])])
  | 3 => (.ret, [(.d (.sl (.pair .str (.pair .str (.int .i64))) x0)), .top, (.d (.bool false)), .top, (.ptr 0 0), (.d (.sl (.pair .str (.pair .str (.int .i64))) x0)), (.d (.int .i64 s6)), (.d (.int .i64 s7)), (.d (.bool (decide (s7 < s6)))), (.cptr [(.str (List.getD x0 (Int.toNat s7) (([] : List UInt8), (([] : List UInt8), 0))).1), (.str (List.getD x0 (Int.toNat s7) (([] : List UInt8), (([] : List UInt8), 0))).2.1), (.int .i64 (List.getD x0 (Int.toNat s7) (([] : List UInt8), (([] : List UInt8), 0))).2.2)] 0), (.agg [(.d (.str (List.getD x0 (Int.toNat s7) (([] : List UInt8), (([] : List UInt8), 0))).1)), (.d (.str (List.getD x0 (Int.toNat s7) (([] : List UInt8), (([] : List UInt8), 0))).2.1)), (.d (.int .i64 (List.getD x0 (Int.toNat s7) (([] : List UInt8), (([] : List UInt8), 0))).2.2))]), (.ptr 0 0), (.d (.str (List.getD x0 (Int.toNat s7) (([] : List UInt8), (([] : List UInt8), 0))).1)), (.d (.bool (wordG (List.getD x0 (Int.toNat s7) (([] : List UInt8), (([] : List UInt8), 0))).1))), (.d (.bool (!(wordG (List.getD x0 (Int.toNat s7) (([] : List UInt8), (([] : List UInt8), 0))).1)))), (.d (.bool (!(wordG (List.getD x0 (Int.toNat s7) (([] : List UInt8), (([] : List UInt8), 0))).1)))), (.ptr 0 1), (.d (.str (List.getD x0 (Int.toNat s7) (([] : List UInt8), (([] : List UInt8), 0))).2.1)), (.d (.int .i64 (((List.length (List.getD x0 (Int.toNat s7) (([] : List UInt8), (([] : List UInt8), 0))).2.1) : Nat) : Int))), (.d (.bool (decide ((((List.length (List.getD x0 (Int.toNat s7) (([] : List UInt8), (([] : List UInt8), 0))).2.1) : Nat) : Int) > 24)))), (.d (.bool (decide ((((List.length (List.getD x0 (Int.toNat s7) (([] : List UInt8), (([] : List UInt8), 0))).2.1) : Nat) : Int) > 24)))), (.d (.bool (decide ((((List.length (List.getD x0 (Int.toNat s7) (([] : List UInt8), (([] : List UInt8), 0))).2.1) : Nat) : Int) > 24)))), (.ptr 0 2), (.d (.int .i64 (List.getD x0 (Int.toNat s7) (([] : List UInt8), (([] : List UInt8), 0))).2.2)), (.d (.str ([33, 61] : List UInt8))), (.d (.bool (([33, 61] : List UInt8) == ([] : List UInt8)))), (.d (.bool (([33, 61] : List UInt8) == ([] : List UInt8)))), .top, .top, .top, .top], [(.cells [(.d (.str (List.getD x0 (Int.toNat s7) (([] : List UInt8), (([] : List UInt8), 0))).1)), (.d (.str (List.getD x0 (Int.toNat s7) (([] : List UInt8), (([] : List UInt8), 0))).2.1)), (.d (.int .i64 (List.getD x0 (Int.toNat s7) (([] : List UInt8), (([] : List UInt8), 0))).2.2))])])
  | 4 => (.ret, [(.d (.sl (.pair .str (.pair .str (.int .i64))) x0)), .top, (.d (.bool false)), .top, (.ptr 0 0), (.d (.sl (.pair .str (.pair .str (.int .i64))) x0)), (.d (.int .i64 s6)), (.d (.int .i64 s7)), (.d (.bool (decide (s7 < s6)))), (.cptr [(.str (List.getD x0 (Int.toNat s7) (([] : List UInt8), (([] : List UInt8), 0))).1), (.str (List.getD x0 (Int.toNat s7) (([] : List UInt8), (([] : List UInt8), 0))).2.1), (.int .i64 (List.getD x0 (Int.toNat s7) (([] : List UInt8), (([] : List UInt8), 0))).2.2)] 0), (.agg [(.d (.str (List.getD x0 (Int.toNat s7) (([] : List UInt8), (([] : List UInt8), 0))).1)), (.d (.str (List.getD x0 (Int.toNat s7) (([] : List UInt8), (([] : List UInt8), 0))).2.1)), (.d (.int .i64 (List.getD x0 (Int.toNat s7) (([] : List UInt8), (([] : List UInt8), 0))).2.2))]), (.ptr 0 0), (.d (.str (List.getD x0 (Int.toNat s7) (([] : List UInt8), (([] : List UInt8), 0))).1)), (.d (.bool (wordG (List.getD x0 (Int.toNat s7) (([] : List UInt8), (([] : List UInt8), 0))).1))), (.d (.bool (!(wordG (List.getD x0 (Int.toNat s7) (([] : List UInt8), (([] : List UInt8), 0))).1)))), (.d (.bool (!(wordG (List.getD x0 (Int.toNat s7) (([] : List UInt8), (([] : List UInt8), 0))).1)))), (.ptr 0 1), (.d (.str (List.getD x0 (Int.toNat s7) (([] : List UInt8), (([] : List UInt8), 0))).2.1)), (.d (.int .i64 (((List.length (List.getD x0 (Int.toNat s7) (([] : List UInt8), (([] : List UInt8), 0))).2.1) : Nat) : Int))), (.d (.bool (decide ((((List.length (List.getD x0 (Int.toNat s7) (([] : List UInt8), (([] : List UInt8), 0))).2.1) : Nat) : Int) > 24)))), (.d (.bool (decide ((((List.length (List.getD x0 (Int.toNat s7) (([] : List UInt8), (([] : List UInt8), 0))).2.1) : Nat) : Int) > 24)))), (.d (.bool (decide ((((List.length (List.getD x0 (Int.toNat s7) (([] : List UInt8), (([] : List UInt8), 0))).2.1) : Nat) : Int) > 24)))), (.ptr 0 2), (.d (.int .i64 (List.getD x0 (Int.toNat s7) (([] : List UInt8), (([] : List UInt8), 0))).2.2)), (.d (.str ([94, 61] : List UInt8))), (.d (.bool (([94, 61] : List UInt8) == ([] : List UInt8)))), (.d (.bool (([94, 61] : List UInt8) == ([] : List UInt8)))), .top, .top, .top, .top], [(.cells [(.d (.str (List.getD x0 (Int.toNat s7) (([] : List UInt8), (([] : List UInt8), 0))).1)), (.d (.str (List.getD x0 (Int.toNat s7) (([] : List UInt8), (([] : List UInt8), 0))).2.1)), (.d (.int .i64 (List.getD x0 (Int.toNat s7) (([] : List UInt8), (([] : List UInt8), 0))).2.2))])])
  | 5 => (.ret, [(.d (.sl (.pair .str (.pair .str (.int .i64))) x0)), .top, (.d (.bool false)), .top, (.ptr 0 0), (.d (.sl (.pair .str (.pair .str (.int .i64))) x0)), (.d (.int .i64 s6)), (.d (.int .i64 s7)), (.d (.bool (decide (s7 < s6)))), (.cptr [(.str (List.getD x0 (Int.toNat s7) (([] : List UInt8), (([] : List UInt8), 0))).1), (.str (List.getD x0 (Int.toNat s7) (([] : List UInt8), (([] : List UInt8), 0))).2.1), (.int .i64 (List.getD x0 (Int.toNat s7) (([] : List UInt8), (([] : List UInt8), 0))).2.2)] 0), (.agg [(.d (.str (List.getD x0 (Int.toNat s7) (([] : List UInt8), (([] : List UInt8), 0))).1)), (.d (.str (List.getD x0 (Int.toNat s7) (([] : List UInt8), (([] : List UInt8), 0))).2.1)), (.d (.int .i64 (List.getD x0 (Int.toNat s7) (([] : List UInt8), (([] : List UInt8), 0))).2.2))]), (.ptr 0 0), (.d (.str (List.getD x0 (Int.toNat s7) (([] : List UInt8), (([] : List UInt8), 0))).1)), (.d (.bool (wordG (List.getD x0 (Int.toNat s7) (([] : List UInt8), (([] : List UInt8), 0))).1))), (.d (.bool (!(wordG (List.getD x0 (Int.toNat s7) (([] : List UInt8), (([] : List UInt8), 0))).1)))), (.d (.bool (!(wordG (List.getD x0 (Int.toNat s7) (([] : List UInt8), (([] : List UInt8), 0))).1)))), (.ptr 0 1), (.d (.str (List.getD x0 (Int.toNat s7) (([] : List UInt8), (([] : List UInt8), 0))).2.1)), (.d (.int .i64 (((List.length (List.getD x0 (Int.toNat s7) (([] : List UInt8), (([] : List UInt8), 0))).2.1) : Nat) : Int))), (.d (.bool (decide ((((List.length (List.getD x0 (Int.toNat s7) (([] : List UInt8), (([] : List UInt8), 0))).2.1) : Nat) : Int) > 24)))), (.d (.bool (decide ((((List.length (List.getD x0 (Int.toNat s7) (([] : List UInt8), (([] : List UInt8), 0))).2.1) : Nat) : Int) > 24)))), (.d (.bool (decide ((((List.length (List.getD x0 (Int.toNat s7) (([] : List UInt8), (([] : List UInt8), 0))).2.1) : Nat) : Int) > 24)))), (.ptr 0 2), (.d (.int .i64 (List.getD x0 (Int.toNat s7) (([] : List UInt8), (([] : List UInt8), 0))).2.2)), (.d (.str ([33, 94] : List UInt8))), (.d (.bool (([33, 94] : List UInt8) == ([] : List UInt8)))), (.d (.bool (([33, 94] : List UInt8) == ([] : List UInt8)))), .top, .top, .top, .top], [(.cells [(.d (.str (List.getD x0 (Int.toNat s7) (([] : List UInt8), (([] : List UInt8), 0))).1)), (.d (.str (List.getD x0 (Int.toNat s7) (([] : List UInt8), (([] : List UInt8), 0))).2.1)), (.d (.int .i64 (List.getD x0 (Int.toNat s7) (([] : List UInt8), (([] : List UInt8), 0))).2.2))])])
  | 6 => (.ret, [(.d (.sl (.pair .str (.pair .str (.int .i64))) x0)), .top, (.d (.bool false)), .top, (.ptr 0 0), (.d (.sl (.pair .str (.pair .str (.int .i64))) x0)), (.d (.int .i64 s6)), (.d (.int .i64 s7)), (.d (.bool (decide (s7 < s6)))), (.cptr [(.str (List.getD x0 (Int.toNat s7) (([] : List UInt8), (([] : List UInt8), 0))).1), (.str (List.getD x0 (Int.toNat s7) (([] : List UInt8), (([] : List UInt8), 0))).2.1), (.int .i64 (List.getD x0 (Int.toNat s7) (([] : List UInt8), (([] : List UInt8), 0))).2.2)] 0), (.agg [(.d (.str (List.getD x0 (Int.toNat s7) (([] : List UInt8), (([] : List UInt8), 0))).1)), (.d (.str (List.getD x0 (Int.toNat s7) (([] : List UInt8), (([] : List UInt8), 0))).2.1)), (.d (.int .i64 (List.getD x0 (Int.toNat s7) (([] : List UInt8), (([] : List UInt8), 0))).2.2))]), (.ptr 0 0), (.d (.str (List.getD x0 (Int.toNat s7) (([] : List UInt8), (([] : List UInt8), 0))).1)), (.d (.bool (wordG (List.getD x0 (Int.toNat s7) (([] : List UInt8), (([] : List UInt8), 0))).1))), (.d (.bool (!(wordG (List.getD x0 (Int.toNat s7) (([] : List UInt8), (([] : List UInt8), 0))).1)))), (.d (.bool (!(wordG (List.getD x0 (Int.toNat s7) (([] : List UInt8), (([] : List UInt8), 0))).1)))), (.ptr 0 1), (.d (.str (List.getD x0 (Int.toNat s7) (([] : List UInt8), (([] : List UInt8), 0))).2.1)), (.d (.int .i64 (((List.length (List.getD x0 (Int.toNat s7) (([] : List UInt8), (([] : List UInt8), 0))).2.1) : Nat) : Int))), (.d (.bool (decide ((((List.length (List.getD x0 (Int.toNat s7) (([] : List UInt8), (([] : List UInt8), 0))).2.1) : Nat) : Int) > 24)))), (.d (.bool (decide ((((List.length (List.getD x0 (Int.toNat s7) (([] : List UInt8), (([] : List UInt8), 0))).2.1) : Nat) : Int) > 24)))), (.d (.bool (decide ((((List.length (List.getD x0 (Int.toNat s7) (([] : List UInt8), (([] : List UInt8), 0))).2.1) : Nat) : Int) > 24)))), (.ptr 0 2), (.d (.int .i64 (List.getD x0 (Int.toNat s7) (([] : List UInt8), (([] : List UInt8), 0))).2.2)), (.d (.str ([] : List UInt8))), (.d (.bool (([] : List UInt8) == ([] : List UInt8)))), (.d (.bool (([] : List UInt8) == ([] : List UInt8)))), .top, .top, .top, .top], [(.cells [(.d (.str (List.getD x0 (Int.toNat s7) (([] : List UInt8), (([] : List UInt8), 0))).1)), (.d (.str (List.getD x0 (Int.toNat s7) (([] : List UInt8), (([] : List UInt8), 0))).2.1)), (.d (.int .i64 (List.getD x0 (Int.toNat s7) (([] : List UInt8), (([] : List UInt8), 0))).2.2))])])
  | _ => (.exit 0, [(.d (.sl (.pair .str (.pair .str (.int .i64))) x0)), .top, .top, .top, .top, (.d (.sl (.pair .str (.pair .str (.int .i64))) x0)), (.d (.int .i64 s6)), (.d (.int .i64 s7)), (.d (.bool (decide (s7 < s6)))), .top, .top, .top, .top, .top, .top, .top, .top, .top, .top, .top, .top, .top, .top, .top, .top, .top, .top, .top, .top, .top, .top], [])
noncomputable def lbl32_0 : AC := loopBody 225 body32

set_option maxHeartbeats 20000000 in
theorem l32_0_w0 (m n : Nat) (x0 : List ((List UInt8) × (List UInt8) × Int)) (s6 : Int) (s7 : Int) (c0 : decide (s7 < s6) = true) (c1 : decide (0 ≤ s7) = true) (c2 : decide (s7 < (((List.length x0) : Nat) : Int)) = true) (c3 : decide (List.length (List.getD x0 (Int.toNat s7) (([] : List UInt8), (([] : List UInt8), 0))).1 ≤ 9223372036854775807) = true) (c4 : (wordG (List.getD x0 (Int.toNat s7) (([] : List UInt8), (([] : List UInt8), 0))).1) = true) (c9 : decide ((((List.length (List.getD x0 (Int.toNat s7) (([] : List UInt8), (([] : List UInt8), 0))).2.1) : Nat) : Int) > 24) = true) : (turns (hds 32 225) 0 225 (evC byref (evCall F S17 (m + 24)) (m + 24) 0 (hds 32) lbl32_0) (n + 1) (l32_0H x0 s6 s7) (l32_0B x0 s6 s7)).run = some (let r1 := (wordG (List.getD x0 (Int.toNat s7) (([] : List UInt8), (([] : List UInt8), 0))).1); (.ret, [(.d (.sl (.pair .str (.pair .str (.int .i64))) x0)), .top, (.d (.bool false)), .top, (.ptr 0 0), (.d (.sl (.pair .str (.pair .str (.int .i64))) x0)), (.d (.int .i64 s6)), (.d (.int .i64 s7)), (.d (.bool (decide (s7 < s6)))), (.cptr [(.str (List.getD x0 (Int.toNat s7) (([] : List UInt8), (([] : List UInt8), 0))).1), (.str (List.getD x0 (Int.toNat s7) (([] : List UInt8), (([] : List UInt8), 0))).2.1), (.int .i64 (List.getD x0 (Int.toNat s7) (([] : List UInt8), (([] : List UInt8), 0))).2.2)] 0), (.agg [(.d (.str (List.getD x0 (Int.toNat s7) (([] : List UInt8), (([] : List UInt8), 0))).1)), (.d (.str (List.getD x0 (Int.toNat s7) (([] : List UInt8), (([] : List UInt8), 0))).2.1)), (.d (.int .i64 (List.getD x0 (Int.toNat s7) (([] : List UInt8), (([] : List UInt8), 0))).2.2))]), (.ptr 0 0), (.d (.str (List.getD x0 (Int.toNat s7) (([] : List UInt8), (([] : List UInt8), 0))).1)), (.d (.bool r1)), (.d (.bool (!r1))), (.d (.bool (!r1))), (.ptr 0 1), (.d (.str (List.getD x0 (Int.toNat s7) (([] : List UInt8), (([] : List UInt8), 0))).2.1)), (.d (.int .i64 (((List.length (List.getD x0 (Int.toNat s7) (([] : List UInt8), (([] : List UInt8), 0))).2.1) : Nat) : Int))), (.d (.bool (decide ((((List.length (List.getD x0 (Int.toNat s7) (([] : List UInt8), (([] : List UInt8), 0))).2.1) : Nat) : Int) > 24)))), (.d (.bool (decide ((((List.length (List.getD x0 (Int.toNat s7) (([] : List UInt8), (([] : List UInt8), 0))).2.1) : Nat) : Int) > 24)))), (.d (.bool (decide ((((List.length (List.getD x0 (Int.toNat s7) (([] : List UInt8), (([] : List UInt8), 0))).2.1) : Nat) : Int) > 24)))), (.tup []), (.tup []), (.tup []), (.tup []), (.d (.bool true)), .top, .top, .top, .top], [(.cells [(.d (.str (List.getD x0 (Int.toNat s7) (([] : List UInt8), (([] : List UInt8), 0))).1)), (.d (.str (List.getD x0 (Int.toNat s7) (([] : List UInt8), (([] : List UInt8), 0))).2.1)), (.d (.int .i64 (List.getD x0 (Int.toNat s7) (([] : List UInt8), (([] : List UInt8), 0))).2.2))])])) := by
  exact turns_last (by simp) (M.run_of_path _ [true, true, true, true, false, false, false, false, false, true, true, true, true, true, true] _ _ (by kernel_rfl) (all_t c0 (all_t c1 (all_t c2 (all_t c3 (all_nt c4 (all_nt c4 (all_nt c4 (all_nt c4 (all_nt c4 (all_t c9 (all_t c9 (all_t c9 (all_t c9 (all_t c9 (all_t rfl all_nil)))))))))))))))) 
set_option maxHeartbeats 20000000 in
theorem l32_0_w1 (m n : Nat) (x0 : List ((List UInt8) × (List UInt8) × Int)) (s6 : Int) (s7 : Int) (c0 : decide (s7 < s6) = true) (c1 : decide (0 ≤ s7) = true) (c2 : decide (s7 < (((List.length x0) : Nat) : Int)) = true) (c3 : decide (List.length (List.getD x0 (Int.toNat s7) (([] : List UInt8), (([] : List UInt8), 0))).1 ≤ 9223372036854775807) = true) (c4 : (wordG (List.getD x0 (Int.toNat s7) (([] : List UInt8), (([] : List UInt8), 0))).1) = true) (c9 : ¬ decide ((((List.length (List.getD x0 (Int.toNat s7) (([] : List UInt8), (([] : List UInt8), 0))).2.1) : Nat) : Int) > 24) = true) (c12 : ((List.getD x0 (Int.toNat s7) (([] : List UInt8), (([] : List UInt8), 0))).2.2 == (1)) = true) (c15 : (([61] : List UInt8) == ([] : List UInt8)) = true) : (turns (hds 32 225) 0 225 (evC byref (evCall F S17 (m + 24)) (m + 24) 0 (hds 32) lbl32_0) (n + 1) (l32_0H x0 s6 s7) (l32_0B x0 s6 s7)).run = some (let r1 := (wordG (List.getD x0 (Int.toNat s7) (([] : List UInt8), (([] : List UInt8), 0))).1); (.ret, [(.d (.sl (.pair .str (.pair .str (.int .i64))) x0)), .top, (.d (.bool false)), .top, (.ptr 0 0), (.d (.sl (.pair .str (.pair .str (.int .i64))) x0)), (.d (.int .i64 s6)), (.d (.int .i64 s7)), (.d (.bool (decide (s7 < s6)))), (.cptr [(.str (List.getD x0 (Int.toNat s7) (([] : List UInt8), (([] : List UInt8), 0))).1), (.str (List.getD x0 (Int.toNat s7) (([] : List UInt8), (([] : List UInt8), 0))).2.1), (.int .i64 (List.getD x0 (Int.toNat s7) (([] : List UInt8), (([] : List UInt8), 0))).2.2)] 0), (.agg [(.d (.str (List.getD x0 (Int.toNat s7) (([] : List UInt8), (([] : List UInt8), 0))).1)), (.d (.str (List.getD x0 (Int.toNat s7) (([] : List UInt8), (([] : List UInt8), 0))).2.1)), (.d (.int .i64 (List.getD x0 (Int.toNat s7) (([] : List UInt8), (([] : List UInt8), 0))).2.2))]), (.ptr 0 0), (.d (.str (List.getD x0 (Int.toNat s7) (([] : List UInt8), (([] : List UInt8), 0))).1)), (.d (.bool r1)), (.d (.bool (!r1))), (.d (.bool (!r1))), (.ptr 0 1), (.d (.str (List.getD x0 (Int.toNat s7) (([] : List UInt8), (([] : List UInt8), 0))).2.1)), (.d (.int .i64 (((List.length (List.getD x0 (Int.toNat s7) (([] : List UInt8), (([] : List UInt8), 0))).2.1) : Nat) : Int))), (.d (.bool (decide ((((List.length (List.getD x0 (Int.toNat s7) (([] : List UInt8), (([] : List UInt8), 0))).2.1) : Nat) : Int) > 24)))), (.d (.bool (decide ((((List.length (List.getD x0 (Int.toNat s7) (([] : List UInt8), (([] : List UInt8), 0))).2.1) : Nat) : Int) > 24)))), (.d (.bool (decide ((((List.length (List.getD x0 (Int.toNat s7) (([] : List UInt8), (([] : List UInt8), 0))).2.1) : Nat) : Int) > 24)))), (.ptr 0 2), (.d (.int .i64 (List.getD x0 (Int.toNat s7) (([] : List UInt8), (([] : List UInt8), 0))).2.2)), (.d (.str ([61] : List UInt8))), (.d (.bool (([61] : List UInt8) == ([] : List UInt8)))), (.d (.bool (([61] : List UInt8) == ([] : List UInt8)))), .top, .top, .top, .top], [(.cells [(.d (.str (List.getD x0 (Int.toNat s7) (([] : List UInt8), (([] : List UInt8), 0))).1)), (.d (.str (List.getD x0 (Int.toNat s7) (([] : List UInt8), (([] : List UInt8), 0))).2.1)), (.d (.int .i64 (List.getD x0 (Int.toNat s7) (([] : List UInt8), (([] : List UInt8), 0))).2.2))])])) := by
  exact turns_last (by simp) (M.run_of_path _ [true, true, true, true, false, false, false, false, false, false, false, false, true, false, false, true] _ _ (by kernel_rfl) (all_t c0 (all_t c1 (all_t c2 (all_t c3 (all_nt c4 (all_nt c4 (all_nt c4 (all_nt c4 (all_nt c4 (all_f c9 (all_f c9 (all_f c9 (all_t c12 (all_f c9 (all_f c9 (all_t c15 all_nil))))))))))))))))) 
set_option maxHeartbeats 20000000 in
theorem l32_0_w2 (m n : Nat) (x0 : List ((List UInt8) × (List UInt8) × Int)) (s6 : Int) (s7 : Int) (r : AEx × Env × Boxes) (c0 : decide (s7 < s6) = true) (c1 : decide (0 ≤ s7) = true) (c2 : decide (s7 < (((List.length x0) : Nat) : Int)) = true) (c3 : decide (List.length (List.getD x0 (Int.toNat s7) (([] : List UInt8), (([] : List UInt8), 0))).1 ≤ 9223372036854775807) = true) (c4 : (wordG (List.getD x0 (Int.toNat s7) (([] : List UInt8), (([] : List UInt8), 0))).1) = true) (c9 : ¬ decide ((((List.length (List.getD x0 (Int.toNat s7) (([] : List UInt8), (([] : List UInt8), 0))).2.1) : Nat) : Int) > 24) = true) (c12 : ((List.getD x0 (Int.toNat s7) (([] : List UInt8), (([] : List UInt8), 0))).2.2 == (1)) = true) (c15 : ¬ (([61] : List UInt8) == ([] : List UInt8)) = true) (ih : (turns (hds 32 225) 0 225 (evC byref (evCall F S17 (m + 24)) (m + 24) 0 (hds 32) lbl32_0) n (l32_0H x0 s6 ((IntKind.wrap .i64 (s7 + (1))))) (l32_0B x0 s6 ((IntKind.wrap .i64 (s7 + (1)))))).run = some r) : (turns (hds 32 225) 0 225 (evC byref (evCall F S17 (m + 24)) (m + 24) 0 (hds 32) lbl32_0) (n + 1) (l32_0H x0 s6 s7) (l32_0B x0 s6 s7)).run = some r := by
  exact turns_step (M.run_of_path _ [true, true, true, true, false, false, false, false, false, false, false, false, true, false, false, false] _ _ (by kernel_rfl) (all_t c0 (all_t c1 (all_t c2 (all_t c3 (all_nt c4 (all_nt c4 (all_nt c4 (all_nt c4 (all_nt c4 (all_f c9 (all_f c9 (all_f c9 (all_t c12 (all_f c9 (all_f c9 (all_f c15 all_nil))))))))))))))))) ih
set_option maxHeartbeats 20000000 in
theorem l32_0_w3 (m n : Nat) (x0 : List ((List UInt8) × (List UInt8) × Int)) (s6 : Int) (s7 : Int) (c0 : decide (s7 < s6) = true) (c1 : decide (0 ≤ s7) = true) (c2 : decide (s7 < (((List.length x0) : Nat) : Int)) = true) (c3 : decide (List.length (List.getD x0 (Int.toNat s7) (([] : List UInt8), (([] : List UInt8), 0))).1 ≤ 9223372036854775807) = true) (c4 : (wordG (List.getD x0 (Int.toNat s7) (([] : List UInt8), (([] : List UInt8), 0))).1) = true) (c9 : ¬ decide ((((List.length (List.getD x0 (Int.toNat s7) (([] : List UInt8), (([] : List UInt8), 0))).2.1) : Nat) : Int) > 24) = true) (c12 : ¬ ((List.getD x0 (Int.toNat s7) (([] : List UInt8), (([] : List UInt8), 0))).2.2 == (1)) = true) (c13 : ((List.getD x0 (Int.toNat s7) (([] : List UInt8), (([] : List UInt8), 0))).2.2 == (2)) = true) (c16 : (([33, 61] : List UInt8) == ([] : List UInt8)) = true) : (turns (hds 32 225) 0 225 (evC byref (evCall F S17 (m + 24)) (m + 24) 0 (hds 32) lbl32_0) (n + 1) (l32_0H x0 s6 s7) (l32_0B x0 s6 s7)).run = some (let r1 := (wordG (List.getD x0 (Int.toNat s7) (([] : List UInt8), (([] : List UInt8), 0))).1); (.ret, [(.d (.sl (.pair .str (.pair .str (.int .i64))) x0)), .top, (.d (.bool false)), .top, (.ptr 0 0), (.d (.sl (.pair .str (.pair .str (.int .i64))) x0)), (.d (.int .i64 s6)), (.d (.int .i64 s7)), (.d (.bool (decide (s7 < s6)))), (.cptr [(.str (List.getD x0 (Int.toNat s7) (([] : List UInt8), (([] : List UInt8), 0))).1), (.str (List.getD x0 (Int.toNat s7) (([] : List UInt8), (([] : List UInt8), 0))).2.1), (.int .i64 (List.getD x0 (Int.toNat s7) (([] : List UInt8), (([] : List UInt8), 0))).2.2)] 0), (.agg [(.d (.str (List.getD x0 (Int.toNat s7) (([] : List UInt8), (([] : List UInt8), 0))).1)), (.d (.str (List.getD x0 (Int.toNat s7) (([] : List UInt8), (([] : List UInt8), 0))).2.1)), (.d (.int .i64 (List.getD x0 (Int.toNat s7) (([] : List UInt8), (([] : List UInt8), 0))).2.2))]), (.ptr 0 0), (.d (.str (List.getD x0 (Int.toNat s7) (([] : List UInt8), (([] : List UInt8), 0))).1)), (.d (.bool r1)), (.d (.bool (!r1))), (.d (.bool (!r1))), (.ptr 0 1), (.d (.str (List.getD x0 (Int.toNat s7) (([] : List UInt8), (([] : List UInt8), 0))).2.1)), (.d (.int .i64 (((List.length (List.getD x0 (Int.toNat s7) (([] : List UInt8), (([] : List UInt8), 0))).2.1) : Nat) : Int))), (.d (.bool (decide ((((List.length (List.getD x0 (Int.toNat s7) (([] : List UInt8), (([] : List UInt8), 0))).2.1) : Nat) : Int) > 24)))), (.d (.bool (decide ((((List.length (List.getD x0 (Int.toNat s7) (([] : List UInt8), (([] : List UInt8), 0))).2.1) : Nat) : Int) > 24)))), (.d (.bool (decide ((((List.length (List.getD x0 (Int.toNat s7) (([] : List UInt8), (([] : List UInt8), 0))).2.1) : Nat) : Int) > 24)))), (.ptr 0 2), (.d (.int .i64 (List.getD x0 (Int.toNat s7) (([] : List UInt8), (([] : List UInt8), 0))).2.2)), (.d (.str ([33, 61] : List UInt8))), (.d (.bool (([33, 61] : List UInt8) == ([] : List UInt8)))), (.d (.bool (([33, 61] : List UInt8) == ([] : List UInt8)))), .top, .top, .top, .top], [(.cells [(.d (.str (List.getD x0 (Int.toNat s7) (([] : List UInt8), (([] : List UInt8), 0))).1)), (.d (.str (List.getD x0 (Int.toNat s7) (([] : List UInt8), (([] : List UInt8), 0))).2.1)), (.d (.int .i64 (List.getD x0 (Int.toNat s7) (([] : List UInt8), (([] : List UInt8), 0))).2.2))])])) := by
  exact turns_last (by simp) (M.run_of_path _ [true, true, true, true, false, false, false, false, false, false, false, false, false, true, false, false, true] _ _ (by kernel_rfl) (all_t c0 (all_t c1 (all_t c2 (all_t c3 (all_nt c4 (all_nt c4 (all_nt c4 (all_nt c4 (all_nt c4 (all_f c9 (all_f c9 (all_f c9 (all_f c12 (all_t c13 (all_f c9 (all_f c9 (all_t c16 all_nil)))))))))))))))))) 
set_option maxHeartbeats 20000000 in
theorem l32_0_w4 (m n : Nat) (x0 : List ((List UInt8) × (List UInt8) × Int)) (s6 : Int) (s7 : Int) (r : AEx × Env × Boxes) (c0 : decide (s7 < s6) = true) (c1 : decide (0 ≤ s7) = true) (c2 : decide (s7 < (((List.length x0) : Nat) : Int)) = true) (c3 : decide (List.length (List.getD x0 (Int.toNat s7) (([] : List UInt8), (([] : List UInt8), 0))).1 ≤ 9223372036854775807) = true) (c4 : (wordG (List.getD x0 (Int.toNat s7) (([] : List UInt8), (([] : List UInt8), 0))).1) = true) (c9 : ¬ decide ((((List.length (List.getD x0 (Int.toNat s7) (([] : List UInt8), (([] : List UInt8), 0))).2.1) : Nat) : Int) > 24) = true) (c12 : ¬ ((List.getD x0 (Int.toNat s7) (([] : List UInt8), (([] : List UInt8), 0))).2.2 == (1)) = true) (c13 : ((List.getD x0 (Int.toNat s7) (([] : List UInt8), (([] : List UInt8), 0))).2.2 == (2)) = true) (c16 : ¬ (([33, 61] : List UInt8) == ([] : List UInt8)) = true) (ih : (turns (hds 32 225) 0 225 (evC byref (evCall F S17 (m + 24)) (m + 24) 0 (hds 32) lbl32_0) n (l32_0H x0 s6 ((IntKind.wrap .i64 (s7 + (1))))) (l32_0B x0 s6 ((IntKind.wrap .i64 (s7 + (1)))))).run = some r) : (turns (hds 32 225) 0 225 (evC byref (evCall F S17 (m + 24)) (m + 24) 0 (hds 32) lbl32_0) (n + 1) (l32_0H x0 s6 s7) (l32_0B x0 s6 s7)).run = some r := by
  exact turns_step (M.run_of_path _ [true, true, true, true, false, false, false, false, false, false, false, false, false, true, false, false, false] _ _ (by kernel_rfl) (all_t c0 (all_t c1 (all_t c2 (all_t c3 (all_nt c4 (all_nt c4 (all_nt c4 (all_nt c4 (all_nt c4 (all_f c9 (all_f c9 (all_f c9 (all_f c12 (all_t c13 (all_f c9 (all_f c9 (all_f c16 all_nil)))))))))))))))))) ih
set_option maxHeartbeats 20000000 in
theorem l32_0_w5 (m n : Nat) (x0 : List ((List UInt8) × (List UInt8) × Int)) (s6 : Int) (s7 : Int) (c0 : decide (s7 < s6) = true) (c1 : decide (0 ≤ s7) = true) (c2 : decide (s7 < (((List.length x0) : Nat) : Int)) = true) (c3 : decide (List.length (List.getD x0 (Int.toNat s7) (([] : List UInt8), (([] : List UInt8), 0))).1 ≤ 9223372036854775807) = true) (c4 : (wordG (List.getD x0 (Int.toNat s7) (([] : List UInt8), (([] : List UInt8), 0))).1) = true) (c9 : ¬ decide ((((List.length (List.getD x0 (Int.toNat s7) (([] : List UInt8), (([] : List UInt8), 0))).2.1) : Nat) : Int) > 24) = true) (c12 : ¬ ((List.getD x0 (Int.toNat s7) (([] : List UInt8), (([] : List UInt8), 0))).2.2 == (1)) = true) (c13 : ¬ ((List.getD x0 (Int.toNat s7) (([] : List UInt8), (([] : List UInt8), 0))).2.2 == (2)) = true) (c14 : ((List.getD x0 (Int.toNat s7) (([] : List UInt8), (([] : List UInt8), 0))).2.2 == (3)) = true) (c17 : (([94, 61] : List UInt8) == ([] : List UInt8)) = true) : (turns (hds 32 225) 0 225 (evC byref (evCall F S17 (m + 24)) (m + 24) 0 (hds 32) lbl32_0) (n + 1) (l32_0H x0 s6 s7) (l32_0B x0 s6 s7)).run = some (let r1 := (wordG (List.getD x0 (Int.toNat s7) (([] : List UInt8), (([] : List UInt8), 0))).1); (.ret, [(.d (.sl (.pair .str (.pair .str (.int .i64))) x0)), .top, (.d (.bool false)), .top, (.ptr 0 0), (.d (.sl (.pair .str (.pair .str (.int .i64))) x0)), (.d (.int .i64 s6)), (.d (.int .i64 s7)), (.d (.bool (decide (s7 < s6)))), (.cptr [(.str (List.getD x0 (Int.toNat s7) (([] : List UInt8), (([] : List UInt8), 0))).1), (.str (List.getD x0 (Int.toNat s7) (([] : List UInt8), (([] : List UInt8), 0))).2.1), (.int .i64 (List.getD x0 (Int.toNat s7) (([] : List UInt8), (([] : List UInt8), 0))).2.2)] 0), (.agg [(.d (.str (List.getD x0 (Int.toNat s7) (([] : List UInt8), (([] : List UInt8), 0))).1)), (.d (.str (List.getD x0 (Int.toNat s7) (([] : List UInt8), (([] : List UInt8), 0))).2.1)), (.d (.int .i64 (List.getD x0 (Int.toNat s7) (([] : List UInt8), (([] : List UInt8), 0))).2.2))]), (.ptr 0 0), (.d (.str (List.getD x0 (Int.toNat s7) (([] : List UInt8), (([] : List UInt8), 0))).1)), (.d (.bool r1)), (.d (.bool (!r1))), (.d (.bool (!r1))), (.ptr 0 1), (.d (.str (List.getD x0 (Int.toNat s7) (([] : List UInt8), (([] : List UInt8), 0))).2.1)), (.d (.int .i64 (((List.length (List.getD x0 (Int.toNat s7) (([] : List UInt8), (([] : List UInt8), 0))).2.1) : Nat) : Int))), (.d (.bool (decide ((((List.length (List.getD x0 (Int.toNat s7) (([] : List UInt8), (([] : List UInt8), 0))).2.1) : Nat) : Int) > 24)))), (.d (.bool (decide ((((List.length (List.getD x0 (Int.toNat s7) (([] : List UInt8), (([] : List UInt8), 0))).2.1) : Nat) : Int) > 24)))), (.d (.bool (decide ((((List.length (List.getD x0 (Int.toNat s7) (([] : List UInt8), (([] : List UInt8), 0))).2.1) : Nat) : Int) > 24)))), (.ptr 0 2), (.d (.int .i64 (List.getD x0 (Int.toNat s7) (([] : List UInt8), (([] : List UInt8), 0))).2.2)), (.d (.str ([94, 61] : List UInt8))), (.d (.bool (([94, 61] : List UInt8) == ([] : List UInt8)))), (.d (.bool (([94, 61] : List UInt8) == ([] : List UInt8)))), .top, .top, .top, .top], [(.cells [(.d (.str (List.getD x0 (Int.toNat s7) (([] : List UInt8), (([] : List UInt8), 0))).1)), (.d (.str (List.getD x0 (Int.toNat s7) (([] : List UInt8), (([] : List UInt8), 0))).2.1)), (.d (.int .i64 (List.getD x0 (Int.toNat s7) (([] : List UInt8), (([] : List UInt8), 0))).2.2))])])) := by
  exact turns_last (by simp) (M.run_of_path _ [true, true, true, true, false, false, false, false, false, false, false, false, false, false, true, false, false, true] _ _ (by kernel_rfl) (all_t c0 (all_t c1 (all_t c2 (all_t c3 (all_nt c4 (all_nt c4 (all_nt c4 (all_nt c4 (all_nt c4 (all_f c9 (all_f c9 (all_f c9 (all_f c12 (all_f c13 (all_t c14 (all_f c9 (all_f c9 (all_t c17 all_nil))))))))))))))))))) 
set_option maxHeartbeats 20000000 in
theorem l32_0_w6 (m n : Nat) (x0 : List ((List UInt8) × (List UInt8) × Int)) (s6 : Int) (s7 : Int) (r : AEx × Env × Boxes) (c0 : decide (s7 < s6) = true) (c1 : decide (0 ≤ s7) = true) (c2 : decide (s7 < (((List.length x0) : Nat) : Int)) = true) (c3 : decide (List.length (List.getD x0 (Int.toNat s7) (([] : List UInt8), (([] : List UInt8), 0))).1 ≤ 9223372036854775807) = true) (c4 : (wordG (List.getD x0 (Int.toNat s7) (([] : List UInt8), (([] : List UInt8), 0))).1) = true) (c9 : ¬ decide ((((List.length (List.getD x0 (Int.toNat s7) (([] : List UInt8), (([] : List UInt8), 0))).2.1) : Nat) : Int) > 24) = true) (c12 : ¬ ((List.getD x0 (Int.toNat s7) (([] : List UInt8), (([] : List UInt8), 0))).2.2 == (1)) = true) (c13 : ¬ ((List.getD x0 (Int.toNat s7) (([] : List UInt8), (([] : List UInt8), 0))).2.2 == (2)) = true) (c14 : ((List.getD x0 (Int.toNat s7) (([] : List UInt8), (([] : List UInt8), 0))).2.2 == (3)) = true) (c17 : ¬ (([94, 61] : List UInt8) == ([] : List UInt8)) = true) (ih : (turns (hds 32 225) 0 225 (evC byref (evCall F S17 (m + 24)) (m + 24) 0 (hds 32) lbl32_0) n (l32_0H x0 s6 ((IntKind.wrap .i64 (s7 + (1))))) (l32_0B x0 s6 ((IntKind.wrap .i64 (s7 + (1)))))).run = some r) : (turns (hds 32 225) 0 225 (evC byref (evCall F S17 (m + 24)) (m + 24) 0 (hds 32) lbl32_0) (n + 1) (l32_0H x0 s6 s7) (l32_0B x0 s6 s7)).run = some r := by
  exact turns_step (M.run_of_path _ [true, true, true, true, false, false, false, false, false, false, false, false, false, false, true, false, false, false] _ _ (by kernel_rfl) (all_t c0 (all_t c1 (all_t c2 (all_t c3 (all_nt c4 (all_nt c4 (all_nt c4 (all_nt c4 (all_nt c4 (all_f c9 (all_f c9 (all_f c9 (all_f c12 (all_f c13 (all_t c14 (all_f c9 (all_f c9 (all_f c17 all_nil))))))))))))))))))) ih
set_option maxHeartbeats 20000000 in
theorem l32_0_w7 (m n : Nat) (x0 : List ((List UInt8) × (List UInt8) × Int)) (s6 : Int) (s7 : Int) (c0 : decide (s7 < s6) = true) (c1 : decide (0 ≤ s7) = true) (c2 : decide (s7 < (((List.length x0) : Nat) : Int)) = true) (c3 : decide (List.length (List.getD x0 (Int.toNat s7) (([] : List UInt8), (([] : List UInt8), 0))).1 ≤ 9223372036854775807) = true) (c4 : (wordG (List.getD x0 (Int.toNat s7) (([] : List UInt8), (([] : List UInt8), 0))).1) = true) (c9 : ¬ decide ((((List.length (List.getD x0 (Int.toNat s7) (([] : List UInt8), (([] : List UInt8), 0))).2.1) : Nat) : Int) > 24) = true) (c12 : ¬ ((List.getD x0 (Int.toNat s7) (([] : List UInt8), (([] : List UInt8), 0))).2.2 == (1)) = true) (c13 : ¬ ((List.getD x0 (Int.toNat s7) (([] : List UInt8), (([] : List UInt8), 0))).2.2 == (2)) = true) (c14 : ¬ ((List.getD x0 (Int.toNat s7) (([] : List UInt8), (([] : List UInt8), 0))).2.2 == (3)) = true) (c15 : ((List.getD x0 (Int.toNat s7) (([] : List UInt8), (([] : List UInt8), 0))).2.2 == (4)) = true) (c18 : (([33, 94] : List UInt8) == ([] : List UInt8)) = true) : (turns (hds 32 225) 0 225 (evC byref (evCall F S17 (m + 24)) (m + 24) 0 (hds 32) lbl32_0) (n + 1) (l32_0H x0 s6 s7) (l32_0B x0 s6 s7)).run = some (let r1 := (wordG (List.getD x0 (Int.toNat s7) (([] : List UInt8), (([] : List UInt8), 0))).1); (.ret, [(.d (.sl (.pair .str (.pair .str (.int .i64))) x0)), .top, (.d (.bool false)), .top, (.ptr 0 0), (.d (.sl (.pair .str (.pair .str (.int .i64))) x0)), (.d (.int .i64 s6)), (.d (.int .i64 s7)), (.d (.bool (decide (s7 < s6)))), (.cptr [(.str (List.getD x0 (Int.toNat s7) (([] : List UInt8), (([] : List UInt8), 0))).1), (.str (List.getD x0 (Int.toNat s7) (([] : List UInt8), (([] : List UInt8), 0))).2.1), (.int .i64 (List.getD x0 (Int.toNat s7) (([] : List UInt8), (([] : List UInt8), 0))).2.2)] 0), (.agg [(.d (.str (List.getD x0 (Int.toNat s7) (([] : List UInt8), (([] : List UInt8), 0))).1)), (.d (.str (List.getD x0 (Int.toNat s7) (([] : List UInt8), (([] : List UInt8), 0))).2.1)), (.d (.int .i64 (List.getD x0 (Int.toNat s7) (([] : List UInt8), (([] : List UInt8), 0))).2.2))]), (.ptr 0 0), (.d (.str (List.getD x0 (Int.toNat s7) (([] : List UInt8), (([] : List UInt8), 0))).1)), (.d (.bool r1)), (.d (.bool (!r1))), (.d (.bool (!r1))), (.ptr 0 1), (.d (.str (List.getD x0 (Int.toNat s7) (([] : List UInt8), (([] : List UInt8), 0))).2.1)), (.d (.int .i64 (((List.length (List.getD x0 (Int.toNat s7) (([] : List UInt8), (([] : List UInt8), 0))).2.1) : Nat) : Int))), (.d (.bool (decide ((((List.length (List.getD x0 (Int.toNat s7) (([] : List UInt8), (([] : List UInt8), 0))).2.1) : Nat) : Int) > 24)))), (.d (.bool (decide ((((List.length (List.getD x0 (Int.toNat s7) (([] : List UInt8), (([] : List UInt8), 0))).2.1) : Nat) : Int) > 24)))), (.d (.bool (decide ((((List.length (List.getD x0 (Int.toNat s7) (([] : List UInt8), (([] : List UInt8), 0))).2.1) : Nat) : Int) > 24)))), (.ptr 0 2), (.d (.int .i64 (List.getD x0 (Int.toNat s7) (([] : List UInt8), (([] : List UInt8), 0))).2.2)), (.d (.str ([33, 94] : List UInt8))), (.d (.bool (([33, 94] : List UInt8) == ([] : List UInt8)))), (.d (.bool (([33, 94] : List UInt8) == ([] : List UInt8)))), .top, .top, .top, .top], [(.cells [(.d (.str (List.getD x0 (Int.toNat s7) (([] : List UInt8), (([] : List UInt8), 0))).1)), (.d (.str (List.getD x0 (Int.toNat s7) (([] : List UInt8), (([] : List UInt8), 0))).2.1)), (.d (.int .i64 (List.getD x0 (Int.toNat s7) (([] : List UInt8), (([] : List UInt8), 0))).2.2))])])) := by
  exact turns_last (by simp) (M.run_of_path _ [true, true, true, true, false, false, false, false, false, false, false, false, false, false, false, true, false, false, true] _ _ (by kernel_rfl) (all_t c0 (all_t c1 (all_t c2 (all_t c3 (all_nt c4 (all_nt c4 (all_nt c4 (all_nt c4 (all_nt c4 (all_f c9 (all_f c9 (all_f c9 (all_f c12 (all_f c13 (all_f c14 (all_t c15 (all_f c9 (all_f c9 (all_t c18 all_nil)))))))))))))))))))) 
set_option maxHeartbeats 20000000 in
theorem l32_0_w8 (m n : Nat) (x0 : List ((List UInt8) × (List UInt8) × Int)) (s6 : Int) (s7 : Int) (r : AEx × Env × Boxes) (c0 : decide (s7 < s6) = true) (c1 : decide (0 ≤ s7) = true) (c2 : decide (s7 < (((List.length x0) : Nat) : Int)) = true) (c3 : decide (List.length (List.getD x0 (Int.toNat s7) (([] : List UInt8), (([] : List UInt8), 0))).1 ≤ 9223372036854775807) = true) (c4 : (wordG (List.getD x0 (Int.toNat s7) (([] : List UInt8), (([] : List UInt8), 0))).1) = true) (c9 : ¬ decide ((((List.length (List.getD x0 (Int.toNat s7) (([] : List UInt8), (([] : List UInt8), 0))).2.1) : Nat) : Int) > 24) = true) (c12 : ¬ ((List.getD x0 (Int.toNat s7) (([] : List UInt8), (([] : List UInt8), 0))).2.2 == (1)) = true) (c13 : ¬ ((List.getD x0 (Int.toNat s7) (([] : List UInt8), (([] : List UInt8), 0))).2.2 == (2)) = true) (c14 : ¬ ((List.getD x0 (Int.toNat s7) (([] : List UInt8), (([] : List UInt8), 0))).2.2 == (3)) = true) (c15 : ((List.getD x0 (Int.toNat s7) (([] : List UInt8), (([] : List UInt8), 0))).2.2 == (4)) = true) (c18 : ¬ (([33, 94] : List UInt8) == ([] : List UInt8)) = true) (ih : (turns (hds 32 225) 0 225 (evC byref (evCall F S17 (m + 24)) (m + 24) 0 (hds 32) lbl32_0) n (l32_0H x0 s6 ((IntKind.wrap .i64 (s7 + (1))))) (l32_0B x0 s6 ((IntKind.wrap .i64 (s7 + (1)))))).run = some r) : (turns (hds 32 225) 0 225 (evC byref (evCall F S17 (m + 24)) (m + 24) 0 (hds 32) lbl32_0) (n + 1) (l32_0H x0 s6 s7) (l32_0B x0 s6 s7)).run = some r := by
  exact turns_step (M.run_of_path _ [true, true, true, true, false, false, false, false, false, false, false, false, false, false, false, true, false, false, false] _ _ (by kernel_rfl) (all_t c0 (all_t c1 (all_t c2 (all_t c3 (all_nt c4 (all_nt c4 (all_nt c4 (all_nt c4 (all_nt c4 (all_f c9 (all_f c9 (all_f c9 (all_f c12 (all_f c13 (all_f c14 (all_t c15 (all_f c9 (all_f c9 (all_f c18 all_nil)))))))))))))))))))) ih
set_option maxHeartbeats 20000000 in
theorem l32_0_w9 (m n : Nat) (x0 : List ((List UInt8) × (List UInt8) × Int)) (s6 : Int) (s7 : Int) (c0 : decide (s7 < s6) = true) (c1 : decide (0 ≤ s7) = true) (c2 : decide (s7 < (((List.length x0) : Nat) : Int)) = true) (c3 : decide (List.length (List.getD x0 (Int.toNat s7) (([] : List UInt8), (([] : List UInt8), 0))).1 ≤ 9223372036854775807) = true) (c4 : (wordG (List.getD x0 (Int.toNat s7) (([] : List UInt8), (([] : List UInt8), 0))).1) = true) (c9 : ¬ decide ((((List.length (List.getD x0 (Int.toNat s7) (([] : List UInt8), (([] : List UInt8), 0))).2.1) : Nat) : Int) > 24) = true) (c12 : ¬ ((List.getD x0 (Int.toNat s7) (([] : List UInt8), (([] : List UInt8), 0))).2.2 == (1)) = true) (c13 : ¬ ((List.getD x0 (Int.toNat s7) (([] : List UInt8), (([] : List UInt8), 0))).2.2 == (2)) = true) (c14 : ¬ ((List.getD x0 (Int.toNat s7) (([] : List UInt8), (([] : List UInt8), 0))).2.2 == (3)) = true) (c15 : ¬ ((List.getD x0 (Int.toNat s7) (([] : List UInt8), (([] : List UInt8), 0))).2.2 == (4)) = true) (c18 : (([] : List UInt8) == ([] : List UInt8)) = true) : (turns (hds 32 225) 0 225 (evC byref (evCall F S17 (m + 24)) (m + 24) 0 (hds 32) lbl32_0) (n + 1) (l32_0H x0 s6 s7) (l32_0B x0 s6 s7)).run = some (let r1 := (wordG (List.getD x0 (Int.toNat s7) (([] : List UInt8), (([] : List UInt8), 0))).1); (.ret, [(.d (.sl (.pair .str (.pair .str (.int .i64))) x0)), .top, (.d (.bool false)), .top, (.ptr 0 0), (.d (.sl (.pair .str (.pair .str (.int .i64))) x0)), (.d (.int .i64 s6)), (.d (.int .i64 s7)), (.d (.bool (decide (s7 < s6)))), (.cptr [(.str (List.getD x0 (Int.toNat s7) (([] : List UInt8), (([] : List UInt8), 0))).1), (.str (List.getD x0 (Int.toNat s7) (([] : List UInt8), (([] : List UInt8), 0))).2.1), (.int .i64 (List.getD x0 (Int.toNat s7) (([] : List UInt8), (([] : List UInt8), 0))).2.2)] 0), (.agg [(.d (.str (List.getD x0 (Int.toNat s7) (([] : List UInt8), (([] : List UInt8), 0))).1)), (.d (.str (List.getD x0 (Int.toNat s7) (([] : List UInt8), (([] : List UInt8), 0))).2.1)), (.d (.int .i64 (List.getD x0 (Int.toNat s7) (([] : List UInt8), (([] : List UInt8), 0))).2.2))]), (.ptr 0 0), (.d (.str (List.getD x0 (Int.toNat s7) (([] : List UInt8), (([] : List UInt8), 0))).1)), (.d (.bool r1)), (.d (.bool (!r1))), (.d (.bool (!r1))), (.ptr 0 1), (.d (.str (List.getD x0 (Int.toNat s7) (([] : List UInt8), (([] : List UInt8), 0))).2.1)), (.d (.int .i64 (((List.length (List.getD x0 (Int.toNat s7) (([] : List UInt8), (([] : List UInt8), 0))).2.1) : Nat) : Int))), (.d (.bool (decide ((((List.length (List.getD x0 (Int.toNat s7) (([] : List UInt8), (([] : List UInt8), 0))).2.1) : Nat) : Int) > 24)))), (.d (.bool (decide ((((List.length (List.getD x0 (Int.toNat s7) (([] : List UInt8), (([] : List UInt8), 0))).2.1) : Nat) : Int) > 24)))), (.d (.bool (decide ((((List.length (List.getD x0 (Int.toNat s7) (([] : List UInt8), (([] : List UInt8), 0))).2.1) : Nat) : Int) > 24)))), (.ptr 0 2), (.d (.int .i64 (List.getD x0 (Int.toNat s7) (([] : List UInt8), (([] : List UInt8), 0))).2.2)), (.d (.str ([] : List UInt8))), (.d (.bool (([] : List UInt8) == ([] : List UInt8)))), (.d (.bool (([] : List UInt8) == ([] : List UInt8)))), .top, .top, .top, .top], [(.cells [(.d (.str (List.getD x0 (Int.toNat s7) (([] : List UInt8), (([] : List UInt8), 0))).1)), (.d (.str (List.getD x0 (Int.toNat s7) (([] : List UInt8), (([] : List UInt8), 0))).2.1)), (.d (.int .i64 (List.getD x0 (Int.toNat s7) (([] : List UInt8), (([] : List UInt8), 0))).2.2))])])) := by
  exact turns_last (by simp) (M.run_of_path _ [true, true, true, true, false, false, false, false, false, false, false, false, false, false, false, false, false, false, true] _ _ (by kernel_rfl) (all_t c0 (all_t c1 (all_t c2 (all_t c3 (all_nt c4 (all_nt c4 (all_nt c4 (all_nt c4 (all_nt c4 (all_f c9 (all_f c9 (all_f c9 (all_f c12 (all_f c13 (all_f c14 (all_f c15 (all_f c9 (all_f c9 (all_t c18 all_nil)))))))))))))))))))) 
set_option maxHeartbeats 20000000 in
theorem l32_0_w10 (m n : Nat) (x0 : List ((List UInt8) × (List UInt8) × Int)) (s6 : Int) (s7 : Int) (r : AEx × Env × Boxes) (c0 : decide (s7 < s6) = true) (c1 : decide (0 ≤ s7) = true) (c2 : decide (s7 < (((List.length x0) : Nat) : Int)) = true) (c3 : decide (List.length (List.getD x0 (Int.toNat s7) (([] : List UInt8), (([] : List UInt8), 0))).1 ≤ 9223372036854775807) = true) (c4 : (wordG (List.getD x0 (Int.toNat s7) (([] : List UInt8), (([] : List UInt8), 0))).1) = true) (c9 : ¬ decide ((((List.length (List.getD x0 (Int.toNat s7) (([] : List UInt8), (([] : List UInt8), 0))).2.1) : Nat) : Int) > 24) = true) (c12 : ¬ ((List.getD x0 (Int.toNat s7) (([] : List UInt8), (([] : List UInt8), 0))).2.2 == (1)) = true) (c13 : ¬ ((List.getD x0 (Int.toNat s7) (([] : List UInt8), (([] : List UInt8), 0))).2.2 == (2)) = true) (c14 : ¬ ((List.getD x0 (Int.toNat s7) (([] : List UInt8), (([] : List UInt8), 0))).2.2 == (3)) = true) (c15 : ¬ ((List.getD x0 (Int.toNat s7) (([] : List UInt8), (([] : List UInt8), 0))).2.2 == (4)) = true) (c18 : ¬ (([] : List UInt8) == ([] : List UInt8)) = true) (ih : (turns (hds 32 225) 0 225 (evC byref (evCall F S17 (m + 24)) (m + 24) 0 (hds 32) lbl32_0) n (l32_0H x0 s6 ((IntKind.wrap .i64 (s7 + (1))))) (l32_0B x0 s6 ((IntKind.wrap .i64 (s7 + (1)))))).run = some r) : (turns (hds 32 225) 0 225 (evC byref (evCall F S17 (m + 24)) (m + 24) 0 (hds 32) lbl32_0) (n + 1) (l32_0H x0 s6 s7) (l32_0B x0 s6 s7)).run = some r := by
  exact turns_step (M.run_of_path _ [true, true, true, true, false, false, false, false, false, false, false, false, false, false, false, false, false, false, false] _ _ (by kernel_rfl) (all_t c0 (all_t c1 (all_t c2 (all_t c3 (all_nt c4 (all_nt c4 (all_nt c4 (all_nt c4 (all_nt c4 (all_f c9 (all_f c9 (all_f c9 (all_f c12 (all_f c13 (all_f c14 (all_f c15 (all_f c9 (all_f c9 (all_f c18 all_nil)))))))))))))))))))) ih
set_option maxHeartbeats 20000000 in
theorem l32_0_w11 (m n : Nat) (x0 : List ((List UInt8) × (List UInt8) × Int)) (s6 : Int) (s7 : Int) (c0 : decide (s7 < s6) = true) (c1 : decide (0 ≤ s7) = true) (c2 : decide (s7 < (((List.length x0) : Nat) : Int)) = true) (c3 : decide (List.length (List.getD x0 (Int.toNat s7) (([] : List UInt8), (([] : List UInt8), 0))).1 ≤ 9223372036854775807) = true) (c4 : ¬ (wordG (List.getD x0 (Int.toNat s7) (([] : List UInt8), (([] : List UInt8), 0))).1) = true) : (turns (hds 32 225) 0 225 (evC byref (evCall F S17 (m + 24)) (m + 24) 0 (hds 32) lbl32_0) (n + 1) (l32_0H x0 s6 s7) (l32_0B x0 s6 s7)).run = some (let r1 := (wordG (List.getD x0 (Int.toNat s7) (([] : List UInt8), (([] : List UInt8), 0))).1); (.ret, [(.d (.sl (.pair .str (.pair .str (.int .i64))) x0)), .top, (.d (.bool false)), .top, (.ptr 0 0), (.d (.sl (.pair .str (.pair .str (.int .i64))) x0)), (.d (.int .i64 s6)), (.d (.int .i64 s7)), (.d (.bool (decide (s7 < s6)))), (.cptr [(.str (List.getD x0 (Int.toNat s7) (([] : List UInt8), (([] : List UInt8), 0))).1), (.str (List.getD x0 (Int.toNat s7) (([] : List UInt8), (([] : List UInt8), 0))).2.1), (.int .i64 (List.getD x0 (Int.toNat s7) (([] : List UInt8), (([] : List UInt8), 0))).2.2)] 0), (.agg [(.d (.str (List.getD x0 (Int.toNat s7) (([] : List UInt8), (([] : List UInt8), 0))).1)), (.d (.str (List.getD x0 (Int.toNat s7) (([] : List UInt8), (([] : List UInt8), 0))).2.1)), (.d (.int .i64 (List.getD x0 (Int.toNat s7) (([] : List UInt8), (([] : List UInt8), 0))).2.2))]), (.ptr 0 0), (.d (.str (List.getD x0 (Int.toNat s7) (([] : List UInt8), (([] : List UInt8), 0))).1)), (.d (.bool r1)), (.d (.bool (!r1))), (.d (.bool (!r1))), (.tup []), (.tup []), (.tup []), (.tup []), (.d (.bool true)), (.d (.bool true)), (.tup []), (.tup []), (.tup []), (.tup []), (.d (.bool true)), .top, .top, .top, .top], [(.cells [(.d (.str (List.getD x0 (Int.toNat s7) (([] : List UInt8), (([] : List UInt8), 0))).1)), (.d (.str (List.getD x0 (Int.toNat s7) (([] : List UInt8), (([] : List UInt8), 0))).2.1)), (.d (.int .i64 (List.getD x0 (Int.toNat s7) (([] : List UInt8), (([] : List UInt8), 0))).2.2))])])) := by
  exact turns_last (by simp) (M.run_of_path _ [true, true, true, true, true, true, true, true, true, true, true, true, true, true, true] _ _ (by kernel_rfl) (all_t c0 (all_t c1 (all_t c2 (all_t c3 (all_nf c4 (all_nf c4 (all_nf c4 (all_nf c4 (all_nf c4 (all_t rfl (all_t rfl (all_t rfl (all_t rfl (all_t rfl (all_t rfl all_nil)))))))))))))))) 
set_option maxHeartbeats 20000000 in
theorem l32_0_w12 (m n : Nat) (x0 : List ((List UInt8) × (List UInt8) × Int)) (s6 : Int) (s7 : Int) (c0 : ¬ decide (s7 < s6) = true) : (turns (hds 32 225) 0 225 (evC byref (evCall F S17 (m + 24)) (m + 24) 0 (hds 32) lbl32_0) (n + 1) (l32_0H x0 s6 s7) (l32_0B x0 s6 s7)).run = some (.exit 0, [(.d (.sl (.pair .str (.pair .str (.int .i64))) x0)), .top, .top, .top, .top, (.d (.sl (.pair .str (.pair .str (.int .i64))) x0)), (.d (.int .i64 s6)), (.d (.int .i64 s7)), (.d (.bool (decide (s7 < s6)))), .top, .top, .top, .top, .top, .top, .top, .top, .top, .top, .top, .top, .top, .top, .top, .top, .top, .top, .top, .top, .top, .top], []) := by
  exact turns_last (by simp) (M.run_of_path _ [false] _ _ (by kernel_rfl) (all_f c0 all_nil)) 

set_option maxHeartbeats 20000000 in
theorem l32_0_step (m n : Nat) (ih : ∀ (x0 : List ((List UInt8) × (List UInt8) × Int)) (s6 : Int) (s7 : Int) (q : Nat × Int), l32_0 m n x0 s6 s7 = some q → (turns (hds 32 225) 0 225 (evC byref (evCall F S17 (m + 24)) (m + 24) 0 (hds 32) lbl32_0) n (l32_0H x0 s6 s7) (l32_0B x0 s6 s7)).run = some (l32_0E (x0) (s6) (q.2) q.1)) (x0 : List ((List UInt8) × (List UInt8) × Int)) (s6 : Int) (s7 : Int) (q : Nat × Int) (h : l32_0 m (n + 1) x0 s6 s7 = some q) : (turns (hds 32 225) 0 225 (evC byref (evCall F S17 (m + 24)) (m + 24) 0 (hds 32) lbl32_0) (n + 1) (l32_0H x0 s6 s7) (l32_0B x0 s6 s7)).run = some (l32_0E (x0) (s6) (q.2) q.1) := by
  rw [l32_0] at h
  refine ite_cases h (fun c0 h => ?_) (fun c0 h => ?_)
  · skip
    refine ite_cases h (fun c1 h => ?_) (fun c1 h => ?_)
    · skip
      refine ite_cases h (fun c2 h => ?_) (fun c2 h => ?_)
      · skip
        refine ite_cases h (fun c3 h => ?_) (fun c3 h => ?_)
        · skip
          refine ite_cases h (fun c4 h => ?_) (fun c4 h => ?_)
          · skip
            refine ite_cases h (fun c9 h => ?_) (fun c9 h => ?_)
            · skip
              cases h
              exact l32_0_w0 m n x0 s6 s7 c0 c1 c2 c3 c4 c9
            · skip
              refine ite_cases h (fun c12 h => ?_) (fun c12 h => ?_)
              · skip
                refine ite_cases h (fun c15 h => ?_) (fun c15 h => ?_)
                · skip
                  cases h
                  exact l32_0_w1 m n x0 s6 s7 c0 c1 c2 c3 c4 c9 c12 c15
                · skip
                  exact l32_0_w2 m n x0 s6 s7 _ c0 c1 c2 c3 c4 c9 c12 c15 (ih _ _ _ q h)
              · skip
                refine ite_cases h (fun c13 h => ?_) (fun c13 h => ?_)
                · skip
                  refine ite_cases h (fun c16 h => ?_) (fun c16 h => ?_)
                  · skip
                    cases h
                    exact l32_0_w3 m n x0 s6 s7 c0 c1 c2 c3 c4 c9 c12 c13 c16
                  · skip
                    exact l32_0_w4 m n x0 s6 s7 _ c0 c1 c2 c3 c4 c9 c12 c13 c16 (ih _ _ _ q h)
                · skip
                  refine ite_cases h (fun c14 h => ?_) (fun c14 h => ?_)
                  · skip
                    refine ite_cases h (fun c17 h => ?_) (fun c17 h => ?_)
                    · skip
                      cases h
                      exact l32_0_w5 m n x0 s6 s7 c0 c1 c2 c3 c4 c9 c12 c13 c14 c17
                    · skip
                      exact l32_0_w6 m n x0 s6 s7 _ c0 c1 c2 c3 c4 c9 c12 c13 c14 c17 (ih _ _ _ q h)
                  · skip
                    refine ite_cases h (fun c15 h => ?_) (fun c15 h => ?_)
                    · skip
                      refine ite_cases h (fun c18 h => ?_) (fun c18 h => ?_)
                      · skip
                        cases h
                        exact l32_0_w7 m n x0 s6 s7 c0 c1 c2 c3 c4 c9 c12 c13 c14 c15 c18
                      · skip
                        exact l32_0_w8 m n x0 s6 s7 _ c0 c1 c2 c3 c4 c9 c12 c13 c14 c15 c18 (ih _ _ _ q h)
                    · skip
                      refine ite_cases h (fun c18 h => ?_) (fun c18 h => ?_)
                      · skip
                        cases h
                        exact l32_0_w9 m n x0 s6 s7 c0 c1 c2 c3 c4 c9 c12 c13 c14 c15 c18
                      · skip
                        exact l32_0_w10 m n x0 s6 s7 _ c0 c1 c2 c3 c4 c9 c12 c13 c14 c15 c18 (ih _ _ _ q h)
          · skip
            cases h
            exact l32_0_w11 m n x0 s6 s7 c0 c1 c2 c3 c4
        · skip
          cases h
      · skip
        cases h
    · skip
      cases h
  · skip
    cases h
    exact l32_0_w12 m n x0 s6 s7 c0
set_option maxHeartbeats 20000000 in
theorem l32_0_ok (m : Nat) : ∀ (n : Nat) (x0 : List ((List UInt8) × (List UInt8) × Int)) (s6 : Int) (s7 : Int) (q : Nat × Int), l32_0 m n x0 s6 s7 = some q → (turns (hds 32 225) 0 225 (evC byref (evCall F S17 (m + 24)) (m + 24) 0 (hds 32) lbl32_0) n (l32_0H x0 s6 s7) (l32_0B x0 s6 s7)).run = some (l32_0E (x0) (s6) (q.2) q.1)
  | 0, x0, s6, s7, q, h => by cases h
  | n + 1, x0, s6, s7, q, h => l32_0_step m n (l32_0_ok m n) x0 s6 s7 q h

def p32 (m : Nat) (x0 : List ((List UInt8) × (List UInt8) × Int)) : Option (Bool) :=
  if (Option.isSome (l32_0 m (m + 24) x0 ((((List.length x0) : Nat) : Int)) 0)) = true then
    if ((l32_0R m (m + 24) x0 ((((List.length x0) : Nat) : Int)) 0).1 == 0) = true then
      some (false)
    else
      if ((l32_0R m (m + 24) x0 ((((List.length x0) : Nat) : Int)) 0).1 == 1) = true then
        some (false)
      else
        if ((l32_0R m (m + 24) x0 ((((List.length x0) : Nat) : Int)) 0).1 == 2) = true then
          some (false)
        else
          if ((l32_0R m (m + 24) x0 ((((List.length x0) : Nat) : Int)) 0).1 == 3) = true then
            some (false)
          else
            if ((l32_0R m (m + 24) x0 ((((List.length x0) : Nat) : Int)) 0).1 == 4) = true then
              some (false)
            else
              if ((l32_0R m (m + 24) x0 ((((List.length x0) : Nat) : Int)) 0).1 == 5) = true then
                some (false)
              else
                if ((l32_0R m (m + 24) x0 ((((List.length x0) : Nat) : Int)) 0).1 == 6) = true then
                  some (false)
                else
                  if ((l32_0R m (m + 24) x0 ((((List.length x0) : Nat) : Int)) 0).1 == 7) = true then
                    some (decide ((((List.length x0) : Nat) : Int) ≤ 6))
                  else
                    none
  else
    none
set_option maxHeartbeats 20000000 in
theorem p32_ok (m : Nat) (x0 : List ((List UInt8) × (List UInt8) × Int)) (q : Bool) (h : p32 m x0 = some q) : ∃ r B1, (evCall F S17 (m + 25) 32 [(.d (.sl (.pair .str (.pair .str (.int .i64))) x0))] []).run = some (r, B1) ∧ 0 ≤ B1.length ∧ wkR B1 [] r (.d (.bool (q))) ∧ wkBs B1 [] 0 [] := by
  unfold p32 at h
  refine ite_cases h (fun c0 h => ?_) (fun c0 h => ?_)
  · skip
    refine ite_cases h (fun c1 h => ?_) (fun c1 h => ?_)
    · skip
      cases h
      refine ⟨(.d (.bool false)), [], runT_ok (LS := (fun k => if k = 225 then some (l32_0E x0 (((((List.length x0) : Nat) : Int))) ((l32_0R m (m + 24) x0 ((((List.length x0) : Nat) : Int)) 0).2) 0) else none)) (fn := fn32) (vis := [(225, l32_0H x0 ((((List.length x0) : Nat) : Int)) 0, l32_0B x0 ((((List.length x0) : Nat) : Int)) 0)]) (by kernel_rfl) rfl (by kernel_rfl) (M.run_of_path _ [] _ _ (by kernel_rfl) all_nil) ?_, by simp, (wkR.one (wkV.one (wk1.eq rfl))), trivial⟩
      intro p hp p2 hq
      rcases List.mem_cons.1 hp with rfl | hp
      · skip
        have h3 := l32_0_ok m (m + 24) x0 ((((List.length x0) : Nat) : Int)) 0 _ (some_getD (d := l32_0D) c0)
        rw [eq_of_beq c1] at h3
        exact Eq.trans (Eq.mp (by kernel_rfl) h3) hq
      cases hp
    · skip
      refine ite_cases h (fun c2 h => ?_) (fun c2 h => ?_)
      · skip
        cases h
        refine ⟨(.d (.bool false)), [], runT_ok (LS := (fun k => if k = 225 then some (l32_0E x0 (((((List.length x0) : Nat) : Int))) ((l32_0R m (m + 24) x0 ((((List.length x0) : Nat) : Int)) 0).2) 1) else none)) (fn := fn32) (vis := [(225, l32_0H x0 ((((List.length x0) : Nat) : Int)) 0, l32_0B x0 ((((List.length x0) : Nat) : Int)) 0)]) (by kernel_rfl) rfl (by kernel_rfl) (M.run_of_path _ [] _ _ (by kernel_rfl) all_nil) ?_, by simp, (wkR.one (wkV.one (wk1.eq rfl))), trivial⟩
        intro p hp p2 hq
        rcases List.mem_cons.1 hp with rfl | hp
        · skip
          have h3 := l32_0_ok m (m + 24) x0 ((((List.length x0) : Nat) : Int)) 0 _ (some_getD (d := l32_0D) c0)
          rw [eq_of_beq c2] at h3
          exact Eq.trans (Eq.mp (by kernel_rfl) h3) hq
        cases hp
      · skip
        refine ite_cases h (fun c3 h => ?_) (fun c3 h => ?_)
        · skip
          cases h
          refine ⟨(.d (.bool false)), [], runT_ok (LS := (fun k => if k = 225 then some (l32_0E x0 (((((List.length x0) : Nat) : Int))) ((l32_0R m (m + 24) x0 ((((List.length x0) : Nat) : Int)) 0).2) 2) else none)) (fn := fn32) (vis := [(225, l32_0H x0 ((((List.length x0) : Nat) : Int)) 0, l32_0B x0 ((((List.length x0) : Nat) : Int)) 0)]) (by kernel_rfl) rfl (by kernel_rfl) (M.run_of_path _ [] _ _ (by kernel_rfl) all_nil) ?_, by simp, (wkR.one (wkV.one (wk1.eq rfl))), trivial⟩
          intro p hp p2 hq
          rcases List.mem_cons.1 hp with rfl | hp
          · skip
            have h3 := l32_0_ok m (m + 24) x0 ((((List.length x0) : Nat) : Int)) 0 _ (some_getD (d := l32_0D) c0)
            rw [eq_of_beq c3] at h3
            exact Eq.trans (Eq.mp (by kernel_rfl) h3) hq
          cases hp
        · skip
          refine ite_cases h (fun c4 h => ?_) (fun c4 h => ?_)
          · skip
            cases h
            refine ⟨(.d (.bool false)), [], runT_ok (LS := (fun k => if k = 225 then some (l32_0E x0 (((((List.length x0) : Nat) : Int))) ((l32_0R m (m + 24) x0 ((((List.length x0) : Nat) : Int)) 0).2) 3) else none)) (fn := fn32) (vis := [(225, l32_0H x0 ((((List.length x0) : Nat) : Int)) 0, l32_0B x0 ((((List.length x0) : Nat) : Int)) 0)]) (by kernel_rfl) rfl (by kernel_rfl) (M.run_of_path _ [] _ _ (by kernel_rfl) all_nil) ?_, by simp, (wkR.one (wkV.one (wk1.eq rfl))), trivial⟩
            intro p hp p2 hq
            rcases List.mem_cons.1 hp with rfl | hp
            · skip
              have h3 := l32_0_ok m (m + 24) x0 ((((List.length x0) : Nat) : Int)) 0 _ (some_getD (d := l32_0D) c0)
              rw [eq_of_beq c4] at h3
              exact Eq.trans (Eq.mp (by kernel_rfl) h3) hq
            cases hp
          · skip
            refine ite_cases h (fun c5 h => ?_) (fun c5 h => ?_)
            · skip
              cases h
              refine ⟨(.d (.bool false)), [], runT_ok (LS := (fun k => if k = 225 then some (l32_0E x0 (((((List.length x0) : Nat) : Int))) ((l32_0R m (m + 24) x0 ((((List.length x0) : Nat) : Int)) 0).2) 4) else none)) (fn := fn32) (vis := [(225, l32_0H x0 ((((List.length x0) : Nat) : Int)) 0, l32_0B x0 ((((List.length x0) : Nat) : Int)) 0)]) (by kernel_rfl) rfl (by kernel_rfl) (M.run_of_path _ [] _ _ (by kernel_rfl) all_nil) ?_, by simp, (wkR.one (wkV.one (wk1.eq rfl))), trivial⟩
              intro p hp p2 hq
              rcases List.mem_cons.1 hp with rfl | hp
              · skip
                have h3 := l32_0_ok m (m + 24) x0 ((((List.length x0) : Nat) : Int)) 0 _ (some_getD (d := l32_0D) c0)
                rw [eq_of_beq c5] at h3
                exact Eq.trans (Eq.mp (by kernel_rfl) h3) hq
              cases hp
            · skip
              refine ite_cases h (fun c6 h => ?_) (fun c6 h => ?_)
              · skip
                cases h
                refine ⟨(.d (.bool false)), [], runT_ok (LS := (fun k => if k = 225 then some (l32_0E x0 (((((List.length x0) : Nat) : Int))) ((l32_0R m (m + 24) x0 ((((List.length x0) : Nat) : Int)) 0).2) 5) else none)) (fn := fn32) (vis := [(225, l32_0H x0 ((((List.length x0) : Nat) : Int)) 0, l32_0B x0 ((((List.length x0) : Nat) : Int)) 0)]) (by kernel_rfl) rfl (by kernel_rfl) (M.run_of_path _ [] _ _ (by kernel_rfl) all_nil) ?_, by simp, (wkR.one (wkV.one (wk1.eq rfl))), trivial⟩
                intro p hp p2 hq
                rcases List.mem_cons.1 hp with rfl | hp
                · skip
                  have h3 := l32_0_ok m (m + 24) x0 ((((List.length x0) : Nat) : Int)) 0 _ (some_getD (d := l32_0D) c0)
                  rw [eq_of_beq c6] at h3
                  exact Eq.trans (Eq.mp (by kernel_rfl) h3) hq
                cases hp
              · skip
                refine ite_cases h (fun c7 h => ?_) (fun c7 h => ?_)
                · skip
                  cases h
                  refine ⟨(.d (.bool false)), [], runT_ok (LS := (fun k => if k = 225 then some (l32_0E x0 (((((List.length x0) : Nat) : Int))) ((l32_0R m (m + 24) x0 ((((List.length x0) : Nat) : Int)) 0).2) 6) else none)) (fn := fn32) (vis := [(225, l32_0H x0 ((((List.length x0) : Nat) : Int)) 0, l32_0B x0 ((((List.length x0) : Nat) : Int)) 0)]) (by kernel_rfl) rfl (by kernel_rfl) (M.run_of_path _ [] _ _ (by kernel_rfl) all_nil) ?_, by simp, (wkR.one (wkV.one (wk1.eq rfl))), trivial⟩
                  intro p hp p2 hq
                  rcases List.mem_cons.1 hp with rfl | hp
                  · skip
                    have h3 := l32_0_ok m (m + 24) x0 ((((List.length x0) : Nat) : Int)) 0 _ (some_getD (d := l32_0D) c0)
                    rw [eq_of_beq c7] at h3
                    exact Eq.trans (Eq.mp (by kernel_rfl) h3) hq
                  cases hp
                · skip
                  refine ite_cases h (fun c8 h => ?_) (fun c8 h => ?_)
                  · skip
                    cases h
                    refine ⟨(.d (.bool (decide ((((List.length x0) : Nat) : Int) ≤ 6)))), [], runT_ok (LS := (fun k => if k = 225 then some (l32_0E x0 (((((List.length x0) : Nat) : Int))) ((l32_0R m (m + 24) x0 ((((List.length x0) : Nat) : Int)) 0).2) 7) else none)) (fn := fn32) (vis := [(225, l32_0H x0 ((((List.length x0) : Nat) : Int)) 0, l32_0B x0 ((((List.length x0) : Nat) : Int)) 0)]) (by kernel_rfl) rfl (by kernel_rfl) (M.run_of_path _ [] _ _ (by kernel_rfl) all_nil) ?_, by simp, (wkR.one (wkV.one (wk1.eq rfl))), trivial⟩
                    intro p hp p2 hq
                    rcases List.mem_cons.1 hp with rfl | hp
                    · skip
                      have h3 := l32_0_ok m (m + 24) x0 ((((List.length x0) : Nat) : Int)) 0 _ (some_getD (d := l32_0D) c0)
                      rw [eq_of_beq c8] at h3
                      exact Eq.trans (Eq.mp (by kernel_rfl) h3) hq
                    cases hp
                  · skip
                    cases h
  · skip
    cases h

/-- May a matcher be? -/
def okM (m : MT) : Bool := wordG m.1 && decide (m.2.1.length ≤ 24) && decide (1 ≤ m.2.2) && decide (m.2.2 ≤ 4)
def rightG (ms : List MT) : Bool := ms.all okM && decide (ms.length ≤ 6)
def okPre (m : MT) : Bool := decide (m.1.length ≤ 9223372036854775807)
def rightPre (ms : List MT) : Bool := decide (ms.length ≤ 1000000 ∧ ∀ m ∈ ms, m.1.length ≤ 9223372036854775807)
theorem right_loop (m : Nat) (ms : List MT) (h1 : ms.length ≤ 1000000) (h2 : ∀ x ∈ ms, x.1.length ≤ 9223372036854775807) : ∀ (n k : Nat), k ≤ ms.length → ms.length - k < n → ∃ e j, l32_0 m n ms (ms.length : Nat) (k : Nat) = some (e, j) ∧ ((e = 7 ∧ (ms.drop k).all okM = true) ∨ ((e = 0 ∨ e = 1 ∨ e = 2 ∨ e = 3 ∨ e = 4 ∨ e = 5 ∨ e = 6) ∧ (ms.drop k).all okM = false))
  | 0, k, _, h => by omega
  | n + 1, k, g1, g2 => by
    rw [l32_0]
    by_cases hk : k < ms.length
    · have e1 : decide (((k : Nat) : Int) < (((List.length ms) : Nat) : Int)) = true := decide_eq_true (by omega)
      have e2 : decide ((0 : Int) ≤ ((k : Nat) : Int)) = true := decide_eq_true (by omega)
      have e7 : IntKind.wrap .i64 (((k : Nat) : Int) + (1)) = ((k + 1 : Nat) : Int) := by rw [wrap_id (by omega) (by omega)]; rfl
      have hq := h2 _ (getD_mem ms k (([] : List UInt8), (([] : List UInt8), 0)) hk)
      have go := right_loop m ms h1 h2 n (k + 1) (by omega) (by omega)
      rw [drop_getD ms k (([] : List UInt8), (([] : List UInt8), 0)) hk]
      simp only [show Int.toNat ((k : Nat) : Int) = k from rfl, e1, e2, e7, List.all_cons, ↓reduceIte]
      generalize ms.getD k (([] : List UInt8), (([] : List UInt8), 0)) = q at *
      have e3 : decide (List.length q.1 ≤ 9223372036854775807) = true := decide_eq_true hq
      have n1 : (([61] : List UInt8) == ([] : List UInt8)) = false := rfl
      have n2 : (([33, 61] : List UInt8) == ([] : List UInt8)) = false := rfl
      have n3 : (([94, 61] : List UInt8) == ([] : List UInt8)) = false := rfl
      have n4 : (([33, 94] : List UInt8) == ([] : List UInt8)) = false := rfl
      have n5 : (([] : List UInt8) == ([] : List UInt8)) = true := rfl
      have hok : okM q = (wordG q.1 && decide (q.2.1.length ≤ 24) && decide (1 ≤ q.2.2) && decide (q.2.2 ≤ 4)) := rfl
      simp only [e3, n1, n2, n3, n4, n5, ↓reduceIte, Bool.false_eq_true]
      cases c1 : wordG q.1 with
      | false =>
        rw [c1] at hok
        simp only [↓reduceIte, Bool.false_eq_true]
        exact ⟨0, _, rfl, .inr ⟨by simp, by rw [hok]; rfl⟩⟩
      | true =>
        rw [c1] at hok
        by_cases c2 : q.2.1.length ≤ 24
        · have f1 : decide ((((List.length q.2.1) : Nat) : Int) > 24) = false := decide_eq_false (by omega)
          rw [show decide (q.2.1.length ≤ 24) = true from decide_eq_true c2] at hok
          simp only [f1, ↓reduceIte, Bool.false_eq_true]
          have yes : 1 ≤ q.2.2 → q.2.2 ≤ 4 → okM q = true := fun a b => by rw [hok, decide_eq_true a, decide_eq_true b]; rfl
          by_cases k1 : q.2.2 = 1
          · rw [if_pos (by simp [k1]), yes (by omega) (by omega), Bool.true_and]; exact go
          · rw [if_neg (by simpa using k1)]
            by_cases k2 : q.2.2 = 2
            · rw [if_pos (by simp [k2]), yes (by omega) (by omega), Bool.true_and]; exact go
            · rw [if_neg (by simpa using k2)]
              by_cases k3 : q.2.2 = 3
              · rw [if_pos (by simp [k3]), yes (by omega) (by omega), Bool.true_and]; exact go
              · rw [if_neg (by simpa using k3)]
                by_cases k4 : q.2.2 = 4
                · rw [if_pos (by simp [k4]), yes (by omega) (by omega), Bool.true_and]; exact go
                · rw [if_neg (by simpa using k4)]
                  refine ⟨6, _, rfl, .inr ⟨by simp, ?_⟩⟩
                  have : okM q = false := by
                    rw [hok]
                    by_cases c : 1 ≤ q.2.2
                    · rw [show decide (q.2.2 ≤ 4) = false from decide_eq_false (by omega)]; simp
                    · rw [show decide (1 ≤ q.2.2) = false from decide_eq_false c]; simp
                  rw [this]; rfl
        · have f1 : decide ((((List.length q.2.1) : Nat) : Int) > 24) = true := decide_eq_true (by omega)
          rw [show decide (q.2.1.length ≤ 24) = false from decide_eq_false c2] at hok
          simp only [f1, ↓reduceIte]
          exact ⟨1, _, rfl, .inr ⟨by simp, by rw [hok]; rfl⟩⟩
    · have e1 : decide (((k : Nat) : Int) < (((List.length ms) : Nat) : Int)) = false := decide_eq_false (by omega)
      rw [e1, if_neg (by simp), List.drop_eq_nil_of_le (by omega)]
      exact ⟨7, _, rfl, .inl ⟨rfl, rfl⟩⟩
theorem right26 (ms : List MT) (h : rightPre ms = true) : ∃ m, p32 m ms = some (rightG ms) := by
  have ⟨h1, h2⟩ := of_decide_eq_true h
  refine ⟨ms.length, ?_⟩
  obtain ⟨e, j, hr, hc⟩ := right_loop ms.length ms h1 h2 (ms.length + 24) 0 (by omega) (by omega)
  simp only [Int.natCast_zero, List.drop_zero] at hr hc
  have q2 : decide ((((List.length ms) : Nat) : Int) ≤ 6) = decide (ms.length ≤ 6) := by rw [decide_eq_decide]; omega
  unfold p32 rightG
  simp only [l32_0R, hr, q2, Option.isSome_some, Option.getD_some, ↓reduceIte]
  rcases hc with ⟨rfl, hc⟩ | ⟨rfl | rfl | rfl | rfl | rfl | rfl | rfl, hc⟩ <;> rw [hc] <;> first | rfl | simp
def s32 : List AV → Boxes → M (AV × Boxes) := normS [.val (.sl (.pair .str (.pair .str (.int .i64))))] [] fun xs B => match xs, B with
  | [(.d (.sl (.pair .str (.pair .str (.int .i64))) c1))], [] => .chk (rightPre c1) (.ret ((.d (.bool (rightG c1))), []))
  | _, _ => .fail
theorem s32_at : CallAt Tryd.prog 32 s32 := by
  refine CallAt.norm (CallAt.weakE (g := fun n => evCall F S17 n 32) (fun n => evCall_atH mixed kinds hds S17 S17_ok n 32) fun xs B r' B' hr => ?_) _ _
  split at hr
  · rename_i c1
    obtain ⟨hp, hr⟩ := (M.run_chk _ _ _).1 hr
    simp only [M.run, Option.some.injEq, Prod.mk.injEq] at hr
    obtain ⟨rfl, rfl⟩ := hr
    obtain ⟨m, hm⟩ := right26 c1 hp
    obtain ⟨r, B1, h1, h2, h3, h4⟩ := p32_ok m c1 _ hm
    exact ⟨m + 25, r, B1, h1, by simp, h2, h3, h4⟩
  · simp [M.run] at hr
noncomputable def S18 : FuncId → Option (List AV → Boxes → M (AV × Boxes)) := fun f => if f = 32 then some s32 else S17 f
set_option maxHeartbeats 20000000 in
theorem S18_ok : ∀ f s, S18 f = some s → CallAt Tryd.prog f s := by
  intro f s h
  unfold S18 at h
  split at h
  · rename_i e; subst e; cases h; exact s32_at
  · exact S17_ok f s h

noncomputable def fn33 : AFn := (F 33).getD ⟨0, [], .bad, false, false, noHd⟩
noncomputable def body33 : AC := fn33.body
def l33_0 (m : Nat) : Nat → List ((List UInt8) × (List UInt8) × Int) → Int → Int → List (List UInt8) → Option (Nat × Int × (List (List UInt8)))
  | 0, _, _, _, _ => none
  | n + 1, x0, s10, s11, b0 => if decide (s11 < s10) = true then
      if decide (0 ≤ s11) = true then
        if decide (s11 < (((List.length x0) : Nat) : Int)) = true then
          if ((List.getD x0 (Int.toNat s11) (([] : List UInt8), (([] : List UInt8), 0))).2.2 == (1)) = true then
            if decide (List.length (List.getD x0 (Int.toNat s11) (([] : List UInt8), (([] : List UInt8), 0))).1 + List.length ([61] : List UInt8) ≤ 4611686018427387904) = true then
              if decide (List.length (List.getD x0 (Int.toNat s11) (([] : List UInt8), (([] : List UInt8), 0))).2.1 ≤ 1000000) = true then
                if decide (List.length ((List.getD x0 (Int.toNat s11) (([] : List UInt8), (([] : List UInt8), 0))).1 ++ ([61] : List UInt8)) + List.length (quoteG (List.getD x0 (Int.toNat s11) (([] : List UInt8), (([] : List UInt8), 0))).2.1) ≤ 4611686018427387904) = true then
                  if decide ((((List.length b0) + 1) * 16) ≤ 70368744177664) = true then
                    l33_0 m n x0 s10 ((IntKind.wrap .i64 (s11 + (1)))) ((b0 ++ [(((List.getD x0 (Int.toNat s11) (([] : List UInt8), (([] : List UInt8), 0))).1 ++ ([61] : List UInt8)) ++ (quoteG (List.getD x0 (Int.toNat s11) (([] : List UInt8), (([] : List UInt8), 0))).2.1))]))
                  else
                    none
                else
                  none
              else
                none
            else
              none
          else
            if ((List.getD x0 (Int.toNat s11) (([] : List UInt8), (([] : List UInt8), 0))).2.2 == (2)) = true then
              if decide (List.length (List.getD x0 (Int.toNat s11) (([] : List UInt8), (([] : List UInt8), 0))).1 + List.length ([33, 61] : List UInt8) ≤ 4611686018427387904) = true then
                if decide (List.length (List.getD x0 (Int.toNat s11) (([] : List UInt8), (([] : List UInt8), 0))).2.1 ≤ 1000000) = true then
                  if decide (List.length ((List.getD x0 (Int.toNat s11) (([] : List UInt8), (([] : List UInt8), 0))).1 ++ ([33, 61] : List UInt8)) + List.length (quoteG (List.getD x0 (Int.toNat s11) (([] : List UInt8), (([] : List UInt8), 0))).2.1) ≤ 4611686018427387904) = true then
                    if decide ((((List.length b0) + 1) * 16) ≤ 70368744177664) = true then
                      l33_0 m n x0 s10 ((IntKind.wrap .i64 (s11 + (1)))) ((b0 ++ [(((List.getD x0 (Int.toNat s11) (([] : List UInt8), (([] : List UInt8), 0))).1 ++ ([33, 61] : List UInt8)) ++ (quoteG (List.getD x0 (Int.toNat s11) (([] : List UInt8), (([] : List UInt8), 0))).2.1))]))
                    else
                      none
                  else
                    none
                else
                  none
              else
                none
            else
              if ((List.getD x0 (Int.toNat s11) (([] : List UInt8), (([] : List UInt8), 0))).2.2 == (3)) = true then
                if decide (List.length (List.getD x0 (Int.toNat s11) (([] : List UInt8), (([] : List UInt8), 0))).1 + List.length ([94, 61] : List UInt8) ≤ 4611686018427387904) = true then
                  if decide (List.length (List.getD x0 (Int.toNat s11) (([] : List UInt8), (([] : List UInt8), 0))).2.1 ≤ 1000000) = true then
                    if decide (List.length ((List.getD x0 (Int.toNat s11) (([] : List UInt8), (([] : List UInt8), 0))).1 ++ ([94, 61] : List UInt8)) + List.length (quoteG (List.getD x0 (Int.toNat s11) (([] : List UInt8), (([] : List UInt8), 0))).2.1) ≤ 4611686018427387904) = true then
                      if decide ((((List.length b0) + 1) * 16) ≤ 70368744177664) = true then
                        l33_0 m n x0 s10 ((IntKind.wrap .i64 (s11 + (1)))) ((b0 ++ [(((List.getD x0 (Int.toNat s11) (([] : List UInt8), (([] : List UInt8), 0))).1 ++ ([94, 61] : List UInt8)) ++ (quoteG (List.getD x0 (Int.toNat s11) (([] : List UInt8), (([] : List UInt8), 0))).2.1))]))
                      else
                        none
                    else
                      none
                  else
                    none
                else
                  none
              else
                if ((List.getD x0 (Int.toNat s11) (([] : List UInt8), (([] : List UInt8), 0))).2.2 == (4)) = true then
                  if decide (List.length (List.getD x0 (Int.toNat s11) (([] : List UInt8), (([] : List UInt8), 0))).1 + List.length ([33, 94] : List UInt8) ≤ 4611686018427387904) = true then
                    if decide (List.length (List.getD x0 (Int.toNat s11) (([] : List UInt8), (([] : List UInt8), 0))).2.1 ≤ 1000000) = true then
                      if decide (List.length ((List.getD x0 (Int.toNat s11) (([] : List UInt8), (([] : List UInt8), 0))).1 ++ ([33, 94] : List UInt8)) + List.length (quoteG (List.getD x0 (Int.toNat s11) (([] : List UInt8), (([] : List UInt8), 0))).2.1) ≤ 4611686018427387904) = true then
                        if decide ((((List.length b0) + 1) * 16) ≤ 70368744177664) = true then
                          l33_0 m n x0 s10 ((IntKind.wrap .i64 (s11 + (1)))) ((b0 ++ [(((List.getD x0 (Int.toNat s11) (([] : List UInt8), (([] : List UInt8), 0))).1 ++ ([33, 94] : List UInt8)) ++ (quoteG (List.getD x0 (Int.toNat s11) (([] : List UInt8), (([] : List UInt8), 0))).2.1))]))
                        else
                          none
                      else
                        none
                    else
                      none
                  else
                    none
                else
                  if decide (List.length (List.getD x0 (Int.toNat s11) (([] : List UInt8), (([] : List UInt8), 0))).1 + List.length ([] : List UInt8) ≤ 4611686018427387904) = true then
                    if decide (List.length (List.getD x0 (Int.toNat s11) (([] : List UInt8), (([] : List UInt8), 0))).2.1 ≤ 1000000) = true then
                      if decide (List.length ((List.getD x0 (Int.toNat s11) (([] : List UInt8), (([] : List UInt8), 0))).1 ++ ([] : List UInt8)) + List.length (quoteG (List.getD x0 (Int.toNat s11) (([] : List UInt8), (([] : List UInt8), 0))).2.1) ≤ 4611686018427387904) = true then
                        if decide ((((List.length b0) + 1) * 16) ≤ 70368744177664) = true then
                          l33_0 m n x0 s10 ((IntKind.wrap .i64 (s11 + (1)))) ((b0 ++ [(((List.getD x0 (Int.toNat s11) (([] : List UInt8), (([] : List UInt8), 0))).1 ++ ([] : List UInt8)) ++ (quoteG (List.getD x0 (Int.toNat s11) (([] : List UInt8), (([] : List UInt8), 0))).2.1))]))
                        else
                          none
                      else
                        none
                    else
                      none
                  else
                    none
        else
          none
      else
        none
    else
      some (0, s11, b0)
def l33_0D : Nat × Int × (List (List UInt8)) := (0, 0, [])
@[reducible] def l33_0R (m n : Nat) (x0 : List ((List UInt8) × (List UInt8) × Int)) (s10 : Int) (s11 : Int) (b0 : List (List UInt8)) : Nat × Int × (List (List UInt8)) := Option.getD (l33_0 m n x0 s10 s11 b0) l33_0D
def l33_0H (x0 : List ((List UInt8) × (List UInt8) × Int)) (s10 : Int) (s11 : Int) (b0 : List (List UInt8)) : Env := [.top, .top, .top, (.sr 0 0 (List.length b0) 1 none), .top, .top, .top, .top, .top, (.d (.sl (.pair .str (.pair .str (.int .i64))) x0)), (.d (.int .i64 s10)), (.d (.int .i64 s11)), .top, .top, .top, .top, .top, .top, .top, .top, .top, .top, .top, .top, .top, .top, .top, .top, .top, .top, .top, .top, .top]
def l33_0B (x0 : List ((List UInt8) × (List UInt8) × Int)) (s10 : Int) (s11 : Int) (b0 : List (List UInt8)) : Boxes := [(.arr .str b0 true)]
def l33_0E (x0 : List ((List UInt8) × (List UInt8) × Int)) (s10 : Int) (s11 : Int) (b0 : List (List UInt8)) : Nat → AEx × Env × Boxes
  | _ => (.exit 0, [.top, .top, .top, (.sr 0 0 (List.length b0) 1 none), .top, .top, .top, .top, .top, (.d (.sl (.pair .str (.pair .str (.int .i64))) x0)), (.d (.int .i64 s10)), (.d (.int .i64 s11)), (.d (.bool (decide (s11 < s10)))), .top, .top, .top, .top, .top, .top, .top, .top, .top, .top, .top, .top, .top, .top, .top, .top, .top, .top, .top, .top], [(.arr .str b0 true)])
noncomputable def lbl33_0 : AC := loopBody 3592 body33

set_option maxHeartbeats 20000000 in
theorem l33_0_w0 (m n : Nat) (x0 : List ((List UInt8) × (List UInt8) × Int)) (s10 : Int) (s11 : Int) (b0 : List (List UInt8)) (r : AEx × Env × Boxes) (c0 : decide (s11 < s10) = true) (c1 : decide (0 ≤ s11) = true) (c2 : decide (s11 < (((List.length x0) : Nat) : Int)) = true) (c3 : ((List.getD x0 (Int.toNat s11) (([] : List UInt8), (([] : List UInt8), 0))).2.2 == (1)) = true) (c4 : decide (List.length (List.getD x0 (Int.toNat s11) (([] : List UInt8), (([] : List UInt8), 0))).1 + List.length ([61] : List UInt8) ≤ 4611686018427387904) = true) (c5 : decide (List.length (List.getD x0 (Int.toNat s11) (([] : List UInt8), (([] : List UInt8), 0))).2.1 ≤ 1000000) = true) (c6 : decide (List.length ((List.getD x0 (Int.toNat s11) (([] : List UInt8), (([] : List UInt8), 0))).1 ++ ([61] : List UInt8)) + List.length (quoteG (List.getD x0 (Int.toNat s11) (([] : List UInt8), (([] : List UInt8), 0))).2.1) ≤ 4611686018427387904) = true) (c8 : decide ((((List.length b0) + 1) * 16) ≤ 70368744177664) = true) (ih : (turns (hds 33 3592) 0 3592 (evC byref (evCall F S18 (m + 24)) (m + 24) 0 (hds 33) lbl33_0) n (l33_0H x0 s10 ((IntKind.wrap .i64 (s11 + (1)))) ((b0 ++ [(((List.getD x0 (Int.toNat s11) (([] : List UInt8), (([] : List UInt8), 0))).1 ++ ([61] : List UInt8)) ++ (quoteG (List.getD x0 (Int.toNat s11) (([] : List UInt8), (([] : List UInt8), 0))).2.1))]))) (l33_0B x0 s10 ((IntKind.wrap .i64 (s11 + (1)))) ((b0 ++ [(((List.getD x0 (Int.toNat s11) (([] : List UInt8), (([] : List UInt8), 0))).1 ++ ([61] : List UInt8)) ++ (quoteG (List.getD x0 (Int.toNat s11) (([] : List UInt8), (([] : List UInt8), 0))).2.1))])))).run = some r) : (turns (hds 33 3592) 0 3592 (evC byref (evCall F S18 (m + 24)) (m + 24) 0 (hds 33) lbl33_0) (n + 1) (l33_0H x0 s10 s11 b0) (l33_0B x0 s10 s11 b0)).run = some r := by
  have ht : (turn (hds 33 3592) 0 3592 (evC byref (evCall F S18 (m + 24)) (m + 24) 0 (hds 33) lbl33_0) (l33_0H x0 s10 s11 b0) (l33_0B x0 s10 s11 b0)).run = some (.normal, [.top, .top, .top, (.sr 0 0 ((List.length b0) + 1) 1 none), .top, .top, .top, .top, .top, (.d (.sl (.pair .str (.pair .str (.int .i64))) x0)), (.d (.int .i64 s10)), (.d (.int .i64 (IntKind.wrap .i64 (s11 + (1))))), .top, .top, .top, .top, .top, .top, .top, .top, .top, .top, .top, .top, .top, .top, .top, .top, .top, .top, .top, .top, .top], [(.arr .str (b0 ++ [(((List.getD x0 (Int.toNat s11) (([] : List UInt8), (([] : List UInt8), 0))).1 ++ ([61] : List UInt8)) ++ (quoteG (List.getD x0 (Int.toNat s11) (([] : List UInt8), (([] : List UInt8), 0))).2.1))]) true)]) := M.run_of_path _ [true, true, true, true, true, true, true, true, true, true] _ _ (by kernel_rfl) (all_t c0 (all_t c1 (all_t c2 (all_t c3 (all_t c4 (all_t c5 (all_t c6 (all_t rfl (all_t c8 (all_t (show decide ((List.length b0) = (List.length b0)) = true from decide_eq_true rfl) all_nil))))))))))
  refine turns_step ht (turns_eq ?_ ?_ ih)
  · unfold l33_0H
    first | (simp; done) | (simp [Nat.add_assoc]; done) | (simp; omega)
  · unfold l33_0B
    simp
set_option maxHeartbeats 20000000 in
theorem l33_0_w1 (m n : Nat) (x0 : List ((List UInt8) × (List UInt8) × Int)) (s10 : Int) (s11 : Int) (b0 : List (List UInt8)) (r : AEx × Env × Boxes) (c0 : decide (s11 < s10) = true) (c1 : decide (0 ≤ s11) = true) (c2 : decide (s11 < (((List.length x0) : Nat) : Int)) = true) (c3 : ¬ ((List.getD x0 (Int.toNat s11) (([] : List UInt8), (([] : List UInt8), 0))).2.2 == (1)) = true) (c4 : ((List.getD x0 (Int.toNat s11) (([] : List UInt8), (([] : List UInt8), 0))).2.2 == (2)) = true) (c5 : decide (List.length (List.getD x0 (Int.toNat s11) (([] : List UInt8), (([] : List UInt8), 0))).1 + List.length ([33, 61] : List UInt8) ≤ 4611686018427387904) = true) (c6 : decide (List.length (List.getD x0 (Int.toNat s11) (([] : List UInt8), (([] : List UInt8), 0))).2.1 ≤ 1000000) = true) (c7 : decide (List.length ((List.getD x0 (Int.toNat s11) (([] : List UInt8), (([] : List UInt8), 0))).1 ++ ([33, 61] : List UInt8)) + List.length (quoteG (List.getD x0 (Int.toNat s11) (([] : List UInt8), (([] : List UInt8), 0))).2.1) ≤ 4611686018427387904) = true) (c9 : decide ((((List.length b0) + 1) * 16) ≤ 70368744177664) = true) (ih : (turns (hds 33 3592) 0 3592 (evC byref (evCall F S18 (m + 24)) (m + 24) 0 (hds 33) lbl33_0) n (l33_0H x0 s10 ((IntKind.wrap .i64 (s11 + (1)))) ((b0 ++ [(((List.getD x0 (Int.toNat s11) (([] : List UInt8), (([] : List UInt8), 0))).1 ++ ([33, 61] : List UInt8)) ++ (quoteG (List.getD x0 (Int.toNat s11) (([] : List UInt8), (([] : List UInt8), 0))).2.1))]))) (l33_0B x0 s10 ((IntKind.wrap .i64 (s11 + (1)))) ((b0 ++ [(((List.getD x0 (Int.toNat s11) (([] : List UInt8), (([] : List UInt8), 0))).1 ++ ([33, 61] : List UInt8)) ++ (quoteG (List.getD x0 (Int.toNat s11) (([] : List UInt8), (([] : List UInt8), 0))).2.1))])))).run = some r) : (turns (hds 33 3592) 0 3592 (evC byref (evCall F S18 (m + 24)) (m + 24) 0 (hds 33) lbl33_0) (n + 1) (l33_0H x0 s10 s11 b0) (l33_0B x0 s10 s11 b0)).run = some r := by
  have ht : (turn (hds 33 3592) 0 3592 (evC byref (evCall F S18 (m + 24)) (m + 24) 0 (hds 33) lbl33_0) (l33_0H x0 s10 s11 b0) (l33_0B x0 s10 s11 b0)).run = some (.normal, [.top, .top, .top, (.sr 0 0 ((List.length b0) + 1) 1 none), .top, .top, .top, .top, .top, (.d (.sl (.pair .str (.pair .str (.int .i64))) x0)), (.d (.int .i64 s10)), (.d (.int .i64 (IntKind.wrap .i64 (s11 + (1))))), .top, .top, .top, .top, .top, .top, .top, .top, .top, .top, .top, .top, .top, .top, .top, .top, .top, .top, .top, .top, .top], [(.arr .str (b0 ++ [(((List.getD x0 (Int.toNat s11) (([] : List UInt8), (([] : List UInt8), 0))).1 ++ ([33, 61] : List UInt8)) ++ (quoteG (List.getD x0 (Int.toNat s11) (([] : List UInt8), (([] : List UInt8), 0))).2.1))]) true)]) := M.run_of_path _ [true, true, true, false, true, true, true, true, true, true, true] _ _ (by kernel_rfl) (all_t c0 (all_t c1 (all_t c2 (all_f c3 (all_t c4 (all_t c5 (all_t c6 (all_t c7 (all_t rfl (all_t c9 (all_t (show decide ((List.length b0) = (List.length b0)) = true from decide_eq_true rfl) all_nil)))))))))))
  refine turns_step ht (turns_eq ?_ ?_ ih)
  · unfold l33_0H
    first | (simp; done) | (simp [Nat.add_assoc]; done) | (simp; omega)
  · unfold l33_0B
    simp
set_option maxHeartbeats 20000000 in
theorem l33_0_w2 (m n : Nat) (x0 : List ((List UInt8) × (List UInt8) × Int)) (s10 : Int) (s11 : Int) (b0 : List (List UInt8)) (r : AEx × Env × Boxes) (c0 : decide (s11 < s10) = true) (c1 : decide (0 ≤ s11) = true) (c2 : decide (s11 < (((List.length x0) : Nat) : Int)) = true) (c3 : ¬ ((List.getD x0 (Int.toNat s11) (([] : List UInt8), (([] : List UInt8), 0))).2.2 == (1)) = true) (c4 : ¬ ((List.getD x0 (Int.toNat s11) (([] : List UInt8), (([] : List UInt8), 0))).2.2 == (2)) = true) (c5 : ((List.getD x0 (Int.toNat s11) (([] : List UInt8), (([] : List UInt8), 0))).2.2 == (3)) = true) (c6 : decide (List.length (List.getD x0 (Int.toNat s11) (([] : List UInt8), (([] : List UInt8), 0))).1 + List.length ([94, 61] : List UInt8) ≤ 4611686018427387904) = true) (c7 : decide (List.length (List.getD x0 (Int.toNat s11) (([] : List UInt8), (([] : List UInt8), 0))).2.1 ≤ 1000000) = true) (c8 : decide (List.length ((List.getD x0 (Int.toNat s11) (([] : List UInt8), (([] : List UInt8), 0))).1 ++ ([94, 61] : List UInt8)) + List.length (quoteG (List.getD x0 (Int.toNat s11) (([] : List UInt8), (([] : List UInt8), 0))).2.1) ≤ 4611686018427387904) = true) (c10 : decide ((((List.length b0) + 1) * 16) ≤ 70368744177664) = true) (ih : (turns (hds 33 3592) 0 3592 (evC byref (evCall F S18 (m + 24)) (m + 24) 0 (hds 33) lbl33_0) n (l33_0H x0 s10 ((IntKind.wrap .i64 (s11 + (1)))) ((b0 ++ [(((List.getD x0 (Int.toNat s11) (([] : List UInt8), (([] : List UInt8), 0))).1 ++ ([94, 61] : List UInt8)) ++ (quoteG (List.getD x0 (Int.toNat s11) (([] : List UInt8), (([] : List UInt8), 0))).2.1))]))) (l33_0B x0 s10 ((IntKind.wrap .i64 (s11 + (1)))) ((b0 ++ [(((List.getD x0 (Int.toNat s11) (([] : List UInt8), (([] : List UInt8), 0))).1 ++ ([94, 61] : List UInt8)) ++ (quoteG (List.getD x0 (Int.toNat s11) (([] : List UInt8), (([] : List UInt8), 0))).2.1))])))).run = some r) : (turns (hds 33 3592) 0 3592 (evC byref (evCall F S18 (m + 24)) (m + 24) 0 (hds 33) lbl33_0) (n + 1) (l33_0H x0 s10 s11 b0) (l33_0B x0 s10 s11 b0)).run = some r := by
  have ht : (turn (hds 33 3592) 0 3592 (evC byref (evCall F S18 (m + 24)) (m + 24) 0 (hds 33) lbl33_0) (l33_0H x0 s10 s11 b0) (l33_0B x0 s10 s11 b0)).run = some (.normal, [.top, .top, .top, (.sr 0 0 ((List.length b0) + 1) 1 none), .top, .top, .top, .top, .top, (.d (.sl (.pair .str (.pair .str (.int .i64))) x0)), (.d (.int .i64 s10)), (.d (.int .i64 (IntKind.wrap .i64 (s11 + (1))))), .top, .top, .top, .top, .top, .top, .top, .top, .top, .top, .top, .top, .top, .top, .top, .top, .top, .top, .top, .top, .top], [(.arr .str (b0 ++ [(((List.getD x0 (Int.toNat s11) (([] : List UInt8), (([] : List UInt8), 0))).1 ++ ([94, 61] : List UInt8)) ++ (quoteG (List.getD x0 (Int.toNat s11) (([] : List UInt8), (([] : List UInt8), 0))).2.1))]) true)]) := M.run_of_path _ [true, true, true, false, false, true, true, true, true, true, true, true] _ _ (by kernel_rfl) (all_t c0 (all_t c1 (all_t c2 (all_f c3 (all_f c4 (all_t c5 (all_t c6 (all_t c7 (all_t c8 (all_t rfl (all_t c10 (all_t (show decide ((List.length b0) = (List.length b0)) = true from decide_eq_true rfl) all_nil))))))))))))
  refine turns_step ht (turns_eq ?_ ?_ ih)
  · unfold l33_0H
    first | (simp; done) | (simp [Nat.add_assoc]; done) | (simp; omega)
  · unfold l33_0B
    simp
set_option maxHeartbeats 20000000 in
theorem l33_0_w3 (m n : Nat) (x0 : List ((List UInt8) × (List UInt8) × Int)) (s10 : Int) (s11 : Int) (b0 : List (List UInt8)) (r : AEx × Env × Boxes) (c0 : decide (s11 < s10) = true) (c1 : decide (0 ≤ s11) = true) (c2 : decide (s11 < (((List.length x0) : Nat) : Int)) = true) (c3 : ¬ ((List.getD x0 (Int.toNat s11) (([] : List UInt8), (([] : List UInt8), 0))).2.2 == (1)) = true) (c4 : ¬ ((List.getD x0 (Int.toNat s11) (([] : List UInt8), (([] : List UInt8), 0))).2.2 == (2)) = true) (c5 : ¬ ((List.getD x0 (Int.toNat s11) (([] : List UInt8), (([] : List UInt8), 0))).2.2 == (3)) = true) (c6 : ((List.getD x0 (Int.toNat s11) (([] : List UInt8), (([] : List UInt8), 0))).2.2 == (4)) = true) (c7 : decide (List.length (List.getD x0 (Int.toNat s11) (([] : List UInt8), (([] : List UInt8), 0))).1 + List.length ([33, 94] : List UInt8) ≤ 4611686018427387904) = true) (c8 : decide (List.length (List.getD x0 (Int.toNat s11) (([] : List UInt8), (([] : List UInt8), 0))).2.1 ≤ 1000000) = true) (c9 : decide (List.length ((List.getD x0 (Int.toNat s11) (([] : List UInt8), (([] : List UInt8), 0))).1 ++ ([33, 94] : List UInt8)) + List.length (quoteG (List.getD x0 (Int.toNat s11) (([] : List UInt8), (([] : List UInt8), 0))).2.1) ≤ 4611686018427387904) = true) (c11 : decide ((((List.length b0) + 1) * 16) ≤ 70368744177664) = true) (ih : (turns (hds 33 3592) 0 3592 (evC byref (evCall F S18 (m + 24)) (m + 24) 0 (hds 33) lbl33_0) n (l33_0H x0 s10 ((IntKind.wrap .i64 (s11 + (1)))) ((b0 ++ [(((List.getD x0 (Int.toNat s11) (([] : List UInt8), (([] : List UInt8), 0))).1 ++ ([33, 94] : List UInt8)) ++ (quoteG (List.getD x0 (Int.toNat s11) (([] : List UInt8), (([] : List UInt8), 0))).2.1))]))) (l33_0B x0 s10 ((IntKind.wrap .i64 (s11 + (1)))) ((b0 ++ [(((List.getD x0 (Int.toNat s11) (([] : List UInt8), (([] : List UInt8), 0))).1 ++ ([33, 94] : List UInt8)) ++ (quoteG (List.getD x0 (Int.toNat s11) (([] : List UInt8), (([] : List UInt8), 0))).2.1))])))).run = some r) : (turns (hds 33 3592) 0 3592 (evC byref (evCall F S18 (m + 24)) (m + 24) 0 (hds 33) lbl33_0) (n + 1) (l33_0H x0 s10 s11 b0) (l33_0B x0 s10 s11 b0)).run = some r := by
  have ht : (turn (hds 33 3592) 0 3592 (evC byref (evCall F S18 (m + 24)) (m + 24) 0 (hds 33) lbl33_0) (l33_0H x0 s10 s11 b0) (l33_0B x0 s10 s11 b0)).run = some (.normal, [.top, .top, .top, (.sr 0 0 ((List.length b0) + 1) 1 none), .top, .top, .top, .top, .top, (.d (.sl (.pair .str (.pair .str (.int .i64))) x0)), (.d (.int .i64 s10)), (.d (.int .i64 (IntKind.wrap .i64 (s11 + (1))))), .top, .top, .top, .top, .top, .top, .top, .top, .top, .top, .top, .top, .top, .top, .top, .top, .top, .top, .top, .top, .top], [(.arr .str (b0 ++ [(((List.getD x0 (Int.toNat s11) (([] : List UInt8), (([] : List UInt8), 0))).1 ++ ([33, 94] : List UInt8)) ++ (quoteG (List.getD x0 (Int.toNat s11) (([] : List UInt8), (([] : List UInt8), 0))).2.1))]) true)]) := M.run_of_path _ [true, true, true, false, false, false, true, true, true, true, true, true, true] _ _ (by kernel_rfl) (all_t c0 (all_t c1 (all_t c2 (all_f c3 (all_f c4 (all_f c5 (all_t c6 (all_t c7 (all_t c8 (all_t c9 (all_t rfl (all_t c11 (all_t (show decide ((List.length b0) = (List.length b0)) = true from decide_eq_true rfl) all_nil)))))))))))))
  refine turns_step ht (turns_eq ?_ ?_ ih)
  · unfold l33_0H
    first | (simp; done) | (simp [Nat.add_assoc]; done) | (simp; omega)
  · unfold l33_0B
    simp
set_option maxHeartbeats 20000000 in
theorem l33_0_w4 (m n : Nat) (x0 : List ((List UInt8) × (List UInt8) × Int)) (s10 : Int) (s11 : Int) (b0 : List (List UInt8)) (r : AEx × Env × Boxes) (c0 : decide (s11 < s10) = true) (c1 : decide (0 ≤ s11) = true) (c2 : decide (s11 < (((List.length x0) : Nat) : Int)) = true) (c3 : ¬ ((List.getD x0 (Int.toNat s11) (([] : List UInt8), (([] : List UInt8), 0))).2.2 == (1)) = true) (c4 : ¬ ((List.getD x0 (Int.toNat s11) (([] : List UInt8), (([] : List UInt8), 0))).2.2 == (2)) = true) (c5 : ¬ ((List.getD x0 (Int.toNat s11) (([] : List UInt8), (([] : List UInt8), 0))).2.2 == (3)) = true) (c6 : ¬ ((List.getD x0 (Int.toNat s11) (([] : List UInt8), (([] : List UInt8), 0))).2.2 == (4)) = true) (c7 : decide (List.length (List.getD x0 (Int.toNat s11) (([] : List UInt8), (([] : List UInt8), 0))).1 + List.length ([] : List UInt8) ≤ 4611686018427387904) = true) (c8 : decide (List.length (List.getD x0 (Int.toNat s11) (([] : List UInt8), (([] : List UInt8), 0))).2.1 ≤ 1000000) = true) (c9 : decide (List.length ((List.getD x0 (Int.toNat s11) (([] : List UInt8), (([] : List UInt8), 0))).1 ++ ([] : List UInt8)) + List.length (quoteG (List.getD x0 (Int.toNat s11) (([] : List UInt8), (([] : List UInt8), 0))).2.1) ≤ 4611686018427387904) = true) (c11 : decide ((((List.length b0) + 1) * 16) ≤ 70368744177664) = true) (ih : (turns (hds 33 3592) 0 3592 (evC byref (evCall F S18 (m + 24)) (m + 24) 0 (hds 33) lbl33_0) n (l33_0H x0 s10 ((IntKind.wrap .i64 (s11 + (1)))) ((b0 ++ [(((List.getD x0 (Int.toNat s11) (([] : List UInt8), (([] : List UInt8), 0))).1 ++ ([] : List UInt8)) ++ (quoteG (List.getD x0 (Int.toNat s11) (([] : List UInt8), (([] : List UInt8), 0))).2.1))]))) (l33_0B x0 s10 ((IntKind.wrap .i64 (s11 + (1)))) ((b0 ++ [(((List.getD x0 (Int.toNat s11) (([] : List UInt8), (([] : List UInt8), 0))).1 ++ ([] : List UInt8)) ++ (quoteG (List.getD x0 (Int.toNat s11) (([] : List UInt8), (([] : List UInt8), 0))).2.1))])))).run = some r) : (turns (hds 33 3592) 0 3592 (evC byref (evCall F S18 (m + 24)) (m + 24) 0 (hds 33) lbl33_0) (n + 1) (l33_0H x0 s10 s11 b0) (l33_0B x0 s10 s11 b0)).run = some r := by
  have ht : (turn (hds 33 3592) 0 3592 (evC byref (evCall F S18 (m + 24)) (m + 24) 0 (hds 33) lbl33_0) (l33_0H x0 s10 s11 b0) (l33_0B x0 s10 s11 b0)).run = some (.normal, [.top, .top, .top, (.sr 0 0 ((List.length b0) + 1) 1 none), .top, .top, .top, .top, .top, (.d (.sl (.pair .str (.pair .str (.int .i64))) x0)), (.d (.int .i64 s10)), (.d (.int .i64 (IntKind.wrap .i64 (s11 + (1))))), .top, .top, .top, .top, .top, .top, .top, .top, .top, .top, .top, .top, .top, .top, .top, .top, .top, .top, .top, .top, .top], [(.arr .str (b0 ++ [(((List.getD x0 (Int.toNat s11) (([] : List UInt8), (([] : List UInt8), 0))).1 ++ ([] : List UInt8)) ++ (quoteG (List.getD x0 (Int.toNat s11) (([] : List UInt8), (([] : List UInt8), 0))).2.1))]) true)]) := M.run_of_path _ [true, true, true, false, false, false, false, true, true, true, true, true, true] _ _ (by kernel_rfl) (all_t c0 (all_t c1 (all_t c2 (all_f c3 (all_f c4 (all_f c5 (all_f c6 (all_t c7 (all_t c8 (all_t c9 (all_t rfl (all_t c11 (all_t (show decide ((List.length b0) = (List.length b0)) = true from decide_eq_true rfl) all_nil)))))))))))))
  refine turns_step ht (turns_eq ?_ ?_ ih)
  · unfold l33_0H
    first | (simp; done) | (simp [Nat.add_assoc]; done) | (simp; omega)
  · unfold l33_0B
    simp
set_option maxHeartbeats 20000000 in
theorem l33_0_w5 (m n : Nat) (x0 : List ((List UInt8) × (List UInt8) × Int)) (s10 : Int) (s11 : Int) (b0 : List (List UInt8)) (c0 : ¬ decide (s11 < s10) = true) : (turns (hds 33 3592) 0 3592 (evC byref (evCall F S18 (m + 24)) (m + 24) 0 (hds 33) lbl33_0) (n + 1) (l33_0H x0 s10 s11 b0) (l33_0B x0 s10 s11 b0)).run = some (.exit 0, [.top, .top, .top, (.sr 0 0 (List.length b0) 1 none), .top, .top, .top, .top, .top, (.d (.sl (.pair .str (.pair .str (.int .i64))) x0)), (.d (.int .i64 s10)), (.d (.int .i64 s11)), (.d (.bool (decide (s11 < s10)))), .top, .top, .top, .top, .top, .top, .top, .top, .top, .top, .top, .top, .top, .top, .top, .top, .top, .top, .top, .top], [(.arr .str b0 true)]) := by
  exact turns_last (by simp) (M.run_of_path _ [false] _ _ (by kernel_rfl) (all_f c0 all_nil)) 

set_option maxHeartbeats 20000000 in
theorem l33_0_step (m n : Nat) (ih : ∀ (x0 : List ((List UInt8) × (List UInt8) × Int)) (s10 : Int) (s11 : Int) (b0 : List (List UInt8)) (q : Nat × Int × (List (List UInt8))), l33_0 m n x0 s10 s11 b0 = some q → (turns (hds 33 3592) 0 3592 (evC byref (evCall F S18 (m + 24)) (m + 24) 0 (hds 33) lbl33_0) n (l33_0H x0 s10 s11 b0) (l33_0B x0 s10 s11 b0)).run = some (l33_0E (x0) (s10) (q.2.1) (q.2.2) q.1)) (x0 : List ((List UInt8) × (List UInt8) × Int)) (s10 : Int) (s11 : Int) (b0 : List (List UInt8)) (q : Nat × Int × (List (List UInt8))) (h : l33_0 m (n + 1) x0 s10 s11 b0 = some q) : (turns (hds 33 3592) 0 3592 (evC byref (evCall F S18 (m + 24)) (m + 24) 0 (hds 33) lbl33_0) (n + 1) (l33_0H x0 s10 s11 b0) (l33_0B x0 s10 s11 b0)).run = some (l33_0E (x0) (s10) (q.2.1) (q.2.2) q.1) := by
  rw [l33_0] at h
  refine ite_cases h (fun c0 h => ?_) (fun c0 h => ?_)
  · skip
    refine ite_cases h (fun c1 h => ?_) (fun c1 h => ?_)
    · skip
      refine ite_cases h (fun c2 h => ?_) (fun c2 h => ?_)
      · skip
        refine ite_cases h (fun c3 h => ?_) (fun c3 h => ?_)
        · skip
          refine ite_cases h (fun c4 h => ?_) (fun c4 h => ?_)
          · skip
            refine ite_cases h (fun c5 h => ?_) (fun c5 h => ?_)
            · skip
              refine ite_cases h (fun c6 h => ?_) (fun c6 h => ?_)
              · skip
                refine ite_cases h (fun c8 h => ?_) (fun c8 h => ?_)
                · skip
                  exact l33_0_w0 m n x0 s10 s11 b0 _ c0 c1 c2 c3 c4 c5 c6 c8 (ih _ _ _ _ q h)
                · skip
                  cases h
              · skip
                cases h
            · skip
              cases h
          · skip
            cases h
        · skip
          refine ite_cases h (fun c4 h => ?_) (fun c4 h => ?_)
          · skip
            refine ite_cases h (fun c5 h => ?_) (fun c5 h => ?_)
            · skip
              refine ite_cases h (fun c6 h => ?_) (fun c6 h => ?_)
              · skip
                refine ite_cases h (fun c7 h => ?_) (fun c7 h => ?_)
                · skip
                  refine ite_cases h (fun c9 h => ?_) (fun c9 h => ?_)
                  · skip
                    exact l33_0_w1 m n x0 s10 s11 b0 _ c0 c1 c2 c3 c4 c5 c6 c7 c9 (ih _ _ _ _ q h)
                  · skip
                    cases h
                · skip
                  cases h
              · skip
                cases h
            · skip
              cases h
          · skip
            refine ite_cases h (fun c5 h => ?_) (fun c5 h => ?_)
            · skip
              refine ite_cases h (fun c6 h => ?_) (fun c6 h => ?_)
              · skip
                refine ite_cases h (fun c7 h => ?_) (fun c7 h => ?_)
                · skip
                  refine ite_cases h (fun c8 h => ?_) (fun c8 h => ?_)
                  · skip
                    refine ite_cases h (fun c10 h => ?_) (fun c10 h => ?_)
                    · skip
                      exact l33_0_w2 m n x0 s10 s11 b0 _ c0 c1 c2 c3 c4 c5 c6 c7 c8 c10 (ih _ _ _ _ q h)
                    · skip
                      cases h
                  · skip
                    cases h
                · skip
                  cases h
              · skip
                cases h
            · skip
              refine ite_cases h (fun c6 h => ?_) (fun c6 h => ?_)
              · skip
                refine ite_cases h (fun c7 h => ?_) (fun c7 h => ?_)
                · skip
                  refine ite_cases h (fun c8 h => ?_) (fun c8 h => ?_)
                  · skip
                    refine ite_cases h (fun c9 h => ?_) (fun c9 h => ?_)
                    · skip
                      refine ite_cases h (fun c11 h => ?_) (fun c11 h => ?_)
                      · skip
                        exact l33_0_w3 m n x0 s10 s11 b0 _ c0 c1 c2 c3 c4 c5 c6 c7 c8 c9 c11 (ih _ _ _ _ q h)
                      · skip
                        cases h
                    · skip
                      cases h
                  · skip
                    cases h
                · skip
                  cases h
              · skip
                refine ite_cases h (fun c7 h => ?_) (fun c7 h => ?_)
                · skip
                  refine ite_cases h (fun c8 h => ?_) (fun c8 h => ?_)
                  · skip
                    refine ite_cases h (fun c9 h => ?_) (fun c9 h => ?_)
                    · skip
                      refine ite_cases h (fun c11 h => ?_) (fun c11 h => ?_)
                      · skip
                        exact l33_0_w4 m n x0 s10 s11 b0 _ c0 c1 c2 c3 c4 c5 c6 c7 c8 c9 c11 (ih _ _ _ _ q h)
                      · skip
                        cases h
                    · skip
                      cases h
                  · skip
                    cases h
                · skip
                  cases h
      · skip
        cases h
    · skip
      cases h
  · skip
    cases h
    exact l33_0_w5 m n x0 s10 s11 b0 c0
set_option maxHeartbeats 20000000 in
theorem l33_0_ok (m : Nat) : ∀ (n : Nat) (x0 : List ((List UInt8) × (List UInt8) × Int)) (s10 : Int) (s11 : Int) (b0 : List (List UInt8)) (q : Nat × Int × (List (List UInt8))), l33_0 m n x0 s10 s11 b0 = some q → (turns (hds 33 3592) 0 3592 (evC byref (evCall F S18 (m + 24)) (m + 24) 0 (hds 33) lbl33_0) n (l33_0H x0 s10 s11 b0) (l33_0B x0 s10 s11 b0)).run = some (l33_0E (x0) (s10) (q.2.1) (q.2.2) q.1)
  | 0, x0, s10, s11, b0, q, h => by cases h
  | n + 1, x0, s10, s11, b0, q, h => l33_0_step m n (l33_0_ok m n) x0 s10 s11 b0 q h

def p33 (m : Nat) (x0 : List ((List UInt8) × (List UInt8) × Int)) : Option ((List UInt8)) :=
  if rightPre x0 = true then
    if (rightG x0) = true then
      if (Option.isSome (l33_0 m (m + 24) x0 ((((List.length x0) : Nat) : Int)) 0 (([] : List (List UInt8))))) = true then
        if (decide (List.length (List.take (List.length (l33_0R m (m + 24) x0 ((((List.length x0) : Nat) : Int)) 0 (([] : List (List UInt8)))).2.2) (List.drop 0 (l33_0R m (m + 24) x0 ((((List.length x0) : Nat) : Int)) 0 (([] : List (List UInt8)))).2.2)) ≤ 140737488355328) && decide (List.length (Lib.join (List.take (List.length (l33_0R m (m + 24) x0 ((((List.length x0) : Nat) : Int)) 0 (([] : List (List UInt8)))).2.2) (List.drop 0 (l33_0R m (m + 24) x0 ((((List.length x0) : Nat) : Int)) 0 (([] : List (List UInt8)))).2.2)) ([44] : List UInt8)) ≤ 140737488355328)) = true then
          if decide (List.length ([123] : List UInt8) + List.length (Lib.join (List.take (List.length (l33_0R m (m + 24) x0 ((((List.length x0) : Nat) : Int)) 0 (([] : List (List UInt8)))).2.2) (List.drop 0 (l33_0R m (m + 24) x0 ((((List.length x0) : Nat) : Int)) 0 (([] : List (List UInt8)))).2.2)) ([44] : List UInt8)) ≤ 4611686018427387904) = true then
            if decide (List.length (([123] : List UInt8) ++ (Lib.join (List.take (List.length (l33_0R m (m + 24) x0 ((((List.length x0) : Nat) : Int)) 0 (([] : List (List UInt8)))).2.2) (List.drop 0 (l33_0R m (m + 24) x0 ((((List.length x0) : Nat) : Int)) 0 (([] : List (List UInt8)))).2.2)) ([44] : List UInt8))) + List.length ([125] : List UInt8) ≤ 4611686018427387904) = true then
              some (((([123] : List UInt8) ++ (Lib.join (List.take (List.length (l33_0R m (m + 24) x0 ((((List.length x0) : Nat) : Int)) 0 (([] : List (List UInt8)))).2.2) (List.drop 0 (l33_0R m (m + 24) x0 ((((List.length x0) : Nat) : Int)) 0 (([] : List (List UInt8)))).2.2)) ([44] : List UInt8))) ++ ([125] : List UInt8)))
            else
              none
          else
            none
        else
          none
      else
        none
    else
      some (([] : List UInt8))
  else
    none
set_option maxHeartbeats 20000000 in
theorem p33_ok (m : Nat) (x0 : List ((List UInt8) × (List UInt8) × Int)) (q : (List UInt8)) (h : p33 m x0 = some q) : ∃ r B1, (evCall F S18 (m + 25) 33 [(.d (.sl (.pair .str (.pair .str (.int .i64))) x0))] []).run = some (r, B1) ∧ 0 ≤ B1.length ∧ wkR B1 [] r (.d (.str q)) ∧ wkBs B1 [] 0 [] := by
  unfold p33 at h
  refine ite_cases h (fun c0 h => ?_) (fun c0 h => ?_)
  · skip
    refine ite_cases h (fun c1 h => ?_) (fun c1 h => ?_)
    · skip
      refine ite_cases h (fun c2 h => ?_) (fun c2 h => ?_)
      · skip
        refine ite_cases h (fun c4 h => ?_) (fun c4 h => ?_)
        · skip
          refine ite_cases h (fun c5 h => ?_) (fun c5 h => ?_)
          · skip
            refine ite_cases h (fun c6 h => ?_) (fun c6 h => ?_)
            · skip
              cases h
              refine ⟨(.d (.str ((([123] : List UInt8) ++ (Lib.join (List.take (List.length (l33_0R m (m + 24) x0 ((((List.length x0) : Nat) : Int)) 0 (([] : List (List UInt8)))).2.2) (List.drop 0 (l33_0R m (m + 24) x0 ((((List.length x0) : Nat) : Int)) 0 (([] : List (List UInt8)))).2.2)) ([44] : List UInt8))) ++ ([125] : List UInt8)))), [], runT_ok (LS := (fun k => if k = 3592 then some (l33_0E x0 (((((List.length x0) : Nat) : Int))) ((l33_0R m (m + 24) x0 ((((List.length x0) : Nat) : Int)) 0 (([] : List (List UInt8)))).2.1) ((l33_0R m (m + 24) x0 ((((List.length x0) : Nat) : Int)) 0 (([] : List (List UInt8)))).2.2) 0) else none)) (fn := fn33) (vis := [(3592, l33_0H x0 ((((List.length x0) : Nat) : Int)) 0 (([] : List (List UInt8))), l33_0B x0 ((((List.length x0) : Nat) : Int)) 0 (([] : List (List UInt8))))]) (by kernel_rfl) rfl (by kernel_rfl) (M.run_of_path _ [true, false, true, true, true, true] _ _ (by kernel_rfl) (all_t c0 (all_nt c1 (all_t (show decide ((0 + (List.length (l33_0R m (m + 24) x0 ((((List.length x0) : Nat) : Int)) 0 (([] : List (List UInt8)))).2.2)) ≤ (List.length (l33_0R m (m + 24) x0 ((((List.length x0) : Nat) : Int)) 0 (([] : List (List UInt8)))).2.2)) = true from decide_eq_true (Nat.le_of_eq (Nat.zero_add _))) (all_t c4 (all_t c5 (all_t c6 all_nil))))))) ?_, by simp, (wkR.one (wkV.one (wk1.eq rfl))), trivial⟩
              intro p hp p2 hq
              rcases List.mem_cons.1 hp with rfl | hp
              · skip
                have h3 := l33_0_ok m (m + 24) x0 ((((List.length x0) : Nat) : Int)) 0 (([] : List (List UInt8))) _ (some_getD (d := l33_0D) c2)
                exact Eq.trans (Eq.mp (by kernel_rfl) h3) hq
              cases hp
            · skip
              cases h
          · skip
            cases h
        · skip
          cases h
      · skip
        cases h
    · skip
      cases h
      refine ⟨(.d (.str ([] : List UInt8))), [], runT_ok (LS := (fun k => none)) (fn := fn33) (vis := []) (by kernel_rfl) rfl (by kernel_rfl) (M.run_of_path _ [true, true] _ _ (by kernel_rfl) (all_t c0 (all_nf c1 all_nil))) ?_, by simp, (wkR.one (wkV.one (wk1.eq rfl))), trivial⟩
      intro p hp; cases hp
  · skip
    cases h

def signB (k : Int) : List UInt8 := if k = 1 then [61] else if k = 2 then [33, 61] else if k = 3 then [94, 61] else if k = 4 then [33, 94] else []
def itemG (m : MT) : List UInt8 := (m.1 ++ signB m.2.2) ++ quoteG m.2.1
/-- Printed matchers. -/
def printG (ms : List MT) : List UInt8 := if rightG ms = true then ([123] ++ Lib.join (ms.map itemG) [44]) ++ [125] else []
theorem sign_le (k : Int) : (signB k).length ≤ 2 := by
  unfold signB
  split
  · simp
  · split
    · simp
    · split
      · simp
      · split <;> simp
theorem right_all {ms : List MT} (h : rightG ms = true) : ms.length ≤ 6 ∧ ∀ x ∈ ms, x.1.length ≤ 24 ∧ x.2.1.length ≤ 24 := by
  unfold rightG at h
  rw [Bool.and_eq_true, decide_eq_true_eq] at h
  refine ⟨h.2, fun x hx => ?_⟩
  have := List.all_eq_true.1 h.1 x hx
  unfold okM wordG at this
  simp only [Bool.and_eq_true, decide_eq_true_eq] at this
  omega
theorem inter_le (sep : List UInt8) (B : Nat) : ∀ (l : List (List UInt8)), (∀ x ∈ l, x.length ≤ B) → (Lib.join l sep).length ≤ l.length * (B + sep.length)
  | [], _ => Nat.zero_le _
  | [a], h => by
    have := h a (List.mem_cons_self ..)
    have e : Lib.join [a] sep = a := by unfold Lib.join; simp [List.intercalate]
    rw [e]
    simp only [List.length_cons, List.length_nil]
    omega
  | a :: b :: l, h => by
    have e : Lib.join (a :: b :: l) sep = a ++ (sep ++ Lib.join (b :: l) sep) := by unfold Lib.join; simp [List.intercalate]
    rw [e, List.length_append, List.length_append]
    have h1 := h a (List.mem_cons_self ..)
    have h2 := inter_le sep B (b :: l) (fun x hx => h x (List.mem_cons_of_mem _ hx))
    have : (a :: b :: l).length * (B + sep.length) = (b :: l).length * (B + sep.length) + (B + sep.length) := by
      rw [List.length_cons, Nat.succ_mul]
    omega
theorem item_le {x : MT} (h : x.1.length ≤ 24 ∧ x.2.1.length ≤ 24) : (itemG x).length ≤ 100 := by
  unfold itemG
  rw [List.length_append, List.length_append]
  have := sign_le x.2.2
  have := quote_le x.2.1
  omega
theorem print_loop (m : Nat) (ms : List MT) (h1 : ms.length ≤ 6) (h2 : ∀ x ∈ ms, x.1.length ≤ 24 ∧ x.2.1.length ≤ 24) : ∀ (n k : Nat) (b : List (List UInt8)), k ≤ ms.length → ms.length - k < n → b.length ≤ k → l33_0 m n ms (ms.length : Nat) (k : Nat) b = some (0, ((ms.length : Nat) : Int), b ++ (ms.drop k).map itemG)
  | 0, k, _, _, h, _ => by omega
  | n + 1, k, b, g1, g2, g3 => by
    rw [l33_0]
    by_cases hk : k < ms.length
    · have e1 : decide (((k : Nat) : Int) < (((List.length ms) : Nat) : Int)) = true := decide_eq_true (by omega)
      have e2 : decide ((0 : Int) ≤ ((k : Nat) : Int)) = true := decide_eq_true (by omega)
      have e7 : IntKind.wrap .i64 (((k : Nat) : Int) + (1)) = ((k + 1 : Nat) : Int) := by rw [wrap_id (by omega) (by omega)]; rfl
      have hq := h2 _ (getD_mem ms k (([] : List UInt8), (([] : List UInt8), 0)) hk)
      have go := fun x => print_loop m ms h1 h2 n (k + 1) (b ++ [x]) (by omega) (by omega) (by simp; omega)
      rw [drop_getD ms k (([] : List UInt8), (([] : List UInt8), 0)) hk]
      simp only [show Int.toNat ((k : Nat) : Int) = k from rfl, e1, e2, e7, ↓reduceIte]
      generalize ms.getD k (([] : List UInt8), (([] : List UInt8), 0)) = q at *
      have hi : itemG q = (q.1 ++ signB q.2.2) ++ quoteG q.2.1 := rfl
      have hs : signB q.2.2 = if q.2.2 = 1 then [61] else if q.2.2 = 2 then [33, 61] else if q.2.2 = 3 then [94, 61] else if q.2.2 = 4 then [33, 94] else [] := rfl
      have hql := quote_le q.2.1
      have b0 : decide (List.length q.2.1 ≤ 1000000) = true := decide_eq_true (by omega)
      have b1 : decide (((List.length b) + 1) * 16 ≤ 70368744177664) = true := decide_eq_true (by omega)
      have b2 : ∀ sg : List UInt8, sg.length ≤ 2 → decide (List.length q.1 + List.length sg ≤ 4611686018427387904) = true := fun sg h => decide_eq_true (by omega)
      have b3 : ∀ sg : List UInt8, sg.length ≤ 2 → decide (List.length (q.1 ++ sg) + List.length (quoteG q.2.1) ≤ 4611686018427387904) = true := fun sg h => decide_eq_true (by rw [List.length_append]; omega)
      have fin : ∀ sg, signB q.2.2 = sg → l33_0 m n ms (ms.length : Nat) ((k + 1 : Nat) : Int) (b ++ [(q.1 ++ sg) ++ quoteG q.2.1]) = some (0, ((ms.length : Nat) : Int), b ++ (q :: ms.drop (k + 1)).map itemG) := by
        intro sg hsg
        rw [go, List.map_cons, hi, hsg]
        simp
      have t1 := b2 [61] (by simp)
      have t2 := b2 [33, 61] (by simp)
      have t3 := b2 [94, 61] (by simp)
      have t4 := b2 [33, 94] (by simp)
      have t5 := b2 [] (by simp)
      have u1 := b3 [61] (by simp)
      have u2 := b3 [33, 61] (by simp)
      have u3 := b3 [94, 61] (by simp)
      have u4 := b3 [33, 94] (by simp)
      have u5 := b3 [] (by simp)
      simp only [b0, b1, t1, t2, t3, t4, t5, u1, u2, u3, u4, u5, ↓reduceIte]
      generalize q.2.2 = kd at *
      by_cases k1 : kd = 1
      · rw [if_pos (by simp [k1])]; exact fin _ (by rw [hs, if_pos k1])
      · rw [if_neg (by simpa using k1)]; rw [if_neg k1] at hs
        by_cases k2 : kd = 2
        · rw [if_pos (by simp [k2])]; exact fin _ (by rw [hs, if_pos k2])
        · rw [if_neg (by simpa using k2)]; rw [if_neg k2] at hs
          by_cases k3 : kd = 3
          · rw [if_pos (by simp [k3])]; exact fin _ (by rw [hs, if_pos k3])
          · rw [if_neg (by simpa using k3)]; rw [if_neg k3] at hs
            by_cases k4 : kd = 4
            · rw [if_pos (by simp [k4])]; exact fin _ (by rw [hs, if_pos k4])
            · rw [if_neg (by simpa using k4)]; rw [if_neg k4] at hs
              exact fin _ hs
    · have e1 : decide (((k : Nat) : Int) < (((List.length ms) : Nat) : Int)) = false := decide_eq_false (by omega)
      have e0 : k = ms.length := by omega
      subst e0
      rw [e1, if_neg (by simp), List.drop_length]
      simp
theorem print22 (ms : List MT) (h : rightPre ms = true) : ∃ m, p33 m ms = some (printG ms) := by
  refine ⟨ms.length, ?_⟩
  unfold p33 printG
  rw [if_pos h]
  by_cases hr : rightG ms = true
  · obtain ⟨h1, h2⟩ := right_all hr
    rw [if_pos hr, if_pos hr]
    have hl := print_loop ms.length ms h1 h2 (ms.length + 24) 0 [] (by omega) (by omega) (by simp)
    simp only [Int.natCast_zero, List.drop_zero, List.nil_append] at hl
    simp only [l33_0R, hl, Option.isSome_some, Option.getD_some, ↓reduceIte, List.drop_zero, List.take_length]
    have hj := inter_le [44] 100 (ms.map itemG) (by
      intro x hx
      obtain ⟨y, hy, rfl⟩ := List.mem_map.1 hx
      exact item_le (h2 y hy))
    have hm : (ms.map itemG).length = ms.length := by simp
    rw [hm] at hj
    generalize hJ : Lib.join (ms.map itemG) [44] = J at *
    have : ms.length * (100 + ([44] : List UInt8).length) ≤ 606 := by
      simp only [List.length_cons, List.length_nil]; omega
    rw [if_pos, if_pos, if_pos]
    · exact decide_eq_true (by simp; omega)
    · exact decide_eq_true (by simp; omega)
    · rw [Bool.and_eq_true]
      exact ⟨decide_eq_true (by rw [hm]; omega), decide_eq_true (by omega)⟩
  · rw [if_neg hr, if_neg hr]
def s33 : List AV → Boxes → M (AV × Boxes) := normS [.val (.sl (.pair .str (.pair .str (.int .i64))))] [] fun xs B => match xs, B with
  | [(.d (.sl (.pair .str (.pair .str (.int .i64))) c1))], [] => .chk (rightPre c1) (.ret ((.d (.str (printG c1))), []))
  | _, _ => .fail
theorem s33_at : CallAt Tryd.prog 33 s33 := by
  refine CallAt.norm (CallAt.weakE (g := fun n => evCall F S18 n 33) (fun n => evCall_atH mixed kinds hds S18 S18_ok n 33) fun xs B r' B' hr => ?_) _ _
  split at hr
  · rename_i c1
    obtain ⟨hp, hr⟩ := (M.run_chk _ _ _).1 hr
    simp only [M.run, Option.some.injEq, Prod.mk.injEq] at hr
    obtain ⟨rfl, rfl⟩ := hr
    obtain ⟨m, hm⟩ := print22 c1 hp
    obtain ⟨r, B1, h1, h2, h3, h4⟩ := p33_ok m c1 _ hm
    exact ⟨m + 25, r, B1, h1, by simp, h2, h3, h4⟩
  · simp [M.run] at hr
noncomputable def S19 : FuncId → Option (List AV → Boxes → M (AV × Boxes)) := fun f => if f = 33 then some s33 else S18 f
set_option maxHeartbeats 20000000 in
theorem S19_ok : ∀ f s, S19 f = some s → CallAt Tryd.prog f s := by
  intro f s h
  unfold S19 at h
  split at h
  · rename_i e; subst e; cases h; exact s33_at
  · exact S18_ok f s h

end Go.Proofs.YtcdpgldecikejaaDoor.Dec
