/- What the functions below call. No condition. klaxonkeep.Samples, upto. At, Add. slices.IndexFunc, slices.DeleteFunc, of Changes. Changes. SeriesRuns, reckoned. SeriesChanges, as a plain function. -/
import Derived.Test.YtahdcmicifokgaaQC4
import Derived.Test.YtahdcmicifokgaaProg
import Derived.KernelRfl
namespace Go.Proofs.Ytahdcmicifokgaa.Dec
open Go.Ev
set_option linter.unusedVariables false
set_option linter.unusedSimpArgs false
set_option maxRecDepth 100000
theorem mixed : Try.prog.follows .mixedOrders = true := by kernel_rfl
instance ctx : Ctx := ⟨fun t e => t = .int .u8 → e = 5, fun _ => False, fun _ => True, fun _ _ _ h => h⟩
instance tagOK : TagOK Try.prog := tagOK_of (u := 5) (fun _ _ => Iff.rfl) (by kernel_rfl)

def kinds : FuncId → Bool × Bool := fun f => (true, f == 11)
def hds : FuncId → Nat → Hd := fun f => noHd
@[reducible] noncomputable def F := fnsH Try.prog kinds hds
@[reducible] noncomputable def byref : FuncId → Bool := fun g => match F g with | some h => h.byref | none => false
noncomputable def S0 : FuncId → Option (List AV → Boxes → M (AV × Boxes)) := fun _ => none
set_option maxHeartbeats 20000000 in
theorem S0_ok : ∀ f s, S0 f = some s → CallAt Try.prog f s := fun f s h => by cases h
theorem some_getD {α : Type} {o : Option α} {d : α} (h : o.isSome = true) : o = some (o.getD d) := by
  cases o with
  | none => cases h
  | some a => rfl
theorem ite_cases {c : Prop} [Decidable c] {α : Type} {a b : Option α} {q : α} {G : Prop} (h : (if c then a else b) = some q) (h1 : c → a = some q → G) (h2 : ¬ c → b = some q → G) : G := by
  by_cases hc : c
  · rw [if_pos hc] at h; exact h1 hc h
  · rw [if_neg hc] at h; exact h2 hc h
theorem all_t {c : Bool} {l : List Bool} (h : c = true) (h2 : l.all id = true) : ((c == true) :: l).all id = true := by subst h; simpa using h2
theorem all_f {c : Bool} {l : List Bool} (h : ¬ c = true) (h2 : l.all id = true) : ((c == false) :: l).all id = true := by
  cases c with
  | false => simpa using h2
  | true => exact absurd rfl h
theorem turns_eq {h : Hd} {k0 keep : Nat} {f : LoopG} {n : Nat} {e e2 : Env} {B B2 : Boxes} {r : Option (AEx × Env × Boxes)} (h1 : e = e2) (h2 : B = B2) (h3 : (turns h k0 keep f n e2 B2).run = r) : (turns h k0 keep f n e B).run = r := by
  subst h1; subst h2; exact h3
theorem all_nil : ([] : List Bool).all id = true := rfl
theorem all_nt {c : Bool} {l : List Bool} (h : c = true) (h2 : l.all id = true) : (((!c) == false) :: l).all id = true := by subst h; simpa using h2
theorem all_nf {c : Bool} {l : List Bool} (h : ¬ c = true) (h2 : l.all id = true) : (((!c) == true) :: l).all id = true := by
  cases c with
  | false => simpa using h2
  | true => exact absurd rfl h
theorem all_nnt {c : Bool} {l : List Bool} (h : c = true) (h2 : l.all id = true) : (((!(!c)) == true) :: l).all id = true := by subst h; simpa using h2
theorem all_nnf {c : Bool} {l : List Bool} (h : ¬ c = true) (h2 : l.all id = true) : (((!(!c)) == false) :: l).all id = true := by
  cases c with
  | false => simpa using h2
  | true => exact absurd rfl h

noncomputable def S1 : FuncId → Option (List AV → Boxes → M (AV × Boxes)) := fun f => if f = 6 then some withinS else S0 f
set_option maxHeartbeats 20000000 in
theorem S1_ok : ∀ f s, S1 f = some s → CallAt Try.prog f s := by
  intro f s h
  unfold S1 at h
  split at h
  · rename_i e; subst e; cases h; exact (within_at mixed (kinds := kinds) (by kernel_rfl))
  · exact S0_ok f s h

noncomputable def S2 : FuncId → Option (List AV → Boxes → M (AV × Boxes)) := fun f => if f = 10 then some (cloneR (.pair (.int .i64) (.int .i64)) 16) else S1 f
set_option maxHeartbeats 20000000 in
theorem S2_ok : ∀ f s, S2 f = some s → CallAt Try.prog f s := by
  intro f s h
  unfold S2 at h
  split at h
  · rename_i e; subst e; cases h; exact (cloneR_at mixed 23 23 35 (.pair (.int .i64) (.int .i64)) 16 Try.func10 (by kernel_rfl) (by kernel_rfl) (by kernel_rfl) (by kernel_rfl) (by kernel_rfl) (by kernel_rfl) (by kernel_rfl) (by kernel_rfl) (by kernel_rfl) (by kernel_rfl) (by kernel_rfl) (by kernel_rfl) (by kernel_rfl) (by kernel_rfl) (by kernel_rfl) (by kernel_rfl) (by kernel_rfl) (by kernel_rfl) (by kernel_rfl) )
  · exact S1_ok f s h

end Go.Proofs.Ytahdcmicifokgaa.Dec
namespace Go.Proofs.Ytahdcmicifokgaa.Dec
open Go.Ev
set_option linter.unusedVariables false
set_option linter.unusedSimpArgs false
set_option maxRecDepth 100000
noncomputable def fn4 : AFn := (F 4).getD ⟨0, [], .bad, false, false, noHd⟩
noncomputable def body4 : AC := fn4.body
def l4_0 (m : Nat) : Nat → List Int → Int → Int → List (Int × Int) → Option (Nat × Int × Int × (List (Int × Int)))
  | 0, _, _, _, _ => none
  | n + 1, x0, s4, s5, b0 => if decide (s5 < (((List.length x0) : Nat) : Int)) = true then
      if decide (s5 < 20) = true then
        if decide (0 ≤ s5) = true then
          if decide ((((List.length b0) + 1) * 16) ≤ 70368744177664) = true then
            l4_0 m n x0 ((IntKind.wrap .i64 (s4 + (withinI (List.getD x0 (Int.toNat s5) 0) (1) (12))))) ((IntKind.wrap .i64 (s5 + (1)))) ((b0 ++ [((IntKind.wrap .i64 (s4 + (withinI (List.getD x0 (Int.toNat s5) 0) (1) (12)))), (withinI (IntKind.wrap .i64 (Int.tdiv (List.getD x0 (Int.toNat s5) 0) (12))) (-4) (9)))]))
          else
            none
        else
          none
      else
        some (0, s4, s5, b0)
    else
      some (1, s4, s5, b0)
def l4_0D : Nat × Int × Int × (List (Int × Int)) := (0, 0, 0, [])
@[reducible] def l4_0R (m n : Nat) (x0 : List Int) (s4 : Int) (s5 : Int) (b0 : List (Int × Int)) : Nat × Int × Int × (List (Int × Int)) := Option.getD (l4_0 m n x0 s4 s5 b0) l4_0D
def l4_0H (x0 : List Int) (s4 : Int) (s5 : Int) (b0 : List (Int × Int)) : Env := [(.d (.sl (.int .i64) x0)), .top, .top, (.sr 0 0 (List.length b0) 2 none), (.d (.int .i64 s4)), (.d (.int .i64 s5)), .top, .top, .top, .top, .top, .top, .top, .top, .top, .top, .top, .top, .top, .top, .top, .top, .top, .top, .top, .top, .top, .top, .top, .top, .top, .top, .top, .top, .top]
def l4_0B (x0 : List Int) (s4 : Int) (s5 : Int) (b0 : List (Int × Int)) : Boxes := [(.arr (.pair (.int .i64) (.int .i64)) b0 true)]
def l4_0E (x0 : List Int) (s4 : Int) (s5 : Int) (b0 : List (Int × Int)) : Nat → AEx × Env × Boxes
  | 0 => (.exit 0, [(.d (.sl (.int .i64) x0)), .top, .top, (.sr 0 0 (List.length b0) 2 none), (.d (.int .i64 s4)), (.d (.int .i64 s5)), (.d (.int .i64 s5)), (.d (.sl (.int .i64) x0)), (.d (.int .i64 (((List.length x0) : Nat) : Int))), (.d (.bool (decide (s5 < (((List.length x0) : Nat) : Int))))), (.d (.bool (decide (s5 < (((List.length x0) : Nat) : Int))))), (.d (.int .i64 s5)), (.d (.bool (decide (s5 < 20)))), (.d (.bool (decide (s5 < 20)))), .top, .top, .top, .top, .top, .top, .top, .top, .top, .top, .top, .top, .top, .top, .top, .top, .top, .top, .top, .top, .top], [(.arr (.pair (.int .i64) (.int .i64)) b0 true)])
  | _ => (.exit 0, [(.d (.sl (.int .i64) x0)), .top, .top, (.sr 0 0 (List.length b0) 2 none), (.d (.int .i64 s4)), (.d (.int .i64 s5)), (.d (.int .i64 s5)), (.d (.sl (.int .i64) x0)), (.d (.int .i64 (((List.length x0) : Nat) : Int))), (.d (.bool (decide (s5 < (((List.length x0) : Nat) : Int))))), (.d (.bool (decide (s5 < (((List.length x0) : Nat) : Int))))), (.tup []), (.tup []), (.d (.bool false)), .top, .top, .top, .top, .top, .top, .top, .top, .top, .top, .top, .top, .top, .top, .top, .top, .top, .top, .top, .top, .top], [(.arr (.pair (.int .i64) (.int .i64)) b0 true)])
noncomputable def lbl4_0 : AC := loopBody 57 body4

set_option maxHeartbeats 20000000 in
theorem l4_0_w0 (m n : Nat) (x0 : List Int) (s4 : Int) (s5 : Int) (b0 : List (Int × Int)) (r : AEx × Env × Boxes) (c0 : decide (s5 < (((List.length x0) : Nat) : Int)) = true) (c3 : decide (s5 < 20) = true) (c4 : decide (0 ≤ s5) = true) (c12 : decide ((((List.length b0) + 1) * 16) ≤ 70368744177664) = true) (ih : (turns (hds 4 57) 0 57 (evC byref (evCall F S2 (m + 24)) (m + 24) 0 (hds 4) lbl4_0) n (l4_0H x0 ((IntKind.wrap .i64 (s4 + (withinI (List.getD x0 (Int.toNat s5) 0) (1) (12))))) ((IntKind.wrap .i64 (s5 + (1)))) ((b0 ++ [((IntKind.wrap .i64 (s4 + (withinI (List.getD x0 (Int.toNat s5) 0) (1) (12)))), (withinI (IntKind.wrap .i64 (Int.tdiv (List.getD x0 (Int.toNat s5) 0) (12))) (-4) (9)))]))) (l4_0B x0 ((IntKind.wrap .i64 (s4 + (withinI (List.getD x0 (Int.toNat s5) 0) (1) (12))))) ((IntKind.wrap .i64 (s5 + (1)))) ((b0 ++ [((IntKind.wrap .i64 (s4 + (withinI (List.getD x0 (Int.toNat s5) 0) (1) (12)))), (withinI (IntKind.wrap .i64 (Int.tdiv (List.getD x0 (Int.toNat s5) 0) (12))) (-4) (9)))])))).run = some r) : (turns (hds 4 57) 0 57 (evC byref (evCall F S2 (m + 24)) (m + 24) 0 (hds 4) lbl4_0) (n + 1) (l4_0H x0 s4 s5 b0) (l4_0B x0 s4 s5 b0)).run = some r := by
  have ht : (turn (hds 4 57) 0 57 (evC byref (evCall F S2 (m + 24)) (m + 24) 0 (hds 4) lbl4_0) (l4_0H x0 s4 s5 b0) (l4_0B x0 s4 s5 b0)).run = some (.normal, [(.d (.sl (.int .i64) x0)), .top, .top, (.sr 0 0 ((List.length b0) + 1) 2 none), (.d (.int .i64 (IntKind.wrap .i64 (s4 + (withinI (List.getD x0 (Int.toNat s5) 0) (1) (12)))))), (.d (.int .i64 (IntKind.wrap .i64 (s5 + (1))))), .top, .top, .top, .top, .top, .top, .top, .top, .top, .top, .top, .top, .top, .top, .top, .top, .top, .top, .top, .top, .top, .top, .top, .top, .top, .top, .top, .top, .top], [(.arr (.pair (.int .i64) (.int .i64)) (b0 ++ [((IntKind.wrap .i64 (s4 + (withinI (List.getD x0 (Int.toNat s5) 0) (1) (12)))), (withinI (IntKind.wrap .i64 (Int.tdiv (List.getD x0 (Int.toNat s5) 0) (12))) (-4) (9)))]) true)]) := M.run_of_path _ [true, true, true, true, true, true, true, true, true, true, true, true, true, true] _ _ (by kernel_rfl) (all_t c0 (all_t c0 (all_t c0 (all_t c3 (all_t c4 (all_t c0 (all_t rfl (all_t c4 (all_t c0 (all_t rfl (all_t rfl (all_t rfl (all_t c12 (all_t (show decide ((List.length b0) = (List.length b0)) = true from decide_eq_true rfl) all_nil))))))))))))))
  refine turns_step ht (turns_eq ?_ ?_ ih)
  · unfold l4_0H
    first | (simp; done) | (simp [Nat.add_assoc]; done) | (simp; omega)
  · unfold l4_0B
    simp
set_option maxHeartbeats 20000000 in
theorem l4_0_w1 (m n : Nat) (x0 : List Int) (s4 : Int) (s5 : Int) (b0 : List (Int × Int)) (c0 : decide (s5 < (((List.length x0) : Nat) : Int)) = true) (c3 : ¬ decide (s5 < 20) = true) : (turns (hds 4 57) 0 57 (evC byref (evCall F S2 (m + 24)) (m + 24) 0 (hds 4) lbl4_0) (n + 1) (l4_0H x0 s4 s5 b0) (l4_0B x0 s4 s5 b0)).run = some (.exit 0, [(.d (.sl (.int .i64) x0)), .top, .top, (.sr 0 0 (List.length b0) 2 none), (.d (.int .i64 s4)), (.d (.int .i64 s5)), (.d (.int .i64 s5)), (.d (.sl (.int .i64) x0)), (.d (.int .i64 (((List.length x0) : Nat) : Int))), (.d (.bool (decide (s5 < (((List.length x0) : Nat) : Int))))), (.d (.bool (decide (s5 < (((List.length x0) : Nat) : Int))))), (.d (.int .i64 s5)), (.d (.bool (decide (s5 < 20)))), (.d (.bool (decide (s5 < 20)))), .top, .top, .top, .top, .top, .top, .top, .top, .top, .top, .top, .top, .top, .top, .top, .top, .top, .top, .top, .top, .top], [(.arr (.pair (.int .i64) (.int .i64)) b0 true)]) := by
  exact turns_last (by simp) (M.run_of_path _ [true, true, true, false] _ _ (by kernel_rfl) (all_t c0 (all_t c0 (all_t c0 (all_f c3 all_nil))))) 
set_option maxHeartbeats 20000000 in
theorem l4_0_w2 (m n : Nat) (x0 : List Int) (s4 : Int) (s5 : Int) (b0 : List (Int × Int)) (c0 : ¬ decide (s5 < (((List.length x0) : Nat) : Int)) = true) : (turns (hds 4 57) 0 57 (evC byref (evCall F S2 (m + 24)) (m + 24) 0 (hds 4) lbl4_0) (n + 1) (l4_0H x0 s4 s5 b0) (l4_0B x0 s4 s5 b0)).run = some (.exit 0, [(.d (.sl (.int .i64) x0)), .top, .top, (.sr 0 0 (List.length b0) 2 none), (.d (.int .i64 s4)), (.d (.int .i64 s5)), (.d (.int .i64 s5)), (.d (.sl (.int .i64) x0)), (.d (.int .i64 (((List.length x0) : Nat) : Int))), (.d (.bool (decide (s5 < (((List.length x0) : Nat) : Int))))), (.d (.bool (decide (s5 < (((List.length x0) : Nat) : Int))))), (.tup []), (.tup []), (.d (.bool false)), .top, .top, .top, .top, .top, .top, .top, .top, .top, .top, .top, .top, .top, .top, .top, .top, .top, .top, .top, .top, .top], [(.arr (.pair (.int .i64) (.int .i64)) b0 true)]) := by
  exact turns_last (by simp) (M.run_of_path _ [false, false, false, false] _ _ (by kernel_rfl) (all_f c0 (all_f c0 (all_f c0 (all_f Bool.false_ne_true all_nil))))) 

set_option maxHeartbeats 20000000 in
theorem l4_0_step (m n : Nat) (ih : ∀ (x0 : List Int) (s4 : Int) (s5 : Int) (b0 : List (Int × Int)) (q : Nat × Int × Int × (List (Int × Int))), l4_0 m n x0 s4 s5 b0 = some q → (turns (hds 4 57) 0 57 (evC byref (evCall F S2 (m + 24)) (m + 24) 0 (hds 4) lbl4_0) n (l4_0H x0 s4 s5 b0) (l4_0B x0 s4 s5 b0)).run = some (l4_0E (x0) (q.2.1) (q.2.2.1) (q.2.2.2) q.1)) (x0 : List Int) (s4 : Int) (s5 : Int) (b0 : List (Int × Int)) (q : Nat × Int × Int × (List (Int × Int))) (h : l4_0 m (n + 1) x0 s4 s5 b0 = some q) : (turns (hds 4 57) 0 57 (evC byref (evCall F S2 (m + 24)) (m + 24) 0 (hds 4) lbl4_0) (n + 1) (l4_0H x0 s4 s5 b0) (l4_0B x0 s4 s5 b0)).run = some (l4_0E (x0) (q.2.1) (q.2.2.1) (q.2.2.2) q.1) := by
  rw [l4_0] at h
  refine ite_cases h (fun c0 h => ?_) (fun c0 h => ?_)
  · skip
    refine ite_cases h (fun c3 h => ?_) (fun c3 h => ?_)
    · skip
      refine ite_cases h (fun c4 h => ?_) (fun c4 h => ?_)
      · skip
        refine ite_cases h (fun c12 h => ?_) (fun c12 h => ?_)
        · skip
          exact l4_0_w0 m n x0 s4 s5 b0 _ c0 c3 c4 c12 (ih _ _ _ _ q h)
        · skip
          cases h
      · skip
        cases h
    · skip
      cases h
      exact l4_0_w1 m n x0 s4 s5 b0 c0 c3
  · skip
    cases h
    exact l4_0_w2 m n x0 s4 s5 b0 c0
set_option maxHeartbeats 20000000 in
theorem l4_0_ok (m : Nat) : ∀ (n : Nat) (x0 : List Int) (s4 : Int) (s5 : Int) (b0 : List (Int × Int)) (q : Nat × Int × Int × (List (Int × Int))), l4_0 m n x0 s4 s5 b0 = some q → (turns (hds 4 57) 0 57 (evC byref (evCall F S2 (m + 24)) (m + 24) 0 (hds 4) lbl4_0) n (l4_0H x0 s4 s5 b0) (l4_0B x0 s4 s5 b0)).run = some (l4_0E (x0) (q.2.1) (q.2.2.1) (q.2.2.2) q.1)
  | 0, x0, s4, s5, b0, q, h => by cases h
  | n + 1, x0, s4, s5, b0, q, h => l4_0_step m n (l4_0_ok m n) x0 s4 s5 b0 q h

def p4 (m : Nat) (x0 : List Int) : Option ((List (Int × Int))) :=
  if (Option.isSome (l4_0 m (m + 24) x0 0 0 (([] : List (Int × Int))))) = true then
    if ((l4_0R m (m + 24) x0 0 0 (([] : List (Int × Int)))).1 == 0) = true then
      some ((List.take (List.length (l4_0R m (m + 24) x0 0 0 (([] : List (Int × Int)))).2.2.2) (List.drop 0 (l4_0R m (m + 24) x0 0 0 (([] : List (Int × Int)))).2.2.2)))
    else
      if ((l4_0R m (m + 24) x0 0 0 (([] : List (Int × Int)))).1 == 1) = true then
        some ((List.take (List.length (l4_0R m (m + 24) x0 0 0 (([] : List (Int × Int)))).2.2.2) (List.drop 0 (l4_0R m (m + 24) x0 0 0 (([] : List (Int × Int)))).2.2.2)))
      else
        none
  else
    none
set_option maxHeartbeats 20000000 in
theorem p4_ok (m : Nat) (x0 : List Int) (q : (List (Int × Int))) (h : p4 m x0 = some q) : ∃ r B1, (evCall F S2 (m + 25) 4 [(.d (.sl (.int .i64) x0))] []).run = some (r, B1) ∧ 0 ≤ B1.length ∧ wkR B1 [] r (.d (.sl (.pair (.int .i64) (.int .i64)) q)) ∧ wkBs B1 [] 0 [] := by
  unfold p4 at h
  refine ite_cases h (fun c0 h => ?_) (fun c0 h => ?_)
  · skip
    refine ite_cases h (fun c1 h => ?_) (fun c1 h => ?_)
    · skip
      cases h
      refine ⟨(.d (.sl (.pair (.int .i64) (.int .i64)) (List.take (List.length (l4_0R m (m + 24) x0 0 0 (([] : List (Int × Int)))).2.2.2) (List.drop 0 (l4_0R m (m + 24) x0 0 0 (([] : List (Int × Int)))).2.2.2)))), [], runT_ok (LS := (fun k => if k = 57 then some (l4_0E x0 ((l4_0R m (m + 24) x0 0 0 (([] : List (Int × Int)))).2.1) ((l4_0R m (m + 24) x0 0 0 (([] : List (Int × Int)))).2.2.1) ((l4_0R m (m + 24) x0 0 0 (([] : List (Int × Int)))).2.2.2) 0) else none)) (fn := fn4) (vis := [(57, l4_0H x0 0 0 (([] : List (Int × Int))), l4_0B x0 0 0 (([] : List (Int × Int))))]) (by kernel_rfl) rfl (by kernel_rfl) (M.run_of_path _ [true] _ _ (by kernel_rfl) (all_t (show decide ((0 + (List.length (l4_0R m (m + 24) x0 0 0 (([] : List (Int × Int)))).2.2.2)) ≤ (List.length (l4_0R m (m + 24) x0 0 0 (([] : List (Int × Int)))).2.2.2)) = true from decide_eq_true (Nat.le_of_eq (Nat.zero_add _))) all_nil)) ?_, by simp, (wkR.one (wkV.one (wk1.eq rfl))), trivial⟩
      intro p hp p2 hq
      rcases List.mem_cons.1 hp with rfl | hp
      · skip
        have h3 := l4_0_ok m (m + 24) x0 0 0 (([] : List (Int × Int))) _ (some_getD (d := l4_0D) c0)
        rw [eq_of_beq c1] at h3
        exact Eq.trans (Eq.mp (by kernel_rfl) h3) hq
      cases hp
    · skip
      refine ite_cases h (fun c2 h => ?_) (fun c2 h => ?_)
      · skip
        cases h
        refine ⟨(.d (.sl (.pair (.int .i64) (.int .i64)) (List.take (List.length (l4_0R m (m + 24) x0 0 0 (([] : List (Int × Int)))).2.2.2) (List.drop 0 (l4_0R m (m + 24) x0 0 0 (([] : List (Int × Int)))).2.2.2)))), [], runT_ok (LS := (fun k => if k = 57 then some (l4_0E x0 ((l4_0R m (m + 24) x0 0 0 (([] : List (Int × Int)))).2.1) ((l4_0R m (m + 24) x0 0 0 (([] : List (Int × Int)))).2.2.1) ((l4_0R m (m + 24) x0 0 0 (([] : List (Int × Int)))).2.2.2) 1) else none)) (fn := fn4) (vis := [(57, l4_0H x0 0 0 (([] : List (Int × Int))), l4_0B x0 0 0 (([] : List (Int × Int))))]) (by kernel_rfl) rfl (by kernel_rfl) (M.run_of_path _ [true] _ _ (by kernel_rfl) (all_t (show decide ((0 + (List.length (l4_0R m (m + 24) x0 0 0 (([] : List (Int × Int)))).2.2.2)) ≤ (List.length (l4_0R m (m + 24) x0 0 0 (([] : List (Int × Int)))).2.2.2)) = true from decide_eq_true (Nat.le_of_eq (Nat.zero_add _))) all_nil)) ?_, by simp, (wkR.one (wkV.one (wk1.eq rfl))), trivial⟩
        intro p hp p2 hq
        rcases List.mem_cons.1 hp with rfl | hp
        · skip
          have h3 := l4_0_ok m (m + 24) x0 0 0 (([] : List (Int × Int))) _ (some_getD (d := l4_0D) c0)
          rw [eq_of_beq c2] at h3
          exact Eq.trans (Eq.mp (by kernel_rfl) h3) hq
        cases hp
      · skip
        cases h
  · skip
    cases h

abbrev SL := List (Int × Int)
def sampGo (t : Int) : List Int → SL
  | [] => []
  | k :: ks => (t + withinI k 1 12, withinI (IntKind.wrap .i64 (Int.tdiv k 12)) (-4) 9) :: sampGo (t + withinI k 1 12) ks
/-- Samples of numbers. -/
def samplesG (l : List Int) : SL := sampGo 0 (l.take 20)
theorem within_1_12 (k : Int) : 1 ≤ withinI k 1 12 ∧ withinI k 1 12 ≤ 12 := by unfold withinI; omega
theorem samp_loop (m : Nat) (x0 : List Int) : ∀ (n i : Nat) (t : Int) (acc : SL), i ≤ x0.length → i ≤ 20 → 0 ≤ t → t ≤ 12 * (i : Nat) → acc.length = i → 20 - i < n →
    ∃ e t' i', l4_0 m n x0 t (i : Nat) acc = some (e, t', i', acc ++ sampGo t ((x0.take 20).drop i)) ∧ (e = 0 ∨ e = 1)
  | 0, i, t, acc, _, _, _, _, _, h => by omega
  | n + 1, i, t, acc, h1, h2, h3, h4, h5, h6 => by
    rw [l4_0]
    by_cases hi : i < x0.length
    · have e1 : decide (((i : Nat) : Int) < (((List.length x0) : Nat) : Int)) = true := decide_eq_true (by omega)
      by_cases hj : i < 20
      · have e2 : decide (((i : Nat) : Int) < 20) = true := decide_eq_true (by omega)
        have e3 : decide ((0 : Int) ≤ ((i : Nat) : Int)) = true := decide_eq_true (by omega)
        have e4 : decide ((((List.length acc) + 1) * 16) ≤ 70368744177664) = true := decide_eq_true (by omega)
        have e5 : decide ((List.length acc) = (List.length acc)) = true := decide_eq_true rfl
        have hw := within_1_12 (List.getD x0 i 0)
        have e6 : IntKind.wrap .i64 (t + withinI (List.getD x0 i 0) (1) (12)) = t + withinI (List.getD x0 i 0) (1) (12) := wrap_id (by omega) (by omega)
        have e7 : IntKind.wrap .i64 (((i : Nat) : Int) + (1)) = ((i + 1 : Nat) : Int) := by rw [wrap_id (by omega) (by omega)]; rfl
        simp only [e1, e2, e3, e4, e5, Int.toNat_natCast, e6, e7, ↓reduceIte]
        obtain ⟨e, t', i', hr, he⟩ := samp_loop m x0 n (i + 1) (t + withinI (List.getD x0 i 0) 1 12) (acc ++ [(t + withinI (List.getD x0 i 0) 1 12, withinI (IntKind.wrap .i64 (Int.tdiv (List.getD x0 i 0) 12)) (-4) 9)]) (by omega) (by omega) (by omega) (by omega) (by simp [h5]) (by omega)
        refine ⟨e, t', i', ?_, he⟩
        rw [hr]
        have hd : (x0.take 20).drop i = List.getD x0 i 0 :: (x0.take 20).drop (i + 1) := by
          rw [drop_getD (x0.take 20) i 0 (by rw [List.length_take]; omega)]
          congr 1
          rw [List.getD_eq_getElem?_getD, List.getD_eq_getElem?_getD, List.getElem?_take_of_lt hj]
        rw [hd]
        simp [sampGo]
      · have e2 : decide (((i : Nat) : Int) < 20) = false := decide_eq_false (by omega)
        simp only [e1, e2, ↓reduceIte, Bool.false_eq_true]
        refine ⟨0, t, (i : Nat), ?_, .inl rfl⟩
        have : i = 20 := by omega
        rw [List.drop_eq_nil_of_le (by rw [List.length_take]; omega)]
        simp [sampGo]
    · have e1 : decide (((i : Nat) : Int) < (((List.length x0) : Nat) : Int)) = false := decide_eq_false (by omega)
      simp only [e1, ↓reduceIte, Bool.false_eq_true]
      refine ⟨1, t, (i : Nat), ?_, .inr rfl⟩
      rw [List.drop_eq_nil_of_le (by rw [List.length_take]; omega)]
      simp [sampGo]
theorem samples31 (l : List Int) (_ : true = true) : ∃ m, p4 m l = some (samplesG l) := by
  refine ⟨0, ?_⟩
  obtain ⟨e, t', i', hr, he⟩ := samp_loop 0 l 24 0 0 [] (by omega) (by omega) (by omega) (by omega) rfl (by omega)
  simp only [Int.natCast_zero, List.drop_zero, List.nil_append] at hr
  unfold p4 l4_0R
  rw [hr]
  have h1 : decide (0 + List.length (sampGo 0 (l.take 20)) ≤ List.length (sampGo 0 (l.take 20))) = true := decide_eq_true (by omega)
  rcases he with rfl | rfl <;> simp [samplesG]
def s4 : List AV → Boxes → M (AV × Boxes) := normS [.val (.sl (.int .i64))] [] fun xs B => match xs, B with
  | [(.d (.sl (.int .i64) c1))], [] => .chk (true) (.ret ((.d (.sl (.pair (.int .i64) (.int .i64)) (samplesG c1))), []))
  | _, _ => .fail
theorem s4_at : CallAt Try.prog 4 s4 := by
  refine CallAt.norm (CallAt.weakE (g := fun n => evCall F S2 n 4) (fun n => evCall_atH mixed kinds hds S2 S2_ok n 4) fun xs B r' B' hr => ?_) _ _
  split at hr
  · rename_i c1
    obtain ⟨hp, hr⟩ := (M.run_chk _ _ _).1 hr
    simp only [M.run, Option.some.injEq, Prod.mk.injEq] at hr
    obtain ⟨rfl, rfl⟩ := hr
    obtain ⟨m, hm⟩ := samples31 c1 hp
    obtain ⟨r, B1, h1, h2, h3, h4⟩ := p4_ok m c1 _ hm
    exact ⟨m + 25, r, B1, h1, by simp, h2, h3, h4⟩
  · simp [M.run] at hr
noncomputable def S3 : FuncId → Option (List AV → Boxes → M (AV × Boxes)) := fun f => if f = 4 then some s4 else S2 f
set_option maxHeartbeats 20000000 in
theorem S3_ok : ∀ f s, S3 f = some s → CallAt Try.prog f s := by
  intro f s h
  unfold S3 at h
  split at h
  · rename_i e; subst e; cases h; exact s4_at
  · exact S2_ok f s h

noncomputable def fn13 : AFn := (F 13).getD ⟨0, [], .bad, false, false, noHd⟩
noncomputable def body13 : AC := fn13.body
def l13_0 (m : Nat) : Nat → List (Int × Int) → Int → Int → Option (Nat × Int)
  | 0, _, _, _ => none
  | n + 1, x0, x1, s5 => if decide (s5 < (((List.length x0) : Nat) : Int)) = true then
      if decide (0 ≤ s5) = true then
        if decide ((List.getD x0 (Int.toNat s5) (0, 0)).1 ≤ x1) = true then
          l13_0 m n x0 x1 ((IntKind.wrap .i64 (s5 + (1))))
        else
          some (0, s5)
      else
        none
    else
      some (1, s5)
def l13_0D : Nat × Int := (0, 0)
@[reducible] def l13_0R (m n : Nat) (x0 : List (Int × Int)) (x1 : Int) (s5 : Int) : Nat × Int := Option.getD (l13_0 m n x0 x1 s5) l13_0D
def l13_0H (x0 : List (Int × Int)) (x1 : Int) (s5 : Int) : Env := [(.ptr 0 0), (.d (.int .i64 x1)), .top, .top, .top, (.d (.int .i64 s5)), .top, .top, .top, .top, .top, .top, .top, .top, .top, .top, .top, .top, .top, .top, .top, .top, .top, .top, .top, .top, .top, .top]
def l13_0B (x0 : List (Int × Int)) (x1 : Int) (s5 : Int) : Boxes := [(.cells [(.d (.sl (.pair (.int .i64) (.int .i64)) x0))])]
def l13_0E (x0 : List (Int × Int)) (x1 : Int) (s5 : Int) : Nat → AEx × Env × Boxes
  | 0 => (.exit 0, [(.ptr 0 0), (.d (.int .i64 x1)), .top, .top, .top, (.d (.int .i64 s5)), (.d (.int .i64 s5)), (.ptr 0 0), (.ptr 0 0), (.ptr 0 0), (.d (.sl (.pair (.int .i64) (.int .i64)) x0)), (.d (.int .i64 (((List.length x0) : Nat) : Int))), (.d (.bool (decide (s5 < (((List.length x0) : Nat) : Int))))), (.d (.bool (decide (s5 < (((List.length x0) : Nat) : Int))))), (.ptr 0 0), (.ptr 0 0), (.ptr 0 0), (.d (.sl (.pair (.int .i64) (.int .i64)) x0)), (.d (.int .i64 s5)), (.cptr [(.int .i64 (List.getD x0 (Int.toNat s5) (0, 0)).1), (.int .i64 (List.getD x0 (Int.toNat s5) (0, 0)).2)] 0), (.cptr [(.int .i64 (List.getD x0 (Int.toNat s5) (0, 0)).1), (.int .i64 (List.getD x0 (Int.toNat s5) (0, 0)).2)] 0), (.d (.int .i64 (List.getD x0 (Int.toNat s5) (0, 0)).1)), (.d (.int .i64 x1)), (.d (.bool (decide ((List.getD x0 (Int.toNat s5) (0, 0)).1 ≤ x1)))), (.d (.bool (decide ((List.getD x0 (Int.toNat s5) (0, 0)).1 ≤ x1)))), .top, .top, .top], [(.cells [(.d (.sl (.pair (.int .i64) (.int .i64)) x0))])])
  | _ => (.exit 0, [(.ptr 0 0), (.d (.int .i64 x1)), .top, .top, .top, (.d (.int .i64 s5)), (.d (.int .i64 s5)), (.ptr 0 0), (.ptr 0 0), (.ptr 0 0), (.d (.sl (.pair (.int .i64) (.int .i64)) x0)), (.d (.int .i64 (((List.length x0) : Nat) : Int))), (.d (.bool (decide (s5 < (((List.length x0) : Nat) : Int))))), (.d (.bool (decide (s5 < (((List.length x0) : Nat) : Int))))), (.tup []), (.tup []), (.tup []), (.tup []), (.tup []), (.tup []), (.tup []), (.tup []), (.tup []), (.tup []), (.d (.bool false)), .top, .top, .top], [(.cells [(.d (.sl (.pair (.int .i64) (.int .i64)) x0))])])
noncomputable def lbl13_0 : AC := loopBody 35 body13

set_option maxHeartbeats 20000000 in
theorem l13_0_w0 (m n : Nat) (x0 : List (Int × Int)) (x1 : Int) (s5 : Int) (r : AEx × Env × Boxes) (c0 : decide (s5 < (((List.length x0) : Nat) : Int)) = true) (c6 : decide (0 ≤ s5) = true) (c13 : decide ((List.getD x0 (Int.toNat s5) (0, 0)).1 ≤ x1) = true) (ih : (turns (hds 13 35) 1 35 (evC byref (evCall F S3 (m + 24)) (m + 24) 1 (hds 13) lbl13_0) n (l13_0H x0 x1 ((IntKind.wrap .i64 (s5 + (1))))) (l13_0B x0 x1 ((IntKind.wrap .i64 (s5 + (1)))))).run = some r) : (turns (hds 13 35) 1 35 (evC byref (evCall F S3 (m + 24)) (m + 24) 1 (hds 13) lbl13_0) (n + 1) (l13_0H x0 x1 s5) (l13_0B x0 x1 s5)).run = some r := by
  exact turns_step (M.run_of_path _ [true, true, true, true, true, true, true, true, true, true, true, true, true, true] _ _ (by kernel_rfl) (all_t c0 (all_t c0 (all_t c0 (all_t c0 (all_t c0 (all_t c0 (all_t c6 (all_t c0 (all_t c0 (all_t c0 (all_t c0 (all_t c0 (all_t c0 (all_t c13 all_nil))))))))))))))) ih
set_option maxHeartbeats 20000000 in
theorem l13_0_w1 (m n : Nat) (x0 : List (Int × Int)) (x1 : Int) (s5 : Int) (c0 : decide (s5 < (((List.length x0) : Nat) : Int)) = true) (c6 : decide (0 ≤ s5) = true) (c13 : ¬ decide ((List.getD x0 (Int.toNat s5) (0, 0)).1 ≤ x1) = true) : (turns (hds 13 35) 1 35 (evC byref (evCall F S3 (m + 24)) (m + 24) 1 (hds 13) lbl13_0) (n + 1) (l13_0H x0 x1 s5) (l13_0B x0 x1 s5)).run = some (.exit 0, [(.ptr 0 0), (.d (.int .i64 x1)), .top, .top, .top, (.d (.int .i64 s5)), (.d (.int .i64 s5)), (.ptr 0 0), (.ptr 0 0), (.ptr 0 0), (.d (.sl (.pair (.int .i64) (.int .i64)) x0)), (.d (.int .i64 (((List.length x0) : Nat) : Int))), (.d (.bool (decide (s5 < (((List.length x0) : Nat) : Int))))), (.d (.bool (decide (s5 < (((List.length x0) : Nat) : Int))))), (.ptr 0 0), (.ptr 0 0), (.ptr 0 0), (.d (.sl (.pair (.int .i64) (.int .i64)) x0)), (.d (.int .i64 s5)), (.cptr [(.int .i64 (List.getD x0 (Int.toNat s5) (0, 0)).1), (.int .i64 (List.getD x0 (Int.toNat s5) (0, 0)).2)] 0), (.cptr [(.int .i64 (List.getD x0 (Int.toNat s5) (0, 0)).1), (.int .i64 (List.getD x0 (Int.toNat s5) (0, 0)).2)] 0), (.d (.int .i64 (List.getD x0 (Int.toNat s5) (0, 0)).1)), (.d (.int .i64 x1)), (.d (.bool (decide ((List.getD x0 (Int.toNat s5) (0, 0)).1 ≤ x1)))), (.d (.bool (decide ((List.getD x0 (Int.toNat s5) (0, 0)).1 ≤ x1)))), .top, .top, .top], [(.cells [(.d (.sl (.pair (.int .i64) (.int .i64)) x0))])]) := by
  exact turns_last (by simp) (M.run_of_path _ [true, true, true, true, true, true, true, true, true, true, true, true, true, false] _ _ (by kernel_rfl) (all_t c0 (all_t c0 (all_t c0 (all_t c0 (all_t c0 (all_t c0 (all_t c6 (all_t c0 (all_t c0 (all_t c0 (all_t c0 (all_t c0 (all_t c0 (all_f c13 all_nil))))))))))))))) 
set_option maxHeartbeats 20000000 in
theorem l13_0_w2 (m n : Nat) (x0 : List (Int × Int)) (x1 : Int) (s5 : Int) (c0 : ¬ decide (s5 < (((List.length x0) : Nat) : Int)) = true) : (turns (hds 13 35) 1 35 (evC byref (evCall F S3 (m + 24)) (m + 24) 1 (hds 13) lbl13_0) (n + 1) (l13_0H x0 x1 s5) (l13_0B x0 x1 s5)).run = some (.exit 0, [(.ptr 0 0), (.d (.int .i64 x1)), .top, .top, .top, (.d (.int .i64 s5)), (.d (.int .i64 s5)), (.ptr 0 0), (.ptr 0 0), (.ptr 0 0), (.d (.sl (.pair (.int .i64) (.int .i64)) x0)), (.d (.int .i64 (((List.length x0) : Nat) : Int))), (.d (.bool (decide (s5 < (((List.length x0) : Nat) : Int))))), (.d (.bool (decide (s5 < (((List.length x0) : Nat) : Int))))), (.tup []), (.tup []), (.tup []), (.tup []), (.tup []), (.tup []), (.tup []), (.tup []), (.tup []), (.tup []), (.d (.bool false)), .top, .top, .top], [(.cells [(.d (.sl (.pair (.int .i64) (.int .i64)) x0))])]) := by
  exact turns_last (by simp) (M.run_of_path _ [false, false, false, false, false, false, false, false, false, false, false, false] _ _ (by kernel_rfl) (all_f c0 (all_f c0 (all_f c0 (all_f c0 (all_f c0 (all_f c0 (all_f c0 (all_f c0 (all_f c0 (all_f c0 (all_f c0 (all_f Bool.false_ne_true all_nil))))))))))))) 

set_option maxHeartbeats 20000000 in
theorem l13_0_step (m n : Nat) (ih : ∀ (x0 : List (Int × Int)) (x1 : Int) (s5 : Int) (q : Nat × Int), l13_0 m n x0 x1 s5 = some q → (turns (hds 13 35) 1 35 (evC byref (evCall F S3 (m + 24)) (m + 24) 1 (hds 13) lbl13_0) n (l13_0H x0 x1 s5) (l13_0B x0 x1 s5)).run = some (l13_0E (x0) (x1) (q.2) q.1)) (x0 : List (Int × Int)) (x1 : Int) (s5 : Int) (q : Nat × Int) (h : l13_0 m (n + 1) x0 x1 s5 = some q) : (turns (hds 13 35) 1 35 (evC byref (evCall F S3 (m + 24)) (m + 24) 1 (hds 13) lbl13_0) (n + 1) (l13_0H x0 x1 s5) (l13_0B x0 x1 s5)).run = some (l13_0E (x0) (x1) (q.2) q.1) := by
  rw [l13_0] at h
  refine ite_cases h (fun c0 h => ?_) (fun c0 h => ?_)
  · skip
    refine ite_cases h (fun c6 h => ?_) (fun c6 h => ?_)
    · skip
      refine ite_cases h (fun c13 h => ?_) (fun c13 h => ?_)
      · skip
        exact l13_0_w0 m n x0 x1 s5 _ c0 c6 c13 (ih _ _ _ q h)
      · skip
        cases h
        exact l13_0_w1 m n x0 x1 s5 c0 c6 c13
    · skip
      cases h
  · skip
    cases h
    exact l13_0_w2 m n x0 x1 s5 c0
set_option maxHeartbeats 20000000 in
theorem l13_0_ok (m : Nat) : ∀ (n : Nat) (x0 : List (Int × Int)) (x1 : Int) (s5 : Int) (q : Nat × Int), l13_0 m n x0 x1 s5 = some q → (turns (hds 13 35) 1 35 (evC byref (evCall F S3 (m + 24)) (m + 24) 1 (hds 13) lbl13_0) n (l13_0H x0 x1 s5) (l13_0B x0 x1 s5)).run = some (l13_0E (x0) (x1) (q.2) q.1)
  | 0, x0, x1, s5, q, h => by cases h
  | n + 1, x0, x1, s5, q, h => l13_0_step m n (l13_0_ok m n) x0 x1 s5 q h

def p13 (m : Nat) (x0 : List (Int × Int)) (x1 : Int) : Option (Int × (List (Int × Int))) :=
  if (Option.isSome (l13_0 m (m + 24) x0 x1 0)) = true then
    if ((l13_0R m (m + 24) x0 x1 0).1 == 0) = true then
      some ((l13_0R m (m + 24) x0 x1 0).2, x0)
    else
      if ((l13_0R m (m + 24) x0 x1 0).1 == 1) = true then
        some ((l13_0R m (m + 24) x0 x1 0).2, x0)
      else
        none
  else
    none
set_option maxHeartbeats 20000000 in
theorem p13_ok (m : Nat) (x0 : List (Int × Int)) (x1 : Int) (q : Int × (List (Int × Int))) (h : p13 m x0 x1 = some q) : ∃ r B1, (evCall F S3 (m + 25) 13 [(.ptr 0 0), (.d (.int .i64 x1))] [(.cells [(.d (.sl (.pair (.int .i64) (.int .i64)) x0))])]).run = some (r, B1) ∧ 1 ≤ B1.length ∧ wkR B1 [(.cells [(.d (.sl (.pair (.int .i64) (.int .i64)) q.2))])] r (.d (.int .i64 q.1)) ∧ wkBs B1 [(.cells [(.d (.sl (.pair (.int .i64) (.int .i64)) q.2))])] 0 [(.cells [(.d (.sl (.pair (.int .i64) (.int .i64)) q.2))])] := by
  unfold p13 at h
  refine ite_cases h (fun c0 h => ?_) (fun c0 h => ?_)
  · skip
    refine ite_cases h (fun c1 h => ?_) (fun c1 h => ?_)
    · skip
      cases h
      refine ⟨(.d (.int .i64 (l13_0R m (m + 24) x0 x1 0).2)), [(.cells [(.d (.sl (.pair (.int .i64) (.int .i64)) x0))])], runT_ok (LS := (fun k => if k = 35 then some (l13_0E x0 x1 ((l13_0R m (m + 24) x0 x1 0).2) 0) else none)) (fn := fn13) (vis := [(35, l13_0H x0 x1 0, l13_0B x0 x1 0)]) (by kernel_rfl) rfl (by kernel_rfl) (M.run_of_path _ [] _ _ (by kernel_rfl) all_nil) ?_, by simp, (wkR.one (wkV.one (wk1.eq rfl))), ⟨wkBox.cells (wkL.cons (wk1.eq rfl) wkL.nil), trivial⟩⟩
      intro p hp p2 hq
      rcases List.mem_cons.1 hp with rfl | hp
      · skip
        have h3 := l13_0_ok m (m + 24) x0 x1 0 _ (some_getD (d := l13_0D) c0)
        rw [eq_of_beq c1] at h3
        exact Eq.trans (Eq.mp (by kernel_rfl) h3) hq
      cases hp
    · skip
      refine ite_cases h (fun c2 h => ?_) (fun c2 h => ?_)
      · skip
        cases h
        refine ⟨(.d (.int .i64 (l13_0R m (m + 24) x0 x1 0).2)), [(.cells [(.d (.sl (.pair (.int .i64) (.int .i64)) x0))])], runT_ok (LS := (fun k => if k = 35 then some (l13_0E x0 x1 ((l13_0R m (m + 24) x0 x1 0).2) 1) else none)) (fn := fn13) (vis := [(35, l13_0H x0 x1 0, l13_0B x0 x1 0)]) (by kernel_rfl) rfl (by kernel_rfl) (M.run_of_path _ [] _ _ (by kernel_rfl) all_nil) ?_, by simp, (wkR.one (wkV.one (wk1.eq rfl))), ⟨wkBox.cells (wkL.cons (wk1.eq rfl) wkL.nil), trivial⟩⟩
        intro p hp p2 hq
        rcases List.mem_cons.1 hp with rfl | hp
        · skip
          have h3 := l13_0_ok m (m + 24) x0 x1 0 _ (some_getD (d := l13_0D) c0)
          rw [eq_of_beq c2] at h3
          exact Eq.trans (Eq.mp (by kernel_rfl) h3) hq
        cases hp
      · skip
        cases h
  · skip
    cases h

/-- How many samples have a time at most t. -/
def uptoG (l : SL) (t : Int) : Nat := (l.takeWhile fun x => decide (x.1 ≤ t)).length
theorem upto_le (l : SL) (t : Int) : uptoG l t ≤ l.length := (List.takeWhile_sublist _).length_le
theorem upto_cons (a : Int × Int) (r : SL) (t : Int) : uptoG (a :: r) t = if a.1 ≤ t then uptoG r t + 1 else 0 := by
  unfold uptoG
  by_cases h : a.1 ≤ t
  · rw [List.takeWhile_cons_of_pos (by simpa using h), if_pos h]; rfl
  · rw [List.takeWhile_cons_of_neg (by simpa using h), if_neg h]; rfl
theorem upto_loop (m : Nat) (l : SL) (t : Int) (hb : l.length < 4611686018427387904) : ∀ (n k : Nat), k ≤ l.length → l.length - k < n → ∃ e, l13_0 m n l t (k : Nat) = some (e, ((k + uptoG (l.drop k) t : Nat) : Int)) ∧ (e = 0 ∨ e = 1)
  | 0, k, _, h => by omega
  | n + 1, k, h1, h2 => by
    rw [l13_0]
    by_cases hk : k < l.length
    · have e1 : decide (((k : Nat) : Int) < (((List.length l) : Nat) : Int)) = true := decide_eq_true (by omega)
      have e2 : decide ((0 : Int) ≤ ((k : Nat) : Int)) = true := decide_eq_true (by omega)
      have e7 : IntKind.wrap .i64 (((k : Nat) : Int) + (1)) = ((k + 1 : Nat) : Int) := by rw [wrap_id (by omega) (by omega)]; rfl
      simp only [e1, e2, Int.toNat_natCast, e7, ↓reduceIte]
      rw [drop_getD l k (0, 0) hk]
      by_cases hc : (l.getD k (0, 0)).1 ≤ t
      · obtain ⟨e, hr, he⟩ := upto_loop m l t hb n (k + 1) (by omega) (by omega)
        refine ⟨e, ?_, he⟩
        rw [if_pos (decide_eq_true hc), hr]
        have : uptoG (l.getD k (0, 0) :: l.drop (k + 1)) t = uptoG (l.drop (k + 1)) t + 1 := by rw [upto_cons, if_pos hc]
        rw [this, show k + 1 + uptoG (l.drop (k + 1)) t = k + (uptoG (l.drop (k + 1)) t + 1) by omega]
      · refine ⟨0, ?_, .inl rfl⟩
        rw [if_neg (by simpa using hc)]
        have : uptoG (l.getD k (0, 0) :: l.drop (k + 1)) t = 0 := by rw [upto_cons, if_neg hc]
        rw [this]
        rfl
    · have e1 : decide (((k : Nat) : Int) < (((List.length l) : Nat) : Int)) = false := decide_eq_false (by omega)
      simp only [e1, ↓reduceIte, Bool.false_eq_true]
      refine ⟨1, ?_, .inr rfl⟩
      rw [List.drop_eq_nil_of_le (by omega)]
      rfl
theorem upto46 (l : SL) (t : Int) (h : decide (l.length < 4611686018427387904) = true) : ∃ m, p13 m l t = some (((uptoG l t : Nat) : Int), l) := by
  refine ⟨l.length, ?_⟩
  obtain ⟨e, hr, he⟩ := upto_loop l.length l t (of_decide_eq_true h) (l.length + 24) 0 (by omega) (by omega)
  simp only [Int.natCast_zero, List.drop_zero, Nat.zero_add] at hr
  unfold p13 l13_0R
  rw [hr]
  rcases he with rfl | rfl <;> simp
def s13 : List AV → Boxes → M (AV × Boxes) := normS [.ptr, .val (.int .i64)] [(.sl (.pair (.int .i64) (.int .i64)))] fun xs B => match xs, B with
  | [(.ptr 0 0), (.d (.int .i64 c2))], [(.cells [(.d (.sl (.pair (.int .i64) (.int .i64)) c1))])] => .chk (decide (List.length c1 < 4611686018427387904)) (.ret ((.d (.int .i64 ((uptoG c1 c2 : Nat) : Int))), [(.cells [(.d (.sl (.pair (.int .i64) (.int .i64)) c1))])]))
  | _, _ => .fail
theorem s13_at : CallAt Try.prog 13 s13 := by
  refine CallAt.norm (CallAt.weakE (g := fun n => evCall F S3 n 13) (fun n => evCall_atH mixed kinds hds S3 S3_ok n 13) fun xs B r' B' hr => ?_) _ _
  split at hr
  · rename_i c2 c1
    obtain ⟨hp, hr⟩ := (M.run_chk _ _ _).1 hr
    simp only [M.run, Option.some.injEq, Prod.mk.injEq] at hr
    obtain ⟨rfl, rfl⟩ := hr
    obtain ⟨m, hm⟩ := upto46 c1 c2 hp
    obtain ⟨r, B1, h1, h2, h3, h4⟩ := p13_ok m c1 c2 _ hm
    exact ⟨m + 25, r, B1, h1, by simp, h2, h3, h4⟩
  · simp [M.run] at hr
noncomputable def S4 : FuncId → Option (List AV → Boxes → M (AV × Boxes)) := fun f => if f = 13 then some s13 else S3 f
set_option maxHeartbeats 20000000 in
theorem S4_ok : ∀ f s, S4 f = some s → CallAt Try.prog f s := by
  intro f s h
  unfold S4 at h
  split at h
  · rename_i e; subst e; cases h; exact s13_at
  · exact S3_ok f s h

end Go.Proofs.Ytahdcmicifokgaa.Dec
namespace Go.Proofs.Ytahdcmicifokgaa.Dec
open Go.Ev
set_option linter.unusedVariables false
set_option linter.unusedSimpArgs false
set_option maxRecDepth 100000
noncomputable def fn8 : AFn := (F 8).getD ⟨0, [], .bad, false, false, noHd⟩
noncomputable def body8 : AC := fn8.body
def p8 (m : Nat) (x0 : List (Int × Int)) (x1 : Int) (x2 : Int) : Option (Int × Bool × (List (Int × Int))) :=
  if decide (List.length x0 < 4611686018427387904) = true then
    if (((uptoG x0 x1 : Nat) : Int) == (0)) = true then
      some ((0), false, x0)
    else
      if decide (0 ≤ (IntKind.wrap .i64 (((uptoG x0 x1 : Nat) : Int) - (1)))) = true then
        if decide ((IntKind.wrap .i64 (((uptoG x0 x1 : Nat) : Int) - (1))) < (((List.length x0) : Nat) : Int)) = true then
          if decide ((List.getD x0 (Int.toNat (IntKind.wrap .i64 (((uptoG x0 x1 : Nat) : Int) - (1)))) (0, 0)).1 ≤ (IntKind.wrap .i64 (x1 - x2))) = true then
            some ((0), false, x0)
          else
            some ((List.getD x0 (Int.toNat (IntKind.wrap .i64 (((uptoG x0 x1 : Nat) : Int) - (1)))) (0, 0)).2, true, x0)
        else
          none
      else
        none
  else
    none
set_option maxHeartbeats 20000000 in
theorem p8_ok (m : Nat) (x0 : List (Int × Int)) (x1 : Int) (x2 : Int) (q : Int × Bool × (List (Int × Int))) (h : p8 m x0 x1 x2 = some q) : ∃ r B1, (evCall F S4 (m + 25) 8 [(.ptr 0 0), (.d (.int .i64 x1)), (.d (.int .i64 x2))] [(.cells [(.d (.sl (.pair (.int .i64) (.int .i64)) x0))])]).run = some (r, B1) ∧ 1 ≤ B1.length ∧ wkR B1 [(.cells [(.d (.sl (.pair (.int .i64) (.int .i64)) q.2.2))])] r (.tup [(.d (.int .i64 q.1)), (.d (.bool (q.2.1)))]) ∧ wkBs B1 [(.cells [(.d (.sl (.pair (.int .i64) (.int .i64)) q.2.2))])] 0 [(.cells [(.d (.sl (.pair (.int .i64) (.int .i64)) q.2.2))])] := by
  unfold p8 at h
  refine ite_cases h (fun c0 h => ?_) (fun c0 h => ?_)
  · skip
    refine ite_cases h (fun c1 h => ?_) (fun c1 h => ?_)
    · skip
      cases h
      refine ⟨(.tup [(.d (.int .i64 (0))), (.d (.bool false))]), [(.cells [(.d (.sl (.pair (.int .i64) (.int .i64)) x0))])], runT_ok (LS := (fun k => none)) (fn := fn8) (vis := []) (by kernel_rfl) rfl (by kernel_rfl) (M.run_of_path _ [true, true, true, true, true, true, true, true, true, true, true, true, true, true, true, true] _ _ (by kernel_rfl) (all_t c0 (all_t c1 (all_t c1 (all_t c1 (all_t c1 (all_t c1 (all_t c1 (all_t c1 (all_t c1 (all_t c1 (all_t c1 (all_t c1 (all_t c1 (all_t c1 (all_t c1 (all_t rfl all_nil))))))))))))))))) ?_, by simp, (wkR.tup (wkVs.cons (wkV.one (wk1.eq rfl)) (wkVs.cons (wkV.one (wk1.eq rfl)) wkVs.nil))), ⟨wkBox.cells (wkL.cons (wk1.eq rfl) wkL.nil), trivial⟩⟩
      intro p hp; cases hp
    · skip
      refine ite_cases h (fun c8 h => ?_) (fun c8 h => ?_)
      · skip
        refine ite_cases h (fun c9 h => ?_) (fun c9 h => ?_)
        · skip
          refine ite_cases h (fun c17 h => ?_) (fun c17 h => ?_)
          · skip
            cases h
            refine ⟨(.tup [(.d (.int .i64 (0))), (.d (.bool false))]), [(.cells [(.d (.sl (.pair (.int .i64) (.int .i64)) x0))])], runT_ok (LS := (fun k => none)) (fn := fn8) (vis := []) (by kernel_rfl) rfl (by kernel_rfl) (M.run_of_path _ [true, false, false, false, false, false, false, false, true, true, false, false, false, false, false, false, false, true] _ _ (by kernel_rfl) (all_t c0 (all_f c1 (all_f c1 (all_f c1 (all_f c1 (all_f c1 (all_f c1 (all_f c1 (all_t c8 (all_t c9 (all_f c1 (all_f c1 (all_f c1 (all_f c1 (all_f c1 (all_f c1 (all_f c1 (all_t c17 all_nil))))))))))))))))))) ?_, by simp, (wkR.tup (wkVs.cons (wkV.one (wk1.eq rfl)) (wkVs.cons (wkV.one (wk1.eq rfl)) wkVs.nil))), ⟨wkBox.cells (wkL.cons (wk1.eq rfl) wkL.nil), trivial⟩⟩
            intro p hp; cases hp
          · skip
            cases h
            refine ⟨(.tup [(.d (.int .i64 (List.getD x0 (Int.toNat (IntKind.wrap .i64 (((uptoG x0 x1 : Nat) : Int) - (1)))) (0, 0)).2)), (.d (.bool true))]), [(.cells [(.d (.sl (.pair (.int .i64) (.int .i64)) x0))])], runT_ok (LS := (fun k => none)) (fn := fn8) (vis := []) (by kernel_rfl) rfl (by kernel_rfl) (M.run_of_path _ [true, false, false, false, false, false, false, false, true, true, false, false, false, false, false, false, false, false, true, true] _ _ (by kernel_rfl) (all_t c0 (all_f c1 (all_f c1 (all_f c1 (all_f c1 (all_f c1 (all_f c1 (all_f c1 (all_t c8 (all_t c9 (all_f c1 (all_f c1 (all_f c1 (all_f c1 (all_f c1 (all_f c1 (all_f c1 (all_f c17 (all_t c8 (all_t c9 all_nil))))))))))))))))))))) ?_, by simp, (wkR.tup (wkVs.cons (wkV.one (wk1.eq rfl)) (wkVs.cons (wkV.one (wk1.eq rfl)) wkVs.nil))), ⟨wkBox.cells (wkL.cons (wk1.eq rfl) wkL.nil), trivial⟩⟩
            intro p hp; cases hp
        · skip
          cases h
      · skip
        cases h
  · skip
    cases h

/-- What is seen at a time, looking so far back. -/
def atB (l : SL) (t look : Int) : Bool := !decide (uptoG l t = 0) && !decide ((l.getD (uptoG l t - 1) (0, 0)).1 ≤ t - look)
def atV (l : SL) (t look : Int) : Int := if atB l t look then (l.getD (uptoG l t - 1) (0, 0)).2 else 0
def atPre (l : SL) (t look : Int) : Bool := decide (l.length < 4611686018427387904 ∧ -1152921504606846976 ≤ t ∧ t ≤ 1152921504606846976 ∧ -1152921504606846976 ≤ look ∧ look ≤ 1152921504606846976)
theorem at28 (l : SL) (t look : Int) (h : atPre l t look = true) : ∃ m, p8 m l t look = some (atV l t look, atB l t look, l) := by
  have h := of_decide_eq_true h
  refine ⟨0, ?_⟩
  have hle := upto_le l t
  unfold p8 atV atB
  generalize uptoG l t = k at hle
  have ew : IntKind.wrap .i64 (t - look) = t - look := wrap_id (by omega) (by omega)
  have e9 : decide (List.length l < 4611686018427387904) = true := decide_eq_true h.1
  by_cases hk : k = 0
  · subst hk
    have e0 : (((0 : Nat) : Int) == (0)) = true := rfl
    simp only [e9, e0, ↓reduceIte]
    simp
  · have e0 : (((k : Nat) : Int) == (0)) = false := by simp; omega
    have e1 : IntKind.wrap .i64 (((k : Nat) : Int) - (1)) = ((k - 1 : Nat) : Int) := by rw [wrap_id (by omega) (by omega)]; omega
    have e2 : decide ((0 : Int) ≤ ((k - 1 : Nat) : Int)) = true := decide_eq_true (by omega)
    have e3 : decide (((k - 1 : Nat) : Int) < (((List.length l) : Nat) : Int)) = true := decide_eq_true (by omega)
    have e4 : decide (k = 0) = false := decide_eq_false hk
    simp only [e9, e0, e1, e2, e3, e4, ew, Int.toNat_natCast, ↓reduceIte, Bool.false_eq_true]
    by_cases hc : (l.getD (k - 1) (0, 0)).1 ≤ t - look
    · have e5 : decide ((l.getD (k - 1) (0, 0)).1 ≤ t - look) = true := decide_eq_true hc
      simp only [e5]
      rfl
    · have e5 : decide ((l.getD (k - 1) (0, 0)).1 ≤ t - look) = false := decide_eq_false hc
      simp only [e5]
      rfl
def s8 : List AV → Boxes → M (AV × Boxes) := normS [.ptr, .val (.int .i64), .val (.int .i64)] [(.sl (.pair (.int .i64) (.int .i64)))] fun xs B => match xs, B with
  | [(.ptr 0 0), (.d (.int .i64 c2)), (.d (.int .i64 c3))], [(.cells [(.d (.sl (.pair (.int .i64) (.int .i64)) c1))])] => .chk (atPre c1 c2 c3) (.ret ((.tup [(.d (.int .i64 (atV c1 c2 c3))), (.d (.bool (atB c1 c2 c3)))]), [(.cells [(.d (.sl (.pair (.int .i64) (.int .i64)) c1))])]))
  | _, _ => .fail
theorem s8_at : CallAt Try.prog 8 s8 := by
  refine CallAt.norm (CallAt.weakE (g := fun n => evCall F S4 n 8) (fun n => evCall_atH mixed kinds hds S4 S4_ok n 8) fun xs B r' B' hr => ?_) _ _
  split at hr
  · rename_i c2 c3 c1
    obtain ⟨hp, hr⟩ := (M.run_chk _ _ _).1 hr
    simp only [M.run, Option.some.injEq, Prod.mk.injEq] at hr
    obtain ⟨rfl, rfl⟩ := hr
    obtain ⟨m, hm⟩ := at28 c1 c2 c3 hp
    obtain ⟨r, B1, h1, h2, h3, h4⟩ := p8_ok m c1 c2 c3 _ hm
    exact ⟨m + 25, r, B1, h1, by simp, h2, h3, h4⟩
  · simp [M.run] at hr
noncomputable def S5 : FuncId → Option (List AV → Boxes → M (AV × Boxes)) := fun f => if f = 8 then some s8 else S4 f
set_option maxHeartbeats 20000000 in
theorem S5_ok : ∀ f s, S5 f = some s → CallAt Try.prog f s := by
  intro f s h
  unfold S5 at h
  split at h
  · rename_i e; subst e; cases h; exact s8_at
  · exact S4_ok f s h

noncomputable def fn5 : AFn := (F 5).getD ⟨0, [], .bad, false, false, noHd⟩
noncomputable def body5 : AC := fn5.body
def l5_0 (m : Nat) : Nat → List (Int × Int) → List (Int × Int) → Int → Int → List (Int × Int) → Option (Nat × Int × (List (Int × Int)))
  | 0, _, _, _, _, _ => none
  | n + 1, x0, x1, s14, s15, b1 => if decide (s15 < s14) = true then
      if decide (0 ≤ s15) = true then
        if decide (s15 < (((List.length x1) : Nat) : Int)) = true then
          if decide ((List.getD x1 (Int.toNat s15) (0, 0)).1 < 0) = true then
            some (0, s15, b1)
          else
            if decide ((List.getD x1 (Int.toNat s15) (0, 0)).1 > 1099511627776) = true then
              some (1, s15, b1)
            else
              if decide ((((List.length b1) : Nat) : Int) > 0) = true then
                if decide (0 ≤ (IntKind.wrap .i64 ((((List.length b1) : Nat) : Int) - (1)))) = true then
                  if decide ((IntKind.wrap .i64 ((((List.length b1) : Nat) : Int) - (1))) < (((List.length b1) : Nat) : Int)) = true then
                    if decide ((0 + (Int.toNat (IntKind.wrap .i64 ((((List.length b1) : Nat) : Int) - (1))))) < (List.length b1)) = true then
                      if decide ((List.getD x1 (Int.toNat s15) (0, 0)).1 ≤ (List.getD b1 (0 + (Int.toNat (IntKind.wrap .i64 ((((List.length b1) : Nat) : Int) - (1))))) (0, 0)).1) = true then
                        some (2, s15, b1)
                      else
                        if ((((List.length b1) : Nat) : Int) == (200)) = true then
                          some (3, s15, b1)
                        else
                          if decide ((((List.length b1) + 1) * 16) ≤ 70368744177664) = true then
                            l5_0 m n x0 x1 s14 ((IntKind.wrap .i64 (s15 + (1)))) ((b1 ++ [(List.getD x1 (Int.toNat s15) (0, 0))]))
                          else
                            none
                    else
                      none
                  else
                    none
                else
                  none
              else
                if ((((List.length b1) : Nat) : Int) == (200)) = true then
                  some (4, s15, b1)
                else
                  if decide ((((List.length b1) + 1) * 16) ≤ 70368744177664) = true then
                    l5_0 m n x0 x1 s14 ((IntKind.wrap .i64 (s15 + (1)))) ((b1 ++ [(List.getD x1 (Int.toNat s15) (0, 0))]))
                  else
                    none
        else
          none
      else
        none
    else
      some (5, s15, b1)
def l5_0D : Nat × Int × (List (Int × Int)) := (0, 0, [])
@[reducible] def l5_0R (m n : Nat) (x0 : List (Int × Int)) (x1 : List (Int × Int)) (s14 : Int) (s15 : Int) (b1 : List (Int × Int)) : Nat × Int × (List (Int × Int)) := Option.getD (l5_0 m n x0 x1 s14 s15 b1) l5_0D
def l5_0H (x0 : List (Int × Int)) (x1 : List (Int × Int)) (s14 : Int) (s15 : Int) (b1 : List (Int × Int)) : Env := [(.ptr 0 0), .top, .top, .top, .top, (.sr 1 0 (List.length b1) 2 none), .top, .top, .top, .top, .top, .top, .top, (.d (.sl (.pair (.int .i64) (.int .i64)) x1)), (.d (.int .i64 s14)), (.d (.int .i64 s15)), .top, .top, .top, .top, .top, .top, .top, .top, .top, .top, .top, .top, .top, .top, .top, .top, .top, .top, .top, .top, .top, .top, .top, .top, .top, .top, .top, .top, .top, .top, .top, .top, .top, .top, .top, .top, .top, .top, .top, .top, .top]
def l5_0B (x0 : List (Int × Int)) (x1 : List (Int × Int)) (s14 : Int) (s15 : Int) (b1 : List (Int × Int)) : Boxes := [(.cells [(.d (.sl (.pair (.int .i64) (.int .i64)) x0))]), (.arr (.pair (.int .i64) (.int .i64)) b1 true)]
def l5_0E (x0 : List (Int × Int)) (x1 : List (Int × Int)) (s14 : Int) (s15 : Int) (b1 : List (Int × Int)) : Nat → AEx × Env × Boxes
  | 0 => (.ret, [(.ptr 0 0), .top, .top, .top, (.d (.int .i64 (1))), (.sr 1 0 (List.length b1) 2 none), .top, (.ptr 2 0), .top, .top, .top, .top, .top, (.d (.sl (.pair (.int .i64) (.int .i64)) x1)), (.d (.int .i64 s14)), (.d (.int .i64 s15)), (.d (.bool (decide (s15 < s14)))), (.cptr [(.int .i64 (List.getD x1 (Int.toNat s15) (0, 0)).1), (.int .i64 (List.getD x1 (Int.toNat s15) (0, 0)).2)] 0), (.agg [(.d (.int .i64 (List.getD x1 (Int.toNat s15) (0, 0)).1)), (.d (.int .i64 (List.getD x1 (Int.toNat s15) (0, 0)).2))]), (.d (.bool true)), (.ptr 2 0), (.d (.int .i64 (List.getD x1 (Int.toNat s15) (0, 0)).1)), (.d (.bool (decide ((List.getD x1 (Int.toNat s15) (0, 0)).1 < 0)))), (.d (.bool (decide ((List.getD x1 (Int.toNat s15) (0, 0)).1 < 0)))), (.tup []), (.tup []), (.tup []), (.d (.bool true)), .top, .top, .top, .top, .top, .top, .top, .top, .top, .top, .top, .top, .top, .top, .top, .top, .top, .top, .top, .top, .top, .top, .top, .top, .top, .top, .top, .top, .top], [(.cells [(.d (.sl (.pair (.int .i64) (.int .i64)) x0))]), (.arr (.pair (.int .i64) (.int .i64)) b1 true), (.cells [(.d (.int .i64 (List.getD x1 (Int.toNat s15) (0, 0)).1)), (.d (.int .i64 (List.getD x1 (Int.toNat s15) (0, 0)).2))])])
  | 1 => (.ret, [(.ptr 0 0), .top, .top, .top, (.d (.int .i64 (1))), (.sr 1 0 (List.length b1) 2 none), .top, (.ptr 2 0), .top, .top, .top, .top, .top, (.d (.sl (.pair (.int .i64) (.int .i64)) x1)), (.d (.int .i64 s14)), (.d (.int .i64 s15)), (.d (.bool (decide (s15 < s14)))), (.cptr [(.int .i64 (List.getD x1 (Int.toNat s15) (0, 0)).1), (.int .i64 (List.getD x1 (Int.toNat s15) (0, 0)).2)] 0), (.agg [(.d (.int .i64 (List.getD x1 (Int.toNat s15) (0, 0)).1)), (.d (.int .i64 (List.getD x1 (Int.toNat s15) (0, 0)).2))]), (.d (.bool (decide ((List.getD x1 (Int.toNat s15) (0, 0)).1 > 1099511627776)))), (.ptr 2 0), (.d (.int .i64 (List.getD x1 (Int.toNat s15) (0, 0)).1)), (.d (.bool (decide ((List.getD x1 (Int.toNat s15) (0, 0)).1 < 0)))), (.d (.bool (decide ((List.getD x1 (Int.toNat s15) (0, 0)).1 < 0)))), (.ptr 2 0), (.d (.int .i64 (List.getD x1 (Int.toNat s15) (0, 0)).1)), (.d (.bool (decide ((List.getD x1 (Int.toNat s15) (0, 0)).1 > 1099511627776)))), (.d (.bool (decide ((List.getD x1 (Int.toNat s15) (0, 0)).1 > 1099511627776)))), .top, .top, .top, .top, .top, .top, .top, .top, .top, .top, .top, .top, .top, .top, .top, .top, .top, .top, .top, .top, .top, .top, .top, .top, .top, .top, .top, .top, .top], [(.cells [(.d (.sl (.pair (.int .i64) (.int .i64)) x0))]), (.arr (.pair (.int .i64) (.int .i64)) b1 true), (.cells [(.d (.int .i64 (List.getD x1 (Int.toNat s15) (0, 0)).1)), (.d (.int .i64 (List.getD x1 (Int.toNat s15) (0, 0)).2))])])
  | 2 => (.ret, [(.ptr 0 0), .top, .top, .top, (.d (.int .i64 (2))), (.sr 1 0 (List.length b1) 2 none), .top, (.ptr 2 0), .top, .top, .top, .top, .top, (.d (.sl (.pair (.int .i64) (.int .i64)) x1)), (.d (.int .i64 s14)), (.d (.int .i64 s15)), (.d (.bool (decide (s15 < s14)))), (.cptr [(.int .i64 (List.getD x1 (Int.toNat s15) (0, 0)).1), (.int .i64 (List.getD x1 (Int.toNat s15) (0, 0)).2)] 0), (.agg [(.d (.int .i64 (List.getD x1 (Int.toNat s15) (0, 0)).1)), (.d (.int .i64 (List.getD x1 (Int.toNat s15) (0, 0)).2))]), (.d (.bool (decide ((List.getD x1 (Int.toNat s15) (0, 0)).1 > 1099511627776)))), (.ptr 2 0), (.d (.int .i64 (List.getD x1 (Int.toNat s15) (0, 0)).1)), (.d (.bool (decide ((List.getD x1 (Int.toNat s15) (0, 0)).1 < 0)))), (.d (.bool (decide ((List.getD x1 (Int.toNat s15) (0, 0)).1 < 0)))), (.ptr 2 0), (.d (.int .i64 (List.getD x1 (Int.toNat s15) (0, 0)).1)), (.d (.bool (decide ((List.getD x1 (Int.toNat s15) (0, 0)).1 > 1099511627776)))), (.d (.bool (decide ((List.getD x1 (Int.toNat s15) (0, 0)).1 > 1099511627776)))), (.d (.bool (decide ((List.getD x1 (Int.toNat s15) (0, 0)).1 ≤ (List.getD b1 (0 + (Int.toNat (IntKind.wrap .i64 ((((List.length b1) : Nat) : Int) - (1))))) (0, 0)).1)))), (.sr 1 0 (List.length b1) 2 none), (.d (.int .i64 (((List.length b1) : Nat) : Int))), (.d (.bool (decide ((((List.length b1) : Nat) : Int) > 0)))), (.d (.bool (decide ((((List.length b1) : Nat) : Int) > 0)))), (.ptr 2 0), (.d (.int .i64 (List.getD x1 (Int.toNat s15) (0, 0)).1)), (.sr 1 0 (List.length b1) 2 none), (.sr 1 0 (List.length b1) 2 none), (.d (.int .i64 (((List.length b1) : Nat) : Int))), (.d (.int .i64 (IntKind.wrap .i64 ((((List.length b1) : Nat) : Int) - (1))))), (.eptr 1 (0 + (Int.toNat (IntKind.wrap .i64 ((((List.length b1) : Nat) : Int) - (1))))) 2 0), (.eptr 1 (0 + (Int.toNat (IntKind.wrap .i64 ((((List.length b1) : Nat) : Int) - (1))))) 2 0), (.d (.int .i64 (List.getD b1 (0 + (Int.toNat (IntKind.wrap .i64 ((((List.length b1) : Nat) : Int) - (1))))) (0, 0)).1)), (.d (.bool (decide ((List.getD x1 (Int.toNat s15) (0, 0)).1 ≤ (List.getD b1 (0 + (Int.toNat (IntKind.wrap .i64 ((((List.length b1) : Nat) : Int) - (1))))) (0, 0)).1)))), (.d (.bool (decide ((List.getD x1 (Int.toNat s15) (0, 0)).1 ≤ (List.getD b1 (0 + (Int.toNat (IntKind.wrap .i64 ((((List.length b1) : Nat) : Int) - (1))))) (0, 0)).1)))), .top, .top, .top, .top, .top, .top, .top, .top, .top, .top, .top, .top, .top], [(.cells [(.d (.sl (.pair (.int .i64) (.int .i64)) x0))]), (.arr (.pair (.int .i64) (.int .i64)) b1 true), (.cells [(.d (.int .i64 (List.getD x1 (Int.toNat s15) (0, 0)).1)), (.d (.int .i64 (List.getD x1 (Int.toNat s15) (0, 0)).2))]), .dead, .dead, .dead, .dead, .dead, .dead, .dead, .dead, .dead, .dead, .dead, .dead, .dead, .dead, .dead, .dead, .dead, .dead, .dead, .dead, .dead, .dead, .dead, .dead, .dead, .dead, .dead, .dead, .dead, .dead, .dead, .dead, .dead, .dead, .dead, .dead, .dead, .dead, .dead, .dead, .dead, .dead, .dead, .dead, .dead, .dead, .dead, .dead, .dead, .dead, .dead, .dead, .dead, .dead, .dead, .dead, .dead, .dead, .dead, .dead, .dead, .dead, .dead, .dead])
  | 3 => (.ret, [(.ptr 0 0), .top, .top, .top, (.d (.int .i64 (8))), (.sr 1 0 (List.length b1) 2 none), .top, (.ptr 2 0), .top, .top, .top, .top, .top, (.d (.sl (.pair (.int .i64) (.int .i64)) x1)), (.d (.int .i64 s14)), (.d (.int .i64 s15)), (.d (.bool (decide (s15 < s14)))), (.cptr [(.int .i64 (List.getD x1 (Int.toNat s15) (0, 0)).1), (.int .i64 (List.getD x1 (Int.toNat s15) (0, 0)).2)] 0), (.agg [(.d (.int .i64 (List.getD x1 (Int.toNat s15) (0, 0)).1)), (.d (.int .i64 (List.getD x1 (Int.toNat s15) (0, 0)).2))]), (.d (.bool (decide ((List.getD x1 (Int.toNat s15) (0, 0)).1 > 1099511627776)))), (.ptr 2 0), (.d (.int .i64 (List.getD x1 (Int.toNat s15) (0, 0)).1)), (.d (.bool (decide ((List.getD x1 (Int.toNat s15) (0, 0)).1 < 0)))), (.d (.bool (decide ((List.getD x1 (Int.toNat s15) (0, 0)).1 < 0)))), (.ptr 2 0), (.d (.int .i64 (List.getD x1 (Int.toNat s15) (0, 0)).1)), (.d (.bool (decide ((List.getD x1 (Int.toNat s15) (0, 0)).1 > 1099511627776)))), (.d (.bool (decide ((List.getD x1 (Int.toNat s15) (0, 0)).1 > 1099511627776)))), (.d (.bool (decide ((List.getD x1 (Int.toNat s15) (0, 0)).1 ≤ (List.getD b1 (0 + (Int.toNat (IntKind.wrap .i64 ((((List.length b1) : Nat) : Int) - (1))))) (0, 0)).1)))), (.sr 1 0 (List.length b1) 2 none), (.d (.int .i64 (((List.length b1) : Nat) : Int))), (.d (.bool (decide ((((List.length b1) : Nat) : Int) > 0)))), (.d (.bool (decide ((((List.length b1) : Nat) : Int) > 0)))), (.ptr 2 0), (.d (.int .i64 (List.getD x1 (Int.toNat s15) (0, 0)).1)), (.sr 1 0 (List.length b1) 2 none), (.sr 1 0 (List.length b1) 2 none), (.d (.int .i64 (((List.length b1) : Nat) : Int))), (.d (.int .i64 (IntKind.wrap .i64 ((((List.length b1) : Nat) : Int) - (1))))), (.eptr 1 (0 + (Int.toNat (IntKind.wrap .i64 ((((List.length b1) : Nat) : Int) - (1))))) 2 0), (.eptr 1 (0 + (Int.toNat (IntKind.wrap .i64 ((((List.length b1) : Nat) : Int) - (1))))) 2 0), (.d (.int .i64 (List.getD b1 (0 + (Int.toNat (IntKind.wrap .i64 ((((List.length b1) : Nat) : Int) - (1))))) (0, 0)).1)), (.d (.bool (decide ((List.getD x1 (Int.toNat s15) (0, 0)).1 ≤ (List.getD b1 (0 + (Int.toNat (IntKind.wrap .i64 ((((List.length b1) : Nat) : Int) - (1))))) (0, 0)).1)))), (.d (.bool (decide ((List.getD x1 (Int.toNat s15) (0, 0)).1 ≤ (List.getD b1 (0 + (Int.toNat (IntKind.wrap .i64 ((((List.length b1) : Nat) : Int) - (1))))) (0, 0)).1)))), (.d (.bool ((((List.length b1) : Nat) : Int) == (200)))), (.sr 1 0 (List.length b1) 2 none), (.d (.int .i64 (((List.length b1) : Nat) : Int))), (.d (.bool ((((List.length b1) : Nat) : Int) == (200)))), .top, .top, .top, .top, .top, .top, .top, .top, .top], [(.cells [(.d (.sl (.pair (.int .i64) (.int .i64)) x0))]), (.arr (.pair (.int .i64) (.int .i64)) b1 true), (.cells [(.d (.int .i64 (List.getD x1 (Int.toNat s15) (0, 0)).1)), (.d (.int .i64 (List.getD x1 (Int.toNat s15) (0, 0)).2))]), .dead, .dead, .dead, .dead, .dead, .dead, .dead, .dead, .dead, .dead, .dead, .dead, .dead, .dead, .dead, .dead, .dead, .dead, .dead, .dead, .dead, .dead, .dead, .dead, .dead, .dead, .dead, .dead, .dead, .dead, .dead, .dead, .dead, .dead, .dead, .dead, .dead, .dead, .dead, .dead, .dead, .dead, .dead, .dead, .dead, .dead, .dead, .dead, .dead, .dead, .dead, .dead, .dead, .dead, .dead, .dead, .dead, .dead, .dead, .dead, .dead, .dead, .dead, .dead])
  | 4 => (.ret, [(.ptr 0 0), .top, .top, .top, (.d (.int .i64 (8))), (.sr 1 0 (List.length b1) 2 none), .top, (.ptr 2 0), .top, .top, .top, .top, .top, (.d (.sl (.pair (.int .i64) (.int .i64)) x1)), (.d (.int .i64 s14)), (.d (.int .i64 s15)), (.d (.bool (decide (s15 < s14)))), (.cptr [(.int .i64 (List.getD x1 (Int.toNat s15) (0, 0)).1), (.int .i64 (List.getD x1 (Int.toNat s15) (0, 0)).2)] 0), (.agg [(.d (.int .i64 (List.getD x1 (Int.toNat s15) (0, 0)).1)), (.d (.int .i64 (List.getD x1 (Int.toNat s15) (0, 0)).2))]), (.d (.bool (decide ((List.getD x1 (Int.toNat s15) (0, 0)).1 > 1099511627776)))), (.ptr 2 0), (.d (.int .i64 (List.getD x1 (Int.toNat s15) (0, 0)).1)), (.d (.bool (decide ((List.getD x1 (Int.toNat s15) (0, 0)).1 < 0)))), (.d (.bool (decide ((List.getD x1 (Int.toNat s15) (0, 0)).1 < 0)))), (.ptr 2 0), (.d (.int .i64 (List.getD x1 (Int.toNat s15) (0, 0)).1)), (.d (.bool (decide ((List.getD x1 (Int.toNat s15) (0, 0)).1 > 1099511627776)))), (.d (.bool (decide ((List.getD x1 (Int.toNat s15) (0, 0)).1 > 1099511627776)))), (.d (.bool false)), (.sr 1 0 (List.length b1) 2 none), (.d (.int .i64 (((List.length b1) : Nat) : Int))), (.d (.bool (decide ((((List.length b1) : Nat) : Int) > 0)))), (.d (.bool (decide ((((List.length b1) : Nat) : Int) > 0)))), (.tup []), (.tup []), (.tup []), (.tup []), (.tup []), (.tup []), (.tup []), (.tup []), (.tup []), (.tup []), (.d (.bool false)), (.d (.bool ((((List.length b1) : Nat) : Int) == (200)))), (.sr 1 0 (List.length b1) 2 none), (.d (.int .i64 (((List.length b1) : Nat) : Int))), (.d (.bool ((((List.length b1) : Nat) : Int) == (200)))), .top, .top, .top, .top, .top, .top, .top, .top, .top], [(.cells [(.d (.sl (.pair (.int .i64) (.int .i64)) x0))]), (.arr (.pair (.int .i64) (.int .i64)) b1 true), (.cells [(.d (.int .i64 (List.getD x1 (Int.toNat s15) (0, 0)).1)), (.d (.int .i64 (List.getD x1 (Int.toNat s15) (0, 0)).2))]), .dead, .dead, .dead, .dead, .dead, .dead, .dead, .dead, .dead, .dead, .dead, .dead, .dead, .dead, .dead, .dead, .dead, .dead, .dead, .dead, .dead, .dead, .dead, .dead, .dead, .dead, .dead, .dead, .dead, .dead, .dead, .dead, .dead, .dead, .dead, .dead, .dead, .dead, .dead, .dead, .dead, .dead, .dead, .dead, .dead, .dead, .dead, .dead, .dead, .dead, .dead, .dead, .dead, .dead, .dead, .dead, .dead, .dead, .dead, .dead, .dead, .dead, .dead, .dead])
  | _ => (.exit 0, [(.ptr 0 0), .top, .top, .top, .top, (.sr 1 0 (List.length b1) 2 none), .top, .top, .top, .top, .top, .top, .top, (.d (.sl (.pair (.int .i64) (.int .i64)) x1)), (.d (.int .i64 s14)), (.d (.int .i64 s15)), (.d (.bool (decide (s15 < s14)))), .top, .top, .top, .top, .top, .top, .top, .top, .top, .top, .top, .top, .top, .top, .top, .top, .top, .top, .top, .top, .top, .top, .top, .top, .top, .top, .top, .top, .top, .top, .top, .top, .top, .top, .top, .top, .top, .top, .top, .top], [(.cells [(.d (.sl (.pair (.int .i64) (.int .i64)) x0))]), (.arr (.pair (.int .i64) (.int .i64)) b1 true)])
noncomputable def lbl5_0 : AC := loopBody 57377 body5

set_option maxHeartbeats 20000000 in
theorem l5_0_w0 (m n : Nat) (x0 : List (Int × Int)) (x1 : List (Int × Int)) (s14 : Int) (s15 : Int) (b1 : List (Int × Int)) (c0 : decide (s15 < s14) = true) (c1 : decide (0 ≤ s15) = true) (c2 : decide (s15 < (((List.length x1) : Nat) : Int)) = true) (c3 : decide ((List.getD x1 (Int.toNat s15) (0, 0)).1 < 0) = true) : (turns (hds 5 57377) 1 57377 (evC byref (evCall F S5 (m + 24)) (m + 24) 1 (hds 5) lbl5_0) (n + 1) (l5_0H x0 x1 s14 s15 b1) (l5_0B x0 x1 s14 s15 b1)).run = some (.ret, [(.ptr 0 0), .top, .top, .top, (.d (.int .i64 (1))), (.sr 1 0 (List.length b1) 2 none), .top, (.ptr 2 0), .top, .top, .top, .top, .top, (.d (.sl (.pair (.int .i64) (.int .i64)) x1)), (.d (.int .i64 s14)), (.d (.int .i64 s15)), (.d (.bool (decide (s15 < s14)))), (.cptr [(.int .i64 (List.getD x1 (Int.toNat s15) (0, 0)).1), (.int .i64 (List.getD x1 (Int.toNat s15) (0, 0)).2)] 0), (.agg [(.d (.int .i64 (List.getD x1 (Int.toNat s15) (0, 0)).1)), (.d (.int .i64 (List.getD x1 (Int.toNat s15) (0, 0)).2))]), (.d (.bool true)), (.ptr 2 0), (.d (.int .i64 (List.getD x1 (Int.toNat s15) (0, 0)).1)), (.d (.bool (decide ((List.getD x1 (Int.toNat s15) (0, 0)).1 < 0)))), (.d (.bool (decide ((List.getD x1 (Int.toNat s15) (0, 0)).1 < 0)))), (.tup []), (.tup []), (.tup []), (.d (.bool true)), .top, .top, .top, .top, .top, .top, .top, .top, .top, .top, .top, .top, .top, .top, .top, .top, .top, .top, .top, .top, .top, .top, .top, .top, .top, .top, .top, .top, .top], [(.cells [(.d (.sl (.pair (.int .i64) (.int .i64)) x0))]), (.arr (.pair (.int .i64) (.int .i64)) b1 true), (.cells [(.d (.int .i64 (List.getD x1 (Int.toNat s15) (0, 0)).1)), (.d (.int .i64 (List.getD x1 (Int.toNat s15) (0, 0)).2))])]) := by
  exact turns_last (by simp) (M.run_of_path _ [true, true, true, true, true, true, true, true] _ _ (by kernel_rfl) (all_t c0 (all_t c1 (all_t c2 (all_t c3 (all_t c3 (all_t c3 (all_t c3 (all_t rfl all_nil))))))))) 
set_option maxHeartbeats 20000000 in
theorem l5_0_w1 (m n : Nat) (x0 : List (Int × Int)) (x1 : List (Int × Int)) (s14 : Int) (s15 : Int) (b1 : List (Int × Int)) (c0 : decide (s15 < s14) = true) (c1 : decide (0 ≤ s15) = true) (c2 : decide (s15 < (((List.length x1) : Nat) : Int)) = true) (c3 : ¬ decide ((List.getD x1 (Int.toNat s15) (0, 0)).1 < 0) = true) (c7 : decide ((List.getD x1 (Int.toNat s15) (0, 0)).1 > 1099511627776) = true) : (turns (hds 5 57377) 1 57377 (evC byref (evCall F S5 (m + 24)) (m + 24) 1 (hds 5) lbl5_0) (n + 1) (l5_0H x0 x1 s14 s15 b1) (l5_0B x0 x1 s14 s15 b1)).run = some (.ret, [(.ptr 0 0), .top, .top, .top, (.d (.int .i64 (1))), (.sr 1 0 (List.length b1) 2 none), .top, (.ptr 2 0), .top, .top, .top, .top, .top, (.d (.sl (.pair (.int .i64) (.int .i64)) x1)), (.d (.int .i64 s14)), (.d (.int .i64 s15)), (.d (.bool (decide (s15 < s14)))), (.cptr [(.int .i64 (List.getD x1 (Int.toNat s15) (0, 0)).1), (.int .i64 (List.getD x1 (Int.toNat s15) (0, 0)).2)] 0), (.agg [(.d (.int .i64 (List.getD x1 (Int.toNat s15) (0, 0)).1)), (.d (.int .i64 (List.getD x1 (Int.toNat s15) (0, 0)).2))]), (.d (.bool (decide ((List.getD x1 (Int.toNat s15) (0, 0)).1 > 1099511627776)))), (.ptr 2 0), (.d (.int .i64 (List.getD x1 (Int.toNat s15) (0, 0)).1)), (.d (.bool (decide ((List.getD x1 (Int.toNat s15) (0, 0)).1 < 0)))), (.d (.bool (decide ((List.getD x1 (Int.toNat s15) (0, 0)).1 < 0)))), (.ptr 2 0), (.d (.int .i64 (List.getD x1 (Int.toNat s15) (0, 0)).1)), (.d (.bool (decide ((List.getD x1 (Int.toNat s15) (0, 0)).1 > 1099511627776)))), (.d (.bool (decide ((List.getD x1 (Int.toNat s15) (0, 0)).1 > 1099511627776)))), .top, .top, .top, .top, .top, .top, .top, .top, .top, .top, .top, .top, .top, .top, .top, .top, .top, .top, .top, .top, .top, .top, .top, .top, .top, .top, .top, .top, .top], [(.cells [(.d (.sl (.pair (.int .i64) (.int .i64)) x0))]), (.arr (.pair (.int .i64) (.int .i64)) b1 true), (.cells [(.d (.int .i64 (List.getD x1 (Int.toNat s15) (0, 0)).1)), (.d (.int .i64 (List.getD x1 (Int.toNat s15) (0, 0)).2))])]) := by
  exact turns_last (by simp) (M.run_of_path _ [true, true, true, false, false, false, false, true] _ _ (by kernel_rfl) (all_t c0 (all_t c1 (all_t c2 (all_f c3 (all_f c3 (all_f c3 (all_f c3 (all_t c7 all_nil))))))))) 
set_option maxHeartbeats 20000000 in
theorem l5_0_w2 (m n : Nat) (x0 : List (Int × Int)) (x1 : List (Int × Int)) (s14 : Int) (s15 : Int) (b1 : List (Int × Int)) (c0 : decide (s15 < s14) = true) (c1 : decide (0 ≤ s15) = true) (c2 : decide (s15 < (((List.length x1) : Nat) : Int)) = true) (c3 : ¬ decide ((List.getD x1 (Int.toNat s15) (0, 0)).1 < 0) = true) (c7 : ¬ decide ((List.getD x1 (Int.toNat s15) (0, 0)).1 > 1099511627776) = true) (c8 : decide ((((List.length b1) : Nat) : Int) > 0) = true) (c15 : decide (0 ≤ (IntKind.wrap .i64 ((((List.length b1) : Nat) : Int) - (1)))) = true) (c16 : decide ((IntKind.wrap .i64 ((((List.length b1) : Nat) : Int) - (1))) < (((List.length b1) : Nat) : Int)) = true) (c19 : decide ((0 + (Int.toNat (IntKind.wrap .i64 ((((List.length b1) : Nat) : Int) - (1))))) < (List.length b1)) = true) (c22 : decide ((List.getD x1 (Int.toNat s15) (0, 0)).1 ≤ (List.getD b1 (0 + (Int.toNat (IntKind.wrap .i64 ((((List.length b1) : Nat) : Int) - (1))))) (0, 0)).1) = true) : (turns (hds 5 57377) 1 57377 (evC byref (evCall F S5 (m + 24)) (m + 24) 1 (hds 5) lbl5_0) (n + 1) (l5_0H x0 x1 s14 s15 b1) (l5_0B x0 x1 s14 s15 b1)).run = some (.ret, [(.ptr 0 0), .top, .top, .top, (.d (.int .i64 (2))), (.sr 1 0 (List.length b1) 2 none), .top, (.ptr 2 0), .top, .top, .top, .top, .top, (.d (.sl (.pair (.int .i64) (.int .i64)) x1)), (.d (.int .i64 s14)), (.d (.int .i64 s15)), (.d (.bool (decide (s15 < s14)))), (.cptr [(.int .i64 (List.getD x1 (Int.toNat s15) (0, 0)).1), (.int .i64 (List.getD x1 (Int.toNat s15) (0, 0)).2)] 0), (.agg [(.d (.int .i64 (List.getD x1 (Int.toNat s15) (0, 0)).1)), (.d (.int .i64 (List.getD x1 (Int.toNat s15) (0, 0)).2))]), (.d (.bool (decide ((List.getD x1 (Int.toNat s15) (0, 0)).1 > 1099511627776)))), (.ptr 2 0), (.d (.int .i64 (List.getD x1 (Int.toNat s15) (0, 0)).1)), (.d (.bool (decide ((List.getD x1 (Int.toNat s15) (0, 0)).1 < 0)))), (.d (.bool (decide ((List.getD x1 (Int.toNat s15) (0, 0)).1 < 0)))), (.ptr 2 0), (.d (.int .i64 (List.getD x1 (Int.toNat s15) (0, 0)).1)), (.d (.bool (decide ((List.getD x1 (Int.toNat s15) (0, 0)).1 > 1099511627776)))), (.d (.bool (decide ((List.getD x1 (Int.toNat s15) (0, 0)).1 > 1099511627776)))), (.d (.bool (decide ((List.getD x1 (Int.toNat s15) (0, 0)).1 ≤ (List.getD b1 (0 + (Int.toNat (IntKind.wrap .i64 ((((List.length b1) : Nat) : Int) - (1))))) (0, 0)).1)))), (.sr 1 0 (List.length b1) 2 none), (.d (.int .i64 (((List.length b1) : Nat) : Int))), (.d (.bool (decide ((((List.length b1) : Nat) : Int) > 0)))), (.d (.bool (decide ((((List.length b1) : Nat) : Int) > 0)))), (.ptr 2 0), (.d (.int .i64 (List.getD x1 (Int.toNat s15) (0, 0)).1)), (.sr 1 0 (List.length b1) 2 none), (.sr 1 0 (List.length b1) 2 none), (.d (.int .i64 (((List.length b1) : Nat) : Int))), (.d (.int .i64 (IntKind.wrap .i64 ((((List.length b1) : Nat) : Int) - (1))))), (.eptr 1 (0 + (Int.toNat (IntKind.wrap .i64 ((((List.length b1) : Nat) : Int) - (1))))) 2 0), (.eptr 1 (0 + (Int.toNat (IntKind.wrap .i64 ((((List.length b1) : Nat) : Int) - (1))))) 2 0), (.d (.int .i64 (List.getD b1 (0 + (Int.toNat (IntKind.wrap .i64 ((((List.length b1) : Nat) : Int) - (1))))) (0, 0)).1)), (.d (.bool (decide ((List.getD x1 (Int.toNat s15) (0, 0)).1 ≤ (List.getD b1 (0 + (Int.toNat (IntKind.wrap .i64 ((((List.length b1) : Nat) : Int) - (1))))) (0, 0)).1)))), (.d (.bool (decide ((List.getD x1 (Int.toNat s15) (0, 0)).1 ≤ (List.getD b1 (0 + (Int.toNat (IntKind.wrap .i64 ((((List.length b1) : Nat) : Int) - (1))))) (0, 0)).1)))), .top, .top, .top, .top, .top, .top, .top, .top, .top, .top, .top, .top, .top], [(.cells [(.d (.sl (.pair (.int .i64) (.int .i64)) x0))]), (.arr (.pair (.int .i64) (.int .i64)) b1 true), (.cells [(.d (.int .i64 (List.getD x1 (Int.toNat s15) (0, 0)).1)), (.d (.int .i64 (List.getD x1 (Int.toNat s15) (0, 0)).2))]), .dead, .dead, .dead, .dead, .dead, .dead, .dead, .dead, .dead, .dead, .dead, .dead, .dead, .dead, .dead, .dead, .dead, .dead, .dead, .dead, .dead, .dead, .dead, .dead, .dead, .dead, .dead, .dead, .dead, .dead, .dead, .dead, .dead, .dead, .dead, .dead, .dead, .dead, .dead, .dead, .dead, .dead, .dead, .dead, .dead, .dead, .dead, .dead, .dead, .dead, .dead, .dead, .dead, .dead, .dead, .dead, .dead, .dead, .dead, .dead, .dead, .dead, .dead, .dead]) := by
  exact turns_last (by simp) (M.run_of_path _ [true, true, true, false, false, false, false, false, true, true, true, true, true, true, true, true, true, true, true, true, true, true, true] _ _ (by kernel_rfl) (all_t c0 (all_t c1 (all_t c2 (all_f c3 (all_f c3 (all_f c3 (all_f c3 (all_f c7 (all_t c8 (all_t c8 (all_t c8 (all_t c8 (all_t c8 (all_t c8 (all_t c8 (all_t c15 (all_t c16 (all_t c8 (all_t c8 (all_t c19 (all_t c8 (all_t c8 (all_t c22 all_nil)))))))))))))))))))))))) 
set_option maxHeartbeats 20000000 in
theorem l5_0_w3 (m n : Nat) (x0 : List (Int × Int)) (x1 : List (Int × Int)) (s14 : Int) (s15 : Int) (b1 : List (Int × Int)) (c0 : decide (s15 < s14) = true) (c1 : decide (0 ≤ s15) = true) (c2 : decide (s15 < (((List.length x1) : Nat) : Int)) = true) (c3 : ¬ decide ((List.getD x1 (Int.toNat s15) (0, 0)).1 < 0) = true) (c7 : ¬ decide ((List.getD x1 (Int.toNat s15) (0, 0)).1 > 1099511627776) = true) (c8 : decide ((((List.length b1) : Nat) : Int) > 0) = true) (c15 : decide (0 ≤ (IntKind.wrap .i64 ((((List.length b1) : Nat) : Int) - (1)))) = true) (c16 : decide ((IntKind.wrap .i64 ((((List.length b1) : Nat) : Int) - (1))) < (((List.length b1) : Nat) : Int)) = true) (c19 : decide ((0 + (Int.toNat (IntKind.wrap .i64 ((((List.length b1) : Nat) : Int) - (1))))) < (List.length b1)) = true) (c22 : ¬ decide ((List.getD x1 (Int.toNat s15) (0, 0)).1 ≤ (List.getD b1 (0 + (Int.toNat (IntKind.wrap .i64 ((((List.length b1) : Nat) : Int) - (1))))) (0, 0)).1) = true) (c23 : ((((List.length b1) : Nat) : Int) == (200)) = true) : (turns (hds 5 57377) 1 57377 (evC byref (evCall F S5 (m + 24)) (m + 24) 1 (hds 5) lbl5_0) (n + 1) (l5_0H x0 x1 s14 s15 b1) (l5_0B x0 x1 s14 s15 b1)).run = some (.ret, [(.ptr 0 0), .top, .top, .top, (.d (.int .i64 (8))), (.sr 1 0 (List.length b1) 2 none), .top, (.ptr 2 0), .top, .top, .top, .top, .top, (.d (.sl (.pair (.int .i64) (.int .i64)) x1)), (.d (.int .i64 s14)), (.d (.int .i64 s15)), (.d (.bool (decide (s15 < s14)))), (.cptr [(.int .i64 (List.getD x1 (Int.toNat s15) (0, 0)).1), (.int .i64 (List.getD x1 (Int.toNat s15) (0, 0)).2)] 0), (.agg [(.d (.int .i64 (List.getD x1 (Int.toNat s15) (0, 0)).1)), (.d (.int .i64 (List.getD x1 (Int.toNat s15) (0, 0)).2))]), (.d (.bool (decide ((List.getD x1 (Int.toNat s15) (0, 0)).1 > 1099511627776)))), (.ptr 2 0), (.d (.int .i64 (List.getD x1 (Int.toNat s15) (0, 0)).1)), (.d (.bool (decide ((List.getD x1 (Int.toNat s15) (0, 0)).1 < 0)))), (.d (.bool (decide ((List.getD x1 (Int.toNat s15) (0, 0)).1 < 0)))), (.ptr 2 0), (.d (.int .i64 (List.getD x1 (Int.toNat s15) (0, 0)).1)), (.d (.bool (decide ((List.getD x1 (Int.toNat s15) (0, 0)).1 > 1099511627776)))), (.d (.bool (decide ((List.getD x1 (Int.toNat s15) (0, 0)).1 > 1099511627776)))), (.d (.bool (decide ((List.getD x1 (Int.toNat s15) (0, 0)).1 ≤ (List.getD b1 (0 + (Int.toNat (IntKind.wrap .i64 ((((List.length b1) : Nat) : Int) - (1))))) (0, 0)).1)))), (.sr 1 0 (List.length b1) 2 none), (.d (.int .i64 (((List.length b1) : Nat) : Int))), (.d (.bool (decide ((((List.length b1) : Nat) : Int) > 0)))), (.d (.bool (decide ((((List.length b1) : Nat) : Int) > 0)))), (.ptr 2 0), (.d (.int .i64 (List.getD x1 (Int.toNat s15) (0, 0)).1)), (.sr 1 0 (List.length b1) 2 none), (.sr 1 0 (List.length b1) 2 none), (.d (.int .i64 (((List.length b1) : Nat) : Int))), (.d (.int .i64 (IntKind.wrap .i64 ((((List.length b1) : Nat) : Int) - (1))))), (.eptr 1 (0 + (Int.toNat (IntKind.wrap .i64 ((((List.length b1) : Nat) : Int) - (1))))) 2 0), (.eptr 1 (0 + (Int.toNat (IntKind.wrap .i64 ((((List.length b1) : Nat) : Int) - (1))))) 2 0), (.d (.int .i64 (List.getD b1 (0 + (Int.toNat (IntKind.wrap .i64 ((((List.length b1) : Nat) : Int) - (1))))) (0, 0)).1)), (.d (.bool (decide ((List.getD x1 (Int.toNat s15) (0, 0)).1 ≤ (List.getD b1 (0 + (Int.toNat (IntKind.wrap .i64 ((((List.length b1) : Nat) : Int) - (1))))) (0, 0)).1)))), (.d (.bool (decide ((List.getD x1 (Int.toNat s15) (0, 0)).1 ≤ (List.getD b1 (0 + (Int.toNat (IntKind.wrap .i64 ((((List.length b1) : Nat) : Int) - (1))))) (0, 0)).1)))), (.d (.bool ((((List.length b1) : Nat) : Int) == (200)))), (.sr 1 0 (List.length b1) 2 none), (.d (.int .i64 (((List.length b1) : Nat) : Int))), (.d (.bool ((((List.length b1) : Nat) : Int) == (200)))), .top, .top, .top, .top, .top, .top, .top, .top, .top], [(.cells [(.d (.sl (.pair (.int .i64) (.int .i64)) x0))]), (.arr (.pair (.int .i64) (.int .i64)) b1 true), (.cells [(.d (.int .i64 (List.getD x1 (Int.toNat s15) (0, 0)).1)), (.d (.int .i64 (List.getD x1 (Int.toNat s15) (0, 0)).2))]), .dead, .dead, .dead, .dead, .dead, .dead, .dead, .dead, .dead, .dead, .dead, .dead, .dead, .dead, .dead, .dead, .dead, .dead, .dead, .dead, .dead, .dead, .dead, .dead, .dead, .dead, .dead, .dead, .dead, .dead, .dead, .dead, .dead, .dead, .dead, .dead, .dead, .dead, .dead, .dead, .dead, .dead, .dead, .dead, .dead, .dead, .dead, .dead, .dead, .dead, .dead, .dead, .dead, .dead, .dead, .dead, .dead, .dead, .dead, .dead, .dead, .dead, .dead, .dead]) := by
  exact turns_last (by simp) (M.run_of_path _ [true, true, true, false, false, false, false, false, true, true, true, true, true, true, true, true, true, true, true, true, true, true, false, true] _ _ (by kernel_rfl) (all_t c0 (all_t c1 (all_t c2 (all_f c3 (all_f c3 (all_f c3 (all_f c3 (all_f c7 (all_t c8 (all_t c8 (all_t c8 (all_t c8 (all_t c8 (all_t c8 (all_t c8 (all_t c15 (all_t c16 (all_t c8 (all_t c8 (all_t c19 (all_t c8 (all_t c8 (all_f c22 (all_t c23 all_nil))))))))))))))))))))))))) 
set_option maxHeartbeats 20000000 in
theorem l5_0_w4 (m n : Nat) (x0 : List (Int × Int)) (x1 : List (Int × Int)) (s14 : Int) (s15 : Int) (b1 : List (Int × Int)) (r : AEx × Env × Boxes) (c0 : decide (s15 < s14) = true) (c1 : decide (0 ≤ s15) = true) (c2 : decide (s15 < (((List.length x1) : Nat) : Int)) = true) (c3 : ¬ decide ((List.getD x1 (Int.toNat s15) (0, 0)).1 < 0) = true) (c7 : ¬ decide ((List.getD x1 (Int.toNat s15) (0, 0)).1 > 1099511627776) = true) (c8 : decide ((((List.length b1) : Nat) : Int) > 0) = true) (c15 : decide (0 ≤ (IntKind.wrap .i64 ((((List.length b1) : Nat) : Int) - (1)))) = true) (c16 : decide ((IntKind.wrap .i64 ((((List.length b1) : Nat) : Int) - (1))) < (((List.length b1) : Nat) : Int)) = true) (c19 : decide ((0 + (Int.toNat (IntKind.wrap .i64 ((((List.length b1) : Nat) : Int) - (1))))) < (List.length b1)) = true) (c22 : ¬ decide ((List.getD x1 (Int.toNat s15) (0, 0)).1 ≤ (List.getD b1 (0 + (Int.toNat (IntKind.wrap .i64 ((((List.length b1) : Nat) : Int) - (1))))) (0, 0)).1) = true) (c23 : ¬ ((((List.length b1) : Nat) : Int) == (200)) = true) (c25 : decide ((((List.length b1) + 1) * 16) ≤ 70368744177664) = true) (ih : (turns (hds 5 57377) 1 57377 (evC byref (evCall F S5 (m + 24)) (m + 24) 1 (hds 5) lbl5_0) n (l5_0H x0 x1 s14 ((IntKind.wrap .i64 (s15 + (1)))) ((b1 ++ [(List.getD x1 (Int.toNat s15) (0, 0))]))) (l5_0B x0 x1 s14 ((IntKind.wrap .i64 (s15 + (1)))) ((b1 ++ [(List.getD x1 (Int.toNat s15) (0, 0))])))).run = some r) : (turns (hds 5 57377) 1 57377 (evC byref (evCall F S5 (m + 24)) (m + 24) 1 (hds 5) lbl5_0) (n + 1) (l5_0H x0 x1 s14 s15 b1) (l5_0B x0 x1 s14 s15 b1)).run = some r := by
  have ht : (turn (hds 5 57377) 1 57377 (evC byref (evCall F S5 (m + 24)) (m + 24) 1 (hds 5) lbl5_0) (l5_0H x0 x1 s14 s15 b1) (l5_0B x0 x1 s14 s15 b1)).run = some (.normal, [(.ptr 0 0), .top, .top, .top, .top, (.sr 1 0 ((List.length b1) + 1) 2 none), .top, .top, .top, .top, .top, .top, .top, (.d (.sl (.pair (.int .i64) (.int .i64)) x1)), (.d (.int .i64 s14)), (.d (.int .i64 (IntKind.wrap .i64 (s15 + (1))))), .top, .top, .top, .top, .top, .top, .top, .top, .top, .top, .top, .top, .top, .top, .top, .top, .top, .top, .top, .top, .top, .top, .top, .top, .top, .top, .top, .top, .top, .top, .top, .top, .top, .top, .top, .top, .top, .top, .top, .top, .top], [(.cells [(.d (.sl (.pair (.int .i64) (.int .i64)) x0))]), (.arr (.pair (.int .i64) (.int .i64)) (b1 ++ [(List.getD x1 (Int.toNat s15) (0, 0))]) true)]) := M.run_of_path _ [true, true, true, false, false, false, false, false, true, true, true, true, true, true, true, true, true, true, true, true, true, true, false, false, true, true, true] _ _ (by kernel_rfl) (all_t c0 (all_t c1 (all_t c2 (all_f c3 (all_f c3 (all_f c3 (all_f c3 (all_f c7 (all_t c8 (all_t c8 (all_t c8 (all_t c8 (all_t c8 (all_t c8 (all_t c8 (all_t c15 (all_t c16 (all_t c8 (all_t c8 (all_t c19 (all_t c8 (all_t c8 (all_f c22 (all_f c23 (all_t rfl (all_t c25 (all_t (show decide ((List.length b1) = (List.length b1)) = true from decide_eq_true rfl) all_nil)))))))))))))))))))))))))))
  refine turns_step ht (turns_eq ?_ ?_ ih)
  · unfold l5_0H
    first | (simp; done) | (simp [Nat.add_assoc]; done) | (simp; omega)
  · unfold l5_0B
    simp
set_option maxHeartbeats 20000000 in
theorem l5_0_w5 (m n : Nat) (x0 : List (Int × Int)) (x1 : List (Int × Int)) (s14 : Int) (s15 : Int) (b1 : List (Int × Int)) (c0 : decide (s15 < s14) = true) (c1 : decide (0 ≤ s15) = true) (c2 : decide (s15 < (((List.length x1) : Nat) : Int)) = true) (c3 : ¬ decide ((List.getD x1 (Int.toNat s15) (0, 0)).1 < 0) = true) (c7 : ¬ decide ((List.getD x1 (Int.toNat s15) (0, 0)).1 > 1099511627776) = true) (c8 : ¬ decide ((((List.length b1) : Nat) : Int) > 0) = true) (c20 : ((((List.length b1) : Nat) : Int) == (200)) = true) : (turns (hds 5 57377) 1 57377 (evC byref (evCall F S5 (m + 24)) (m + 24) 1 (hds 5) lbl5_0) (n + 1) (l5_0H x0 x1 s14 s15 b1) (l5_0B x0 x1 s14 s15 b1)).run = some (.ret, [(.ptr 0 0), .top, .top, .top, (.d (.int .i64 (8))), (.sr 1 0 (List.length b1) 2 none), .top, (.ptr 2 0), .top, .top, .top, .top, .top, (.d (.sl (.pair (.int .i64) (.int .i64)) x1)), (.d (.int .i64 s14)), (.d (.int .i64 s15)), (.d (.bool (decide (s15 < s14)))), (.cptr [(.int .i64 (List.getD x1 (Int.toNat s15) (0, 0)).1), (.int .i64 (List.getD x1 (Int.toNat s15) (0, 0)).2)] 0), (.agg [(.d (.int .i64 (List.getD x1 (Int.toNat s15) (0, 0)).1)), (.d (.int .i64 (List.getD x1 (Int.toNat s15) (0, 0)).2))]), (.d (.bool (decide ((List.getD x1 (Int.toNat s15) (0, 0)).1 > 1099511627776)))), (.ptr 2 0), (.d (.int .i64 (List.getD x1 (Int.toNat s15) (0, 0)).1)), (.d (.bool (decide ((List.getD x1 (Int.toNat s15) (0, 0)).1 < 0)))), (.d (.bool (decide ((List.getD x1 (Int.toNat s15) (0, 0)).1 < 0)))), (.ptr 2 0), (.d (.int .i64 (List.getD x1 (Int.toNat s15) (0, 0)).1)), (.d (.bool (decide ((List.getD x1 (Int.toNat s15) (0, 0)).1 > 1099511627776)))), (.d (.bool (decide ((List.getD x1 (Int.toNat s15) (0, 0)).1 > 1099511627776)))), (.d (.bool false)), (.sr 1 0 (List.length b1) 2 none), (.d (.int .i64 (((List.length b1) : Nat) : Int))), (.d (.bool (decide ((((List.length b1) : Nat) : Int) > 0)))), (.d (.bool (decide ((((List.length b1) : Nat) : Int) > 0)))), (.tup []), (.tup []), (.tup []), (.tup []), (.tup []), (.tup []), (.tup []), (.tup []), (.tup []), (.tup []), (.d (.bool false)), (.d (.bool ((((List.length b1) : Nat) : Int) == (200)))), (.sr 1 0 (List.length b1) 2 none), (.d (.int .i64 (((List.length b1) : Nat) : Int))), (.d (.bool ((((List.length b1) : Nat) : Int) == (200)))), .top, .top, .top, .top, .top, .top, .top, .top, .top], [(.cells [(.d (.sl (.pair (.int .i64) (.int .i64)) x0))]), (.arr (.pair (.int .i64) (.int .i64)) b1 true), (.cells [(.d (.int .i64 (List.getD x1 (Int.toNat s15) (0, 0)).1)), (.d (.int .i64 (List.getD x1 (Int.toNat s15) (0, 0)).2))]), .dead, .dead, .dead, .dead, .dead, .dead, .dead, .dead, .dead, .dead, .dead, .dead, .dead, .dead, .dead, .dead, .dead, .dead, .dead, .dead, .dead, .dead, .dead, .dead, .dead, .dead, .dead, .dead, .dead, .dead, .dead, .dead, .dead, .dead, .dead, .dead, .dead, .dead, .dead, .dead, .dead, .dead, .dead, .dead, .dead, .dead, .dead, .dead, .dead, .dead, .dead, .dead, .dead, .dead, .dead, .dead, .dead, .dead, .dead, .dead, .dead, .dead, .dead, .dead]) := by
  exact turns_last (by simp) (M.run_of_path _ [true, true, true, false, false, false, false, false, false, false, false, false, false, false, false, false, false, false, false, false, true] _ _ (by kernel_rfl) (all_t c0 (all_t c1 (all_t c2 (all_f c3 (all_f c3 (all_f c3 (all_f c3 (all_f c7 (all_f c8 (all_f c8 (all_f c8 (all_f c8 (all_f c8 (all_f c8 (all_f c8 (all_f c8 (all_f c8 (all_f c8 (all_f c8 (all_f Bool.false_ne_true (all_t c20 all_nil)))))))))))))))))))))) 
set_option maxHeartbeats 20000000 in
theorem l5_0_w6 (m n : Nat) (x0 : List (Int × Int)) (x1 : List (Int × Int)) (s14 : Int) (s15 : Int) (b1 : List (Int × Int)) (r : AEx × Env × Boxes) (c0 : decide (s15 < s14) = true) (c1 : decide (0 ≤ s15) = true) (c2 : decide (s15 < (((List.length x1) : Nat) : Int)) = true) (c3 : ¬ decide ((List.getD x1 (Int.toNat s15) (0, 0)).1 < 0) = true) (c7 : ¬ decide ((List.getD x1 (Int.toNat s15) (0, 0)).1 > 1099511627776) = true) (c8 : ¬ decide ((((List.length b1) : Nat) : Int) > 0) = true) (c20 : ¬ ((((List.length b1) : Nat) : Int) == (200)) = true) (c22 : decide ((((List.length b1) + 1) * 16) ≤ 70368744177664) = true) (ih : (turns (hds 5 57377) 1 57377 (evC byref (evCall F S5 (m + 24)) (m + 24) 1 (hds 5) lbl5_0) n (l5_0H x0 x1 s14 ((IntKind.wrap .i64 (s15 + (1)))) ((b1 ++ [(List.getD x1 (Int.toNat s15) (0, 0))]))) (l5_0B x0 x1 s14 ((IntKind.wrap .i64 (s15 + (1)))) ((b1 ++ [(List.getD x1 (Int.toNat s15) (0, 0))])))).run = some r) : (turns (hds 5 57377) 1 57377 (evC byref (evCall F S5 (m + 24)) (m + 24) 1 (hds 5) lbl5_0) (n + 1) (l5_0H x0 x1 s14 s15 b1) (l5_0B x0 x1 s14 s15 b1)).run = some r := by
  have ht : (turn (hds 5 57377) 1 57377 (evC byref (evCall F S5 (m + 24)) (m + 24) 1 (hds 5) lbl5_0) (l5_0H x0 x1 s14 s15 b1) (l5_0B x0 x1 s14 s15 b1)).run = some (.normal, [(.ptr 0 0), .top, .top, .top, .top, (.sr 1 0 ((List.length b1) + 1) 2 none), .top, .top, .top, .top, .top, .top, .top, (.d (.sl (.pair (.int .i64) (.int .i64)) x1)), (.d (.int .i64 s14)), (.d (.int .i64 (IntKind.wrap .i64 (s15 + (1))))), .top, .top, .top, .top, .top, .top, .top, .top, .top, .top, .top, .top, .top, .top, .top, .top, .top, .top, .top, .top, .top, .top, .top, .top, .top, .top, .top, .top, .top, .top, .top, .top, .top, .top, .top, .top, .top, .top, .top, .top, .top], [(.cells [(.d (.sl (.pair (.int .i64) (.int .i64)) x0))]), (.arr (.pair (.int .i64) (.int .i64)) (b1 ++ [(List.getD x1 (Int.toNat s15) (0, 0))]) true)]) := M.run_of_path _ [true, true, true, false, false, false, false, false, false, false, false, false, false, false, false, false, false, false, false, false, false, true, true, true] _ _ (by kernel_rfl) (all_t c0 (all_t c1 (all_t c2 (all_f c3 (all_f c3 (all_f c3 (all_f c3 (all_f c7 (all_f c8 (all_f c8 (all_f c8 (all_f c8 (all_f c8 (all_f c8 (all_f c8 (all_f c8 (all_f c8 (all_f c8 (all_f c8 (all_f Bool.false_ne_true (all_f c20 (all_t rfl (all_t c22 (all_t (show decide ((List.length b1) = (List.length b1)) = true from decide_eq_true rfl) all_nil))))))))))))))))))))))))
  refine turns_step ht (turns_eq ?_ ?_ ih)
  · unfold l5_0H
    first | (simp; done) | (simp [Nat.add_assoc]; done) | (simp; omega)
  · unfold l5_0B
    simp
set_option maxHeartbeats 20000000 in
theorem l5_0_w7 (m n : Nat) (x0 : List (Int × Int)) (x1 : List (Int × Int)) (s14 : Int) (s15 : Int) (b1 : List (Int × Int)) (c0 : ¬ decide (s15 < s14) = true) : (turns (hds 5 57377) 1 57377 (evC byref (evCall F S5 (m + 24)) (m + 24) 1 (hds 5) lbl5_0) (n + 1) (l5_0H x0 x1 s14 s15 b1) (l5_0B x0 x1 s14 s15 b1)).run = some (.exit 0, [(.ptr 0 0), .top, .top, .top, .top, (.sr 1 0 (List.length b1) 2 none), .top, .top, .top, .top, .top, .top, .top, (.d (.sl (.pair (.int .i64) (.int .i64)) x1)), (.d (.int .i64 s14)), (.d (.int .i64 s15)), (.d (.bool (decide (s15 < s14)))), .top, .top, .top, .top, .top, .top, .top, .top, .top, .top, .top, .top, .top, .top, .top, .top, .top, .top, .top, .top, .top, .top, .top, .top, .top, .top, .top, .top, .top, .top, .top, .top, .top, .top, .top, .top, .top, .top, .top, .top], [(.cells [(.d (.sl (.pair (.int .i64) (.int .i64)) x0))]), (.arr (.pair (.int .i64) (.int .i64)) b1 true)]) := by
  exact turns_last (by simp) (M.run_of_path _ [false] _ _ (by kernel_rfl) (all_f c0 all_nil)) 

set_option maxHeartbeats 20000000 in
theorem l5_0_step (m n : Nat) (ih : ∀ (x0 : List (Int × Int)) (x1 : List (Int × Int)) (s14 : Int) (s15 : Int) (b1 : List (Int × Int)) (q : Nat × Int × (List (Int × Int))), l5_0 m n x0 x1 s14 s15 b1 = some q → (turns (hds 5 57377) 1 57377 (evC byref (evCall F S5 (m + 24)) (m + 24) 1 (hds 5) lbl5_0) n (l5_0H x0 x1 s14 s15 b1) (l5_0B x0 x1 s14 s15 b1)).run = some (l5_0E (x0) (x1) (s14) (q.2.1) (q.2.2) q.1)) (x0 : List (Int × Int)) (x1 : List (Int × Int)) (s14 : Int) (s15 : Int) (b1 : List (Int × Int)) (q : Nat × Int × (List (Int × Int))) (h : l5_0 m (n + 1) x0 x1 s14 s15 b1 = some q) : (turns (hds 5 57377) 1 57377 (evC byref (evCall F S5 (m + 24)) (m + 24) 1 (hds 5) lbl5_0) (n + 1) (l5_0H x0 x1 s14 s15 b1) (l5_0B x0 x1 s14 s15 b1)).run = some (l5_0E (x0) (x1) (s14) (q.2.1) (q.2.2) q.1) := by
  rw [l5_0] at h
  refine ite_cases h (fun c0 h => ?_) (fun c0 h => ?_)
  · skip
    refine ite_cases h (fun c1 h => ?_) (fun c1 h => ?_)
    · skip
      refine ite_cases h (fun c2 h => ?_) (fun c2 h => ?_)
      · skip
        refine ite_cases h (fun c3 h => ?_) (fun c3 h => ?_)
        · skip
          cases h
          exact l5_0_w0 m n x0 x1 s14 s15 b1 c0 c1 c2 c3
        · skip
          refine ite_cases h (fun c7 h => ?_) (fun c7 h => ?_)
          · skip
            cases h
            exact l5_0_w1 m n x0 x1 s14 s15 b1 c0 c1 c2 c3 c7
          · skip
            refine ite_cases h (fun c8 h => ?_) (fun c8 h => ?_)
            · skip
              refine ite_cases h (fun c15 h => ?_) (fun c15 h => ?_)
              · skip
                refine ite_cases h (fun c16 h => ?_) (fun c16 h => ?_)
                · skip
                  refine ite_cases h (fun c19 h => ?_) (fun c19 h => ?_)
                  · skip
                    refine ite_cases h (fun c22 h => ?_) (fun c22 h => ?_)
                    · skip
                      cases h
                      exact l5_0_w2 m n x0 x1 s14 s15 b1 c0 c1 c2 c3 c7 c8 c15 c16 c19 c22
                    · skip
                      refine ite_cases h (fun c23 h => ?_) (fun c23 h => ?_)
                      · skip
                        cases h
                        exact l5_0_w3 m n x0 x1 s14 s15 b1 c0 c1 c2 c3 c7 c8 c15 c16 c19 c22 c23
                      · skip
                        refine ite_cases h (fun c25 h => ?_) (fun c25 h => ?_)
                        · skip
                          exact l5_0_w4 m n x0 x1 s14 s15 b1 _ c0 c1 c2 c3 c7 c8 c15 c16 c19 c22 c23 c25 (ih _ _ _ _ _ q h)
                        · skip
                          cases h
                  · skip
                    cases h
                · skip
                  cases h
              · skip
                cases h
            · skip
              refine ite_cases h (fun c20 h => ?_) (fun c20 h => ?_)
              · skip
                cases h
                exact l5_0_w5 m n x0 x1 s14 s15 b1 c0 c1 c2 c3 c7 c8 c20
              · skip
                refine ite_cases h (fun c22 h => ?_) (fun c22 h => ?_)
                · skip
                  exact l5_0_w6 m n x0 x1 s14 s15 b1 _ c0 c1 c2 c3 c7 c8 c20 c22 (ih _ _ _ _ _ q h)
                · skip
                  cases h
      · skip
        cases h
    · skip
      cases h
  · skip
    cases h
    exact l5_0_w7 m n x0 x1 s14 s15 b1 c0
set_option maxHeartbeats 20000000 in
theorem l5_0_ok (m : Nat) : ∀ (n : Nat) (x0 : List (Int × Int)) (x1 : List (Int × Int)) (s14 : Int) (s15 : Int) (b1 : List (Int × Int)) (q : Nat × Int × (List (Int × Int))), l5_0 m n x0 x1 s14 s15 b1 = some q → (turns (hds 5 57377) 1 57377 (evC byref (evCall F S5 (m + 24)) (m + 24) 1 (hds 5) lbl5_0) n (l5_0H x0 x1 s14 s15 b1) (l5_0B x0 x1 s14 s15 b1)).run = some (l5_0E (x0) (x1) (s14) (q.2.1) (q.2.2) q.1)
  | 0, x0, x1, s14, s15, b1, q, h => by cases h
  | n + 1, x0, x1, s14, s15, b1, q, h => l5_0_step m n (l5_0_ok m n) x0 x1 s14 s15 b1 q h

def p5 (m : Nat) (x0 : List (Int × Int)) (x1 : List (Int × Int)) : Option (Int × (List (Int × Int))) :=
  if decide (((List.length x0) * 16) ≤ 70368744177664) = true then
    if (Option.isSome (l5_0 m (m + 24) x0 x1 ((((List.length x1) : Nat) : Int)) 0 x0)) = true then
      if ((l5_0R m (m + 24) x0 x1 ((((List.length x1) : Nat) : Int)) 0 x0).1 == 0) = true then
        some ((1), x0)
      else
        if ((l5_0R m (m + 24) x0 x1 ((((List.length x1) : Nat) : Int)) 0 x0).1 == 1) = true then
          some ((1), x0)
        else
          if ((l5_0R m (m + 24) x0 x1 ((((List.length x1) : Nat) : Int)) 0 x0).1 == 2) = true then
            some ((2), x0)
          else
            if ((l5_0R m (m + 24) x0 x1 ((((List.length x1) : Nat) : Int)) 0 x0).1 == 3) = true then
              some ((8), x0)
            else
              if ((l5_0R m (m + 24) x0 x1 ((((List.length x1) : Nat) : Int)) 0 x0).1 == 4) = true then
                some ((8), x0)
              else
                if ((l5_0R m (m + 24) x0 x1 ((((List.length x1) : Nat) : Int)) 0 x0).1 == 5) = true then
                  some ((0), (l5_0R m (m + 24) x0 x1 ((((List.length x1) : Nat) : Int)) 0 x0).2.2)
                else
                  none
    else
      none
  else
    none
set_option maxHeartbeats 20000000 in
theorem p5_ok (m : Nat) (x0 : List (Int × Int)) (x1 : List (Int × Int)) (q : Int × (List (Int × Int))) (h : p5 m x0 x1 = some q) : ∃ r B1, (evCall F S5 (m + 25) 5 [(.ptr 0 0), (.d (.sl (.pair (.int .i64) (.int .i64)) x1))] [(.cells [(.d (.sl (.pair (.int .i64) (.int .i64)) x0))])]).run = some (r, B1) ∧ 1 ≤ B1.length ∧ wkR B1 [(.cells [(.d (.sl (.pair (.int .i64) (.int .i64)) q.2))])] r (.d (.int .i64 q.1)) ∧ wkBs B1 [(.cells [(.d (.sl (.pair (.int .i64) (.int .i64)) q.2))])] 0 [(.cells [(.d (.sl (.pair (.int .i64) (.int .i64)) q.2))])] := by
  unfold p5 at h
  refine ite_cases h (fun c0 h => ?_) (fun c0 h => ?_)
  · skip
    refine ite_cases h (fun c1 h => ?_) (fun c1 h => ?_)
    · skip
      refine ite_cases h (fun c2 h => ?_) (fun c2 h => ?_)
      · skip
        cases h
        refine ⟨(.d (.int .i64 (1))), [(.cells [(.d (.sl (.pair (.int .i64) (.int .i64)) x0))])], runT_ok (LS := (fun k => if k = 57377 then some (l5_0E x0 x1 (((((List.length x1) : Nat) : Int))) ((l5_0R m (m + 24) x0 x1 ((((List.length x1) : Nat) : Int)) 0 x0).2.1) ((l5_0R m (m + 24) x0 x1 ((((List.length x1) : Nat) : Int)) 0 x0).2.2) 0) else none)) (fn := fn5) (vis := [(57377, l5_0H x0 x1 ((((List.length x1) : Nat) : Int)) 0 x0, l5_0B x0 x1 ((((List.length x1) : Nat) : Int)) 0 x0)]) (by kernel_rfl) rfl (by kernel_rfl) (M.run_of_path _ [true] _ _ (by kernel_rfl) (all_t c0 all_nil)) ?_, by simp, (wkR.one (wkV.one (wk1.eq rfl))), ⟨wkBox.cells (wkL.cons (wk1.eq rfl) wkL.nil), trivial⟩⟩
        intro p hp p2 hq
        rcases List.mem_cons.1 hp with rfl | hp
        · skip
          have h3 := l5_0_ok m (m + 24) x0 x1 ((((List.length x1) : Nat) : Int)) 0 x0 _ (some_getD (d := l5_0D) c1)
          rw [eq_of_beq c2] at h3
          exact Eq.trans (Eq.mp (by kernel_rfl) h3) hq
        cases hp
      · skip
        refine ite_cases h (fun c3 h => ?_) (fun c3 h => ?_)
        · skip
          cases h
          refine ⟨(.d (.int .i64 (1))), [(.cells [(.d (.sl (.pair (.int .i64) (.int .i64)) x0))])], runT_ok (LS := (fun k => if k = 57377 then some (l5_0E x0 x1 (((((List.length x1) : Nat) : Int))) ((l5_0R m (m + 24) x0 x1 ((((List.length x1) : Nat) : Int)) 0 x0).2.1) ((l5_0R m (m + 24) x0 x1 ((((List.length x1) : Nat) : Int)) 0 x0).2.2) 1) else none)) (fn := fn5) (vis := [(57377, l5_0H x0 x1 ((((List.length x1) : Nat) : Int)) 0 x0, l5_0B x0 x1 ((((List.length x1) : Nat) : Int)) 0 x0)]) (by kernel_rfl) rfl (by kernel_rfl) (M.run_of_path _ [true] _ _ (by kernel_rfl) (all_t c0 all_nil)) ?_, by simp, (wkR.one (wkV.one (wk1.eq rfl))), ⟨wkBox.cells (wkL.cons (wk1.eq rfl) wkL.nil), trivial⟩⟩
          intro p hp p2 hq
          rcases List.mem_cons.1 hp with rfl | hp
          · skip
            have h3 := l5_0_ok m (m + 24) x0 x1 ((((List.length x1) : Nat) : Int)) 0 x0 _ (some_getD (d := l5_0D) c1)
            rw [eq_of_beq c3] at h3
            exact Eq.trans (Eq.mp (by kernel_rfl) h3) hq
          cases hp
        · skip
          refine ite_cases h (fun c4 h => ?_) (fun c4 h => ?_)
          · skip
            cases h
            refine ⟨(.d (.int .i64 (2))), [(.cells [(.d (.sl (.pair (.int .i64) (.int .i64)) x0))])], runT_ok (LS := (fun k => if k = 57377 then some (l5_0E x0 x1 (((((List.length x1) : Nat) : Int))) ((l5_0R m (m + 24) x0 x1 ((((List.length x1) : Nat) : Int)) 0 x0).2.1) ((l5_0R m (m + 24) x0 x1 ((((List.length x1) : Nat) : Int)) 0 x0).2.2) 2) else none)) (fn := fn5) (vis := [(57377, l5_0H x0 x1 ((((List.length x1) : Nat) : Int)) 0 x0, l5_0B x0 x1 ((((List.length x1) : Nat) : Int)) 0 x0)]) (by kernel_rfl) rfl (by kernel_rfl) (M.run_of_path _ [true] _ _ (by kernel_rfl) (all_t c0 all_nil)) ?_, by simp, (wkR.one (wkV.one (wk1.eq rfl))), ⟨wkBox.cells (wkL.cons (wk1.eq rfl) wkL.nil), trivial⟩⟩
            intro p hp p2 hq
            rcases List.mem_cons.1 hp with rfl | hp
            · skip
              have h3 := l5_0_ok m (m + 24) x0 x1 ((((List.length x1) : Nat) : Int)) 0 x0 _ (some_getD (d := l5_0D) c1)
              rw [eq_of_beq c4] at h3
              exact Eq.trans (Eq.mp (by kernel_rfl) h3) hq
            cases hp
          · skip
            refine ite_cases h (fun c5 h => ?_) (fun c5 h => ?_)
            · skip
              cases h
              refine ⟨(.d (.int .i64 (8))), [(.cells [(.d (.sl (.pair (.int .i64) (.int .i64)) x0))])], runT_ok (LS := (fun k => if k = 57377 then some (l5_0E x0 x1 (((((List.length x1) : Nat) : Int))) ((l5_0R m (m + 24) x0 x1 ((((List.length x1) : Nat) : Int)) 0 x0).2.1) ((l5_0R m (m + 24) x0 x1 ((((List.length x1) : Nat) : Int)) 0 x0).2.2) 3) else none)) (fn := fn5) (vis := [(57377, l5_0H x0 x1 ((((List.length x1) : Nat) : Int)) 0 x0, l5_0B x0 x1 ((((List.length x1) : Nat) : Int)) 0 x0)]) (by kernel_rfl) rfl (by kernel_rfl) (M.run_of_path _ [true] _ _ (by kernel_rfl) (all_t c0 all_nil)) ?_, by simp, (wkR.one (wkV.one (wk1.eq rfl))), ⟨wkBox.cells (wkL.cons (wk1.eq rfl) wkL.nil), trivial⟩⟩
              intro p hp p2 hq
              rcases List.mem_cons.1 hp with rfl | hp
              · skip
                have h3 := l5_0_ok m (m + 24) x0 x1 ((((List.length x1) : Nat) : Int)) 0 x0 _ (some_getD (d := l5_0D) c1)
                rw [eq_of_beq c5] at h3
                exact Eq.trans (Eq.mp (by kernel_rfl) h3) hq
              cases hp
            · skip
              refine ite_cases h (fun c6 h => ?_) (fun c6 h => ?_)
              · skip
                cases h
                refine ⟨(.d (.int .i64 (8))), [(.cells [(.d (.sl (.pair (.int .i64) (.int .i64)) x0))])], runT_ok (LS := (fun k => if k = 57377 then some (l5_0E x0 x1 (((((List.length x1) : Nat) : Int))) ((l5_0R m (m + 24) x0 x1 ((((List.length x1) : Nat) : Int)) 0 x0).2.1) ((l5_0R m (m + 24) x0 x1 ((((List.length x1) : Nat) : Int)) 0 x0).2.2) 4) else none)) (fn := fn5) (vis := [(57377, l5_0H x0 x1 ((((List.length x1) : Nat) : Int)) 0 x0, l5_0B x0 x1 ((((List.length x1) : Nat) : Int)) 0 x0)]) (by kernel_rfl) rfl (by kernel_rfl) (M.run_of_path _ [true] _ _ (by kernel_rfl) (all_t c0 all_nil)) ?_, by simp, (wkR.one (wkV.one (wk1.eq rfl))), ⟨wkBox.cells (wkL.cons (wk1.eq rfl) wkL.nil), trivial⟩⟩
                intro p hp p2 hq
                rcases List.mem_cons.1 hp with rfl | hp
                · skip
                  have h3 := l5_0_ok m (m + 24) x0 x1 ((((List.length x1) : Nat) : Int)) 0 x0 _ (some_getD (d := l5_0D) c1)
                  rw [eq_of_beq c6] at h3
                  exact Eq.trans (Eq.mp (by kernel_rfl) h3) hq
                cases hp
              · skip
                refine ite_cases h (fun c7 h => ?_) (fun c7 h => ?_)
                · skip
                  cases h
                  refine ⟨(.d (.int .i64 (0))), [(.cells [(.sr 1 0 (List.length (l5_0R m (m + 24) x0 x1 ((((List.length x1) : Nat) : Int)) 0 x0).2.2) 2 none)]), (.arr (.pair (.int .i64) (.int .i64)) (l5_0R m (m + 24) x0 x1 ((((List.length x1) : Nat) : Int)) 0 x0).2.2 true)], runT_ok (LS := (fun k => if k = 57377 then some (l5_0E x0 x1 (((((List.length x1) : Nat) : Int))) ((l5_0R m (m + 24) x0 x1 ((((List.length x1) : Nat) : Int)) 0 x0).2.1) ((l5_0R m (m + 24) x0 x1 ((((List.length x1) : Nat) : Int)) 0 x0).2.2) 5) else none)) (fn := fn5) (vis := [(57377, l5_0H x0 x1 ((((List.length x1) : Nat) : Int)) 0 x0, l5_0B x0 x1 ((((List.length x1) : Nat) : Int)) 0 x0)]) (by kernel_rfl) rfl (by kernel_rfl) (M.run_of_path _ [true] _ _ (by kernel_rfl) (all_t c0 all_nil)) ?_, by simp, (wkR.one (wkV.one (wk1.eq rfl))), ⟨wkBox.cells (wkL.cons (wk1.whole rfl (by simp) rfl) wkL.nil), trivial⟩⟩
                  intro p hp p2 hq
                  rcases List.mem_cons.1 hp with rfl | hp
                  · skip
                    have h3 := l5_0_ok m (m + 24) x0 x1 ((((List.length x1) : Nat) : Int)) 0 x0 _ (some_getD (d := l5_0D) c1)
                    rw [eq_of_beq c7] at h3
                    exact Eq.trans (Eq.mp (by kernel_rfl) h3) hq
                  cases hp
                · skip
                  cases h
    · skip
      cases h
  · skip
    cases h

/-- Samples added one by one: a code, and what there is. -/
def addR (out : SL) : SL → Int × SL
  | [] => (0, out)
  | x :: xs => if x.1 < 0 then (1, out) else if x.1 > 1099511627776 then (1, out) else if 0 < out.length ∧ x.1 ≤ (out.getD (out.length - 1) (0, 0)).1 then (2, out) else if out.length = 200 then (8, out) else addR (out ++ [x]) xs
def addG (l xs : SL) : Int × SL := if (addR l xs).1 = 0 then (0, (addR l xs).2) else ((addR l xs).1, l)
theorem add_loop (m : Nat) (x0 x1 : SL) (hb : x1.length < 4611686018427387904) : ∀ (n k : Nat) (b : SL), k ≤ x1.length → b.length ≤ 200 → x1.length - k < n →
    ∃ e s b', l5_0 m n x0 x1 (x1.length : Nat) (k : Nat) b = some (e, s, b') ∧ ((e = 5 ∧ addR b (x1.drop k) = (0, b')) ∨ ((e = 0 ∨ e = 1) ∧ (addR b (x1.drop k)).1 = 1) ∨ (e = 2 ∧ (addR b (x1.drop k)).1 = 2) ∨ ((e = 3 ∨ e = 4) ∧ (addR b (x1.drop k)).1 = 8))
  | 0, k, b, _, _, h => by omega
  | n + 1, k, b, h1, h2, h3 => by
    rw [l5_0]
    by_cases hk : k < x1.length
    · have e1 : decide (((k : Nat) : Int) < (((List.length x1) : Nat) : Int)) = true := decide_eq_true (by omega)
      have e2 : decide ((0 : Int) ≤ ((k : Nat) : Int)) = true := decide_eq_true (by omega)
      have e7 : IntKind.wrap .i64 (((k : Nat) : Int) + (1)) = ((k + 1 : Nat) : Int) := by rw [wrap_id (by omega) (by omega)]; rfl
      rw [drop_getD x1 k (0, 0) hk, Int.toNat_natCast, e7, if_pos e1, if_pos e2, if_pos e1]
      generalize x1.getD k (0, 0) = x
      by_cases c1 : x.1 < 0
      · rw [if_pos (decide_eq_true c1)]
        exact ⟨0, _, _, rfl, .inr (.inl ⟨.inl rfl, by simp [addR, c1]⟩)⟩
      · rw [if_neg (by simpa using c1)]
        by_cases c2 : x.1 > 1099511627776
        · rw [if_pos (decide_eq_true c2)]
          exact ⟨1, _, _, rfl, .inr (.inl ⟨.inr rfl, by simp [addR, c1, c2]⟩)⟩
        · rw [if_neg (by simpa using c2)]
          have e4 : decide ((((List.length b) + 1) * 16) ≤ 70368744177664) = true := decide_eq_true (by omega)
          have e5 : decide ((List.length b) = (List.length b)) = true := decide_eq_true rfl
          have fin : b.length ≠ 200 → ¬ (0 < b.length ∧ x.1 ≤ (b.getD (b.length - 1) (0, 0)).1) → ∃ e s b', l5_0 m n x0 x1 (x1.length : Nat) ((k + 1 : Nat) : Int) (b ++ [x]) = some (e, s, b') ∧ ((e = 5 ∧ addR b (x :: x1.drop (k + 1)) = (0, b')) ∨ ((e = 0 ∨ e = 1) ∧ (addR b (x :: x1.drop (k + 1))).1 = 1) ∨ (e = 2 ∧ (addR b (x :: x1.drop (k + 1))).1 = 2) ∨ ((e = 3 ∨ e = 4) ∧ (addR b (x :: x1.drop (k + 1))).1 = 8)) := by
            intro hne hno
            obtain ⟨e, s, b', hr, he⟩ := add_loop m x0 x1 hb n (k + 1) (b ++ [x]) (by omega) (by simp; omega) (by omega)
            have : addR b (x :: x1.drop (k + 1)) = addR (b ++ [x]) (x1.drop (k + 1)) := by
              rw [addR, if_neg c1, if_neg c2, if_neg hno, if_neg hne]
            rw [this]
            exact ⟨e, s, b', hr, he⟩
          by_cases c3 : 0 < b.length
          · have f1 : decide ((((List.length b) : Nat) : Int) > 0) = true := decide_eq_true (by omega)
            have f2 : IntKind.wrap .i64 ((((List.length b) : Nat) : Int) - (1)) = ((b.length - 1 : Nat) : Int) := by rw [wrap_id (by omega) (by omega)]; omega
            have f3 : decide ((0 : Int) ≤ ((b.length - 1 : Nat) : Int)) = true := decide_eq_true (by omega)
            have f4 : decide (((b.length - 1 : Nat) : Int) < (((List.length b) : Nat) : Int)) = true := decide_eq_true (by omega)
            have f5 : decide ((0 + (b.length - 1)) < (List.length b)) = true := decide_eq_true (by omega)
            have f6 : 0 + (b.length - 1) = b.length - 1 := by omega
            have f5' : decide ((b.length - 1) < (List.length b)) = true := decide_eq_true (by omega)
            rw [f2, Int.toNat_natCast, f6, if_pos f1, if_pos f3, if_pos f4, if_pos f5']
            by_cases c4 : x.1 ≤ (b.getD (b.length - 1) (0, 0)).1
            · rw [if_pos (decide_eq_true c4)]
              exact ⟨2, _, _, rfl, .inr (.inr (.inl ⟨rfl, by rw [addR, if_neg c1, if_neg c2, if_pos ⟨c3, c4⟩]⟩))⟩
            · rw [if_neg (by simpa using c4)]
              by_cases c5 : b.length = 200
              · rw [if_pos (by simp [c5])]
                exact ⟨3, _, _, rfl, .inr (.inr (.inr ⟨.inl rfl, by rw [addR, if_neg c1, if_neg c2, if_neg (fun h => c4 h.2), if_pos c5]⟩))⟩
              · rw [if_neg (by simp; omega), if_pos e4]
                exact fin c5 fun h => c4 h.2
          · have f1 : decide ((((List.length b) : Nat) : Int) > 0) = false := decide_eq_false (by omega)
            have f2 : ((((List.length b) : Nat) : Int) == (200)) = false := by simp; omega
            rw [f1, f2, if_neg (by simp), if_neg (by simp), if_pos e4]
            exact fin (by omega) fun h => c3 h.1
    · have e1 : decide (((k : Nat) : Int) < (((List.length x1) : Nat) : Int)) = false := decide_eq_false (by omega)
      simp only [e1, ↓reduceIte, Bool.false_eq_true]
      rw [List.drop_eq_nil_of_le (by omega)]
      exact ⟨5, _, _, rfl, .inl ⟨rfl, rfl⟩⟩
theorem add27 (l xs : SL) (h : decide (l.length ≤ 200 ∧ xs.length < 4611686018427387904) = true) : ∃ m, p5 m l xs = some (addG l xs) := by
  have h := of_decide_eq_true h
  refine ⟨xs.length, ?_⟩
  obtain ⟨e, s, b', hr, he⟩ := add_loop xs.length l xs h.2 (xs.length + 24) 0 l (by omega) h.1 (by omega)
  simp only [Int.natCast_zero, List.drop_zero] at hr he
  have e1 : decide (((List.length l) * 16) ≤ 70368744177664) = true := decide_eq_true (by omega)
  unfold p5 l5_0R addG
  simp only [hr, e1, Option.isSome_some, Option.getD_some, ↓reduceIte]
  rcases he with ⟨rfl, he⟩ | ⟨rfl | rfl, he⟩ | ⟨rfl, he⟩ | ⟨rfl | rfl, he⟩ <;> simp [he]
def s5 : List AV → Boxes → M (AV × Boxes) := normS [.ptr, .val (.sl (.pair (.int .i64) (.int .i64)))] [(.sl (.pair (.int .i64) (.int .i64)))] fun xs B => match xs, B with
  | [(.ptr 0 0), (.d (.sl (.pair (.int .i64) (.int .i64)) c2))], [(.cells [(.d (.sl (.pair (.int .i64) (.int .i64)) c1))])] => .chk (decide (List.length c1 ≤ 200 ∧ List.length c2 < 4611686018427387904)) (.ret ((.d (.int .i64 (addG c1 c2).1)), [(.cells [(.d (.sl (.pair (.int .i64) (.int .i64)) (addG c1 c2).2))])]))
  | _, _ => .fail
theorem s5_at : CallAt Try.prog 5 s5 := by
  refine CallAt.norm (CallAt.weakE (g := fun n => evCall F S5 n 5) (fun n => evCall_atH mixed kinds hds S5 S5_ok n 5) fun xs B r' B' hr => ?_) _ _
  split at hr
  · rename_i c2 c1
    obtain ⟨hp, hr⟩ := (M.run_chk _ _ _).1 hr
    simp only [M.run, Option.some.injEq, Prod.mk.injEq] at hr
    obtain ⟨rfl, rfl⟩ := hr
    obtain ⟨m, hm⟩ := add27 c1 c2 hp
    obtain ⟨r, B1, h1, h2, h3, h4⟩ := p5_ok m c1 c2 _ hm
    exact ⟨m + 25, r, B1, h1, by simp, h2, h3, h4⟩
  · simp [M.run] at hr
noncomputable def S6 : FuncId → Option (List AV → Boxes → M (AV × Boxes)) := fun f => if f = 5 then some s5 else S5 f
set_option maxHeartbeats 20000000 in
theorem S6_ok : ∀ f s, S6 f = some s → CallAt Try.prog f s := by
  intro f s h
  unfold S6 at h
  split at h
  · rename_i e; subst e; cases h; exact s5_at
  · exact S5_ok f s h

end Go.Proofs.Ytahdcmicifokgaa.Dec
namespace Go.Proofs.Ytahdcmicifokgaa.Dec
open Go.Ev
set_option linter.unusedVariables false
set_option linter.unusedSimpArgs false
set_option maxRecDepth 100000
noncomputable def fn15 : AFn := (F 15).getD ⟨0, [], .bad, false, false, noHd⟩
noncomputable def body15 : AC := fn15.body
def l15_0 (m : Nat) : Nat → List Int → Int → Int → Int → Int → Option (Nat × Int)
  | 0, _, _, _, _, _ => none
  | n + 1, x0, x1c0, x1c1, s7, s8 => if decide (s8 < s7) = true then
      if decide (0 ≤ s8) = true then
        if decide (s8 < (((List.length x0) : Nat) : Int)) = true then
          if decide ((List.getD x0 (Int.toNat s8) 0) < x1c0) = true then
            some (0, s8)
          else
            if decide ((List.getD x0 (Int.toNat s8) 0) > x1c1) = true then
              some (1, s8)
            else
              l15_0 m n x0 x1c0 x1c1 s7 ((IntKind.wrap .i64 (s8 + (1))))
        else
          none
      else
        none
    else
      some (2, s8)
def l15_0D : Nat × Int := (0, 0)
@[reducible] def l15_0R (m n : Nat) (x0 : List Int) (x1c0 : Int) (x1c1 : Int) (s7 : Int) (s8 : Int) : Nat × Int := Option.getD (l15_0 m n x0 x1c0 x1c1 s7 s8) l15_0D
def l15_0H (x0 : List Int) (x1c0 : Int) (x1c1 : Int) (s7 : Int) (s8 : Int) : Env := [(.d (.sl (.int .i64) x0)), (.fn 12 [(.ptr 0 0), (.ptr 1 0)]), .top, .top, .top, .top, .top, (.d (.int .i64 s7)), (.d (.int .i64 s8)), .top, .top, .top, .top, .top, .top, .top, .top, .top, .top]
def l15_0B (x0 : List Int) (x1c0 : Int) (x1c1 : Int) (s7 : Int) (s8 : Int) : Boxes := [(.cells [(.d (.int .i64 x1c0))]), (.cells [(.d (.int .i64 x1c1))])]
def l15_0E (x0 : List Int) (x1c0 : Int) (x1c1 : Int) (s7 : Int) (s8 : Int) : Nat → AEx × Env × Boxes
  | 0 => (.ret, [(.d (.sl (.int .i64) x0)), (.fn 12 [(.ptr 0 0), (.ptr 1 0)]), .top, .top, (.d (.int .i64 s8)), (.d (.int .i64 s8)), .top, (.d (.int .i64 s7)), (.d (.int .i64 s8)), (.d (.bool (decide (s8 < s7)))), (.d (.int .i64 s8)), (.fn 12 [(.ptr 0 0), (.ptr 1 0)]), (.d (.sl (.int .i64) x0)), (.d (.int .i64 s8)), (.cptr [(.int .i64 (List.getD x0 (Int.toNat s8) 0))] 0), (.d (.int .i64 (List.getD x0 (Int.toNat s8) 0))), (.d (.bool true)), (.d (.int .i64 s8)), .top], [(.cells [(.d (.int .i64 x1c0))]), (.cells [(.d (.int .i64 x1c1))])])
  | 1 => (.ret, [(.d (.sl (.int .i64) x0)), (.fn 12 [(.ptr 0 0), (.ptr 1 0)]), .top, .top, (.d (.int .i64 s8)), (.d (.int .i64 s8)), .top, (.d (.int .i64 s7)), (.d (.int .i64 s8)), (.d (.bool (decide (s8 < s7)))), (.d (.int .i64 s8)), (.fn 12 [(.ptr 0 0), (.ptr 1 0)]), (.d (.sl (.int .i64) x0)), (.d (.int .i64 s8)), (.cptr [(.int .i64 (List.getD x0 (Int.toNat s8) 0))] 0), (.d (.int .i64 (List.getD x0 (Int.toNat s8) 0))), (.d (.bool (decide ((List.getD x0 (Int.toNat s8) 0) > x1c1)))), (.d (.int .i64 s8)), .top], [(.cells [(.d (.int .i64 x1c0))]), (.cells [(.d (.int .i64 x1c1))])])
  | _ => (.exit 0, [(.d (.sl (.int .i64) x0)), (.fn 12 [(.ptr 0 0), (.ptr 1 0)]), .top, .top, .top, .top, .top, (.d (.int .i64 s7)), (.d (.int .i64 s8)), (.d (.bool (decide (s8 < s7)))), .top, .top, .top, .top, .top, .top, .top, .top, .top], [(.cells [(.d (.int .i64 x1c0))]), (.cells [(.d (.int .i64 x1c1))])])
noncomputable def lbl15_0 : AC := loopBody 387 body15

set_option maxHeartbeats 20000000 in
theorem l15_0_w0 (m n : Nat) (x0 : List Int) (x1c0 : Int) (x1c1 : Int) (s7 : Int) (s8 : Int) (c0 : decide (s8 < s7) = true) (c1 : decide (0 ≤ s8) = true) (c2 : decide (s8 < (((List.length x0) : Nat) : Int)) = true) (c3 : decide ((List.getD x0 (Int.toNat s8) 0) < x1c0) = true) : (turns (hds 15 387) 2 387 (evC byref (evCall F S6 (m + 24)) (m + 24) 2 (hds 15) lbl15_0) (n + 1) (l15_0H x0 x1c0 x1c1 s7 s8) (l15_0B x0 x1c0 x1c1 s7 s8)).run = some (.ret, [(.d (.sl (.int .i64) x0)), (.fn 12 [(.ptr 0 0), (.ptr 1 0)]), .top, .top, (.d (.int .i64 s8)), (.d (.int .i64 s8)), .top, (.d (.int .i64 s7)), (.d (.int .i64 s8)), (.d (.bool (decide (s8 < s7)))), (.d (.int .i64 s8)), (.fn 12 [(.ptr 0 0), (.ptr 1 0)]), (.d (.sl (.int .i64) x0)), (.d (.int .i64 s8)), (.cptr [(.int .i64 (List.getD x0 (Int.toNat s8) 0))] 0), (.d (.int .i64 (List.getD x0 (Int.toNat s8) 0))), (.d (.bool true)), (.d (.int .i64 s8)), .top], [(.cells [(.d (.int .i64 x1c0))]), (.cells [(.d (.int .i64 x1c1))])]) := by
  exact turns_last (by simp) (M.run_of_path _ [true, true, true, true, true, true, true, true] _ _ (by kernel_rfl) (all_t c0 (all_t c1 (all_t c2 (all_t c3 (all_t c3 (all_t c3 (all_t c3 (all_t rfl all_nil))))))))) 
set_option maxHeartbeats 20000000 in
theorem l15_0_w1 (m n : Nat) (x0 : List Int) (x1c0 : Int) (x1c1 : Int) (s7 : Int) (s8 : Int) (c0 : decide (s8 < s7) = true) (c1 : decide (0 ≤ s8) = true) (c2 : decide (s8 < (((List.length x0) : Nat) : Int)) = true) (c3 : ¬ decide ((List.getD x0 (Int.toNat s8) 0) < x1c0) = true) (c7 : decide ((List.getD x0 (Int.toNat s8) 0) > x1c1) = true) : (turns (hds 15 387) 2 387 (evC byref (evCall F S6 (m + 24)) (m + 24) 2 (hds 15) lbl15_0) (n + 1) (l15_0H x0 x1c0 x1c1 s7 s8) (l15_0B x0 x1c0 x1c1 s7 s8)).run = some (.ret, [(.d (.sl (.int .i64) x0)), (.fn 12 [(.ptr 0 0), (.ptr 1 0)]), .top, .top, (.d (.int .i64 s8)), (.d (.int .i64 s8)), .top, (.d (.int .i64 s7)), (.d (.int .i64 s8)), (.d (.bool (decide (s8 < s7)))), (.d (.int .i64 s8)), (.fn 12 [(.ptr 0 0), (.ptr 1 0)]), (.d (.sl (.int .i64) x0)), (.d (.int .i64 s8)), (.cptr [(.int .i64 (List.getD x0 (Int.toNat s8) 0))] 0), (.d (.int .i64 (List.getD x0 (Int.toNat s8) 0))), (.d (.bool (decide ((List.getD x0 (Int.toNat s8) 0) > x1c1)))), (.d (.int .i64 s8)), .top], [(.cells [(.d (.int .i64 x1c0))]), (.cells [(.d (.int .i64 x1c1))])]) := by
  exact turns_last (by simp) (M.run_of_path _ [true, true, true, false, false, false, false, true] _ _ (by kernel_rfl) (all_t c0 (all_t c1 (all_t c2 (all_f c3 (all_f c3 (all_f c3 (all_f c3 (all_t c7 all_nil))))))))) 
set_option maxHeartbeats 20000000 in
theorem l15_0_w2 (m n : Nat) (x0 : List Int) (x1c0 : Int) (x1c1 : Int) (s7 : Int) (s8 : Int) (r : AEx × Env × Boxes) (c0 : decide (s8 < s7) = true) (c1 : decide (0 ≤ s8) = true) (c2 : decide (s8 < (((List.length x0) : Nat) : Int)) = true) (c3 : ¬ decide ((List.getD x0 (Int.toNat s8) 0) < x1c0) = true) (c7 : ¬ decide ((List.getD x0 (Int.toNat s8) 0) > x1c1) = true) (ih : (turns (hds 15 387) 2 387 (evC byref (evCall F S6 (m + 24)) (m + 24) 2 (hds 15) lbl15_0) n (l15_0H x0 x1c0 x1c1 s7 ((IntKind.wrap .i64 (s8 + (1))))) (l15_0B x0 x1c0 x1c1 s7 ((IntKind.wrap .i64 (s8 + (1)))))).run = some r) : (turns (hds 15 387) 2 387 (evC byref (evCall F S6 (m + 24)) (m + 24) 2 (hds 15) lbl15_0) (n + 1) (l15_0H x0 x1c0 x1c1 s7 s8) (l15_0B x0 x1c0 x1c1 s7 s8)).run = some r := by
  exact turns_step (M.run_of_path _ [true, true, true, false, false, false, false, false] _ _ (by kernel_rfl) (all_t c0 (all_t c1 (all_t c2 (all_f c3 (all_f c3 (all_f c3 (all_f c3 (all_f c7 all_nil))))))))) ih
set_option maxHeartbeats 20000000 in
theorem l15_0_w3 (m n : Nat) (x0 : List Int) (x1c0 : Int) (x1c1 : Int) (s7 : Int) (s8 : Int) (c0 : ¬ decide (s8 < s7) = true) : (turns (hds 15 387) 2 387 (evC byref (evCall F S6 (m + 24)) (m + 24) 2 (hds 15) lbl15_0) (n + 1) (l15_0H x0 x1c0 x1c1 s7 s8) (l15_0B x0 x1c0 x1c1 s7 s8)).run = some (.exit 0, [(.d (.sl (.int .i64) x0)), (.fn 12 [(.ptr 0 0), (.ptr 1 0)]), .top, .top, .top, .top, .top, (.d (.int .i64 s7)), (.d (.int .i64 s8)), (.d (.bool (decide (s8 < s7)))), .top, .top, .top, .top, .top, .top, .top, .top, .top], [(.cells [(.d (.int .i64 x1c0))]), (.cells [(.d (.int .i64 x1c1))])]) := by
  exact turns_last (by simp) (M.run_of_path _ [false] _ _ (by kernel_rfl) (all_f c0 all_nil)) 

set_option maxHeartbeats 20000000 in
theorem l15_0_step (m n : Nat) (ih : ∀ (x0 : List Int) (x1c0 : Int) (x1c1 : Int) (s7 : Int) (s8 : Int) (q : Nat × Int), l15_0 m n x0 x1c0 x1c1 s7 s8 = some q → (turns (hds 15 387) 2 387 (evC byref (evCall F S6 (m + 24)) (m + 24) 2 (hds 15) lbl15_0) n (l15_0H x0 x1c0 x1c1 s7 s8) (l15_0B x0 x1c0 x1c1 s7 s8)).run = some (l15_0E (x0) (x1c0) (x1c1) (s7) (q.2) q.1)) (x0 : List Int) (x1c0 : Int) (x1c1 : Int) (s7 : Int) (s8 : Int) (q : Nat × Int) (h : l15_0 m (n + 1) x0 x1c0 x1c1 s7 s8 = some q) : (turns (hds 15 387) 2 387 (evC byref (evCall F S6 (m + 24)) (m + 24) 2 (hds 15) lbl15_0) (n + 1) (l15_0H x0 x1c0 x1c1 s7 s8) (l15_0B x0 x1c0 x1c1 s7 s8)).run = some (l15_0E (x0) (x1c0) (x1c1) (s7) (q.2) q.1) := by
  rw [l15_0] at h
  refine ite_cases h (fun c0 h => ?_) (fun c0 h => ?_)
  · skip
    refine ite_cases h (fun c1 h => ?_) (fun c1 h => ?_)
    · skip
      refine ite_cases h (fun c2 h => ?_) (fun c2 h => ?_)
      · skip
        refine ite_cases h (fun c3 h => ?_) (fun c3 h => ?_)
        · skip
          cases h
          exact l15_0_w0 m n x0 x1c0 x1c1 s7 s8 c0 c1 c2 c3
        · skip
          refine ite_cases h (fun c7 h => ?_) (fun c7 h => ?_)
          · skip
            cases h
            exact l15_0_w1 m n x0 x1c0 x1c1 s7 s8 c0 c1 c2 c3 c7
          · skip
            exact l15_0_w2 m n x0 x1c0 x1c1 s7 s8 _ c0 c1 c2 c3 c7 (ih _ _ _ _ _ q h)
      · skip
        cases h
    · skip
      cases h
  · skip
    cases h
    exact l15_0_w3 m n x0 x1c0 x1c1 s7 s8 c0
set_option maxHeartbeats 20000000 in
theorem l15_0_ok (m : Nat) : ∀ (n : Nat) (x0 : List Int) (x1c0 : Int) (x1c1 : Int) (s7 : Int) (s8 : Int) (q : Nat × Int), l15_0 m n x0 x1c0 x1c1 s7 s8 = some q → (turns (hds 15 387) 2 387 (evC byref (evCall F S6 (m + 24)) (m + 24) 2 (hds 15) lbl15_0) n (l15_0H x0 x1c0 x1c1 s7 s8) (l15_0B x0 x1c0 x1c1 s7 s8)).run = some (l15_0E (x0) (x1c0) (x1c1) (s7) (q.2) q.1)
  | 0, x0, x1c0, x1c1, s7, s8, q, h => by cases h
  | n + 1, x0, x1c0, x1c1, s7, s8, q, h => l15_0_step m n (l15_0_ok m n) x0 x1c0 x1c1 s7 s8 q h

def p15 (m : Nat) (x0 : List Int) (x1c0 : Int) (x1c1 : Int) : Option (Int × Int × Int) :=
  if (Option.isSome (l15_0 m (m + 24) x0 x1c0 x1c1 ((((List.length x0) : Nat) : Int)) 0)) = true then
    if ((l15_0R m (m + 24) x0 x1c0 x1c1 ((((List.length x0) : Nat) : Int)) 0).1 == 0) = true then
      some ((l15_0R m (m + 24) x0 x1c0 x1c1 ((((List.length x0) : Nat) : Int)) 0).2, x1c0, x1c1)
    else
      if ((l15_0R m (m + 24) x0 x1c0 x1c1 ((((List.length x0) : Nat) : Int)) 0).1 == 1) = true then
        some ((l15_0R m (m + 24) x0 x1c0 x1c1 ((((List.length x0) : Nat) : Int)) 0).2, x1c0, x1c1)
      else
        if ((l15_0R m (m + 24) x0 x1c0 x1c1 ((((List.length x0) : Nat) : Int)) 0).1 == 2) = true then
          some ((-1), x1c0, x1c1)
        else
          none
  else
    none
set_option maxHeartbeats 20000000 in
theorem p15_ok (m : Nat) (x0 : List Int) (x1c0 : Int) (x1c1 : Int) (q : Int × Int × Int) (h : p15 m x0 x1c0 x1c1 = some q) : ∃ r B1, (evCall F S6 (m + 25) 15 [(.d (.sl (.int .i64) x0)), (.fn 12 [(.ptr 0 0), (.ptr 1 0)])] [(.cells [(.d (.int .i64 x1c0))]), (.cells [(.d (.int .i64 x1c1))])]).run = some (r, B1) ∧ 2 ≤ B1.length ∧ wkR B1 [(.cells [(.d (.int .i64 q.2.1))]), (.cells [(.d (.int .i64 q.2.2))])] r (.d (.int .i64 q.1)) ∧ wkBs B1 [(.cells [(.d (.int .i64 q.2.1))]), (.cells [(.d (.int .i64 q.2.2))])] 0 [(.cells [(.d (.int .i64 q.2.1))]), (.cells [(.d (.int .i64 q.2.2))])] := by
  unfold p15 at h
  refine ite_cases h (fun c0 h => ?_) (fun c0 h => ?_)
  · skip
    refine ite_cases h (fun c1 h => ?_) (fun c1 h => ?_)
    · skip
      cases h
      refine ⟨(.d (.int .i64 (l15_0R m (m + 24) x0 x1c0 x1c1 ((((List.length x0) : Nat) : Int)) 0).2)), [(.cells [(.d (.int .i64 x1c0))]), (.cells [(.d (.int .i64 x1c1))])], runT_ok (LS := (fun k => if k = 387 then some (l15_0E x0 x1c0 x1c1 (((((List.length x0) : Nat) : Int))) ((l15_0R m (m + 24) x0 x1c0 x1c1 ((((List.length x0) : Nat) : Int)) 0).2) 0) else none)) (fn := fn15) (vis := [(387, l15_0H x0 x1c0 x1c1 ((((List.length x0) : Nat) : Int)) 0, l15_0B x0 x1c0 x1c1 ((((List.length x0) : Nat) : Int)) 0)]) (by kernel_rfl) rfl (by kernel_rfl) (M.run_of_path _ [] _ _ (by kernel_rfl) all_nil) ?_, by simp, (wkR.one (wkV.one (wk1.eq rfl))), ⟨wkBox.cells (wkL.cons (wk1.eq rfl) wkL.nil), ⟨wkBox.cells (wkL.cons (wk1.eq rfl) wkL.nil), trivial⟩⟩⟩
      intro p hp p2 hq
      rcases List.mem_cons.1 hp with rfl | hp
      · skip
        have h3 := l15_0_ok m (m + 24) x0 x1c0 x1c1 ((((List.length x0) : Nat) : Int)) 0 _ (some_getD (d := l15_0D) c0)
        rw [eq_of_beq c1] at h3
        exact Eq.trans (Eq.mp (by kernel_rfl) h3) hq
      cases hp
    · skip
      refine ite_cases h (fun c2 h => ?_) (fun c2 h => ?_)
      · skip
        cases h
        refine ⟨(.d (.int .i64 (l15_0R m (m + 24) x0 x1c0 x1c1 ((((List.length x0) : Nat) : Int)) 0).2)), [(.cells [(.d (.int .i64 x1c0))]), (.cells [(.d (.int .i64 x1c1))])], runT_ok (LS := (fun k => if k = 387 then some (l15_0E x0 x1c0 x1c1 (((((List.length x0) : Nat) : Int))) ((l15_0R m (m + 24) x0 x1c0 x1c1 ((((List.length x0) : Nat) : Int)) 0).2) 1) else none)) (fn := fn15) (vis := [(387, l15_0H x0 x1c0 x1c1 ((((List.length x0) : Nat) : Int)) 0, l15_0B x0 x1c0 x1c1 ((((List.length x0) : Nat) : Int)) 0)]) (by kernel_rfl) rfl (by kernel_rfl) (M.run_of_path _ [] _ _ (by kernel_rfl) all_nil) ?_, by simp, (wkR.one (wkV.one (wk1.eq rfl))), ⟨wkBox.cells (wkL.cons (wk1.eq rfl) wkL.nil), ⟨wkBox.cells (wkL.cons (wk1.eq rfl) wkL.nil), trivial⟩⟩⟩
        intro p hp p2 hq
        rcases List.mem_cons.1 hp with rfl | hp
        · skip
          have h3 := l15_0_ok m (m + 24) x0 x1c0 x1c1 ((((List.length x0) : Nat) : Int)) 0 _ (some_getD (d := l15_0D) c0)
          rw [eq_of_beq c2] at h3
          exact Eq.trans (Eq.mp (by kernel_rfl) h3) hq
        cases hp
      · skip
        refine ite_cases h (fun c3 h => ?_) (fun c3 h => ?_)
        · skip
          cases h
          refine ⟨(.d (.int .i64 (-1))), [(.cells [(.d (.int .i64 x1c0))]), (.cells [(.d (.int .i64 x1c1))])], runT_ok (LS := (fun k => if k = 387 then some (l15_0E x0 x1c0 x1c1 (((((List.length x0) : Nat) : Int))) ((l15_0R m (m + 24) x0 x1c0 x1c1 ((((List.length x0) : Nat) : Int)) 0).2) 2) else none)) (fn := fn15) (vis := [(387, l15_0H x0 x1c0 x1c1 ((((List.length x0) : Nat) : Int)) 0, l15_0B x0 x1c0 x1c1 ((((List.length x0) : Nat) : Int)) 0)]) (by kernel_rfl) rfl (by kernel_rfl) (M.run_of_path _ [] _ _ (by kernel_rfl) all_nil) ?_, by simp, (wkR.one (wkV.one (wk1.eq rfl))), ⟨wkBox.cells (wkL.cons (wk1.eq rfl) wkL.nil), ⟨wkBox.cells (wkL.cons (wk1.eq rfl) wkL.nil), trivial⟩⟩⟩
          intro p hp p2 hq
          rcases List.mem_cons.1 hp with rfl | hp
          · skip
            have h3 := l15_0_ok m (m + 24) x0 x1c0 x1c1 ((((List.length x0) : Nat) : Int)) 0 _ (some_getD (d := l15_0D) c0)
            rw [eq_of_beq c3] at h3
            exact Eq.trans (Eq.mp (by kernel_rfl) h3) hq
          cases hp
        · skip
          cases h
  · skip
    cases h

def inB (a b t : Int) : Bool := decide (a ≤ t) && decide (t ≤ b)
/-- How many at the beginning are within. -/
def inN (l : List Int) (a b : Int) : Nat := (l.takeWhile (inB a b)).length
/-- The place of the first that is not within. -/
def idxG (l : List Int) (a b : Int) : Int := if inN l a b < l.length then (inN l a b : Nat) else -1
theorem inN_cons (x : Int) (l : List Int) (a b : Int) : inN (x :: l) a b = if inB a b x = true then inN l a b + 1 else 0 := by
  unfold inN
  by_cases h : inB a b x = true
  · rw [List.takeWhile_cons_of_pos h, if_pos h]; rfl
  · rw [List.takeWhile_cons_of_neg h, if_neg h]; rfl
theorem inN_le (l : List Int) (a b : Int) : inN l a b ≤ l.length := (List.takeWhile_sublist _).length_le
theorem idx_loop (m : Nat) (l : List Int) (a b : Int) (hb : l.length ≤ 1000000) : ∀ (n k : Nat), k ≤ l.length → l.length - k < n →
    ∃ e, l15_0 m n l a b ((l.length : Nat) : Int) (k : Nat) = some (e, ((k + inN (l.drop k) a b : Nat) : Int)) ∧ ((k + inN (l.drop k) a b < l.length ∧ (e = 0 ∨ e = 1)) ∨ (k + inN (l.drop k) a b = l.length ∧ e = 2))
  | 0, k, _, h => by omega
  | n + 1, k, h1, h2 => by
    rw [l15_0]
    by_cases hk : k < l.length
    · have e1 : decide (((k : Nat) : Int) < (((List.length l) : Nat) : Int)) = true := decide_eq_true (by omega)
      have e2 : decide ((0 : Int) ≤ ((k : Nat) : Int)) = true := decide_eq_true (by omega)
      have e7 : IntKind.wrap .i64 (((k : Nat) : Int) + (1)) = ((k + 1 : Nat) : Int) := by rw [wrap_id (by omega) (by omega)]; rfl
      rw [drop_getD l k 0 hk, inN_cons, Int.toNat_natCast, e7, if_pos e1, if_pos e2, if_pos e1]
      generalize l.getD k 0 = x
      by_cases c1 : x < a
      · have hf : ¬ inB a b x = true := by unfold inB; simp; omega
        rw [if_neg hf]
        exact ⟨0, by rw [if_pos (decide_eq_true c1)]; rfl, .inl ⟨hk, .inl rfl⟩⟩
      · by_cases c2 : x > b
        · have hf : ¬ inB a b x = true := by unfold inB; simp; omega
          rw [if_neg hf]
          exact ⟨1, by rw [if_neg (by simpa using c1), if_pos (decide_eq_true c2)]; rfl, .inl ⟨hk, .inr rfl⟩⟩
        · have hf : inB a b x = true := by unfold inB; simp; omega
          rw [if_pos hf]
          obtain ⟨e, hr, he⟩ := idx_loop m l a b hb n (k + 1) (by omega) (by omega)
          have es : k + 1 + inN (l.drop (k + 1)) a b = k + (inN (l.drop (k + 1)) a b + 1) := by omega
          rw [es] at hr he
          exact ⟨e, by rw [if_neg (by simpa using c1), if_neg (by simpa using c2)]; exact hr, he⟩
    · have e1 : decide (((k : Nat) : Int) < (((List.length l) : Nat) : Int)) = false := decide_eq_false (by omega)
      simp only [e1, ↓reduceIte, Bool.false_eq_true]
      rw [List.drop_eq_nil_of_le (by omega)]
      exact ⟨2, rfl, .inr ⟨by show k + 0 = _; omega, rfl⟩⟩
theorem idx15 (l : List Int) (a b : Int) (h : decide (l.length ≤ 1000000) = true) : ∃ m, p15 m l a b = some (idxG l a b, a, b) := by
  refine ⟨l.length, ?_⟩
  obtain ⟨e, hr, he⟩ := idx_loop l.length l a b (of_decide_eq_true h) (l.length + 24) 0 (by omega) (by omega)
  simp only [Int.natCast_zero, List.drop_zero, Nat.zero_add] at hr he
  unfold p15 l15_0R idxG
  rw [hr]
  rcases he with ⟨h1, rfl | rfl⟩ | ⟨h1, rfl⟩
  · rw [if_pos h1]; simp
  · rw [if_pos h1]; simp
  · have hn : ¬ inN l a b < l.length := by omega
    simp [hn]
def s15 : List AV → Boxes → M (AV × Boxes) := normS [.val (.sl (.int .i64)), .ptr] [(.int .i64), (.int .i64)] fun xs B => match xs, B with
  | [(.d (.sl (.int .i64) c1)), (.fn 12 [(.ptr 0 0), (.ptr 1 0)])], [(.cells [(.d (.int .i64 c2))]), (.cells [(.d (.int .i64 c3))])] => .chk (decide (List.length c1 ≤ 1000000)) (.ret ((.d (.int .i64 (idxG c1 c2 c3))), [(.cells [(.d (.int .i64 c2))]), (.cells [(.d (.int .i64 c3))])]))
  | _, _ => .fail
theorem s15_at : CallAt Try.prog 15 s15 := by
  refine CallAt.norm (CallAt.weakE (g := fun n => evCall F S6 n 15) (fun n => evCall_atH mixed kinds hds S6 S6_ok n 15) fun xs B r' B' hr => ?_) _ _
  split at hr
  · rename_i c1 c2 c3
    obtain ⟨hp, hr⟩ := (M.run_chk _ _ _).1 hr
    simp only [M.run, Option.some.injEq, Prod.mk.injEq] at hr
    obtain ⟨rfl, rfl⟩ := hr
    obtain ⟨m, hm⟩ := idx15 c1 c2 c3 hp
    obtain ⟨r, B1, h1, h2, h3, h4⟩ := p15_ok m c1 c2 c3 _ hm
    exact ⟨m + 25, r, B1, h1, by simp, h2, h3, h4⟩
  · simp [M.run] at hr
noncomputable def S7 : FuncId → Option (List AV → Boxes → M (AV × Boxes)) := fun f => if f = 15 then some s15 else S6 f
set_option maxHeartbeats 20000000 in
theorem S7_ok : ∀ f s, S7 f = some s → CallAt Try.prog f s := by
  intro f s h
  unfold S7 at h
  split at h
  · rename_i e; subst e; cases h; exact s15_at
  · exact S6_ok f s h

noncomputable def fn11 : AFn := (F 11).getD ⟨0, [], .bad, false, false, noHd⟩
noncomputable def body11 : AC := fn11.body
def l11_0 (m : Nat) : Nat → Int → Int → Int → Int → List Int → Option (Nat × Int × Int × (List Int))
  | 0, _, _, _, _, _ => none
  | n + 1, x1, x2, s5, s6, b0 => if decide (s6 < (((List.length b0) : Nat) : Int)) = true then
      if decide (0 ≤ s6) = true then
        if decide ((0 + (Int.toNat s6)) < (List.length b0)) = true then
          if decide ((List.getD b0 (0 + (Int.toNat s6)) 0) < x1) = true then
            l11_0 m n x1 x2 s5 ((IntKind.wrap .i64 (s6 + (1)))) b0
          else
            if decide ((List.getD b0 (0 + (Int.toNat s6)) 0) > x2) = true then
              l11_0 m n x1 x2 s5 ((IntKind.wrap .i64 (s6 + (1)))) b0
            else
              if decide (0 ≤ s5) = true then
                if decide (s5 < (((List.length b0) : Nat) : Int)) = true then
                  if decide ((0 + (Int.toNat s5)) < (List.length b0)) = true then
                    l11_0 m n x1 x2 ((IntKind.wrap .i64 (s5 + (1)))) ((IntKind.wrap .i64 (s6 + (1)))) ((List.set b0 (0 + (Int.toNat s5)) (List.getD b0 (0 + (Int.toNat s6)) 0)))
                  else
                    none
                else
                  none
              else
                none
        else
          none
      else
        none
    else
      some (0, s5, s6, b0)
def l11_0D : Nat × Int × Int × (List Int) := (0, 0, 0, [])
@[reducible] def l11_0R (m n : Nat) (x1 : Int) (x2 : Int) (s5 : Int) (s6 : Int) (b0 : List Int) : Nat × Int × Int × (List Int) := Option.getD (l11_0 m n x1 x2 s5 s6 b0) l11_0D
def l11_0H (x1 : Int) (x2 : Int) (s5 : Int) (s6 : Int) (b0 : List Int) : Env := [(.sr 0 0 (List.length b0) 1 none), (.fn 12 [(.ptr 1 0), (.ptr 2 0)]), .top, .top, .top, (.d (.int .i64 s5)), (.d (.int .i64 s6)), .top, .top, .top, .top, .top, .top, .top, .top, .top, .top, .top, .top, .top, .top, .top, .top, .top, .top, .top, .top, .top, .top, .top, .top, .top, .top, .top, .top, .top, .top, .top, .top, .top, .top, .top]
def l11_0B (x1 : Int) (x2 : Int) (s5 : Int) (s6 : Int) (b0 : List Int) : Boxes := [(.arr (.int .i64) b0 true), (.cells [(.d (.int .i64 x1))]), (.cells [(.d (.int .i64 x2))])]
def l11_0E (x1 : Int) (x2 : Int) (s5 : Int) (s6 : Int) (b0 : List Int) : Nat → AEx × Env × Boxes
  | _ => (.exit 0, [(.sr 0 0 (List.length b0) 1 none), (.fn 12 [(.ptr 1 0), (.ptr 2 0)]), .top, .top, .top, (.d (.int .i64 s5)), (.d (.int .i64 s6)), .top, .top, .top, .top, .top, .top, .top, .top, .top, (.d (.int .i64 s6)), (.sr 0 0 (List.length b0) 1 none), (.d (.int .i64 (((List.length b0) : Nat) : Int))), (.d (.bool (decide (s6 < (((List.length b0) : Nat) : Int))))), .top, .top, .top, .top, .top, .top, .top, .top, .top, .top, .top, .top, .top, .top, .top, .top, .top, .top, .top, .top, .top, .top], [(.arr (.int .i64) b0 true), (.cells [(.d (.int .i64 x1))]), (.cells [(.d (.int .i64 x2))])])
noncomputable def lbl11_0 : AC := loopBody 99 body11

set_option maxHeartbeats 20000000 in
theorem l11_0_w0 (m n : Nat) (x1 : Int) (x2 : Int) (s5 : Int) (s6 : Int) (b0 : List Int) (r : AEx × Env × Boxes) (c0 : decide (s6 < (((List.length b0) : Nat) : Int)) = true) (c1 : decide (0 ≤ s6) = true) (c3 : decide ((0 + (Int.toNat s6)) < (List.length b0)) = true) (c4 : decide ((List.getD b0 (0 + (Int.toNat s6)) 0) < x1) = true) (ih : (turns (hds 11 99) 3 99 (evC byref (evCall F S7 (m + 24)) (m + 24) 3 (hds 11) lbl11_0) n (l11_0H x1 x2 s5 ((IntKind.wrap .i64 (s6 + (1)))) b0) (l11_0B x1 x2 s5 ((IntKind.wrap .i64 (s6 + (1)))) b0)).run = some r) : (turns (hds 11 99) 3 99 (evC byref (evCall F S7 (m + 24)) (m + 24) 3 (hds 11) lbl11_0) (n + 1) (l11_0H x1 x2 s5 s6 b0) (l11_0B x1 x2 s5 s6 b0)).run = some r := by
  exact turns_step (M.run_of_path _ [true, true, true, true, true, true, true, true, false] _ _ (by kernel_rfl) (all_t c0 (all_t c1 (all_t c0 (all_t c3 (all_t c4 (all_t c4 (all_t c4 (all_t c4 (all_f Bool.false_ne_true all_nil)))))))))) ih
set_option maxHeartbeats 20000000 in
theorem l11_0_w1 (m n : Nat) (x1 : Int) (x2 : Int) (s5 : Int) (s6 : Int) (b0 : List Int) (r : AEx × Env × Boxes) (c0 : decide (s6 < (((List.length b0) : Nat) : Int)) = true) (c1 : decide (0 ≤ s6) = true) (c3 : decide ((0 + (Int.toNat s6)) < (List.length b0)) = true) (c4 : ¬ decide ((List.getD b0 (0 + (Int.toNat s6)) 0) < x1) = true) (c8 : decide ((List.getD b0 (0 + (Int.toNat s6)) 0) > x2) = true) (ih : (turns (hds 11 99) 3 99 (evC byref (evCall F S7 (m + 24)) (m + 24) 3 (hds 11) lbl11_0) n (l11_0H x1 x2 s5 ((IntKind.wrap .i64 (s6 + (1)))) b0) (l11_0B x1 x2 s5 ((IntKind.wrap .i64 (s6 + (1)))) b0)).run = some r) : (turns (hds 11 99) 3 99 (evC byref (evCall F S7 (m + 24)) (m + 24) 3 (hds 11) lbl11_0) (n + 1) (l11_0H x1 x2 s5 s6 b0) (l11_0B x1 x2 s5 s6 b0)).run = some r := by
  exact turns_step (M.run_of_path _ [true, true, true, true, false, false, false, false, false] _ _ (by kernel_rfl) (all_t c0 (all_t c1 (all_t c0 (all_t c3 (all_f c4 (all_f c4 (all_f c4 (all_f c4 (all_nt c8 all_nil)))))))))) ih
set_option maxHeartbeats 20000000 in
theorem l11_0_w2 (m n : Nat) (x1 : Int) (x2 : Int) (s5 : Int) (s6 : Int) (b0 : List Int) (r : AEx × Env × Boxes) (c0 : decide (s6 < (((List.length b0) : Nat) : Int)) = true) (c1 : decide (0 ≤ s6) = true) (c3 : decide ((0 + (Int.toNat s6)) < (List.length b0)) = true) (c4 : ¬ decide ((List.getD b0 (0 + (Int.toNat s6)) 0) < x1) = true) (c8 : ¬ decide ((List.getD b0 (0 + (Int.toNat s6)) 0) > x2) = true) (c9 : decide (0 ≤ s5) = true) (c10 : decide (s5 < (((List.length b0) : Nat) : Int)) = true) (c11 : decide ((0 + (Int.toNat s5)) < (List.length b0)) = true) (ih : (turns (hds 11 99) 3 99 (evC byref (evCall F S7 (m + 24)) (m + 24) 3 (hds 11) lbl11_0) n (l11_0H x1 x2 ((IntKind.wrap .i64 (s5 + (1)))) ((IntKind.wrap .i64 (s6 + (1)))) ((List.set b0 (0 + (Int.toNat s5)) (List.getD b0 (0 + (Int.toNat s6)) 0)))) (l11_0B x1 x2 ((IntKind.wrap .i64 (s5 + (1)))) ((IntKind.wrap .i64 (s6 + (1)))) ((List.set b0 (0 + (Int.toNat s5)) (List.getD b0 (0 + (Int.toNat s6)) 0))))).run = some r) : (turns (hds 11 99) 3 99 (evC byref (evCall F S7 (m + 24)) (m + 24) 3 (hds 11) lbl11_0) (n + 1) (l11_0H x1 x2 s5 s6 b0) (l11_0B x1 x2 s5 s6 b0)).run = some r := by
  have ht : (turn (hds 11 99) 3 99 (evC byref (evCall F S7 (m + 24)) (m + 24) 3 (hds 11) lbl11_0) (l11_0H x1 x2 s5 s6 b0) (l11_0B x1 x2 s5 s6 b0)).run = some (.normal, [(.sr 0 0 (List.length b0) 1 none), (.fn 12 [(.ptr 1 0), (.ptr 2 0)]), .top, .top, .top, (.d (.int .i64 (IntKind.wrap .i64 (s5 + (1))))), (.d (.int .i64 (IntKind.wrap .i64 (s6 + (1))))), .top, .top, .top, .top, .top, .top, .top, .top, .top, .top, .top, .top, .top, .top, .top, .top, .top, .top, .top, .top, .top, .top, .top, .top, .top, .top, .top, .top, .top, .top, .top, .top, .top, .top, .top], [(.arr (.int .i64) (List.set b0 (0 + (Int.toNat s5)) (List.getD b0 (0 + (Int.toNat s6)) 0)) true), (.cells [(.d (.int .i64 x1))]), (.cells [(.d (.int .i64 x2))])]) := M.run_of_path _ [true, true, true, true, false, false, false, false, true, true, true, true] _ _ (by kernel_rfl) (all_t c0 (all_t c1 (all_t c0 (all_t c3 (all_f c4 (all_f c4 (all_f c4 (all_f c4 (all_nf c8 (all_t c9 (all_t c10 (all_t c11 all_nil))))))))))))
  refine turns_step ht (turns_eq ?_ ?_ ih)
  · unfold l11_0H
    first | (simp; done) | (simp [Nat.add_assoc]; done) | (simp; omega)
  · unfold l11_0B
    simp
set_option maxHeartbeats 20000000 in
theorem l11_0_w3 (m n : Nat) (x1 : Int) (x2 : Int) (s5 : Int) (s6 : Int) (b0 : List Int) (c0 : ¬ decide (s6 < (((List.length b0) : Nat) : Int)) = true) : (turns (hds 11 99) 3 99 (evC byref (evCall F S7 (m + 24)) (m + 24) 3 (hds 11) lbl11_0) (n + 1) (l11_0H x1 x2 s5 s6 b0) (l11_0B x1 x2 s5 s6 b0)).run = some (.exit 0, [(.sr 0 0 (List.length b0) 1 none), (.fn 12 [(.ptr 1 0), (.ptr 2 0)]), .top, .top, .top, (.d (.int .i64 s5)), (.d (.int .i64 s6)), .top, .top, .top, .top, .top, .top, .top, .top, .top, (.d (.int .i64 s6)), (.sr 0 0 (List.length b0) 1 none), (.d (.int .i64 (((List.length b0) : Nat) : Int))), (.d (.bool (decide (s6 < (((List.length b0) : Nat) : Int))))), .top, .top, .top, .top, .top, .top, .top, .top, .top, .top, .top, .top, .top, .top, .top, .top, .top, .top, .top, .top, .top, .top], [(.arr (.int .i64) b0 true), (.cells [(.d (.int .i64 x1))]), (.cells [(.d (.int .i64 x2))])]) := by
  exact turns_last (by simp) (M.run_of_path _ [false] _ _ (by kernel_rfl) (all_f c0 all_nil)) 

set_option maxHeartbeats 20000000 in
theorem l11_0_step (m n : Nat) (ih : ∀ (x1 : Int) (x2 : Int) (s5 : Int) (s6 : Int) (b0 : List Int) (q : Nat × Int × Int × (List Int)), l11_0 m n x1 x2 s5 s6 b0 = some q → (turns (hds 11 99) 3 99 (evC byref (evCall F S7 (m + 24)) (m + 24) 3 (hds 11) lbl11_0) n (l11_0H x1 x2 s5 s6 b0) (l11_0B x1 x2 s5 s6 b0)).run = some (l11_0E (x1) (x2) (q.2.1) (q.2.2.1) (q.2.2.2) q.1)) (x1 : Int) (x2 : Int) (s5 : Int) (s6 : Int) (b0 : List Int) (q : Nat × Int × Int × (List Int)) (h : l11_0 m (n + 1) x1 x2 s5 s6 b0 = some q) : (turns (hds 11 99) 3 99 (evC byref (evCall F S7 (m + 24)) (m + 24) 3 (hds 11) lbl11_0) (n + 1) (l11_0H x1 x2 s5 s6 b0) (l11_0B x1 x2 s5 s6 b0)).run = some (l11_0E (x1) (x2) (q.2.1) (q.2.2.1) (q.2.2.2) q.1) := by
  rw [l11_0] at h
  refine ite_cases h (fun c0 h => ?_) (fun c0 h => ?_)
  · skip
    refine ite_cases h (fun c1 h => ?_) (fun c1 h => ?_)
    · skip
      refine ite_cases h (fun c3 h => ?_) (fun c3 h => ?_)
      · skip
        refine ite_cases h (fun c4 h => ?_) (fun c4 h => ?_)
        · skip
          exact l11_0_w0 m n x1 x2 s5 s6 b0 _ c0 c1 c3 c4 (ih _ _ _ _ _ q h)
        · skip
          refine ite_cases h (fun c8 h => ?_) (fun c8 h => ?_)
          · skip
            exact l11_0_w1 m n x1 x2 s5 s6 b0 _ c0 c1 c3 c4 c8 (ih _ _ _ _ _ q h)
          · skip
            refine ite_cases h (fun c9 h => ?_) (fun c9 h => ?_)
            · skip
              refine ite_cases h (fun c10 h => ?_) (fun c10 h => ?_)
              · skip
                refine ite_cases h (fun c11 h => ?_) (fun c11 h => ?_)
                · skip
                  exact l11_0_w2 m n x1 x2 s5 s6 b0 _ c0 c1 c3 c4 c8 c9 c10 c11 (ih _ _ _ _ _ q h)
                · skip
                  cases h
              · skip
                cases h
            · skip
              cases h
      · skip
        cases h
    · skip
      cases h
  · skip
    cases h
    exact l11_0_w3 m n x1 x2 s5 s6 b0 c0
set_option maxHeartbeats 20000000 in
theorem l11_0_ok (m : Nat) : ∀ (n : Nat) (x1 : Int) (x2 : Int) (s5 : Int) (s6 : Int) (b0 : List Int) (q : Nat × Int × Int × (List Int)), l11_0 m n x1 x2 s5 s6 b0 = some q → (turns (hds 11 99) 3 99 (evC byref (evCall F S7 (m + 24)) (m + 24) 3 (hds 11) lbl11_0) n (l11_0H x1 x2 s5 s6 b0) (l11_0B x1 x2 s5 s6 b0)).run = some (l11_0E (x1) (x2) (q.2.1) (q.2.2.1) (q.2.2.2) q.1)
  | 0, x1, x2, s5, s6, b0, q, h => by cases h
  | n + 1, x1, x2, s5, s6, b0, q, h => l11_0_step m n (l11_0_ok m n) x1 x2 s5 s6 b0 q h

def p11 (m : Nat) (x0 : List Int) (x1 : Int) (x2 : Int) : Option (AV × Boxes) :=
  if decide (List.length (List.take (List.length x0) (List.drop 0 x0)) ≤ 1000000) = true then
    if ((idxG (List.take (List.length x0) (List.drop 0 x0)) x1 x2) == (-1)) = true then
      some ((.d (.sl (.int .i64) (List.take (List.length x0) (List.drop 0 x0)))), [(.arr (.int .i64) x0 false), (.cells [(.d (.int .i64 x1))]), (.cells [(.d (.int .i64 x2))])])
    else
      if (Option.isSome (l11_0 m (m + 24) x1 x2 ((idxG (List.take (List.length x0) (List.drop 0 x0)) x1 x2)) ((IntKind.wrap .i64 ((idxG (List.take (List.length x0) (List.drop 0 x0)) x1 x2) + (1)))) x0)) = true then
        if (decide (0 ≤ (l11_0R m (m + 24) x1 x2 ((idxG (List.take (List.length x0) (List.drop 0 x0)) x1 x2)) ((IntKind.wrap .i64 ((idxG (List.take (List.length x0) (List.drop 0 x0)) x1 x2) + (1)))) x0).2.1) && decide ((l11_0R m (m + 24) x1 x2 ((idxG (List.take (List.length x0) (List.drop 0 x0)) x1 x2)) ((IntKind.wrap .i64 ((idxG (List.take (List.length x0) (List.drop 0 x0)) x1 x2) + (1)))) x0).2.1 ≤ (((List.length (l11_0R m (m + 24) x1 x2 ((idxG (List.take (List.length x0) (List.drop 0 x0)) x1 x2)) ((IntKind.wrap .i64 ((idxG (List.take (List.length x0) (List.drop 0 x0)) x1 x2) + (1)))) x0).2.2.2) : Nat) : Int))) = true then
          if (decide ((Int.toNat (l11_0R m (m + 24) x1 x2 ((idxG (List.take (List.length x0) (List.drop 0 x0)) x1 x2)) ((IntKind.wrap .i64 ((idxG (List.take (List.length x0) (List.drop 0 x0)) x1 x2) + (1)))) x0).2.1) < (List.length (l11_0R m (m + 24) x1 x2 ((idxG (List.take (List.length x0) (List.drop 0 x0)) x1 x2)) ((IntKind.wrap .i64 ((idxG (List.take (List.length x0) (List.drop 0 x0)) x1 x2) + (1)))) x0).2.2.2)) || decide ((Int.toNat (l11_0R m (m + 24) x1 x2 ((idxG (List.take (List.length x0) (List.drop 0 x0)) x1 x2)) ((IntKind.wrap .i64 ((idxG (List.take (List.length x0) (List.drop 0 x0)) x1 x2) + (1)))) x0).2.1) = 0)) = true then
            if decide (((0 + (Int.toNat (l11_0R m (m + 24) x1 x2 ((idxG (List.take (List.length x0) (List.drop 0 x0)) x1 x2)) ((IntKind.wrap .i64 ((idxG (List.take (List.length x0) (List.drop 0 x0)) x1 x2) + (1)))) x0).2.1)) + ((List.length (l11_0R m (m + 24) x1 x2 ((idxG (List.take (List.length x0) (List.drop 0 x0)) x1 x2)) ((IntKind.wrap .i64 ((idxG (List.take (List.length x0) (List.drop 0 x0)) x1 x2) + (1)))) x0).2.2.2) - (Int.toNat (l11_0R m (m + 24) x1 x2 ((idxG (List.take (List.length x0) (List.drop 0 x0)) x1 x2)) ((IntKind.wrap .i64 ((idxG (List.take (List.length x0) (List.drop 0 x0)) x1 x2) + (1)))) x0).2.1))) ≤ (List.length (l11_0R m (m + 24) x1 x2 ((idxG (List.take (List.length x0) (List.drop 0 x0)) x1 x2)) ((IntKind.wrap .i64 ((idxG (List.take (List.length x0) (List.drop 0 x0)) x1 x2) + (1)))) x0).2.2.2)) = true then
              if decide ((0 + ((Int.toNat (l11_0R m (m + 24) x1 x2 ((idxG (List.take (List.length x0) (List.drop 0 x0)) x1 x2)) ((IntKind.wrap .i64 ((idxG (List.take (List.length x0) (List.drop 0 x0)) x1 x2) + (1)))) x0).2.1) - 0)) ≤ (List.length (splice (l11_0R m (m + 24) x1 x2 ((idxG (List.take (List.length x0) (List.drop 0 x0)) x1 x2)) ((IntKind.wrap .i64 ((idxG (List.take (List.length x0) (List.drop 0 x0)) x1 x2) + (1)))) x0).2.2.2 (0 + (Int.toNat (l11_0R m (m + 24) x1 x2 ((idxG (List.take (List.length x0) (List.drop 0 x0)) x1 x2)) ((IntKind.wrap .i64 ((idxG (List.take (List.length x0) (List.drop 0 x0)) x1 x2) + (1)))) x0).2.1)) (List.replicate ((List.length (l11_0R m (m + 24) x1 x2 ((idxG (List.take (List.length x0) (List.drop 0 x0)) x1 x2)) ((IntKind.wrap .i64 ((idxG (List.take (List.length x0) (List.drop 0 x0)) x1 x2) + (1)))) x0).2.2.2) - (Int.toNat (l11_0R m (m + 24) x1 x2 ((idxG (List.take (List.length x0) (List.drop 0 x0)) x1 x2)) ((IntKind.wrap .i64 ((idxG (List.take (List.length x0) (List.drop 0 x0)) x1 x2) + (1)))) x0).2.1)) (0 : Int))))) = true then
                some ((.d (.sl (.int .i64) (List.take ((Int.toNat (l11_0R m (m + 24) x1 x2 ((idxG (List.take (List.length x0) (List.drop 0 x0)) x1 x2)) ((IntKind.wrap .i64 ((idxG (List.take (List.length x0) (List.drop 0 x0)) x1 x2) + (1)))) x0).2.1) - 0) (List.drop 0 (splice (l11_0R m (m + 24) x1 x2 ((idxG (List.take (List.length x0) (List.drop 0 x0)) x1 x2)) ((IntKind.wrap .i64 ((idxG (List.take (List.length x0) (List.drop 0 x0)) x1 x2) + (1)))) x0).2.2.2 (0 + (Int.toNat (l11_0R m (m + 24) x1 x2 ((idxG (List.take (List.length x0) (List.drop 0 x0)) x1 x2)) ((IntKind.wrap .i64 ((idxG (List.take (List.length x0) (List.drop 0 x0)) x1 x2) + (1)))) x0).2.1)) (List.replicate ((List.length (l11_0R m (m + 24) x1 x2 ((idxG (List.take (List.length x0) (List.drop 0 x0)) x1 x2)) ((IntKind.wrap .i64 ((idxG (List.take (List.length x0) (List.drop 0 x0)) x1 x2) + (1)))) x0).2.2.2) - (Int.toNat (l11_0R m (m + 24) x1 x2 ((idxG (List.take (List.length x0) (List.drop 0 x0)) x1 x2)) ((IntKind.wrap .i64 ((idxG (List.take (List.length x0) (List.drop 0 x0)) x1 x2) + (1)))) x0).2.1)) (0 : Int))))))), [(.arr (.int .i64) (splice (l11_0R m (m + 24) x1 x2 ((idxG (List.take (List.length x0) (List.drop 0 x0)) x1 x2)) ((IntKind.wrap .i64 ((idxG (List.take (List.length x0) (List.drop 0 x0)) x1 x2) + (1)))) x0).2.2.2 (0 + (Int.toNat (l11_0R m (m + 24) x1 x2 ((idxG (List.take (List.length x0) (List.drop 0 x0)) x1 x2)) ((IntKind.wrap .i64 ((idxG (List.take (List.length x0) (List.drop 0 x0)) x1 x2) + (1)))) x0).2.1)) (List.replicate ((List.length (l11_0R m (m + 24) x1 x2 ((idxG (List.take (List.length x0) (List.drop 0 x0)) x1 x2)) ((IntKind.wrap .i64 ((idxG (List.take (List.length x0) (List.drop 0 x0)) x1 x2) + (1)))) x0).2.2.2) - (Int.toNat (l11_0R m (m + 24) x1 x2 ((idxG (List.take (List.length x0) (List.drop 0 x0)) x1 x2)) ((IntKind.wrap .i64 ((idxG (List.take (List.length x0) (List.drop 0 x0)) x1 x2) + (1)))) x0).2.1)) (0 : Int))) false), (.cells [(.d (.int .i64 x1))]), (.cells [(.d (.int .i64 x2))])])
              else
                none
            else
              none
          else
            none
        else
          none
      else
        none
  else
    none
set_option maxHeartbeats 20000000 in
theorem p11_ok (m : Nat) (x0 : List Int) (x1 : Int) (x2 : Int) (q : AV × Boxes) (h : p11 m x0 x1 x2 = some q) : (evCall F S7 (m + 25) 11 [(.sr 0 0 (List.length x0) 1 none), (.fn 12 [(.ptr 1 0), (.ptr 2 0)])] [(.arr (.int .i64) x0 true), (.cells [(.d (.int .i64 x1))]), (.cells [(.d (.int .i64 x2))])]).run = some q := by
  unfold p11 at h
  refine ite_cases h (fun c1 h => ?_) (fun c1 h => ?_)
  · skip
    refine ite_cases h (fun c2 h => ?_) (fun c2 h => ?_)
    · skip
      cases h
      refine runT_ok (LS := (fun k => none)) (fn := fn11) (r := (.d (.sl (.int .i64) (List.take (List.length x0) (List.drop 0 x0))))) (B' := [(.arr (.int .i64) x0 false), (.cells [(.d (.int .i64 x1))]), (.cells [(.d (.int .i64 x2))])]) (vis := []) (by kernel_rfl) rfl (by kernel_rfl) (M.run_of_path _ [true, true, true, true] _ _ (by kernel_rfl) (all_t (show decide ((0 + (List.length x0)) ≤ (List.length x0)) = true from decide_eq_true (Nat.le_of_eq (Nat.zero_add _))) (all_t c1 (all_t c2 (all_t (show decide ((0 + (List.length x0)) ≤ (List.length x0)) = true from decide_eq_true (Nat.le_of_eq (Nat.zero_add _))) all_nil))))) ?_
      intro p hp; cases hp
    · skip
      refine ite_cases h (fun c3 h => ?_) (fun c3 h => ?_)
      · skip
        refine ite_cases h (fun c4 h => ?_) (fun c4 h => ?_)
        · skip
          refine ite_cases h (fun c5 h => ?_) (fun c5 h => ?_)
          · skip
            refine ite_cases h (fun c6 h => ?_) (fun c6 h => ?_)
            · skip
              refine ite_cases h (fun c9 h => ?_) (fun c9 h => ?_)
              · skip
                cases h
                refine runT_ok (LS := (fun k => if k = 99 then some (l11_0E x1 x2 ((l11_0R m (m + 24) x1 x2 ((idxG (List.take (List.length x0) (List.drop 0 x0)) x1 x2)) ((IntKind.wrap .i64 ((idxG (List.take (List.length x0) (List.drop 0 x0)) x1 x2) + (1)))) x0).2.1) ((l11_0R m (m + 24) x1 x2 ((idxG (List.take (List.length x0) (List.drop 0 x0)) x1 x2)) ((IntKind.wrap .i64 ((idxG (List.take (List.length x0) (List.drop 0 x0)) x1 x2) + (1)))) x0).2.2.1) ((l11_0R m (m + 24) x1 x2 ((idxG (List.take (List.length x0) (List.drop 0 x0)) x1 x2)) ((IntKind.wrap .i64 ((idxG (List.take (List.length x0) (List.drop 0 x0)) x1 x2) + (1)))) x0).2.2.2) 0) else none)) (fn := fn11) (r := (.d (.sl (.int .i64) (List.take ((Int.toNat (l11_0R m (m + 24) x1 x2 ((idxG (List.take (List.length x0) (List.drop 0 x0)) x1 x2)) ((IntKind.wrap .i64 ((idxG (List.take (List.length x0) (List.drop 0 x0)) x1 x2) + (1)))) x0).2.1) - 0) (List.drop 0 (splice (l11_0R m (m + 24) x1 x2 ((idxG (List.take (List.length x0) (List.drop 0 x0)) x1 x2)) ((IntKind.wrap .i64 ((idxG (List.take (List.length x0) (List.drop 0 x0)) x1 x2) + (1)))) x0).2.2.2 (0 + (Int.toNat (l11_0R m (m + 24) x1 x2 ((idxG (List.take (List.length x0) (List.drop 0 x0)) x1 x2)) ((IntKind.wrap .i64 ((idxG (List.take (List.length x0) (List.drop 0 x0)) x1 x2) + (1)))) x0).2.1)) (List.replicate ((List.length (l11_0R m (m + 24) x1 x2 ((idxG (List.take (List.length x0) (List.drop 0 x0)) x1 x2)) ((IntKind.wrap .i64 ((idxG (List.take (List.length x0) (List.drop 0 x0)) x1 x2) + (1)))) x0).2.2.2) - (Int.toNat (l11_0R m (m + 24) x1 x2 ((idxG (List.take (List.length x0) (List.drop 0 x0)) x1 x2)) ((IntKind.wrap .i64 ((idxG (List.take (List.length x0) (List.drop 0 x0)) x1 x2) + (1)))) x0).2.1)) (0 : Int)))))))) (B' := [(.arr (.int .i64) (splice (l11_0R m (m + 24) x1 x2 ((idxG (List.take (List.length x0) (List.drop 0 x0)) x1 x2)) ((IntKind.wrap .i64 ((idxG (List.take (List.length x0) (List.drop 0 x0)) x1 x2) + (1)))) x0).2.2.2 (0 + (Int.toNat (l11_0R m (m + 24) x1 x2 ((idxG (List.take (List.length x0) (List.drop 0 x0)) x1 x2)) ((IntKind.wrap .i64 ((idxG (List.take (List.length x0) (List.drop 0 x0)) x1 x2) + (1)))) x0).2.1)) (List.replicate ((List.length (l11_0R m (m + 24) x1 x2 ((idxG (List.take (List.length x0) (List.drop 0 x0)) x1 x2)) ((IntKind.wrap .i64 ((idxG (List.take (List.length x0) (List.drop 0 x0)) x1 x2) + (1)))) x0).2.2.2) - (Int.toNat (l11_0R m (m + 24) x1 x2 ((idxG (List.take (List.length x0) (List.drop 0 x0)) x1 x2)) ((IntKind.wrap .i64 ((idxG (List.take (List.length x0) (List.drop 0 x0)) x1 x2) + (1)))) x0).2.1)) (0 : Int))) false), (.cells [(.d (.int .i64 x1))]), (.cells [(.d (.int .i64 x2))])]) (vis := [(99, l11_0H x1 x2 ((idxG (List.take (List.length x0) (List.drop 0 x0)) x1 x2)) ((IntKind.wrap .i64 ((idxG (List.take (List.length x0) (List.drop 0 x0)) x1 x2) + (1)))) x0, l11_0B x1 x2 ((idxG (List.take (List.length x0) (List.drop 0 x0)) x1 x2)) ((IntKind.wrap .i64 ((idxG (List.take (List.length x0) (List.drop 0 x0)) x1 x2) + (1)))) x0)]) (by kernel_rfl) rfl (by kernel_rfl) (M.run_of_path _ [true, true, false, true, true, true, true, true, true] _ _ (by kernel_rfl) (all_t (show decide ((0 + (List.length x0)) ≤ (List.length x0)) = true from decide_eq_true (Nat.le_of_eq (Nat.zero_add _))) (all_t c1 (all_f c2 (all_t c4 (all_t c5 (all_t c6 (all_t c4 (all_t (show (decide (0 < (List.length (l11_0R m (m + 24) x1 x2 ((idxG (List.take (List.length x0) (List.drop 0 x0)) x1 x2)) ((IntKind.wrap .i64 ((idxG (List.take (List.length x0) (List.drop 0 x0)) x1 x2) + (1)))) x0).2.2.2)) || true) = true from Bool.or_true _) (all_t c9 all_nil)))))))))) ?_
                intro p hp p2 hq
                rcases List.mem_cons.1 hp with rfl | hp
                · skip
                  have h3 := l11_0_ok m (m + 24) x1 x2 ((idxG (List.take (List.length x0) (List.drop 0 x0)) x1 x2)) ((IntKind.wrap .i64 ((idxG (List.take (List.length x0) (List.drop 0 x0)) x1 x2) + (1)))) x0 _ (some_getD (d := l11_0D) c3)
                  exact Eq.trans (Eq.mp (by kernel_rfl) h3) hq
                cases hp
              · skip
                cases h
            · skip
              cases h
          · skip
            cases h
        · skip
          cases h
      · skip
        cases h
  · skip
    cases h

/-- What stays. -/
def delG (l : List Int) (a b : Int) : List Int := l.filter (inB a b)
theorem take_inN : ∀ (l : List Int) (a b : Int), inN l a b < l.length → delG l a b = l.take (inN l a b) ++ delG (l.drop (inN l a b + 1)) a b
  | [], a, b, h => by simp at h
  | x :: l, a, b, h => by
    rw [inN_cons] at h ⊢
    by_cases hx : inB a b x = true
    · rw [if_pos hx] at h ⊢
      have := take_inN l a b (by simpa using h)
      rw [List.take_succ_cons, List.drop_succ_cons, List.cons_append, ← this]
      unfold delG
      rw [List.filter_cons_of_pos hx]
    · rw [if_neg hx]
      unfold delG
      rw [List.filter_cons_of_neg hx]
      simp
theorem all_inN : ∀ (l : List Int) (a b : Int), ¬ inN l a b < l.length → delG l a b = l
  | [], a, b, _ => rfl
  | x :: l, a, b, h => by
    rw [inN_cons] at h
    by_cases hx : inB a b x = true
    · rw [if_pos hx] at h
      have := all_inN l a b (by simpa using h)
      unfold delG at this ⊢
      rw [List.filter_cons_of_pos hx, this]
    · rw [if_neg hx] at h; simp at h
theorem del_loop (m : Nat) (a c : Int) : ∀ (n j i : Nat) (b : List Int), i < j → j ≤ b.length → b.length ≤ 1000000 → b.length - j < n →
    ∃ j' b', l11_0 m n a c (i : Nat) (j : Nat) b = some (0, ((i + (delG (b.drop j) a c).length : Nat) : Int), j', b') ∧ b'.length = b.length ∧ b'.take (i + (delG (b.drop j) a c).length) = b.take i ++ delG (b.drop j) a c
  | 0, j, i, b, _, _, _, h => by omega
  | n + 1, j, i, b, h0, h1, h2, h3 => by
    rw [l11_0]
    by_cases hj : j < b.length
    · have e1 : decide (((j : Nat) : Int) < (((List.length b) : Nat) : Int)) = true := decide_eq_true (by omega)
      have e2 : decide ((0 : Int) ≤ ((j : Nat) : Int)) = true := decide_eq_true (by omega)
      have e3 : decide (0 + j < List.length b) = true := decide_eq_true (by omega)
      have e4 : decide (((i : Nat) : Int) < (((List.length b) : Nat) : Int)) = true := decide_eq_true (by omega)
      have e5 : decide ((0 : Int) ≤ ((i : Nat) : Int)) = true := decide_eq_true (by omega)
      have e6 : decide (0 + i < List.length b) = true := decide_eq_true (by omega)
      have e7 : IntKind.wrap .i64 (((j : Nat) : Int) + (1)) = ((j + 1 : Nat) : Int) := by rw [wrap_id (by omega) (by omega)]; rfl
      have e8 : IntKind.wrap .i64 (((i : Nat) : Int) + (1)) = ((i + 1 : Nat) : Int) := by rw [wrap_id (by omega) (by omega)]; rfl
      rw [drop_getD b j 0 hj, Int.toNat_natCast, Int.toNat_natCast, e7, e8, if_pos e1, if_pos e2, if_pos e3, if_pos e4, if_pos e5, if_pos e6, Nat.zero_add, Nat.zero_add]
      generalize b.getD j 0 = x
      by_cases c1 : x < a
      · have hf : ¬ inB a c x = true := by unfold inB; simp; omega
        have hd : delG (x :: b.drop (j + 1)) a c = delG (b.drop (j + 1)) a c := by unfold delG; rw [List.filter_cons_of_neg hf]
        rw [hd, if_pos (decide_eq_true c1)]
        exact del_loop m a c n (j + 1) i b (by omega) (by omega) h2 (by omega)
      · by_cases c2 : x > c
        · have hf : ¬ inB a c x = true := by unfold inB; simp; omega
          have hd : delG (x :: b.drop (j + 1)) a c = delG (b.drop (j + 1)) a c := by unfold delG; rw [List.filter_cons_of_neg hf]
          rw [hd, if_neg (by simpa using c1), if_pos (decide_eq_true c2)]
          exact del_loop m a c n (j + 1) i b (by omega) (by omega) h2 (by omega)
        · have hf : inB a c x = true := by unfold inB; simp; omega
          have hd : delG (x :: b.drop (j + 1)) a c = x :: delG (b.drop (j + 1)) a c := by unfold delG; rw [List.filter_cons_of_pos hf]
          rw [hd, if_neg (by simpa using c1), if_neg (by simpa using c2)]
          have hl : (b.set i x).length = b.length := List.length_set
          obtain ⟨j', b', q1, q2, q3⟩ := del_loop m a c n (j + 1) (i + 1) (b.set i x) (by omega) (by omega) (by omega) (by omega)
          have hdr : (b.set i x).drop (j + 1) = b.drop (j + 1) := List.drop_set_of_lt (by omega)
          have htk : (b.set i x).take (i + 1) = b.take i ++ [x] := by
            rw [List.take_add_one, List.getElem?_set_self (by omega), List.take_set_of_le (Nat.le_refl _)]
            rfl
          rw [hdr] at q1 q3
          rw [htk] at q3
          have es : i + 1 + (delG (b.drop (j + 1)) a c).length = i + (x :: delG (b.drop (j + 1)) a c).length := by rw [List.length_cons]; omega
          rw [es] at q1 q3
          exact ⟨j', b', q1, by omega, by rw [q3]; simp⟩
    · have e1 : decide (((j : Nat) : Int) < (((List.length b) : Nat) : Int)) = false := decide_eq_false (by omega)
      rw [List.drop_eq_nil_of_le (by omega), e1]
      exact ⟨(j : Nat), b, by simp [delG], rfl, by simp [delG]⟩
theorem del11 (l : List Int) (a b : Int) (h : l.length ≤ 1000000) : ∃ m, p11 m l a b = some (.d (.sl (.int .i64) (delG l a b)), [.arr (.int .i64) (delG l a b ++ List.replicate (List.length l - List.length (delG l a b)) (0 : Int)) false, .cells [.d (.int .i64 a)], .cells [.d (.int .i64 b)]]) := by
  refine ⟨l.length, ?_⟩
  unfold p11 l11_0R
  have e0 : decide (l.length ≤ 1000000) = true := decide_eq_true h
  simp only [List.drop_zero, List.take_length, e0, ↓reduceIte]
  by_cases hn : inN l a b < l.length
  · obtain ⟨j', b', q1, q2, q3⟩ := del_loop l.length a b (l.length + 24) (inN l a b + 1) (inN l a b) l (by omega) (by omega) h (by omega)
    have ei : idxG l a b = ((inN l a b : Nat) : Int) := if_pos hn
    have hne : (((inN l a b : Nat) : Int) == (-1)) = false := by simp
    have e7 : IntKind.wrap .i64 (((inN l a b : Nat) : Int) + (1)) = ((inN l a b + 1 : Nat) : Int) := by rw [wrap_id (by omega) (by omega)]; rfl
    have hd := take_inN l a b hn
    rw [← hd] at q3
    have hle : inN l a b + (delG (l.drop (inN l a b + 1)) a b).length = (delG l a b).length := by
      rw [hd, List.length_append, List.length_take]; omega
    have hlt : (delG l a b).length < l.length := by
      have := List.length_filter_le (inB a b) (l.drop (inN l a b + 1))
      have h2 : (delG (l.drop (inN l a b + 1)) a b).length ≤ (l.drop (inN l a b + 1)).length := this
      rw [List.length_drop] at h2
      omega
    rw [hle] at q1 q3
    rw [ei, hne, e7, q1]
    have t1 : decide ((0 : Int) ≤ (((delG l a b).length : Nat) : Int)) = true := decide_eq_true (by omega)
    have t2 : decide ((((delG l a b).length : Nat) : Int) ≤ ((b'.length : Nat) : Int)) = true := decide_eq_true (by omega)
    have t3 : decide ((delG l a b).length < b'.length) = true := decide_eq_true (by omega)
    have hsp : splice b' (0 + (delG l a b).length) (List.replicate (b'.length - (delG l a b).length) (0 : Int)) = delG l a b ++ List.replicate (l.length - (delG l a b).length) 0 := by
      unfold splice
      rw [Nat.zero_add, q3, List.length_replicate, List.drop_eq_nil_of_le (by omega), List.append_nil, q2]
    simp only [Option.isSome_some, Option.getD_some, Bool.false_eq_true, ↓reduceIte, Int.toNat_natCast, t1, t2, t3, Bool.and_self, Bool.true_or]
    simp only [hsp]
    have t4 : decide (0 + (delG l a b).length + (b'.length - (delG l a b).length) ≤ b'.length) = true := decide_eq_true (by omega)
    have t5 : decide (0 + ((delG l a b).length - 0) ≤ (delG l a b ++ List.replicate (l.length - (delG l a b).length) (0 : Int)).length) = true := decide_eq_true (by rw [List.length_append]; omega)
    rw [if_pos t4, if_pos t5, Nat.sub_zero, List.take_left]
  · have ei : idxG l a b = -1 := if_neg hn
    have hd := all_inN l a b hn
    rw [ei, hd]
    simp
def s11 : List AV → Boxes → M (AV × Boxes) := fun xs B => match xs, B with
  | [.sr 0 0 n 1 none, .fn 12 [.ptr 1 0, .ptr 2 0]], [.arr (.int .i64) l true, .cells [.d (.int .i64 a)], .cells [.d (.int .i64 b)]] => .chk (decide (n = List.length l) && decide (List.length l ≤ 1000000)) (.ret (.d (.sl (.int .i64) (delG l a b)), [.arr (.int .i64) (delG l a b ++ List.replicate (List.length l - List.length (delG l a b)) 0) false, .cells [.d (.int .i64 a)], .cells [.d (.int .i64 b)]]))
  | _, _ => .fail
theorem s11_at : CallAt Try.prog 11 s11 := by
  intro xs B r' B' hr
  unfold s11 at hr
  split at hr
  · rename_i n l a b
    obtain ⟨hp, hr⟩ := (M.run_chk _ _ _).1 hr
    simp only [M.run, Option.some.injEq, Prod.mk.injEq] at hr
    obtain ⟨rfl, rfl⟩ := hr
    simp only [Bool.and_eq_true, decide_eq_true_eq] at hp
    obtain ⟨rfl, hp⟩ := hp
    obtain ⟨m, hm⟩ := del11 l a b hp
    exact evCall_atH mixed kinds hds S7 S7_ok (m + 25) 11 _ _ _ _ (p11_ok m l a b _ hm)
  · simp [M.run] at hr

noncomputable def S8 : FuncId → Option (List AV → Boxes → M (AV × Boxes)) := fun f => if f = 11 then some s11 else S7 f
set_option maxHeartbeats 20000000 in
theorem S8_ok : ∀ f s, S8 f = some s → CallAt Try.prog f s := by
  intro f s h
  unfold S8 at h
  split at h
  · rename_i e; subst e; cases h; exact s11_at
  · exact S7_ok f s h

end Go.Proofs.Ytahdcmicifokgaa.Dec
namespace Go.Proofs.Ytahdcmicifokgaa.Dec
open Go.Ev
set_option linter.unusedVariables false
set_option linter.unusedSimpArgs false
set_option maxRecDepth 100000
noncomputable def fn7 : AFn := (F 7).getD ⟨0, [], .bad, false, false, noHd⟩
noncomputable def body7 : AC := fn7.body
def l7_0 (m : Nat) : Nat → List (Int × Int) → Int → Int → Int → Int → Int → List Int → Option (Nat × Int × (List Int))
  | 0, _, _, _, _, _, _, _ => none
  | n + 1, x0, x1, x2, x3, s17, s18, b3 => if decide (s18 < s17) = true then
      if decide (0 ≤ s18) = true then
        if decide (s18 < (((List.length x0) : Nat) : Int)) = true then
          if decide ((((List.length b3) + 1) * 8) ≤ 70368744177664) = true then
            if ((IntKind.wrap .i64 (s18 + (1))) == (((List.length x0) : Nat) : Int)) = true then
              if decide (((((List.length b3) + 1) + 1) * 8) ≤ 70368744177664) = true then
                if decide (((List.length b3) + 1) = (List.length (b3 ++ [(List.getD x0 (Int.toNat s18) (0, 0)).1]))) = true then
                  l7_0 m n x0 x1 x2 x3 s17 ((IntKind.wrap .i64 (s18 + (1)))) (((b3 ++ [(List.getD x0 (Int.toNat s18) (0, 0)).1]) ++ [(IntKind.wrap .i64 ((List.getD x0 (Int.toNat s18) (0, 0)).1 + x1))]))
                else
                  none
              else
                none
            else
              if decide (0 ≤ (IntKind.wrap .i64 (s18 + (1)))) = true then
                if decide ((IntKind.wrap .i64 (s18 + (1))) < (((List.length x0) : Nat) : Int)) = true then
                  if decide ((List.getD x0 (Int.toNat (IntKind.wrap .i64 (s18 + (1)))) (0, 0)).1 > (IntKind.wrap .i64 ((List.getD x0 (Int.toNat s18) (0, 0)).1 + x1))) = true then
                    if decide (((((List.length b3) + 1) + 1) * 8) ≤ 70368744177664) = true then
                      if decide (((List.length b3) + 1) = (List.length (b3 ++ [(List.getD x0 (Int.toNat s18) (0, 0)).1]))) = true then
                        l7_0 m n x0 x1 x2 x3 s17 ((IntKind.wrap .i64 (s18 + (1)))) (((b3 ++ [(List.getD x0 (Int.toNat s18) (0, 0)).1]) ++ [(IntKind.wrap .i64 ((List.getD x0 (Int.toNat s18) (0, 0)).1 + x1))]))
                      else
                        none
                    else
                      none
                  else
                    l7_0 m n x0 x1 x2 x3 s17 ((IntKind.wrap .i64 (s18 + (1)))) ((b3 ++ [(List.getD x0 (Int.toNat s18) (0, 0)).1]))
                else
                  none
              else
                none
          else
            none
        else
          none
      else
        none
    else
      some (0, s18, b3)
def l7_0D : Nat × Int × (List Int) := (0, 0, [])
@[reducible] def l7_0R (m n : Nat) (x0 : List (Int × Int)) (x1 : Int) (x2 : Int) (x3 : Int) (s17 : Int) (s18 : Int) (b3 : List Int) : Nat × Int × (List Int) := Option.getD (l7_0 m n x0 x1 x2 x3 s17 s18 b3) l7_0D
def l7_0H (x0 : List (Int × Int)) (x1 : Int) (x2 : Int) (x3 : Int) (s17 : Int) (s18 : Int) (b3 : List Int) : Env := [(.ptr 0 0), (.d (.int .i64 x1)), .top, .top, .top, .top, (.ptr 1 0), (.ptr 2 0), .top, (.sr 3 0 (List.length b3) 1 none), .top, .top, .top, .top, .top, .top, (.d (.sl (.pair (.int .i64) (.int .i64)) x0)), (.d (.int .i64 s17)), (.d (.int .i64 s18)), .top, .top, .top, .top, .top, .top, .top, .top, .top, .top, .top, .top, .top, .top, .top, .top, .top, .top, .top, .top, .top, .top, .top, .top, .top, .top, .top, .top, .top, .top, .top, .top, .top, .top, .top, .top, .top, .top, .top, .top, .top, .top]
def l7_0B (x0 : List (Int × Int)) (x1 : Int) (x2 : Int) (x3 : Int) (s17 : Int) (s18 : Int) (b3 : List Int) : Boxes := [(.cells [(.d (.sl (.pair (.int .i64) (.int .i64)) x0))]), (.cells [(.d (.int .i64 x2))]), (.cells [(.d (.int .i64 x3))]), (.arr (.int .i64) b3 true)]
def l7_0E (x0 : List (Int × Int)) (x1 : Int) (x2 : Int) (x3 : Int) (s17 : Int) (s18 : Int) (b3 : List Int) : Nat → AEx × Env × Boxes
  | _ => (.exit 0, [(.ptr 0 0), (.d (.int .i64 x1)), .top, .top, .top, .top, (.ptr 1 0), (.ptr 2 0), .top, (.sr 3 0 (List.length b3) 1 none), .top, .top, .top, .top, .top, .top, (.d (.sl (.pair (.int .i64) (.int .i64)) x0)), (.d (.int .i64 s17)), (.d (.int .i64 s18)), (.d (.bool (decide (s18 < s17)))), .top, .top, .top, .top, .top, .top, .top, .top, .top, .top, .top, .top, .top, .top, .top, .top, .top, .top, .top, .top, .top, .top, .top, .top, .top, .top, .top, .top, .top, .top, .top, .top, .top, .top, .top, .top, .top, .top, .top, .top, .top], [(.cells [(.d (.sl (.pair (.int .i64) (.int .i64)) x0))]), (.cells [(.d (.int .i64 x2))]), (.cells [(.d (.int .i64 x3))]), (.arr (.int .i64) b3 true)])
noncomputable def lbl7_0 : AC := loopBody 459459 body7

set_option maxHeartbeats 20000000 in
theorem l7_0_w0 (m n : Nat) (x0 : List (Int × Int)) (x1 : Int) (x2 : Int) (x3 : Int) (s17 : Int) (s18 : Int) (b3 : List Int) (r : AEx × Env × Boxes) (c0 : decide (s18 < s17) = true) (c1 : decide (0 ≤ s18) = true) (c2 : decide (s18 < (((List.length x0) : Nat) : Int)) = true) (c4 : decide ((((List.length b3) + 1) * 8) ≤ 70368744177664) = true) (c6 : ((IntKind.wrap .i64 (s18 + (1))) == (((List.length x0) : Nat) : Int)) = true) (c20 : decide (((((List.length b3) + 1) + 1) * 8) ≤ 70368744177664) = true) (c21 : decide (((List.length b3) + 1) = (List.length (b3 ++ [(List.getD x0 (Int.toNat s18) (0, 0)).1]))) = true) (ih : (turns (hds 7 459459) 1 459459 (evC byref (evCall F S8 (m + 24)) (m + 24) 1 (hds 7) lbl7_0) n (l7_0H x0 x1 x2 x3 s17 ((IntKind.wrap .i64 (s18 + (1)))) (((b3 ++ [(List.getD x0 (Int.toNat s18) (0, 0)).1]) ++ [(IntKind.wrap .i64 ((List.getD x0 (Int.toNat s18) (0, 0)).1 + x1))]))) (l7_0B x0 x1 x2 x3 s17 ((IntKind.wrap .i64 (s18 + (1)))) (((b3 ++ [(List.getD x0 (Int.toNat s18) (0, 0)).1]) ++ [(IntKind.wrap .i64 ((List.getD x0 (Int.toNat s18) (0, 0)).1 + x1))])))).run = some r) : (turns (hds 7 459459) 1 459459 (evC byref (evCall F S8 (m + 24)) (m + 24) 1 (hds 7) lbl7_0) (n + 1) (l7_0H x0 x1 x2 x3 s17 s18 b3) (l7_0B x0 x1 x2 x3 s17 s18 b3)).run = some r := by
  have ht : (turn (hds 7 459459) 1 459459 (evC byref (evCall F S8 (m + 24)) (m + 24) 1 (hds 7) lbl7_0) (l7_0H x0 x1 x2 x3 s17 s18 b3) (l7_0B x0 x1 x2 x3 s17 s18 b3)).run = some (.normal, [(.ptr 0 0), (.d (.int .i64 x1)), .top, .top, .top, .top, (.ptr 1 0), (.ptr 2 0), .top, (.sr 3 0 (((List.length b3) + 1) + 1) 1 none), .top, .top, .top, .top, .top, .top, (.d (.sl (.pair (.int .i64) (.int .i64)) x0)), (.d (.int .i64 s17)), (.d (.int .i64 (IntKind.wrap .i64 (s18 + (1))))), .top, .top, .top, .top, .top, .top, .top, .top, .top, .top, .top, .top, .top, .top, .top, .top, .top, .top, .top, .top, .top, .top, .top, .top, .top, .top, .top, .top, .top, .top, .top, .top, .top, .top, .top, .top, .top, .top, .top, .top, .top, .top], [(.cells [(.d (.sl (.pair (.int .i64) (.int .i64)) x0))]), (.cells [(.d (.int .i64 x2))]), (.cells [(.d (.int .i64 x3))]), (.arr (.int .i64) ((b3 ++ [(List.getD x0 (Int.toNat s18) (0, 0)).1]) ++ [(IntKind.wrap .i64 ((List.getD x0 (Int.toNat s18) (0, 0)).1 + x1))]) true)]) := M.run_of_path _ [true, true, true, true, true, true, true, true, true, true, true, true, true, true, true, true, true, true, true, true, true, true] _ _ (by kernel_rfl) (all_t c0 (all_t c1 (all_t c2 (all_t rfl (all_t c4 (all_t (show decide ((List.length b3) = (List.length b3)) = true from decide_eq_true rfl) (all_t c6 (all_t c6 (all_t c6 (all_t c6 (all_t c6 (all_t c6 (all_t c6 (all_t c6 (all_t c6 (all_t c6 (all_t c6 (all_t c6 (all_t rfl (all_t rfl (all_t c20 (all_t c21 all_nil))))))))))))))))))))))
  refine turns_step ht (turns_eq ?_ ?_ ih)
  · unfold l7_0H
    first | (simp; done) | (simp [Nat.add_assoc]; done) | (simp; omega)
  · unfold l7_0B
    simp
set_option maxHeartbeats 20000000 in
theorem l7_0_w1 (m n : Nat) (x0 : List (Int × Int)) (x1 : Int) (x2 : Int) (x3 : Int) (s17 : Int) (s18 : Int) (b3 : List Int) (r : AEx × Env × Boxes) (c0 : decide (s18 < s17) = true) (c1 : decide (0 ≤ s18) = true) (c2 : decide (s18 < (((List.length x0) : Nat) : Int)) = true) (c4 : decide ((((List.length b3) + 1) * 8) ≤ 70368744177664) = true) (c6 : ¬ ((IntKind.wrap .i64 (s18 + (1))) == (((List.length x0) : Nat) : Int)) = true) (c13 : decide (0 ≤ (IntKind.wrap .i64 (s18 + (1)))) = true) (c14 : decide ((IntKind.wrap .i64 (s18 + (1))) < (((List.length x0) : Nat) : Int)) = true) (c20 : decide ((List.getD x0 (Int.toNat (IntKind.wrap .i64 (s18 + (1)))) (0, 0)).1 > (IntKind.wrap .i64 ((List.getD x0 (Int.toNat s18) (0, 0)).1 + x1))) = true) (c22 : decide (((((List.length b3) + 1) + 1) * 8) ≤ 70368744177664) = true) (c23 : decide (((List.length b3) + 1) = (List.length (b3 ++ [(List.getD x0 (Int.toNat s18) (0, 0)).1]))) = true) (ih : (turns (hds 7 459459) 1 459459 (evC byref (evCall F S8 (m + 24)) (m + 24) 1 (hds 7) lbl7_0) n (l7_0H x0 x1 x2 x3 s17 ((IntKind.wrap .i64 (s18 + (1)))) (((b3 ++ [(List.getD x0 (Int.toNat s18) (0, 0)).1]) ++ [(IntKind.wrap .i64 ((List.getD x0 (Int.toNat s18) (0, 0)).1 + x1))]))) (l7_0B x0 x1 x2 x3 s17 ((IntKind.wrap .i64 (s18 + (1)))) (((b3 ++ [(List.getD x0 (Int.toNat s18) (0, 0)).1]) ++ [(IntKind.wrap .i64 ((List.getD x0 (Int.toNat s18) (0, 0)).1 + x1))])))).run = some r) : (turns (hds 7 459459) 1 459459 (evC byref (evCall F S8 (m + 24)) (m + 24) 1 (hds 7) lbl7_0) (n + 1) (l7_0H x0 x1 x2 x3 s17 s18 b3) (l7_0B x0 x1 x2 x3 s17 s18 b3)).run = some r := by
  have ht : (turn (hds 7 459459) 1 459459 (evC byref (evCall F S8 (m + 24)) (m + 24) 1 (hds 7) lbl7_0) (l7_0H x0 x1 x2 x3 s17 s18 b3) (l7_0B x0 x1 x2 x3 s17 s18 b3)).run = some (.normal, [(.ptr 0 0), (.d (.int .i64 x1)), .top, .top, .top, .top, (.ptr 1 0), (.ptr 2 0), .top, (.sr 3 0 (((List.length b3) + 1) + 1) 1 none), .top, .top, .top, .top, .top, .top, (.d (.sl (.pair (.int .i64) (.int .i64)) x0)), (.d (.int .i64 s17)), (.d (.int .i64 (IntKind.wrap .i64 (s18 + (1))))), .top, .top, .top, .top, .top, .top, .top, .top, .top, .top, .top, .top, .top, .top, .top, .top, .top, .top, .top, .top, .top, .top, .top, .top, .top, .top, .top, .top, .top, .top, .top, .top, .top, .top, .top, .top, .top, .top, .top, .top, .top, .top], [(.cells [(.d (.sl (.pair (.int .i64) (.int .i64)) x0))]), (.cells [(.d (.int .i64 x2))]), (.cells [(.d (.int .i64 x3))]), (.arr (.int .i64) ((b3 ++ [(List.getD x0 (Int.toNat s18) (0, 0)).1]) ++ [(IntKind.wrap .i64 ((List.getD x0 (Int.toNat s18) (0, 0)).1 + x1))]) true)]) := M.run_of_path _ [true, true, true, true, true, true, false, false, false, false, false, false, false, true, true, false, false, false, false, false, true, true, true, true] _ _ (by kernel_rfl) (all_t c0 (all_t c1 (all_t c2 (all_t rfl (all_t c4 (all_t (show decide ((List.length b3) = (List.length b3)) = true from decide_eq_true rfl) (all_f c6 (all_f c6 (all_f c6 (all_f c6 (all_f c6 (all_f c6 (all_f c6 (all_t c13 (all_t c14 (all_f c6 (all_f c6 (all_f c6 (all_f c6 (all_f c6 (all_t c20 (all_t rfl (all_t c22 (all_t c23 all_nil))))))))))))))))))))))))
  refine turns_step ht (turns_eq ?_ ?_ ih)
  · unfold l7_0H
    first | (simp; done) | (simp [Nat.add_assoc]; done) | (simp; omega)
  · unfold l7_0B
    simp
set_option maxHeartbeats 20000000 in
theorem l7_0_w2 (m n : Nat) (x0 : List (Int × Int)) (x1 : Int) (x2 : Int) (x3 : Int) (s17 : Int) (s18 : Int) (b3 : List Int) (r : AEx × Env × Boxes) (c0 : decide (s18 < s17) = true) (c1 : decide (0 ≤ s18) = true) (c2 : decide (s18 < (((List.length x0) : Nat) : Int)) = true) (c4 : decide ((((List.length b3) + 1) * 8) ≤ 70368744177664) = true) (c6 : ¬ ((IntKind.wrap .i64 (s18 + (1))) == (((List.length x0) : Nat) : Int)) = true) (c13 : decide (0 ≤ (IntKind.wrap .i64 (s18 + (1)))) = true) (c14 : decide ((IntKind.wrap .i64 (s18 + (1))) < (((List.length x0) : Nat) : Int)) = true) (c20 : ¬ decide ((List.getD x0 (Int.toNat (IntKind.wrap .i64 (s18 + (1)))) (0, 0)).1 > (IntKind.wrap .i64 ((List.getD x0 (Int.toNat s18) (0, 0)).1 + x1))) = true) (ih : (turns (hds 7 459459) 1 459459 (evC byref (evCall F S8 (m + 24)) (m + 24) 1 (hds 7) lbl7_0) n (l7_0H x0 x1 x2 x3 s17 ((IntKind.wrap .i64 (s18 + (1)))) ((b3 ++ [(List.getD x0 (Int.toNat s18) (0, 0)).1]))) (l7_0B x0 x1 x2 x3 s17 ((IntKind.wrap .i64 (s18 + (1)))) ((b3 ++ [(List.getD x0 (Int.toNat s18) (0, 0)).1])))).run = some r) : (turns (hds 7 459459) 1 459459 (evC byref (evCall F S8 (m + 24)) (m + 24) 1 (hds 7) lbl7_0) (n + 1) (l7_0H x0 x1 x2 x3 s17 s18 b3) (l7_0B x0 x1 x2 x3 s17 s18 b3)).run = some r := by
  have ht : (turn (hds 7 459459) 1 459459 (evC byref (evCall F S8 (m + 24)) (m + 24) 1 (hds 7) lbl7_0) (l7_0H x0 x1 x2 x3 s17 s18 b3) (l7_0B x0 x1 x2 x3 s17 s18 b3)).run = some (.normal, [(.ptr 0 0), (.d (.int .i64 x1)), .top, .top, .top, .top, (.ptr 1 0), (.ptr 2 0), .top, (.sr 3 0 ((List.length b3) + 1) 1 none), .top, .top, .top, .top, .top, .top, (.d (.sl (.pair (.int .i64) (.int .i64)) x0)), (.d (.int .i64 s17)), (.d (.int .i64 (IntKind.wrap .i64 (s18 + (1))))), .top, .top, .top, .top, .top, .top, .top, .top, .top, .top, .top, .top, .top, .top, .top, .top, .top, .top, .top, .top, .top, .top, .top, .top, .top, .top, .top, .top, .top, .top, .top, .top, .top, .top, .top, .top, .top, .top, .top, .top, .top, .top], [(.cells [(.d (.sl (.pair (.int .i64) (.int .i64)) x0))]), (.cells [(.d (.int .i64 x2))]), (.cells [(.d (.int .i64 x3))]), (.arr (.int .i64) (b3 ++ [(List.getD x0 (Int.toNat s18) (0, 0)).1]) true)]) := M.run_of_path _ [true, true, true, true, true, true, false, false, false, false, false, false, false, true, true, false, false, false, false, false, false] _ _ (by kernel_rfl) (all_t c0 (all_t c1 (all_t c2 (all_t rfl (all_t c4 (all_t (show decide ((List.length b3) = (List.length b3)) = true from decide_eq_true rfl) (all_f c6 (all_f c6 (all_f c6 (all_f c6 (all_f c6 (all_f c6 (all_f c6 (all_t c13 (all_t c14 (all_f c6 (all_f c6 (all_f c6 (all_f c6 (all_f c6 (all_f c20 all_nil)))))))))))))))))))))
  refine turns_step ht (turns_eq ?_ ?_ ih)
  · unfold l7_0H
    first | (simp; done) | (simp [Nat.add_assoc]; done) | (simp; omega)
  · unfold l7_0B
    simp
set_option maxHeartbeats 20000000 in
theorem l7_0_w3 (m n : Nat) (x0 : List (Int × Int)) (x1 : Int) (x2 : Int) (x3 : Int) (s17 : Int) (s18 : Int) (b3 : List Int) (c0 : ¬ decide (s18 < s17) = true) : (turns (hds 7 459459) 1 459459 (evC byref (evCall F S8 (m + 24)) (m + 24) 1 (hds 7) lbl7_0) (n + 1) (l7_0H x0 x1 x2 x3 s17 s18 b3) (l7_0B x0 x1 x2 x3 s17 s18 b3)).run = some (.exit 0, [(.ptr 0 0), (.d (.int .i64 x1)), .top, .top, .top, .top, (.ptr 1 0), (.ptr 2 0), .top, (.sr 3 0 (List.length b3) 1 none), .top, .top, .top, .top, .top, .top, (.d (.sl (.pair (.int .i64) (.int .i64)) x0)), (.d (.int .i64 s17)), (.d (.int .i64 s18)), (.d (.bool (decide (s18 < s17)))), .top, .top, .top, .top, .top, .top, .top, .top, .top, .top, .top, .top, .top, .top, .top, .top, .top, .top, .top, .top, .top, .top, .top, .top, .top, .top, .top, .top, .top, .top, .top, .top, .top, .top, .top, .top, .top, .top, .top, .top, .top], [(.cells [(.d (.sl (.pair (.int .i64) (.int .i64)) x0))]), (.cells [(.d (.int .i64 x2))]), (.cells [(.d (.int .i64 x3))]), (.arr (.int .i64) b3 true)]) := by
  exact turns_last (by simp) (M.run_of_path _ [false] _ _ (by kernel_rfl) (all_f c0 all_nil)) 

set_option maxHeartbeats 20000000 in
theorem l7_0_step (m n : Nat) (ih : ∀ (x0 : List (Int × Int)) (x1 : Int) (x2 : Int) (x3 : Int) (s17 : Int) (s18 : Int) (b3 : List Int) (q : Nat × Int × (List Int)), l7_0 m n x0 x1 x2 x3 s17 s18 b3 = some q → (turns (hds 7 459459) 1 459459 (evC byref (evCall F S8 (m + 24)) (m + 24) 1 (hds 7) lbl7_0) n (l7_0H x0 x1 x2 x3 s17 s18 b3) (l7_0B x0 x1 x2 x3 s17 s18 b3)).run = some (l7_0E (x0) (x1) (x2) (x3) (s17) (q.2.1) (q.2.2) q.1)) (x0 : List (Int × Int)) (x1 : Int) (x2 : Int) (x3 : Int) (s17 : Int) (s18 : Int) (b3 : List Int) (q : Nat × Int × (List Int)) (h : l7_0 m (n + 1) x0 x1 x2 x3 s17 s18 b3 = some q) : (turns (hds 7 459459) 1 459459 (evC byref (evCall F S8 (m + 24)) (m + 24) 1 (hds 7) lbl7_0) (n + 1) (l7_0H x0 x1 x2 x3 s17 s18 b3) (l7_0B x0 x1 x2 x3 s17 s18 b3)).run = some (l7_0E (x0) (x1) (x2) (x3) (s17) (q.2.1) (q.2.2) q.1) := by
  rw [l7_0] at h
  refine ite_cases h (fun c0 h => ?_) (fun c0 h => ?_)
  · skip
    refine ite_cases h (fun c1 h => ?_) (fun c1 h => ?_)
    · skip
      refine ite_cases h (fun c2 h => ?_) (fun c2 h => ?_)
      · skip
        refine ite_cases h (fun c4 h => ?_) (fun c4 h => ?_)
        · skip
          refine ite_cases h (fun c6 h => ?_) (fun c6 h => ?_)
          · skip
            refine ite_cases h (fun c20 h => ?_) (fun c20 h => ?_)
            · skip
              refine ite_cases h (fun c21 h => ?_) (fun c21 h => ?_)
              · skip
                exact l7_0_w0 m n x0 x1 x2 x3 s17 s18 b3 _ c0 c1 c2 c4 c6 c20 c21 (ih _ _ _ _ _ _ _ q h)
              · skip
                cases h
            · skip
              cases h
          · skip
            refine ite_cases h (fun c13 h => ?_) (fun c13 h => ?_)
            · skip
              refine ite_cases h (fun c14 h => ?_) (fun c14 h => ?_)
              · skip
                refine ite_cases h (fun c20 h => ?_) (fun c20 h => ?_)
                · skip
                  refine ite_cases h (fun c22 h => ?_) (fun c22 h => ?_)
                  · skip
                    refine ite_cases h (fun c23 h => ?_) (fun c23 h => ?_)
                    · skip
                      exact l7_0_w1 m n x0 x1 x2 x3 s17 s18 b3 _ c0 c1 c2 c4 c6 c13 c14 c20 c22 c23 (ih _ _ _ _ _ _ _ q h)
                    · skip
                      cases h
                  · skip
                    cases h
                · skip
                  exact l7_0_w2 m n x0 x1 x2 x3 s17 s18 b3 _ c0 c1 c2 c4 c6 c13 c14 c20 (ih _ _ _ _ _ _ _ q h)
              · skip
                cases h
            · skip
              cases h
        · skip
          cases h
      · skip
        cases h
    · skip
      cases h
  · skip
    cases h
    exact l7_0_w3 m n x0 x1 x2 x3 s17 s18 b3 c0
set_option maxHeartbeats 20000000 in
theorem l7_0_ok (m : Nat) : ∀ (n : Nat) (x0 : List (Int × Int)) (x1 : Int) (x2 : Int) (x3 : Int) (s17 : Int) (s18 : Int) (b3 : List Int) (q : Nat × Int × (List Int)), l7_0 m n x0 x1 x2 x3 s17 s18 b3 = some q → (turns (hds 7 459459) 1 459459 (evC byref (evCall F S8 (m + 24)) (m + 24) 1 (hds 7) lbl7_0) n (l7_0H x0 x1 x2 x3 s17 s18 b3) (l7_0B x0 x1 x2 x3 s17 s18 b3)).run = some (l7_0E (x0) (x1) (x2) (x3) (s17) (q.2.1) (q.2.2) q.1)
  | 0, x0, x1, x2, x3, s17, s18, b3, q, h => by cases h
  | n + 1, x0, x1, x2, x3, s17, s18, b3, q, h => l7_0_step m n (l7_0_ok m n) x0 x1 x2 x3 s17 s18 b3 q h

def p7 (m : Nat) (x0 : List (Int × Int)) (x1 : Int) (x2 : Int) (x3 : Int) : Option ((List Int) × (List (Int × Int))) :=
  if (Option.isSome (l7_0 m (m + 24) x0 x1 x2 x3 ((((List.length x0) : Nat) : Int)) 0 (([] : List Int)))) = true then
    if (decide ((List.length (l7_0R m (m + 24) x0 x1 x2 x3 ((((List.length x0) : Nat) : Int)) 0 (([] : List Int))).2.2) = (List.length (l7_0R m (m + 24) x0 x1 x2 x3 ((((List.length x0) : Nat) : Int)) 0 (([] : List Int))).2.2)) && decide ((List.length (l7_0R m (m + 24) x0 x1 x2 x3 ((((List.length x0) : Nat) : Int)) 0 (([] : List Int))).2.2) ≤ 1000000)) = true then
      some ((delG (l7_0R m (m + 24) x0 x1 x2 x3 ((((List.length x0) : Nat) : Int)) 0 (([] : List Int))).2.2 x2 x3), x0)
    else
      none
  else
    none
set_option maxHeartbeats 20000000 in
theorem p7_ok (m : Nat) (x0 : List (Int × Int)) (x1 : Int) (x2 : Int) (x3 : Int) (q : (List Int) × (List (Int × Int))) (h : p7 m x0 x1 x2 x3 = some q) : ∃ r B1, (evCall F S8 (m + 25) 7 [(.ptr 0 0), (.d (.int .i64 x1)), (.d (.int .i64 x2)), (.d (.int .i64 x3))] [(.cells [(.d (.sl (.pair (.int .i64) (.int .i64)) x0))])]).run = some (r, B1) ∧ 1 ≤ B1.length ∧ wkR B1 [(.cells [(.d (.sl (.pair (.int .i64) (.int .i64)) q.2))])] r (.d (.sl (.int .i64) q.1)) ∧ wkBs B1 [(.cells [(.d (.sl (.pair (.int .i64) (.int .i64)) q.2))])] 0 [(.cells [(.d (.sl (.pair (.int .i64) (.int .i64)) q.2))])] := by
  unfold p7 at h
  refine ite_cases h (fun c0 h => ?_) (fun c0 h => ?_)
  · skip
    refine ite_cases h (fun c1 h => ?_) (fun c1 h => ?_)
    · skip
      cases h
      refine ⟨(.d (.sl (.int .i64) (delG (l7_0R m (m + 24) x0 x1 x2 x3 ((((List.length x0) : Nat) : Int)) 0 (([] : List Int))).2.2 x2 x3))), [(.cells [(.d (.sl (.pair (.int .i64) (.int .i64)) x0))])], runT_ok (LS := (fun k => if k = 459459 then some (l7_0E x0 x1 x2 x3 (((((List.length x0) : Nat) : Int))) ((l7_0R m (m + 24) x0 x1 x2 x3 ((((List.length x0) : Nat) : Int)) 0 (([] : List Int))).2.1) ((l7_0R m (m + 24) x0 x1 x2 x3 ((((List.length x0) : Nat) : Int)) 0 (([] : List Int))).2.2) 0) else none)) (fn := fn7) (vis := [(459459, l7_0H x0 x1 x2 x3 ((((List.length x0) : Nat) : Int)) 0 (([] : List Int)), l7_0B x0 x1 x2 x3 ((((List.length x0) : Nat) : Int)) 0 (([] : List Int)))]) (by kernel_rfl) rfl (by kernel_rfl) (M.run_of_path _ [true] _ _ (by kernel_rfl) (all_t c1 all_nil)) ?_, by simp, (wkR.one (wkV.one (wk1.eq rfl))), ⟨wkBox.cells (wkL.cons (wk1.eq rfl) wkL.nil), trivial⟩⟩
      intro p hp p2 hq
      rcases List.mem_cons.1 hp with rfl | hp
      · skip
        have h3 := l7_0_ok m (m + 24) x0 x1 x2 x3 ((((List.length x0) : Nat) : Int)) 0 (([] : List Int)) _ (some_getD (d := l7_0D) c0)
        exact Eq.trans (Eq.mp (by kernel_rfl) h3) hq
      cases hp
    · skip
      cases h
  · skip
    cases h

/-- All times at which it may change. -/
def chgAll : SL → Int → List Int
  | [], _ => []
  | x :: r, k => x.1 :: ((if r = [] ∨ (r.getD 0 (0, 0)).1 > x.1 + k then [x.1 + k] else []) ++ chgAll r k)
def chgG (l : SL) (k a b : Int) : List Int := delG (chgAll l k) a b
def chgPre (l : SL) (k a b : Int) : Bool := decide (l.length ≤ 200 ∧ (∀ x ∈ l, 0 ≤ x.1 ∧ x.1 ≤ 1099511627776) ∧ 0 ≤ k ∧ k ≤ 1099511627776)
theorem chgAll_len : ∀ (l : SL) (k : Int), (chgAll l k).length ≤ 2 * l.length
  | [], _ => by simp [chgAll]
  | x :: r, k => by
    have := chgAll_len r k
    unfold chgAll
    split <;> simp <;> omega
theorem chg_loop (m : Nat) (l : SL) (k a b : Int) (hl : l.length ≤ 200) (hx : ∀ x ∈ l, 0 ≤ x.1 ∧ x.1 ≤ 1099511627776) (h0 : 0 ≤ k) (h1 : k ≤ 1099511627776) : ∀ (n i : Nat) (c : List Int), i ≤ l.length → c.length ≤ 2 * i → l.length - i < n →
    ∃ j', l7_0 m n l k a b ((l.length : Nat) : Int) (i : Nat) c = some (0, j', c ++ chgAll (l.drop i) k)
  | 0, i, c, _, _, h => by omega
  | n + 1, i, c, g1, g2, g3 => by
    rw [l7_0]
    by_cases hi : i < l.length
    · have e1 : decide (((i : Nat) : Int) < (((List.length l) : Nat) : Int)) = true := decide_eq_true (by omega)
      have e2 : decide ((0 : Int) ≤ ((i : Nat) : Int)) = true := decide_eq_true (by omega)
      have e3 : decide ((((List.length c) + 1) * 8) ≤ 70368744177664) = true := decide_eq_true (by omega)
      have e4 : decide (((((List.length c) + 1) + 1) * 8) ≤ 70368744177664) = true := decide_eq_true (by omega)
      have e7 : IntKind.wrap .i64 (((i : Nat) : Int) + (1)) = ((i + 1 : Nat) : Int) := by rw [wrap_id (by omega) (by omega)]; rfl
      have hm := hx _ (getD_mem l i (0, 0) hi)
      have e8 : IntKind.wrap .i64 ((l.getD i (0, 0)).1 + k) = (l.getD i (0, 0)).1 + k := wrap_id (by omega) (by omega)
      have e9 : decide (((List.length c) + 1) = (List.length (c ++ [(l.getD i (0, 0)).1]))) = true := decide_eq_true (by simp)
      rw [drop_getD l i (0, 0) hi, Int.toNat_natCast, e7, Int.toNat_natCast, e8, if_pos e1, if_pos e2, if_pos e1, if_pos e3, if_pos e4, if_pos e9]
      by_cases hn : i + 1 = l.length
      · have f1 : (((i + 1 : Nat) : Int) == (((List.length l) : Nat) : Int)) = true := by simp; omega
        have hnil : l.drop (i + 1) = [] := List.drop_eq_nil_of_le (by omega)
        rw [if_pos f1]
        obtain ⟨j', hr⟩ := chg_loop m l k a b hl hx h0 h1 n (i + 1) (c ++ [(l.getD i (0, 0)).1] ++ [(l.getD i (0, 0)).1 + k]) (by omega) (by simp; omega) (by omega)
        refine ⟨j', hr.trans ?_⟩
        rw [hnil]
        simp [chgAll]
      · have f1 : (((i + 1 : Nat) : Int) == (((List.length l) : Nat) : Int)) = false := by simp; omega
        have f2 : decide ((0 : Int) ≤ ((i + 1 : Nat) : Int)) = true := decide_eq_true (by omega)
        have f3 : decide (((i + 1 : Nat) : Int) < (((List.length l) : Nat) : Int)) = true := decide_eq_true (by omega)
        have hnil : ¬ l.drop (i + 1) = [] := by
          intro h
          have := congrArg List.length h
          simp at this
          omega
        have hh : (l.drop (i + 1)).getD 0 (0, 0) = l.getD (i + 1) (0, 0) := by simp [List.getD_eq_getElem?_getD]
        rw [f1, if_neg (by simp), if_pos f2, if_pos f3]
        by_cases hc : (l.getD (i + 1) (0, 0)).1 > (l.getD i (0, 0)).1 + k
        · rw [if_pos (decide_eq_true hc)]
          obtain ⟨j', hr⟩ := chg_loop m l k a b hl hx h0 h1 n (i + 1) (c ++ [(l.getD i (0, 0)).1] ++ [(l.getD i (0, 0)).1 + k]) (by omega) (by simp; omega) (by omega)
          refine ⟨j', hr.trans ?_⟩
          rw [show chgAll (l.getD i (0, 0) :: l.drop (i + 1)) k = (l.getD i (0, 0)).1 :: ([(l.getD i (0, 0)).1 + k] ++ chgAll (l.drop (i + 1)) k) from by rw [chgAll, hh, if_pos (.inr hc)]]
          simp
        · rw [if_neg (by simpa using hc)]
          obtain ⟨j', hr⟩ := chg_loop m l k a b hl hx h0 h1 n (i + 1) (c ++ [(l.getD i (0, 0)).1]) (by omega) (by simp; omega) (by omega)
          refine ⟨j', hr.trans ?_⟩
          rw [show chgAll (l.getD i (0, 0) :: l.drop (i + 1)) k = (l.getD i (0, 0)).1 :: ([] ++ chgAll (l.drop (i + 1)) k) from by rw [chgAll, hh, if_neg (by rintro (h | h) <;> contradiction)]]
          simp
    · have e1 : decide (((i : Nat) : Int) < (((List.length l) : Nat) : Int)) = false := decide_eq_false (by omega)
      rw [List.drop_eq_nil_of_le (by omega), e1]
      exact ⟨(i : Nat), by simp [chgAll]⟩
theorem chg7 (l : SL) (k a b : Int) (h : chgPre l k a b = true) : ∃ m, p7 m l k a b = some (chgG l k a b, l) := by
  obtain ⟨h1, h2, h3, h4⟩ := of_decide_eq_true h
  refine ⟨l.length, ?_⟩
  obtain ⟨j', hr⟩ := chg_loop l.length l k a b h1 h2 h3 h4 (l.length + 24) 0 [] (by omega) (by simp) (by omega)
  simp only [Int.natCast_zero, List.drop_zero, List.nil_append] at hr
  have := chgAll_len l k
  unfold p7 l7_0R chgG
  rw [hr]
  have e : decide ((chgAll l k).length ≤ 1000000) = true := decide_eq_true (by omega)
  simp [e]
def s7 : List AV → Boxes → M (AV × Boxes) := normS [.ptr, .val (.int .i64), .val (.int .i64), .val (.int .i64)] [(.sl (.pair (.int .i64) (.int .i64)))] fun xs B => match xs, B with
  | [(.ptr 0 0), (.d (.int .i64 c2)), (.d (.int .i64 c3)), (.d (.int .i64 c4))], [(.cells [(.d (.sl (.pair (.int .i64) (.int .i64)) c1))])] => .chk (chgPre c1 c2 c3 c4) (.ret ((.d (.sl (.int .i64) (chgG c1 c2 c3 c4))), [(.cells [(.d (.sl (.pair (.int .i64) (.int .i64)) c1))])]))
  | _, _ => .fail
theorem s7_at : CallAt Try.prog 7 s7 := by
  refine CallAt.norm (CallAt.weakE (g := fun n => evCall F S8 n 7) (fun n => evCall_atH mixed kinds hds S8 S8_ok n 7) fun xs B r' B' hr => ?_) _ _
  split at hr
  · rename_i c2 c3 c4 c1
    obtain ⟨hp, hr⟩ := (M.run_chk _ _ _).1 hr
    simp only [M.run, Option.some.injEq, Prod.mk.injEq] at hr
    obtain ⟨rfl, rfl⟩ := hr
    obtain ⟨m, hm⟩ := chg7 c1 c2 c3 c4 hp
    obtain ⟨r, B1, h1, h2, h3, h4⟩ := p7_ok m c1 c2 c3 c4 _ hm
    exact ⟨m + 25, r, B1, h1, by simp, h2, h3, h4⟩
  · simp [M.run] at hr
noncomputable def S9 : FuncId → Option (List AV → Boxes → M (AV × Boxes)) := fun f => if f = 7 then some s7 else S8 f
set_option maxHeartbeats 20000000 in
theorem S9_ok : ∀ f s, S9 f = some s → CallAt Try.prog f s := by
  intro f s h
  unfold S9 at h
  split at h
  · rename_i e; subst e; cases h; exact s7_at
  · exact S8_ok f s h

end Go.Proofs.Ytahdcmicifokgaa.Dec
namespace Go.Proofs.Ytahdcmicifokgaa.Dec
open Go.Ev
set_option linter.unusedVariables false
set_option linter.unusedSimpArgs false
set_option maxRecDepth 100000
theorem clone10p : CallAt Try.prog 10 (plainS (cloneG (.pair (.int .i64) (.int .i64)) 16)) := clone_at mixed 23 23 35 (.pair (.int .i64) (.int .i64)) 16 Try.func10 (by kernel_rfl) (by kernel_rfl) (by kernel_rfl) (by kernel_rfl) (by kernel_rfl) (by kernel_rfl) (by kernel_rfl) (by kernel_rfl) (by kernel_rfl) (by kernel_rfl) (by kernel_rfl) (by kernel_rfl) (by kernel_rfl) (by kernel_rfl) (by kernel_rfl) (by kernel_rfl) (by kernel_rfl) (by kernel_rfl) (by kernel_rfl) 
def Sr : FuncId → Option (List AV → Boxes → M (AV × Boxes)) := fun f => if f = 10 then some (plainS (cloneG (.pair (.int .i64) (.int .i64)) 16)) else none
set_option maxHeartbeats 20000000 in
theorem Sr_ok : ∀ f s, Sr f = some s → CallAt Try.prog f s := by
  intro f s h
  unfold Sr at h
  split at h
  · rename_i e; subst e; cases h; exact clone10p
  · cases h
theorem runs9 : Known Try.prog 9 [] (.d (.bool true)) := known mixed (kinds := fun f => (true, f == 11)) (n := 300) Sr_ok (by kernel_rfl)
def trueG : List D → M AV
  | [] => .ret (.d (.bool true))
  | _ => .fail
theorem true9 : CallAt Try.prog 9 (plainV trueG) := by
  refine plainV_at fun ds r hr => ?_
  unfold trueG at hr
  split at hr
  · simp only [M.run, Option.some.injEq] at hr
    subst hr
    exact runs9
  · simp [M.run] at hr

noncomputable def S10 : FuncId → Option (List AV → Boxes → M (AV × Boxes)) := fun f => if f = 9 then some (plainV trueG) else S9 f
set_option maxHeartbeats 20000000 in
theorem S10_ok : ∀ f s, S10 f = some s → CallAt Try.prog f s := by
  intro f s h
  unfold S10 at h
  split at h
  · rename_i e; subst e; cases h; exact true9
  · exact S9_ok f s h

end Go.Proofs.Ytahdcmicifokgaa.Dec
namespace Go.Proofs.Ytahdcmicifokgaa.Dec
open Go.Ev
set_option linter.unusedVariables false
set_option linter.unusedSimpArgs false
set_option maxRecDepth 100000
noncomputable def fn3 : AFn := (F 3).getD ⟨0, [], .bad, false, false, noHd⟩
noncomputable def body3 : AC := fn3.body
def l3_0 (m : Nat) : Nat → List (Int × Int) → Int → Int → Int → List Int → List Int → Int → Int → List (Int × Int) → List Int → Option (Nat × Int × (List Int))
  | 0, _, _, _, _, _, _, _, _, _, _ => none
  | n + 1, s10, s11, s12, s13, s14, s44, s45, s46, b0, b1 => if decide (s46 < s45) = true then
      if decide (0 ≤ s46) = true then
        if decide (s46 < (((List.length s44) : Nat) : Int)) = true then
          if decide ((List.getD s44 (Int.toNat s46) 0) < s12) = true then
            none
          else
            if decide ((List.getD s44 (Int.toNat s46) 0) > s13) = true then
              none
            else
              if decide (s46 > 0) = true then
                if decide (0 ≤ (IntKind.wrap .i64 (s46 - (1)))) = true then
                  if decide ((IntKind.wrap .i64 (s46 - (1))) < (((List.length s14) : Nat) : Int)) = true then
                    if decide ((List.getD s14 (Int.toNat (IntKind.wrap .i64 (s46 - (1)))) 0) ≥ (List.getD s44 (Int.toNat s46) 0)) = true then
                      none
                    else
                      l3_0 m n s10 s11 s12 s13 s14 s44 s45 ((IntKind.wrap .i64 (s46 + (1)))) b0 ((addKey (.int .i64) b1 (List.getD s44 (Int.toNat s46) 0)))
                  else
                    none
                else
                  none
              else
                l3_0 m n s10 s11 s12 s13 s14 s44 s45 ((IntKind.wrap .i64 (s46 + (1)))) b0 ((addKey (.int .i64) b1 (List.getD s44 (Int.toNat s46) 0)))
        else
          none
      else
        none
    else
      some (0, s46, b1)
def l3_0D : Nat × Int × (List Int) := (0, 0, [])
@[reducible] def l3_0R (m n : Nat) (s10 : List (Int × Int)) (s11 : Int) (s12 : Int) (s13 : Int) (s14 : List Int) (s44 : List Int) (s45 : Int) (s46 : Int) (b0 : List (Int × Int)) (b1 : List Int) : Nat × Int × (List Int) := Option.getD (l3_0 m n s10 s11 s12 s13 s14 s44 s45 s46 b0 b1) l3_0D
def l3_0H (s10 : List (Int × Int)) (s11 : Int) (s12 : Int) (s13 : Int) (s14 : List Int) (s44 : List Int) (s45 : Int) (s46 : Int) (b0 : List (Int × Int)) (b1 : List Int) : Env := [.top, .top, .top, .top, .top, .top, .top, .top, .top, (.ptr 0 0), (.d (.sl (.pair (.int .i64) (.int .i64)) s10)), (.d (.int .i64 s11)), (.d (.int .i64 s12)), (.d (.int .i64 s13)), (.d (.sl (.int .i64) s14)), (.mp 1), .top, .top, .top, .top, .top, .top, .top, .top, .top, .top, .top, .top, .top, .top, .top, .top, .top, .top, .top, .top, .top, .top, .top, .top, .top, .top, .top, .top, (.d (.sl (.int .i64) s44)), (.d (.int .i64 s45)), (.d (.int .i64 s46)), .top, .top, .top, .top, .top, .top, .top, .top, .top, .top, .top, .top, .top, .top, .top, .top, .top, .top, .top, .top, .top, .top, .top, .top, .top, .top, .top, .top, .top, .top, .top, .top, .top, .top, .top, .top, .top, .top, .top, .top, .top, .top, .top, .top, .top, .top, .top, .top, .top, .top, .top, .top, .top, .top, .top, .top, .top, .top, .top, .top, .top, .top, .top, .top, .top, .top, .top, .top, .top, .top, .top, .top, .top, .top, .top, .top, .top, .top, .top, .top, .top, .top, .top, .top, .top, .top, .top, .top, .top, .top, .top, .top, .top, .top, .top, .top, .top, .top, .top, .top, .top, .top, .top, .top, .top, .top, .top, .top, .top, .top, .top]
def l3_0B (s10 : List (Int × Int)) (s11 : Int) (s12 : Int) (s13 : Int) (s14 : List Int) (s44 : List Int) (s45 : Int) (s46 : Int) (b0 : List (Int × Int)) (b1 : List Int) : Boxes := [(.cells [(.d (.sl (.pair (.int .i64) (.int .i64)) b0))]), (.keys (.int .i64) b1)]
def l3_0E (s10 : List (Int × Int)) (s11 : Int) (s12 : Int) (s13 : Int) (s14 : List Int) (s44 : List Int) (s45 : Int) (s46 : Int) (b0 : List (Int × Int)) (b1 : List Int) : Nat → AEx × Env × Boxes
  | _ => (.exit 0, [.top, .top, .top, .top, .top, .top, .top, .top, .top, (.ptr 0 0), (.d (.sl (.pair (.int .i64) (.int .i64)) s10)), (.d (.int .i64 s11)), (.d (.int .i64 s12)), (.d (.int .i64 s13)), (.d (.sl (.int .i64) s14)), (.mp 1), .top, .top, .top, .top, .top, .top, .top, .top, .top, .top, .top, .top, .top, .top, .top, .top, .top, .top, .top, .top, .top, .top, .top, .top, .top, .top, .top, .top, (.d (.sl (.int .i64) s44)), (.d (.int .i64 s45)), (.d (.int .i64 s46)), (.d (.bool (decide (s46 < s45)))), .top, .top, .top, .top, .top, .top, .top, .top, .top, .top, .top, .top, .top, .top, .top, .top, .top, .top, .top, .top, .top, .top, .top, .top, .top, .top, .top, .top, .top, .top, .top, .top, .top, .top, .top, .top, .top, .top, .top, .top, .top, .top, .top, .top, .top, .top, .top, .top, .top, .top, .top, .top, .top, .top, .top, .top, .top, .top, .top, .top, .top, .top, .top, .top, .top, .top, .top, .top, .top, .top, .top, .top, .top, .top, .top, .top, .top, .top, .top, .top, .top, .top, .top, .top, .top, .top, .top, .top, .top, .top, .top, .top, .top, .top, .top, .top, .top, .top, .top, .top, .top, .top, .top, .top, .top, .top, .top, .top, .top, .top], [(.cells [(.d (.sl (.pair (.int .i64) (.int .i64)) b0))]), (.keys (.int .i64) b1)])
noncomputable def lbl3_0 : AC := loopBody 123145302375936 body3

set_option maxHeartbeats 20000000 in
theorem l3_0_w0 (m n : Nat) (s10 : List (Int × Int)) (s11 : Int) (s12 : Int) (s13 : Int) (s14 : List Int) (s44 : List Int) (s45 : Int) (s46 : Int) (b0 : List (Int × Int)) (b1 : List Int) (r : AEx × Env × Boxes) (c0 : decide (s46 < s45) = true) (c1 : decide (0 ≤ s46) = true) (c2 : decide (s46 < (((List.length s44) : Nat) : Int)) = true) (c3 : ¬ decide ((List.getD s44 (Int.toNat s46) 0) < s12) = true) (c7 : ¬ decide ((List.getD s44 (Int.toNat s46) 0) > s13) = true) (c10 : decide (s46 > 0) = true) (c14 : decide (0 ≤ (IntKind.wrap .i64 (s46 - (1)))) = true) (c15 : decide ((IntKind.wrap .i64 (s46 - (1))) < (((List.length s14) : Nat) : Int)) = true) (c22 : ¬ decide ((List.getD s14 (Int.toNat (IntKind.wrap .i64 (s46 - (1)))) 0) ≥ (List.getD s44 (Int.toNat s46) 0)) = true) (ih : (turns (hds 3 123145302375936) 0 123145302375936 (evC byref (evCall F S10 (m + 24)) (m + 24) 0 (hds 3) lbl3_0) n (l3_0H s10 s11 s12 s13 s14 s44 s45 ((IntKind.wrap .i64 (s46 + (1)))) b0 ((addKey (.int .i64) b1 (List.getD s44 (Int.toNat s46) 0)))) (l3_0B s10 s11 s12 s13 s14 s44 s45 ((IntKind.wrap .i64 (s46 + (1)))) b0 ((addKey (.int .i64) b1 (List.getD s44 (Int.toNat s46) 0))))).run = some r) : (turns (hds 3 123145302375936) 0 123145302375936 (evC byref (evCall F S10 (m + 24)) (m + 24) 0 (hds 3) lbl3_0) (n + 1) (l3_0H s10 s11 s12 s13 s14 s44 s45 s46 b0 b1) (l3_0B s10 s11 s12 s13 s14 s44 s45 s46 b0 b1)).run = some r := by
  exact turns_step (M.run_of_path _ [true, true, true, false, false, false, false, false, false, false, true, true, true, true, true, true, true, true, true, false, true, false, false] _ _ (by kernel_rfl) (all_t c0 (all_t c1 (all_t c2 (all_f c3 (all_f c3 (all_f c3 (all_f c3 (all_f c7 (all_f c7 (all_f c7 (all_t c10 (all_t c10 (all_t c10 (all_t c10 (all_t c14 (all_t c15 (all_t c10 (all_t c10 (all_t c10 (all_f c7 (all_t c10 (all_f c7 (all_f c22 all_nil)))))))))))))))))))))))) ih
set_option maxHeartbeats 20000000 in
theorem l3_0_w1 (m n : Nat) (s10 : List (Int × Int)) (s11 : Int) (s12 : Int) (s13 : Int) (s14 : List Int) (s44 : List Int) (s45 : Int) (s46 : Int) (b0 : List (Int × Int)) (b1 : List Int) (r : AEx × Env × Boxes) (c0 : decide (s46 < s45) = true) (c1 : decide (0 ≤ s46) = true) (c2 : decide (s46 < (((List.length s44) : Nat) : Int)) = true) (c3 : ¬ decide ((List.getD s44 (Int.toNat s46) 0) < s12) = true) (c7 : ¬ decide ((List.getD s44 (Int.toNat s46) 0) > s13) = true) (c10 : ¬ decide (s46 > 0) = true) (ih : (turns (hds 3 123145302375936) 0 123145302375936 (evC byref (evCall F S10 (m + 24)) (m + 24) 0 (hds 3) lbl3_0) n (l3_0H s10 s11 s12 s13 s14 s44 s45 ((IntKind.wrap .i64 (s46 + (1)))) b0 ((addKey (.int .i64) b1 (List.getD s44 (Int.toNat s46) 0)))) (l3_0B s10 s11 s12 s13 s14 s44 s45 ((IntKind.wrap .i64 (s46 + (1)))) b0 ((addKey (.int .i64) b1 (List.getD s44 (Int.toNat s46) 0))))).run = some r) : (turns (hds 3 123145302375936) 0 123145302375936 (evC byref (evCall F S10 (m + 24)) (m + 24) 0 (hds 3) lbl3_0) (n + 1) (l3_0H s10 s11 s12 s13 s14 s44 s45 s46 b0 b1) (l3_0B s10 s11 s12 s13 s14 s44 s45 s46 b0 b1)).run = some r := by
  exact turns_step (M.run_of_path _ [true, true, true, false, false, false, false, false, false, false, false, false, false, false, false, false, false, false, false, false, false] _ _ (by kernel_rfl) (all_t c0 (all_t c1 (all_t c2 (all_f c3 (all_f c3 (all_f c3 (all_f c3 (all_f c7 (all_f c7 (all_f c7 (all_f c10 (all_f c10 (all_f c10 (all_f c10 (all_f c10 (all_f c10 (all_f c10 (all_f c7 (all_f c10 (all_f c7 (all_f Bool.false_ne_true all_nil)))))))))))))))))))))) ih
set_option maxHeartbeats 20000000 in
theorem l3_0_w2 (m n : Nat) (s10 : List (Int × Int)) (s11 : Int) (s12 : Int) (s13 : Int) (s14 : List Int) (s44 : List Int) (s45 : Int) (s46 : Int) (b0 : List (Int × Int)) (b1 : List Int) (c0 : ¬ decide (s46 < s45) = true) : (turns (hds 3 123145302375936) 0 123145302375936 (evC byref (evCall F S10 (m + 24)) (m + 24) 0 (hds 3) lbl3_0) (n + 1) (l3_0H s10 s11 s12 s13 s14 s44 s45 s46 b0 b1) (l3_0B s10 s11 s12 s13 s14 s44 s45 s46 b0 b1)).run = some (.exit 0, [.top, .top, .top, .top, .top, .top, .top, .top, .top, (.ptr 0 0), (.d (.sl (.pair (.int .i64) (.int .i64)) s10)), (.d (.int .i64 s11)), (.d (.int .i64 s12)), (.d (.int .i64 s13)), (.d (.sl (.int .i64) s14)), (.mp 1), .top, .top, .top, .top, .top, .top, .top, .top, .top, .top, .top, .top, .top, .top, .top, .top, .top, .top, .top, .top, .top, .top, .top, .top, .top, .top, .top, .top, (.d (.sl (.int .i64) s44)), (.d (.int .i64 s45)), (.d (.int .i64 s46)), (.d (.bool (decide (s46 < s45)))), .top, .top, .top, .top, .top, .top, .top, .top, .top, .top, .top, .top, .top, .top, .top, .top, .top, .top, .top, .top, .top, .top, .top, .top, .top, .top, .top, .top, .top, .top, .top, .top, .top, .top, .top, .top, .top, .top, .top, .top, .top, .top, .top, .top, .top, .top, .top, .top, .top, .top, .top, .top, .top, .top, .top, .top, .top, .top, .top, .top, .top, .top, .top, .top, .top, .top, .top, .top, .top, .top, .top, .top, .top, .top, .top, .top, .top, .top, .top, .top, .top, .top, .top, .top, .top, .top, .top, .top, .top, .top, .top, .top, .top, .top, .top, .top, .top, .top, .top, .top, .top, .top, .top, .top, .top, .top, .top, .top, .top, .top], [(.cells [(.d (.sl (.pair (.int .i64) (.int .i64)) b0))]), (.keys (.int .i64) b1)]) := by
  exact turns_last (by simp) (M.run_of_path _ [false] _ _ (by kernel_rfl) (all_f c0 all_nil)) 

set_option maxHeartbeats 20000000 in
theorem l3_0_step (m n : Nat) (ih : ∀ (s10 : List (Int × Int)) (s11 : Int) (s12 : Int) (s13 : Int) (s14 : List Int) (s44 : List Int) (s45 : Int) (s46 : Int) (b0 : List (Int × Int)) (b1 : List Int) (q : Nat × Int × (List Int)), l3_0 m n s10 s11 s12 s13 s14 s44 s45 s46 b0 b1 = some q → (turns (hds 3 123145302375936) 0 123145302375936 (evC byref (evCall F S10 (m + 24)) (m + 24) 0 (hds 3) lbl3_0) n (l3_0H s10 s11 s12 s13 s14 s44 s45 s46 b0 b1) (l3_0B s10 s11 s12 s13 s14 s44 s45 s46 b0 b1)).run = some (l3_0E (s10) (s11) (s12) (s13) (s14) (s44) (s45) (q.2.1) (b0) (q.2.2) q.1)) (s10 : List (Int × Int)) (s11 : Int) (s12 : Int) (s13 : Int) (s14 : List Int) (s44 : List Int) (s45 : Int) (s46 : Int) (b0 : List (Int × Int)) (b1 : List Int) (q : Nat × Int × (List Int)) (h : l3_0 m (n + 1) s10 s11 s12 s13 s14 s44 s45 s46 b0 b1 = some q) : (turns (hds 3 123145302375936) 0 123145302375936 (evC byref (evCall F S10 (m + 24)) (m + 24) 0 (hds 3) lbl3_0) (n + 1) (l3_0H s10 s11 s12 s13 s14 s44 s45 s46 b0 b1) (l3_0B s10 s11 s12 s13 s14 s44 s45 s46 b0 b1)).run = some (l3_0E (s10) (s11) (s12) (s13) (s14) (s44) (s45) (q.2.1) (b0) (q.2.2) q.1) := by
  rw [l3_0] at h
  refine ite_cases h (fun c0 h => ?_) (fun c0 h => ?_)
  · skip
    refine ite_cases h (fun c1 h => ?_) (fun c1 h => ?_)
    · skip
      refine ite_cases h (fun c2 h => ?_) (fun c2 h => ?_)
      · skip
        refine ite_cases h (fun c3 h => ?_) (fun c3 h => ?_)
        · skip
          cases h
        · skip
          refine ite_cases h (fun c7 h => ?_) (fun c7 h => ?_)
          · skip
            cases h
          · skip
            refine ite_cases h (fun c10 h => ?_) (fun c10 h => ?_)
            · skip
              refine ite_cases h (fun c14 h => ?_) (fun c14 h => ?_)
              · skip
                refine ite_cases h (fun c15 h => ?_) (fun c15 h => ?_)
                · skip
                  refine ite_cases h (fun c22 h => ?_) (fun c22 h => ?_)
                  · skip
                    cases h
                  · skip
                    exact l3_0_w0 m n s10 s11 s12 s13 s14 s44 s45 s46 b0 b1 _ c0 c1 c2 c3 c7 c10 c14 c15 c22 (ih _ _ _ _ _ _ _ _ _ _ q h)
                · skip
                  cases h
              · skip
                cases h
            · skip
              exact l3_0_w1 m n s10 s11 s12 s13 s14 s44 s45 s46 b0 b1 _ c0 c1 c2 c3 c7 c10 (ih _ _ _ _ _ _ _ _ _ _ q h)
      · skip
        cases h
    · skip
      cases h
  · skip
    cases h
    exact l3_0_w2 m n s10 s11 s12 s13 s14 s44 s45 s46 b0 b1 c0
set_option maxHeartbeats 20000000 in
theorem l3_0_ok (m : Nat) : ∀ (n : Nat) (s10 : List (Int × Int)) (s11 : Int) (s12 : Int) (s13 : Int) (s14 : List Int) (s44 : List Int) (s45 : Int) (s46 : Int) (b0 : List (Int × Int)) (b1 : List Int) (q : Nat × Int × (List Int)), l3_0 m n s10 s11 s12 s13 s14 s44 s45 s46 b0 b1 = some q → (turns (hds 3 123145302375936) 0 123145302375936 (evC byref (evCall F S10 (m + 24)) (m + 24) 0 (hds 3) lbl3_0) n (l3_0H s10 s11 s12 s13 s14 s44 s45 s46 b0 b1) (l3_0B s10 s11 s12 s13 s14 s44 s45 s46 b0 b1)).run = some (l3_0E (s10) (s11) (s12) (s13) (s14) (s44) (s45) (q.2.1) (b0) (q.2.2) q.1)
  | 0, s10, s11, s12, s13, s14, s44, s45, s46, b0, b1, q, h => by cases h
  | n + 1, s10, s11, s12, s13, s14, s44, s45, s46, b0, b1, q, h => l3_0_step m n (l3_0_ok m n) s10 s11 s12 s13 s14 s44 s45 s46 b0 b1 q h

def l3_2 (m : Nat) : Nat → List (Int × Int) → Int → Int → Int → List (Int × Int) → List Int → Bool → Bool → Int → Int → Option (Nat × Bool × Bool × Int)
  | 0, _, _, _, _, _, _, _, _, _, _ => none
  | n + 1, s10, s11, s13, s18, b0, b1, s23', s24', s109', s110' => if decide (s110' < s109') = true then
      if decide (0 ≤ s110') = true then
        if decide (s110' < (((List.length s10) : Nat) : Int)) = true then
          if s23' = true then
            if s24' = true then
              l3_2 m n s10 s11 s13 s18 b0 b1 true true s109' ((IntKind.wrap .i64 (s110' + (1))))
            else
              if ((IntKind.wrap .i64 ((List.getD s10 (Int.toNat s110') (0, 0)).1 + s11)) == s18) = true then
                if ((IntKind.wrap .i64 (s110' + (1))) == (((List.length s10) : Nat) : Int)) = true then
                  l3_2 m n s10 s11 s13 s18 b0 b1 true true s109' ((IntKind.wrap .i64 (s110' + (1))))
                else
                  if decide (0 ≤ (IntKind.wrap .i64 (s110' + (1)))) = true then
                    if decide ((IntKind.wrap .i64 (s110' + (1))) < (((List.length s10) : Nat) : Int)) = true then
                      l3_2 m n s10 s11 s13 s18 b0 b1 true (decide ((List.getD s10 (Int.toNat (IntKind.wrap .i64 (s110' + (1)))) (0, 0)).1 > s18)) s109' ((IntKind.wrap .i64 (s110' + (1))))
                    else
                      none
                  else
                    none
              else
                l3_2 m n s10 s11 s13 s18 b0 b1 true false s109' ((IntKind.wrap .i64 (s110' + (1))))
          else
            if s24' = true then
              l3_2 m n s10 s11 s13 s18 b0 b1 (((List.getD s10 (Int.toNat s110') (0, 0)).1 == s18)) true s109' ((IntKind.wrap .i64 (s110' + (1))))
            else
              if ((IntKind.wrap .i64 ((List.getD s10 (Int.toNat s110') (0, 0)).1 + s11)) == s18) = true then
                if ((IntKind.wrap .i64 (s110' + (1))) == (((List.length s10) : Nat) : Int)) = true then
                  l3_2 m n s10 s11 s13 s18 b0 b1 (((List.getD s10 (Int.toNat s110') (0, 0)).1 == s18)) true s109' ((IntKind.wrap .i64 (s110' + (1))))
                else
                  if decide (0 ≤ (IntKind.wrap .i64 (s110' + (1)))) = true then
                    if decide ((IntKind.wrap .i64 (s110' + (1))) < (((List.length s10) : Nat) : Int)) = true then
                      l3_2 m n s10 s11 s13 s18 b0 b1 (((List.getD s10 (Int.toNat s110') (0, 0)).1 == s18)) (decide ((List.getD s10 (Int.toNat (IntKind.wrap .i64 (s110' + (1)))) (0, 0)).1 > s18)) s109' ((IntKind.wrap .i64 (s110' + (1))))
                    else
                      none
                  else
                    none
              else
                l3_2 m n s10 s11 s13 s18 b0 b1 (((List.getD s10 (Int.toNat s110') (0, 0)).1 == s18)) false s109' ((IntKind.wrap .i64 (s110' + (1))))
        else
          none
      else
        none
    else
      some (0, s23', s24', s110')
def l3_2D : Nat × Bool × Bool × Int := (0, false, false, 0)
@[reducible] def l3_2R (m n : Nat) (s10 : List (Int × Int)) (s11 : Int) (s13 : Int) (s18 : Int) (b0 : List (Int × Int)) (b1 : List Int) (s23' : Bool) (s24' : Bool) (s109' : Int) (s110' : Int) : Nat × Bool × Bool × Int := Option.getD (l3_2 m n s10 s11 s13 s18 b0 b1 s23' s24' s109' s110') l3_2D
def l3_2H (s10 : List (Int × Int)) (s11 : Int) (s13 : Int) (s18 : Int) (b0 : List (Int × Int)) (b1 : List Int) (s23' : Bool) (s24' : Bool) (s109' : Int) (s110' : Int) : Env := [.top, .top, .top, .top, .top, .top, .top, .top, .top, (.ptr 0 0), (.d (.sl (.pair (.int .i64) (.int .i64)) s10)), (.d (.int .i64 s11)), .top, (.d (.int .i64 s13)), .top, (.mp 1), .top, .top, (.d (.int .i64 s18)), .top, .top, .top, .top, (.d (.bool (s23'))), (.d (.bool (s24'))), .top, .top, .top, .top, .top, .top, .top, .top, .top, .top, .top, .top, .top, .top, .top, .top, .top, .top, .top, .top, .top, .top, .top, .top, .top, .top, .top, .top, .top, .top, .top, .top, .top, .top, .top, .top, .top, .top, .top, .top, .top, .top, .top, .top, .top, .top, .top, .top, .top, .top, .top, .top, .top, .top, .top, .top, .top, .top, .top, .top, .top, .top, .top, .top, .top, .top, .top, .top, .top, .top, .top, .top, .top, .top, .top, .top, .top, .top, .top, .top, .top, .top, .top, (.d (.sl (.pair (.int .i64) (.int .i64)) s10)), (.d (.int .i64 s109')), (.d (.int .i64 s110')), .top, .top, .top, .top, .top, .top, .top, .top, .top, .top, .top, .top, .top, .top, .top, .top, .top, .top, .top, .top, .top, .top, .top, .top, .top, .top, .top, .top, .top, .top, .top, .top, .top, .top, .top, .top, .top, .top, .top, .top, .top, .top, .top, .top, .top, .top, .top]
def l3_2B (s10 : List (Int × Int)) (s11 : Int) (s13 : Int) (s18 : Int) (b0 : List (Int × Int)) (b1 : List Int) (s23' : Bool) (s24' : Bool) (s109' : Int) (s110' : Int) : Boxes := [(.cells [(.d (.sl (.pair (.int .i64) (.int .i64)) b0))]), (.keys (.int .i64) b1)]
def l3_2E (s10 : List (Int × Int)) (s11 : Int) (s13 : Int) (s18 : Int) (b0 : List (Int × Int)) (b1 : List Int) (s23' : Bool) (s24' : Bool) (s109' : Int) (s110' : Int) : Nat → AEx × Env × Boxes
  | _ => (.exit 4, [.top, .top, .top, .top, .top, .top, .top, .top, .top, (.ptr 0 0), (.d (.sl (.pair (.int .i64) (.int .i64)) s10)), (.d (.int .i64 s11)), .top, (.d (.int .i64 s13)), .top, (.mp 1), .top, .top, (.d (.int .i64 s18)), .top, .top, .top, .top, (.d (.bool (s23'))), (.d (.bool (s24'))), .top, .top, .top, .top, .top, .top, .top, .top, .top, .top, .top, .top, .top, .top, .top, .top, .top, .top, .top, .top, .top, .top, .top, .top, .top, .top, .top, .top, .top, .top, .top, .top, .top, .top, .top, .top, .top, .top, .top, .top, .top, .top, .top, .top, .top, .top, .top, .top, .top, .top, .top, .top, .top, .top, .top, .top, .top, .top, .top, .top, .top, .top, .top, .top, .top, .top, .top, .top, .top, .top, .top, .top, .top, .top, .top, .top, .top, .top, .top, .top, .top, .top, .top, (.d (.sl (.pair (.int .i64) (.int .i64)) s10)), (.d (.int .i64 s109')), (.d (.int .i64 s110')), (.d (.bool (decide (s110' < s109')))), .top, .top, .top, .top, .top, .top, .top, .top, .top, .top, .top, .top, .top, .top, .top, .top, .top, .top, .top, .top, .top, .top, .top, .top, .top, .top, .top, .top, .top, .top, .top, .top, .top, .top, .top, .top, .top, .top, .top, .top, .top, .top, .top, .top, .top, .top], [(.cells [(.d (.sl (.pair (.int .i64) (.int .i64)) b0))]), (.keys (.int .i64) b1)])
noncomputable def lbl3_2 : AC := loopBody 2271629875608987087482092169506304 body3

set_option maxHeartbeats 20000000 in
theorem l3_2_w0 (m n : Nat) (s10 : List (Int × Int)) (s11 : Int) (s13 : Int) (s18 : Int) (b0 : List (Int × Int)) (b1 : List Int) (s23' : Bool) (s24' : Bool) (s109' : Int) (s110' : Int) (r : AEx × Env × Boxes) (c0 : decide (s110' < s109') = true) (c1 : decide (0 ≤ s110') = true) (c2 : decide (s110' < (((List.length s10) : Nat) : Int)) = true) (c3 : s23' = true) (c8 : s24' = true) (ih : (turns (hds 3 2271629875608987087482092169506304) 0 2271629875608987087482092169506304 (evC byref (evCall F S10 (m + 24)) (m + 24) 0 (hds 3) lbl3_2) n (l3_2H s10 s11 s13 s18 b0 b1 true true s109' ((IntKind.wrap .i64 (s110' + (1))))) (l3_2B s10 s11 s13 s18 b0 b1 true true s109' ((IntKind.wrap .i64 (s110' + (1)))))).run = some r) : (turns (hds 3 2271629875608987087482092169506304) 0 2271629875608987087482092169506304 (evC byref (evCall F S10 (m + 24)) (m + 24) 0 (hds 3) lbl3_2) (n + 1) (l3_2H s10 s11 s13 s18 b0 b1 s23' s24' s109' s110') (l3_2B s10 s11 s13 s18 b0 b1 s23' s24' s109' s110')).run = some r := by
  exact turns_step (M.run_of_path _ [true, true, true, true, true, true, true, true, true, true, true, true, true, true, true, true, true] _ _ (by kernel_rfl) (all_t c0 (all_t c1 (all_t c2 (all_t c3 (all_t c3 (all_t c3 (all_t c3 (all_t c3 (all_t c8 (all_t c8 (all_t c8 (all_t c8 (all_t c8 (all_t c8 (all_t c8 (all_t c8 (all_t c8 all_nil)))))))))))))))))) ih
set_option maxHeartbeats 20000000 in
theorem l3_2_w1 (m n : Nat) (s10 : List (Int × Int)) (s11 : Int) (s13 : Int) (s18 : Int) (b0 : List (Int × Int)) (b1 : List Int) (s23' : Bool) (s24' : Bool) (s109' : Int) (s110' : Int) (r : AEx × Env × Boxes) (c0 : decide (s110' < s109') = true) (c1 : decide (0 ≤ s110') = true) (c2 : decide (s110' < (((List.length s10) : Nat) : Int)) = true) (c3 : s23' = true) (c8 : ¬ s24' = true) (c15 : ((IntKind.wrap .i64 ((List.getD s10 (Int.toNat s110') (0, 0)).1 + s11)) == s18) = true) (c21 : ((IntKind.wrap .i64 (s110' + (1))) == (((List.length s10) : Nat) : Int)) = true) (ih : (turns (hds 3 2271629875608987087482092169506304) 0 2271629875608987087482092169506304 (evC byref (evCall F S10 (m + 24)) (m + 24) 0 (hds 3) lbl3_2) n (l3_2H s10 s11 s13 s18 b0 b1 true true s109' ((IntKind.wrap .i64 (s110' + (1))))) (l3_2B s10 s11 s13 s18 b0 b1 true true s109' ((IntKind.wrap .i64 (s110' + (1)))))).run = some r) : (turns (hds 3 2271629875608987087482092169506304) 0 2271629875608987087482092169506304 (evC byref (evCall F S10 (m + 24)) (m + 24) 0 (hds 3) lbl3_2) (n + 1) (l3_2H s10 s11 s13 s18 b0 b1 s23' s24' s109' s110') (l3_2B s10 s11 s13 s18 b0 b1 s23' s24' s109' s110')).run = some r := by
  exact turns_step (M.run_of_path _ [true, true, true, true, true, true, true, true, false, false, false, false, false, false, false, true, true, true, true, true, true, true, true, true, true, true, true, true, true, true, true, false, true, false] _ _ (by kernel_rfl) (all_t c0 (all_t c1 (all_t c2 (all_t c3 (all_t c3 (all_t c3 (all_t c3 (all_t c3 (all_f c8 (all_f c8 (all_f c8 (all_f c8 (all_f c8 (all_f c8 (all_f c8 (all_t c15 (all_t c15 (all_t c15 (all_t c15 (all_t c15 (all_t c15 (all_t c21 (all_t c21 (all_t c21 (all_t c21 (all_t c21 (all_t c21 (all_t c21 (all_t c21 (all_t c15 (all_t c21 (all_f c8 (all_t c15 (all_f c8 all_nil))))))))))))))))))))))))))))))))))) ih
set_option maxHeartbeats 20000000 in
theorem l3_2_w2 (m n : Nat) (s10 : List (Int × Int)) (s11 : Int) (s13 : Int) (s18 : Int) (b0 : List (Int × Int)) (b1 : List Int) (s23' : Bool) (s24' : Bool) (s109' : Int) (s110' : Int) (r : AEx × Env × Boxes) (c0 : decide (s110' < s109') = true) (c1 : decide (0 ≤ s110') = true) (c2 : decide (s110' < (((List.length s10) : Nat) : Int)) = true) (c3 : s23' = true) (c8 : ¬ s24' = true) (c15 : ((IntKind.wrap .i64 ((List.getD s10 (Int.toNat s110') (0, 0)).1 + s11)) == s18) = true) (c21 : ¬ ((IntKind.wrap .i64 (s110' + (1))) == (((List.length s10) : Nat) : Int)) = true) (c25 : decide (0 ≤ (IntKind.wrap .i64 (s110' + (1)))) = true) (c26 : decide ((IntKind.wrap .i64 (s110' + (1))) < (((List.length s10) : Nat) : Int)) = true) (ih : (turns (hds 3 2271629875608987087482092169506304) 0 2271629875608987087482092169506304 (evC byref (evCall F S10 (m + 24)) (m + 24) 0 (hds 3) lbl3_2) n (l3_2H s10 s11 s13 s18 b0 b1 true (decide ((List.getD s10 (Int.toNat (IntKind.wrap .i64 (s110' + (1)))) (0, 0)).1 > s18)) s109' ((IntKind.wrap .i64 (s110' + (1))))) (l3_2B s10 s11 s13 s18 b0 b1 true (decide ((List.getD s10 (Int.toNat (IntKind.wrap .i64 (s110' + (1)))) (0, 0)).1 > s18)) s109' ((IntKind.wrap .i64 (s110' + (1)))))).run = some r) : (turns (hds 3 2271629875608987087482092169506304) 0 2271629875608987087482092169506304 (evC byref (evCall F S10 (m + 24)) (m + 24) 0 (hds 3) lbl3_2) (n + 1) (l3_2H s10 s11 s13 s18 b0 b1 s23' s24' s109' s110') (l3_2B s10 s11 s13 s18 b0 b1 s23' s24' s109' s110')).run = some r := by
  exact turns_step (M.run_of_path _ [true, true, true, true, true, true, true, true, false, false, false, false, false, false, false, true, true, true, true, true, true, false, false, false, false, true, true, false, false, false, false, true, false, false, true, false] _ _ (by kernel_rfl) (all_t c0 (all_t c1 (all_t c2 (all_t c3 (all_t c3 (all_t c3 (all_t c3 (all_t c3 (all_f c8 (all_f c8 (all_f c8 (all_f c8 (all_f c8 (all_f c8 (all_f c8 (all_t c15 (all_t c15 (all_t c15 (all_t c15 (all_t c15 (all_t c15 (all_f c21 (all_f c21 (all_f c21 (all_f c21 (all_t c25 (all_t c26 (all_f c21 (all_f c21 (all_f c21 (all_f c21 (all_t c15 (all_f c21 (all_f c8 (all_t c15 (all_f c8 all_nil))))))))))))))))))))))))))))))))))))) ih
set_option maxHeartbeats 20000000 in
theorem l3_2_w3 (m n : Nat) (s10 : List (Int × Int)) (s11 : Int) (s13 : Int) (s18 : Int) (b0 : List (Int × Int)) (b1 : List Int) (s23' : Bool) (s24' : Bool) (s109' : Int) (s110' : Int) (r : AEx × Env × Boxes) (c0 : decide (s110' < s109') = true) (c1 : decide (0 ≤ s110') = true) (c2 : decide (s110' < (((List.length s10) : Nat) : Int)) = true) (c3 : s23' = true) (c8 : ¬ s24' = true) (c15 : ¬ ((IntKind.wrap .i64 ((List.getD s10 (Int.toNat s110') (0, 0)).1 + s11)) == s18) = true) (ih : (turns (hds 3 2271629875608987087482092169506304) 0 2271629875608987087482092169506304 (evC byref (evCall F S10 (m + 24)) (m + 24) 0 (hds 3) lbl3_2) n (l3_2H s10 s11 s13 s18 b0 b1 true false s109' ((IntKind.wrap .i64 (s110' + (1))))) (l3_2B s10 s11 s13 s18 b0 b1 true false s109' ((IntKind.wrap .i64 (s110' + (1)))))).run = some r) : (turns (hds 3 2271629875608987087482092169506304) 0 2271629875608987087482092169506304 (evC byref (evCall F S10 (m + 24)) (m + 24) 0 (hds 3) lbl3_2) (n + 1) (l3_2H s10 s11 s13 s18 b0 b1 s23' s24' s109' s110') (l3_2B s10 s11 s13 s18 b0 b1 s23' s24' s109' s110')).run = some r := by
  exact turns_step (M.run_of_path _ [true, true, true, true, true, true, true, true, false, false, false, false, false, false, false, false, false, false, false, false, false, false, false, false, false] _ _ (by kernel_rfl) (all_t c0 (all_t c1 (all_t c2 (all_t c3 (all_t c3 (all_t c3 (all_t c3 (all_t c3 (all_f c8 (all_f c8 (all_f c8 (all_f c8 (all_f c8 (all_f c8 (all_f c8 (all_f c15 (all_f c15 (all_f c15 (all_f c15 (all_f c15 (all_f c15 (all_f c15 (all_f c8 (all_f c15 (all_f c8 all_nil)))))))))))))))))))))))))) ih
set_option maxHeartbeats 20000000 in
theorem l3_2_w4 (m n : Nat) (s10 : List (Int × Int)) (s11 : Int) (s13 : Int) (s18 : Int) (b0 : List (Int × Int)) (b1 : List Int) (s23' : Bool) (s24' : Bool) (s109' : Int) (s110' : Int) (r : AEx × Env × Boxes) (c0 : decide (s110' < s109') = true) (c1 : decide (0 ≤ s110') = true) (c2 : decide (s110' < (((List.length s10) : Nat) : Int)) = true) (c3 : ¬ s23' = true) (c8 : s24' = true) (ih : (turns (hds 3 2271629875608987087482092169506304) 0 2271629875608987087482092169506304 (evC byref (evCall F S10 (m + 24)) (m + 24) 0 (hds 3) lbl3_2) n (l3_2H s10 s11 s13 s18 b0 b1 (((List.getD s10 (Int.toNat s110') (0, 0)).1 == s18)) true s109' ((IntKind.wrap .i64 (s110' + (1))))) (l3_2B s10 s11 s13 s18 b0 b1 (((List.getD s10 (Int.toNat s110') (0, 0)).1 == s18)) true s109' ((IntKind.wrap .i64 (s110' + (1)))))).run = some r) : (turns (hds 3 2271629875608987087482092169506304) 0 2271629875608987087482092169506304 (evC byref (evCall F S10 (m + 24)) (m + 24) 0 (hds 3) lbl3_2) (n + 1) (l3_2H s10 s11 s13 s18 b0 b1 s23' s24' s109' s110') (l3_2B s10 s11 s13 s18 b0 b1 s23' s24' s109' s110')).run = some r := by
  exact turns_step (M.run_of_path _ [true, true, true, false, false, false, false, false, true, true, true, true, true, true, true, true, true] _ _ (by kernel_rfl) (all_t c0 (all_t c1 (all_t c2 (all_f c3 (all_f c3 (all_f c3 (all_f c3 (all_f c3 (all_t c8 (all_t c8 (all_t c8 (all_t c8 (all_t c8 (all_t c8 (all_t c8 (all_t c8 (all_t c8 all_nil)))))))))))))))))) ih
set_option maxHeartbeats 20000000 in
theorem l3_2_w5 (m n : Nat) (s10 : List (Int × Int)) (s11 : Int) (s13 : Int) (s18 : Int) (b0 : List (Int × Int)) (b1 : List Int) (s23' : Bool) (s24' : Bool) (s109' : Int) (s110' : Int) (r : AEx × Env × Boxes) (c0 : decide (s110' < s109') = true) (c1 : decide (0 ≤ s110') = true) (c2 : decide (s110' < (((List.length s10) : Nat) : Int)) = true) (c3 : ¬ s23' = true) (c8 : ¬ s24' = true) (c15 : ((IntKind.wrap .i64 ((List.getD s10 (Int.toNat s110') (0, 0)).1 + s11)) == s18) = true) (c21 : ((IntKind.wrap .i64 (s110' + (1))) == (((List.length s10) : Nat) : Int)) = true) (ih : (turns (hds 3 2271629875608987087482092169506304) 0 2271629875608987087482092169506304 (evC byref (evCall F S10 (m + 24)) (m + 24) 0 (hds 3) lbl3_2) n (l3_2H s10 s11 s13 s18 b0 b1 (((List.getD s10 (Int.toNat s110') (0, 0)).1 == s18)) true s109' ((IntKind.wrap .i64 (s110' + (1))))) (l3_2B s10 s11 s13 s18 b0 b1 (((List.getD s10 (Int.toNat s110') (0, 0)).1 == s18)) true s109' ((IntKind.wrap .i64 (s110' + (1)))))).run = some r) : (turns (hds 3 2271629875608987087482092169506304) 0 2271629875608987087482092169506304 (evC byref (evCall F S10 (m + 24)) (m + 24) 0 (hds 3) lbl3_2) (n + 1) (l3_2H s10 s11 s13 s18 b0 b1 s23' s24' s109' s110') (l3_2B s10 s11 s13 s18 b0 b1 s23' s24' s109' s110')).run = some r := by
  exact turns_step (M.run_of_path _ [true, true, true, false, false, false, false, false, false, false, false, false, false, false, false, true, true, true, true, true, true, true, true, true, true, true, true, true, true, true, true, false, true, false] _ _ (by kernel_rfl) (all_t c0 (all_t c1 (all_t c2 (all_f c3 (all_f c3 (all_f c3 (all_f c3 (all_f c3 (all_f c8 (all_f c8 (all_f c8 (all_f c8 (all_f c8 (all_f c8 (all_f c8 (all_t c15 (all_t c15 (all_t c15 (all_t c15 (all_t c15 (all_t c15 (all_t c21 (all_t c21 (all_t c21 (all_t c21 (all_t c21 (all_t c21 (all_t c21 (all_t c21 (all_t c15 (all_t c21 (all_f c8 (all_t c15 (all_f c8 all_nil))))))))))))))))))))))))))))))))))) ih
set_option maxHeartbeats 20000000 in
theorem l3_2_w6 (m n : Nat) (s10 : List (Int × Int)) (s11 : Int) (s13 : Int) (s18 : Int) (b0 : List (Int × Int)) (b1 : List Int) (s23' : Bool) (s24' : Bool) (s109' : Int) (s110' : Int) (r : AEx × Env × Boxes) (c0 : decide (s110' < s109') = true) (c1 : decide (0 ≤ s110') = true) (c2 : decide (s110' < (((List.length s10) : Nat) : Int)) = true) (c3 : ¬ s23' = true) (c8 : ¬ s24' = true) (c15 : ((IntKind.wrap .i64 ((List.getD s10 (Int.toNat s110') (0, 0)).1 + s11)) == s18) = true) (c21 : ¬ ((IntKind.wrap .i64 (s110' + (1))) == (((List.length s10) : Nat) : Int)) = true) (c25 : decide (0 ≤ (IntKind.wrap .i64 (s110' + (1)))) = true) (c26 : decide ((IntKind.wrap .i64 (s110' + (1))) < (((List.length s10) : Nat) : Int)) = true) (ih : (turns (hds 3 2271629875608987087482092169506304) 0 2271629875608987087482092169506304 (evC byref (evCall F S10 (m + 24)) (m + 24) 0 (hds 3) lbl3_2) n (l3_2H s10 s11 s13 s18 b0 b1 (((List.getD s10 (Int.toNat s110') (0, 0)).1 == s18)) (decide ((List.getD s10 (Int.toNat (IntKind.wrap .i64 (s110' + (1)))) (0, 0)).1 > s18)) s109' ((IntKind.wrap .i64 (s110' + (1))))) (l3_2B s10 s11 s13 s18 b0 b1 (((List.getD s10 (Int.toNat s110') (0, 0)).1 == s18)) (decide ((List.getD s10 (Int.toNat (IntKind.wrap .i64 (s110' + (1)))) (0, 0)).1 > s18)) s109' ((IntKind.wrap .i64 (s110' + (1)))))).run = some r) : (turns (hds 3 2271629875608987087482092169506304) 0 2271629875608987087482092169506304 (evC byref (evCall F S10 (m + 24)) (m + 24) 0 (hds 3) lbl3_2) (n + 1) (l3_2H s10 s11 s13 s18 b0 b1 s23' s24' s109' s110') (l3_2B s10 s11 s13 s18 b0 b1 s23' s24' s109' s110')).run = some r := by
  exact turns_step (M.run_of_path _ [true, true, true, false, false, false, false, false, false, false, false, false, false, false, false, true, true, true, true, true, true, false, false, false, false, true, true, false, false, false, false, true, false, false, true, false] _ _ (by kernel_rfl) (all_t c0 (all_t c1 (all_t c2 (all_f c3 (all_f c3 (all_f c3 (all_f c3 (all_f c3 (all_f c8 (all_f c8 (all_f c8 (all_f c8 (all_f c8 (all_f c8 (all_f c8 (all_t c15 (all_t c15 (all_t c15 (all_t c15 (all_t c15 (all_t c15 (all_f c21 (all_f c21 (all_f c21 (all_f c21 (all_t c25 (all_t c26 (all_f c21 (all_f c21 (all_f c21 (all_f c21 (all_t c15 (all_f c21 (all_f c8 (all_t c15 (all_f c8 all_nil))))))))))))))))))))))))))))))))))))) ih
set_option maxHeartbeats 20000000 in
theorem l3_2_w7 (m n : Nat) (s10 : List (Int × Int)) (s11 : Int) (s13 : Int) (s18 : Int) (b0 : List (Int × Int)) (b1 : List Int) (s23' : Bool) (s24' : Bool) (s109' : Int) (s110' : Int) (r : AEx × Env × Boxes) (c0 : decide (s110' < s109') = true) (c1 : decide (0 ≤ s110') = true) (c2 : decide (s110' < (((List.length s10) : Nat) : Int)) = true) (c3 : ¬ s23' = true) (c8 : ¬ s24' = true) (c15 : ¬ ((IntKind.wrap .i64 ((List.getD s10 (Int.toNat s110') (0, 0)).1 + s11)) == s18) = true) (ih : (turns (hds 3 2271629875608987087482092169506304) 0 2271629875608987087482092169506304 (evC byref (evCall F S10 (m + 24)) (m + 24) 0 (hds 3) lbl3_2) n (l3_2H s10 s11 s13 s18 b0 b1 (((List.getD s10 (Int.toNat s110') (0, 0)).1 == s18)) false s109' ((IntKind.wrap .i64 (s110' + (1))))) (l3_2B s10 s11 s13 s18 b0 b1 (((List.getD s10 (Int.toNat s110') (0, 0)).1 == s18)) false s109' ((IntKind.wrap .i64 (s110' + (1)))))).run = some r) : (turns (hds 3 2271629875608987087482092169506304) 0 2271629875608987087482092169506304 (evC byref (evCall F S10 (m + 24)) (m + 24) 0 (hds 3) lbl3_2) (n + 1) (l3_2H s10 s11 s13 s18 b0 b1 s23' s24' s109' s110') (l3_2B s10 s11 s13 s18 b0 b1 s23' s24' s109' s110')).run = some r := by
  exact turns_step (M.run_of_path _ [true, true, true, false, false, false, false, false, false, false, false, false, false, false, false, false, false, false, false, false, false, false, false, false, false] _ _ (by kernel_rfl) (all_t c0 (all_t c1 (all_t c2 (all_f c3 (all_f c3 (all_f c3 (all_f c3 (all_f c3 (all_f c8 (all_f c8 (all_f c8 (all_f c8 (all_f c8 (all_f c8 (all_f c8 (all_f c15 (all_f c15 (all_f c15 (all_f c15 (all_f c15 (all_f c15 (all_f c15 (all_f c8 (all_f c15 (all_f c8 all_nil)))))))))))))))))))))))))) ih
set_option maxHeartbeats 20000000 in
theorem l3_2_w8 (m n : Nat) (s10 : List (Int × Int)) (s11 : Int) (s13 : Int) (s18 : Int) (b0 : List (Int × Int)) (b1 : List Int) (s23' : Bool) (s24' : Bool) (s109' : Int) (s110' : Int) (c0 : ¬ decide (s110' < s109') = true) : (turns (hds 3 2271629875608987087482092169506304) 0 2271629875608987087482092169506304 (evC byref (evCall F S10 (m + 24)) (m + 24) 0 (hds 3) lbl3_2) (n + 1) (l3_2H s10 s11 s13 s18 b0 b1 s23' s24' s109' s110') (l3_2B s10 s11 s13 s18 b0 b1 s23' s24' s109' s110')).run = some (.exit 4, [.top, .top, .top, .top, .top, .top, .top, .top, .top, (.ptr 0 0), (.d (.sl (.pair (.int .i64) (.int .i64)) s10)), (.d (.int .i64 s11)), .top, (.d (.int .i64 s13)), .top, (.mp 1), .top, .top, (.d (.int .i64 s18)), .top, .top, .top, .top, (.d (.bool (s23'))), (.d (.bool (s24'))), .top, .top, .top, .top, .top, .top, .top, .top, .top, .top, .top, .top, .top, .top, .top, .top, .top, .top, .top, .top, .top, .top, .top, .top, .top, .top, .top, .top, .top, .top, .top, .top, .top, .top, .top, .top, .top, .top, .top, .top, .top, .top, .top, .top, .top, .top, .top, .top, .top, .top, .top, .top, .top, .top, .top, .top, .top, .top, .top, .top, .top, .top, .top, .top, .top, .top, .top, .top, .top, .top, .top, .top, .top, .top, .top, .top, .top, .top, .top, .top, .top, .top, .top, (.d (.sl (.pair (.int .i64) (.int .i64)) s10)), (.d (.int .i64 s109')), (.d (.int .i64 s110')), (.d (.bool (decide (s110' < s109')))), .top, .top, .top, .top, .top, .top, .top, .top, .top, .top, .top, .top, .top, .top, .top, .top, .top, .top, .top, .top, .top, .top, .top, .top, .top, .top, .top, .top, .top, .top, .top, .top, .top, .top, .top, .top, .top, .top, .top, .top, .top, .top, .top, .top, .top, .top], [(.cells [(.d (.sl (.pair (.int .i64) (.int .i64)) b0))]), (.keys (.int .i64) b1)]) := by
  exact turns_last (by simp) (M.run_of_path _ [false] _ _ (by kernel_rfl) (all_f c0 all_nil)) 

set_option maxHeartbeats 20000000 in
theorem l3_2_step (m n : Nat) (ih : ∀ (s10 : List (Int × Int)) (s11 : Int) (s13 : Int) (s18 : Int) (b0 : List (Int × Int)) (b1 : List Int) (s23' : Bool) (s24' : Bool) (s109' : Int) (s110' : Int) (q : Nat × Bool × Bool × Int), l3_2 m n s10 s11 s13 s18 b0 b1 s23' s24' s109' s110' = some q → (turns (hds 3 2271629875608987087482092169506304) 0 2271629875608987087482092169506304 (evC byref (evCall F S10 (m + 24)) (m + 24) 0 (hds 3) lbl3_2) n (l3_2H s10 s11 s13 s18 b0 b1 s23' s24' s109' s110') (l3_2B s10 s11 s13 s18 b0 b1 s23' s24' s109' s110')).run = some (l3_2E (s10) (s11) (s13) (s18) (b0) (b1) (q.2.1) (q.2.2.1) (s109') (q.2.2.2) q.1)) (s10 : List (Int × Int)) (s11 : Int) (s13 : Int) (s18 : Int) (b0 : List (Int × Int)) (b1 : List Int) (s23' : Bool) (s24' : Bool) (s109' : Int) (s110' : Int) (q : Nat × Bool × Bool × Int) (h : l3_2 m (n + 1) s10 s11 s13 s18 b0 b1 s23' s24' s109' s110' = some q) : (turns (hds 3 2271629875608987087482092169506304) 0 2271629875608987087482092169506304 (evC byref (evCall F S10 (m + 24)) (m + 24) 0 (hds 3) lbl3_2) (n + 1) (l3_2H s10 s11 s13 s18 b0 b1 s23' s24' s109' s110') (l3_2B s10 s11 s13 s18 b0 b1 s23' s24' s109' s110')).run = some (l3_2E (s10) (s11) (s13) (s18) (b0) (b1) (q.2.1) (q.2.2.1) (s109') (q.2.2.2) q.1) := by
  rw [l3_2] at h
  refine ite_cases h (fun c0 h => ?_) (fun c0 h => ?_)
  · skip
    refine ite_cases h (fun c1 h => ?_) (fun c1 h => ?_)
    · skip
      refine ite_cases h (fun c2 h => ?_) (fun c2 h => ?_)
      · skip
        refine ite_cases h (fun c3 h => ?_) (fun c3 h => ?_)
        · skip
          refine ite_cases h (fun c8 h => ?_) (fun c8 h => ?_)
          · skip
            exact l3_2_w0 m n s10 s11 s13 s18 b0 b1 s23' s24' s109' s110' _ c0 c1 c2 c3 c8 (ih _ _ _ _ _ _ _ _ _ _ q h)
          · skip
            refine ite_cases h (fun c15 h => ?_) (fun c15 h => ?_)
            · skip
              refine ite_cases h (fun c21 h => ?_) (fun c21 h => ?_)
              · skip
                exact l3_2_w1 m n s10 s11 s13 s18 b0 b1 s23' s24' s109' s110' _ c0 c1 c2 c3 c8 c15 c21 (ih _ _ _ _ _ _ _ _ _ _ q h)
              · skip
                refine ite_cases h (fun c25 h => ?_) (fun c25 h => ?_)
                · skip
                  refine ite_cases h (fun c26 h => ?_) (fun c26 h => ?_)
                  · skip
                    exact l3_2_w2 m n s10 s11 s13 s18 b0 b1 s23' s24' s109' s110' _ c0 c1 c2 c3 c8 c15 c21 c25 c26 (ih _ _ _ _ _ _ _ _ _ _ q h)
                  · skip
                    cases h
                · skip
                  cases h
            · skip
              exact l3_2_w3 m n s10 s11 s13 s18 b0 b1 s23' s24' s109' s110' _ c0 c1 c2 c3 c8 c15 (ih _ _ _ _ _ _ _ _ _ _ q h)
        · skip
          refine ite_cases h (fun c8 h => ?_) (fun c8 h => ?_)
          · skip
            exact l3_2_w4 m n s10 s11 s13 s18 b0 b1 s23' s24' s109' s110' _ c0 c1 c2 c3 c8 (ih _ _ _ _ _ _ _ _ _ _ q h)
          · skip
            refine ite_cases h (fun c15 h => ?_) (fun c15 h => ?_)
            · skip
              refine ite_cases h (fun c21 h => ?_) (fun c21 h => ?_)
              · skip
                exact l3_2_w5 m n s10 s11 s13 s18 b0 b1 s23' s24' s109' s110' _ c0 c1 c2 c3 c8 c15 c21 (ih _ _ _ _ _ _ _ _ _ _ q h)
              · skip
                refine ite_cases h (fun c25 h => ?_) (fun c25 h => ?_)
                · skip
                  refine ite_cases h (fun c26 h => ?_) (fun c26 h => ?_)
                  · skip
                    exact l3_2_w6 m n s10 s11 s13 s18 b0 b1 s23' s24' s109' s110' _ c0 c1 c2 c3 c8 c15 c21 c25 c26 (ih _ _ _ _ _ _ _ _ _ _ q h)
                  · skip
                    cases h
                · skip
                  cases h
            · skip
              exact l3_2_w7 m n s10 s11 s13 s18 b0 b1 s23' s24' s109' s110' _ c0 c1 c2 c3 c8 c15 (ih _ _ _ _ _ _ _ _ _ _ q h)
      · skip
        cases h
    · skip
      cases h
  · skip
    cases h
    exact l3_2_w8 m n s10 s11 s13 s18 b0 b1 s23' s24' s109' s110' c0
set_option maxHeartbeats 20000000 in
theorem l3_2_ok (m : Nat) : ∀ (n : Nat) (s10 : List (Int × Int)) (s11 : Int) (s13 : Int) (s18 : Int) (b0 : List (Int × Int)) (b1 : List Int) (s23' : Bool) (s24' : Bool) (s109' : Int) (s110' : Int) (q : Nat × Bool × Bool × Int), l3_2 m n s10 s11 s13 s18 b0 b1 s23' s24' s109' s110' = some q → (turns (hds 3 2271629875608987087482092169506304) 0 2271629875608987087482092169506304 (evC byref (evCall F S10 (m + 24)) (m + 24) 0 (hds 3) lbl3_2) n (l3_2H s10 s11 s13 s18 b0 b1 s23' s24' s109' s110') (l3_2B s10 s11 s13 s18 b0 b1 s23' s24' s109' s110')).run = some (l3_2E (s10) (s11) (s13) (s18) (b0) (b1) (q.2.1) (q.2.2.1) (s109') (q.2.2.2) q.1)
  | 0, s10, s11, s13, s18, b0, b1, s23', s24', s109', s110', q, h => by cases h
  | n + 1, s10, s11, s13, s18, b0, b1, s23', s24', s109', s110', q, h => l3_2_step m n (l3_2_ok m n) s10 s11 s13 s18 b0 b1 s23' s24' s109' s110' q h

def l3_1 (m : Nat) : Nat → List (Int × Int) → Int → Int → Int → List (Int × Int) → List Int → Option (Nat × Int)
  | 0, _, _, _, _, _, _ => none
  | n + 1, s10, s11, s13, s18, b0, b1 => if decide (s18 ≤ s13) = true then
      if atPre b0 s18 s11 = true then
        if atPre b0 (IntKind.wrap .i64 (s18 - (1))) s11 = true then
          if (hasKey (.int .i64) b1 s18) = true then
            if (Option.isSome (l3_2 m (m + 24) s10 s11 s13 s18 b0 b1 false false ((((List.length s10) : Nat) : Int)) 0)) = true then
              if (l3_2R m (m + 24) s10 s11 s13 s18 b0 b1 false false ((((List.length s10) : Nat) : Int)) 0).2.1 = true then
                if ((hasKey (.int .i64) b1 s18) == true) = true then
                  l3_1 m n s10 s11 s13 ((IntKind.wrap .i64 (s18 + (1)))) b0 b1
                else
                  none
              else
                if ((hasKey (.int .i64) b1 s18) == (l3_2R m (m + 24) s10 s11 s13 s18 b0 b1 false false ((((List.length s10) : Nat) : Int)) 0).2.2.1) = true then
                  l3_1 m n s10 s11 s13 ((IntKind.wrap .i64 (s18 + (1)))) b0 b1
                else
                  none
            else
              none
          else
            if ((atV b0 s18 s11) != (atV b0 (IntKind.wrap .i64 (s18 - (1))) s11)) = true then
              none
            else
              if ((atB b0 s18 s11) == (atB b0 (IntKind.wrap .i64 (s18 - (1))) s11)) = true then
                if (Option.isSome (l3_2 m (m + 24) s10 s11 s13 s18 b0 b1 false false ((((List.length s10) : Nat) : Int)) 0)) = true then
                  if (l3_2R m (m + 24) s10 s11 s13 s18 b0 b1 false false ((((List.length s10) : Nat) : Int)) 0).2.1 = true then
                    if ((hasKey (.int .i64) b1 s18) == true) = true then
                      l3_1 m n s10 s11 s13 ((IntKind.wrap .i64 (s18 + (1)))) b0 b1
                    else
                      none
                  else
                    if ((hasKey (.int .i64) b1 s18) == (l3_2R m (m + 24) s10 s11 s13 s18 b0 b1 false false ((((List.length s10) : Nat) : Int)) 0).2.2.1) = true then
                      l3_1 m n s10 s11 s13 ((IntKind.wrap .i64 (s18 + (1)))) b0 b1
                    else
                      none
                else
                  none
              else
                none
        else
          none
      else
        none
    else
      some (0, s18)
def l3_1D : Nat × Int := (0, 0)
@[reducible] def l3_1R (m n : Nat) (s10 : List (Int × Int)) (s11 : Int) (s13 : Int) (s18 : Int) (b0 : List (Int × Int)) (b1 : List Int) : Nat × Int := Option.getD (l3_1 m n s10 s11 s13 s18 b0 b1) l3_1D
def l3_1H (s10 : List (Int × Int)) (s11 : Int) (s13 : Int) (s18 : Int) (b0 : List (Int × Int)) (b1 : List Int) : Env := [.top, .top, .top, .top, .top, .top, .top, .top, .top, (.ptr 0 0), (.d (.sl (.pair (.int .i64) (.int .i64)) s10)), (.d (.int .i64 s11)), .top, (.d (.int .i64 s13)), .top, (.mp 1), .top, .top, (.d (.int .i64 s18)), .top, .top, .top, .top, .top, .top, .top, .top, .top, .top, .top, .top, .top, .top, .top, .top, .top, .top, .top, .top, .top, .top, .top, .top, .top, .top, .top, .top, .top, .top, .top, .top, .top, .top, .top, .top, .top, .top, .top, .top, .top, .top, .top, .top, .top, .top, .top, .top, .top, .top, .top, .top, .top, .top, .top, .top, .top, .top, .top, .top, .top, .top, .top, .top, .top, .top, .top, .top, .top, .top, .top, .top, .top, .top, .top, .top, .top, .top, .top, .top, .top, .top, .top, .top, .top, .top, .top, .top, .top, .top, .top, .top, .top, .top, .top, .top, .top, .top, .top, .top, .top, .top, .top, .top, .top, .top, .top, .top, .top, .top, .top, .top, .top, .top, .top, .top, .top, .top, .top, .top, .top, .top, .top, .top, .top, .top, .top, .top, .top, .top, .top, .top, .top, .top, .top, .top, .top, .top, .top]
def l3_1B (s10 : List (Int × Int)) (s11 : Int) (s13 : Int) (s18 : Int) (b0 : List (Int × Int)) (b1 : List Int) : Boxes := [(.cells [(.d (.sl (.pair (.int .i64) (.int .i64)) b0))]), (.keys (.int .i64) b1)]
def l3_1E (s10 : List (Int × Int)) (s11 : Int) (s13 : Int) (s18 : Int) (b0 : List (Int × Int)) (b1 : List Int) : Nat → AEx × Env × Boxes
  | _ => (.exit 2, [.top, .top, .top, .top, .top, .top, .top, .top, .top, (.ptr 0 0), (.d (.sl (.pair (.int .i64) (.int .i64)) s10)), (.d (.int .i64 s11)), .top, (.d (.int .i64 s13)), .top, (.mp 1), .top, .top, (.d (.int .i64 s18)), .top, .top, .top, .top, .top, .top, .top, .top, .top, .top, .top, .top, .top, .top, .top, .top, .top, .top, .top, .top, .top, .top, .top, .top, .top, .top, .top, .top, .top, .top, .top, .top, .top, .top, .top, .top, .top, .top, .top, .top, .top, .top, .top, .top, .top, .top, .top, .top, .top, .top, .top, .top, .top, .top, .top, .top, .top, (.d (.int .i64 s18)), (.d (.int .i64 s13)), (.d (.bool (decide (s18 ≤ s13)))), .top, .top, .top, .top, .top, .top, .top, .top, .top, .top, .top, .top, .top, .top, .top, .top, .top, .top, .top, .top, .top, .top, .top, .top, .top, .top, .top, .top, .top, .top, .top, .top, .top, .top, .top, .top, .top, .top, .top, .top, .top, .top, .top, .top, .top, .top, .top, .top, .top, .top, .top, .top, .top, .top, .top, .top, .top, .top, .top, .top, .top, .top, .top, .top, .top, .top, .top, .top, .top, .top, .top, .top, .top, .top, .top, .top, .top, .top, .top], [(.cells [(.d (.sl (.pair (.int .i64) (.int .i64)) b0))]), (.keys (.int .i64) b1)])
noncomputable def lbl3_1 : AC := loopBody 306688 body3

set_option maxHeartbeats 20000000 in
theorem l3_1_w0 (m n : Nat) (s10 : List (Int × Int)) (s11 : Int) (s13 : Int) (s18 : Int) (b0 : List (Int × Int)) (b1 : List Int) (r : AEx × Env × Boxes) (c0 : decide (s18 ≤ s13) = true) (c1 : atPre b0 s18 s11 = true) (c2 : atPre b0 (IntKind.wrap .i64 (s18 - (1))) s11 = true) (c3 : (hasKey (.int .i64) b1 s18) = true) (c10 : (Option.isSome (l3_2 m (m + 24) s10 s11 s13 s18 b0 b1 false false ((((List.length s10) : Nat) : Int)) 0)) = true) (c11 : (l3_2R m (m + 24) s10 s11 s13 s18 b0 b1 false false ((((List.length s10) : Nat) : Int)) 0).2.1 = true) (c13 : ((hasKey (.int .i64) b1 s18) == true) = true) (ih : (turns (hds 3 306688) 0 306688 (evC byref (evCall F S10 (m + 24)) (m + 24) 0 (hds 3) lbl3_1) n (l3_1H s10 s11 s13 ((IntKind.wrap .i64 (s18 + (1)))) b0 b1) (l3_1B s10 s11 s13 ((IntKind.wrap .i64 (s18 + (1)))) b0 b1)).run = some r) : (turns (hds 3 306688) 0 306688 (evC byref (evCall F S10 (m + 24)) (m + 24) 0 (hds 3) lbl3_1) (n + 1) (l3_1H s10 s11 s13 s18 b0 b1) (l3_1B s10 s11 s13 s18 b0 b1)).run = some r := by
  have ht : (turn (hds 3 306688) 0 306688 (evC byref (evCall F S10 (m + 24)) (m + 24) 0 (hds 3) lbl3_1) (l3_1H s10 s11 s13 s18 b0 b1) (l3_1B s10 s11 s13 s18 b0 b1)).run = some (.normal, l3_1H s10 s11 s13 ((IntKind.wrap .i64 (s18 + (1)))) b0 b1, l3_1B s10 s11 s13 ((IntKind.wrap .i64 (s18 + (1)))) b0 b1) := by
    refine turnT_ok (LS := (fun k => if k = 2271629875608987087482092169506304 then some (l3_2E s10 s11 s13 s18 b0 b1 ((l3_2R m (m + 24) s10 s11 s13 s18 b0 b1 false false ((((List.length s10) : Nat) : Int)) 0).2.1) ((l3_2R m (m + 24) s10 s11 s13 s18 b0 b1 false false ((((List.length s10) : Nat) : Int)) 0).2.2.1) (((((List.length s10) : Nat) : Int))) ((l3_2R m (m + 24) s10 s11 s13 s18 b0 b1 false false ((((List.length s10) : Nat) : Int)) 0).2.2.2) 0) else none)) (vis := [(2271629875608987087482092169506304, l3_2H s10 s11 s13 s18 b0 b1 false false ((((List.length s10) : Nat) : Int)) 0, l3_2B s10 s11 s13 s18 b0 b1 false false ((((List.length s10) : Nat) : Int)) 0)]) (by kernel_rfl) (M.run_of_path _ [true, true, true, false, false, false, false, false, false, false, true, true, false] _ _ (by kernel_rfl) (all_t c0 (all_t c1 (all_t c2 (all_nt c3 (all_nt c3 (all_nt c3 (all_nt c3 (all_nt c3 (all_nt c3 (all_f Bool.false_ne_true (all_t c11 (all_t c11 (all_nt c13 all_nil)))))))))))))) ?_
    intro p hp p2 hq
    rcases List.mem_cons.1 hp with rfl | hp
    · skip
      have h3 := l3_2_ok m (m + 24) s10 s11 s13 s18 b0 b1 false false ((((List.length s10) : Nat) : Int)) 0 _ (some_getD (d := l3_2D) c10)
      exact Eq.trans (Eq.mp (by kernel_rfl) h3) hq
    cases hp
  exact turns_step ht ih
set_option maxHeartbeats 20000000 in
theorem l3_1_w1 (m n : Nat) (s10 : List (Int × Int)) (s11 : Int) (s13 : Int) (s18 : Int) (b0 : List (Int × Int)) (b1 : List Int) (r : AEx × Env × Boxes) (c0 : decide (s18 ≤ s13) = true) (c1 : atPre b0 s18 s11 = true) (c2 : atPre b0 (IntKind.wrap .i64 (s18 - (1))) s11 = true) (c3 : (hasKey (.int .i64) b1 s18) = true) (c10 : (Option.isSome (l3_2 m (m + 24) s10 s11 s13 s18 b0 b1 false false ((((List.length s10) : Nat) : Int)) 0)) = true) (c11 : ¬ (l3_2R m (m + 24) s10 s11 s13 s18 b0 b1 false false ((((List.length s10) : Nat) : Int)) 0).2.1 = true) (c13 : ((hasKey (.int .i64) b1 s18) == (l3_2R m (m + 24) s10 s11 s13 s18 b0 b1 false false ((((List.length s10) : Nat) : Int)) 0).2.2.1) = true) (ih : (turns (hds 3 306688) 0 306688 (evC byref (evCall F S10 (m + 24)) (m + 24) 0 (hds 3) lbl3_1) n (l3_1H s10 s11 s13 ((IntKind.wrap .i64 (s18 + (1)))) b0 b1) (l3_1B s10 s11 s13 ((IntKind.wrap .i64 (s18 + (1)))) b0 b1)).run = some r) : (turns (hds 3 306688) 0 306688 (evC byref (evCall F S10 (m + 24)) (m + 24) 0 (hds 3) lbl3_1) (n + 1) (l3_1H s10 s11 s13 s18 b0 b1) (l3_1B s10 s11 s13 s18 b0 b1)).run = some r := by
  have ht : (turn (hds 3 306688) 0 306688 (evC byref (evCall F S10 (m + 24)) (m + 24) 0 (hds 3) lbl3_1) (l3_1H s10 s11 s13 s18 b0 b1) (l3_1B s10 s11 s13 s18 b0 b1)).run = some (.normal, l3_1H s10 s11 s13 ((IntKind.wrap .i64 (s18 + (1)))) b0 b1, l3_1B s10 s11 s13 ((IntKind.wrap .i64 (s18 + (1)))) b0 b1) := by
    refine turnT_ok (LS := (fun k => if k = 2271629875608987087482092169506304 then some (l3_2E s10 s11 s13 s18 b0 b1 ((l3_2R m (m + 24) s10 s11 s13 s18 b0 b1 false false ((((List.length s10) : Nat) : Int)) 0).2.1) ((l3_2R m (m + 24) s10 s11 s13 s18 b0 b1 false false ((((List.length s10) : Nat) : Int)) 0).2.2.1) (((((List.length s10) : Nat) : Int))) ((l3_2R m (m + 24) s10 s11 s13 s18 b0 b1 false false ((((List.length s10) : Nat) : Int)) 0).2.2.2) 0) else none)) (vis := [(2271629875608987087482092169506304, l3_2H s10 s11 s13 s18 b0 b1 false false ((((List.length s10) : Nat) : Int)) 0, l3_2B s10 s11 s13 s18 b0 b1 false false ((((List.length s10) : Nat) : Int)) 0)]) (by kernel_rfl) (M.run_of_path _ [true, true, true, false, false, false, false, false, false, false, false, false, false] _ _ (by kernel_rfl) (all_t c0 (all_t c1 (all_t c2 (all_nt c3 (all_nt c3 (all_nt c3 (all_nt c3 (all_nt c3 (all_nt c3 (all_f Bool.false_ne_true (all_f c11 (all_f c11 (all_nt c13 all_nil)))))))))))))) ?_
    intro p hp p2 hq
    rcases List.mem_cons.1 hp with rfl | hp
    · skip
      have h3 := l3_2_ok m (m + 24) s10 s11 s13 s18 b0 b1 false false ((((List.length s10) : Nat) : Int)) 0 _ (some_getD (d := l3_2D) c10)
      exact Eq.trans (Eq.mp (by kernel_rfl) h3) hq
    cases hp
  exact turns_step ht ih
set_option maxHeartbeats 20000000 in
theorem l3_1_w2 (m n : Nat) (s10 : List (Int × Int)) (s11 : Int) (s13 : Int) (s18 : Int) (b0 : List (Int × Int)) (b1 : List Int) (r : AEx × Env × Boxes) (c0 : decide (s18 ≤ s13) = true) (c1 : atPre b0 s18 s11 = true) (c2 : atPre b0 (IntKind.wrap .i64 (s18 - (1))) s11 = true) (c3 : ¬ (hasKey (.int .i64) b1 s18) = true) (c7 : ¬ ((atV b0 s18 s11) != (atV b0 (IntKind.wrap .i64 (s18 - (1))) s11)) = true) (c13 : ((atB b0 s18 s11) == (atB b0 (IntKind.wrap .i64 (s18 - (1))) s11)) = true) (c14 : (Option.isSome (l3_2 m (m + 24) s10 s11 s13 s18 b0 b1 false false ((((List.length s10) : Nat) : Int)) 0)) = true) (c15 : (l3_2R m (m + 24) s10 s11 s13 s18 b0 b1 false false ((((List.length s10) : Nat) : Int)) 0).2.1 = true) (c17 : ((hasKey (.int .i64) b1 s18) == true) = true) (ih : (turns (hds 3 306688) 0 306688 (evC byref (evCall F S10 (m + 24)) (m + 24) 0 (hds 3) lbl3_1) n (l3_1H s10 s11 s13 ((IntKind.wrap .i64 (s18 + (1)))) b0 b1) (l3_1B s10 s11 s13 ((IntKind.wrap .i64 (s18 + (1)))) b0 b1)).run = some r) : (turns (hds 3 306688) 0 306688 (evC byref (evCall F S10 (m + 24)) (m + 24) 0 (hds 3) lbl3_1) (n + 1) (l3_1H s10 s11 s13 s18 b0 b1) (l3_1B s10 s11 s13 s18 b0 b1)).run = some r := by
  have ht : (turn (hds 3 306688) 0 306688 (evC byref (evCall F S10 (m + 24)) (m + 24) 0 (hds 3) lbl3_1) (l3_1H s10 s11 s13 s18 b0 b1) (l3_1B s10 s11 s13 s18 b0 b1)).run = some (.normal, l3_1H s10 s11 s13 ((IntKind.wrap .i64 (s18 + (1)))) b0 b1, l3_1B s10 s11 s13 ((IntKind.wrap .i64 (s18 + (1)))) b0 b1) := by
    refine turnT_ok (LS := (fun k => if k = 2271629875608987087482092169506304 then some (l3_2E s10 s11 s13 s18 b0 b1 ((l3_2R m (m + 24) s10 s11 s13 s18 b0 b1 false false ((((List.length s10) : Nat) : Int)) 0).2.1) ((l3_2R m (m + 24) s10 s11 s13 s18 b0 b1 false false ((((List.length s10) : Nat) : Int)) 0).2.2.1) (((((List.length s10) : Nat) : Int))) ((l3_2R m (m + 24) s10 s11 s13 s18 b0 b1 false false ((((List.length s10) : Nat) : Int)) 0).2.2.2) 0) else none)) (vis := [(2271629875608987087482092169506304, l3_2H s10 s11 s13 s18 b0 b1 false false ((((List.length s10) : Nat) : Int)) 0, l3_2B s10 s11 s13 s18 b0 b1 false false ((((List.length s10) : Nat) : Int)) 0)]) (by kernel_rfl) (M.run_of_path _ [true, true, true, true, true, true, true, false, false, false, true, false, true, false, true, true, false] _ _ (by kernel_rfl) (all_t c0 (all_t c1 (all_t c2 (all_nf c3 (all_nf c3 (all_nf c3 (all_nf c3 (all_f c7 (all_f c7 (all_f c7 (all_nf c3 (all_f c7 (all_nf c3 (all_nt c13 (all_t c15 (all_t c15 (all_nt c17 all_nil)))))))))))))))))) ?_
    intro p hp p2 hq
    rcases List.mem_cons.1 hp with rfl | hp
    · skip
      have h3 := l3_2_ok m (m + 24) s10 s11 s13 s18 b0 b1 false false ((((List.length s10) : Nat) : Int)) 0 _ (some_getD (d := l3_2D) c14)
      exact Eq.trans (Eq.mp (by kernel_rfl) h3) hq
    cases hp
  exact turns_step ht ih
set_option maxHeartbeats 20000000 in
theorem l3_1_w3 (m n : Nat) (s10 : List (Int × Int)) (s11 : Int) (s13 : Int) (s18 : Int) (b0 : List (Int × Int)) (b1 : List Int) (r : AEx × Env × Boxes) (c0 : decide (s18 ≤ s13) = true) (c1 : atPre b0 s18 s11 = true) (c2 : atPre b0 (IntKind.wrap .i64 (s18 - (1))) s11 = true) (c3 : ¬ (hasKey (.int .i64) b1 s18) = true) (c7 : ¬ ((atV b0 s18 s11) != (atV b0 (IntKind.wrap .i64 (s18 - (1))) s11)) = true) (c13 : ((atB b0 s18 s11) == (atB b0 (IntKind.wrap .i64 (s18 - (1))) s11)) = true) (c14 : (Option.isSome (l3_2 m (m + 24) s10 s11 s13 s18 b0 b1 false false ((((List.length s10) : Nat) : Int)) 0)) = true) (c15 : ¬ (l3_2R m (m + 24) s10 s11 s13 s18 b0 b1 false false ((((List.length s10) : Nat) : Int)) 0).2.1 = true) (c17 : ((hasKey (.int .i64) b1 s18) == (l3_2R m (m + 24) s10 s11 s13 s18 b0 b1 false false ((((List.length s10) : Nat) : Int)) 0).2.2.1) = true) (ih : (turns (hds 3 306688) 0 306688 (evC byref (evCall F S10 (m + 24)) (m + 24) 0 (hds 3) lbl3_1) n (l3_1H s10 s11 s13 ((IntKind.wrap .i64 (s18 + (1)))) b0 b1) (l3_1B s10 s11 s13 ((IntKind.wrap .i64 (s18 + (1)))) b0 b1)).run = some r) : (turns (hds 3 306688) 0 306688 (evC byref (evCall F S10 (m + 24)) (m + 24) 0 (hds 3) lbl3_1) (n + 1) (l3_1H s10 s11 s13 s18 b0 b1) (l3_1B s10 s11 s13 s18 b0 b1)).run = some r := by
  have ht : (turn (hds 3 306688) 0 306688 (evC byref (evCall F S10 (m + 24)) (m + 24) 0 (hds 3) lbl3_1) (l3_1H s10 s11 s13 s18 b0 b1) (l3_1B s10 s11 s13 s18 b0 b1)).run = some (.normal, l3_1H s10 s11 s13 ((IntKind.wrap .i64 (s18 + (1)))) b0 b1, l3_1B s10 s11 s13 ((IntKind.wrap .i64 (s18 + (1)))) b0 b1) := by
    refine turnT_ok (LS := (fun k => if k = 2271629875608987087482092169506304 then some (l3_2E s10 s11 s13 s18 b0 b1 ((l3_2R m (m + 24) s10 s11 s13 s18 b0 b1 false false ((((List.length s10) : Nat) : Int)) 0).2.1) ((l3_2R m (m + 24) s10 s11 s13 s18 b0 b1 false false ((((List.length s10) : Nat) : Int)) 0).2.2.1) (((((List.length s10) : Nat) : Int))) ((l3_2R m (m + 24) s10 s11 s13 s18 b0 b1 false false ((((List.length s10) : Nat) : Int)) 0).2.2.2) 0) else none)) (vis := [(2271629875608987087482092169506304, l3_2H s10 s11 s13 s18 b0 b1 false false ((((List.length s10) : Nat) : Int)) 0, l3_2B s10 s11 s13 s18 b0 b1 false false ((((List.length s10) : Nat) : Int)) 0)]) (by kernel_rfl) (M.run_of_path _ [true, true, true, true, true, true, true, false, false, false, true, false, true, false, false, false, false] _ _ (by kernel_rfl) (all_t c0 (all_t c1 (all_t c2 (all_nf c3 (all_nf c3 (all_nf c3 (all_nf c3 (all_f c7 (all_f c7 (all_f c7 (all_nf c3 (all_f c7 (all_nf c3 (all_nt c13 (all_f c15 (all_f c15 (all_nt c17 all_nil)))))))))))))))))) ?_
    intro p hp p2 hq
    rcases List.mem_cons.1 hp with rfl | hp
    · skip
      have h3 := l3_2_ok m (m + 24) s10 s11 s13 s18 b0 b1 false false ((((List.length s10) : Nat) : Int)) 0 _ (some_getD (d := l3_2D) c14)
      exact Eq.trans (Eq.mp (by kernel_rfl) h3) hq
    cases hp
  exact turns_step ht ih
set_option maxHeartbeats 20000000 in
theorem l3_1_w4 (m n : Nat) (s10 : List (Int × Int)) (s11 : Int) (s13 : Int) (s18 : Int) (b0 : List (Int × Int)) (b1 : List Int) (c0 : ¬ decide (s18 ≤ s13) = true) : (turns (hds 3 306688) 0 306688 (evC byref (evCall F S10 (m + 24)) (m + 24) 0 (hds 3) lbl3_1) (n + 1) (l3_1H s10 s11 s13 s18 b0 b1) (l3_1B s10 s11 s13 s18 b0 b1)).run = some (.exit 2, [.top, .top, .top, .top, .top, .top, .top, .top, .top, (.ptr 0 0), (.d (.sl (.pair (.int .i64) (.int .i64)) s10)), (.d (.int .i64 s11)), .top, (.d (.int .i64 s13)), .top, (.mp 1), .top, .top, (.d (.int .i64 s18)), .top, .top, .top, .top, .top, .top, .top, .top, .top, .top, .top, .top, .top, .top, .top, .top, .top, .top, .top, .top, .top, .top, .top, .top, .top, .top, .top, .top, .top, .top, .top, .top, .top, .top, .top, .top, .top, .top, .top, .top, .top, .top, .top, .top, .top, .top, .top, .top, .top, .top, .top, .top, .top, .top, .top, .top, .top, (.d (.int .i64 s18)), (.d (.int .i64 s13)), (.d (.bool (decide (s18 ≤ s13)))), .top, .top, .top, .top, .top, .top, .top, .top, .top, .top, .top, .top, .top, .top, .top, .top, .top, .top, .top, .top, .top, .top, .top, .top, .top, .top, .top, .top, .top, .top, .top, .top, .top, .top, .top, .top, .top, .top, .top, .top, .top, .top, .top, .top, .top, .top, .top, .top, .top, .top, .top, .top, .top, .top, .top, .top, .top, .top, .top, .top, .top, .top, .top, .top, .top, .top, .top, .top, .top, .top, .top, .top, .top, .top, .top, .top, .top, .top, .top], [(.cells [(.d (.sl (.pair (.int .i64) (.int .i64)) b0))]), (.keys (.int .i64) b1)]) := by
  exact turns_last (by simp) (M.run_of_path _ [false] _ _ (by kernel_rfl) (all_f c0 all_nil)) 

set_option maxHeartbeats 20000000 in
theorem l3_1_step (m n : Nat) (ih : ∀ (s10 : List (Int × Int)) (s11 : Int) (s13 : Int) (s18 : Int) (b0 : List (Int × Int)) (b1 : List Int) (q : Nat × Int), l3_1 m n s10 s11 s13 s18 b0 b1 = some q → (turns (hds 3 306688) 0 306688 (evC byref (evCall F S10 (m + 24)) (m + 24) 0 (hds 3) lbl3_1) n (l3_1H s10 s11 s13 s18 b0 b1) (l3_1B s10 s11 s13 s18 b0 b1)).run = some (l3_1E (s10) (s11) (s13) (q.2) (b0) (b1) q.1)) (s10 : List (Int × Int)) (s11 : Int) (s13 : Int) (s18 : Int) (b0 : List (Int × Int)) (b1 : List Int) (q : Nat × Int) (h : l3_1 m (n + 1) s10 s11 s13 s18 b0 b1 = some q) : (turns (hds 3 306688) 0 306688 (evC byref (evCall F S10 (m + 24)) (m + 24) 0 (hds 3) lbl3_1) (n + 1) (l3_1H s10 s11 s13 s18 b0 b1) (l3_1B s10 s11 s13 s18 b0 b1)).run = some (l3_1E (s10) (s11) (s13) (q.2) (b0) (b1) q.1) := by
  rw [l3_1] at h
  refine ite_cases h (fun c0 h => ?_) (fun c0 h => ?_)
  · skip
    refine ite_cases h (fun c1 h => ?_) (fun c1 h => ?_)
    · skip
      refine ite_cases h (fun c2 h => ?_) (fun c2 h => ?_)
      · skip
        refine ite_cases h (fun c3 h => ?_) (fun c3 h => ?_)
        · skip
          refine ite_cases h (fun c10 h => ?_) (fun c10 h => ?_)
          · skip
            refine ite_cases h (fun c11 h => ?_) (fun c11 h => ?_)
            · skip
              refine ite_cases h (fun c13 h => ?_) (fun c13 h => ?_)
              · skip
                exact l3_1_w0 m n s10 s11 s13 s18 b0 b1 _ c0 c1 c2 c3 c10 c11 c13 (ih _ _ _ _ _ _ q h)
              · skip
                cases h
            · skip
              refine ite_cases h (fun c13 h => ?_) (fun c13 h => ?_)
              · skip
                exact l3_1_w1 m n s10 s11 s13 s18 b0 b1 _ c0 c1 c2 c3 c10 c11 c13 (ih _ _ _ _ _ _ q h)
              · skip
                cases h
          · skip
            cases h
        · skip
          refine ite_cases h (fun c7 h => ?_) (fun c7 h => ?_)
          · skip
            cases h
          · skip
            refine ite_cases h (fun c13 h => ?_) (fun c13 h => ?_)
            · skip
              refine ite_cases h (fun c14 h => ?_) (fun c14 h => ?_)
              · skip
                refine ite_cases h (fun c15 h => ?_) (fun c15 h => ?_)
                · skip
                  refine ite_cases h (fun c17 h => ?_) (fun c17 h => ?_)
                  · skip
                    exact l3_1_w2 m n s10 s11 s13 s18 b0 b1 _ c0 c1 c2 c3 c7 c13 c14 c15 c17 (ih _ _ _ _ _ _ q h)
                  · skip
                    cases h
                · skip
                  refine ite_cases h (fun c17 h => ?_) (fun c17 h => ?_)
                  · skip
                    exact l3_1_w3 m n s10 s11 s13 s18 b0 b1 _ c0 c1 c2 c3 c7 c13 c14 c15 c17 (ih _ _ _ _ _ _ q h)
                  · skip
                    cases h
              · skip
                cases h
            · skip
              cases h
      · skip
        cases h
    · skip
      cases h
  · skip
    cases h
    exact l3_1_w4 m n s10 s11 s13 s18 b0 b1 c0
set_option maxHeartbeats 20000000 in
theorem l3_1_ok (m : Nat) : ∀ (n : Nat) (s10 : List (Int × Int)) (s11 : Int) (s13 : Int) (s18 : Int) (b0 : List (Int × Int)) (b1 : List Int) (q : Nat × Int), l3_1 m n s10 s11 s13 s18 b0 b1 = some q → (turns (hds 3 306688) 0 306688 (evC byref (evCall F S10 (m + 24)) (m + 24) 0 (hds 3) lbl3_1) n (l3_1H s10 s11 s13 s18 b0 b1) (l3_1B s10 s11 s13 s18 b0 b1)).run = some (l3_1E (s10) (s11) (s13) (q.2) (b0) (b1) q.1)
  | 0, s10, s11, s13, s18, b0, b1, q, h => by cases h
  | n + 1, s10, s11, s13, s18, b0, b1, q, h => l3_1_step m n (l3_1_ok m n) s10 s11 s13 s18 b0 b1 q h

def chg (m : Nat) (x0 : List Int) (x1 : Int) (x2 : Int) (x3 : Int) : Option Unit :=
  if decide (List.length ([] : List (Int × Int)) ≤ 200 ∧ List.length (samplesG x0) < 4611686018427387904) = true then
    if ((addG ([] : List (Int × Int)) (samplesG x0)).1 != (0)) = true then
      none
    else
      if (((decide (-4611686018427387904 ≤ (withinI x2 (0) (200))) && decide ((withinI x2 (0) (200)) ≤ 300)) && true) && decide (((300) - (withinI x2 (0) (200))) ≤ 2305843009213693951)) = true then
        if chgPre (addG ([] : List (Int × Int)) (samplesG x0)).2 (withinI x1 (1) (40)) (withinI x2 (0) (200)) (withinI x3 (withinI x2 (0) (200)) (300)) = true then
          if (Option.isSome (l3_0 m (m + 24) ((samplesG x0)) ((withinI x1 (1) (40))) ((withinI x2 (0) (200))) ((withinI x3 (withinI x2 (0) (200)) (300))) ((chgG (addG ([] : List (Int × Int)) (samplesG x0)).2 (withinI x1 (1) (40)) (withinI x2 (0) (200)) (withinI x3 (withinI x2 (0) (200)) (300)))) ((chgG (addG ([] : List (Int × Int)) (samplesG x0)).2 (withinI x1 (1) (40)) (withinI x2 (0) (200)) (withinI x3 (withinI x2 (0) (200)) (300)))) ((((List.length (chgG (addG ([] : List (Int × Int)) (samplesG x0)).2 (withinI x1 (1) (40)) (withinI x2 (0) (200)) (withinI x3 (withinI x2 (0) (200)) (300)))) : Nat) : Int)) 0 ((addG ([] : List (Int × Int)) (samplesG x0)).2) (([] : List Int)))) = true then
            if (Option.isSome (l3_1 m (m + 24) (((samplesG x0))) (((withinI x1 (1) (40)))) (((withinI x3 (withinI x2 (0) (200)) (300)))) (((withinI x2 (0) (200)))) (((addG ([] : List (Int × Int)) (samplesG x0)).2)) ((l3_0R m (m + 24) ((samplesG x0)) ((withinI x1 (1) (40))) ((withinI x2 (0) (200))) ((withinI x3 (withinI x2 (0) (200)) (300))) ((chgG (addG ([] : List (Int × Int)) (samplesG x0)).2 (withinI x1 (1) (40)) (withinI x2 (0) (200)) (withinI x3 (withinI x2 (0) (200)) (300)))) ((chgG (addG ([] : List (Int × Int)) (samplesG x0)).2 (withinI x1 (1) (40)) (withinI x2 (0) (200)) (withinI x3 (withinI x2 (0) (200)) (300)))) ((((List.length (chgG (addG ([] : List (Int × Int)) (samplesG x0)).2 (withinI x1 (1) (40)) (withinI x2 (0) (200)) (withinI x3 (withinI x2 (0) (200)) (300)))) : Nat) : Int)) 0 ((addG ([] : List (Int × Int)) (samplesG x0)).2) (([] : List Int))).2.2))) = true then
              some ()
            else
              none
          else
            none
        else
          none
      else
        none
  else
    none

set_option maxHeartbeats 20000000 in
theorem chg_w0 (m : Nat) (x0 : List Int) (x1 : Int) (x2 : Int) (x3 : Int) (c1 : decide (List.length ([] : List (Int × Int)) ≤ 200 ∧ List.length (samplesG x0) < 4611686018427387904) = true) (c2 : ¬ ((addG ([] : List (Int × Int)) (samplesG x0)).1 != (0)) = true) (c5 : (((decide (-4611686018427387904 ≤ (withinI x2 (0) (200))) && decide ((withinI x2 (0) (200)) ≤ 300)) && true) && decide (((300) - (withinI x2 (0) (200))) ≤ 2305843009213693951)) = true) (c6 : chgPre (addG ([] : List (Int × Int)) (samplesG x0)).2 (withinI x1 (1) (40)) (withinI x2 (0) (200)) (withinI x3 (withinI x2 (0) (200)) (300)) = true) (c7 : (Option.isSome (l3_0 m (m + 24) ((samplesG x0)) ((withinI x1 (1) (40))) ((withinI x2 (0) (200))) ((withinI x3 (withinI x2 (0) (200)) (300))) ((chgG (addG ([] : List (Int × Int)) (samplesG x0)).2 (withinI x1 (1) (40)) (withinI x2 (0) (200)) (withinI x3 (withinI x2 (0) (200)) (300)))) ((chgG (addG ([] : List (Int × Int)) (samplesG x0)).2 (withinI x1 (1) (40)) (withinI x2 (0) (200)) (withinI x3 (withinI x2 (0) (200)) (300)))) ((((List.length (chgG (addG ([] : List (Int × Int)) (samplesG x0)).2 (withinI x1 (1) (40)) (withinI x2 (0) (200)) (withinI x3 (withinI x2 (0) (200)) (300)))) : Nat) : Int)) 0 ((addG ([] : List (Int × Int)) (samplesG x0)).2) (([] : List Int)))) = true) (c8 : (Option.isSome (l3_1 m (m + 24) (((samplesG x0))) (((withinI x1 (1) (40)))) (((withinI x3 (withinI x2 (0) (200)) (300)))) (((withinI x2 (0) (200)))) (((addG ([] : List (Int × Int)) (samplesG x0)).2)) ((l3_0R m (m + 24) ((samplesG x0)) ((withinI x1 (1) (40))) ((withinI x2 (0) (200))) ((withinI x3 (withinI x2 (0) (200)) (300))) ((chgG (addG ([] : List (Int × Int)) (samplesG x0)).2 (withinI x1 (1) (40)) (withinI x2 (0) (200)) (withinI x3 (withinI x2 (0) (200)) (300)))) ((chgG (addG ([] : List (Int × Int)) (samplesG x0)).2 (withinI x1 (1) (40)) (withinI x2 (0) (200)) (withinI x3 (withinI x2 (0) (200)) (300)))) ((((List.length (chgG (addG ([] : List (Int × Int)) (samplesG x0)).2 (withinI x1 (1) (40)) (withinI x2 (0) (200)) (withinI x3 (withinI x2 (0) (200)) (300)))) : Nat) : Int)) 0 ((addG ([] : List (Int × Int)) (samplesG x0)).2) (([] : List Int))).2.2))) = true) : (evCall F S10 (m + 25) 3 [(.d (.sl (.int .i64) x0)), (.d (.int .i64 x1)), (.d (.int .i64 x2)), (.d (.int .i64 x3))] []).run = some (.d (.bool true), []) := by
  refine runT_ok (LS := (fun k => if k = 123145302375936 then some (l3_0E (((samplesG x0))) (((withinI x1 (1) (40)))) (((withinI x2 (0) (200)))) (((withinI x3 (withinI x2 (0) (200)) (300)))) (((chgG (addG ([] : List (Int × Int)) (samplesG x0)).2 (withinI x1 (1) (40)) (withinI x2 (0) (200)) (withinI x3 (withinI x2 (0) (200)) (300))))) (((chgG (addG ([] : List (Int × Int)) (samplesG x0)).2 (withinI x1 (1) (40)) (withinI x2 (0) (200)) (withinI x3 (withinI x2 (0) (200)) (300))))) (((((List.length (chgG (addG ([] : List (Int × Int)) (samplesG x0)).2 (withinI x1 (1) (40)) (withinI x2 (0) (200)) (withinI x3 (withinI x2 (0) (200)) (300)))) : Nat) : Int))) ((l3_0R m (m + 24) ((samplesG x0)) ((withinI x1 (1) (40))) ((withinI x2 (0) (200))) ((withinI x3 (withinI x2 (0) (200)) (300))) ((chgG (addG ([] : List (Int × Int)) (samplesG x0)).2 (withinI x1 (1) (40)) (withinI x2 (0) (200)) (withinI x3 (withinI x2 (0) (200)) (300)))) ((chgG (addG ([] : List (Int × Int)) (samplesG x0)).2 (withinI x1 (1) (40)) (withinI x2 (0) (200)) (withinI x3 (withinI x2 (0) (200)) (300)))) ((((List.length (chgG (addG ([] : List (Int × Int)) (samplesG x0)).2 (withinI x1 (1) (40)) (withinI x2 (0) (200)) (withinI x3 (withinI x2 (0) (200)) (300)))) : Nat) : Int)) 0 ((addG ([] : List (Int × Int)) (samplesG x0)).2) (([] : List Int))).2.1) (((addG ([] : List (Int × Int)) (samplesG x0)).2)) ((l3_0R m (m + 24) ((samplesG x0)) ((withinI x1 (1) (40))) ((withinI x2 (0) (200))) ((withinI x3 (withinI x2 (0) (200)) (300))) ((chgG (addG ([] : List (Int × Int)) (samplesG x0)).2 (withinI x1 (1) (40)) (withinI x2 (0) (200)) (withinI x3 (withinI x2 (0) (200)) (300)))) ((chgG (addG ([] : List (Int × Int)) (samplesG x0)).2 (withinI x1 (1) (40)) (withinI x2 (0) (200)) (withinI x3 (withinI x2 (0) (200)) (300)))) ((((List.length (chgG (addG ([] : List (Int × Int)) (samplesG x0)).2 (withinI x1 (1) (40)) (withinI x2 (0) (200)) (withinI x3 (withinI x2 (0) (200)) (300)))) : Nat) : Int)) 0 ((addG ([] : List (Int × Int)) (samplesG x0)).2) (([] : List Int))).2.2) 0) else if k = 306688 then some (l3_1E ((((samplesG x0)))) ((((withinI x1 (1) (40))))) ((((withinI x3 (withinI x2 (0) (200)) (300))))) ((l3_1R m (m + 24) (((samplesG x0))) (((withinI x1 (1) (40)))) (((withinI x3 (withinI x2 (0) (200)) (300)))) (((withinI x2 (0) (200)))) (((addG ([] : List (Int × Int)) (samplesG x0)).2)) ((l3_0R m (m + 24) ((samplesG x0)) ((withinI x1 (1) (40))) ((withinI x2 (0) (200))) ((withinI x3 (withinI x2 (0) (200)) (300))) ((chgG (addG ([] : List (Int × Int)) (samplesG x0)).2 (withinI x1 (1) (40)) (withinI x2 (0) (200)) (withinI x3 (withinI x2 (0) (200)) (300)))) ((chgG (addG ([] : List (Int × Int)) (samplesG x0)).2 (withinI x1 (1) (40)) (withinI x2 (0) (200)) (withinI x3 (withinI x2 (0) (200)) (300)))) ((((List.length (chgG (addG ([] : List (Int × Int)) (samplesG x0)).2 (withinI x1 (1) (40)) (withinI x2 (0) (200)) (withinI x3 (withinI x2 (0) (200)) (300)))) : Nat) : Int)) 0 ((addG ([] : List (Int × Int)) (samplesG x0)).2) (([] : List Int))).2.2)).2) ((((addG ([] : List (Int × Int)) (samplesG x0)).2))) (((l3_0R m (m + 24) ((samplesG x0)) ((withinI x1 (1) (40))) ((withinI x2 (0) (200))) ((withinI x3 (withinI x2 (0) (200)) (300))) ((chgG (addG ([] : List (Int × Int)) (samplesG x0)).2 (withinI x1 (1) (40)) (withinI x2 (0) (200)) (withinI x3 (withinI x2 (0) (200)) (300)))) ((chgG (addG ([] : List (Int × Int)) (samplesG x0)).2 (withinI x1 (1) (40)) (withinI x2 (0) (200)) (withinI x3 (withinI x2 (0) (200)) (300)))) ((((List.length (chgG (addG ([] : List (Int × Int)) (samplesG x0)).2 (withinI x1 (1) (40)) (withinI x2 (0) (200)) (withinI x3 (withinI x2 (0) (200)) (300)))) : Nat) : Int)) 0 ((addG ([] : List (Int × Int)) (samplesG x0)).2) (([] : List Int))).2.2)) 0) else none)) (fn := fn3) (r := .d (.bool true)) (B' := []) (vis := [(123145302375936, l3_0H ((samplesG x0)) ((withinI x1 (1) (40))) ((withinI x2 (0) (200))) ((withinI x3 (withinI x2 (0) (200)) (300))) ((chgG (addG ([] : List (Int × Int)) (samplesG x0)).2 (withinI x1 (1) (40)) (withinI x2 (0) (200)) (withinI x3 (withinI x2 (0) (200)) (300)))) ((chgG (addG ([] : List (Int × Int)) (samplesG x0)).2 (withinI x1 (1) (40)) (withinI x2 (0) (200)) (withinI x3 (withinI x2 (0) (200)) (300)))) ((((List.length (chgG (addG ([] : List (Int × Int)) (samplesG x0)).2 (withinI x1 (1) (40)) (withinI x2 (0) (200)) (withinI x3 (withinI x2 (0) (200)) (300)))) : Nat) : Int)) 0 ((addG ([] : List (Int × Int)) (samplesG x0)).2) (([] : List Int)), l3_0B ((samplesG x0)) ((withinI x1 (1) (40))) ((withinI x2 (0) (200))) ((withinI x3 (withinI x2 (0) (200)) (300))) ((chgG (addG ([] : List (Int × Int)) (samplesG x0)).2 (withinI x1 (1) (40)) (withinI x2 (0) (200)) (withinI x3 (withinI x2 (0) (200)) (300)))) ((chgG (addG ([] : List (Int × Int)) (samplesG x0)).2 (withinI x1 (1) (40)) (withinI x2 (0) (200)) (withinI x3 (withinI x2 (0) (200)) (300)))) ((((List.length (chgG (addG ([] : List (Int × Int)) (samplesG x0)).2 (withinI x1 (1) (40)) (withinI x2 (0) (200)) (withinI x3 (withinI x2 (0) (200)) (300)))) : Nat) : Int)) 0 ((addG ([] : List (Int × Int)) (samplesG x0)).2) (([] : List Int))), (306688, l3_1H (((samplesG x0))) (((withinI x1 (1) (40)))) (((withinI x3 (withinI x2 (0) (200)) (300)))) (((withinI x2 (0) (200)))) (((addG ([] : List (Int × Int)) (samplesG x0)).2)) ((l3_0R m (m + 24) ((samplesG x0)) ((withinI x1 (1) (40))) ((withinI x2 (0) (200))) ((withinI x3 (withinI x2 (0) (200)) (300))) ((chgG (addG ([] : List (Int × Int)) (samplesG x0)).2 (withinI x1 (1) (40)) (withinI x2 (0) (200)) (withinI x3 (withinI x2 (0) (200)) (300)))) ((chgG (addG ([] : List (Int × Int)) (samplesG x0)).2 (withinI x1 (1) (40)) (withinI x2 (0) (200)) (withinI x3 (withinI x2 (0) (200)) (300)))) ((((List.length (chgG (addG ([] : List (Int × Int)) (samplesG x0)).2 (withinI x1 (1) (40)) (withinI x2 (0) (200)) (withinI x3 (withinI x2 (0) (200)) (300)))) : Nat) : Int)) 0 ((addG ([] : List (Int × Int)) (samplesG x0)).2) (([] : List Int))).2.2), l3_1B (((samplesG x0))) (((withinI x1 (1) (40)))) (((withinI x3 (withinI x2 (0) (200)) (300)))) (((withinI x2 (0) (200)))) (((addG ([] : List (Int × Int)) (samplesG x0)).2)) ((l3_0R m (m + 24) ((samplesG x0)) ((withinI x1 (1) (40))) ((withinI x2 (0) (200))) ((withinI x3 (withinI x2 (0) (200)) (300))) ((chgG (addG ([] : List (Int × Int)) (samplesG x0)).2 (withinI x1 (1) (40)) (withinI x2 (0) (200)) (withinI x3 (withinI x2 (0) (200)) (300)))) ((chgG (addG ([] : List (Int × Int)) (samplesG x0)).2 (withinI x1 (1) (40)) (withinI x2 (0) (200)) (withinI x3 (withinI x2 (0) (200)) (300)))) ((((List.length (chgG (addG ([] : List (Int × Int)) (samplesG x0)).2 (withinI x1 (1) (40)) (withinI x2 (0) (200)) (withinI x3 (withinI x2 (0) (200)) (300)))) : Nat) : Int)) 0 ((addG ([] : List (Int × Int)) (samplesG x0)).2) (([] : List Int))).2.2))]) (by kernel_rfl) rfl (by kernel_rfl) (M.run_of_path _ [true, true, false, true, true, true, true] _ _ (by kernel_rfl) (all_t rfl (all_t c1 (all_f c2 (all_t rfl (all_t rfl (all_t c5 (all_t c6 all_nil)))))))) ?_
  intro p hp p2 hq
  rcases List.mem_cons.1 hp with rfl | hp
  · skip
    have h3 := l3_0_ok m (m + 24) ((samplesG x0)) ((withinI x1 (1) (40))) ((withinI x2 (0) (200))) ((withinI x3 (withinI x2 (0) (200)) (300))) ((chgG (addG ([] : List (Int × Int)) (samplesG x0)).2 (withinI x1 (1) (40)) (withinI x2 (0) (200)) (withinI x3 (withinI x2 (0) (200)) (300)))) ((chgG (addG ([] : List (Int × Int)) (samplesG x0)).2 (withinI x1 (1) (40)) (withinI x2 (0) (200)) (withinI x3 (withinI x2 (0) (200)) (300)))) ((((List.length (chgG (addG ([] : List (Int × Int)) (samplesG x0)).2 (withinI x1 (1) (40)) (withinI x2 (0) (200)) (withinI x3 (withinI x2 (0) (200)) (300)))) : Nat) : Int)) 0 ((addG ([] : List (Int × Int)) (samplesG x0)).2) (([] : List Int)) _ (some_getD (d := l3_0D) c7)
    exact Eq.trans (Eq.mp (by kernel_rfl) h3) hq
  rcases List.mem_cons.1 hp with rfl | hp
  · skip
    have h3 := l3_1_ok m (m + 24) (((samplesG x0))) (((withinI x1 (1) (40)))) (((withinI x3 (withinI x2 (0) (200)) (300)))) (((withinI x2 (0) (200)))) (((addG ([] : List (Int × Int)) (samplesG x0)).2)) ((l3_0R m (m + 24) ((samplesG x0)) ((withinI x1 (1) (40))) ((withinI x2 (0) (200))) ((withinI x3 (withinI x2 (0) (200)) (300))) ((chgG (addG ([] : List (Int × Int)) (samplesG x0)).2 (withinI x1 (1) (40)) (withinI x2 (0) (200)) (withinI x3 (withinI x2 (0) (200)) (300)))) ((chgG (addG ([] : List (Int × Int)) (samplesG x0)).2 (withinI x1 (1) (40)) (withinI x2 (0) (200)) (withinI x3 (withinI x2 (0) (200)) (300)))) ((((List.length (chgG (addG ([] : List (Int × Int)) (samplesG x0)).2 (withinI x1 (1) (40)) (withinI x2 (0) (200)) (withinI x3 (withinI x2 (0) (200)) (300)))) : Nat) : Int)) 0 ((addG ([] : List (Int × Int)) (samplesG x0)).2) (([] : List Int))).2.2) _ (some_getD (d := l3_1D) c8)
    exact Eq.trans (Eq.mp (by kernel_rfl) h3) hq
  cases hp

set_option maxHeartbeats 20000000 in
theorem chg_ok (m : Nat) (x0 : List Int) (x1 : Int) (x2 : Int) (x3 : Int) (q : Unit) (h : chg m x0 x1 x2 x3 = some q) : (evCall F S10 (m + 25) 3 [(.d (.sl (.int .i64) x0)), (.d (.int .i64 x1)), (.d (.int .i64 x2)), (.d (.int .i64 x3))] []).run = some (.d (.bool true), []) := by
  unfold chg at h
  refine ite_cases h (fun c1 h => ?_) (fun c1 h => ?_)
  · skip
    refine ite_cases h (fun c2 h => ?_) (fun c2 h => ?_)
    · skip
      cases h
    · skip
      refine ite_cases h (fun c5 h => ?_) (fun c5 h => ?_)
      · skip
        refine ite_cases h (fun c6 h => ?_) (fun c6 h => ?_)
        · skip
          refine ite_cases h (fun c7 h => ?_) (fun c7 h => ?_)
          · skip
            refine ite_cases h (fun c8 h => ?_) (fun c8 h => ?_)
            · skip
              cases h
              exact chg_w0 m x0 x1 x2 x3 c1 c2 c5 c6 c7 c8
            · skip
              cases h
          · skip
            cases h
        · skip
          cases h
      · skip
        cases h
  · skip
    cases h
theorem chg_at (x0 : List Int) (x1 : Int) (x2 : Int) (x3 : Int) (h : ∃ m q, chg m x0 x1 x2 x3 = some q) : ∃ g B', CallAt Try.prog 3 g ∧ (g [(.d (.sl (.int .i64) x0)), (.d (.int .i64 x1)), (.d (.int .i64 x2)), (.d (.int .i64 x3))] []).run = some (.d (.bool true), B') := by
  obtain ⟨m, q, h⟩ := h
  exact ⟨_, _, evCall_atH mixed kinds hds S10 S10_ok (m + 25) 3, chg_ok m x0 x1 x2 x3 q h⟩

end Go.Proofs.Ytahdcmicifokgaa.Dec
