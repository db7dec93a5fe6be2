/- What the functions below call. No condition. Samples, Add, Same. Same bytes. Number. -/
import Derived.Test.YtghkbjflejgieaaQT4
import Derived.Test.YtghkbjflejgieaaProg
import Derived.KernelRfl
namespace Go.Proofs.Ytghkbjflejgieaa.Dec
open Go.Ev
set_option linter.unusedVariables false
set_option linter.unusedSimpArgs false
set_option maxRecDepth 100000
theorem mixed : Try.prog.follows .mixedOrders = true := by kernel_rfl
instance ctx : Ctx := ⟨fun t e => t = .int .u8 → e = 5, fun _ => False, fun _ => True, fun _ _ _ h => h⟩
instance tagOK : TagOK Try.prog := tagOK_of (u := 5) (fun _ _ => Iff.rfl) (by kernel_rfl)

def kinds : FuncId → Bool × Bool := fun f => (f != 11 && f != 12 && f != 17, false)
def hds : FuncId → Nat → Hd := fun f => noHd
@[reducible] noncomputable def F := fnsH Try.prog kinds hds
@[reducible] noncomputable def byref : FuncId → Bool := fun g => match F g with | some h => h.byref | none => false
noncomputable def S0 : FuncId → Option (List AV → Boxes → M (AV × Boxes)) := fun _ => none
set_option maxHeartbeats 20000000 in
theorem S0_ok : ∀ f s, S0 f = some s → CallAt Try.prog f s := fun f s h => by cases h
theorem some_getD {α : Type} {o : Option α} {d : α} (h : o.isSome = true) : o = some (o.getD d) := by
  cases o with
  | none => cases h
  | some a => rfl
theorem ite_cases {c : Prop} [Decidable c] {α : Type} {a b : Option α} {q : α} {G : Prop} (h : (if c then a else b) = some q) (h1 : c → a = some q → G) (h2 : ¬ c → b = some q → G) : G := by
  by_cases hc : c
  · rw [if_pos hc] at h; exact h1 hc h
  · rw [if_neg hc] at h; exact h2 hc h
theorem all_t {c : Bool} {l : List Bool} (h : c = true) (h2 : l.all id = true) : ((c == true) :: l).all id = true := by subst h; simpa using h2
theorem all_f {c : Bool} {l : List Bool} (h : ¬ c = true) (h2 : l.all id = true) : ((c == false) :: l).all id = true := by
  cases c with
  | false => simpa using h2
  | true => exact absurd rfl h
theorem turns_eq {h : Hd} {k0 keep : Nat} {f : LoopG} {n : Nat} {e e2 : Env} {B B2 : Boxes} {r : Option (AEx × Env × Boxes)} (h1 : e = e2) (h2 : B = B2) (h3 : (turns h k0 keep f n e2 B2).run = r) : (turns h k0 keep f n e B).run = r := by
  subst h1; subst h2; exact h3
theorem all_nil : ([] : List Bool).all id = true := rfl
theorem all_nt {c : Bool} {l : List Bool} (h : c = true) (h2 : l.all id = true) : (((!c) == false) :: l).all id = true := by subst h; simpa using h2
theorem all_nf {c : Bool} {l : List Bool} (h : ¬ c = true) (h2 : l.all id = true) : (((!c) == true) :: l).all id = true := by
  cases c with
  | false => simpa using h2
  | true => exact absurd rfl h
theorem all_nnt {c : Bool} {l : List Bool} (h : c = true) (h2 : l.all id = true) : (((!(!c)) == true) :: l).all id = true := by subst h; simpa using h2
theorem all_nnf {c : Bool} {l : List Bool} (h : ¬ c = true) (h2 : l.all id = true) : (((!(!c)) == false) :: l).all id = true := by
  cases c with
  | false => simpa using h2
  | true => exact absurd rfl h

noncomputable def S1 : FuncId → Option (List AV → Boxes → M (AV × Boxes)) := fun f => if f = 19 then some withinS else S0 f
set_option maxHeartbeats 20000000 in
theorem S1_ok : ∀ f s, S1 f = some s → CallAt Try.prog f s := by
  intro f s h
  unfold S1 at h
  split at h
  · rename_i e; subst e; cases h; exact (within_at mixed (kinds := kinds) (by kernel_rfl))
  · exact S0_ok f s h

noncomputable def S2 : FuncId → Option (List AV → Boxes → M (AV × Boxes)) := fun f => if f = 25 then some (cloneR (.pair (.int .i64) (.int .i64)) 16) else S1 f
set_option maxHeartbeats 20000000 in
theorem S2_ok : ∀ f s, S2 f = some s → CallAt Try.prog f s := by
  intro f s h
  unfold S2 at h
  split at h
  · rename_i e; subst e; cases h; exact (cloneR_at mixed 26 26 25 (.pair (.int .i64) (.int .i64)) 16 Try.func25 (by kernel_rfl) (by kernel_rfl) (by kernel_rfl) (by kernel_rfl) (by kernel_rfl) (by kernel_rfl) (by kernel_rfl) (by kernel_rfl) (by kernel_rfl) (by kernel_rfl) (by kernel_rfl) (by kernel_rfl) (by kernel_rfl) (by kernel_rfl) (by kernel_rfl) (by kernel_rfl) (by kernel_rfl) (by kernel_rfl) (by kernel_rfl) )
  · exact S1_ok f s h

end Go.Proofs.Ytghkbjflejgieaa.Dec
namespace Go.Proofs.Ytghkbjflejgieaa.Dec
open Go.Ev
set_option linter.unusedVariables false
set_option linter.unusedSimpArgs false
set_option maxRecDepth 100000
noncomputable def fn12 : AFn := (F 12).getD ⟨0, [], .bad, false, false, noHd⟩
noncomputable def body12 : AC := fn12.body
def l12_0 (m : Nat) : Nat → List Int → Int → Int → List (Int × Int) → Option (Nat × Int × Int × (List (Int × Int)))
  | 0, _, _, _, _ => none
  | n + 1, x0, s4, s5, b0 => if decide (s5 < (((List.length x0) : Nat) : Int)) = true then
      if decide (s5 < 20) = true then
        if decide (0 ≤ s5) = true then
          if decide ((((List.length b0) + 1) * 16) ≤ 70368744177664) = true then
            l12_0 m n x0 ((IntKind.wrap .i64 (s4 + (withinI (List.getD x0 (Int.toNat s5) 0) (1) (12))))) ((IntKind.wrap .i64 (s5 + (1)))) ((b0 ++ [((IntKind.wrap .i64 (s4 + (withinI (List.getD x0 (Int.toNat s5) 0) (1) (12)))), (withinI (IntKind.wrap .i64 (Int.tdiv (List.getD x0 (Int.toNat s5) 0) (12))) (-4) (9)))]))
          else
            none
        else
          none
      else
        some (0, s4, s5, b0)
    else
      some (1, s4, s5, b0)
def l12_0D : Nat × Int × Int × (List (Int × Int)) := (0, 0, 0, [])
@[reducible] def l12_0R (m n : Nat) (x0 : List Int) (s4 : Int) (s5 : Int) (b0 : List (Int × Int)) : Nat × Int × Int × (List (Int × Int)) := Option.getD (l12_0 m n x0 s4 s5 b0) l12_0D
def l12_0H (x0 : List Int) (s4 : Int) (s5 : Int) (b0 : List (Int × Int)) : Env := [(.d (.sl (.int .i64) x0)), .top, .top, (.sr 0 0 (List.length b0) 2 none), (.d (.int .i64 s4)), (.d (.int .i64 s5)), .top, .top, .top, .top, .top, .top, .top, .top, .top, .top, .top, .top, .top, .top, .top, .top, .top, .top, .top, .top, .top, .top, .top, .top, .top, .top, .top, .top, .top]
def l12_0B (x0 : List Int) (s4 : Int) (s5 : Int) (b0 : List (Int × Int)) : Boxes := [(.arr (.pair (.int .i64) (.int .i64)) b0 true)]
def l12_0E (x0 : List Int) (s4 : Int) (s5 : Int) (b0 : List (Int × Int)) : Nat → AEx × Env × Boxes
  | 0 => (.exit 0, [(.d (.sl (.int .i64) x0)), .top, .top, (.sr 0 0 (List.length b0) 2 none), (.d (.int .i64 s4)), (.d (.int .i64 s5)), (.d (.int .i64 s5)), (.d (.sl (.int .i64) x0)), (.d (.int .i64 (((List.length x0) : Nat) : Int))), (.d (.bool (decide (s5 < (((List.length x0) : Nat) : Int))))), (.d (.bool (decide (s5 < (((List.length x0) : Nat) : Int))))), (.d (.int .i64 s5)), (.d (.bool (decide (s5 < 20)))), (.d (.bool (decide (s5 < 20)))), .top, .top, .top, .top, .top, .top, .top, .top, .top, .top, .top, .top, .top, .top, .top, .top, .top, .top, .top, .top, .top], [(.arr (.pair (.int .i64) (.int .i64)) b0 true)])
  | _ => (.exit 0, [(.d (.sl (.int .i64) x0)), .top, .top, (.sr 0 0 (List.length b0) 2 none), (.d (.int .i64 s4)), (.d (.int .i64 s5)), (.d (.int .i64 s5)), (.d (.sl (.int .i64) x0)), (.d (.int .i64 (((List.length x0) : Nat) : Int))), (.d (.bool (decide (s5 < (((List.length x0) : Nat) : Int))))), (.d (.bool (decide (s5 < (((List.length x0) : Nat) : Int))))), (.tup []), (.tup []), (.d (.bool false)), .top, .top, .top, .top, .top, .top, .top, .top, .top, .top, .top, .top, .top, .top, .top, .top, .top, .top, .top, .top, .top], [(.arr (.pair (.int .i64) (.int .i64)) b0 true)])
noncomputable def lbl12_0 : AC := loopBody 57 body12

set_option maxHeartbeats 20000000 in
theorem l12_0_w0 (m n : Nat) (x0 : List Int) (s4 : Int) (s5 : Int) (b0 : List (Int × Int)) (r : AEx × Env × Boxes) (c0 : decide (s5 < (((List.length x0) : Nat) : Int)) = true) (c3 : decide (s5 < 20) = true) (c4 : decide (0 ≤ s5) = true) (c12 : decide ((((List.length b0) + 1) * 16) ≤ 70368744177664) = true) (ih : (turns (hds 12 57) 0 57 (evC byref (evCall F S2 (m + 24)) (m + 24) 0 (hds 12) lbl12_0) n (l12_0H x0 ((IntKind.wrap .i64 (s4 + (withinI (List.getD x0 (Int.toNat s5) 0) (1) (12))))) ((IntKind.wrap .i64 (s5 + (1)))) ((b0 ++ [((IntKind.wrap .i64 (s4 + (withinI (List.getD x0 (Int.toNat s5) 0) (1) (12)))), (withinI (IntKind.wrap .i64 (Int.tdiv (List.getD x0 (Int.toNat s5) 0) (12))) (-4) (9)))]))) (l12_0B x0 ((IntKind.wrap .i64 (s4 + (withinI (List.getD x0 (Int.toNat s5) 0) (1) (12))))) ((IntKind.wrap .i64 (s5 + (1)))) ((b0 ++ [((IntKind.wrap .i64 (s4 + (withinI (List.getD x0 (Int.toNat s5) 0) (1) (12)))), (withinI (IntKind.wrap .i64 (Int.tdiv (List.getD x0 (Int.toNat s5) 0) (12))) (-4) (9)))])))).run = some r) : (turns (hds 12 57) 0 57 (evC byref (evCall F S2 (m + 24)) (m + 24) 0 (hds 12) lbl12_0) (n + 1) (l12_0H x0 s4 s5 b0) (l12_0B x0 s4 s5 b0)).run = some r := by
  have ht : (turn (hds 12 57) 0 57 (evC byref (evCall F S2 (m + 24)) (m + 24) 0 (hds 12) lbl12_0) (l12_0H x0 s4 s5 b0) (l12_0B x0 s4 s5 b0)).run = some (.normal, [(.d (.sl (.int .i64) x0)), .top, .top, (.sr 0 0 ((List.length b0) + 1) 2 none), (.d (.int .i64 (IntKind.wrap .i64 (s4 + (withinI (List.getD x0 (Int.toNat s5) 0) (1) (12)))))), (.d (.int .i64 (IntKind.wrap .i64 (s5 + (1))))), .top, .top, .top, .top, .top, .top, .top, .top, .top, .top, .top, .top, .top, .top, .top, .top, .top, .top, .top, .top, .top, .top, .top, .top, .top, .top, .top, .top, .top], [(.arr (.pair (.int .i64) (.int .i64)) (b0 ++ [((IntKind.wrap .i64 (s4 + (withinI (List.getD x0 (Int.toNat s5) 0) (1) (12)))), (withinI (IntKind.wrap .i64 (Int.tdiv (List.getD x0 (Int.toNat s5) 0) (12))) (-4) (9)))]) true)]) := M.run_of_path _ [true, true, true, true, true, true, true, true, true, true, true, true, true, true] _ _ (by kernel_rfl) (all_t c0 (all_t c0 (all_t c0 (all_t c3 (all_t c4 (all_t c0 (all_t rfl (all_t c4 (all_t c0 (all_t rfl (all_t rfl (all_t rfl (all_t c12 (all_t (show decide ((List.length b0) = (List.length b0)) = true from decide_eq_true rfl) all_nil))))))))))))))
  refine turns_step ht (turns_eq ?_ ?_ ih)
  · unfold l12_0H
    first | (simp; done) | (simp [Nat.add_assoc]; done)
  · unfold l12_0B
    simp
set_option maxHeartbeats 20000000 in
theorem l12_0_w1 (m n : Nat) (x0 : List Int) (s4 : Int) (s5 : Int) (b0 : List (Int × Int)) (c0 : decide (s5 < (((List.length x0) : Nat) : Int)) = true) (c3 : ¬ decide (s5 < 20) = true) : (turns (hds 12 57) 0 57 (evC byref (evCall F S2 (m + 24)) (m + 24) 0 (hds 12) lbl12_0) (n + 1) (l12_0H x0 s4 s5 b0) (l12_0B x0 s4 s5 b0)).run = some (.exit 0, [(.d (.sl (.int .i64) x0)), .top, .top, (.sr 0 0 (List.length b0) 2 none), (.d (.int .i64 s4)), (.d (.int .i64 s5)), (.d (.int .i64 s5)), (.d (.sl (.int .i64) x0)), (.d (.int .i64 (((List.length x0) : Nat) : Int))), (.d (.bool (decide (s5 < (((List.length x0) : Nat) : Int))))), (.d (.bool (decide (s5 < (((List.length x0) : Nat) : Int))))), (.d (.int .i64 s5)), (.d (.bool (decide (s5 < 20)))), (.d (.bool (decide (s5 < 20)))), .top, .top, .top, .top, .top, .top, .top, .top, .top, .top, .top, .top, .top, .top, .top, .top, .top, .top, .top, .top, .top], [(.arr (.pair (.int .i64) (.int .i64)) b0 true)]) := by
  exact turns_last (by simp) (M.run_of_path _ [true, true, true, false] _ _ (by kernel_rfl) (all_t c0 (all_t c0 (all_t c0 (all_f c3 all_nil))))) 
set_option maxHeartbeats 20000000 in
theorem l12_0_w2 (m n : Nat) (x0 : List Int) (s4 : Int) (s5 : Int) (b0 : List (Int × Int)) (c0 : ¬ decide (s5 < (((List.length x0) : Nat) : Int)) = true) : (turns (hds 12 57) 0 57 (evC byref (evCall F S2 (m + 24)) (m + 24) 0 (hds 12) lbl12_0) (n + 1) (l12_0H x0 s4 s5 b0) (l12_0B x0 s4 s5 b0)).run = some (.exit 0, [(.d (.sl (.int .i64) x0)), .top, .top, (.sr 0 0 (List.length b0) 2 none), (.d (.int .i64 s4)), (.d (.int .i64 s5)), (.d (.int .i64 s5)), (.d (.sl (.int .i64) x0)), (.d (.int .i64 (((List.length x0) : Nat) : Int))), (.d (.bool (decide (s5 < (((List.length x0) : Nat) : Int))))), (.d (.bool (decide (s5 < (((List.length x0) : Nat) : Int))))), (.tup []), (.tup []), (.d (.bool false)), .top, .top, .top, .top, .top, .top, .top, .top, .top, .top, .top, .top, .top, .top, .top, .top, .top, .top, .top, .top, .top], [(.arr (.pair (.int .i64) (.int .i64)) b0 true)]) := by
  exact turns_last (by simp) (M.run_of_path _ [false, false, false, false] _ _ (by kernel_rfl) (all_f c0 (all_f c0 (all_f c0 (all_f Bool.false_ne_true all_nil))))) 

set_option maxHeartbeats 20000000 in
theorem l12_0_step (m n : Nat) (ih : ∀ (x0 : List Int) (s4 : Int) (s5 : Int) (b0 : List (Int × Int)) (q : Nat × Int × Int × (List (Int × Int))), l12_0 m n x0 s4 s5 b0 = some q → (turns (hds 12 57) 0 57 (evC byref (evCall F S2 (m + 24)) (m + 24) 0 (hds 12) lbl12_0) n (l12_0H x0 s4 s5 b0) (l12_0B x0 s4 s5 b0)).run = some (l12_0E (x0) (q.2.1) (q.2.2.1) (q.2.2.2) q.1)) (x0 : List Int) (s4 : Int) (s5 : Int) (b0 : List (Int × Int)) (q : Nat × Int × Int × (List (Int × Int))) (h : l12_0 m (n + 1) x0 s4 s5 b0 = some q) : (turns (hds 12 57) 0 57 (evC byref (evCall F S2 (m + 24)) (m + 24) 0 (hds 12) lbl12_0) (n + 1) (l12_0H x0 s4 s5 b0) (l12_0B x0 s4 s5 b0)).run = some (l12_0E (x0) (q.2.1) (q.2.2.1) (q.2.2.2) q.1) := by
  rw [l12_0] at h
  refine ite_cases h (fun c0 h => ?_) (fun c0 h => ?_)
  · skip
    refine ite_cases h (fun c3 h => ?_) (fun c3 h => ?_)
    · skip
      refine ite_cases h (fun c4 h => ?_) (fun c4 h => ?_)
      · skip
        refine ite_cases h (fun c12 h => ?_) (fun c12 h => ?_)
        · skip
          exact l12_0_w0 m n x0 s4 s5 b0 _ c0 c3 c4 c12 (ih _ _ _ _ q h)
        · skip
          cases h
      · skip
        cases h
    · skip
      cases h
      exact l12_0_w1 m n x0 s4 s5 b0 c0 c3
  · skip
    cases h
    exact l12_0_w2 m n x0 s4 s5 b0 c0
set_option maxHeartbeats 20000000 in
theorem l12_0_ok (m : Nat) : ∀ (n : Nat) (x0 : List Int) (s4 : Int) (s5 : Int) (b0 : List (Int × Int)) (q : Nat × Int × Int × (List (Int × Int))), l12_0 m n x0 s4 s5 b0 = some q → (turns (hds 12 57) 0 57 (evC byref (evCall F S2 (m + 24)) (m + 24) 0 (hds 12) lbl12_0) n (l12_0H x0 s4 s5 b0) (l12_0B x0 s4 s5 b0)).run = some (l12_0E (x0) (q.2.1) (q.2.2.1) (q.2.2.2) q.1)
  | 0, x0, s4, s5, b0, q, h => by cases h
  | n + 1, x0, s4, s5, b0, q, h => l12_0_step m n (l12_0_ok m n) x0 s4 s5 b0 q h

def p12 (m : Nat) (x0 : List Int) : Option ((List (Int × Int))) :=
  if (Option.isSome (l12_0 m (m + 24) x0 0 0 (([] : List (Int × Int))))) = true then
    if ((l12_0R m (m + 24) x0 0 0 (([] : List (Int × Int)))).1 == 0) = true then
      some ((l12_0R m (m + 24) x0 0 0 (([] : List (Int × Int)))).2.2.2)
    else
      if ((l12_0R m (m + 24) x0 0 0 (([] : List (Int × Int)))).1 == 1) = true then
        some ((l12_0R m (m + 24) x0 0 0 (([] : List (Int × Int)))).2.2.2)
      else
        none
  else
    none
set_option maxHeartbeats 20000000 in
theorem p12_ok (m : Nat) (x0 : List Int) (q : (List (Int × Int))) (h : p12 m x0 = some q) : ∃ r B1 r1 B2, (padM (.pair (.int .i64) (.int .i64)) 0 (evCall F S2 (m + 25) 12 [(.d (.sl (.int .i64) x0))] [])).run = some (r, B1) ∧ 0 ≤ B2.length ∧ B2.length ≤ B1.length ∧ wkR B1 B2 r r1 ∧ wkBs B1 B2 0 B2 ∧ (compact 0 [r1] B2).run = some ([(.sr 0 0 (List.length q) 2 none)], [(.arr (.pair (.int .i64) (.int .i64)) q true)]) := by
  unfold p12 at h
  refine ite_cases h (fun c0 h => ?_) (fun c0 h => ?_)
  · skip
    refine ite_cases h (fun c1 h => ?_) (fun c1 h => ?_)
    · skip
      cases h
      refine ⟨(.sr 0 0 (List.length (l12_0R m (m + 24) x0 0 0 (([] : List (Int × Int)))).2.2.2) 2 none), [(.arr (.pair (.int .i64) (.int .i64)) (l12_0R m (m + 24) x0 0 0 (([] : List (Int × Int)))).2.2.2 true)], (.sr 0 0 (List.length (l12_0R m (m + 24) x0 0 0 (([] : List (Int × Int)))).2.2.2) 2 none), [(.arr (.pair (.int .i64) (.int .i64)) (l12_0R m (m + 24) x0 0 0 (([] : List (Int × Int)))).2.2.2 true)], padM_run rfl (runT_ok (LS := (fun k => if k = 57 then some (l12_0E x0 ((l12_0R m (m + 24) x0 0 0 (([] : List (Int × Int)))).2.1) ((l12_0R m (m + 24) x0 0 0 (([] : List (Int × Int)))).2.2.1) ((l12_0R m (m + 24) x0 0 0 (([] : List (Int × Int)))).2.2.2) 0) else none)) (fn := fn12) (vis := [(57, l12_0H x0 0 0 (([] : List (Int × Int))), l12_0B x0 0 0 (([] : List (Int × Int))))]) (r := (.sr 0 0 (List.length (l12_0R m (m + 24) x0 0 0 (([] : List (Int × Int)))).2.2.2) 2 none)) (B' := [(.arr (.pair (.int .i64) (.int .i64)) (l12_0R m (m + 24) x0 0 0 (([] : List (Int × Int)))).2.2.2 true)]) (by kernel_rfl) rfl (by kernel_rfl) (M.run_of_path _ [] _ _ (by kernel_rfl) all_nil) ?_) rfl, by simp, by simp, (wkR.one (wkV.one (wk1.live rfl))), ⟨wkBox.arr, trivial⟩, by kernel_rfl⟩
      intro p hp p2 hq
      rcases List.mem_cons.1 hp with rfl | hp
      · skip
        have h3 := l12_0_ok m (m + 24) x0 0 0 (([] : List (Int × Int))) _ (some_getD (d := l12_0D) c0)
        rw [eq_of_beq c1] at h3
        exact Eq.trans (Eq.mp (by kernel_rfl) h3) hq
      cases hp
    · skip
      refine ite_cases h (fun c2 h => ?_) (fun c2 h => ?_)
      · skip
        cases h
        refine ⟨(.sr 0 0 (List.length (l12_0R m (m + 24) x0 0 0 (([] : List (Int × Int)))).2.2.2) 2 none), [(.arr (.pair (.int .i64) (.int .i64)) (l12_0R m (m + 24) x0 0 0 (([] : List (Int × Int)))).2.2.2 true)], (.sr 0 0 (List.length (l12_0R m (m + 24) x0 0 0 (([] : List (Int × Int)))).2.2.2) 2 none), [(.arr (.pair (.int .i64) (.int .i64)) (l12_0R m (m + 24) x0 0 0 (([] : List (Int × Int)))).2.2.2 true)], padM_run rfl (runT_ok (LS := (fun k => if k = 57 then some (l12_0E x0 ((l12_0R m (m + 24) x0 0 0 (([] : List (Int × Int)))).2.1) ((l12_0R m (m + 24) x0 0 0 (([] : List (Int × Int)))).2.2.1) ((l12_0R m (m + 24) x0 0 0 (([] : List (Int × Int)))).2.2.2) 1) else none)) (fn := fn12) (vis := [(57, l12_0H x0 0 0 (([] : List (Int × Int))), l12_0B x0 0 0 (([] : List (Int × Int))))]) (r := (.sr 0 0 (List.length (l12_0R m (m + 24) x0 0 0 (([] : List (Int × Int)))).2.2.2) 2 none)) (B' := [(.arr (.pair (.int .i64) (.int .i64)) (l12_0R m (m + 24) x0 0 0 (([] : List (Int × Int)))).2.2.2 true)]) (by kernel_rfl) rfl (by kernel_rfl) (M.run_of_path _ [] _ _ (by kernel_rfl) all_nil) ?_) rfl, by simp, by simp, (wkR.one (wkV.one (wk1.live rfl))), ⟨wkBox.arr, trivial⟩, by kernel_rfl⟩
        intro p hp p2 hq
        rcases List.mem_cons.1 hp with rfl | hp
        · skip
          have h3 := l12_0_ok m (m + 24) x0 0 0 (([] : List (Int × Int))) _ (some_getD (d := l12_0D) c0)
          rw [eq_of_beq c2] at h3
          exact Eq.trans (Eq.mp (by kernel_rfl) h3) hq
        cases hp
      · skip
        cases h
  · skip
    cases h

abbrev SL := List (Int × Int)
def sampGo (t : Int) : List Int → SL
  | [] => []
  | k :: ks => (t + withinI k 1 12, withinI (IntKind.wrap .i64 (Int.tdiv k 12)) (-4) 9) :: sampGo (t + withinI k 1 12) ks
/-- Samples of numbers. -/
def samplesG (l : List Int) : SL := sampGo 0 (l.take 20)
theorem within_1_12 (k : Int) : 1 ≤ withinI k 1 12 ∧ withinI k 1 12 ≤ 12 := by unfold withinI; omega
theorem samp_loop (m : Nat) (x0 : List Int) : ∀ (n i : Nat) (t : Int) (acc : SL), i ≤ x0.length → i ≤ 20 → 0 ≤ t → t ≤ 12 * (i : Nat) → acc.length = i → 20 - i < n →
    ∃ e t' i', l12_0 m n x0 t (i : Nat) acc = some (e, t', i', acc ++ sampGo t ((x0.take 20).drop i)) ∧ (e = 0 ∨ e = 1)
  | 0, i, t, acc, _, _, _, _, _, h => by omega
  | n + 1, i, t, acc, h1, h2, h3, h4, h5, h6 => by
    rw [l12_0]
    by_cases hi : i < x0.length
    · have e1 : decide (((i : Nat) : Int) < (((List.length x0) : Nat) : Int)) = true := decide_eq_true (by omega)
      by_cases hj : i < 20
      · have e2 : decide (((i : Nat) : Int) < 20) = true := decide_eq_true (by omega)
        have e3 : decide ((0 : Int) ≤ ((i : Nat) : Int)) = true := decide_eq_true (by omega)
        have e4 : decide ((((List.length acc) + 1) * 16) ≤ 70368744177664) = true := decide_eq_true (by omega)
        have e5 : decide ((List.length acc) = (List.length acc)) = true := decide_eq_true rfl
        have hw := within_1_12 (List.getD x0 i 0)
        have e6 : IntKind.wrap .i64 (t + withinI (List.getD x0 i 0) (1) (12)) = t + withinI (List.getD x0 i 0) (1) (12) := wrap_id (by omega) (by omega)
        have e7 : IntKind.wrap .i64 (((i : Nat) : Int) + (1)) = ((i + 1 : Nat) : Int) := by rw [wrap_id (by omega) (by omega)]; rfl
        simp only [e1, e2, e3, e4, e5, Int.toNat_natCast, e6, e7, ↓reduceIte]
        obtain ⟨e, t', i', hr, he⟩ := samp_loop m x0 n (i + 1) (t + withinI (List.getD x0 i 0) 1 12) (acc ++ [(t + withinI (List.getD x0 i 0) 1 12, withinI (IntKind.wrap .i64 (Int.tdiv (List.getD x0 i 0) 12)) (-4) 9)]) (by omega) (by omega) (by omega) (by omega) (by simp [h5]) (by omega)
        refine ⟨e, t', i', ?_, he⟩
        rw [hr]
        have hd : (x0.take 20).drop i = List.getD x0 i 0 :: (x0.take 20).drop (i + 1) := by
          rw [drop_getD (x0.take 20) i 0 (by rw [List.length_take]; omega)]
          congr 1
          rw [List.getD_eq_getElem?_getD, List.getD_eq_getElem?_getD, List.getElem?_take_of_lt hj]
        rw [hd]
        simp [sampGo]
      · have e2 : decide (((i : Nat) : Int) < 20) = false := decide_eq_false (by omega)
        simp only [e1, e2, ↓reduceIte, Bool.false_eq_true]
        refine ⟨0, t, (i : Nat), ?_, .inl rfl⟩
        have : i = 20 := by omega
        rw [List.drop_eq_nil_of_le (by rw [List.length_take]; omega)]
        simp [sampGo]
    · have e1 : decide (((i : Nat) : Int) < (((List.length x0) : Nat) : Int)) = false := decide_eq_false (by omega)
      simp only [e1, ↓reduceIte, Bool.false_eq_true]
      refine ⟨1, t, (i : Nat), ?_, .inr rfl⟩
      rw [List.drop_eq_nil_of_le (by rw [List.length_take]; omega)]
      simp [sampGo]
theorem samples12 (l : List Int) (_ : true = true) : ∃ m, p12 m l = some (samplesG l) := by
  refine ⟨0, ?_⟩
  obtain ⟨e, t', i', hr, he⟩ := samp_loop 0 l 24 0 0 [] (by omega) (by omega) (by omega) (by omega) rfl (by omega)
  simp only [Int.natCast_zero, List.drop_zero, List.nil_append] at hr
  unfold p12 l12_0R
  rw [hr]
  have h1 : decide (0 + List.length (sampGo 0 (l.take 20)) ≤ List.length (sampGo 0 (l.take 20))) = true := decide_eq_true (by omega)
  rcases he with rfl | rfl <;> simp [samplesG]
def s12 : List AV → Boxes → M (AV × Boxes) := normS [.val (.sl (.int .i64))] [] fun xs B => match xs, B with
  | [(.d (.sl (.int .i64) c1))], [] => .chk (true) (.ret ((.sr 0 0 (List.length (samplesG c1)) 2 none), [(.arr (.pair (.int .i64) (.int .i64)) (samplesG c1) true)]))
  | _, _ => .fail
theorem s12_at : CallAt Try.prog 12 s12 := by
  refine CallAt.norm (CallAt.weakC (g := fun n xs B => padM (.pair (.int .i64) (.int .i64)) 0 (evCall F S2 n 12 xs B)) (fun n => CallAt.pad (.pair (.int .i64) (.int .i64)) 0 (evCall_atH mixed kinds hds S2 S2_ok n 12)) fun xs B r' B' hr => ?_) _ _
  split at hr
  · rename_i c1
    obtain ⟨hp, hr⟩ := (M.run_chk _ _ _).1 hr
    simp only [M.run, Option.some.injEq, Prod.mk.injEq] at hr
    obtain ⟨rfl, rfl⟩ := hr
    obtain ⟨m, hm⟩ := samples12 c1 hp
    obtain ⟨r, B1, r1, B2, h1, h2, h3, h4, h5, h6⟩ := p12_ok m c1 _ hm
    exact ⟨m + 25, r, B1, r1, B2, h1, by simp, h2, h3, h4, h5, h6⟩
  · simp [M.run] at hr
noncomputable def S3 : FuncId → Option (List AV → Boxes → M (AV × Boxes)) := fun f => if f = 12 then some s12 else S2 f
set_option maxHeartbeats 20000000 in
theorem S3_ok : ∀ f s, S3 f = some s → CallAt Try.prog f s := by
  intro f s h
  unfold S3 at h
  split at h
  · rename_i e; subst e; cases h; exact s12_at
  · exact S2_ok f s h

/-- How many samples have a time at most t. -/
def uptoG (l : SL) (t : Int) : Nat := (l.takeWhile fun x => decide (x.1 ≤ t)).length
theorem upto_le (l : SL) (t : Int) : uptoG l t ≤ l.length := (List.takeWhile_sublist _).length_le
theorem upto_cons (a : Int × Int) (r : SL) (t : Int) : uptoG (a :: r) t = if a.1 ≤ t then uptoG r t + 1 else 0 := by
  unfold uptoG
  by_cases h : a.1 ≤ t
  · rw [List.takeWhile_cons_of_pos (by simpa using h), if_pos h]; rfl
  · rw [List.takeWhile_cons_of_neg (by simpa using h), if_neg h]; rfl

noncomputable def fn22 : AFn := (F 22).getD ⟨0, [], .bad, false, false, noHd⟩
noncomputable def body22 : AC := fn22.body
def l22_0 (m : Nat) : Nat → List (Int × Int) → List (Int × Int) → Int → Int → List (Int × Int) → Option (Nat × Int × (List (Int × Int)))
  | 0, _, _, _, _, _ => none
  | n + 1, x0, x1, s14, s15, b1 => if decide (s15 < s14) = true then
      if decide (0 ≤ s15) = true then
        if decide (s15 < (((List.length x1) : Nat) : Int)) = true then
          if decide ((List.getD x1 (Int.toNat s15) (0, 0)).1 < 0) = true then
            some (0, s15, b1)
          else
            if decide ((List.getD x1 (Int.toNat s15) (0, 0)).1 > 1099511627776) = true then
              some (1, s15, b1)
            else
              if decide ((((List.length b1) : Nat) : Int) > 0) = true then
                if decide (0 ≤ (IntKind.wrap .i64 ((((List.length b1) : Nat) : Int) - (1)))) = true then
                  if decide ((IntKind.wrap .i64 ((((List.length b1) : Nat) : Int) - (1))) < (((List.length b1) : Nat) : Int)) = true then
                    if decide ((0 + (Int.toNat (IntKind.wrap .i64 ((((List.length b1) : Nat) : Int) - (1))))) < (List.length b1)) = true then
                      if decide ((List.getD x1 (Int.toNat s15) (0, 0)).1 ≤ (List.getD b1 (0 + (Int.toNat (IntKind.wrap .i64 ((((List.length b1) : Nat) : Int) - (1))))) (0, 0)).1) = true then
                        some (2, s15, b1)
                      else
                        if ((((List.length b1) : Nat) : Int) == (200)) = true then
                          some (3, s15, b1)
                        else
                          if decide ((((List.length b1) + 1) * 16) ≤ 70368744177664) = true then
                            l22_0 m n x0 x1 s14 ((IntKind.wrap .i64 (s15 + (1)))) ((b1 ++ [(List.getD x1 (Int.toNat s15) (0, 0))]))
                          else
                            none
                    else
                      none
                  else
                    none
                else
                  none
              else
                if ((((List.length b1) : Nat) : Int) == (200)) = true then
                  some (4, s15, b1)
                else
                  if decide ((((List.length b1) + 1) * 16) ≤ 70368744177664) = true then
                    l22_0 m n x0 x1 s14 ((IntKind.wrap .i64 (s15 + (1)))) ((b1 ++ [(List.getD x1 (Int.toNat s15) (0, 0))]))
                  else
                    none
        else
          none
      else
        none
    else
      some (5, s15, b1)
def l22_0D : Nat × Int × (List (Int × Int)) := (0, 0, [])
@[reducible] def l22_0R (m n : Nat) (x0 : List (Int × Int)) (x1 : List (Int × Int)) (s14 : Int) (s15 : Int) (b1 : List (Int × Int)) : Nat × Int × (List (Int × Int)) := Option.getD (l22_0 m n x0 x1 s14 s15 b1) l22_0D
def l22_0H (x0 : List (Int × Int)) (x1 : List (Int × Int)) (s14 : Int) (s15 : Int) (b1 : List (Int × Int)) : Env := [(.ptr 0 0), .top, .top, .top, .top, (.sr 1 0 (List.length b1) 2 none), .top, .top, .top, .top, .top, .top, .top, (.d (.sl (.pair (.int .i64) (.int .i64)) x1)), (.d (.int .i64 s14)), (.d (.int .i64 s15)), .top, .top, .top, .top, .top, .top, .top, .top, .top, .top, .top, .top, .top, .top, .top, .top, .top, .top, .top, .top, .top, .top, .top, .top, .top, .top, .top, .top, .top, .top, .top, .top, .top, .top, .top, .top, .top, .top, .top, .top, .top]
def l22_0B (x0 : List (Int × Int)) (x1 : List (Int × Int)) (s14 : Int) (s15 : Int) (b1 : List (Int × Int)) : Boxes := [(.cells [(.d (.sl (.pair (.int .i64) (.int .i64)) x0))]), (.arr (.pair (.int .i64) (.int .i64)) b1 true)]
def l22_0E (x0 : List (Int × Int)) (x1 : List (Int × Int)) (s14 : Int) (s15 : Int) (b1 : List (Int × Int)) : Nat → AEx × Env × Boxes
  | 0 => (.ret, [(.ptr 0 0), .top, .top, .top, (.d (.int .i64 (1))), (.sr 1 0 (List.length b1) 2 none), .top, (.ptr 2 0), .top, .top, .top, .top, .top, (.d (.sl (.pair (.int .i64) (.int .i64)) x1)), (.d (.int .i64 s14)), (.d (.int .i64 s15)), (.d (.bool (decide (s15 < s14)))), (.cptr [(.int .i64 (List.getD x1 (Int.toNat s15) (0, 0)).1), (.int .i64 (List.getD x1 (Int.toNat s15) (0, 0)).2)] 0), (.agg [(.d (.int .i64 (List.getD x1 (Int.toNat s15) (0, 0)).1)), (.d (.int .i64 (List.getD x1 (Int.toNat s15) (0, 0)).2))]), (.d (.bool true)), (.ptr 2 0), (.d (.int .i64 (List.getD x1 (Int.toNat s15) (0, 0)).1)), (.d (.bool (decide ((List.getD x1 (Int.toNat s15) (0, 0)).1 < 0)))), (.d (.bool (decide ((List.getD x1 (Int.toNat s15) (0, 0)).1 < 0)))), (.tup []), (.tup []), (.tup []), (.d (.bool true)), .top, .top, .top, .top, .top, .top, .top, .top, .top, .top, .top, .top, .top, .top, .top, .top, .top, .top, .top, .top, .top, .top, .top, .top, .top, .top, .top, .top, .top], [(.cells [(.d (.sl (.pair (.int .i64) (.int .i64)) x0))]), (.arr (.pair (.int .i64) (.int .i64)) b1 true), (.cells [(.d (.int .i64 (List.getD x1 (Int.toNat s15) (0, 0)).1)), (.d (.int .i64 (List.getD x1 (Int.toNat s15) (0, 0)).2))])])
  | 1 => (.ret, [(.ptr 0 0), .top, .top, .top, (.d (.int .i64 (1))), (.sr 1 0 (List.length b1) 2 none), .top, (.ptr 2 0), .top, .top, .top, .top, .top, (.d (.sl (.pair (.int .i64) (.int .i64)) x1)), (.d (.int .i64 s14)), (.d (.int .i64 s15)), (.d (.bool (decide (s15 < s14)))), (.cptr [(.int .i64 (List.getD x1 (Int.toNat s15) (0, 0)).1), (.int .i64 (List.getD x1 (Int.toNat s15) (0, 0)).2)] 0), (.agg [(.d (.int .i64 (List.getD x1 (Int.toNat s15) (0, 0)).1)), (.d (.int .i64 (List.getD x1 (Int.toNat s15) (0, 0)).2))]), (.d (.bool (decide ((List.getD x1 (Int.toNat s15) (0, 0)).1 > 1099511627776)))), (.ptr 2 0), (.d (.int .i64 (List.getD x1 (Int.toNat s15) (0, 0)).1)), (.d (.bool (decide ((List.getD x1 (Int.toNat s15) (0, 0)).1 < 0)))), (.d (.bool (decide ((List.getD x1 (Int.toNat s15) (0, 0)).1 < 0)))), (.ptr 2 0), (.d (.int .i64 (List.getD x1 (Int.toNat s15) (0, 0)).1)), (.d (.bool (decide ((List.getD x1 (Int.toNat s15) (0, 0)).1 > 1099511627776)))), (.d (.bool (decide ((List.getD x1 (Int.toNat s15) (0, 0)).1 > 1099511627776)))), .top, .top, .top, .top, .top, .top, .top, .top, .top, .top, .top, .top, .top, .top, .top, .top, .top, .top, .top, .top, .top, .top, .top, .top, .top, .top, .top, .top, .top], [(.cells [(.d (.sl (.pair (.int .i64) (.int .i64)) x0))]), (.arr (.pair (.int .i64) (.int .i64)) b1 true), (.cells [(.d (.int .i64 (List.getD x1 (Int.toNat s15) (0, 0)).1)), (.d (.int .i64 (List.getD x1 (Int.toNat s15) (0, 0)).2))])])
  | 2 => (.ret, [(.ptr 0 0), .top, .top, .top, (.d (.int .i64 (2))), (.sr 1 0 (List.length b1) 2 none), .top, (.ptr 2 0), .top, .top, .top, .top, .top, (.d (.sl (.pair (.int .i64) (.int .i64)) x1)), (.d (.int .i64 s14)), (.d (.int .i64 s15)), (.d (.bool (decide (s15 < s14)))), (.cptr [(.int .i64 (List.getD x1 (Int.toNat s15) (0, 0)).1), (.int .i64 (List.getD x1 (Int.toNat s15) (0, 0)).2)] 0), (.agg [(.d (.int .i64 (List.getD x1 (Int.toNat s15) (0, 0)).1)), (.d (.int .i64 (List.getD x1 (Int.toNat s15) (0, 0)).2))]), (.d (.bool (decide ((List.getD x1 (Int.toNat s15) (0, 0)).1 > 1099511627776)))), (.ptr 2 0), (.d (.int .i64 (List.getD x1 (Int.toNat s15) (0, 0)).1)), (.d (.bool (decide ((List.getD x1 (Int.toNat s15) (0, 0)).1 < 0)))), (.d (.bool (decide ((List.getD x1 (Int.toNat s15) (0, 0)).1 < 0)))), (.ptr 2 0), (.d (.int .i64 (List.getD x1 (Int.toNat s15) (0, 0)).1)), (.d (.bool (decide ((List.getD x1 (Int.toNat s15) (0, 0)).1 > 1099511627776)))), (.d (.bool (decide ((List.getD x1 (Int.toNat s15) (0, 0)).1 > 1099511627776)))), (.d (.bool (decide ((List.getD x1 (Int.toNat s15) (0, 0)).1 ≤ (List.getD b1 (0 + (Int.toNat (IntKind.wrap .i64 ((((List.length b1) : Nat) : Int) - (1))))) (0, 0)).1)))), (.sr 1 0 (List.length b1) 2 none), (.d (.int .i64 (((List.length b1) : Nat) : Int))), (.d (.bool (decide ((((List.length b1) : Nat) : Int) > 0)))), (.d (.bool (decide ((((List.length b1) : Nat) : Int) > 0)))), (.ptr 2 0), (.d (.int .i64 (List.getD x1 (Int.toNat s15) (0, 0)).1)), (.sr 1 0 (List.length b1) 2 none), (.sr 1 0 (List.length b1) 2 none), (.d (.int .i64 (((List.length b1) : Nat) : Int))), (.d (.int .i64 (IntKind.wrap .i64 ((((List.length b1) : Nat) : Int) - (1))))), (.eptr 1 (0 + (Int.toNat (IntKind.wrap .i64 ((((List.length b1) : Nat) : Int) - (1))))) 2 0), (.eptr 1 (0 + (Int.toNat (IntKind.wrap .i64 ((((List.length b1) : Nat) : Int) - (1))))) 2 0), (.d (.int .i64 (List.getD b1 (0 + (Int.toNat (IntKind.wrap .i64 ((((List.length b1) : Nat) : Int) - (1))))) (0, 0)).1)), (.d (.bool (decide ((List.getD x1 (Int.toNat s15) (0, 0)).1 ≤ (List.getD b1 (0 + (Int.toNat (IntKind.wrap .i64 ((((List.length b1) : Nat) : Int) - (1))))) (0, 0)).1)))), (.d (.bool (decide ((List.getD x1 (Int.toNat s15) (0, 0)).1 ≤ (List.getD b1 (0 + (Int.toNat (IntKind.wrap .i64 ((((List.length b1) : Nat) : Int) - (1))))) (0, 0)).1)))), .top, .top, .top, .top, .top, .top, .top, .top, .top, .top, .top, .top, .top], [(.cells [(.d (.sl (.pair (.int .i64) (.int .i64)) x0))]), (.arr (.pair (.int .i64) (.int .i64)) b1 true), (.cells [(.d (.int .i64 (List.getD x1 (Int.toNat s15) (0, 0)).1)), (.d (.int .i64 (List.getD x1 (Int.toNat s15) (0, 0)).2))]), .dead, .dead, .dead, .dead, .dead, .dead, .dead, .dead, .dead, .dead, .dead, .dead, .dead, .dead, .dead, .dead, .dead, .dead, .dead, .dead, .dead, .dead, .dead, .dead, .dead, .dead, .dead, .dead, .dead, .dead, .dead, .dead, .dead, .dead, .dead, .dead, .dead, .dead, .dead, .dead, .dead, .dead, .dead, .dead, .dead, .dead, .dead, .dead, .dead, .dead, .dead, .dead, .dead, .dead, .dead, .dead, .dead, .dead, .dead, .dead, .dead, .dead, .dead, .dead])
  | 3 => (.ret, [(.ptr 0 0), .top, .top, .top, (.d (.int .i64 (8))), (.sr 1 0 (List.length b1) 2 none), .top, (.ptr 2 0), .top, .top, .top, .top, .top, (.d (.sl (.pair (.int .i64) (.int .i64)) x1)), (.d (.int .i64 s14)), (.d (.int .i64 s15)), (.d (.bool (decide (s15 < s14)))), (.cptr [(.int .i64 (List.getD x1 (Int.toNat s15) (0, 0)).1), (.int .i64 (List.getD x1 (Int.toNat s15) (0, 0)).2)] 0), (.agg [(.d (.int .i64 (List.getD x1 (Int.toNat s15) (0, 0)).1)), (.d (.int .i64 (List.getD x1 (Int.toNat s15) (0, 0)).2))]), (.d (.bool (decide ((List.getD x1 (Int.toNat s15) (0, 0)).1 > 1099511627776)))), (.ptr 2 0), (.d (.int .i64 (List.getD x1 (Int.toNat s15) (0, 0)).1)), (.d (.bool (decide ((List.getD x1 (Int.toNat s15) (0, 0)).1 < 0)))), (.d (.bool (decide ((List.getD x1 (Int.toNat s15) (0, 0)).1 < 0)))), (.ptr 2 0), (.d (.int .i64 (List.getD x1 (Int.toNat s15) (0, 0)).1)), (.d (.bool (decide ((List.getD x1 (Int.toNat s15) (0, 0)).1 > 1099511627776)))), (.d (.bool (decide ((List.getD x1 (Int.toNat s15) (0, 0)).1 > 1099511627776)))), (.d (.bool (decide ((List.getD x1 (Int.toNat s15) (0, 0)).1 ≤ (List.getD b1 (0 + (Int.toNat (IntKind.wrap .i64 ((((List.length b1) : Nat) : Int) - (1))))) (0, 0)).1)))), (.sr 1 0 (List.length b1) 2 none), (.d (.int .i64 (((List.length b1) : Nat) : Int))), (.d (.bool (decide ((((List.length b1) : Nat) : Int) > 0)))), (.d (.bool (decide ((((List.length b1) : Nat) : Int) > 0)))), (.ptr 2 0), (.d (.int .i64 (List.getD x1 (Int.toNat s15) (0, 0)).1)), (.sr 1 0 (List.length b1) 2 none), (.sr 1 0 (List.length b1) 2 none), (.d (.int .i64 (((List.length b1) : Nat) : Int))), (.d (.int .i64 (IntKind.wrap .i64 ((((List.length b1) : Nat) : Int) - (1))))), (.eptr 1 (0 + (Int.toNat (IntKind.wrap .i64 ((((List.length b1) : Nat) : Int) - (1))))) 2 0), (.eptr 1 (0 + (Int.toNat (IntKind.wrap .i64 ((((List.length b1) : Nat) : Int) - (1))))) 2 0), (.d (.int .i64 (List.getD b1 (0 + (Int.toNat (IntKind.wrap .i64 ((((List.length b1) : Nat) : Int) - (1))))) (0, 0)).1)), (.d (.bool (decide ((List.getD x1 (Int.toNat s15) (0, 0)).1 ≤ (List.getD b1 (0 + (Int.toNat (IntKind.wrap .i64 ((((List.length b1) : Nat) : Int) - (1))))) (0, 0)).1)))), (.d (.bool (decide ((List.getD x1 (Int.toNat s15) (0, 0)).1 ≤ (List.getD b1 (0 + (Int.toNat (IntKind.wrap .i64 ((((List.length b1) : Nat) : Int) - (1))))) (0, 0)).1)))), (.d (.bool ((((List.length b1) : Nat) : Int) == (200)))), (.sr 1 0 (List.length b1) 2 none), (.d (.int .i64 (((List.length b1) : Nat) : Int))), (.d (.bool ((((List.length b1) : Nat) : Int) == (200)))), .top, .top, .top, .top, .top, .top, .top, .top, .top], [(.cells [(.d (.sl (.pair (.int .i64) (.int .i64)) x0))]), (.arr (.pair (.int .i64) (.int .i64)) b1 true), (.cells [(.d (.int .i64 (List.getD x1 (Int.toNat s15) (0, 0)).1)), (.d (.int .i64 (List.getD x1 (Int.toNat s15) (0, 0)).2))]), .dead, .dead, .dead, .dead, .dead, .dead, .dead, .dead, .dead, .dead, .dead, .dead, .dead, .dead, .dead, .dead, .dead, .dead, .dead, .dead, .dead, .dead, .dead, .dead, .dead, .dead, .dead, .dead, .dead, .dead, .dead, .dead, .dead, .dead, .dead, .dead, .dead, .dead, .dead, .dead, .dead, .dead, .dead, .dead, .dead, .dead, .dead, .dead, .dead, .dead, .dead, .dead, .dead, .dead, .dead, .dead, .dead, .dead, .dead, .dead, .dead, .dead, .dead, .dead])
  | 4 => (.ret, [(.ptr 0 0), .top, .top, .top, (.d (.int .i64 (8))), (.sr 1 0 (List.length b1) 2 none), .top, (.ptr 2 0), .top, .top, .top, .top, .top, (.d (.sl (.pair (.int .i64) (.int .i64)) x1)), (.d (.int .i64 s14)), (.d (.int .i64 s15)), (.d (.bool (decide (s15 < s14)))), (.cptr [(.int .i64 (List.getD x1 (Int.toNat s15) (0, 0)).1), (.int .i64 (List.getD x1 (Int.toNat s15) (0, 0)).2)] 0), (.agg [(.d (.int .i64 (List.getD x1 (Int.toNat s15) (0, 0)).1)), (.d (.int .i64 (List.getD x1 (Int.toNat s15) (0, 0)).2))]), (.d (.bool (decide ((List.getD x1 (Int.toNat s15) (0, 0)).1 > 1099511627776)))), (.ptr 2 0), (.d (.int .i64 (List.getD x1 (Int.toNat s15) (0, 0)).1)), (.d (.bool (decide ((List.getD x1 (Int.toNat s15) (0, 0)).1 < 0)))), (.d (.bool (decide ((List.getD x1 (Int.toNat s15) (0, 0)).1 < 0)))), (.ptr 2 0), (.d (.int .i64 (List.getD x1 (Int.toNat s15) (0, 0)).1)), (.d (.bool (decide ((List.getD x1 (Int.toNat s15) (0, 0)).1 > 1099511627776)))), (.d (.bool (decide ((List.getD x1 (Int.toNat s15) (0, 0)).1 > 1099511627776)))), (.d (.bool false)), (.sr 1 0 (List.length b1) 2 none), (.d (.int .i64 (((List.length b1) : Nat) : Int))), (.d (.bool (decide ((((List.length b1) : Nat) : Int) > 0)))), (.d (.bool (decide ((((List.length b1) : Nat) : Int) > 0)))), (.tup []), (.tup []), (.tup []), (.tup []), (.tup []), (.tup []), (.tup []), (.tup []), (.tup []), (.tup []), (.d (.bool false)), (.d (.bool ((((List.length b1) : Nat) : Int) == (200)))), (.sr 1 0 (List.length b1) 2 none), (.d (.int .i64 (((List.length b1) : Nat) : Int))), (.d (.bool ((((List.length b1) : Nat) : Int) == (200)))), .top, .top, .top, .top, .top, .top, .top, .top, .top], [(.cells [(.d (.sl (.pair (.int .i64) (.int .i64)) x0))]), (.arr (.pair (.int .i64) (.int .i64)) b1 true), (.cells [(.d (.int .i64 (List.getD x1 (Int.toNat s15) (0, 0)).1)), (.d (.int .i64 (List.getD x1 (Int.toNat s15) (0, 0)).2))]), .dead, .dead, .dead, .dead, .dead, .dead, .dead, .dead, .dead, .dead, .dead, .dead, .dead, .dead, .dead, .dead, .dead, .dead, .dead, .dead, .dead, .dead, .dead, .dead, .dead, .dead, .dead, .dead, .dead, .dead, .dead, .dead, .dead, .dead, .dead, .dead, .dead, .dead, .dead, .dead, .dead, .dead, .dead, .dead, .dead, .dead, .dead, .dead, .dead, .dead, .dead, .dead, .dead, .dead, .dead, .dead, .dead, .dead, .dead, .dead, .dead, .dead, .dead, .dead])
  | _ => (.exit 0, [(.ptr 0 0), .top, .top, .top, .top, (.sr 1 0 (List.length b1) 2 none), .top, .top, .top, .top, .top, .top, .top, (.d (.sl (.pair (.int .i64) (.int .i64)) x1)), (.d (.int .i64 s14)), (.d (.int .i64 s15)), (.d (.bool (decide (s15 < s14)))), .top, .top, .top, .top, .top, .top, .top, .top, .top, .top, .top, .top, .top, .top, .top, .top, .top, .top, .top, .top, .top, .top, .top, .top, .top, .top, .top, .top, .top, .top, .top, .top, .top, .top, .top, .top, .top, .top, .top, .top], [(.cells [(.d (.sl (.pair (.int .i64) (.int .i64)) x0))]), (.arr (.pair (.int .i64) (.int .i64)) b1 true)])
noncomputable def lbl22_0 : AC := loopBody 57377 body22

set_option maxHeartbeats 20000000 in
theorem l22_0_w0 (m n : Nat) (x0 : List (Int × Int)) (x1 : List (Int × Int)) (s14 : Int) (s15 : Int) (b1 : List (Int × Int)) (c0 : decide (s15 < s14) = true) (c1 : decide (0 ≤ s15) = true) (c2 : decide (s15 < (((List.length x1) : Nat) : Int)) = true) (c3 : decide ((List.getD x1 (Int.toNat s15) (0, 0)).1 < 0) = true) : (turns (hds 22 57377) 1 57377 (evC byref (evCall F S3 (m + 24)) (m + 24) 1 (hds 22) lbl22_0) (n + 1) (l22_0H x0 x1 s14 s15 b1) (l22_0B x0 x1 s14 s15 b1)).run = some (.ret, [(.ptr 0 0), .top, .top, .top, (.d (.int .i64 (1))), (.sr 1 0 (List.length b1) 2 none), .top, (.ptr 2 0), .top, .top, .top, .top, .top, (.d (.sl (.pair (.int .i64) (.int .i64)) x1)), (.d (.int .i64 s14)), (.d (.int .i64 s15)), (.d (.bool (decide (s15 < s14)))), (.cptr [(.int .i64 (List.getD x1 (Int.toNat s15) (0, 0)).1), (.int .i64 (List.getD x1 (Int.toNat s15) (0, 0)).2)] 0), (.agg [(.d (.int .i64 (List.getD x1 (Int.toNat s15) (0, 0)).1)), (.d (.int .i64 (List.getD x1 (Int.toNat s15) (0, 0)).2))]), (.d (.bool true)), (.ptr 2 0), (.d (.int .i64 (List.getD x1 (Int.toNat s15) (0, 0)).1)), (.d (.bool (decide ((List.getD x1 (Int.toNat s15) (0, 0)).1 < 0)))), (.d (.bool (decide ((List.getD x1 (Int.toNat s15) (0, 0)).1 < 0)))), (.tup []), (.tup []), (.tup []), (.d (.bool true)), .top, .top, .top, .top, .top, .top, .top, .top, .top, .top, .top, .top, .top, .top, .top, .top, .top, .top, .top, .top, .top, .top, .top, .top, .top, .top, .top, .top, .top], [(.cells [(.d (.sl (.pair (.int .i64) (.int .i64)) x0))]), (.arr (.pair (.int .i64) (.int .i64)) b1 true), (.cells [(.d (.int .i64 (List.getD x1 (Int.toNat s15) (0, 0)).1)), (.d (.int .i64 (List.getD x1 (Int.toNat s15) (0, 0)).2))])]) := by
  exact turns_last (by simp) (M.run_of_path _ [true, true, true, true, true, true, true, true] _ _ (by kernel_rfl) (all_t c0 (all_t c1 (all_t c2 (all_t c3 (all_t c3 (all_t c3 (all_t c3 (all_t rfl all_nil))))))))) 
set_option maxHeartbeats 20000000 in
theorem l22_0_w1 (m n : Nat) (x0 : List (Int × Int)) (x1 : List (Int × Int)) (s14 : Int) (s15 : Int) (b1 : List (Int × Int)) (c0 : decide (s15 < s14) = true) (c1 : decide (0 ≤ s15) = true) (c2 : decide (s15 < (((List.length x1) : Nat) : Int)) = true) (c3 : ¬ decide ((List.getD x1 (Int.toNat s15) (0, 0)).1 < 0) = true) (c7 : decide ((List.getD x1 (Int.toNat s15) (0, 0)).1 > 1099511627776) = true) : (turns (hds 22 57377) 1 57377 (evC byref (evCall F S3 (m + 24)) (m + 24) 1 (hds 22) lbl22_0) (n + 1) (l22_0H x0 x1 s14 s15 b1) (l22_0B x0 x1 s14 s15 b1)).run = some (.ret, [(.ptr 0 0), .top, .top, .top, (.d (.int .i64 (1))), (.sr 1 0 (List.length b1) 2 none), .top, (.ptr 2 0), .top, .top, .top, .top, .top, (.d (.sl (.pair (.int .i64) (.int .i64)) x1)), (.d (.int .i64 s14)), (.d (.int .i64 s15)), (.d (.bool (decide (s15 < s14)))), (.cptr [(.int .i64 (List.getD x1 (Int.toNat s15) (0, 0)).1), (.int .i64 (List.getD x1 (Int.toNat s15) (0, 0)).2)] 0), (.agg [(.d (.int .i64 (List.getD x1 (Int.toNat s15) (0, 0)).1)), (.d (.int .i64 (List.getD x1 (Int.toNat s15) (0, 0)).2))]), (.d (.bool (decide ((List.getD x1 (Int.toNat s15) (0, 0)).1 > 1099511627776)))), (.ptr 2 0), (.d (.int .i64 (List.getD x1 (Int.toNat s15) (0, 0)).1)), (.d (.bool (decide ((List.getD x1 (Int.toNat s15) (0, 0)).1 < 0)))), (.d (.bool (decide ((List.getD x1 (Int.toNat s15) (0, 0)).1 < 0)))), (.ptr 2 0), (.d (.int .i64 (List.getD x1 (Int.toNat s15) (0, 0)).1)), (.d (.bool (decide ((List.getD x1 (Int.toNat s15) (0, 0)).1 > 1099511627776)))), (.d (.bool (decide ((List.getD x1 (Int.toNat s15) (0, 0)).1 > 1099511627776)))), .top, .top, .top, .top, .top, .top, .top, .top, .top, .top, .top, .top, .top, .top, .top, .top, .top, .top, .top, .top, .top, .top, .top, .top, .top, .top, .top, .top, .top], [(.cells [(.d (.sl (.pair (.int .i64) (.int .i64)) x0))]), (.arr (.pair (.int .i64) (.int .i64)) b1 true), (.cells [(.d (.int .i64 (List.getD x1 (Int.toNat s15) (0, 0)).1)), (.d (.int .i64 (List.getD x1 (Int.toNat s15) (0, 0)).2))])]) := by
  exact turns_last (by simp) (M.run_of_path _ [true, true, true, false, false, false, false, true] _ _ (by kernel_rfl) (all_t c0 (all_t c1 (all_t c2 (all_f c3 (all_f c3 (all_f c3 (all_f c3 (all_t c7 all_nil))))))))) 
set_option maxHeartbeats 20000000 in
theorem l22_0_w2 (m n : Nat) (x0 : List (Int × Int)) (x1 : List (Int × Int)) (s14 : Int) (s15 : Int) (b1 : List (Int × Int)) (c0 : decide (s15 < s14) = true) (c1 : decide (0 ≤ s15) = true) (c2 : decide (s15 < (((List.length x1) : Nat) : Int)) = true) (c3 : ¬ decide ((List.getD x1 (Int.toNat s15) (0, 0)).1 < 0) = true) (c7 : ¬ decide ((List.getD x1 (Int.toNat s15) (0, 0)).1 > 1099511627776) = true) (c8 : decide ((((List.length b1) : Nat) : Int) > 0) = true) (c15 : decide (0 ≤ (IntKind.wrap .i64 ((((List.length b1) : Nat) : Int) - (1)))) = true) (c16 : decide ((IntKind.wrap .i64 ((((List.length b1) : Nat) : Int) - (1))) < (((List.length b1) : Nat) : Int)) = true) (c19 : decide ((0 + (Int.toNat (IntKind.wrap .i64 ((((List.length b1) : Nat) : Int) - (1))))) < (List.length b1)) = true) (c22 : decide ((List.getD x1 (Int.toNat s15) (0, 0)).1 ≤ (List.getD b1 (0 + (Int.toNat (IntKind.wrap .i64 ((((List.length b1) : Nat) : Int) - (1))))) (0, 0)).1) = true) : (turns (hds 22 57377) 1 57377 (evC byref (evCall F S3 (m + 24)) (m + 24) 1 (hds 22) lbl22_0) (n + 1) (l22_0H x0 x1 s14 s15 b1) (l22_0B x0 x1 s14 s15 b1)).run = some (.ret, [(.ptr 0 0), .top, .top, .top, (.d (.int .i64 (2))), (.sr 1 0 (List.length b1) 2 none), .top, (.ptr 2 0), .top, .top, .top, .top, .top, (.d (.sl (.pair (.int .i64) (.int .i64)) x1)), (.d (.int .i64 s14)), (.d (.int .i64 s15)), (.d (.bool (decide (s15 < s14)))), (.cptr [(.int .i64 (List.getD x1 (Int.toNat s15) (0, 0)).1), (.int .i64 (List.getD x1 (Int.toNat s15) (0, 0)).2)] 0), (.agg [(.d (.int .i64 (List.getD x1 (Int.toNat s15) (0, 0)).1)), (.d (.int .i64 (List.getD x1 (Int.toNat s15) (0, 0)).2))]), (.d (.bool (decide ((List.getD x1 (Int.toNat s15) (0, 0)).1 > 1099511627776)))), (.ptr 2 0), (.d (.int .i64 (List.getD x1 (Int.toNat s15) (0, 0)).1)), (.d (.bool (decide ((List.getD x1 (Int.toNat s15) (0, 0)).1 < 0)))), (.d (.bool (decide ((List.getD x1 (Int.toNat s15) (0, 0)).1 < 0)))), (.ptr 2 0), (.d (.int .i64 (List.getD x1 (Int.toNat s15) (0, 0)).1)), (.d (.bool (decide ((List.getD x1 (Int.toNat s15) (0, 0)).1 > 1099511627776)))), (.d (.bool (decide ((List.getD x1 (Int.toNat s15) (0, 0)).1 > 1099511627776)))), (.d (.bool (decide ((List.getD x1 (Int.toNat s15) (0, 0)).1 ≤ (List.getD b1 (0 + (Int.toNat (IntKind.wrap .i64 ((((List.length b1) : Nat) : Int) - (1))))) (0, 0)).1)))), (.sr 1 0 (List.length b1) 2 none), (.d (.int .i64 (((List.length b1) : Nat) : Int))), (.d (.bool (decide ((((List.length b1) : Nat) : Int) > 0)))), (.d (.bool (decide ((((List.length b1) : Nat) : Int) > 0)))), (.ptr 2 0), (.d (.int .i64 (List.getD x1 (Int.toNat s15) (0, 0)).1)), (.sr 1 0 (List.length b1) 2 none), (.sr 1 0 (List.length b1) 2 none), (.d (.int .i64 (((List.length b1) : Nat) : Int))), (.d (.int .i64 (IntKind.wrap .i64 ((((List.length b1) : Nat) : Int) - (1))))), (.eptr 1 (0 + (Int.toNat (IntKind.wrap .i64 ((((List.length b1) : Nat) : Int) - (1))))) 2 0), (.eptr 1 (0 + (Int.toNat (IntKind.wrap .i64 ((((List.length b1) : Nat) : Int) - (1))))) 2 0), (.d (.int .i64 (List.getD b1 (0 + (Int.toNat (IntKind.wrap .i64 ((((List.length b1) : Nat) : Int) - (1))))) (0, 0)).1)), (.d (.bool (decide ((List.getD x1 (Int.toNat s15) (0, 0)).1 ≤ (List.getD b1 (0 + (Int.toNat (IntKind.wrap .i64 ((((List.length b1) : Nat) : Int) - (1))))) (0, 0)).1)))), (.d (.bool (decide ((List.getD x1 (Int.toNat s15) (0, 0)).1 ≤ (List.getD b1 (0 + (Int.toNat (IntKind.wrap .i64 ((((List.length b1) : Nat) : Int) - (1))))) (0, 0)).1)))), .top, .top, .top, .top, .top, .top, .top, .top, .top, .top, .top, .top, .top], [(.cells [(.d (.sl (.pair (.int .i64) (.int .i64)) x0))]), (.arr (.pair (.int .i64) (.int .i64)) b1 true), (.cells [(.d (.int .i64 (List.getD x1 (Int.toNat s15) (0, 0)).1)), (.d (.int .i64 (List.getD x1 (Int.toNat s15) (0, 0)).2))]), .dead, .dead, .dead, .dead, .dead, .dead, .dead, .dead, .dead, .dead, .dead, .dead, .dead, .dead, .dead, .dead, .dead, .dead, .dead, .dead, .dead, .dead, .dead, .dead, .dead, .dead, .dead, .dead, .dead, .dead, .dead, .dead, .dead, .dead, .dead, .dead, .dead, .dead, .dead, .dead, .dead, .dead, .dead, .dead, .dead, .dead, .dead, .dead, .dead, .dead, .dead, .dead, .dead, .dead, .dead, .dead, .dead, .dead, .dead, .dead, .dead, .dead, .dead, .dead]) := by
  exact turns_last (by simp) (M.run_of_path _ [true, true, true, false, false, false, false, false, true, true, true, true, true, true, true, true, true, true, true, true, true, true, true] _ _ (by kernel_rfl) (all_t c0 (all_t c1 (all_t c2 (all_f c3 (all_f c3 (all_f c3 (all_f c3 (all_f c7 (all_t c8 (all_t c8 (all_t c8 (all_t c8 (all_t c8 (all_t c8 (all_t c8 (all_t c15 (all_t c16 (all_t c8 (all_t c8 (all_t c19 (all_t c8 (all_t c8 (all_t c22 all_nil)))))))))))))))))))))))) 
set_option maxHeartbeats 20000000 in
theorem l22_0_w3 (m n : Nat) (x0 : List (Int × Int)) (x1 : List (Int × Int)) (s14 : Int) (s15 : Int) (b1 : List (Int × Int)) (c0 : decide (s15 < s14) = true) (c1 : decide (0 ≤ s15) = true) (c2 : decide (s15 < (((List.length x1) : Nat) : Int)) = true) (c3 : ¬ decide ((List.getD x1 (Int.toNat s15) (0, 0)).1 < 0) = true) (c7 : ¬ decide ((List.getD x1 (Int.toNat s15) (0, 0)).1 > 1099511627776) = true) (c8 : decide ((((List.length b1) : Nat) : Int) > 0) = true) (c15 : decide (0 ≤ (IntKind.wrap .i64 ((((List.length b1) : Nat) : Int) - (1)))) = true) (c16 : decide ((IntKind.wrap .i64 ((((List.length b1) : Nat) : Int) - (1))) < (((List.length b1) : Nat) : Int)) = true) (c19 : decide ((0 + (Int.toNat (IntKind.wrap .i64 ((((List.length b1) : Nat) : Int) - (1))))) < (List.length b1)) = true) (c22 : ¬ decide ((List.getD x1 (Int.toNat s15) (0, 0)).1 ≤ (List.getD b1 (0 + (Int.toNat (IntKind.wrap .i64 ((((List.length b1) : Nat) : Int) - (1))))) (0, 0)).1) = true) (c23 : ((((List.length b1) : Nat) : Int) == (200)) = true) : (turns (hds 22 57377) 1 57377 (evC byref (evCall F S3 (m + 24)) (m + 24) 1 (hds 22) lbl22_0) (n + 1) (l22_0H x0 x1 s14 s15 b1) (l22_0B x0 x1 s14 s15 b1)).run = some (.ret, [(.ptr 0 0), .top, .top, .top, (.d (.int .i64 (8))), (.sr 1 0 (List.length b1) 2 none), .top, (.ptr 2 0), .top, .top, .top, .top, .top, (.d (.sl (.pair (.int .i64) (.int .i64)) x1)), (.d (.int .i64 s14)), (.d (.int .i64 s15)), (.d (.bool (decide (s15 < s14)))), (.cptr [(.int .i64 (List.getD x1 (Int.toNat s15) (0, 0)).1), (.int .i64 (List.getD x1 (Int.toNat s15) (0, 0)).2)] 0), (.agg [(.d (.int .i64 (List.getD x1 (Int.toNat s15) (0, 0)).1)), (.d (.int .i64 (List.getD x1 (Int.toNat s15) (0, 0)).2))]), (.d (.bool (decide ((List.getD x1 (Int.toNat s15) (0, 0)).1 > 1099511627776)))), (.ptr 2 0), (.d (.int .i64 (List.getD x1 (Int.toNat s15) (0, 0)).1)), (.d (.bool (decide ((List.getD x1 (Int.toNat s15) (0, 0)).1 < 0)))), (.d (.bool (decide ((List.getD x1 (Int.toNat s15) (0, 0)).1 < 0)))), (.ptr 2 0), (.d (.int .i64 (List.getD x1 (Int.toNat s15) (0, 0)).1)), (.d (.bool (decide ((List.getD x1 (Int.toNat s15) (0, 0)).1 > 1099511627776)))), (.d (.bool (decide ((List.getD x1 (Int.toNat s15) (0, 0)).1 > 1099511627776)))), (.d (.bool (decide ((List.getD x1 (Int.toNat s15) (0, 0)).1 ≤ (List.getD b1 (0 + (Int.toNat (IntKind.wrap .i64 ((((List.length b1) : Nat) : Int) - (1))))) (0, 0)).1)))), (.sr 1 0 (List.length b1) 2 none), (.d (.int .i64 (((List.length b1) : Nat) : Int))), (.d (.bool (decide ((((List.length b1) : Nat) : Int) > 0)))), (.d (.bool (decide ((((List.length b1) : Nat) : Int) > 0)))), (.ptr 2 0), (.d (.int .i64 (List.getD x1 (Int.toNat s15) (0, 0)).1)), (.sr 1 0 (List.length b1) 2 none), (.sr 1 0 (List.length b1) 2 none), (.d (.int .i64 (((List.length b1) : Nat) : Int))), (.d (.int .i64 (IntKind.wrap .i64 ((((List.length b1) : Nat) : Int) - (1))))), (.eptr 1 (0 + (Int.toNat (IntKind.wrap .i64 ((((List.length b1) : Nat) : Int) - (1))))) 2 0), (.eptr 1 (0 + (Int.toNat (IntKind.wrap .i64 ((((List.length b1) : Nat) : Int) - (1))))) 2 0), (.d (.int .i64 (List.getD b1 (0 + (Int.toNat (IntKind.wrap .i64 ((((List.length b1) : Nat) : Int) - (1))))) (0, 0)).1)), (.d (.bool (decide ((List.getD x1 (Int.toNat s15) (0, 0)).1 ≤ (List.getD b1 (0 + (Int.toNat (IntKind.wrap .i64 ((((List.length b1) : Nat) : Int) - (1))))) (0, 0)).1)))), (.d (.bool (decide ((List.getD x1 (Int.toNat s15) (0, 0)).1 ≤ (List.getD b1 (0 + (Int.toNat (IntKind.wrap .i64 ((((List.length b1) : Nat) : Int) - (1))))) (0, 0)).1)))), (.d (.bool ((((List.length b1) : Nat) : Int) == (200)))), (.sr 1 0 (List.length b1) 2 none), (.d (.int .i64 (((List.length b1) : Nat) : Int))), (.d (.bool ((((List.length b1) : Nat) : Int) == (200)))), .top, .top, .top, .top, .top, .top, .top, .top, .top], [(.cells [(.d (.sl (.pair (.int .i64) (.int .i64)) x0))]), (.arr (.pair (.int .i64) (.int .i64)) b1 true), (.cells [(.d (.int .i64 (List.getD x1 (Int.toNat s15) (0, 0)).1)), (.d (.int .i64 (List.getD x1 (Int.toNat s15) (0, 0)).2))]), .dead, .dead, .dead, .dead, .dead, .dead, .dead, .dead, .dead, .dead, .dead, .dead, .dead, .dead, .dead, .dead, .dead, .dead, .dead, .dead, .dead, .dead, .dead, .dead, .dead, .dead, .dead, .dead, .dead, .dead, .dead, .dead, .dead, .dead, .dead, .dead, .dead, .dead, .dead, .dead, .dead, .dead, .dead, .dead, .dead, .dead, .dead, .dead, .dead, .dead, .dead, .dead, .dead, .dead, .dead, .dead, .dead, .dead, .dead, .dead, .dead, .dead, .dead, .dead]) := by
  exact turns_last (by simp) (M.run_of_path _ [true, true, true, false, false, false, false, false, true, true, true, true, true, true, true, true, true, true, true, true, true, true, false, true] _ _ (by kernel_rfl) (all_t c0 (all_t c1 (all_t c2 (all_f c3 (all_f c3 (all_f c3 (all_f c3 (all_f c7 (all_t c8 (all_t c8 (all_t c8 (all_t c8 (all_t c8 (all_t c8 (all_t c8 (all_t c15 (all_t c16 (all_t c8 (all_t c8 (all_t c19 (all_t c8 (all_t c8 (all_f c22 (all_t c23 all_nil))))))))))))))))))))))))) 
set_option maxHeartbeats 20000000 in
theorem l22_0_w4 (m n : Nat) (x0 : List (Int × Int)) (x1 : List (Int × Int)) (s14 : Int) (s15 : Int) (b1 : List (Int × Int)) (r : AEx × Env × Boxes) (c0 : decide (s15 < s14) = true) (c1 : decide (0 ≤ s15) = true) (c2 : decide (s15 < (((List.length x1) : Nat) : Int)) = true) (c3 : ¬ decide ((List.getD x1 (Int.toNat s15) (0, 0)).1 < 0) = true) (c7 : ¬ decide ((List.getD x1 (Int.toNat s15) (0, 0)).1 > 1099511627776) = true) (c8 : decide ((((List.length b1) : Nat) : Int) > 0) = true) (c15 : decide (0 ≤ (IntKind.wrap .i64 ((((List.length b1) : Nat) : Int) - (1)))) = true) (c16 : decide ((IntKind.wrap .i64 ((((List.length b1) : Nat) : Int) - (1))) < (((List.length b1) : Nat) : Int)) = true) (c19 : decide ((0 + (Int.toNat (IntKind.wrap .i64 ((((List.length b1) : Nat) : Int) - (1))))) < (List.length b1)) = true) (c22 : ¬ decide ((List.getD x1 (Int.toNat s15) (0, 0)).1 ≤ (List.getD b1 (0 + (Int.toNat (IntKind.wrap .i64 ((((List.length b1) : Nat) : Int) - (1))))) (0, 0)).1) = true) (c23 : ¬ ((((List.length b1) : Nat) : Int) == (200)) = true) (c25 : decide ((((List.length b1) + 1) * 16) ≤ 70368744177664) = true) (ih : (turns (hds 22 57377) 1 57377 (evC byref (evCall F S3 (m + 24)) (m + 24) 1 (hds 22) lbl22_0) n (l22_0H x0 x1 s14 ((IntKind.wrap .i64 (s15 + (1)))) ((b1 ++ [(List.getD x1 (Int.toNat s15) (0, 0))]))) (l22_0B x0 x1 s14 ((IntKind.wrap .i64 (s15 + (1)))) ((b1 ++ [(List.getD x1 (Int.toNat s15) (0, 0))])))).run = some r) : (turns (hds 22 57377) 1 57377 (evC byref (evCall F S3 (m + 24)) (m + 24) 1 (hds 22) lbl22_0) (n + 1) (l22_0H x0 x1 s14 s15 b1) (l22_0B x0 x1 s14 s15 b1)).run = some r := by
  have ht : (turn (hds 22 57377) 1 57377 (evC byref (evCall F S3 (m + 24)) (m + 24) 1 (hds 22) lbl22_0) (l22_0H x0 x1 s14 s15 b1) (l22_0B x0 x1 s14 s15 b1)).run = some (.normal, [(.ptr 0 0), .top, .top, .top, .top, (.sr 1 0 ((List.length b1) + 1) 2 none), .top, .top, .top, .top, .top, .top, .top, (.d (.sl (.pair (.int .i64) (.int .i64)) x1)), (.d (.int .i64 s14)), (.d (.int .i64 (IntKind.wrap .i64 (s15 + (1))))), .top, .top, .top, .top, .top, .top, .top, .top, .top, .top, .top, .top, .top, .top, .top, .top, .top, .top, .top, .top, .top, .top, .top, .top, .top, .top, .top, .top, .top, .top, .top, .top, .top, .top, .top, .top, .top, .top, .top, .top, .top], [(.cells [(.d (.sl (.pair (.int .i64) (.int .i64)) x0))]), (.arr (.pair (.int .i64) (.int .i64)) (b1 ++ [(List.getD x1 (Int.toNat s15) (0, 0))]) true)]) := M.run_of_path _ [true, true, true, false, false, false, false, false, true, true, true, true, true, true, true, true, true, true, true, true, true, true, false, false, true, true, true] _ _ (by kernel_rfl) (all_t c0 (all_t c1 (all_t c2 (all_f c3 (all_f c3 (all_f c3 (all_f c3 (all_f c7 (all_t c8 (all_t c8 (all_t c8 (all_t c8 (all_t c8 (all_t c8 (all_t c8 (all_t c15 (all_t c16 (all_t c8 (all_t c8 (all_t c19 (all_t c8 (all_t c8 (all_f c22 (all_f c23 (all_t rfl (all_t c25 (all_t (show decide ((List.length b1) = (List.length b1)) = true from decide_eq_true rfl) all_nil)))))))))))))))))))))))))))
  refine turns_step ht (turns_eq ?_ ?_ ih)
  · unfold l22_0H
    first | (simp; done) | (simp [Nat.add_assoc]; done)
  · unfold l22_0B
    simp
set_option maxHeartbeats 20000000 in
theorem l22_0_w5 (m n : Nat) (x0 : List (Int × Int)) (x1 : List (Int × Int)) (s14 : Int) (s15 : Int) (b1 : List (Int × Int)) (c0 : decide (s15 < s14) = true) (c1 : decide (0 ≤ s15) = true) (c2 : decide (s15 < (((List.length x1) : Nat) : Int)) = true) (c3 : ¬ decide ((List.getD x1 (Int.toNat s15) (0, 0)).1 < 0) = true) (c7 : ¬ decide ((List.getD x1 (Int.toNat s15) (0, 0)).1 > 1099511627776) = true) (c8 : ¬ decide ((((List.length b1) : Nat) : Int) > 0) = true) (c20 : ((((List.length b1) : Nat) : Int) == (200)) = true) : (turns (hds 22 57377) 1 57377 (evC byref (evCall F S3 (m + 24)) (m + 24) 1 (hds 22) lbl22_0) (n + 1) (l22_0H x0 x1 s14 s15 b1) (l22_0B x0 x1 s14 s15 b1)).run = some (.ret, [(.ptr 0 0), .top, .top, .top, (.d (.int .i64 (8))), (.sr 1 0 (List.length b1) 2 none), .top, (.ptr 2 0), .top, .top, .top, .top, .top, (.d (.sl (.pair (.int .i64) (.int .i64)) x1)), (.d (.int .i64 s14)), (.d (.int .i64 s15)), (.d (.bool (decide (s15 < s14)))), (.cptr [(.int .i64 (List.getD x1 (Int.toNat s15) (0, 0)).1), (.int .i64 (List.getD x1 (Int.toNat s15) (0, 0)).2)] 0), (.agg [(.d (.int .i64 (List.getD x1 (Int.toNat s15) (0, 0)).1)), (.d (.int .i64 (List.getD x1 (Int.toNat s15) (0, 0)).2))]), (.d (.bool (decide ((List.getD x1 (Int.toNat s15) (0, 0)).1 > 1099511627776)))), (.ptr 2 0), (.d (.int .i64 (List.getD x1 (Int.toNat s15) (0, 0)).1)), (.d (.bool (decide ((List.getD x1 (Int.toNat s15) (0, 0)).1 < 0)))), (.d (.bool (decide ((List.getD x1 (Int.toNat s15) (0, 0)).1 < 0)))), (.ptr 2 0), (.d (.int .i64 (List.getD x1 (Int.toNat s15) (0, 0)).1)), (.d (.bool (decide ((List.getD x1 (Int.toNat s15) (0, 0)).1 > 1099511627776)))), (.d (.bool (decide ((List.getD x1 (Int.toNat s15) (0, 0)).1 > 1099511627776)))), (.d (.bool false)), (.sr 1 0 (List.length b1) 2 none), (.d (.int .i64 (((List.length b1) : Nat) : Int))), (.d (.bool (decide ((((List.length b1) : Nat) : Int) > 0)))), (.d (.bool (decide ((((List.length b1) : Nat) : Int) > 0)))), (.tup []), (.tup []), (.tup []), (.tup []), (.tup []), (.tup []), (.tup []), (.tup []), (.tup []), (.tup []), (.d (.bool false)), (.d (.bool ((((List.length b1) : Nat) : Int) == (200)))), (.sr 1 0 (List.length b1) 2 none), (.d (.int .i64 (((List.length b1) : Nat) : Int))), (.d (.bool ((((List.length b1) : Nat) : Int) == (200)))), .top, .top, .top, .top, .top, .top, .top, .top, .top], [(.cells [(.d (.sl (.pair (.int .i64) (.int .i64)) x0))]), (.arr (.pair (.int .i64) (.int .i64)) b1 true), (.cells [(.d (.int .i64 (List.getD x1 (Int.toNat s15) (0, 0)).1)), (.d (.int .i64 (List.getD x1 (Int.toNat s15) (0, 0)).2))]), .dead, .dead, .dead, .dead, .dead, .dead, .dead, .dead, .dead, .dead, .dead, .dead, .dead, .dead, .dead, .dead, .dead, .dead, .dead, .dead, .dead, .dead, .dead, .dead, .dead, .dead, .dead, .dead, .dead, .dead, .dead, .dead, .dead, .dead, .dead, .dead, .dead, .dead, .dead, .dead, .dead, .dead, .dead, .dead, .dead, .dead, .dead, .dead, .dead, .dead, .dead, .dead, .dead, .dead, .dead, .dead, .dead, .dead, .dead, .dead, .dead, .dead, .dead, .dead]) := by
  exact turns_last (by simp) (M.run_of_path _ [true, true, true, false, false, false, false, false, false, false, false, false, false, false, false, false, false, false, false, false, true] _ _ (by kernel_rfl) (all_t c0 (all_t c1 (all_t c2 (all_f c3 (all_f c3 (all_f c3 (all_f c3 (all_f c7 (all_f c8 (all_f c8 (all_f c8 (all_f c8 (all_f c8 (all_f c8 (all_f c8 (all_f c8 (all_f c8 (all_f c8 (all_f c8 (all_f Bool.false_ne_true (all_t c20 all_nil)))))))))))))))))))))) 
set_option maxHeartbeats 20000000 in
theorem l22_0_w6 (m n : Nat) (x0 : List (Int × Int)) (x1 : List (Int × Int)) (s14 : Int) (s15 : Int) (b1 : List (Int × Int)) (r : AEx × Env × Boxes) (c0 : decide (s15 < s14) = true) (c1 : decide (0 ≤ s15) = true) (c2 : decide (s15 < (((List.length x1) : Nat) : Int)) = true) (c3 : ¬ decide ((List.getD x1 (Int.toNat s15) (0, 0)).1 < 0) = true) (c7 : ¬ decide ((List.getD x1 (Int.toNat s15) (0, 0)).1 > 1099511627776) = true) (c8 : ¬ decide ((((List.length b1) : Nat) : Int) > 0) = true) (c20 : ¬ ((((List.length b1) : Nat) : Int) == (200)) = true) (c22 : decide ((((List.length b1) + 1) * 16) ≤ 70368744177664) = true) (ih : (turns (hds 22 57377) 1 57377 (evC byref (evCall F S3 (m + 24)) (m + 24) 1 (hds 22) lbl22_0) n (l22_0H x0 x1 s14 ((IntKind.wrap .i64 (s15 + (1)))) ((b1 ++ [(List.getD x1 (Int.toNat s15) (0, 0))]))) (l22_0B x0 x1 s14 ((IntKind.wrap .i64 (s15 + (1)))) ((b1 ++ [(List.getD x1 (Int.toNat s15) (0, 0))])))).run = some r) : (turns (hds 22 57377) 1 57377 (evC byref (evCall F S3 (m + 24)) (m + 24) 1 (hds 22) lbl22_0) (n + 1) (l22_0H x0 x1 s14 s15 b1) (l22_0B x0 x1 s14 s15 b1)).run = some r := by
  have ht : (turn (hds 22 57377) 1 57377 (evC byref (evCall F S3 (m + 24)) (m + 24) 1 (hds 22) lbl22_0) (l22_0H x0 x1 s14 s15 b1) (l22_0B x0 x1 s14 s15 b1)).run = some (.normal, [(.ptr 0 0), .top, .top, .top, .top, (.sr 1 0 ((List.length b1) + 1) 2 none), .top, .top, .top, .top, .top, .top, .top, (.d (.sl (.pair (.int .i64) (.int .i64)) x1)), (.d (.int .i64 s14)), (.d (.int .i64 (IntKind.wrap .i64 (s15 + (1))))), .top, .top, .top, .top, .top, .top, .top, .top, .top, .top, .top, .top, .top, .top, .top, .top, .top, .top, .top, .top, .top, .top, .top, .top, .top, .top, .top, .top, .top, .top, .top, .top, .top, .top, .top, .top, .top, .top, .top, .top, .top], [(.cells [(.d (.sl (.pair (.int .i64) (.int .i64)) x0))]), (.arr (.pair (.int .i64) (.int .i64)) (b1 ++ [(List.getD x1 (Int.toNat s15) (0, 0))]) true)]) := M.run_of_path _ [true, true, true, false, false, false, false, false, false, false, false, false, false, false, false, false, false, false, false, false, false, true, true, true] _ _ (by kernel_rfl) (all_t c0 (all_t c1 (all_t c2 (all_f c3 (all_f c3 (all_f c3 (all_f c3 (all_f c7 (all_f c8 (all_f c8 (all_f c8 (all_f c8 (all_f c8 (all_f c8 (all_f c8 (all_f c8 (all_f c8 (all_f c8 (all_f c8 (all_f Bool.false_ne_true (all_f c20 (all_t rfl (all_t c22 (all_t (show decide ((List.length b1) = (List.length b1)) = true from decide_eq_true rfl) all_nil))))))))))))))))))))))))
  refine turns_step ht (turns_eq ?_ ?_ ih)
  · unfold l22_0H
    first | (simp; done) | (simp [Nat.add_assoc]; done)
  · unfold l22_0B
    simp
set_option maxHeartbeats 20000000 in
theorem l22_0_w7 (m n : Nat) (x0 : List (Int × Int)) (x1 : List (Int × Int)) (s14 : Int) (s15 : Int) (b1 : List (Int × Int)) (c0 : ¬ decide (s15 < s14) = true) : (turns (hds 22 57377) 1 57377 (evC byref (evCall F S3 (m + 24)) (m + 24) 1 (hds 22) lbl22_0) (n + 1) (l22_0H x0 x1 s14 s15 b1) (l22_0B x0 x1 s14 s15 b1)).run = some (.exit 0, [(.ptr 0 0), .top, .top, .top, .top, (.sr 1 0 (List.length b1) 2 none), .top, .top, .top, .top, .top, .top, .top, (.d (.sl (.pair (.int .i64) (.int .i64)) x1)), (.d (.int .i64 s14)), (.d (.int .i64 s15)), (.d (.bool (decide (s15 < s14)))), .top, .top, .top, .top, .top, .top, .top, .top, .top, .top, .top, .top, .top, .top, .top, .top, .top, .top, .top, .top, .top, .top, .top, .top, .top, .top, .top, .top, .top, .top, .top, .top, .top, .top, .top, .top, .top, .top, .top, .top], [(.cells [(.d (.sl (.pair (.int .i64) (.int .i64)) x0))]), (.arr (.pair (.int .i64) (.int .i64)) b1 true)]) := by
  exact turns_last (by simp) (M.run_of_path _ [false] _ _ (by kernel_rfl) (all_f c0 all_nil)) 

set_option maxHeartbeats 20000000 in
theorem l22_0_step (m n : Nat) (ih : ∀ (x0 : List (Int × Int)) (x1 : List (Int × Int)) (s14 : Int) (s15 : Int) (b1 : List (Int × Int)) (q : Nat × Int × (List (Int × Int))), l22_0 m n x0 x1 s14 s15 b1 = some q → (turns (hds 22 57377) 1 57377 (evC byref (evCall F S3 (m + 24)) (m + 24) 1 (hds 22) lbl22_0) n (l22_0H x0 x1 s14 s15 b1) (l22_0B x0 x1 s14 s15 b1)).run = some (l22_0E (x0) (x1) (s14) (q.2.1) (q.2.2) q.1)) (x0 : List (Int × Int)) (x1 : List (Int × Int)) (s14 : Int) (s15 : Int) (b1 : List (Int × Int)) (q : Nat × Int × (List (Int × Int))) (h : l22_0 m (n + 1) x0 x1 s14 s15 b1 = some q) : (turns (hds 22 57377) 1 57377 (evC byref (evCall F S3 (m + 24)) (m + 24) 1 (hds 22) lbl22_0) (n + 1) (l22_0H x0 x1 s14 s15 b1) (l22_0B x0 x1 s14 s15 b1)).run = some (l22_0E (x0) (x1) (s14) (q.2.1) (q.2.2) q.1) := by
  rw [l22_0] at h
  refine ite_cases h (fun c0 h => ?_) (fun c0 h => ?_)
  · skip
    refine ite_cases h (fun c1 h => ?_) (fun c1 h => ?_)
    · skip
      refine ite_cases h (fun c2 h => ?_) (fun c2 h => ?_)
      · skip
        refine ite_cases h (fun c3 h => ?_) (fun c3 h => ?_)
        · skip
          cases h
          exact l22_0_w0 m n x0 x1 s14 s15 b1 c0 c1 c2 c3
        · skip
          refine ite_cases h (fun c7 h => ?_) (fun c7 h => ?_)
          · skip
            cases h
            exact l22_0_w1 m n x0 x1 s14 s15 b1 c0 c1 c2 c3 c7
          · skip
            refine ite_cases h (fun c8 h => ?_) (fun c8 h => ?_)
            · skip
              refine ite_cases h (fun c15 h => ?_) (fun c15 h => ?_)
              · skip
                refine ite_cases h (fun c16 h => ?_) (fun c16 h => ?_)
                · skip
                  refine ite_cases h (fun c19 h => ?_) (fun c19 h => ?_)
                  · skip
                    refine ite_cases h (fun c22 h => ?_) (fun c22 h => ?_)
                    · skip
                      cases h
                      exact l22_0_w2 m n x0 x1 s14 s15 b1 c0 c1 c2 c3 c7 c8 c15 c16 c19 c22
                    · skip
                      refine ite_cases h (fun c23 h => ?_) (fun c23 h => ?_)
                      · skip
                        cases h
                        exact l22_0_w3 m n x0 x1 s14 s15 b1 c0 c1 c2 c3 c7 c8 c15 c16 c19 c22 c23
                      · skip
                        refine ite_cases h (fun c25 h => ?_) (fun c25 h => ?_)
                        · skip
                          exact l22_0_w4 m n x0 x1 s14 s15 b1 _ c0 c1 c2 c3 c7 c8 c15 c16 c19 c22 c23 c25 (ih _ _ _ _ _ q h)
                        · skip
                          cases h
                  · skip
                    cases h
                · skip
                  cases h
              · skip
                cases h
            · skip
              refine ite_cases h (fun c20 h => ?_) (fun c20 h => ?_)
              · skip
                cases h
                exact l22_0_w5 m n x0 x1 s14 s15 b1 c0 c1 c2 c3 c7 c8 c20
              · skip
                refine ite_cases h (fun c22 h => ?_) (fun c22 h => ?_)
                · skip
                  exact l22_0_w6 m n x0 x1 s14 s15 b1 _ c0 c1 c2 c3 c7 c8 c20 c22 (ih _ _ _ _ _ q h)
                · skip
                  cases h
      · skip
        cases h
    · skip
      cases h
  · skip
    cases h
    exact l22_0_w7 m n x0 x1 s14 s15 b1 c0
set_option maxHeartbeats 20000000 in
theorem l22_0_ok (m : Nat) : ∀ (n : Nat) (x0 : List (Int × Int)) (x1 : List (Int × Int)) (s14 : Int) (s15 : Int) (b1 : List (Int × Int)) (q : Nat × Int × (List (Int × Int))), l22_0 m n x0 x1 s14 s15 b1 = some q → (turns (hds 22 57377) 1 57377 (evC byref (evCall F S3 (m + 24)) (m + 24) 1 (hds 22) lbl22_0) n (l22_0H x0 x1 s14 s15 b1) (l22_0B x0 x1 s14 s15 b1)).run = some (l22_0E (x0) (x1) (s14) (q.2.1) (q.2.2) q.1)
  | 0, x0, x1, s14, s15, b1, q, h => by cases h
  | n + 1, x0, x1, s14, s15, b1, q, h => l22_0_step m n (l22_0_ok m n) x0 x1 s14 s15 b1 q h

def p22 (m : Nat) (x0 : List (Int × Int)) (x1 : List (Int × Int)) : Option (Int × (List (Int × Int))) :=
  if decide (((List.length x0) * 16) ≤ 70368744177664) = true then
    if (Option.isSome (l22_0 m (m + 24) x0 x1 ((((List.length x1) : Nat) : Int)) 0 x0)) = true then
      if ((l22_0R m (m + 24) x0 x1 ((((List.length x1) : Nat) : Int)) 0 x0).1 == 0) = true then
        some ((1), x0)
      else
        if ((l22_0R m (m + 24) x0 x1 ((((List.length x1) : Nat) : Int)) 0 x0).1 == 1) = true then
          some ((1), x0)
        else
          if ((l22_0R m (m + 24) x0 x1 ((((List.length x1) : Nat) : Int)) 0 x0).1 == 2) = true then
            some ((2), x0)
          else
            if ((l22_0R m (m + 24) x0 x1 ((((List.length x1) : Nat) : Int)) 0 x0).1 == 3) = true then
              some ((8), x0)
            else
              if ((l22_0R m (m + 24) x0 x1 ((((List.length x1) : Nat) : Int)) 0 x0).1 == 4) = true then
                some ((8), x0)
              else
                if ((l22_0R m (m + 24) x0 x1 ((((List.length x1) : Nat) : Int)) 0 x0).1 == 5) = true then
                  some ((0), (l22_0R m (m + 24) x0 x1 ((((List.length x1) : Nat) : Int)) 0 x0).2.2)
                else
                  none
    else
      none
  else
    none
set_option maxHeartbeats 20000000 in
theorem p22_ok (m : Nat) (x0 : List (Int × Int)) (x1 : List (Int × Int)) (q : Int × (List (Int × Int))) (h : p22 m x0 x1 = some q) : ∃ r B1, (evCall F S3 (m + 25) 22 [(.ptr 0 0), (.d (.sl (.pair (.int .i64) (.int .i64)) x1))] [(.cells [(.d (.sl (.pair (.int .i64) (.int .i64)) x0))])]).run = some (r, B1) ∧ 1 ≤ B1.length ∧ wkR B1 [(.cells [(.d (.sl (.pair (.int .i64) (.int .i64)) q.2))])] r (.d (.int .i64 q.1)) ∧ wkBs B1 [(.cells [(.d (.sl (.pair (.int .i64) (.int .i64)) q.2))])] 0 [(.cells [(.d (.sl (.pair (.int .i64) (.int .i64)) q.2))])] := by
  unfold p22 at h
  refine ite_cases h (fun c0 h => ?_) (fun c0 h => ?_)
  · skip
    refine ite_cases h (fun c1 h => ?_) (fun c1 h => ?_)
    · skip
      refine ite_cases h (fun c2 h => ?_) (fun c2 h => ?_)
      · skip
        cases h
        refine ⟨(.d (.int .i64 (1))), [(.cells [(.d (.sl (.pair (.int .i64) (.int .i64)) x0))])], runT_ok (LS := (fun k => if k = 57377 then some (l22_0E x0 x1 (((((List.length x1) : Nat) : Int))) ((l22_0R m (m + 24) x0 x1 ((((List.length x1) : Nat) : Int)) 0 x0).2.1) ((l22_0R m (m + 24) x0 x1 ((((List.length x1) : Nat) : Int)) 0 x0).2.2) 0) else none)) (fn := fn22) (vis := [(57377, l22_0H x0 x1 ((((List.length x1) : Nat) : Int)) 0 x0, l22_0B x0 x1 ((((List.length x1) : Nat) : Int)) 0 x0)]) (by kernel_rfl) rfl (by kernel_rfl) (M.run_of_path _ [true] _ _ (by kernel_rfl) (all_t c0 all_nil)) ?_, by simp, (wkR.one (wkV.one (wk1.eq rfl))), ⟨wkBox.cells (wkL.cons (wk1.eq rfl) wkL.nil), trivial⟩⟩
        intro p hp p2 hq
        rcases List.mem_cons.1 hp with rfl | hp
        · skip
          have h3 := l22_0_ok m (m + 24) x0 x1 ((((List.length x1) : Nat) : Int)) 0 x0 _ (some_getD (d := l22_0D) c1)
          rw [eq_of_beq c2] at h3
          exact Eq.trans (Eq.mp (by kernel_rfl) h3) hq
        cases hp
      · skip
        refine ite_cases h (fun c3 h => ?_) (fun c3 h => ?_)
        · skip
          cases h
          refine ⟨(.d (.int .i64 (1))), [(.cells [(.d (.sl (.pair (.int .i64) (.int .i64)) x0))])], runT_ok (LS := (fun k => if k = 57377 then some (l22_0E x0 x1 (((((List.length x1) : Nat) : Int))) ((l22_0R m (m + 24) x0 x1 ((((List.length x1) : Nat) : Int)) 0 x0).2.1) ((l22_0R m (m + 24) x0 x1 ((((List.length x1) : Nat) : Int)) 0 x0).2.2) 1) else none)) (fn := fn22) (vis := [(57377, l22_0H x0 x1 ((((List.length x1) : Nat) : Int)) 0 x0, l22_0B x0 x1 ((((List.length x1) : Nat) : Int)) 0 x0)]) (by kernel_rfl) rfl (by kernel_rfl) (M.run_of_path _ [true] _ _ (by kernel_rfl) (all_t c0 all_nil)) ?_, by simp, (wkR.one (wkV.one (wk1.eq rfl))), ⟨wkBox.cells (wkL.cons (wk1.eq rfl) wkL.nil), trivial⟩⟩
          intro p hp p2 hq
          rcases List.mem_cons.1 hp with rfl | hp
          · skip
            have h3 := l22_0_ok m (m + 24) x0 x1 ((((List.length x1) : Nat) : Int)) 0 x0 _ (some_getD (d := l22_0D) c1)
            rw [eq_of_beq c3] at h3
            exact Eq.trans (Eq.mp (by kernel_rfl) h3) hq
          cases hp
        · skip
          refine ite_cases h (fun c4 h => ?_) (fun c4 h => ?_)
          · skip
            cases h
            refine ⟨(.d (.int .i64 (2))), [(.cells [(.d (.sl (.pair (.int .i64) (.int .i64)) x0))])], runT_ok (LS := (fun k => if k = 57377 then some (l22_0E x0 x1 (((((List.length x1) : Nat) : Int))) ((l22_0R m (m + 24) x0 x1 ((((List.length x1) : Nat) : Int)) 0 x0).2.1) ((l22_0R m (m + 24) x0 x1 ((((List.length x1) : Nat) : Int)) 0 x0).2.2) 2) else none)) (fn := fn22) (vis := [(57377, l22_0H x0 x1 ((((List.length x1) : Nat) : Int)) 0 x0, l22_0B x0 x1 ((((List.length x1) : Nat) : Int)) 0 x0)]) (by kernel_rfl) rfl (by kernel_rfl) (M.run_of_path _ [true] _ _ (by kernel_rfl) (all_t c0 all_nil)) ?_, by simp, (wkR.one (wkV.one (wk1.eq rfl))), ⟨wkBox.cells (wkL.cons (wk1.eq rfl) wkL.nil), trivial⟩⟩
            intro p hp p2 hq
            rcases List.mem_cons.1 hp with rfl | hp
            · skip
              have h3 := l22_0_ok m (m + 24) x0 x1 ((((List.length x1) : Nat) : Int)) 0 x0 _ (some_getD (d := l22_0D) c1)
              rw [eq_of_beq c4] at h3
              exact Eq.trans (Eq.mp (by kernel_rfl) h3) hq
            cases hp
          · skip
            refine ite_cases h (fun c5 h => ?_) (fun c5 h => ?_)
            · skip
              cases h
              refine ⟨(.d (.int .i64 (8))), [(.cells [(.d (.sl (.pair (.int .i64) (.int .i64)) x0))])], runT_ok (LS := (fun k => if k = 57377 then some (l22_0E x0 x1 (((((List.length x1) : Nat) : Int))) ((l22_0R m (m + 24) x0 x1 ((((List.length x1) : Nat) : Int)) 0 x0).2.1) ((l22_0R m (m + 24) x0 x1 ((((List.length x1) : Nat) : Int)) 0 x0).2.2) 3) else none)) (fn := fn22) (vis := [(57377, l22_0H x0 x1 ((((List.length x1) : Nat) : Int)) 0 x0, l22_0B x0 x1 ((((List.length x1) : Nat) : Int)) 0 x0)]) (by kernel_rfl) rfl (by kernel_rfl) (M.run_of_path _ [true] _ _ (by kernel_rfl) (all_t c0 all_nil)) ?_, by simp, (wkR.one (wkV.one (wk1.eq rfl))), ⟨wkBox.cells (wkL.cons (wk1.eq rfl) wkL.nil), trivial⟩⟩
              intro p hp p2 hq
              rcases List.mem_cons.1 hp with rfl | hp
              · skip
                have h3 := l22_0_ok m (m + 24) x0 x1 ((((List.length x1) : Nat) : Int)) 0 x0 _ (some_getD (d := l22_0D) c1)
                rw [eq_of_beq c5] at h3
                exact Eq.trans (Eq.mp (by kernel_rfl) h3) hq
              cases hp
            · skip
              refine ite_cases h (fun c6 h => ?_) (fun c6 h => ?_)
              · skip
                cases h
                refine ⟨(.d (.int .i64 (8))), [(.cells [(.d (.sl (.pair (.int .i64) (.int .i64)) x0))])], runT_ok (LS := (fun k => if k = 57377 then some (l22_0E x0 x1 (((((List.length x1) : Nat) : Int))) ((l22_0R m (m + 24) x0 x1 ((((List.length x1) : Nat) : Int)) 0 x0).2.1) ((l22_0R m (m + 24) x0 x1 ((((List.length x1) : Nat) : Int)) 0 x0).2.2) 4) else none)) (fn := fn22) (vis := [(57377, l22_0H x0 x1 ((((List.length x1) : Nat) : Int)) 0 x0, l22_0B x0 x1 ((((List.length x1) : Nat) : Int)) 0 x0)]) (by kernel_rfl) rfl (by kernel_rfl) (M.run_of_path _ [true] _ _ (by kernel_rfl) (all_t c0 all_nil)) ?_, by simp, (wkR.one (wkV.one (wk1.eq rfl))), ⟨wkBox.cells (wkL.cons (wk1.eq rfl) wkL.nil), trivial⟩⟩
                intro p hp p2 hq
                rcases List.mem_cons.1 hp with rfl | hp
                · skip
                  have h3 := l22_0_ok m (m + 24) x0 x1 ((((List.length x1) : Nat) : Int)) 0 x0 _ (some_getD (d := l22_0D) c1)
                  rw [eq_of_beq c6] at h3
                  exact Eq.trans (Eq.mp (by kernel_rfl) h3) hq
                cases hp
              · skip
                refine ite_cases h (fun c7 h => ?_) (fun c7 h => ?_)
                · skip
                  cases h
                  refine ⟨(.d (.int .i64 (0))), [(.cells [(.sr 1 0 (List.length (l22_0R m (m + 24) x0 x1 ((((List.length x1) : Nat) : Int)) 0 x0).2.2) 2 none)]), (.arr (.pair (.int .i64) (.int .i64)) (l22_0R m (m + 24) x0 x1 ((((List.length x1) : Nat) : Int)) 0 x0).2.2 true)], runT_ok (LS := (fun k => if k = 57377 then some (l22_0E x0 x1 (((((List.length x1) : Nat) : Int))) ((l22_0R m (m + 24) x0 x1 ((((List.length x1) : Nat) : Int)) 0 x0).2.1) ((l22_0R m (m + 24) x0 x1 ((((List.length x1) : Nat) : Int)) 0 x0).2.2) 5) else none)) (fn := fn22) (vis := [(57377, l22_0H x0 x1 ((((List.length x1) : Nat) : Int)) 0 x0, l22_0B x0 x1 ((((List.length x1) : Nat) : Int)) 0 x0)]) (by kernel_rfl) rfl (by kernel_rfl) (M.run_of_path _ [true] _ _ (by kernel_rfl) (all_t c0 all_nil)) ?_, by simp, (wkR.one (wkV.one (wk1.eq rfl))), ⟨wkBox.cells (wkL.cons (wk1.whole rfl (by simp) rfl) wkL.nil), trivial⟩⟩
                  intro p hp p2 hq
                  rcases List.mem_cons.1 hp with rfl | hp
                  · skip
                    have h3 := l22_0_ok m (m + 24) x0 x1 ((((List.length x1) : Nat) : Int)) 0 x0 _ (some_getD (d := l22_0D) c1)
                    rw [eq_of_beq c7] at h3
                    exact Eq.trans (Eq.mp (by kernel_rfl) h3) hq
                  cases hp
                · skip
                  cases h
    · skip
      cases h
  · skip
    cases h

/-- Samples added one by one: a code, and what there is. -/
def addR (out : SL) : SL → Int × SL
  | [] => (0, out)
  | x :: xs => if x.1 < 0 then (1, out) else if x.1 > 1099511627776 then (1, out) else if 0 < out.length ∧ x.1 ≤ (out.getD (out.length - 1) (0, 0)).1 then (2, out) else if out.length = 200 then (8, out) else addR (out ++ [x]) xs
def addG (l xs : SL) : Int × SL := if (addR l xs).1 = 0 then (0, (addR l xs).2) else ((addR l xs).1, l)
theorem add_loop (m : Nat) (x0 x1 : SL) (hb : x1.length < 4611686018427387904) : ∀ (n k : Nat) (b : SL), k ≤ x1.length → b.length ≤ 200 → x1.length - k < n →
    ∃ e s b', l22_0 m n x0 x1 (x1.length : Nat) (k : Nat) b = some (e, s, b') ∧ ((e = 5 ∧ addR b (x1.drop k) = (0, b')) ∨ ((e = 0 ∨ e = 1) ∧ (addR b (x1.drop k)).1 = 1) ∨ (e = 2 ∧ (addR b (x1.drop k)).1 = 2) ∨ ((e = 3 ∨ e = 4) ∧ (addR b (x1.drop k)).1 = 8))
  | 0, k, b, _, _, h => by omega
  | n + 1, k, b, h1, h2, h3 => by
    rw [l22_0]
    by_cases hk : k < x1.length
    · have e1 : decide (((k : Nat) : Int) < (((List.length x1) : Nat) : Int)) = true := decide_eq_true (by omega)
      have e2 : decide ((0 : Int) ≤ ((k : Nat) : Int)) = true := decide_eq_true (by omega)
      have e7 : IntKind.wrap .i64 (((k : Nat) : Int) + (1)) = ((k + 1 : Nat) : Int) := by rw [wrap_id (by omega) (by omega)]; rfl
      rw [drop_getD x1 k (0, 0) hk, Int.toNat_natCast, e7, if_pos e1, if_pos e2, if_pos e1]
      generalize x1.getD k (0, 0) = x
      by_cases c1 : x.1 < 0
      · rw [if_pos (decide_eq_true c1)]
        exact ⟨0, _, _, rfl, .inr (.inl ⟨.inl rfl, by simp [addR, c1]⟩)⟩
      · rw [if_neg (by simpa using c1)]
        by_cases c2 : x.1 > 1099511627776
        · rw [if_pos (decide_eq_true c2)]
          exact ⟨1, _, _, rfl, .inr (.inl ⟨.inr rfl, by simp [addR, c1, c2]⟩)⟩
        · rw [if_neg (by simpa using c2)]
          have e4 : decide ((((List.length b) + 1) * 16) ≤ 70368744177664) = true := decide_eq_true (by omega)
          have e5 : decide ((List.length b) = (List.length b)) = true := decide_eq_true rfl
          have fin : b.length ≠ 200 → ¬ (0 < b.length ∧ x.1 ≤ (b.getD (b.length - 1) (0, 0)).1) → ∃ e s b', l22_0 m n x0 x1 (x1.length : Nat) ((k + 1 : Nat) : Int) (b ++ [x]) = some (e, s, b') ∧ ((e = 5 ∧ addR b (x :: x1.drop (k + 1)) = (0, b')) ∨ ((e = 0 ∨ e = 1) ∧ (addR b (x :: x1.drop (k + 1))).1 = 1) ∨ (e = 2 ∧ (addR b (x :: x1.drop (k + 1))).1 = 2) ∨ ((e = 3 ∨ e = 4) ∧ (addR b (x :: x1.drop (k + 1))).1 = 8)) := by
            intro hne hno
            obtain ⟨e, s, b', hr, he⟩ := add_loop m x0 x1 hb n (k + 1) (b ++ [x]) (by omega) (by simp; omega) (by omega)
            have : addR b (x :: x1.drop (k + 1)) = addR (b ++ [x]) (x1.drop (k + 1)) := by
              rw [addR, if_neg c1, if_neg c2, if_neg hno, if_neg hne]
            rw [this]
            exact ⟨e, s, b', hr, he⟩
          by_cases c3 : 0 < b.length
          · have f1 : decide ((((List.length b) : Nat) : Int) > 0) = true := decide_eq_true (by omega)
            have f2 : IntKind.wrap .i64 ((((List.length b) : Nat) : Int) - (1)) = ((b.length - 1 : Nat) : Int) := by rw [wrap_id (by omega) (by omega)]; omega
            have f3 : decide ((0 : Int) ≤ ((b.length - 1 : Nat) : Int)) = true := decide_eq_true (by omega)
            have f4 : decide (((b.length - 1 : Nat) : Int) < (((List.length b) : Nat) : Int)) = true := decide_eq_true (by omega)
            have f5 : decide ((0 + (b.length - 1)) < (List.length b)) = true := decide_eq_true (by omega)
            have f6 : 0 + (b.length - 1) = b.length - 1 := by omega
            have f5' : decide ((b.length - 1) < (List.length b)) = true := decide_eq_true (by omega)
            rw [f2, Int.toNat_natCast, f6, if_pos f1, if_pos f3, if_pos f4, if_pos f5']
            by_cases c4 : x.1 ≤ (b.getD (b.length - 1) (0, 0)).1
            · rw [if_pos (decide_eq_true c4)]
              exact ⟨2, _, _, rfl, .inr (.inr (.inl ⟨rfl, by rw [addR, if_neg c1, if_neg c2, if_pos ⟨c3, c4⟩]⟩))⟩
            · rw [if_neg (by simpa using c4)]
              by_cases c5 : b.length = 200
              · rw [if_pos (by simp [c5])]
                exact ⟨3, _, _, rfl, .inr (.inr (.inr ⟨.inl rfl, by rw [addR, if_neg c1, if_neg c2, if_neg (fun h => c4 h.2), if_pos c5]⟩))⟩
              · rw [if_neg (by simp; omega), if_pos e4]
                exact fin c5 fun h => c4 h.2
          · have f1 : decide ((((List.length b) : Nat) : Int) > 0) = false := decide_eq_false (by omega)
            have f2 : ((((List.length b) : Nat) : Int) == (200)) = false := by simp; omega
            rw [f1, f2, if_neg (by simp), if_neg (by simp), if_pos e4]
            exact fin (by omega) fun h => c3 h.1
    · have e1 : decide (((k : Nat) : Int) < (((List.length x1) : Nat) : Int)) = false := decide_eq_false (by omega)
      simp only [e1, ↓reduceIte, Bool.false_eq_true]
      rw [List.drop_eq_nil_of_le (by omega)]
      exact ⟨5, _, _, rfl, .inl ⟨rfl, rfl⟩⟩
theorem add22 (l xs : SL) (h : decide (l.length ≤ 200 ∧ xs.length < 4611686018427387904) = true) : ∃ m, p22 m l xs = some (addG l xs) := by
  have h := of_decide_eq_true h
  refine ⟨xs.length, ?_⟩
  obtain ⟨e, s, b', hr, he⟩ := add_loop xs.length l xs h.2 (xs.length + 24) 0 l (by omega) h.1 (by omega)
  simp only [Int.natCast_zero, List.drop_zero] at hr he
  have e1 : decide (((List.length l) * 16) ≤ 70368744177664) = true := decide_eq_true (by omega)
  unfold p22 l22_0R addG
  simp only [hr, e1, Option.isSome_some, Option.getD_some, ↓reduceIte]
  rcases he with ⟨rfl, he⟩ | ⟨rfl | rfl, he⟩ | ⟨rfl, he⟩ | ⟨rfl | rfl, he⟩ <;> simp [he]
def s22 : List AV → Boxes → M (AV × Boxes) := normS [.ptr, .val (.sl (.pair (.int .i64) (.int .i64)))] [(.sl (.pair (.int .i64) (.int .i64)))] fun xs B => match xs, B with
  | [(.ptr 0 0), (.d (.sl (.pair (.int .i64) (.int .i64)) c2))], [(.cells [(.d (.sl (.pair (.int .i64) (.int .i64)) c1))])] => .chk (decide (List.length c1 ≤ 200 ∧ List.length c2 < 4611686018427387904)) (.ret ((.d (.int .i64 (addG c1 c2).1)), [(.cells [(.d (.sl (.pair (.int .i64) (.int .i64)) (addG c1 c2).2))])]))
  | _, _ => .fail
theorem s22_at : CallAt Try.prog 22 s22 := by
  refine CallAt.norm (CallAt.weakE (g := fun n => evCall F S3 n 22) (fun n => evCall_atH mixed kinds hds S3 S3_ok n 22) fun xs B r' B' hr => ?_) _ _
  split at hr
  · rename_i c2 c1
    obtain ⟨hp, hr⟩ := (M.run_chk _ _ _).1 hr
    simp only [M.run, Option.some.injEq, Prod.mk.injEq] at hr
    obtain ⟨rfl, rfl⟩ := hr
    obtain ⟨m, hm⟩ := add22 c1 c2 hp
    obtain ⟨r, B1, h1, h2, h3, h4⟩ := p22_ok m c1 c2 _ hm
    exact ⟨m + 25, r, B1, h1, by simp, h2, h3, h4⟩
  · simp [M.run] at hr
noncomputable def S4 : FuncId → Option (List AV → Boxes → M (AV × Boxes)) := fun f => if f = 22 then some s22 else S3 f
set_option maxHeartbeats 20000000 in
theorem S4_ok : ∀ f s, S4 f = some s → CallAt Try.prog f s := by
  intro f s h
  unfold S4 at h
  split at h
  · rename_i e; subst e; cases h; exact s22_at
  · exact S3_ok f s h

noncomputable def fn16 : AFn := (F 16).getD ⟨0, [], .bad, false, false, noHd⟩
noncomputable def body16 : AC := fn16.body
def l16_0 (m : Nat) : Nat → List (Int × Int) → List (Int × Int) → Int → Option (Nat × Int)
  | 0, _, _, _ => none
  | n + 1, x0, x1, s5 => if decide (s5 < (((List.length x0) : Nat) : Int)) = true then
      if decide (0 ≤ s5) = true then
        if decide (s5 < (((List.length x1) : Nat) : Int)) = true then
          if (((List.getD x0 (Int.toNat s5) (0, 0)).1 == (List.getD x1 (Int.toNat s5) (0, 0)).1) && (((List.getD x0 (Int.toNat s5) (0, 0)).2 == (List.getD x1 (Int.toNat s5) (0, 0)).2) && true)) = true then
            l16_0 m n x0 x1 ((IntKind.wrap .i64 (s5 + (1))))
          else
            some (0, s5)
        else
          none
      else
        none
    else
      some (1, s5)
def l16_0D : Nat × Int := (0, 0)
@[reducible] def l16_0R (m n : Nat) (x0 : List (Int × Int)) (x1 : List (Int × Int)) (s5 : Int) : Nat × Int := Option.getD (l16_0 m n x0 x1 s5) l16_0D
def l16_0H (x0 : List (Int × Int)) (x1 : List (Int × Int)) (s5 : Int) : Env := [(.d (.sl (.pair (.int .i64) (.int .i64)) x0)), (.d (.sl (.pair (.int .i64) (.int .i64)) x1)), .top, .top, .top, (.d (.int .i64 s5)), .top, .top, .top, .top, .top, .top, .top, .top, .top, .top, .top, .top, .top, .top, .top, .top, .top, .top, .top, .top]
def l16_0B (x0 : List (Int × Int)) (x1 : List (Int × Int)) (s5 : Int) : Boxes := []
def l16_0E (x0 : List (Int × Int)) (x1 : List (Int × Int)) (s5 : Int) : Nat → AEx × Env × Boxes
  | 0 => (.ret, [(.d (.sl (.pair (.int .i64) (.int .i64)) x0)), (.d (.sl (.pair (.int .i64) (.int .i64)) x1)), .top, .top, (.d (.bool false)), (.d (.int .i64 s5)), .top, .top, .top, .top, .top, (.d (.int .i64 s5)), (.d (.sl (.pair (.int .i64) (.int .i64)) x0)), (.d (.int .i64 (((List.length x0) : Nat) : Int))), (.d (.bool (decide (s5 < (((List.length x0) : Nat) : Int))))), .top, .top, (.d (.sl (.pair (.int .i64) (.int .i64)) x0)), (.d (.int .i64 s5)), (.cptr [(.int .i64 (List.getD x0 (Int.toNat s5) (0, 0)).1), (.int .i64 (List.getD x0 (Int.toNat s5) (0, 0)).2)] 0), (.agg [(.d (.int .i64 (List.getD x0 (Int.toNat s5) (0, 0)).1)), (.d (.int .i64 (List.getD x0 (Int.toNat s5) (0, 0)).2))]), (.d (.sl (.pair (.int .i64) (.int .i64)) x1)), (.d (.int .i64 s5)), (.cptr [(.int .i64 (List.getD x1 (Int.toNat s5) (0, 0)).1), (.int .i64 (List.getD x1 (Int.toNat s5) (0, 0)).2)] 0), (.agg [(.d (.int .i64 (List.getD x1 (Int.toNat s5) (0, 0)).1)), (.d (.int .i64 (List.getD x1 (Int.toNat s5) (0, 0)).2))]), (.d (.bool (!(((List.getD x0 (Int.toNat s5) (0, 0)).1 == (List.getD x1 (Int.toNat s5) (0, 0)).1) && (((List.getD x0 (Int.toNat s5) (0, 0)).2 == (List.getD x1 (Int.toNat s5) (0, 0)).2) && true)))))], [.dead, .dead, .dead, .dead, .dead, .dead, .dead, .dead, .dead, .dead, .dead, .dead, .dead, .dead, .dead, .dead, .dead, .dead, .dead, .dead, .dead, .dead, .dead, .dead, .dead, .dead, .dead, .dead, .dead, .dead, .dead, .dead, .dead, .dead, .dead, .dead])
  | _ => (.exit 0, [(.d (.sl (.pair (.int .i64) (.int .i64)) x0)), (.d (.sl (.pair (.int .i64) (.int .i64)) x1)), .top, .top, .top, (.d (.int .i64 s5)), .top, .top, .top, .top, .top, (.d (.int .i64 s5)), (.d (.sl (.pair (.int .i64) (.int .i64)) x0)), (.d (.int .i64 (((List.length x0) : Nat) : Int))), (.d (.bool (decide (s5 < (((List.length x0) : Nat) : Int))))), .top, .top, .top, .top, .top, .top, .top, .top, .top, .top, .top], [])
noncomputable def lbl16_0 : AC := loopBody 35 body16

set_option maxHeartbeats 20000000 in
theorem l16_0_w0 (m n : Nat) (x0 : List (Int × Int)) (x1 : List (Int × Int)) (s5 : Int) (r : AEx × Env × Boxes) (c0 : decide (s5 < (((List.length x0) : Nat) : Int)) = true) (c1 : decide (0 ≤ s5) = true) (c4 : decide (s5 < (((List.length x1) : Nat) : Int)) = true) (c5 : (((List.getD x0 (Int.toNat s5) (0, 0)).1 == (List.getD x1 (Int.toNat s5) (0, 0)).1) && (((List.getD x0 (Int.toNat s5) (0, 0)).2 == (List.getD x1 (Int.toNat s5) (0, 0)).2) && true)) = true) (ih : (turns (hds 16 35) 0 35 (evC byref (evCall F S4 (m + 24)) (m + 24) 0 (hds 16) lbl16_0) n (l16_0H x0 x1 ((IntKind.wrap .i64 (s5 + (1))))) (l16_0B x0 x1 ((IntKind.wrap .i64 (s5 + (1)))))).run = some r) : (turns (hds 16 35) 0 35 (evC byref (evCall F S4 (m + 24)) (m + 24) 0 (hds 16) lbl16_0) (n + 1) (l16_0H x0 x1 s5) (l16_0B x0 x1 s5)).run = some r := by
  exact turns_step (M.run_of_path _ [true, true, true, true, true, false] _ _ (by kernel_rfl) (all_t c0 (all_t c1 (all_t c0 (all_t c1 (all_t c4 (all_nt c5 all_nil))))))) ih
set_option maxHeartbeats 20000000 in
theorem l16_0_w1 (m n : Nat) (x0 : List (Int × Int)) (x1 : List (Int × Int)) (s5 : Int) (c0 : decide (s5 < (((List.length x0) : Nat) : Int)) = true) (c1 : decide (0 ≤ s5) = true) (c4 : decide (s5 < (((List.length x1) : Nat) : Int)) = true) (c5 : ¬ (((List.getD x0 (Int.toNat s5) (0, 0)).1 == (List.getD x1 (Int.toNat s5) (0, 0)).1) && (((List.getD x0 (Int.toNat s5) (0, 0)).2 == (List.getD x1 (Int.toNat s5) (0, 0)).2) && true)) = true) : (turns (hds 16 35) 0 35 (evC byref (evCall F S4 (m + 24)) (m + 24) 0 (hds 16) lbl16_0) (n + 1) (l16_0H x0 x1 s5) (l16_0B x0 x1 s5)).run = some (.ret, [(.d (.sl (.pair (.int .i64) (.int .i64)) x0)), (.d (.sl (.pair (.int .i64) (.int .i64)) x1)), .top, .top, (.d (.bool false)), (.d (.int .i64 s5)), .top, .top, .top, .top, .top, (.d (.int .i64 s5)), (.d (.sl (.pair (.int .i64) (.int .i64)) x0)), (.d (.int .i64 (((List.length x0) : Nat) : Int))), (.d (.bool (decide (s5 < (((List.length x0) : Nat) : Int))))), .top, .top, (.d (.sl (.pair (.int .i64) (.int .i64)) x0)), (.d (.int .i64 s5)), (.cptr [(.int .i64 (List.getD x0 (Int.toNat s5) (0, 0)).1), (.int .i64 (List.getD x0 (Int.toNat s5) (0, 0)).2)] 0), (.agg [(.d (.int .i64 (List.getD x0 (Int.toNat s5) (0, 0)).1)), (.d (.int .i64 (List.getD x0 (Int.toNat s5) (0, 0)).2))]), (.d (.sl (.pair (.int .i64) (.int .i64)) x1)), (.d (.int .i64 s5)), (.cptr [(.int .i64 (List.getD x1 (Int.toNat s5) (0, 0)).1), (.int .i64 (List.getD x1 (Int.toNat s5) (0, 0)).2)] 0), (.agg [(.d (.int .i64 (List.getD x1 (Int.toNat s5) (0, 0)).1)), (.d (.int .i64 (List.getD x1 (Int.toNat s5) (0, 0)).2))]), (.d (.bool (!(((List.getD x0 (Int.toNat s5) (0, 0)).1 == (List.getD x1 (Int.toNat s5) (0, 0)).1) && (((List.getD x0 (Int.toNat s5) (0, 0)).2 == (List.getD x1 (Int.toNat s5) (0, 0)).2) && true)))))], [.dead, .dead, .dead, .dead, .dead, .dead, .dead, .dead, .dead, .dead, .dead, .dead, .dead, .dead, .dead, .dead, .dead, .dead, .dead, .dead, .dead, .dead, .dead, .dead, .dead, .dead, .dead, .dead, .dead, .dead, .dead, .dead, .dead, .dead, .dead, .dead]) := by
  exact turns_last (by simp) (M.run_of_path _ [true, true, true, true, true, true] _ _ (by kernel_rfl) (all_t c0 (all_t c1 (all_t c0 (all_t c1 (all_t c4 (all_nf c5 all_nil))))))) 
set_option maxHeartbeats 20000000 in
theorem l16_0_w2 (m n : Nat) (x0 : List (Int × Int)) (x1 : List (Int × Int)) (s5 : Int) (c0 : ¬ decide (s5 < (((List.length x0) : Nat) : Int)) = true) : (turns (hds 16 35) 0 35 (evC byref (evCall F S4 (m + 24)) (m + 24) 0 (hds 16) lbl16_0) (n + 1) (l16_0H x0 x1 s5) (l16_0B x0 x1 s5)).run = some (.exit 0, [(.d (.sl (.pair (.int .i64) (.int .i64)) x0)), (.d (.sl (.pair (.int .i64) (.int .i64)) x1)), .top, .top, .top, (.d (.int .i64 s5)), .top, .top, .top, .top, .top, (.d (.int .i64 s5)), (.d (.sl (.pair (.int .i64) (.int .i64)) x0)), (.d (.int .i64 (((List.length x0) : Nat) : Int))), (.d (.bool (decide (s5 < (((List.length x0) : Nat) : Int))))), .top, .top, .top, .top, .top, .top, .top, .top, .top, .top, .top], []) := by
  exact turns_last (by simp) (M.run_of_path _ [false] _ _ (by kernel_rfl) (all_f c0 all_nil)) 

set_option maxHeartbeats 20000000 in
theorem l16_0_step (m n : Nat) (ih : ∀ (x0 : List (Int × Int)) (x1 : List (Int × Int)) (s5 : Int) (q : Nat × Int), l16_0 m n x0 x1 s5 = some q → (turns (hds 16 35) 0 35 (evC byref (evCall F S4 (m + 24)) (m + 24) 0 (hds 16) lbl16_0) n (l16_0H x0 x1 s5) (l16_0B x0 x1 s5)).run = some (l16_0E (x0) (x1) (q.2) q.1)) (x0 : List (Int × Int)) (x1 : List (Int × Int)) (s5 : Int) (q : Nat × Int) (h : l16_0 m (n + 1) x0 x1 s5 = some q) : (turns (hds 16 35) 0 35 (evC byref (evCall F S4 (m + 24)) (m + 24) 0 (hds 16) lbl16_0) (n + 1) (l16_0H x0 x1 s5) (l16_0B x0 x1 s5)).run = some (l16_0E (x0) (x1) (q.2) q.1) := by
  rw [l16_0] at h
  refine ite_cases h (fun c0 h => ?_) (fun c0 h => ?_)
  · skip
    refine ite_cases h (fun c1 h => ?_) (fun c1 h => ?_)
    · skip
      refine ite_cases h (fun c4 h => ?_) (fun c4 h => ?_)
      · skip
        refine ite_cases h (fun c5 h => ?_) (fun c5 h => ?_)
        · skip
          exact l16_0_w0 m n x0 x1 s5 _ c0 c1 c4 c5 (ih _ _ _ q h)
        · skip
          cases h
          exact l16_0_w1 m n x0 x1 s5 c0 c1 c4 c5
      · skip
        cases h
    · skip
      cases h
  · skip
    cases h
    exact l16_0_w2 m n x0 x1 s5 c0
set_option maxHeartbeats 20000000 in
theorem l16_0_ok (m : Nat) : ∀ (n : Nat) (x0 : List (Int × Int)) (x1 : List (Int × Int)) (s5 : Int) (q : Nat × Int), l16_0 m n x0 x1 s5 = some q → (turns (hds 16 35) 0 35 (evC byref (evCall F S4 (m + 24)) (m + 24) 0 (hds 16) lbl16_0) n (l16_0H x0 x1 s5) (l16_0B x0 x1 s5)).run = some (l16_0E (x0) (x1) (q.2) q.1)
  | 0, x0, x1, s5, q, h => by cases h
  | n + 1, x0, x1, s5, q, h => l16_0_step m n (l16_0_ok m n) x0 x1 s5 q h

def p16 (m : Nat) (x0 : List (Int × Int)) (x1 : List (Int × Int)) : Option (Bool) :=
  if ((((List.length x0) : Nat) : Int) != (((List.length x1) : Nat) : Int)) = true then
    some (false)
  else
    if (Option.isSome (l16_0 m (m + 24) x0 x1 0)) = true then
      if ((l16_0R m (m + 24) x0 x1 0).1 == 0) = true then
        some (false)
      else
        if ((l16_0R m (m + 24) x0 x1 0).1 == 1) = true then
          some (true)
        else
          none
    else
      none
set_option maxHeartbeats 20000000 in
theorem p16_ok (m : Nat) (x0 : List (Int × Int)) (x1 : List (Int × Int)) (q : Bool) (h : p16 m x0 x1 = some q) : ∃ r B1, (evCall F S4 (m + 25) 16 [(.d (.sl (.pair (.int .i64) (.int .i64)) x0)), (.d (.sl (.pair (.int .i64) (.int .i64)) x1))] []).run = some (r, B1) ∧ 0 ≤ B1.length ∧ wkR B1 [] r (.d (.bool (q))) ∧ wkBs B1 [] 0 [] := by
  unfold p16 at h
  refine ite_cases h (fun c0 h => ?_) (fun c0 h => ?_)
  · skip
    cases h
    refine ⟨(.d (.bool false)), [], runT_ok (LS := (fun k => none)) (fn := fn16) (vis := []) (by kernel_rfl) rfl (by kernel_rfl) (M.run_of_path _ [true] _ _ (by kernel_rfl) (all_t c0 all_nil)) ?_, by simp, (wkR.one (wkV.one (wk1.eq rfl))), trivial⟩
    intro p hp; cases hp
  · skip
    refine ite_cases h (fun c1 h => ?_) (fun c1 h => ?_)
    · skip
      refine ite_cases h (fun c2 h => ?_) (fun c2 h => ?_)
      · skip
        cases h
        refine ⟨(.d (.bool false)), [], runT_ok (LS := (fun k => if k = 35 then some (l16_0E x0 x1 ((l16_0R m (m + 24) x0 x1 0).2) 0) else none)) (fn := fn16) (vis := [(35, l16_0H x0 x1 0, l16_0B x0 x1 0)]) (by kernel_rfl) rfl (by kernel_rfl) (M.run_of_path _ [false] _ _ (by kernel_rfl) (all_f c0 all_nil)) ?_, by simp, (wkR.one (wkV.one (wk1.eq rfl))), trivial⟩
        intro p hp p2 hq
        rcases List.mem_cons.1 hp with rfl | hp
        · skip
          have h3 := l16_0_ok m (m + 24) x0 x1 0 _ (some_getD (d := l16_0D) c1)
          rw [eq_of_beq c2] at h3
          exact Eq.trans (Eq.mp (by kernel_rfl) h3) hq
        cases hp
      · skip
        refine ite_cases h (fun c3 h => ?_) (fun c3 h => ?_)
        · skip
          cases h
          refine ⟨(.d (.bool true)), [], runT_ok (LS := (fun k => if k = 35 then some (l16_0E x0 x1 ((l16_0R m (m + 24) x0 x1 0).2) 1) else none)) (fn := fn16) (vis := [(35, l16_0H x0 x1 0, l16_0B x0 x1 0)]) (by kernel_rfl) rfl (by kernel_rfl) (M.run_of_path _ [false] _ _ (by kernel_rfl) (all_f c0 all_nil)) ?_, by simp, (wkR.one (wkV.one (wk1.eq rfl))), trivial⟩
          intro p hp p2 hq
          rcases List.mem_cons.1 hp with rfl | hp
          · skip
            have h3 := l16_0_ok m (m + 24) x0 x1 0 _ (some_getD (d := l16_0D) c1)
            rw [eq_of_beq c3] at h3
            exact Eq.trans (Eq.mp (by kernel_rfl) h3) hq
          cases hp
        · skip
          cases h
    · skip
      cases h

theorem eq16_loop (m : Nat) (a b : List (Int × Int)) (hl : a.length = b.length) (hb : a.length < 4611686018427387904) : ∀ n k, k ≤ a.length → a.length - k < n → ∃ j, l16_0 m n a b (k : Nat) = some (if a.drop k == b.drop k then 1 else 0, j)
  | 0, k, _, h => by omega
  | n + 1, k, hk, hn => by
    rw [l16_0]
    by_cases h : k < a.length
    · have hs : ∀ u v : Int × Int, ((u.1 == v.1) && ((u.2 == v.2) && true)) = (u == v) := fun u v => by rw [Bool.and_true]; rfl
      have e1 : decide (((k : Nat) : Int) < ((a.length : Nat) : Int)) = true := decide_eq_true (by omega)
      have e2 : decide ((0 : Int) ≤ ((k : Nat) : Int)) = true := decide_eq_true (by omega)
      have e3 : decide (((k : Nat) : Int) < ((b.length : Nat) : Int)) = true := decide_eq_true (by omega)
      simp only [e1, e2, e3, if_true, Int.toNat_natCast,hs]
      rw [drop_getD a k (0, 0) h, drop_getD b k (0, 0) (by omega)]
      have ew : IntKind.wrap .i64 (((k : Nat) : Int) + (1)) = ((k + 1 : Nat) : Int) := by rw [wrap_id (by omega) (by omega)]; rfl
      rw [ew]
      obtain ⟨j, hj⟩ := eq16_loop m a b hl hb n (k + 1) (by omega) (by omega)
      have hc : ((a.getD k (0, 0)) :: a.drop (k + 1) == (b.getD k (0, 0)) :: b.drop (k + 1)) = (((a.getD k (0, 0)) == (b.getD k (0, 0))) && (a.drop (k + 1) == b.drop (k + 1))) := rfl
      rw [hc]
      rcases Bool.eq_false_or_eq_true ((a.getD k (0, 0)) == (b.getD k (0, 0))) with he | he
      · exact ⟨j, by simp only [he, hj]; simp⟩
      · exact ⟨(k : Nat), by simp only [he]; simp⟩
    · have e1 : decide (((k : Nat) : Int) < ((a.length : Nat) : Int)) = false := decide_eq_false (by omega)
      refine ⟨(k : Nat), ?_⟩
      simp only [e1, Bool.false_eq_true, if_false]
      rw [List.drop_eq_nil_of_le (by omega), List.drop_eq_nil_of_le (by omega)]
      rfl
theorem eq16 (a b : List (Int × Int)) (h : decide (List.length a < 4611686018427387904) = true) : ∃ m, p16 m a b = some (a == b) := by
  have hb := of_decide_eq_true h
  refine ⟨a.length, ?_⟩
  unfold p16 l16_0R
  by_cases hl : a.length = b.length
  · have e0 : ((((List.length a) : Nat) : Int) != (((List.length b) : Nat) : Int)) = false := by simp [hl]
    obtain ⟨j, hj⟩ := eq16_loop a.length a b hl hb (a.length + 24) 0 (by omega) (by omega)
    simp only [Int.natCast_zero, List.drop_zero] at hj
    rw [e0]
    simp only [Bool.false_eq_true, if_false]
    rw [hj]
    cases hab : a == b <;> simp [hab]
  · have e0 : ((((List.length a) : Nat) : Int) != (((List.length b) : Nat) : Int)) = true := by simp; omega
    rw [e0]
    have : (a == b) = false := by
      rw [beq_eq_false_iff_ne]
      intro e; rw [e] at hl; exact hl rfl
    simp [this]
def s16 : List AV → Boxes → M (AV × Boxes) := normS [.val (.sl (.pair (.int .i64) (.int .i64))), .val (.sl (.pair (.int .i64) (.int .i64)))] [] fun xs B => match xs, B with
  | [(.d (.sl (.pair (.int .i64) (.int .i64)) c1)), (.d (.sl (.pair (.int .i64) (.int .i64)) c2))], [] => .chk (decide (List.length c1 < 4611686018427387904)) (.ret ((.d (.bool ((show List (Int × Int) from c1) == c2))), []))
  | _, _ => .fail
theorem s16_at : CallAt Try.prog 16 s16 := by
  refine CallAt.norm (CallAt.weakE (g := fun n => evCall F S4 n 16) (fun n => evCall_atH mixed kinds hds S4 S4_ok n 16) fun xs B r' B' hr => ?_) _ _
  split at hr
  · rename_i c1 c2
    obtain ⟨hp, hr⟩ := (M.run_chk _ _ _).1 hr
    simp only [M.run, Option.some.injEq, Prod.mk.injEq] at hr
    obtain ⟨rfl, rfl⟩ := hr
    obtain ⟨m, hm⟩ := eq16 c1 c2 hp
    obtain ⟨r, B1, h1, h2, h3, h4⟩ := p16_ok m c1 c2 _ hm
    exact ⟨m + 25, r, B1, h1, by simp, h2, h3, h4⟩
  · simp [M.run] at hr
noncomputable def S5 : FuncId → Option (List AV → Boxes → M (AV × Boxes)) := fun f => if f = 16 then some s16 else S4 f
set_option maxHeartbeats 20000000 in
theorem S5_ok : ∀ f s, S5 f = some s → CallAt Try.prog f s := by
  intro f s h
  unfold S5 at h
  split at h
  · rename_i e; subst e; cases h; exact s16_at
  · exact S4_ok f s h

end Go.Proofs.Ytghkbjflejgieaa.Dec
namespace Go.Proofs.Ytghkbjflejgieaa.Dec
open Go.Ev
set_option linter.unusedVariables false
set_option linter.unusedSimpArgs false
set_option maxRecDepth 100000
noncomputable def fn10 : AFn := (F 10).getD ⟨0, [], .bad, false, false, noHd⟩
noncomputable def body10 : AC := fn10.body
def l10_0 (m : Nat) : Nat → List Int → List Int → Int → Option (Nat × Int)
  | 0, _, _, _ => none
  | n + 1, x0, x1, s5 => if decide (s5 < (((List.length x0) : Nat) : Int)) = true then
      if decide (0 ≤ s5) = true then
        if decide (s5 < (((List.length x1) : Nat) : Int)) = true then
          if ((List.getD x0 (Int.toNat s5) 0) != (List.getD x1 (Int.toNat s5) 0)) = true then
            some (0, s5)
          else
            l10_0 m n x0 x1 ((IntKind.wrap .i64 (s5 + (1))))
        else
          none
      else
        none
    else
      some (1, s5)
def l10_0D : Nat × Int := (0, 0)
@[reducible] def l10_0R (m n : Nat) (x0 : List Int) (x1 : List Int) (s5 : Int) : Nat × Int := Option.getD (l10_0 m n x0 x1 s5) l10_0D
def l10_0H (x0 : List Int) (x1 : List Int) (s5 : Int) : Env := [(.d (.sl (.int .u8) x0)), (.d (.sl (.int .u8) x1)), .top, .top, .top, (.d (.int .i64 s5)), .top, .top, .top, .top, .top, .top, .top, .top, .top, .top, .top, .top, .top, .top, .top, .top, .top, .top, .top, .top]
def l10_0B (x0 : List Int) (x1 : List Int) (s5 : Int) : Boxes := []
def l10_0E (x0 : List Int) (x1 : List Int) (s5 : Int) : Nat → AEx × Env × Boxes
  | 0 => (.ret, [(.d (.sl (.int .u8) x0)), (.d (.sl (.int .u8) x1)), .top, .top, (.d (.bool false)), (.d (.int .i64 s5)), .top, .top, .top, .top, .top, (.d (.int .i64 s5)), (.d (.sl (.int .u8) x0)), (.d (.int .i64 (((List.length x0) : Nat) : Int))), (.d (.bool (decide (s5 < (((List.length x0) : Nat) : Int))))), .top, .top, (.d (.sl (.int .u8) x0)), (.d (.int .i64 s5)), (.cptr [(.int .u8 (List.getD x0 (Int.toNat s5) 0))] 0), (.d (.int .u8 (List.getD x0 (Int.toNat s5) 0))), (.d (.sl (.int .u8) x1)), (.d (.int .i64 s5)), (.cptr [(.int .u8 (List.getD x1 (Int.toNat s5) 0))] 0), (.d (.int .u8 (List.getD x1 (Int.toNat s5) 0))), (.d (.bool ((List.getD x0 (Int.toNat s5) 0) != (List.getD x1 (Int.toNat s5) 0))))], [.dead, .dead, .dead, .dead, .dead, .dead, .dead, .dead, .dead, .dead, .dead, .dead, .dead, .dead, .dead, .dead, .dead, .dead, .dead, .dead, .dead, .dead, .dead, .dead, .dead, .dead, .dead, .dead, .dead, .dead, .dead, .dead, .dead, .dead, .dead, .dead])
  | _ => (.exit 0, [(.d (.sl (.int .u8) x0)), (.d (.sl (.int .u8) x1)), .top, .top, .top, (.d (.int .i64 s5)), .top, .top, .top, .top, .top, (.d (.int .i64 s5)), (.d (.sl (.int .u8) x0)), (.d (.int .i64 (((List.length x0) : Nat) : Int))), (.d (.bool (decide (s5 < (((List.length x0) : Nat) : Int))))), .top, .top, .top, .top, .top, .top, .top, .top, .top, .top, .top], [])
noncomputable def lbl10_0 : AC := loopBody 35 body10

set_option maxHeartbeats 20000000 in
theorem l10_0_w0 (m n : Nat) (x0 : List Int) (x1 : List Int) (s5 : Int) (c0 : decide (s5 < (((List.length x0) : Nat) : Int)) = true) (c1 : decide (0 ≤ s5) = true) (c4 : decide (s5 < (((List.length x1) : Nat) : Int)) = true) (c5 : ((List.getD x0 (Int.toNat s5) 0) != (List.getD x1 (Int.toNat s5) 0)) = true) : (turns (hds 10 35) 0 35 (evC byref (evCall F S5 (m + 24)) (m + 24) 0 (hds 10) lbl10_0) (n + 1) (l10_0H x0 x1 s5) (l10_0B x0 x1 s5)).run = some (.ret, [(.d (.sl (.int .u8) x0)), (.d (.sl (.int .u8) x1)), .top, .top, (.d (.bool false)), (.d (.int .i64 s5)), .top, .top, .top, .top, .top, (.d (.int .i64 s5)), (.d (.sl (.int .u8) x0)), (.d (.int .i64 (((List.length x0) : Nat) : Int))), (.d (.bool (decide (s5 < (((List.length x0) : Nat) : Int))))), .top, .top, (.d (.sl (.int .u8) x0)), (.d (.int .i64 s5)), (.cptr [(.int .u8 (List.getD x0 (Int.toNat s5) 0))] 0), (.d (.int .u8 (List.getD x0 (Int.toNat s5) 0))), (.d (.sl (.int .u8) x1)), (.d (.int .i64 s5)), (.cptr [(.int .u8 (List.getD x1 (Int.toNat s5) 0))] 0), (.d (.int .u8 (List.getD x1 (Int.toNat s5) 0))), (.d (.bool ((List.getD x0 (Int.toNat s5) 0) != (List.getD x1 (Int.toNat s5) 0))))], [.dead, .dead, .dead, .dead, .dead, .dead, .dead, .dead, .dead, .dead, .dead, .dead, .dead, .dead, .dead, .dead, .dead, .dead, .dead, .dead, .dead, .dead, .dead, .dead, .dead, .dead, .dead, .dead, .dead, .dead, .dead, .dead, .dead, .dead, .dead, .dead]) := by
  exact turns_last (by simp) (M.run_of_path _ [true, true, true, true, true, true] _ _ (by kernel_rfl) (all_t c0 (all_t c1 (all_t c0 (all_t c1 (all_t c4 (all_t c5 all_nil))))))) 
set_option maxHeartbeats 20000000 in
theorem l10_0_w1 (m n : Nat) (x0 : List Int) (x1 : List Int) (s5 : Int) (r : AEx × Env × Boxes) (c0 : decide (s5 < (((List.length x0) : Nat) : Int)) = true) (c1 : decide (0 ≤ s5) = true) (c4 : decide (s5 < (((List.length x1) : Nat) : Int)) = true) (c5 : ¬ ((List.getD x0 (Int.toNat s5) 0) != (List.getD x1 (Int.toNat s5) 0)) = true) (ih : (turns (hds 10 35) 0 35 (evC byref (evCall F S5 (m + 24)) (m + 24) 0 (hds 10) lbl10_0) n (l10_0H x0 x1 ((IntKind.wrap .i64 (s5 + (1))))) (l10_0B x0 x1 ((IntKind.wrap .i64 (s5 + (1)))))).run = some r) : (turns (hds 10 35) 0 35 (evC byref (evCall F S5 (m + 24)) (m + 24) 0 (hds 10) lbl10_0) (n + 1) (l10_0H x0 x1 s5) (l10_0B x0 x1 s5)).run = some r := by
  exact turns_step (M.run_of_path _ [true, true, true, true, true, false] _ _ (by kernel_rfl) (all_t c0 (all_t c1 (all_t c0 (all_t c1 (all_t c4 (all_f c5 all_nil))))))) ih
set_option maxHeartbeats 20000000 in
theorem l10_0_w2 (m n : Nat) (x0 : List Int) (x1 : List Int) (s5 : Int) (c0 : ¬ decide (s5 < (((List.length x0) : Nat) : Int)) = true) : (turns (hds 10 35) 0 35 (evC byref (evCall F S5 (m + 24)) (m + 24) 0 (hds 10) lbl10_0) (n + 1) (l10_0H x0 x1 s5) (l10_0B x0 x1 s5)).run = some (.exit 0, [(.d (.sl (.int .u8) x0)), (.d (.sl (.int .u8) x1)), .top, .top, .top, (.d (.int .i64 s5)), .top, .top, .top, .top, .top, (.d (.int .i64 s5)), (.d (.sl (.int .u8) x0)), (.d (.int .i64 (((List.length x0) : Nat) : Int))), (.d (.bool (decide (s5 < (((List.length x0) : Nat) : Int))))), .top, .top, .top, .top, .top, .top, .top, .top, .top, .top, .top], []) := by
  exact turns_last (by simp) (M.run_of_path _ [false] _ _ (by kernel_rfl) (all_f c0 all_nil)) 

set_option maxHeartbeats 20000000 in
theorem l10_0_step (m n : Nat) (ih : ∀ (x0 : List Int) (x1 : List Int) (s5 : Int) (q : Nat × Int), l10_0 m n x0 x1 s5 = some q → (turns (hds 10 35) 0 35 (evC byref (evCall F S5 (m + 24)) (m + 24) 0 (hds 10) lbl10_0) n (l10_0H x0 x1 s5) (l10_0B x0 x1 s5)).run = some (l10_0E (x0) (x1) (q.2) q.1)) (x0 : List Int) (x1 : List Int) (s5 : Int) (q : Nat × Int) (h : l10_0 m (n + 1) x0 x1 s5 = some q) : (turns (hds 10 35) 0 35 (evC byref (evCall F S5 (m + 24)) (m + 24) 0 (hds 10) lbl10_0) (n + 1) (l10_0H x0 x1 s5) (l10_0B x0 x1 s5)).run = some (l10_0E (x0) (x1) (q.2) q.1) := by
  rw [l10_0] at h
  refine ite_cases h (fun c0 h => ?_) (fun c0 h => ?_)
  · skip
    refine ite_cases h (fun c1 h => ?_) (fun c1 h => ?_)
    · skip
      refine ite_cases h (fun c4 h => ?_) (fun c4 h => ?_)
      · skip
        refine ite_cases h (fun c5 h => ?_) (fun c5 h => ?_)
        · skip
          cases h
          exact l10_0_w0 m n x0 x1 s5 c0 c1 c4 c5
        · skip
          exact l10_0_w1 m n x0 x1 s5 _ c0 c1 c4 c5 (ih _ _ _ q h)
      · skip
        cases h
    · skip
      cases h
  · skip
    cases h
    exact l10_0_w2 m n x0 x1 s5 c0
set_option maxHeartbeats 20000000 in
theorem l10_0_ok (m : Nat) : ∀ (n : Nat) (x0 : List Int) (x1 : List Int) (s5 : Int) (q : Nat × Int), l10_0 m n x0 x1 s5 = some q → (turns (hds 10 35) 0 35 (evC byref (evCall F S5 (m + 24)) (m + 24) 0 (hds 10) lbl10_0) n (l10_0H x0 x1 s5) (l10_0B x0 x1 s5)).run = some (l10_0E (x0) (x1) (q.2) q.1)
  | 0, x0, x1, s5, q, h => by cases h
  | n + 1, x0, x1, s5, q, h => l10_0_step m n (l10_0_ok m n) x0 x1 s5 q h

def p10 (m : Nat) (x0 : List Int) (x1 : List Int) : Option (Bool) :=
  if ((((List.length x0) : Nat) : Int) != (((List.length x1) : Nat) : Int)) = true then
    some (false)
  else
    if (Option.isSome (l10_0 m (m + 24) x0 x1 0)) = true then
      if ((l10_0R m (m + 24) x0 x1 0).1 == 0) = true then
        some (false)
      else
        if ((l10_0R m (m + 24) x0 x1 0).1 == 1) = true then
          some (true)
        else
          none
    else
      none
set_option maxHeartbeats 20000000 in
theorem p10_ok (m : Nat) (x0 : List Int) (x1 : List Int) (q : Bool) (h : p10 m x0 x1 = some q) : ∃ r B1, (evCall F S5 (m + 25) 10 [(.d (.sl (.int .u8) x0)), (.d (.sl (.int .u8) x1))] []).run = some (r, B1) ∧ 0 ≤ B1.length ∧ wkR B1 [] r (.d (.bool (q))) ∧ wkBs B1 [] 0 [] := by
  unfold p10 at h
  refine ite_cases h (fun c0 h => ?_) (fun c0 h => ?_)
  · skip
    cases h
    refine ⟨(.d (.bool false)), [], runT_ok (LS := (fun k => none)) (fn := fn10) (vis := []) (by kernel_rfl) rfl (by kernel_rfl) (M.run_of_path _ [true] _ _ (by kernel_rfl) (all_t c0 all_nil)) ?_, by simp, (wkR.one (wkV.one (wk1.eq rfl))), trivial⟩
    intro p hp; cases hp
  · skip
    refine ite_cases h (fun c1 h => ?_) (fun c1 h => ?_)
    · skip
      refine ite_cases h (fun c2 h => ?_) (fun c2 h => ?_)
      · skip
        cases h
        refine ⟨(.d (.bool false)), [], runT_ok (LS := (fun k => if k = 35 then some (l10_0E x0 x1 ((l10_0R m (m + 24) x0 x1 0).2) 0) else none)) (fn := fn10) (vis := [(35, l10_0H x0 x1 0, l10_0B x0 x1 0)]) (by kernel_rfl) rfl (by kernel_rfl) (M.run_of_path _ [false] _ _ (by kernel_rfl) (all_f c0 all_nil)) ?_, by simp, (wkR.one (wkV.one (wk1.eq rfl))), trivial⟩
        intro p hp p2 hq
        rcases List.mem_cons.1 hp with rfl | hp
        · skip
          have h3 := l10_0_ok m (m + 24) x0 x1 0 _ (some_getD (d := l10_0D) c1)
          rw [eq_of_beq c2] at h3
          exact Eq.trans (Eq.mp (by kernel_rfl) h3) hq
        cases hp
      · skip
        refine ite_cases h (fun c3 h => ?_) (fun c3 h => ?_)
        · skip
          cases h
          refine ⟨(.d (.bool true)), [], runT_ok (LS := (fun k => if k = 35 then some (l10_0E x0 x1 ((l10_0R m (m + 24) x0 x1 0).2) 1) else none)) (fn := fn10) (vis := [(35, l10_0H x0 x1 0, l10_0B x0 x1 0)]) (by kernel_rfl) rfl (by kernel_rfl) (M.run_of_path _ [false] _ _ (by kernel_rfl) (all_f c0 all_nil)) ?_, by simp, (wkR.one (wkV.one (wk1.eq rfl))), trivial⟩
          intro p hp p2 hq
          rcases List.mem_cons.1 hp with rfl | hp
          · skip
            have h3 := l10_0_ok m (m + 24) x0 x1 0 _ (some_getD (d := l10_0D) c1)
            rw [eq_of_beq c3] at h3
            exact Eq.trans (Eq.mp (by kernel_rfl) h3) hq
          cases hp
        · skip
          cases h
    · skip
      cases h

theorem eq10_loop (m : Nat) (a b : List (Int)) (hl : a.length = b.length) (hb : a.length < 4611686018427387904) : ∀ n k, k ≤ a.length → a.length - k < n → ∃ j, l10_0 m n a b (k : Nat) = some (if a.drop k == b.drop k then 1 else 0, j)
  | 0, k, _, h => by omega
  | n + 1, k, hk, hn => by
    rw [l10_0]
    by_cases h : k < a.length
    · skip
      have e1 : decide (((k : Nat) : Int) < ((a.length : Nat) : Int)) = true := decide_eq_true (by omega)
      have e2 : decide ((0 : Int) ≤ ((k : Nat) : Int)) = true := decide_eq_true (by omega)
      have e3 : decide (((k : Nat) : Int) < ((b.length : Nat) : Int)) = true := decide_eq_true (by omega)
      simp only [e1, e2, e3, if_true, Int.toNat_natCast]
      rw [drop_getD a k 0 h, drop_getD b k 0 (by omega)]
      have ew : IntKind.wrap .i64 (((k : Nat) : Int) + (1)) = ((k + 1 : Nat) : Int) := by rw [wrap_id (by omega) (by omega)]; rfl
      rw [ew]
      obtain ⟨j, hj⟩ := eq10_loop m a b hl hb n (k + 1) (by omega) (by omega)
      have hc : ((a.getD k 0) :: a.drop (k + 1) == (b.getD k 0) :: b.drop (k + 1)) = (((a.getD k 0) == (b.getD k 0)) && (a.drop (k + 1) == b.drop (k + 1))) := rfl
      rw [hc]
      rcases Bool.eq_false_or_eq_true ((a.getD k 0) == (b.getD k 0)) with he | he
      · exact ⟨j, by simp only [bne, he, hj]; simp⟩
      · exact ⟨(k : Nat), by simp only [bne, he]; simp⟩
    · have e1 : decide (((k : Nat) : Int) < ((a.length : Nat) : Int)) = false := decide_eq_false (by omega)
      refine ⟨(k : Nat), ?_⟩
      simp only [e1, Bool.false_eq_true, if_false]
      rw [List.drop_eq_nil_of_le (by omega), List.drop_eq_nil_of_le (by omega)]
      rfl
theorem eq10 (a b : List (Int)) (h : decide (List.length a < 4611686018427387904) = true) : ∃ m, p10 m a b = some (a == b) := by
  have hb := of_decide_eq_true h
  refine ⟨a.length, ?_⟩
  unfold p10 l10_0R
  by_cases hl : a.length = b.length
  · have e0 : ((((List.length a) : Nat) : Int) != (((List.length b) : Nat) : Int)) = false := by simp [hl]
    obtain ⟨j, hj⟩ := eq10_loop a.length a b hl hb (a.length + 24) 0 (by omega) (by omega)
    simp only [Int.natCast_zero, List.drop_zero] at hj
    rw [e0]
    simp only [Bool.false_eq_true, if_false]
    rw [hj]
    cases hab : a == b <;> simp [hab]
  · have e0 : ((((List.length a) : Nat) : Int) != (((List.length b) : Nat) : Int)) = true := by simp; omega
    rw [e0]
    have : (a == b) = false := by
      rw [beq_eq_false_iff_ne]
      intro e; rw [e] at hl; exact hl rfl
    simp [this]
def s10 : List AV → Boxes → M (AV × Boxes) := normS [.val (.sl (.int .u8)), .val (.sl (.int .u8))] [] fun xs B => match xs, B with
  | [(.d (.sl (.int .u8) c1)), (.d (.sl (.int .u8) c2))], [] => .chk (decide (List.length c1 < 4611686018427387904)) (.ret ((.d (.bool ((show List (Int) from c1) == c2))), []))
  | _, _ => .fail
theorem s10_at : CallAt Try.prog 10 s10 := by
  refine CallAt.norm (CallAt.weakE (g := fun n => evCall F S5 n 10) (fun n => evCall_atH mixed kinds hds S5 S5_ok n 10) fun xs B r' B' hr => ?_) _ _
  split at hr
  · rename_i c1 c2
    obtain ⟨hp, hr⟩ := (M.run_chk _ _ _).1 hr
    simp only [M.run, Option.some.injEq, Prod.mk.injEq] at hr
    obtain ⟨rfl, rfl⟩ := hr
    obtain ⟨m, hm⟩ := eq10 c1 c2 hp
    obtain ⟨r, B1, h1, h2, h3, h4⟩ := p10_ok m c1 c2 _ hm
    exact ⟨m + 25, r, B1, h1, by simp, h2, h3, h4⟩
  · simp [M.run] at hr
noncomputable def S6 : FuncId → Option (List AV → Boxes → M (AV × Boxes)) := fun f => if f = 10 then some s10 else S5 f
set_option maxHeartbeats 20000000 in
theorem S6_ok : ∀ f s, S6 f = some s → CallAt Try.prog f s := by
  intro f s h
  unfold S6 at h
  split at h
  · rename_i e; subst e; cases h; exact s10_at
  · exact S5_ok f s h

noncomputable def fn24 : AFn := (F 24).getD ⟨0, [], .bad, false, false, noHd⟩
noncomputable def body24 : AC := fn24.body
def l24_0 (m : Nat) : Nat → List Int → List Int → Int → Int → Option (Nat × Int)
  | 0, _, _, _, _ => none
  | n + 1, x0, x1, s12, s13 => if decide (s13 < s12) = true then
      if decide (0 ≤ s13) = true then
        if decide (s13 < (((List.length x0) : Nat) : Int)) = true then
          if decide (s13 < (((List.length x1) : Nat) : Int)) = true then
            if ((List.getD x0 (Int.toNat s13) 0) != (List.getD x1 (Int.toNat s13) 0)) = true then
              some (0, s13)
            else
              l24_0 m n x0 x1 s12 ((IntKind.wrap .i64 (s13 + (1))))
          else
            none
        else
          none
      else
        none
    else
      some (1, s13)
def l24_0D : Nat × Int := (0, 0)
@[reducible] def l24_0R (m n : Nat) (x0 : List Int) (x1 : List Int) (s12 : Int) (s13 : Int) : Nat × Int := Option.getD (l24_0 m n x0 x1 s12 s13) l24_0D
def l24_0H (x0 : List Int) (x1 : List Int) (s12 : Int) (s13 : Int) : Env := [(.d (.sl (.int .u8) x0)), (.d (.sl (.int .u8) x1)), .top, .top, .top, .top, .top, .top, .top, .top, .top, .top, (.d (.int .i64 s12)), (.d (.int .i64 s13)), .top, .top, .top, .top, .top, .top, .top, .top, .top, .top, .top, .top]
def l24_0B (x0 : List Int) (x1 : List Int) (s12 : Int) (s13 : Int) : Boxes := []
def l24_0E (x0 : List Int) (x1 : List Int) (s12 : Int) (s13 : Int) : Nat → AEx × Env × Boxes
  | 0 => (.ret, [(.d (.sl (.int .u8) x0)), (.d (.sl (.int .u8) x1)), .top, .top, (.d (.bool false)), (.d (.int .i64 s13)), .top, .top, .top, .top, .top, .top, (.d (.int .i64 s12)), (.d (.int .i64 s13)), (.d (.bool (decide (s13 < s12)))), (.d (.int .i64 s13)), (.d (.sl (.int .u8) x0)), (.d (.int .i64 s13)), (.cptr [(.int .u8 (List.getD x0 (Int.toNat s13) 0))] 0), (.d (.int .u8 (List.getD x0 (Int.toNat s13) 0))), (.d (.sl (.int .u8) x1)), (.d (.int .i64 s13)), (.cptr [(.int .u8 (List.getD x1 (Int.toNat s13) 0))] 0), (.d (.int .u8 (List.getD x1 (Int.toNat s13) 0))), (.d (.bool ((List.getD x0 (Int.toNat s13) 0) != (List.getD x1 (Int.toNat s13) 0)))), .top], [.dead, .dead, .dead, .dead, .dead, .dead, .dead, .dead, .dead, .dead, .dead, .dead, .dead, .dead, .dead, .dead, .dead, .dead, .dead, .dead, .dead, .dead, .dead, .dead, .dead, .dead, .dead, .dead, .dead, .dead, .dead, .dead, .dead, .dead, .dead, .dead])
  | _ => (.exit 0, [(.d (.sl (.int .u8) x0)), (.d (.sl (.int .u8) x1)), .top, .top, .top, .top, .top, .top, .top, .top, .top, .top, (.d (.int .i64 s12)), (.d (.int .i64 s13)), (.d (.bool (decide (s13 < s12)))), .top, .top, .top, .top, .top, .top, .top, .top, .top, .top, .top], [])
noncomputable def lbl24_0 : AC := loopBody 12291 body24

set_option maxHeartbeats 20000000 in
theorem l24_0_w0 (m n : Nat) (x0 : List Int) (x1 : List Int) (s12 : Int) (s13 : Int) (c0 : decide (s13 < s12) = true) (c1 : decide (0 ≤ s13) = true) (c2 : decide (s13 < (((List.length x0) : Nat) : Int)) = true) (c4 : decide (s13 < (((List.length x1) : Nat) : Int)) = true) (c5 : ((List.getD x0 (Int.toNat s13) 0) != (List.getD x1 (Int.toNat s13) 0)) = true) : (turns (hds 24 12291) 0 12291 (evC byref (evCall F S6 (m + 24)) (m + 24) 0 (hds 24) lbl24_0) (n + 1) (l24_0H x0 x1 s12 s13) (l24_0B x0 x1 s12 s13)).run = some (.ret, [(.d (.sl (.int .u8) x0)), (.d (.sl (.int .u8) x1)), .top, .top, (.d (.bool false)), (.d (.int .i64 s13)), .top, .top, .top, .top, .top, .top, (.d (.int .i64 s12)), (.d (.int .i64 s13)), (.d (.bool (decide (s13 < s12)))), (.d (.int .i64 s13)), (.d (.sl (.int .u8) x0)), (.d (.int .i64 s13)), (.cptr [(.int .u8 (List.getD x0 (Int.toNat s13) 0))] 0), (.d (.int .u8 (List.getD x0 (Int.toNat s13) 0))), (.d (.sl (.int .u8) x1)), (.d (.int .i64 s13)), (.cptr [(.int .u8 (List.getD x1 (Int.toNat s13) 0))] 0), (.d (.int .u8 (List.getD x1 (Int.toNat s13) 0))), (.d (.bool ((List.getD x0 (Int.toNat s13) 0) != (List.getD x1 (Int.toNat s13) 0)))), .top], [.dead, .dead, .dead, .dead, .dead, .dead, .dead, .dead, .dead, .dead, .dead, .dead, .dead, .dead, .dead, .dead, .dead, .dead, .dead, .dead, .dead, .dead, .dead, .dead, .dead, .dead, .dead, .dead, .dead, .dead, .dead, .dead, .dead, .dead, .dead, .dead]) := by
  exact turns_last (by simp) (M.run_of_path _ [true, true, true, true, true, true] _ _ (by kernel_rfl) (all_t c0 (all_t c1 (all_t c2 (all_t c1 (all_t c4 (all_t c5 all_nil))))))) 
set_option maxHeartbeats 20000000 in
theorem l24_0_w1 (m n : Nat) (x0 : List Int) (x1 : List Int) (s12 : Int) (s13 : Int) (r : AEx × Env × Boxes) (c0 : decide (s13 < s12) = true) (c1 : decide (0 ≤ s13) = true) (c2 : decide (s13 < (((List.length x0) : Nat) : Int)) = true) (c4 : decide (s13 < (((List.length x1) : Nat) : Int)) = true) (c5 : ¬ ((List.getD x0 (Int.toNat s13) 0) != (List.getD x1 (Int.toNat s13) 0)) = true) (ih : (turns (hds 24 12291) 0 12291 (evC byref (evCall F S6 (m + 24)) (m + 24) 0 (hds 24) lbl24_0) n (l24_0H x0 x1 s12 ((IntKind.wrap .i64 (s13 + (1))))) (l24_0B x0 x1 s12 ((IntKind.wrap .i64 (s13 + (1)))))).run = some r) : (turns (hds 24 12291) 0 12291 (evC byref (evCall F S6 (m + 24)) (m + 24) 0 (hds 24) lbl24_0) (n + 1) (l24_0H x0 x1 s12 s13) (l24_0B x0 x1 s12 s13)).run = some r := by
  exact turns_step (M.run_of_path _ [true, true, true, true, true, false] _ _ (by kernel_rfl) (all_t c0 (all_t c1 (all_t c2 (all_t c1 (all_t c4 (all_f c5 all_nil))))))) ih
set_option maxHeartbeats 20000000 in
theorem l24_0_w2 (m n : Nat) (x0 : List Int) (x1 : List Int) (s12 : Int) (s13 : Int) (c0 : ¬ decide (s13 < s12) = true) : (turns (hds 24 12291) 0 12291 (evC byref (evCall F S6 (m + 24)) (m + 24) 0 (hds 24) lbl24_0) (n + 1) (l24_0H x0 x1 s12 s13) (l24_0B x0 x1 s12 s13)).run = some (.exit 0, [(.d (.sl (.int .u8) x0)), (.d (.sl (.int .u8) x1)), .top, .top, .top, .top, .top, .top, .top, .top, .top, .top, (.d (.int .i64 s12)), (.d (.int .i64 s13)), (.d (.bool (decide (s13 < s12)))), .top, .top, .top, .top, .top, .top, .top, .top, .top, .top, .top], []) := by
  exact turns_last (by simp) (M.run_of_path _ [false] _ _ (by kernel_rfl) (all_f c0 all_nil)) 

set_option maxHeartbeats 20000000 in
theorem l24_0_step (m n : Nat) (ih : ∀ (x0 : List Int) (x1 : List Int) (s12 : Int) (s13 : Int) (q : Nat × Int), l24_0 m n x0 x1 s12 s13 = some q → (turns (hds 24 12291) 0 12291 (evC byref (evCall F S6 (m + 24)) (m + 24) 0 (hds 24) lbl24_0) n (l24_0H x0 x1 s12 s13) (l24_0B x0 x1 s12 s13)).run = some (l24_0E (x0) (x1) (s12) (q.2) q.1)) (x0 : List Int) (x1 : List Int) (s12 : Int) (s13 : Int) (q : Nat × Int) (h : l24_0 m (n + 1) x0 x1 s12 s13 = some q) : (turns (hds 24 12291) 0 12291 (evC byref (evCall F S6 (m + 24)) (m + 24) 0 (hds 24) lbl24_0) (n + 1) (l24_0H x0 x1 s12 s13) (l24_0B x0 x1 s12 s13)).run = some (l24_0E (x0) (x1) (s12) (q.2) q.1) := by
  rw [l24_0] at h
  refine ite_cases h (fun c0 h => ?_) (fun c0 h => ?_)
  · skip
    refine ite_cases h (fun c1 h => ?_) (fun c1 h => ?_)
    · skip
      refine ite_cases h (fun c2 h => ?_) (fun c2 h => ?_)
      · skip
        refine ite_cases h (fun c4 h => ?_) (fun c4 h => ?_)
        · skip
          refine ite_cases h (fun c5 h => ?_) (fun c5 h => ?_)
          · skip
            cases h
            exact l24_0_w0 m n x0 x1 s12 s13 c0 c1 c2 c4 c5
          · skip
            exact l24_0_w1 m n x0 x1 s12 s13 _ c0 c1 c2 c4 c5 (ih _ _ _ _ q h)
        · skip
          cases h
      · skip
        cases h
    · skip
      cases h
  · skip
    cases h
    exact l24_0_w2 m n x0 x1 s12 s13 c0
set_option maxHeartbeats 20000000 in
theorem l24_0_ok (m : Nat) : ∀ (n : Nat) (x0 : List Int) (x1 : List Int) (s12 : Int) (s13 : Int) (q : Nat × Int), l24_0 m n x0 x1 s12 s13 = some q → (turns (hds 24 12291) 0 12291 (evC byref (evCall F S6 (m + 24)) (m + 24) 0 (hds 24) lbl24_0) n (l24_0H x0 x1 s12 s13) (l24_0B x0 x1 s12 s13)).run = some (l24_0E (x0) (x1) (s12) (q.2) q.1)
  | 0, x0, x1, s12, s13, q, h => by cases h
  | n + 1, x0, x1, s12, s13, q, h => l24_0_step m n (l24_0_ok m n) x0 x1 s12 s13 q h

def p24 (m : Nat) (x0 : List Int) (x1 : List Int) : Option (Bool) :=
  if ((((List.length x0) : Nat) : Int) != (((List.length x1) : Nat) : Int)) = true then
    some (false)
  else
    if (Option.isSome (l24_0 m (m + 24) x0 x1 ((((List.length x0) : Nat) : Int)) 0)) = true then
      if ((l24_0R m (m + 24) x0 x1 ((((List.length x0) : Nat) : Int)) 0).1 == 0) = true then
        some (false)
      else
        if ((l24_0R m (m + 24) x0 x1 ((((List.length x0) : Nat) : Int)) 0).1 == 1) = true then
          some (true)
        else
          none
    else
      none
set_option maxHeartbeats 20000000 in
theorem p24_ok (m : Nat) (x0 : List Int) (x1 : List Int) (q : Bool) (h : p24 m x0 x1 = some q) : ∃ r B1, (evCall F S6 (m + 25) 24 [(.d (.sl (.int .u8) x0)), (.d (.sl (.int .u8) x1))] []).run = some (r, B1) ∧ 0 ≤ B1.length ∧ wkR B1 [] r (.d (.bool (q))) ∧ wkBs B1 [] 0 [] := by
  unfold p24 at h
  refine ite_cases h (fun c0 h => ?_) (fun c0 h => ?_)
  · skip
    cases h
    refine ⟨(.d (.bool false)), [], runT_ok (LS := (fun k => none)) (fn := fn24) (vis := []) (by kernel_rfl) rfl (by kernel_rfl) (M.run_of_path _ [true] _ _ (by kernel_rfl) (all_t c0 all_nil)) ?_, by simp, (wkR.one (wkV.one (wk1.eq rfl))), trivial⟩
    intro p hp; cases hp
  · skip
    refine ite_cases h (fun c1 h => ?_) (fun c1 h => ?_)
    · skip
      refine ite_cases h (fun c2 h => ?_) (fun c2 h => ?_)
      · skip
        cases h
        refine ⟨(.d (.bool false)), [], runT_ok (LS := (fun k => if k = 12291 then some (l24_0E x0 x1 (((((List.length x0) : Nat) : Int))) ((l24_0R m (m + 24) x0 x1 ((((List.length x0) : Nat) : Int)) 0).2) 0) else none)) (fn := fn24) (vis := [(12291, l24_0H x0 x1 ((((List.length x0) : Nat) : Int)) 0, l24_0B x0 x1 ((((List.length x0) : Nat) : Int)) 0)]) (by kernel_rfl) rfl (by kernel_rfl) (M.run_of_path _ [false] _ _ (by kernel_rfl) (all_f c0 all_nil)) ?_, by simp, (wkR.one (wkV.one (wk1.eq rfl))), trivial⟩
        intro p hp p2 hq
        rcases List.mem_cons.1 hp with rfl | hp
        · skip
          have h3 := l24_0_ok m (m + 24) x0 x1 ((((List.length x0) : Nat) : Int)) 0 _ (some_getD (d := l24_0D) c1)
          rw [eq_of_beq c2] at h3
          exact Eq.trans (Eq.mp (by kernel_rfl) h3) hq
        cases hp
      · skip
        refine ite_cases h (fun c3 h => ?_) (fun c3 h => ?_)
        · skip
          cases h
          refine ⟨(.d (.bool true)), [], runT_ok (LS := (fun k => if k = 12291 then some (l24_0E x0 x1 (((((List.length x0) : Nat) : Int))) ((l24_0R m (m + 24) x0 x1 ((((List.length x0) : Nat) : Int)) 0).2) 1) else none)) (fn := fn24) (vis := [(12291, l24_0H x0 x1 ((((List.length x0) : Nat) : Int)) 0, l24_0B x0 x1 ((((List.length x0) : Nat) : Int)) 0)]) (by kernel_rfl) rfl (by kernel_rfl) (M.run_of_path _ [false] _ _ (by kernel_rfl) (all_f c0 all_nil)) ?_, by simp, (wkR.one (wkV.one (wk1.eq rfl))), trivial⟩
          intro p hp p2 hq
          rcases List.mem_cons.1 hp with rfl | hp
          · skip
            have h3 := l24_0_ok m (m + 24) x0 x1 ((((List.length x0) : Nat) : Int)) 0 _ (some_getD (d := l24_0D) c1)
            rw [eq_of_beq c3] at h3
            exact Eq.trans (Eq.mp (by kernel_rfl) h3) hq
          cases hp
        · skip
          cases h
    · skip
      cases h

theorem eq24_loop (m : Nat) (a b : List (Int)) (hl : a.length = b.length) (hb : a.length < 4611686018427387904) : ∀ n k, k ≤ a.length → a.length - k < n → ∃ j, l24_0 m n a b (((List.length a) : Nat) : Int) (k : Nat) = some (if a.drop k == b.drop k then 1 else 0, j)
  | 0, k, _, h => by omega
  | n + 1, k, hk, hn => by
    rw [l24_0]
    by_cases h : k < a.length
    · skip
      have e1 : decide (((k : Nat) : Int) < ((a.length : Nat) : Int)) = true := decide_eq_true (by omega)
      have e2 : decide ((0 : Int) ≤ ((k : Nat) : Int)) = true := decide_eq_true (by omega)
      have e3 : decide (((k : Nat) : Int) < ((b.length : Nat) : Int)) = true := decide_eq_true (by omega)
      simp only [e1, e2, e3, if_true, Int.toNat_natCast]
      rw [drop_getD a k 0 h, drop_getD b k 0 (by omega)]
      have ew : IntKind.wrap .i64 (((k : Nat) : Int) + (1)) = ((k + 1 : Nat) : Int) := by rw [wrap_id (by omega) (by omega)]; rfl
      rw [ew]
      obtain ⟨j, hj⟩ := eq24_loop m a b hl hb n (k + 1) (by omega) (by omega)
      have hc : ((a.getD k 0) :: a.drop (k + 1) == (b.getD k 0) :: b.drop (k + 1)) = (((a.getD k 0) == (b.getD k 0)) && (a.drop (k + 1) == b.drop (k + 1))) := rfl
      rw [hc]
      rcases Bool.eq_false_or_eq_true ((a.getD k 0) == (b.getD k 0)) with he | he
      · exact ⟨j, by simp only [bne, he, hj]; simp⟩
      · exact ⟨(k : Nat), by simp only [bne, he]; simp⟩
    · have e1 : decide (((k : Nat) : Int) < ((a.length : Nat) : Int)) = false := decide_eq_false (by omega)
      refine ⟨(k : Nat), ?_⟩
      simp only [e1, Bool.false_eq_true, if_false]
      rw [List.drop_eq_nil_of_le (by omega), List.drop_eq_nil_of_le (by omega)]
      rfl
theorem eq24 (a b : List (Int)) (h : decide (List.length a < 4611686018427387904) = true) : ∃ m, p24 m a b = some (a == b) := by
  have hb := of_decide_eq_true h
  refine ⟨a.length, ?_⟩
  unfold p24 l24_0R
  by_cases hl : a.length = b.length
  · have e0 : ((((List.length a) : Nat) : Int) != (((List.length b) : Nat) : Int)) = false := by simp [hl]
    obtain ⟨j, hj⟩ := eq24_loop a.length a b hl hb (a.length + 24) 0 (by omega) (by omega)
    simp only [Int.natCast_zero, List.drop_zero] at hj
    rw [e0]
    simp only [Bool.false_eq_true, if_false]
    rw [hj]
    cases hab : a == b <;> simp [hab]
  · have e0 : ((((List.length a) : Nat) : Int) != (((List.length b) : Nat) : Int)) = true := by simp; omega
    rw [e0]
    have : (a == b) = false := by
      rw [beq_eq_false_iff_ne]
      intro e; rw [e] at hl; exact hl rfl
    simp [this]
def s24 : List AV → Boxes → M (AV × Boxes) := normS [.val (.sl (.int .u8)), .val (.sl (.int .u8))] [] fun xs B => match xs, B with
  | [(.d (.sl (.int .u8) c1)), (.d (.sl (.int .u8) c2))], [] => .chk (decide (List.length c1 < 4611686018427387904)) (.ret ((.d (.bool ((show List (Int) from c1) == c2))), []))
  | _, _ => .fail
theorem s24_at : CallAt Try.prog 24 s24 := by
  refine CallAt.norm (CallAt.weakE (g := fun n => evCall F S6 n 24) (fun n => evCall_atH mixed kinds hds S6 S6_ok n 24) fun xs B r' B' hr => ?_) _ _
  split at hr
  · rename_i c1 c2
    obtain ⟨hp, hr⟩ := (M.run_chk _ _ _).1 hr
    simp only [M.run, Option.some.injEq, Prod.mk.injEq] at hr
    obtain ⟨rfl, rfl⟩ := hr
    obtain ⟨m, hm⟩ := eq24 c1 c2 hp
    obtain ⟨r, B1, h1, h2, h3, h4⟩ := p24_ok m c1 c2 _ hm
    exact ⟨m + 25, r, B1, h1, by simp, h2, h3, h4⟩
  · simp [M.run] at hr
noncomputable def S7 : FuncId → Option (List AV → Boxes → M (AV × Boxes)) := fun f => if f = 24 then some s24 else S6 f
set_option maxHeartbeats 20000000 in
theorem S7_ok : ∀ f s, S7 f = some s → CallAt Try.prog f s := by
  intro f s h
  unfold S7 at h
  split at h
  · rename_i e; subst e; cases h; exact s24_at
  · exact S6_ok f s h

end Go.Proofs.Ytghkbjflejgieaa.Dec
namespace Go.Proofs.Ytghkbjflejgieaa.Dec
open Go.Ev
set_option linter.unusedVariables false
set_option linter.unusedSimpArgs false
set_option maxRecDepth 100000
noncomputable def fn11 : AFn := (F 11).getD ⟨0, [], .bad, false, false, noHd⟩
noncomputable def body11 : AC := fn11.body
def l11_1 (m : Nat) : Nat → List Int → Int → Int → Int → List Int → Option (Nat × Int × (List Int))
  | 0, _, _, _, _, _ => none
  | n + 1, x0, s8, s9, s6', b0' => if decide (s6' ≥ 128) = true then
      if decide ((((List.length b0') + 1) * 1) ≤ 70368744177664) = true then
        l11_1 m n x0 s8 s9 ((Int.fdiv s6' (2 ^ 7))) ((b0' ++ [(IntKind.wrap .u8 ((((BitVec.ofInt 8 (IntKind.wrap .u8 s6') ||| BitVec.ofInt 8 (128)).toNat : Nat) : Int)))]))
      else
        none
    else
      some (0, s6', b0')
def l11_1D : Nat × Int × (List Int) := (0, 0, [])
@[reducible] def l11_1R (m n : Nat) (x0 : List Int) (s8 : Int) (s9 : Int) (s6' : Int) (b0' : List Int) : Nat × Int × (List Int) := Option.getD (l11_1 m n x0 s8 s9 s6' b0') l11_1D
def l11_1H (x0 : List Int) (s8 : Int) (s9 : Int) (s6' : Int) (b0' : List Int) : Env := [.top, .top, .top, (.sr 0 0 (List.length b0') 1 none), .top, .top, (.d (.int .u64 s6')), (.d (.sl (.int .i64) x0)), (.d (.int .i64 s8)), (.d (.int .i64 s9)), .top, .top, .top, .top, .top, .top, .top, .top, .top, .top, .top, .top, .top, .top, .top, .top, .top, .top, .top, .top, .top, .top, .top, .top, .top, .top, .top]
def l11_1B (x0 : List Int) (s8 : Int) (s9 : Int) (s6' : Int) (b0' : List Int) : Boxes := [(.arr (.int .u8) b0' true)]
def l11_1E (x0 : List Int) (s8 : Int) (s9 : Int) (s6' : Int) (b0' : List Int) : Nat → AEx × Env × Boxes
  | _ => (.exit 2, [.top, .top, .top, (.sr 0 0 (List.length b0') 1 none), .top, .top, (.d (.int .u64 s6')), (.d (.sl (.int .i64) x0)), (.d (.int .i64 s8)), (.d (.int .i64 s9)), .top, .top, .top, .top, .top, .top, .top, .top, .top, .top, (.d (.int .u64 s6')), (.d (.bool (decide (s6' ≥ 128)))), .top, .top, .top, .top, .top, .top, .top, .top, .top, .top, .top, .top, .top, .top, .top], [(.arr (.int .u8) b0' true)])
noncomputable def lbl11_1 : AC := loopBody 968 body11

set_option maxHeartbeats 20000000 in
theorem l11_1_w0 (m n : Nat) (x0 : List Int) (s8 : Int) (s9 : Int) (s6' : Int) (b0' : List Int) (r : AEx × Env × Boxes) (c0 : decide (s6' ≥ 128) = true) (c2 : decide ((((List.length b0') + 1) * 1) ≤ 70368744177664) = true) (ih : (turns (hds 11 968) 0 968 (evC byref (evCall F S7 (m + 24)) (m + 24) 0 (hds 11) lbl11_1) n (l11_1H x0 s8 s9 ((Int.fdiv s6' (2 ^ 7))) ((b0' ++ [(IntKind.wrap .u8 ((((BitVec.ofInt 8 (IntKind.wrap .u8 s6') ||| BitVec.ofInt 8 (128)).toNat : Nat) : Int)))]))) (l11_1B x0 s8 s9 ((Int.fdiv s6' (2 ^ 7))) ((b0' ++ [(IntKind.wrap .u8 ((((BitVec.ofInt 8 (IntKind.wrap .u8 s6') ||| BitVec.ofInt 8 (128)).toNat : Nat) : Int)))])))).run = some r) : (turns (hds 11 968) 0 968 (evC byref (evCall F S7 (m + 24)) (m + 24) 0 (hds 11) lbl11_1) (n + 1) (l11_1H x0 s8 s9 s6' b0') (l11_1B x0 s8 s9 s6' b0')).run = some r := by
  have ht : (turn (hds 11 968) 0 968 (evC byref (evCall F S7 (m + 24)) (m + 24) 0 (hds 11) lbl11_1) (l11_1H x0 s8 s9 s6' b0') (l11_1B x0 s8 s9 s6' b0')).run = some (.normal, [.top, .top, .top, (.sr 0 0 ((List.length b0') + 1) 1 none), .top, .top, (.d (.int .u64 (Int.fdiv s6' (2 ^ 7)))), (.d (.sl (.int .i64) x0)), (.d (.int .i64 s8)), (.d (.int .i64 s9)), .top, .top, .top, .top, .top, .top, .top, .top, .top, .top, .top, .top, .top, .top, .top, .top, .top, .top, .top, .top, .top, .top, .top, .top, .top, .top, .top], [(.arr (.int .u8) (b0' ++ [(IntKind.wrap .u8 ((((BitVec.ofInt 8 (IntKind.wrap .u8 s6') ||| BitVec.ofInt 8 (128)).toNat : Nat) : Int)))]) true)]) := M.run_of_path _ [true, true, true, true, true] _ _ (by kernel_rfl) (all_t c0 (all_t rfl (all_t c2 (all_t (show decide ((List.length b0') = (List.length b0')) = true from decide_eq_true rfl) (all_t rfl all_nil)))))
  refine turns_step ht (turns_eq ?_ ?_ ih)
  · unfold l11_1H
    first | (simp; done) | (simp [Nat.add_assoc]; done)
  · unfold l11_1B
    simp
set_option maxHeartbeats 20000000 in
theorem l11_1_w1 (m n : Nat) (x0 : List Int) (s8 : Int) (s9 : Int) (s6' : Int) (b0' : List Int) (c0 : ¬ decide (s6' ≥ 128) = true) : (turns (hds 11 968) 0 968 (evC byref (evCall F S7 (m + 24)) (m + 24) 0 (hds 11) lbl11_1) (n + 1) (l11_1H x0 s8 s9 s6' b0') (l11_1B x0 s8 s9 s6' b0')).run = some (.exit 2, [.top, .top, .top, (.sr 0 0 (List.length b0') 1 none), .top, .top, (.d (.int .u64 s6')), (.d (.sl (.int .i64) x0)), (.d (.int .i64 s8)), (.d (.int .i64 s9)), .top, .top, .top, .top, .top, .top, .top, .top, .top, .top, (.d (.int .u64 s6')), (.d (.bool (decide (s6' ≥ 128)))), .top, .top, .top, .top, .top, .top, .top, .top, .top, .top, .top, .top, .top, .top, .top], [(.arr (.int .u8) b0' true)]) := by
  exact turns_last (by simp) (M.run_of_path _ [false] _ _ (by kernel_rfl) (all_f c0 all_nil)) 

set_option maxHeartbeats 20000000 in
theorem l11_1_step (m n : Nat) (ih : ∀ (x0 : List Int) (s8 : Int) (s9 : Int) (s6' : Int) (b0' : List Int) (q : Nat × Int × (List Int)), l11_1 m n x0 s8 s9 s6' b0' = some q → (turns (hds 11 968) 0 968 (evC byref (evCall F S7 (m + 24)) (m + 24) 0 (hds 11) lbl11_1) n (l11_1H x0 s8 s9 s6' b0') (l11_1B x0 s8 s9 s6' b0')).run = some (l11_1E (x0) (s8) (s9) (q.2.1) (q.2.2) q.1)) (x0 : List Int) (s8 : Int) (s9 : Int) (s6' : Int) (b0' : List Int) (q : Nat × Int × (List Int)) (h : l11_1 m (n + 1) x0 s8 s9 s6' b0' = some q) : (turns (hds 11 968) 0 968 (evC byref (evCall F S7 (m + 24)) (m + 24) 0 (hds 11) lbl11_1) (n + 1) (l11_1H x0 s8 s9 s6' b0') (l11_1B x0 s8 s9 s6' b0')).run = some (l11_1E (x0) (s8) (s9) (q.2.1) (q.2.2) q.1) := by
  rw [l11_1] at h
  refine ite_cases h (fun c0 h => ?_) (fun c0 h => ?_)
  · skip
    refine ite_cases h (fun c2 h => ?_) (fun c2 h => ?_)
    · skip
      exact l11_1_w0 m n x0 s8 s9 s6' b0' _ c0 c2 (ih _ _ _ _ _ q h)
    · skip
      cases h
  · skip
    cases h
    exact l11_1_w1 m n x0 s8 s9 s6' b0' c0
set_option maxHeartbeats 20000000 in
theorem l11_1_ok (m : Nat) : ∀ (n : Nat) (x0 : List Int) (s8 : Int) (s9 : Int) (s6' : Int) (b0' : List Int) (q : Nat × Int × (List Int)), l11_1 m n x0 s8 s9 s6' b0' = some q → (turns (hds 11 968) 0 968 (evC byref (evCall F S7 (m + 24)) (m + 24) 0 (hds 11) lbl11_1) n (l11_1H x0 s8 s9 s6' b0') (l11_1B x0 s8 s9 s6' b0')).run = some (l11_1E (x0) (s8) (s9) (q.2.1) (q.2.2) q.1)
  | 0, x0, s8, s9, s6', b0', q, h => by cases h
  | n + 1, x0, s8, s9, s6', b0', q, h => l11_1_step m n (l11_1_ok m n) x0 s8 s9 s6' b0' q h

def l11_0 (m : Nat) : Nat → List Int → Int → Int → List Int → Option (Nat × Int × (List Int))
  | 0, _, _, _, _ => none
  | n + 1, x0, s8, s9, b0 => if decide (s9 < s8) = true then
      if decide (0 ≤ s9) = true then
        if decide (s9 < (((List.length x0) : Nat) : Int)) = true then
          if (Option.isSome (l11_1 m (m + 24) x0 s8 s9 ((IntKind.wrap .u64 ((((BitVec.ofInt 64 (IntKind.wrap .u64 ((IntKind.wrap .u64 (List.getD x0 (Int.toNat s9) 0)) * 2 ^ 1)) ^^^ BitVec.ofInt 64 (IntKind.wrap .u64 (Int.fdiv (List.getD x0 (Int.toNat s9) 0) (2 ^ 63)))).toNat : Nat) : Int)))) b0)) = true then
            if decide ((((List.length (l11_1R m (m + 24) x0 s8 s9 ((IntKind.wrap .u64 ((((BitVec.ofInt 64 (IntKind.wrap .u64 ((IntKind.wrap .u64 (List.getD x0 (Int.toNat s9) 0)) * 2 ^ 1)) ^^^ BitVec.ofInt 64 (IntKind.wrap .u64 (Int.fdiv (List.getD x0 (Int.toNat s9) 0) (2 ^ 63)))).toNat : Nat) : Int)))) b0).2.2) + 1) * 1) ≤ 70368744177664) = true then
              l11_0 m n x0 s8 ((IntKind.wrap .i64 (s9 + (1)))) (((l11_1R m (m + 24) x0 s8 s9 ((IntKind.wrap .u64 ((((BitVec.ofInt 64 (IntKind.wrap .u64 ((IntKind.wrap .u64 (List.getD x0 (Int.toNat s9) 0)) * 2 ^ 1)) ^^^ BitVec.ofInt 64 (IntKind.wrap .u64 (Int.fdiv (List.getD x0 (Int.toNat s9) 0) (2 ^ 63)))).toNat : Nat) : Int)))) b0).2.2 ++ [(IntKind.wrap .u8 (l11_1R m (m + 24) x0 s8 s9 ((IntKind.wrap .u64 ((((BitVec.ofInt 64 (IntKind.wrap .u64 ((IntKind.wrap .u64 (List.getD x0 (Int.toNat s9) 0)) * 2 ^ 1)) ^^^ BitVec.ofInt 64 (IntKind.wrap .u64 (Int.fdiv (List.getD x0 (Int.toNat s9) 0) (2 ^ 63)))).toNat : Nat) : Int)))) b0).2.1)]))
            else
              none
          else
            none
        else
          none
      else
        none
    else
      some (0, s9, b0)
def l11_0D : Nat × Int × (List Int) := (0, 0, [])
@[reducible] def l11_0R (m n : Nat) (x0 : List Int) (s8 : Int) (s9 : Int) (b0 : List Int) : Nat × Int × (List Int) := Option.getD (l11_0 m n x0 s8 s9 b0) l11_0D
def l11_0H (x0 : List Int) (s8 : Int) (s9 : Int) (b0 : List Int) : Env := [.top, .top, .top, (.sr 0 0 (List.length b0) 1 none), .top, .top, .top, (.d (.sl (.int .i64) x0)), (.d (.int .i64 s8)), (.d (.int .i64 s9)), .top, .top, .top, .top, .top, .top, .top, .top, .top, .top, .top, .top, .top, .top, .top, .top, .top, .top, .top, .top, .top, .top, .top, .top, .top, .top, .top]
def l11_0B (x0 : List Int) (s8 : Int) (s9 : Int) (b0 : List Int) : Boxes := [(.arr (.int .u8) b0 true)]
def l11_0E (x0 : List Int) (s8 : Int) (s9 : Int) (b0 : List Int) : Nat → AEx × Env × Boxes
  | _ => (.exit 0, [.top, .top, .top, (.sr 0 0 (List.length b0) 1 none), .top, .top, .top, (.d (.sl (.int .i64) x0)), (.d (.int .i64 s8)), (.d (.int .i64 s9)), (.d (.bool (decide (s9 < s8)))), .top, .top, .top, .top, .top, .top, .top, .top, .top, .top, .top, .top, .top, .top, .top, .top, .top, .top, .top, .top, .top, .top, .top, .top, .top, .top], [(.arr (.int .u8) b0 true)])
noncomputable def lbl11_0 : AC := loopBody 904 body11

set_option maxHeartbeats 20000000 in
theorem l11_0_w0 (m n : Nat) (x0 : List Int) (s8 : Int) (s9 : Int) (b0 : List Int) (r : AEx × Env × Boxes) (c0 : decide (s9 < s8) = true) (c1 : decide (0 ≤ s9) = true) (c2 : decide (s9 < (((List.length x0) : Nat) : Int)) = true) (c5 : (Option.isSome (l11_1 m (m + 24) x0 s8 s9 ((IntKind.wrap .u64 ((((BitVec.ofInt 64 (IntKind.wrap .u64 ((IntKind.wrap .u64 (List.getD x0 (Int.toNat s9) 0)) * 2 ^ 1)) ^^^ BitVec.ofInt 64 (IntKind.wrap .u64 (Int.fdiv (List.getD x0 (Int.toNat s9) 0) (2 ^ 63)))).toNat : Nat) : Int)))) b0)) = true) (c7 : decide ((((List.length (l11_1R m (m + 24) x0 s8 s9 ((IntKind.wrap .u64 ((((BitVec.ofInt 64 (IntKind.wrap .u64 ((IntKind.wrap .u64 (List.getD x0 (Int.toNat s9) 0)) * 2 ^ 1)) ^^^ BitVec.ofInt 64 (IntKind.wrap .u64 (Int.fdiv (List.getD x0 (Int.toNat s9) 0) (2 ^ 63)))).toNat : Nat) : Int)))) b0).2.2) + 1) * 1) ≤ 70368744177664) = true) (ih : (turns (hds 11 904) 0 904 (evC byref (evCall F S7 (m + 24)) (m + 24) 0 (hds 11) lbl11_0) n (l11_0H x0 s8 ((IntKind.wrap .i64 (s9 + (1)))) (((l11_1R m (m + 24) x0 s8 s9 ((IntKind.wrap .u64 ((((BitVec.ofInt 64 (IntKind.wrap .u64 ((IntKind.wrap .u64 (List.getD x0 (Int.toNat s9) 0)) * 2 ^ 1)) ^^^ BitVec.ofInt 64 (IntKind.wrap .u64 (Int.fdiv (List.getD x0 (Int.toNat s9) 0) (2 ^ 63)))).toNat : Nat) : Int)))) b0).2.2 ++ [(IntKind.wrap .u8 (l11_1R m (m + 24) x0 s8 s9 ((IntKind.wrap .u64 ((((BitVec.ofInt 64 (IntKind.wrap .u64 ((IntKind.wrap .u64 (List.getD x0 (Int.toNat s9) 0)) * 2 ^ 1)) ^^^ BitVec.ofInt 64 (IntKind.wrap .u64 (Int.fdiv (List.getD x0 (Int.toNat s9) 0) (2 ^ 63)))).toNat : Nat) : Int)))) b0).2.1)]))) (l11_0B x0 s8 ((IntKind.wrap .i64 (s9 + (1)))) (((l11_1R m (m + 24) x0 s8 s9 ((IntKind.wrap .u64 ((((BitVec.ofInt 64 (IntKind.wrap .u64 ((IntKind.wrap .u64 (List.getD x0 (Int.toNat s9) 0)) * 2 ^ 1)) ^^^ BitVec.ofInt 64 (IntKind.wrap .u64 (Int.fdiv (List.getD x0 (Int.toNat s9) 0) (2 ^ 63)))).toNat : Nat) : Int)))) b0).2.2 ++ [(IntKind.wrap .u8 (l11_1R m (m + 24) x0 s8 s9 ((IntKind.wrap .u64 ((((BitVec.ofInt 64 (IntKind.wrap .u64 ((IntKind.wrap .u64 (List.getD x0 (Int.toNat s9) 0)) * 2 ^ 1)) ^^^ BitVec.ofInt 64 (IntKind.wrap .u64 (Int.fdiv (List.getD x0 (Int.toNat s9) 0) (2 ^ 63)))).toNat : Nat) : Int)))) b0).2.1)])))).run = some r) : (turns (hds 11 904) 0 904 (evC byref (evCall F S7 (m + 24)) (m + 24) 0 (hds 11) lbl11_0) (n + 1) (l11_0H x0 s8 s9 b0) (l11_0B x0 s8 s9 b0)).run = some r := by
  have ht : (turn (hds 11 904) 0 904 (evC byref (evCall F S7 (m + 24)) (m + 24) 0 (hds 11) lbl11_0) (l11_0H x0 s8 s9 b0) (l11_0B x0 s8 s9 b0)).run = some (.normal, [.top, .top, .top, (.sr 0 0 ((List.length (l11_1R m (m + 24) x0 s8 s9 ((IntKind.wrap .u64 ((((BitVec.ofInt 64 (IntKind.wrap .u64 ((IntKind.wrap .u64 (List.getD x0 (Int.toNat s9) 0)) * 2 ^ 1)) ^^^ BitVec.ofInt 64 (IntKind.wrap .u64 (Int.fdiv (List.getD x0 (Int.toNat s9) 0) (2 ^ 63)))).toNat : Nat) : Int)))) b0).2.2) + 1) 1 none), .top, .top, .top, (.d (.sl (.int .i64) x0)), (.d (.int .i64 s8)), (.d (.int .i64 (IntKind.wrap .i64 (s9 + (1))))), .top, .top, .top, .top, .top, .top, .top, .top, .top, .top, .top, .top, .top, .top, .top, .top, .top, .top, .top, .top, .top, .top, .top, .top, .top, .top, .top], [(.arr (.int .u8) ((l11_1R m (m + 24) x0 s8 s9 ((IntKind.wrap .u64 ((((BitVec.ofInt 64 (IntKind.wrap .u64 ((IntKind.wrap .u64 (List.getD x0 (Int.toNat s9) 0)) * 2 ^ 1)) ^^^ BitVec.ofInt 64 (IntKind.wrap .u64 (Int.fdiv (List.getD x0 (Int.toNat s9) 0) (2 ^ 63)))).toNat : Nat) : Int)))) b0).2.2 ++ [(IntKind.wrap .u8 (l11_1R m (m + 24) x0 s8 s9 ((IntKind.wrap .u64 ((((BitVec.ofInt 64 (IntKind.wrap .u64 ((IntKind.wrap .u64 (List.getD x0 (Int.toNat s9) 0)) * 2 ^ 1)) ^^^ BitVec.ofInt 64 (IntKind.wrap .u64 (Int.fdiv (List.getD x0 (Int.toNat s9) 0) (2 ^ 63)))).toNat : Nat) : Int)))) b0).2.1)]) true)]) := by
    refine turnT_ok (LS := (fun k => if k = 968 then some (l11_1E x0 s8 s9 ((l11_1R m (m + 24) x0 s8 s9 ((IntKind.wrap .u64 ((((BitVec.ofInt 64 (IntKind.wrap .u64 ((IntKind.wrap .u64 (List.getD x0 (Int.toNat s9) 0)) * 2 ^ 1)) ^^^ BitVec.ofInt 64 (IntKind.wrap .u64 (Int.fdiv (List.getD x0 (Int.toNat s9) 0) (2 ^ 63)))).toNat : Nat) : Int)))) b0).2.1) ((l11_1R m (m + 24) x0 s8 s9 ((IntKind.wrap .u64 ((((BitVec.ofInt 64 (IntKind.wrap .u64 ((IntKind.wrap .u64 (List.getD x0 (Int.toNat s9) 0)) * 2 ^ 1)) ^^^ BitVec.ofInt 64 (IntKind.wrap .u64 (Int.fdiv (List.getD x0 (Int.toNat s9) 0) (2 ^ 63)))).toNat : Nat) : Int)))) b0).2.2) 0) else none)) (vis := [(968, l11_1H x0 s8 s9 ((IntKind.wrap .u64 ((((BitVec.ofInt 64 (IntKind.wrap .u64 ((IntKind.wrap .u64 (List.getD x0 (Int.toNat s9) 0)) * 2 ^ 1)) ^^^ BitVec.ofInt 64 (IntKind.wrap .u64 (Int.fdiv (List.getD x0 (Int.toNat s9) 0) (2 ^ 63)))).toNat : Nat) : Int)))) b0, l11_1B x0 s8 s9 ((IntKind.wrap .u64 ((((BitVec.ofInt 64 (IntKind.wrap .u64 ((IntKind.wrap .u64 (List.getD x0 (Int.toNat s9) 0)) * 2 ^ 1)) ^^^ BitVec.ofInt 64 (IntKind.wrap .u64 (Int.fdiv (List.getD x0 (Int.toNat s9) 0) (2 ^ 63)))).toNat : Nat) : Int)))) b0)]) (by kernel_rfl) (M.run_of_path _ [true, true, true, true, true, true, true, true] _ _ (by kernel_rfl) (all_t c0 (all_t c1 (all_t c2 (all_t rfl (all_t rfl (all_t rfl (all_t c7 (all_t (show decide ((List.length (l11_1R m (m + 24) x0 s8 s9 ((IntKind.wrap .u64 ((((BitVec.ofInt 64 (IntKind.wrap .u64 ((IntKind.wrap .u64 (List.getD x0 (Int.toNat s9) 0)) * 2 ^ 1)) ^^^ BitVec.ofInt 64 (IntKind.wrap .u64 (Int.fdiv (List.getD x0 (Int.toNat s9) 0) (2 ^ 63)))).toNat : Nat) : Int)))) b0).2.2) = (List.length (l11_1R m (m + 24) x0 s8 s9 ((IntKind.wrap .u64 ((((BitVec.ofInt 64 (IntKind.wrap .u64 ((IntKind.wrap .u64 (List.getD x0 (Int.toNat s9) 0)) * 2 ^ 1)) ^^^ BitVec.ofInt 64 (IntKind.wrap .u64 (Int.fdiv (List.getD x0 (Int.toNat s9) 0) (2 ^ 63)))).toNat : Nat) : Int)))) b0).2.2)) = true from decide_eq_true rfl) all_nil))))))))) ?_
    intro p hp p2 hq
    rcases List.mem_cons.1 hp with rfl | hp
    · skip
      have h3 := l11_1_ok m (m + 24) x0 s8 s9 ((IntKind.wrap .u64 ((((BitVec.ofInt 64 (IntKind.wrap .u64 ((IntKind.wrap .u64 (List.getD x0 (Int.toNat s9) 0)) * 2 ^ 1)) ^^^ BitVec.ofInt 64 (IntKind.wrap .u64 (Int.fdiv (List.getD x0 (Int.toNat s9) 0) (2 ^ 63)))).toNat : Nat) : Int)))) b0 _ (some_getD (d := l11_1D) c5)
      exact Eq.trans (Eq.mp (by kernel_rfl) h3) hq
    cases hp
  refine turns_step ht (turns_eq ?_ ?_ ih)
  · unfold l11_0H
    first | (simp; done) | (simp [Nat.add_assoc]; done)
  · unfold l11_0B
    simp
set_option maxHeartbeats 20000000 in
theorem l11_0_w1 (m n : Nat) (x0 : List Int) (s8 : Int) (s9 : Int) (b0 : List Int) (c0 : ¬ decide (s9 < s8) = true) : (turns (hds 11 904) 0 904 (evC byref (evCall F S7 (m + 24)) (m + 24) 0 (hds 11) lbl11_0) (n + 1) (l11_0H x0 s8 s9 b0) (l11_0B x0 s8 s9 b0)).run = some (.exit 0, [.top, .top, .top, (.sr 0 0 (List.length b0) 1 none), .top, .top, .top, (.d (.sl (.int .i64) x0)), (.d (.int .i64 s8)), (.d (.int .i64 s9)), (.d (.bool (decide (s9 < s8)))), .top, .top, .top, .top, .top, .top, .top, .top, .top, .top, .top, .top, .top, .top, .top, .top, .top, .top, .top, .top, .top, .top, .top, .top, .top, .top], [(.arr (.int .u8) b0 true)]) := by
  exact turns_last (by simp) (M.run_of_path _ [false] _ _ (by kernel_rfl) (all_f c0 all_nil)) 

set_option maxHeartbeats 20000000 in
theorem l11_0_step (m n : Nat) (ih : ∀ (x0 : List Int) (s8 : Int) (s9 : Int) (b0 : List Int) (q : Nat × Int × (List Int)), l11_0 m n x0 s8 s9 b0 = some q → (turns (hds 11 904) 0 904 (evC byref (evCall F S7 (m + 24)) (m + 24) 0 (hds 11) lbl11_0) n (l11_0H x0 s8 s9 b0) (l11_0B x0 s8 s9 b0)).run = some (l11_0E (x0) (s8) (q.2.1) (q.2.2) q.1)) (x0 : List Int) (s8 : Int) (s9 : Int) (b0 : List Int) (q : Nat × Int × (List Int)) (h : l11_0 m (n + 1) x0 s8 s9 b0 = some q) : (turns (hds 11 904) 0 904 (evC byref (evCall F S7 (m + 24)) (m + 24) 0 (hds 11) lbl11_0) (n + 1) (l11_0H x0 s8 s9 b0) (l11_0B x0 s8 s9 b0)).run = some (l11_0E (x0) (s8) (q.2.1) (q.2.2) q.1) := by
  rw [l11_0] at h
  refine ite_cases h (fun c0 h => ?_) (fun c0 h => ?_)
  · skip
    refine ite_cases h (fun c1 h => ?_) (fun c1 h => ?_)
    · skip
      refine ite_cases h (fun c2 h => ?_) (fun c2 h => ?_)
      · skip
        refine ite_cases h (fun c5 h => ?_) (fun c5 h => ?_)
        · skip
          refine ite_cases h (fun c7 h => ?_) (fun c7 h => ?_)
          · skip
            exact l11_0_w0 m n x0 s8 s9 b0 _ c0 c1 c2 c5 c7 (ih _ _ _ _ q h)
          · skip
            cases h
        · skip
          cases h
      · skip
        cases h
    · skip
      cases h
  · skip
    cases h
    exact l11_0_w1 m n x0 s8 s9 b0 c0
set_option maxHeartbeats 20000000 in
theorem l11_0_ok (m : Nat) : ∀ (n : Nat) (x0 : List Int) (s8 : Int) (s9 : Int) (b0 : List Int) (q : Nat × Int × (List Int)), l11_0 m n x0 s8 s9 b0 = some q → (turns (hds 11 904) 0 904 (evC byref (evCall F S7 (m + 24)) (m + 24) 0 (hds 11) lbl11_0) n (l11_0H x0 s8 s9 b0) (l11_0B x0 s8 s9 b0)).run = some (l11_0E (x0) (s8) (q.2.1) (q.2.2) q.1)
  | 0, x0, s8, s9, b0, q, h => by cases h
  | n + 1, x0, s8, s9, b0, q, h => l11_0_step m n (l11_0_ok m n) x0 s8 s9 b0 q h

def p11 (m : Nat) (x0 : List Int) : Option ((List Int)) :=
  if (Option.isSome (l11_0 m (m + 24) x0 ((((List.length x0) : Nat) : Int)) 0 (([] : List Int)))) = true then
    some ((l11_0R m (m + 24) x0 ((((List.length x0) : Nat) : Int)) 0 (([] : List Int))).2.2)
  else
    none
set_option maxHeartbeats 20000000 in
theorem p11_ok (m : Nat) (x0 : List Int) (q : (List Int)) (h : p11 m x0 = some q) : ∃ r B1 r1 B2, (padM (.int .u8) 0 (evCall F S7 (m + 25) 11 [(.d (.sl (.int .i64) x0))] [])).run = some (r, B1) ∧ 0 ≤ B2.length ∧ B2.length ≤ B1.length ∧ wkR B1 B2 r r1 ∧ wkBs B1 B2 0 B2 ∧ (compact 0 [r1] B2).run = some ([(.sr 0 0 (List.length q) 1 none)], [(.arr (.int .u8) q true)]) := by
  unfold p11 at h
  refine ite_cases h (fun c0 h => ?_) (fun c0 h => ?_)
  · skip
    cases h
    refine ⟨(.sr 0 0 (List.length (l11_0R m (m + 24) x0 ((((List.length x0) : Nat) : Int)) 0 (([] : List Int))).2.2) 1 none), [(.arr (.int .u8) (l11_0R m (m + 24) x0 ((((List.length x0) : Nat) : Int)) 0 (([] : List Int))).2.2 true)], (.sr 0 0 (List.length (l11_0R m (m + 24) x0 ((((List.length x0) : Nat) : Int)) 0 (([] : List Int))).2.2) 1 none), [(.arr (.int .u8) (l11_0R m (m + 24) x0 ((((List.length x0) : Nat) : Int)) 0 (([] : List Int))).2.2 true)], padM_run rfl (runT_ok (LS := (fun k => if k = 904 then some (l11_0E x0 (((((List.length x0) : Nat) : Int))) ((l11_0R m (m + 24) x0 ((((List.length x0) : Nat) : Int)) 0 (([] : List Int))).2.1) ((l11_0R m (m + 24) x0 ((((List.length x0) : Nat) : Int)) 0 (([] : List Int))).2.2) 0) else none)) (fn := fn11) (vis := [(904, l11_0H x0 ((((List.length x0) : Nat) : Int)) 0 (([] : List Int)), l11_0B x0 ((((List.length x0) : Nat) : Int)) 0 (([] : List Int)))]) (r := (.sr 0 0 (List.length (l11_0R m (m + 24) x0 ((((List.length x0) : Nat) : Int)) 0 (([] : List Int))).2.2) 1 none)) (B' := [(.arr (.int .u8) (l11_0R m (m + 24) x0 ((((List.length x0) : Nat) : Int)) 0 (([] : List Int))).2.2 true)]) (by kernel_rfl) rfl (by kernel_rfl) (M.run_of_path _ [] _ _ (by kernel_rfl) all_nil) ?_) rfl, by simp, by simp, (wkR.one (wkV.one (wk1.live rfl))), ⟨wkBox.arr, trivial⟩, by kernel_rfl⟩
    intro p hp p2 hq
    rcases List.mem_cons.1 hp with rfl | hp
    · skip
      have h3 := l11_0_ok m (m + 24) x0 ((((List.length x0) : Nat) : Int)) 0 (([] : List Int)) _ (some_getD (d := l11_0D) c0)
      exact Eq.trans (Eq.mp (by kernel_rfl) h3) hq
    cases hp
  · skip
    cases h

theorem wrapS (n : Int) : IntKind.wrap .i64 n = if n % 18446744073709551616 ≥ 9223372036854775808 then n % 18446744073709551616 - 18446744073709551616 else n % 18446744073709551616 := by
  show (if (true && decide (n % 18446744073709551616 ≥ 9223372036854775808)) = true then n % 18446744073709551616 - 18446744073709551616 else n % 18446744073709551616) = _
  simp only [Bool.true_and, decide_eq_true_eq]
theorem wrapU (n : Int) : IntKind.wrap .u64 n = n % 18446744073709551616 := by
  show (if (false && decide (n % 18446744073709551616 ≥ 9223372036854775808)) = true then n % 18446744073709551616 - 18446744073709551616 else n % 18446744073709551616) = _
  simp only [Bool.false_and, Bool.false_eq_true, if_false]
theorem wrapB (n : Int) : IntKind.wrap .u8 n = n % 256 := by
  show (if (false && decide (n % 256 ≥ 128)) = true then n % 256 - 256 else n % 256) = _
  simp only [Bool.false_and, Bool.false_eq_true, if_false]
theorem ofInt64 (n : Nat) (h : n < 18446744073709551616) : (BitVec.ofInt 64 ((n : Nat) : Int)).toNat = n := by
  rw [BitVec.toNat_ofInt]
  show ((n : Int) % 18446744073709551616).toNat = n
  omega
/-- A number of either sign, as one of none. -/
def zz (n : Int) : Nat := if 0 ≤ n then (2 * n).toNat else (-2 * n - 1).toNat
def unzz (u : Nat) : Int := if u % 2 = 0 then ((u / 2 : Nat) : Int) else -((u / 2 : Nat) : Int) - 1
def inR (n : Int) : Bool := decide (-9223372036854775808 ≤ n ∧ n ≤ 9223372036854775807)
theorem zz_lt {n : Int} (h : inR n = true) : zz n < 18446744073709551616 := by
  have h := of_decide_eq_true h
  unfold zz
  split <;> omega
theorem unzz_zz (n : Int) : unzz (zz n) = n := by
  unfold unzz zz
  split <;> split <;> omega
theorem inR_wrap (n : Int) : inR (IntKind.wrap .i64 n) = true := by
  refine decide_eq_true ?_
  rw [wrapS]
  split <;> omega
theorem zig {n : Int} (h : inR n = true) : IntKind.wrap .u64 ((((BitVec.ofInt 64 (IntKind.wrap .u64 ((IntKind.wrap .u64 n) * 2 ^ 1)) ^^^ BitVec.ofInt 64 (IntKind.wrap .u64 (Int.fdiv n (2 ^ 63)))).toNat : Nat) : Int)) = ((zz n : Nat) : Int) := by
  have hz := zz_lt h
  have h := of_decide_eq_true h
  have hf : Int.fdiv n (2 ^ 63) = n / 9223372036854775808 := by
    rw [Int.fdiv_eq_ediv_of_nonneg _ (by decide)]; rfl
  rw [hf]
  by_cases h0 : 0 ≤ n
  · rw [show n / 9223372036854775808 = 0 by omega, show BitVec.ofInt 64 (IntKind.wrap .u64 0) = 0#64 from rfl, BitVec.xor_zero]
    have e : IntKind.wrap .u64 ((IntKind.wrap .u64 n) * 2 ^ 1) = ((zz n : Nat) : Int) := by
      rw [wrapU, wrapU, show (2 : Int) ^ 1 = 2 from rfl]
      unfold zz; rw [if_pos h0]; omega
    rw [e, ofInt64 _ hz, wrapU]
    omega
  · rw [show n / 9223372036854775808 = -1 by omega, show BitVec.ofInt 64 (IntKind.wrap .u64 (-1)) = BitVec.allOnes 64 from rfl, BitVec.xor_allOnes, BitVec.toNat_not]
    have e : IntKind.wrap .u64 ((IntKind.wrap .u64 n) * 2 ^ 1) = ((18446744073709551615 - zz n : Nat) : Int) := by
      rw [wrapU, wrapU, show (2 : Int) ^ 1 = 2 from rfl]
      unfold zz at *; rw [if_neg h0] at *; omega
    rw [e, ofInt64 _ (by omega), wrapU, show (2 : Nat) ^ 64 = 18446744073709551616 from rfl]
    omega
theorem zig0 {n : Int} (h : inR n = true) (h0 : ¬ n < 0) : IntKind.wrap .u64 ((IntKind.wrap .u64 n) * 2 ^ 1) = ((zz n : Nat) : Int) := by
  have h := of_decide_eq_true h
  rw [wrapU, wrapU, show (2 : Int) ^ 1 = 2 from rfl]
  unfold zz; rw [if_pos (by omega)]; omega
theorem zig1 {n : Int} (h : inR n = true) (h0 : n < 0) : IntKind.wrap .u64 ((((BitVec.ofInt 64 (18446744073709551615) ^^^ BitVec.ofInt 64 (IntKind.wrap .u64 ((IntKind.wrap .u64 n) * 2 ^ 1))).toNat : Nat) : Int)) = ((zz n : Nat) : Int) := by
  have hz := zz_lt h
  have h := of_decide_eq_true h
  have e : IntKind.wrap .u64 ((IntKind.wrap .u64 n) * 2 ^ 1) = ((18446744073709551615 - zz n : Nat) : Int) := by
    rw [wrapU, wrapU, show (2 : Int) ^ 1 = 2 from rfl]
    unfold zz at *; rw [if_neg (by omega)] at *; omega
  rw [e, show BitVec.ofInt 64 (18446744073709551615) = BitVec.allOnes 64 from rfl, BitVec.allOnes_xor, BitVec.toNat_not, ofInt64 _ (by omega), wrapU, show (2 : Nat) ^ 64 = 18446744073709551616 from rfl]
  omega
/-- A number's bytes. -/
def nb (u : Nat) : List Int := if u < 128 then [((u : Nat) : Int)] else ((u % 128 + 128 : Nat) : Int) :: nb (u / 128)
termination_by u
decreasing_by omega
theorem nb_len : ∀ (k u : Nat), u < 128 ^ k → 0 < k → 0 < (nb u).length ∧ (nb u).length ≤ k
  | 0, u, _, h => absurd h (by omega)
  | k + 1, u, h, _ => by
    rw [nb]
    by_cases hu : u < 128
    · rw [if_pos hu]; simp
    · rw [if_neg hu]
      have h2 : u / 128 < 128 ^ k := by rw [Nat.pow_succ] at h; omega
      have hk : 0 < k := by
        rcases Nat.eq_zero_or_pos k with rfl | h3
        · simp at h2; omega
        · exact h3
      have := nb_len k (u / 128) h2 hk
      simp; omega
theorem nb_len10 {u : Nat} (h : u < 18446744073709551616) : 0 < (nb u).length ∧ (nb u).length ≤ 10 := nb_len 10 u (Nat.lt_of_lt_of_le h (by decide)) (by omega)
theorem nb_bytes : ∀ (k u : Nat), u < 128 ^ k → ∀ x ∈ nb u, 0 ≤ x ∧ x ≤ 255
  | 0, u, h => by
    intro x hx
    have : u = 0 := by simp at h; exact h
    subst this
    rw [nb] at hx
    simp at hx; omega
  | k + 1, u, h => by
    intro x hx
    rw [nb] at hx
    by_cases hu : u < 128
    · rw [if_pos hu] at hx; simp at hx; omega
    · rw [if_neg hu] at hx
      have h2 : u / 128 < 128 ^ k := by rw [Nat.pow_succ] at h; omega
      rcases List.mem_cons.1 hx with rfl | hx
      · omega
      · exact nb_bytes k _ h2 x hx
theorem or_all : ∀ k, k < 256 → (BitVec.ofInt 8 ((k : Nat) : Int) ||| BitVec.ofInt 8 128).toNat = k % 128 + 128 := by decide +kernel
theorem and_all : ∀ k, k < 256 → (BitVec.ofInt 8 ((k : Nat) : Int) &&& BitVec.ofInt 8 127).toNat = k % 128 := by decide +kernel
theorem or8 (u : Nat) : IntKind.wrap .u8 ((((BitVec.ofInt 8 (IntKind.wrap .u8 ((u : Nat) : Int)) ||| BitVec.ofInt 8 (128)).toNat : Nat) : Int)) = ((u % 128 + 128 : Nat) : Int) := by
  have e : IntKind.wrap .u8 ((u : Nat) : Int) = ((u % 256 : Nat) : Int) := by rw [wrapB]; omega
  rw [e, or_all _ (by omega), wrapB]
  omega
theorem or8b (u : Nat) (h : u < 18446744073709551616) : IntKind.wrap .u8 ((((BitVec.ofInt 8 (IntKind.wrap .u8 (IntKind.wrap .u64 ((((BitVec.ofInt 64 ((u : Nat) : Int) &&& BitVec.ofInt 64 (127)).toNat : Nat) : Int)))) ||| BitVec.ofInt 8 (128)).toNat : Nat) : Int)) = ((u % 128 + 128 : Nat) : Int) := by
  have e : (BitVec.ofInt 64 ((u : Nat) : Int) &&& BitVec.ofInt 64 (127)).toNat = u % 128 := by
    rw [BitVec.toNat_and, ofInt64 u h, show (BitVec.ofInt 64 (127)).toNat = 2 ^ 7 - 1 from rfl, Nat.and_two_pow_sub_one_eq_mod]
  rw [e, show IntKind.wrap .u64 (((u % 128 : Nat)) : Int) = ((u % 128 : Nat) : Int) by rw [wrapU]; omega, or8]
  omega
theorem fdiv7 (u : Nat) : Int.fdiv ((u : Nat) : Int) (2 ^ 7) = ((u / 128 : Nat) : Int) := by
  rw [Int.fdiv_eq_ediv_of_nonneg _ (by decide)]; show (u : Int) / 128 = _; omega
/-- Ints as bytes. -/
def numG : List Int → List Int
  | [] => []
  | n :: ns => nb (zz n) ++ numG ns
def numPre (ns : List Int) : Bool := decide (ns.length ≤ 100000 ∧ ∀ n ∈ ns, inR n = true)
theorem pow_le7 {i : Nat} (h : i ≤ 8) : 2 ^ (7 * i) ≤ 72057594037927936 := Nat.le_trans (Nat.pow_le_pow_right (by omega) (show 7 * i ≤ 56 by omega)) (by decide)
theorem orstep {u i : Nat} {x : Int} (hu : u < 2 ^ (7 * i)) (hx0 : 0 ≤ x) (hx1 : x ≤ 255) (h : i ≤ 8 ∨ (i = 9 ∧ x ≤ 1)) :
    IntKind.wrap .u64 ((((BitVec.ofInt 64 ((u : Nat) : Int) ||| BitVec.ofInt 64 (IntKind.wrap .u64 ((IntKind.wrap .u64 (IntKind.wrap .u8 ((((BitVec.ofInt 8 x &&& BitVec.ofInt 8 (127)).toNat : Nat) : Int)))) * 2 ^ (min (Int.toNat (IntKind.wrap .i64 ((7) * ((i : Nat) : Int)))) 64)))).toNat : Nat) : Int)) = ((u + x.toNat % 128 * 2 ^ (7 * i) : Nat) : Int) := by
  obtain ⟨k, rfl⟩ : ∃ k : Nat, x = k := ⟨x.toNat, by omega⟩
  have hP : 2 ^ (7 * i) ≤ 9223372036854775808 := Nat.le_trans (Nat.pow_le_pow_right (by omega) (show 7 * i ≤ 63 by omega)) (by decide)
  have hq : k % 128 * 2 ^ (7 * i) + 2 ^ (7 * i) ≤ 18446744073709551616 := by
    have : k % 128 * 2 ^ (7 * i) + 2 ^ (7 * i) = (k % 128 + 1) * 2 ^ (7 * i) := by rw [Nat.add_mul]; omega
    rw [this]
    rcases h with h | ⟨h, hx⟩
    · have h1 := pow_le7 h
      have : (k % 128 + 1) * 2 ^ (7 * i) ≤ 128 * 72057594037927936 := Nat.mul_le_mul (by omega) h1
      omega
    · have : (k % 128 + 1) * 2 ^ (7 * i) ≤ 2 * 9223372036854775808 := Nat.mul_le_mul (by omega) hP
      omega
  rw [and_all k (by omega), Int.toNat_natCast]
  have e1 : IntKind.wrap .u64 (IntKind.wrap .u8 (((k % 128 : Nat)) : Int)) = ((k % 128 : Nat) : Int) := by rw [wrapU, wrapB]; omega
  have e2 : min (Int.toNat (IntKind.wrap .i64 ((7) * ((i : Nat) : Int)))) 64 = 7 * i := by
    rw [wrapS]
    have : (7 * (i : Int)) % 18446744073709551616 = 7 * i := by omega
    rw [this, if_neg (by omega)]
    omega
  have e3 : IntKind.wrap .u64 ((((k % 128 : Nat)) : Int) * 2 ^ (7 * i)) = ((k % 128 * 2 ^ (7 * i) : Nat) : Int) := by
    rw [wrapU]
    have : (((k % 128 : Nat)) : Int) * 2 ^ (7 * i) = ((k % 128 * 2 ^ (7 * i) : Nat) : Int) := by
      rw [Int.natCast_mul, Int.natCast_pow]; rfl
    rw [this]
    omega
  rw [e1, e2, e3, BitVec.toNat_or, ofInt64 u (by omega), ofInt64 _ (by omega)]
  have e4 : u ||| k % 128 * 2 ^ (7 * i) = u + k % 128 * 2 ^ (7 * i) := by
    have := Nat.two_pow_add_eq_or_of_lt hu (k % 128)
    rw [Nat.or_comm, Nat.mul_comm, ← this, Nat.add_comm]
  rw [e4, wrapU]
  omega
theorem zag {U : Nat} (h : U < 18446744073709551616) : IntKind.wrap .i64 ((((BitVec.ofInt 64 (IntKind.wrap .i64 (Int.fdiv ((U : Nat) : Int) (2 ^ 1))) ^^^ BitVec.ofInt 64 (IntKind.wrap .i64 (0 - (IntKind.wrap .i64 (IntKind.wrap .u64 ((((BitVec.ofInt 64 ((U : Nat) : Int) &&& BitVec.ofInt 64 (1)).toNat : Nat) : Int))))))).toNat : Nat) : Int)) = unzz U := by
  have hf : Int.fdiv ((U : Nat) : Int) (2 ^ 1) = ((U / 2 : Nat) : Int) := by
    rw [Int.fdiv_eq_ediv_of_nonneg _ (by decide)]; show (U : Int) / 2 = _; omega
  have ha : (BitVec.ofInt 64 ((U : Nat) : Int) &&& BitVec.ofInt 64 (1)).toNat = U % 2 := by
    rw [BitVec.toNat_and, ofInt64 U h, show (BitVec.ofInt 64 (1)).toNat = 2 ^ 1 - 1 from rfl, Nat.and_two_pow_sub_one_eq_mod]
  have hw : IntKind.wrap .i64 (((U / 2 : Nat)) : Int) = ((U / 2 : Nat) : Int) := wrap_id (by omega) (by omega)
  rw [hf, ha, hw]
  unfold unzz
  by_cases h2 : U % 2 = 0
  · rw [h2, show BitVec.ofInt 64 (IntKind.wrap .i64 (0 - (IntKind.wrap .i64 (IntKind.wrap .u64 ((0 : Nat) : Int))))) = 0#64 from rfl, BitVec.xor_zero, ofInt64 _ (by omega), if_pos rfl, hw]
  · rw [show U % 2 = 1 by omega, show BitVec.ofInt 64 (IntKind.wrap .i64 (0 - (IntKind.wrap .i64 (IntKind.wrap .u64 ((1 : Nat) : Int))))) = BitVec.allOnes 64 from rfl, BitVec.xor_allOnes, BitVec.toNat_not, ofInt64 _ (by omega), if_neg (by omega), show (2 : Nat) ^ 64 = 18446744073709551616 from rfl, wrapS]
    split <;> omega
/-- The first int of bytes: what it is, and how many there are. -/
def decG : Nat → Nat → List Int → Option (Nat × Nat)
  | _, _, [] => none
  | i, u, x :: xs => if i = 10 then none else if i = 9 ∧ x > 1 then none else if 0 < i ∧ x = 0 then none else if x < 128 then some (u + x.toNat % 128 * 2 ^ (7 * i), i + 1) else decG (i + 1) (u + x.toNat % 128 * 2 ^ (7 * i)) xs
def nextG (b : List Int) : Int × Int := match decG 0 0 b with
  | none => (0, 0)
  | some (u, k) => (unzz u, ((k : Nat) : Int))
def bytesOK (b : List Int) : Bool := decide (b.length ≤ 1000000 ∧ ∀ x ∈ b, 0 ≤ x ∧ x ≤ 255)
theorem decG_lt : ∀ (b : List Int) (i u : Nat) (r : Nat × Nat), decG i u b = some r → r.2 ≤ i + b.length ∧ i < r.2
  | [], i, u, r, h => by cases h
  | x :: xs, i, u, r, h => by
    unfold decG at h
    split at h
    · cases h
    · split at h
      · cases h
      · split at h
        · cases h
        · split at h
          · cases h; simp
          · have := decG_lt xs _ _ r h
            simp; omega
theorem nextG_bound (b : List Int) : 0 ≤ (nextG b).2 ∧ (nextG b).2 ≤ b.length := by
  unfold nextG
  split
  · simp
  · rename_i u k h
    have := decG_lt b 0 0 _ h
    simp only at this ⊢
    omega
theorem decG_nb : ∀ (k v i u : Nat) (rest : List Int), v < 128 ^ k → 0 < k → i + k ≤ 10 → (i + k = 10 → v < 2 * 128 ^ (k - 1)) → (0 < i → 0 < v) → decG i u (nb v ++ rest) = some (u + v * 2 ^ (7 * i), i + (nb v).length)
  | 0, v, i, u, rest, _, h, _, _, _ => absurd h (by omega)
  | k + 1, v, i, u, rest, h, _, h1, h2, h3 => by
    rw [nb]
    by_cases hv : v < 128
    · rw [if_pos hv]
      simp only [List.singleton_append, decG, List.length_singleton]
      rw [if_neg (by omega), if_neg ?_, if_neg (by omega), if_pos (by omega)]
      · rw [Int.toNat_natCast, Nat.mod_eq_of_lt hv]
      · rintro ⟨h4, h5⟩
        have h6 : k = 0 := by omega
        subst h6
        have := h2 (by omega)
        simp at this
        omega
    · rw [if_neg hv]
      simp only [List.cons_append, decG, List.length_cons]
      have hk : 0 < k := by
        rcases Nat.eq_zero_or_pos k with rfl | h4
        · simp at h; omega
        · exact h4
      rw [if_neg (by omega), if_neg (by omega), if_neg (by omega), if_neg (by omega)]
      have e1 : v / 128 < 128 ^ k := by rw [Nat.pow_succ] at h; omega
      have e2 : i + 1 + k = 10 → v / 128 < 2 * 128 ^ (k - 1) := by
        intro h4
        have := h2 (by omega)
        rw [Nat.add_sub_cancel] at this
        obtain ⟨j, rfl⟩ : ∃ j, k = j + 1 := ⟨k - 1, by omega⟩
        rw [Nat.pow_succ] at this
        rw [Nat.add_sub_cancel]
        omega
      rw [decG_nb k (v / 128) (i + 1) _ rest e1 hk (by omega) e2 (fun _ => by omega)]
      have e3 : Int.toNat (((v % 128 + 128 : Nat)) : Int) % 128 = v % 128 := by rw [Int.toNat_natCast]; omega
      have e4 : 2 ^ (7 * (i + 1)) = 128 * 2 ^ (7 * i) := by rw [show 7 * (i + 1) = 7 * i + 7 by omega, Nat.pow_add, Nat.mul_comm]
      rw [e3, e4]
      have e5 : v = v % 128 + 128 * (v / 128) := by omega
      have e6 : v * 2 ^ (7 * i) = v % 128 * 2 ^ (7 * i) + v / 128 * (128 * 2 ^ (7 * i)) := by
        conv => lhs; rw [e5]
        rw [Nat.add_mul, ← Nat.mul_assoc, Nat.mul_comm 128 (v / 128)]
      rw [e6]
      simp only [Option.some.injEq, Prod.mk.injEq]
      omega
theorem next_nb {n : Int} (h : inR n = true) (rest : List Int) : nextG (nb (zz n) ++ rest) = (n, (((nb (zz n)).length : Nat) : Int)) := by
  have hz := zz_lt h
  unfold nextG
  rw [decG_nb 10 (zz n) 0 0 rest (Nat.lt_of_lt_of_le hz (by decide)) (by omega) (by omega) (fun _ => Nat.lt_of_lt_of_le hz (by decide)) (by omega)]
  simp only [Nat.mul_zero, Nat.pow_zero, Nat.mul_one, Nat.zero_add, unzz_zz]
theorem num_loop1 (m : Nat) (x0 : List Int) (s8 s9 : Int) : ∀ (n u : Nat) (b : List Int), u < 128 ^ n → b.length + n ≤ 70000000000000 → ∃ s b', l11_1 m (n + 1) x0 s8 s9 ((u : Nat) : Int) b = some (0, ((s : Nat) : Int), b') ∧ s < 128 ∧ b' ++ [((s : Nat) : Int)] = b ++ nb u
  | 0, u, b, h, _ => by
    have : u = 0 := by simp at h; exact h
    subst this
    rw [l11_1, nb]
    exact ⟨0, b, rfl, by omega, rfl⟩
  | n + 1, u, b, h, hb => by
    rw [l11_1, nb]
    by_cases hu : u < 128
    · have e1 : decide (((u : Nat) : Int) ≥ 128) = false := decide_eq_false (by omega)
      rw [e1, if_neg (by simp), if_pos hu]
      exact ⟨u, b, rfl, hu, rfl⟩
    · have e1 : decide (((u : Nat) : Int) ≥ 128) = true := decide_eq_true (by omega)
      have e2 : decide ((((List.length b) + 1) * 1) ≤ 70368744177664) = true := decide_eq_true (by omega)
      rw [if_pos e1, if_pos e2, if_neg hu, fdiv7, or8]
      obtain ⟨s, b', h1, h2, h3⟩ := num_loop1 m x0 s8 s9 n (u / 128) (b ++ [((u % 128 + 128 : Nat) : Int)]) (by rw [Nat.pow_succ] at h; omega) (by simp; omega)
      exact ⟨s, b', h1, h2, by rw [h3]; simp⟩
theorem pow24 (m u : Nat) (h : u < 18446744073709551616) : u < 128 ^ (m + 23) := Nat.lt_of_lt_of_le h (Nat.le_trans (by decide) (Nat.pow_le_pow_right (by omega) (show 10 ≤ m + 23 by omega)))
theorem numG_len : ∀ (ns : List Int), (∀ n ∈ ns, inR n = true) → ns.length ≤ (numG ns).length ∧ (numG ns).length ≤ 10 * ns.length
  | [], _ => by simp [numG]
  | n :: ns, h => by
    have h1 := nb_len10 (zz_lt (h n (List.mem_cons_self ..)))
    have h2 := numG_len ns fun x hx => h x (List.mem_cons_of_mem _ hx)
    simp only [numG, List.length_append, List.length_cons]
    omega
theorem num_loop0 (m : Nat) (hm : m ≤ 100000) (x0 : List Int) (hx : x0.length ≤ 100000) (hr : ∀ n ∈ x0, inR n = true) : ∀ (n k : Nat) (b : List Int), k ≤ x0.length → x0.length - k < n → b.length ≤ 10 * k → ∃ s, l11_0 m n x0 (x0.length : Nat) (k : Nat) b = some (0, s, b ++ numG (x0.drop k))
  | 0, k, b, _, h, _ => by omega
  | n + 1, k, b, h1, h2, h3 => by
    rw [l11_0]
    by_cases hk : k < x0.length
    · have e1 : decide (((k : Nat) : Int) < (((List.length x0) : Nat) : Int)) = true := decide_eq_true (by omega)
      have e2 : decide ((0 : Int) ≤ ((k : Nat) : Int)) = true := decide_eq_true (by omega)
      have e7 : IntKind.wrap .i64 (((k : Nat) : Int) + (1)) = ((k + 1 : Nat) : Int) := by rw [wrap_id (by omega) (by omega)]; rfl
      have hin := hr _ (getD_mem x0 k 0 hk)
      rw [drop_getD x0 k 0 hk, show Int.toNat ((k : Nat) : Int) = k from rfl, e7, if_pos e1, if_pos e2, if_pos e1]
      generalize x0.getD k 0 = v at hin ⊢
      have hz := zz_lt hin
      have hl := nb_len10 hz
      rw [zig hin]
      obtain ⟨s, b', g1, g2, g3⟩ := num_loop1 m x0 (x0.length : Nat) (k : Nat) (m + 23) (zz v) b (pow24 m _ hz) (by omega)
      have gl : b'.length + 1 = b.length + (nb (zz v)).length := by
        have := congrArg List.length g3
        simpa using this
      have e3 : decide ((((List.length b') + 1) * 1) ≤ 70368744177664) = true := decide_eq_true (by omega)
      have e4 : IntKind.wrap .u8 ((s : Nat) : Int) = ((s : Nat) : Int) := by rw [wrapB]; omega
      simp only [l11_1R, g1, Option.isSome_some, Option.getD_some, e3, e4, ↓reduceIte]
      rw [g3]
      obtain ⟨j, hj⟩ := num_loop0 m hm x0 hx hr n (k + 1) (b ++ nb (zz v)) (by omega) (by omega) (by rw [List.length_append]; omega)
      exact ⟨j, by rw [hj]; simp [numG]⟩
    · have e1 : decide (((k : Nat) : Int) < (((List.length x0) : Nat) : Int)) = false := decide_eq_false (by omega)
      rw [e1, if_neg (by simp), List.drop_eq_nil_of_le (by omega)]
      exact ⟨((k : Nat) : Int), by simp [numG]⟩
theorem num11 (ns : List Int) (h : numPre ns = true) : ∃ m, p11 m ns = some (numG ns) := by
  have ⟨h1, h2⟩ := of_decide_eq_true h
  refine ⟨ns.length, ?_⟩
  obtain ⟨s, hs⟩ := num_loop0 ns.length h1 ns h1 h2 (ns.length + 24) 0 [] (by omega) (by omega) (by simp)
  simp only [Int.natCast_zero, List.drop_zero, List.nil_append] at hs
  unfold p11 l11_0R
  rw [hs]
  simp
def s11 : List AV → Boxes → M (AV × Boxes) := normS [.val (.sl (.int .i64))] [] fun xs B => match xs, B with
  | [(.d (.sl (.int .i64) c1))], [] => .chk (numPre c1) (.ret ((.sr 0 0 (List.length (numG c1)) 1 none), [(.arr (.int .u8) (numG c1) true)]))
  | _, _ => .fail
theorem s11_at : CallAt Try.prog 11 s11 := by
  refine CallAt.norm (CallAt.weakC (g := fun n xs B => padM (.int .u8) 0 (evCall F S7 n 11 xs B)) (fun n => CallAt.pad (.int .u8) 0 (evCall_atH mixed kinds hds S7 S7_ok n 11)) fun xs B r' B' hr => ?_) _ _
  split at hr
  · rename_i c1
    obtain ⟨hp, hr⟩ := (M.run_chk _ _ _).1 hr
    simp only [M.run, Option.some.injEq, Prod.mk.injEq] at hr
    obtain ⟨rfl, rfl⟩ := hr
    obtain ⟨m, hm⟩ := num11 c1 hp
    obtain ⟨r, B1, r1, B2, h1, h2, h3, h4, h5, h6⟩ := p11_ok m c1 _ hm
    exact ⟨m + 25, r, B1, r1, B2, h1, by simp, h2, h3, h4, h5, h6⟩
  · simp [M.run] at hr
noncomputable def S8 : FuncId → Option (List AV → Boxes → M (AV × Boxes)) := fun f => if f = 11 then some s11 else S7 f
set_option maxHeartbeats 20000000 in
theorem S8_ok : ∀ f s, S8 f = some s → CallAt Try.prog f s := by
  intro f s h
  unfold S8 at h
  split at h
  · rename_i e; subst e; cases h; exact s11_at
  · exact S7_ok f s h

noncomputable def fn17 : AFn := (F 17).getD ⟨0, [], .bad, false, false, noHd⟩
noncomputable def body17 : AC := fn17.body
def l17_0 (m : Nat) : Nat → Int → List Int → Option (Nat × Int × (List Int))
  | 0, _, _ => none
  | n + 1, s3, b0 => if decide (s3 > 127) = true then
      if decide ((((List.length b0) + 1) * 1) ≤ 70368744177664) = true then
        l17_0 m n ((Int.fdiv s3 (2 ^ 7))) ((b0 ++ [(IntKind.wrap .u8 ((((BitVec.ofInt 8 (IntKind.wrap .u8 (IntKind.wrap .u64 ((((BitVec.ofInt 64 s3 &&& BitVec.ofInt 64 (127)).toNat : Nat) : Int)))) ||| BitVec.ofInt 8 (128)).toNat : Nat) : Int)))]))
      else
        none
    else
      some (0, s3, b0)
def l17_0D : Nat × Int × (List Int) := (0, 0, [])
@[reducible] def l17_0R (m n : Nat) (s3 : Int) (b0 : List Int) : Nat × Int × (List Int) := Option.getD (l17_0 m n s3 b0) l17_0D
def l17_0H (s3 : Int) (b0 : List Int) : Env := [.top, .top, .top, (.d (.int .u64 s3)), (.sr 0 0 (List.length b0) 1 none), .top, .top, .top, .top, .top, .top, .top, .top, .top, .top, .top, .top, .top, .top, .top, .top, .top, .top, .top, .top, .top, .top, .top]
def l17_0B (s3 : Int) (b0 : List Int) : Boxes := [(.arr (.int .u8) b0 true)]
def l17_0E (s3 : Int) (b0 : List Int) : Nat → AEx × Env × Boxes
  | _ => (.exit 0, [.top, .top, .top, (.d (.int .u64 s3)), (.sr 0 0 (List.length b0) 1 none), .top, .top, .top, .top, .top, .top, .top, (.d (.int .u64 s3)), (.d (.bool (decide (s3 > 127)))), .top, .top, .top, .top, .top, .top, .top, .top, .top, .top, .top, .top, .top, .top], [(.arr (.int .u8) b0 true)])
noncomputable def lbl17_0 : AC := loopBody 24 body17

set_option maxHeartbeats 20000000 in
theorem l17_0_w0 (m n : Nat) (s3 : Int) (b0 : List Int) (r : AEx × Env × Boxes) (c0 : decide (s3 > 127) = true) (c2 : decide ((((List.length b0) + 1) * 1) ≤ 70368744177664) = true) (ih : (turns (hds 17 24) 0 24 (evC byref (evCall F S8 (m + 24)) (m + 24) 0 (hds 17) lbl17_0) n (l17_0H ((Int.fdiv s3 (2 ^ 7))) ((b0 ++ [(IntKind.wrap .u8 ((((BitVec.ofInt 8 (IntKind.wrap .u8 (IntKind.wrap .u64 ((((BitVec.ofInt 64 s3 &&& BitVec.ofInt 64 (127)).toNat : Nat) : Int)))) ||| BitVec.ofInt 8 (128)).toNat : Nat) : Int)))]))) (l17_0B ((Int.fdiv s3 (2 ^ 7))) ((b0 ++ [(IntKind.wrap .u8 ((((BitVec.ofInt 8 (IntKind.wrap .u8 (IntKind.wrap .u64 ((((BitVec.ofInt 64 s3 &&& BitVec.ofInt 64 (127)).toNat : Nat) : Int)))) ||| BitVec.ofInt 8 (128)).toNat : Nat) : Int)))])))).run = some r) : (turns (hds 17 24) 0 24 (evC byref (evCall F S8 (m + 24)) (m + 24) 0 (hds 17) lbl17_0) (n + 1) (l17_0H s3 b0) (l17_0B s3 b0)).run = some r := by
  have ht : (turn (hds 17 24) 0 24 (evC byref (evCall F S8 (m + 24)) (m + 24) 0 (hds 17) lbl17_0) (l17_0H s3 b0) (l17_0B s3 b0)).run = some (.normal, [.top, .top, .top, (.d (.int .u64 (Int.fdiv s3 (2 ^ 7)))), (.sr 0 0 ((List.length b0) + 1) 1 none), .top, .top, .top, .top, .top, .top, .top, .top, .top, .top, .top, .top, .top, .top, .top, .top, .top, .top, .top, .top, .top, .top, .top], [(.arr (.int .u8) (b0 ++ [(IntKind.wrap .u8 ((((BitVec.ofInt 8 (IntKind.wrap .u8 (IntKind.wrap .u64 ((((BitVec.ofInt 64 s3 &&& BitVec.ofInt 64 (127)).toNat : Nat) : Int)))) ||| BitVec.ofInt 8 (128)).toNat : Nat) : Int)))]) true)]) := M.run_of_path _ [true, true, true, true, true] _ _ (by kernel_rfl) (all_t c0 (all_t rfl (all_t c2 (all_t (show decide ((List.length b0) = (List.length b0)) = true from decide_eq_true rfl) (all_t rfl all_nil)))))
  refine turns_step ht (turns_eq ?_ ?_ ih)
  · unfold l17_0H
    first | (simp; done) | (simp [Nat.add_assoc]; done)
  · unfold l17_0B
    simp
set_option maxHeartbeats 20000000 in
theorem l17_0_w1 (m n : Nat) (s3 : Int) (b0 : List Int) (c0 : ¬ decide (s3 > 127) = true) : (turns (hds 17 24) 0 24 (evC byref (evCall F S8 (m + 24)) (m + 24) 0 (hds 17) lbl17_0) (n + 1) (l17_0H s3 b0) (l17_0B s3 b0)).run = some (.exit 0, [.top, .top, .top, (.d (.int .u64 s3)), (.sr 0 0 (List.length b0) 1 none), .top, .top, .top, .top, .top, .top, .top, (.d (.int .u64 s3)), (.d (.bool (decide (s3 > 127)))), .top, .top, .top, .top, .top, .top, .top, .top, .top, .top, .top, .top, .top, .top], [(.arr (.int .u8) b0 true)]) := by
  exact turns_last (by simp) (M.run_of_path _ [false] _ _ (by kernel_rfl) (all_f c0 all_nil)) 

set_option maxHeartbeats 20000000 in
theorem l17_0_step (m n : Nat) (ih : ∀ (s3 : Int) (b0 : List Int) (q : Nat × Int × (List Int)), l17_0 m n s3 b0 = some q → (turns (hds 17 24) 0 24 (evC byref (evCall F S8 (m + 24)) (m + 24) 0 (hds 17) lbl17_0) n (l17_0H s3 b0) (l17_0B s3 b0)).run = some (l17_0E (q.2.1) (q.2.2) q.1)) (s3 : Int) (b0 : List Int) (q : Nat × Int × (List Int)) (h : l17_0 m (n + 1) s3 b0 = some q) : (turns (hds 17 24) 0 24 (evC byref (evCall F S8 (m + 24)) (m + 24) 0 (hds 17) lbl17_0) (n + 1) (l17_0H s3 b0) (l17_0B s3 b0)).run = some (l17_0E (q.2.1) (q.2.2) q.1) := by
  rw [l17_0] at h
  refine ite_cases h (fun c0 h => ?_) (fun c0 h => ?_)
  · skip
    refine ite_cases h (fun c2 h => ?_) (fun c2 h => ?_)
    · skip
      exact l17_0_w0 m n s3 b0 _ c0 c2 (ih _ _ q h)
    · skip
      cases h
  · skip
    cases h
    exact l17_0_w1 m n s3 b0 c0
set_option maxHeartbeats 20000000 in
theorem l17_0_ok (m : Nat) : ∀ (n : Nat) (s3 : Int) (b0 : List Int) (q : Nat × Int × (List Int)), l17_0 m n s3 b0 = some q → (turns (hds 17 24) 0 24 (evC byref (evCall F S8 (m + 24)) (m + 24) 0 (hds 17) lbl17_0) n (l17_0H s3 b0) (l17_0B s3 b0)).run = some (l17_0E (q.2.1) (q.2.2) q.1)
  | 0, s3, b0, q, h => by cases h
  | n + 1, s3, b0, q, h => l17_0_step m n (l17_0_ok m n) s3 b0 q h

def p17 (m : Nat) (x0 : Int) : Option ((List Int)) :=
  if decide (x0 < 0) = true then
    if (Option.isSome (l17_0 m (m + 24) ((IntKind.wrap .u64 ((((BitVec.ofInt 64 (18446744073709551615) ^^^ BitVec.ofInt 64 (IntKind.wrap .u64 ((IntKind.wrap .u64 x0) * 2 ^ 1))).toNat : Nat) : Int)))) (([] : List Int)))) = true then
      if decide ((((List.length (l17_0R m (m + 24) ((IntKind.wrap .u64 ((((BitVec.ofInt 64 (18446744073709551615) ^^^ BitVec.ofInt 64 (IntKind.wrap .u64 ((IntKind.wrap .u64 x0) * 2 ^ 1))).toNat : Nat) : Int)))) (([] : List Int))).2.2) + 1) * 1) ≤ 70368744177664) = true then
        some (((l17_0R m (m + 24) ((IntKind.wrap .u64 ((((BitVec.ofInt 64 (18446744073709551615) ^^^ BitVec.ofInt 64 (IntKind.wrap .u64 ((IntKind.wrap .u64 x0) * 2 ^ 1))).toNat : Nat) : Int)))) (([] : List Int))).2.2 ++ [(IntKind.wrap .u8 (l17_0R m (m + 24) ((IntKind.wrap .u64 ((((BitVec.ofInt 64 (18446744073709551615) ^^^ BitVec.ofInt 64 (IntKind.wrap .u64 ((IntKind.wrap .u64 x0) * 2 ^ 1))).toNat : Nat) : Int)))) (([] : List Int))).2.1)]))
      else
        none
    else
      none
  else
    if (Option.isSome (l17_0 m (m + 24) ((IntKind.wrap .u64 ((IntKind.wrap .u64 x0) * 2 ^ 1))) (([] : List Int)))) = true then
      if decide ((((List.length (l17_0R m (m + 24) ((IntKind.wrap .u64 ((IntKind.wrap .u64 x0) * 2 ^ 1))) (([] : List Int))).2.2) + 1) * 1) ≤ 70368744177664) = true then
        some (((l17_0R m (m + 24) ((IntKind.wrap .u64 ((IntKind.wrap .u64 x0) * 2 ^ 1))) (([] : List Int))).2.2 ++ [(IntKind.wrap .u8 (l17_0R m (m + 24) ((IntKind.wrap .u64 ((IntKind.wrap .u64 x0) * 2 ^ 1))) (([] : List Int))).2.1)]))
      else
        none
    else
      none
set_option maxHeartbeats 20000000 in
theorem p17_ok (m : Nat) (x0 : Int) (q : (List Int)) (h : p17 m x0 = some q) : ∃ r B1 r1 B2, (padM (.int .u8) 0 (evCall F S8 (m + 25) 17 [(.d (.int .i64 x0))] [])).run = some (r, B1) ∧ 0 ≤ B2.length ∧ B2.length ≤ B1.length ∧ wkR B1 B2 r r1 ∧ wkBs B1 B2 0 B2 ∧ (compact 0 [r1] B2).run = some ([(.sr 0 0 (List.length q) 1 none)], [(.arr (.int .u8) q true)]) := by
  unfold p17 at h
  refine ite_cases h (fun c1 h => ?_) (fun c1 h => ?_)
  · skip
    refine ite_cases h (fun c2 h => ?_) (fun c2 h => ?_)
    · skip
      refine ite_cases h (fun c4 h => ?_) (fun c4 h => ?_)
      · skip
        cases h
        refine ⟨(.sr 0 0 ((List.length (l17_0R m (m + 24) ((IntKind.wrap .u64 ((((BitVec.ofInt 64 (18446744073709551615) ^^^ BitVec.ofInt 64 (IntKind.wrap .u64 ((IntKind.wrap .u64 x0) * 2 ^ 1))).toNat : Nat) : Int)))) (([] : List Int))).2.2) + 1) 1 none), [(.arr (.int .u8) ((l17_0R m (m + 24) ((IntKind.wrap .u64 ((((BitVec.ofInt 64 (18446744073709551615) ^^^ BitVec.ofInt 64 (IntKind.wrap .u64 ((IntKind.wrap .u64 x0) * 2 ^ 1))).toNat : Nat) : Int)))) (([] : List Int))).2.2 ++ [(IntKind.wrap .u8 (l17_0R m (m + 24) ((IntKind.wrap .u64 ((((BitVec.ofInt 64 (18446744073709551615) ^^^ BitVec.ofInt 64 (IntKind.wrap .u64 ((IntKind.wrap .u64 x0) * 2 ^ 1))).toNat : Nat) : Int)))) (([] : List Int))).2.1)]) true)], (.sr 0 0 (List.length ((l17_0R m (m + 24) ((IntKind.wrap .u64 ((((BitVec.ofInt 64 (18446744073709551615) ^^^ BitVec.ofInt 64 (IntKind.wrap .u64 ((IntKind.wrap .u64 x0) * 2 ^ 1))).toNat : Nat) : Int)))) (([] : List Int))).2.2 ++ [(IntKind.wrap .u8 (l17_0R m (m + 24) ((IntKind.wrap .u64 ((((BitVec.ofInt 64 (18446744073709551615) ^^^ BitVec.ofInt 64 (IntKind.wrap .u64 ((IntKind.wrap .u64 x0) * 2 ^ 1))).toNat : Nat) : Int)))) (([] : List Int))).2.1)])) 1 none), [(.arr (.int .u8) ((l17_0R m (m + 24) ((IntKind.wrap .u64 ((((BitVec.ofInt 64 (18446744073709551615) ^^^ BitVec.ofInt 64 (IntKind.wrap .u64 ((IntKind.wrap .u64 x0) * 2 ^ 1))).toNat : Nat) : Int)))) (([] : List Int))).2.2 ++ [(IntKind.wrap .u8 (l17_0R m (m + 24) ((IntKind.wrap .u64 ((((BitVec.ofInt 64 (18446744073709551615) ^^^ BitVec.ofInt 64 (IntKind.wrap .u64 ((IntKind.wrap .u64 x0) * 2 ^ 1))).toNat : Nat) : Int)))) (([] : List Int))).2.1)]) true)], padM_run rfl (runT_ok (LS := (fun k => if k = 24 then some (l17_0E ((l17_0R m (m + 24) ((IntKind.wrap .u64 ((((BitVec.ofInt 64 (18446744073709551615) ^^^ BitVec.ofInt 64 (IntKind.wrap .u64 ((IntKind.wrap .u64 x0) * 2 ^ 1))).toNat : Nat) : Int)))) (([] : List Int))).2.1) ((l17_0R m (m + 24) ((IntKind.wrap .u64 ((((BitVec.ofInt 64 (18446744073709551615) ^^^ BitVec.ofInt 64 (IntKind.wrap .u64 ((IntKind.wrap .u64 x0) * 2 ^ 1))).toNat : Nat) : Int)))) (([] : List Int))).2.2) 0) else none)) (fn := fn17) (vis := [(24, l17_0H ((IntKind.wrap .u64 ((((BitVec.ofInt 64 (18446744073709551615) ^^^ BitVec.ofInt 64 (IntKind.wrap .u64 ((IntKind.wrap .u64 x0) * 2 ^ 1))).toNat : Nat) : Int)))) (([] : List Int)), l17_0B ((IntKind.wrap .u64 ((((BitVec.ofInt 64 (18446744073709551615) ^^^ BitVec.ofInt 64 (IntKind.wrap .u64 ((IntKind.wrap .u64 x0) * 2 ^ 1))).toNat : Nat) : Int)))) (([] : List Int)))]) (r := (.sr 0 0 ((List.length (l17_0R m (m + 24) ((IntKind.wrap .u64 ((((BitVec.ofInt 64 (18446744073709551615) ^^^ BitVec.ofInt 64 (IntKind.wrap .u64 ((IntKind.wrap .u64 x0) * 2 ^ 1))).toNat : Nat) : Int)))) (([] : List Int))).2.2) + 1) 1 none)) (B' := [(.arr (.int .u8) ((l17_0R m (m + 24) ((IntKind.wrap .u64 ((((BitVec.ofInt 64 (18446744073709551615) ^^^ BitVec.ofInt 64 (IntKind.wrap .u64 ((IntKind.wrap .u64 x0) * 2 ^ 1))).toNat : Nat) : Int)))) (([] : List Int))).2.2 ++ [(IntKind.wrap .u8 (l17_0R m (m + 24) ((IntKind.wrap .u64 ((((BitVec.ofInt 64 (18446744073709551615) ^^^ BitVec.ofInt 64 (IntKind.wrap .u64 ((IntKind.wrap .u64 x0) * 2 ^ 1))).toNat : Nat) : Int)))) (([] : List Int))).2.1)]) true)]) (by kernel_rfl) rfl (by kernel_rfl) (M.run_of_path _ [true, true, true, true, true] _ _ (by kernel_rfl) (all_t rfl (all_t c1 (all_t rfl (all_t c4 (all_t (show decide ((List.length (l17_0R m (m + 24) ((IntKind.wrap .u64 ((((BitVec.ofInt 64 (18446744073709551615) ^^^ BitVec.ofInt 64 (IntKind.wrap .u64 ((IntKind.wrap .u64 x0) * 2 ^ 1))).toNat : Nat) : Int)))) (([] : List Int))).2.2) = (List.length (l17_0R m (m + 24) ((IntKind.wrap .u64 ((((BitVec.ofInt 64 (18446744073709551615) ^^^ BitVec.ofInt 64 (IntKind.wrap .u64 ((IntKind.wrap .u64 x0) * 2 ^ 1))).toNat : Nat) : Int)))) (([] : List Int))).2.2)) = true from decide_eq_true rfl) all_nil)))))) ?_) rfl, by simp, by simp, (wkR.one (wkV.one (wk1.liveE (by simp) rfl))), ⟨wkBox.arr, trivial⟩, by kernel_rfl⟩
        intro p hp p2 hq
        rcases List.mem_cons.1 hp with rfl | hp
        · skip
          have h3 := l17_0_ok m (m + 24) ((IntKind.wrap .u64 ((((BitVec.ofInt 64 (18446744073709551615) ^^^ BitVec.ofInt 64 (IntKind.wrap .u64 ((IntKind.wrap .u64 x0) * 2 ^ 1))).toNat : Nat) : Int)))) (([] : List Int)) _ (some_getD (d := l17_0D) c2)
          exact Eq.trans (Eq.mp (by kernel_rfl) h3) hq
        cases hp
      · skip
        cases h
    · skip
      cases h
  · skip
    refine ite_cases h (fun c2 h => ?_) (fun c2 h => ?_)
    · skip
      refine ite_cases h (fun c4 h => ?_) (fun c4 h => ?_)
      · skip
        cases h
        refine ⟨(.sr 0 0 ((List.length (l17_0R m (m + 24) ((IntKind.wrap .u64 ((IntKind.wrap .u64 x0) * 2 ^ 1))) (([] : List Int))).2.2) + 1) 1 none), [(.arr (.int .u8) ((l17_0R m (m + 24) ((IntKind.wrap .u64 ((IntKind.wrap .u64 x0) * 2 ^ 1))) (([] : List Int))).2.2 ++ [(IntKind.wrap .u8 (l17_0R m (m + 24) ((IntKind.wrap .u64 ((IntKind.wrap .u64 x0) * 2 ^ 1))) (([] : List Int))).2.1)]) true)], (.sr 0 0 (List.length ((l17_0R m (m + 24) ((IntKind.wrap .u64 ((IntKind.wrap .u64 x0) * 2 ^ 1))) (([] : List Int))).2.2 ++ [(IntKind.wrap .u8 (l17_0R m (m + 24) ((IntKind.wrap .u64 ((IntKind.wrap .u64 x0) * 2 ^ 1))) (([] : List Int))).2.1)])) 1 none), [(.arr (.int .u8) ((l17_0R m (m + 24) ((IntKind.wrap .u64 ((IntKind.wrap .u64 x0) * 2 ^ 1))) (([] : List Int))).2.2 ++ [(IntKind.wrap .u8 (l17_0R m (m + 24) ((IntKind.wrap .u64 ((IntKind.wrap .u64 x0) * 2 ^ 1))) (([] : List Int))).2.1)]) true)], padM_run rfl (runT_ok (LS := (fun k => if k = 24 then some (l17_0E ((l17_0R m (m + 24) ((IntKind.wrap .u64 ((IntKind.wrap .u64 x0) * 2 ^ 1))) (([] : List Int))).2.1) ((l17_0R m (m + 24) ((IntKind.wrap .u64 ((IntKind.wrap .u64 x0) * 2 ^ 1))) (([] : List Int))).2.2) 0) else none)) (fn := fn17) (vis := [(24, l17_0H ((IntKind.wrap .u64 ((IntKind.wrap .u64 x0) * 2 ^ 1))) (([] : List Int)), l17_0B ((IntKind.wrap .u64 ((IntKind.wrap .u64 x0) * 2 ^ 1))) (([] : List Int)))]) (r := (.sr 0 0 ((List.length (l17_0R m (m + 24) ((IntKind.wrap .u64 ((IntKind.wrap .u64 x0) * 2 ^ 1))) (([] : List Int))).2.2) + 1) 1 none)) (B' := [(.arr (.int .u8) ((l17_0R m (m + 24) ((IntKind.wrap .u64 ((IntKind.wrap .u64 x0) * 2 ^ 1))) (([] : List Int))).2.2 ++ [(IntKind.wrap .u8 (l17_0R m (m + 24) ((IntKind.wrap .u64 ((IntKind.wrap .u64 x0) * 2 ^ 1))) (([] : List Int))).2.1)]) true)]) (by kernel_rfl) rfl (by kernel_rfl) (M.run_of_path _ [true, false, true, true, true] _ _ (by kernel_rfl) (all_t rfl (all_f c1 (all_t rfl (all_t c4 (all_t (show decide ((List.length (l17_0R m (m + 24) ((IntKind.wrap .u64 ((IntKind.wrap .u64 x0) * 2 ^ 1))) (([] : List Int))).2.2) = (List.length (l17_0R m (m + 24) ((IntKind.wrap .u64 ((IntKind.wrap .u64 x0) * 2 ^ 1))) (([] : List Int))).2.2)) = true from decide_eq_true rfl) all_nil)))))) ?_) rfl, by simp, by simp, (wkR.one (wkV.one (wk1.liveE (by simp) rfl))), ⟨wkBox.arr, trivial⟩, by kernel_rfl⟩
        intro p hp p2 hq
        rcases List.mem_cons.1 hp with rfl | hp
        · skip
          have h3 := l17_0_ok m (m + 24) ((IntKind.wrap .u64 ((IntKind.wrap .u64 x0) * 2 ^ 1))) (([] : List Int)) _ (some_getD (d := l17_0D) c2)
          exact Eq.trans (Eq.mp (by kernel_rfl) h3) hq
        cases hp
      · skip
        cases h
    · skip
      cases h

theorem rnum_loop (m : Nat) : ∀ (n u : Nat) (b : List Int), u < 18446744073709551616 → u < 128 ^ n → b.length + n ≤ 70000000000000 → ∃ s b', l17_0 m (n + 1) ((u : Nat) : Int) b = some (0, ((s : Nat) : Int), b') ∧ s < 128 ∧ b' ++ [((s : Nat) : Int)] = b ++ nb u
  | 0, u, b, _, h, _ => by
    have : u = 0 := by simp at h; exact h
    subst this
    rw [l17_0, nb]
    exact ⟨0, b, rfl, by omega, rfl⟩
  | n + 1, u, b, h0, h, hb => by
    rw [l17_0, nb]
    by_cases hu : u < 128
    · have e1 : decide (((u : Nat) : Int) > 127) = false := decide_eq_false (by omega)
      rw [e1, if_neg (by simp), if_pos hu]
      exact ⟨u, b, rfl, hu, rfl⟩
    · have e1 : decide (((u : Nat) : Int) > 127) = true := decide_eq_true (by omega)
      have e2 : decide ((((List.length b) + 1) * 1) ≤ 70368744177664) = true := decide_eq_true (by omega)
      rw [if_pos e1, if_pos e2, if_neg hu, fdiv7, or8b u h0]
      obtain ⟨s, b', h1, h2, h3⟩ := rnum_loop m n (u / 128) (b ++ [((u % 128 + 128 : Nat) : Int)]) (by omega) (by rw [Nat.pow_succ] at h; omega) (by simp; omega)
      exact ⟨s, b', h1, h2, by rw [h3]; simp⟩
theorem rnum17 (n : Int) (h : inR n = true) : ∃ m, p17 m n = some (numG [n]) := by
  have hz := zz_lt h
  have hl := nb_len10 hz
  refine ⟨0, ?_⟩
  obtain ⟨s, b', g1, g2, g3⟩ := rnum_loop 0 23 (zz n) [] hz (pow24 0 _ hz) (by simp)
  rw [List.nil_append] at g3
  have gl : b'.length + 1 = (nb (zz n)).length := by
    have := congrArg List.length g3
    simpa using this
  have e3 : decide ((((List.length b') + 1) * 1) ≤ 70368744177664) = true := decide_eq_true (by omega)
  have e4 : IntKind.wrap .u8 ((s : Nat) : Int) = ((s : Nat) : Int) := by rw [wrapB]; omega
  unfold p17 numG numG
  by_cases h0 : n < 0
  · rw [if_pos (decide_eq_true h0), zig1 h h0]
    simp only [l17_0R, g1, Option.isSome_some, Option.getD_some, e3, e4, ↓reduceIte]
    rw [g3, List.append_nil]
  · rw [if_neg (by simpa using h0), zig0 h h0]
    simp only [l17_0R, g1, Option.isSome_some, Option.getD_some, e3, e4, ↓reduceIte]
    rw [g3, List.append_nil]
def s17 : List AV → Boxes → M (AV × Boxes) := normS [.val (.int .i64)] [] fun xs B => match xs, B with
  | [(.d (.int .i64 c1))], [] => .chk (inR c1) (.ret ((.sr 0 0 (List.length (numG [c1])) 1 none), [(.arr (.int .u8) (numG [c1]) true)]))
  | _, _ => .fail
theorem s17_at : CallAt Try.prog 17 s17 := by
  refine CallAt.norm (CallAt.weakC (g := fun n xs B => padM (.int .u8) 0 (evCall F S8 n 17 xs B)) (fun n => CallAt.pad (.int .u8) 0 (evCall_atH mixed kinds hds S8 S8_ok n 17)) fun xs B r' B' hr => ?_) _ _
  split at hr
  · rename_i c1
    obtain ⟨hp, hr⟩ := (M.run_chk _ _ _).1 hr
    simp only [M.run, Option.some.injEq, Prod.mk.injEq] at hr
    obtain ⟨rfl, rfl⟩ := hr
    obtain ⟨m, hm⟩ := rnum17 c1 hp
    obtain ⟨r, B1, r1, B2, h1, h2, h3, h4, h5, h6⟩ := p17_ok m c1 _ hm
    exact ⟨m + 25, r, B1, r1, B2, h1, by simp, h2, h3, h4, h5, h6⟩
  · simp [M.run] at hr
noncomputable def S9 : FuncId → Option (List AV → Boxes → M (AV × Boxes)) := fun f => if f = 17 then some s17 else S8 f
set_option maxHeartbeats 20000000 in
theorem S9_ok : ∀ f s, S9 f = some s → CallAt Try.prog f s := by
  intro f s h
  unfold S9 at h
  split at h
  · rename_i e; subst e; cases h; exact s17_at
  · exact S8_ok f s h

end Go.Proofs.Ytghkbjflejgieaa.Dec
